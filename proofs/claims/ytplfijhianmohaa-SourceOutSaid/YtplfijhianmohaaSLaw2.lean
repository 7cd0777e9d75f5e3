/-
  What goes out: just the next so many ops behind what was acknowledged.
-/
import Derived.Test.YtplfijhianmohaaSLaw
namespace Go.Proofs.Ytplfijhianmohaa
open Go.RowKit

theorem outRows_none (view acked size : Nat) : ∀ (n : Nat) (l : List POp), acked + size < n → outRows view acked size n l = []
  | _, [], _ => by simp [outRows]
  | n, o :: l, h => by
    rw [outRows, if_pos (.inr h), List.nil_append, outRows_none view acked size (n + 1) l (by omega)]
theorem outRows_take (view acked size : Nat) : ∀ (n : Nat) (l : List POp), acked < n → n ≤ acked + size + 1 → outRows view acked size n l = (List.range (min (acked + size + 1 - n) l.length)).map (fun k => frB view (n + k) (l.getD k ⟨0, 0, 0, 0, []⟩))
  | _, [], _, _ => by simp [outRows]
  | n, o :: l, h, h' => by
    rcases Nat.lt_or_ge (acked + size) n with h1 | h1
    · rw [outRows_none _ _ _ _ _ h1, show acked + size + 1 - n = 0 by omega]; simp
    · rw [outRows, if_neg (by omega), outRows_take view acked size (n + 1) l (by omega) (by omega)]
      obtain ⟨q, hq⟩ : ∃ q, acked + size + 1 - n = q + 1 := ⟨acked + size - n, by omega⟩
      rw [hq, show acked + size + 1 - (n + 1) = q by omega, List.length_cons, show min (q + 1) (l.length + 1) = min q l.length + 1 by omega, List.range_succ_eq_map, List.map_cons, List.map_map]
      simp only [List.getD_cons_zero, Nat.add_zero, List.cons_append, List.nil_append, List.cons.injEq, true_and]
      apply List.map_congr_left
      intro k _
      simp only [Function.comp, List.getD_cons_succ]
      rw [show n + 1 + k = n + (k + 1) by omega]
theorem outRows_skip (view acked size : Nat) : ∀ (n : Nat) (l : List POp), n ≤ acked + 1 → outRows view acked size n l = outRows view acked size (acked + 1) (l.drop (acked + 1 - n))
  | _, [], _ => by simp [outRows]
  | n, o :: l, h => by
    rcases Nat.lt_or_ge acked n with h1 | h1
    · rw [show n = acked + 1 by omega]; simp
    · rw [outRows, if_pos (.inl h1), List.nil_append, outRows_skip view acked size (n + 1) l (by omega), show acked + 1 - n = (acked + 1 - (n + 1)) + 1 by omega, List.drop_succ_cons]
theorem outRows_are (view acked size : Nat) (l : List POp) : outRows view acked size 1 l = (List.range (min size (l.length - acked))).map (fun k => frB view (acked + 1 + k) (l.getD (acked + k) ⟨0, 0, 0, 0, []⟩)) := by
  rw [outRows_skip _ _ _ _ _ (by omega), outRows_take _ _ _ _ _ (by omega) (by omega), show acked + size + 1 - (acked + 1) = size by omega, List.length_drop, show acked + 1 - 1 = acked by omega]
  apply List.map_congr_left
  intro k _
  rw [List.getD_eq_getElem?_getD, List.getElem?_drop, ← List.getD_eq_getElem?_getD]
/-- what goes out at a place -/
theorem out_at {view acked size : Nat} {l : List POp} {us : List (Value × List UInt8)} (h : us.map Prod.snd = outRows view acked size (0 + 1) l) :
    us.length = min size (l.length - acked) ∧ ∀ j, j < us.length → ∃ o p, us[j]? = some p ∧ l[acked + j]? = some o ∧ p.2 = frB view (acked + 1 + j) o := by
  rw [show 0 + 1 = 1 from rfl, outRows_are] at h
  have hl : us.length = min size (l.length - acked) := by
    have := congrArg List.length h
    simpa using this
  refine ⟨hl, fun j hj => ?_⟩
  have h1 := congrArg (fun x : List (List UInt8) => x[j]?) h
  have hlj : acked + j < l.length := by omega
  simp only [List.getElem?_map, List.getElem?_range (show j < min size (l.length - acked) by omega), List.getElem?_eq_getElem hj, Option.map_some, Option.some.injEq] at h1
  refine ⟨l[acked + j], us[j], by simp [hj], by simp [hlj], ?_⟩
  rw [h1, List.getD_eq_getElem?_getD, List.getElem?_eq_getElem hlj]
  rfl
end Go.Proofs.Ytplfijhianmohaa
