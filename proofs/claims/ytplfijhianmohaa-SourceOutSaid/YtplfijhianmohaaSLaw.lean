/-
  Plain laws for the walks of the Source statements: what 'said' says may go out; an ack with one bit turned is no frame.
-/
import Derived.Test.YtplfijhianmohaaAwakeS
import Derived.Test.YtplfijhianmohaaSaid2
import Derived.Test.YtplfijhianmohaaTurned
namespace Go.Proofs.Ytplfijhianmohaa
open Go.RowKit

theorem saidOp_may (z : Int) (i ep view q : Nat) (hv : 1 ≤ view ∧ view ≤ 2147483647) (hq : 1 ≤ q ∧ q ≤ 1000000) (he : ep ≤ 1000000) :
    FrMay (saidOp z i ep).1.k view (q : Nat) (saidOp z i ep).1.b (saidOp z i ep).1.c (saidOp z i ep).1.e 0 (saidOp z i ep).1.d ∧ (saidOp z i ep).1.k ≠ 8 ∧ (saidOp z i ep).1.k ≠ 9 := by
  unfold saidOp
  split
  · refine ⟨⟨by omega, .inr (.inr (.inl ⟨rfl, by omega, rfl, rfl, ?_, rfl, rfl⟩))⟩, ?_, ?_⟩ <;> dsimp only <;> omega
  · split
    · refine ⟨⟨by omega, .inr (.inl ⟨rfl, by omega, ?_, ?_, rfl, rfl, rfl⟩)⟩, ?_, ?_⟩ <;> dsimp only <;> omega
    · refine ⟨⟨by omega, .inl ⟨rfl, by omega, ?_, rfl, rfl, rfl, ?_⟩⟩, ?_, ?_⟩ <;> first | simp; done | (dsimp only; omega)
theorem saidUp_at (zs : List Int) (n i : Nat) (h : i < n) : (saidUp zs n).1[i]? = some (saidOp (zs.getD i 0) i (saidUp zs i).2).1 := by
  induction n with
  | zero => omega
  | succ n ih =>
    simp only [saidUp]
    rcases Nat.lt_or_ge i n with h1 | h1
    · rw [List.getElem?_append_left (by rw [saidUp_len]; exact h1)]; exact ih h1
    · obtain rfl : i = n := by omega
      rw [List.getElem?_append_right (by rw [saidUp_len]; omega), saidUp_len, Nat.sub_self]
      rfl
theorem saidUp_may (zs : List Int) (n view : Nat) (hn : n ≤ 60) (hv : 1 ≤ view ∧ view ≤ 2147483647) (d i : Nat) (o : POp) (h : ((saidUp zs n).1.drop d)[i]? = some o) :
    FrMay o.k view ((d + 1 + i : Nat) : Int) o.b o.c o.e 0 o.d ∧ o.k ≠ 8 ∧ o.k ≠ 9 := by
  rw [List.getElem?_drop] at h
  have hl := (List.getElem?_eq_some_iff.1 h).1
  rw [saidUp_len] at hl
  rw [saidUp_at zs n _ hl] at h
  have := saidUp_ep zs (d + i)
  obtain rfl := Option.some.inj h
  exact saidOp_may _ _ _ view (d + 1 + i) hv (by omega) (by omega)

theorem xor_bit (c : UInt8) (j : Nat) (hj : j < 8) (q : Nat) : (c ^^^ UInt8.ofNat (2 ^ j)).toNat.testBit q = (c.toNat.testBit q ^^ decide (j = q)) := by
  rw [UInt8.toNat_xor, Nat.testBit_xor]
  have h : (UInt8.ofNat (2 ^ j)).toNat = 2 ^ j := by
    have : 2 ^ j < 256 := by
      have := Nat.pow_lt_pow_right (a := 2) (by omega) hj
      simpa using this
    simp [Nat.mod_eq_of_lt this]
  rw [h, Nat.testBit_two_pow]
@[simp] theorem length_turn1 (bs : List UInt8) (f : Nat) : (turn1 bs f).length = bs.length := by simp [turn1]

theorem turned_bad (k v s b c e d f : Nat) (hf : f < 200) :
    ¬ ((parse (turn1 (frBytes k v s b c e d []) f)).May ∧ (parse (turn1 (frBytes k v s b c e d []) f)).bytes = turn1 (frBytes k v s b c e d []) f) := by
  rintro ⟨_, h⟩
  obtain ⟨y, hy⟩ : ∃ y, y = frBytes k v s b c e d [] := ⟨_, rfl⟩
  have hyl : y.length = 25 := by rw [hy]; simp
  have hy2 : y = y.take 21 ++ le 4 (crcSum (y.take 21)) := by
    rw [hy, frBytes, List.take_left' (by simp)]
  rw [← hy] at h
  have hi : f / 8 < 25 := by omega
  have hj : f % 8 < 8 := by omega
  obtain ⟨x, hx⟩ : ∃ x, x = turn1 y f := ⟨_, rfl⟩
  have hxl : x.length = 25 := by rw [hx, length_turn1, hyl]
  rw [← hx] at h
  have hx2 : x = x.take 21 ++ le 4 (crcSum (x.take 21)) := by
    have hd : (parse x).data = [] := by simp [parse, hxl]
    rw [Fr.bytes, hd, frBytes] at h
    have hB : (frBody (parse x).k (parse x).v (parse x).s (parse x).b (parse x).c (parse x).e (parse x).d []).length = 21 := by simp
    generalize frBody (parse x).k (parse x).v (parse x).s (parse x).b (parse x).c (parse x).e (parse x).d [] = B at h hB
    rw [← h, List.take_left' hB]
  have hc : y.getD (f / 8) 0 = y[f / 8]'(by omega) := by rw [List.getD_eq_getElem?_getD, List.getElem?_eq_getElem (by omega), Option.getD_some]
  rw [turn1, hc] at hx
  rcases Nat.lt_or_ge (f / 8) 21 with h1 | h1
  · have e1 : x.drop 21 = y.drop 21 := by rw [hx, List.drop_set_of_lt (by omega)]
    have e2 : x.take 21 = (y.take 21).set (f / 8) (y[f / 8]'(by omega) ^^^ UInt8.ofNat (2 ^ (f % 8))) := by rw [hx, List.take_set]
    have e3 : le 4 (crcSum (x.take 21)) = le 4 (crcSum (y.take 21)) := by
      have a1 : x.drop 21 = le 4 (crcSum (x.take 21)) := by
        conv => lhs; rw [hx2]
        rw [List.drop_left' (by simp; omega)]
      have a2 : y.drop 21 = le 4 (crcSum (y.take 21)) := by
        conv => lhs; rw [hy2]
        rw [List.drop_left' (by simp; omega)]
      rw [← a1, ← a2, e1]
    have e4 : crcSum (x.take 21) = crcSum (y.take 21) := by
      have := congrArg num e3
      rwa [num_le _ _ (crcSum_lt _), num_le _ _ (crcSum_lt _)] at this
    rw [e2] at e4
    refine crcSum_turned (y.take 21) (f / 8) (f % 8) (by simp; omega) hj _ ?_ ?_ e4
    · intro q hq
      rw [xor_bit _ _ hj, List.getElem_take, decide_eq_false (fun h => hq h.symm), Bool.xor_false]
    · rw [xor_bit _ _ hj, List.getElem_take, decide_eq_true rfl, Bool.xor_true]
      simp
  · have e1 : x.take 21 = y.take 21 := by rw [hx, List.take_set, List.set_eq_of_length_le (by simp; omega)]
    have e2 : x = y := by rw [hx2, hy2, e1]
    have e3 : x[f / 8]? = y[f / 8]? := by rw [e2]
    rw [hx, List.getElem?_set_self (by omega), List.getElem?_eq_getElem (by omega), Option.some.injEq] at e3
    have e4 := congrArg (fun c : UInt8 => c.toNat.testBit (f % 8)) e3
    simp only [xor_bit _ _ hj] at e4
    simp at e4
end Go.Proofs.Ytplfijhianmohaa
