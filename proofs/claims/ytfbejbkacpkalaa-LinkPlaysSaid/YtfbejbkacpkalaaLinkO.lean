/-
  LinkOrder: the walk.
-/
import Derived.Test.YtfbejbkacpkalaaAwake
namespace Go.Proofs.Ytfbejbkacpkalaa
open Go.RowKit

theorem Lnk.bv_lt {w0 w : World} {b : Nat} {v : Value} {ls : List (Value × List UInt8)} (h : Lnk w0 w b v ls) : ∀ x ∈ b :: v.ownBlock.toList, x < w.heap.size := fun x hx => by
  rcases List.mem_cons.1 hx with rfl | hx
  · exact h.lk.blk.lt
  · exact (own_mem h.lk.row hx).2

/-- one frame of one byte, laid anew, is sent -/
theorem Send_byte (w0 w : World) (b : Nat) (v : Value) (ls : List (Value × List UInt8)) (h : Lnk w0 w b v ls) (x : UInt8) (a : Int) (ha : a = x.toNat) (m : Nat) (hm : ls.length = m) (hroom : m < 64) :
    Calls Try.prog 10 #[.pointer (some ⟨b, 0, none⟩), .slice (some ⟨w.heap.size + 1, 0, none⟩) 1 1]
      ((w.alloc (.cells #[.int .u8 a] 5)).alloc (.cells #[.slice (some ⟨w.heap.size, 0, none⟩) 1 1] 28))
      fun e w' => ∃ v' ls', e = .returned (.int .i64 (m + 1)) ∧ Lnk w0 w' b v' ls' ∧ ls'.length = m + 1 ∧ ls'.map (·.2) = ls.map (·.2) ++ [[x]] := by
  have hk : Keep [] w ((w.alloc (.cells #[.int .u8 a] 5)).alloc (.cells #[.slice (some ⟨w.heap.size, 0, none⟩) 1 1] 28)) := ((Keep.refl _ _).alloc _).alloc _
  have hlt := h.bv_lt
  refine (Send_own w0 _ b _ _ (h.keep0 hk) _ 1 1 _ (rws_new1 w x a ha) ?_ ?_ (by omega)).mono ?_
  · intro p e; cases e; intro hm; have := hlt _ hm; simp at this; omega
  · intro p hp g hg hm
    obtain rfl := by simpa using hp
    have := hlt _ hm
    simp [Value.ownBlock] at hg
    omega
  · rintro e w' ⟨v', ls', rfl, hL, hmap, _⟩
    have hmap' : ls'.map (·.2) = ls.map (·.2) ++ [[x]] := by
      rw [hmap]
      unfold sendM
      rw [List.take_of_length_le]
      · rfl
      · simp; omega
    have hl : ls'.length = m + 1 := by
      have := congrArg List.length hmap'
      simpa [hm] using this
    exact ⟨v', ls', by rw [hl]; rfl, hL, hl, hmap'⟩

theorem Lnk.far {w0 w : World} {b : Nat} {v : Value} {ls : List (Value × List UInt8)} (h : Lnk w0 w b v ls) {g : Nat} {t : TypeId} {cs : Array Value} (hg : Blk w g t cs) (hn : w0.heap.size ≤ g)
    (h1 : t ≠ 53) (h2 : t ≠ 28) (h3 : t ≠ 5) (o : Nat) (u : Value) : Lnk w0 (w.setCell ⟨g, o, none⟩ u) b v ls := by
  refine ⟨⟨?_, ?_, ?_, h.lk.small, h.lk.nodup, h.lk.few⟩, h.new, h.keep.setCell (.inr hn) u⟩
  · exact h.lk.blk.far (fun e => Blk.ne_ h.lk.blk hg (Ne.symm h1) e) u
  · exact own_set h.lk.row (fun hm => own_blk_ne h.lk.row hg (Ne.symm h2) (by simpa using hm)) u
  · intro p hp
    exact own_set (h.lk.own p hp) (fun hm => own_blk_ne (h.lk.own p hp) hg (Ne.symm h3) (by simpa using hm)) u

theorem own_one {w : World} {base : Nat} {u : Value} {x : UInt8} (h : w.ownsRow base 5 1 u [x].length (bys [x])) :
    ∃ g c, u = .slice (some ⟨g, 0, none⟩) 1 c ∧ w.cell? ⟨g, 0, none⟩ = some (.int .u8 x.toNat) := by
  rcases h.2 with ⟨_, h0⟩ | ⟨g, c, cur, rfl, _, hg, hn, _, hs, ht⟩
  · simp at h0
  · refine ⟨g, c, rfl, ?_⟩
    rw [Blk.cell (t := 5) hg]
    have h1 : (cur.toList.take ([x].length * 1))[0]? = some (by8 x) := by rw [ht]; rfl
    simpa [by8] using h1
theorem Lk.far_blk {w : World} {b : Nat} {v : Value} {ls : List (Value × List UInt8)} (h : Lk w b v ls) {g : Nat} {t : TypeId} {cs : Array Value} (hg : Blk w g t cs)
    (h1 : t ≠ 53) (h2 : t ≠ 28) : g ∉ b :: v.ownBlock.toList := by
  simp only [List.mem_cons, not_or]
  exact ⟨fun e => Blk.ne_ h.blk hg (Ne.symm h1) e.symm, fun hm => own_blk_ne h.row hg (Ne.symm h2) (by simpa using hm)⟩

/-- rows of one byte -/
def ones (L : List Nat) : List (List UInt8) := L.map fun j => [UInt8.ofNat j]
/-- which of k were taken -/
def marks (k : Nat) (L : List Nat) : Array Value := ((List.range 41).map fun j => Value.bool (decide (j < k ∧ j ∉ L))).toArray
@[simp] theorem size_marks (k : Nat) (L : List Nat) : (marks k L).size = 41 := by simp [marks]
theorem marks_get (k : Nat) (L : List Nat) (j : Nat) (h : j < 41) : (marks k L)[j]? = some (.bool (decide (j < k ∧ j ∉ L))) := by
  simp [marks, h]
theorem marks_all (k : Nat) : marks k (List.range k) = Array.replicate 41 (.bool false) := by
  unfold marks
  rw [← List.toArray_replicate]
  congr 1
  rw [List.eq_replicate_iff]
  refine ⟨by simp, ?_⟩
  intro x hx
  obtain ⟨j, _, rfl⟩ := List.mem_map.1 hx
  congr 1
  simp only [List.mem_range, decide_eq_false_iff_not]
  omega
theorem marks_take (k : Nat) (L : List Nat) (hs : L.Pairwise (· < ·)) (hL : ∀ x ∈ L, x < k) (i : Nat) (hi : i < L.length) (hk : k ≤ 41) :
    (marks k L).setIfInBounds L[i] (.bool true) = marks k (L.eraseIdx i) := by
  apply Array.ext_getElem?
  intro j
  rw [Array.getElem?_setIfInBounds]
  have hl : L[i] < k := hL _ (List.getElem_mem hi)
  have hnd : L.Nodup := hs.imp (fun h => Nat.ne_of_lt h)
  rcases Nat.lt_or_ge j 41 with hj | hj
  · rw [marks_get _ _ _ hj, marks_get _ _ _ hj, size_marks]
    split
    · subst_vars
      rw [if_pos (by omega)]
      have : L[i] ∉ L.eraseIdx i := by
        intro hm
        rw [List.mem_eraseIdx_iff_getElem] at hm
        obtain ⟨m, hm, hne, he⟩ := hm
        exact hne ((List.getElem_inj hnd).1 he)
      simp [hl, this]
    · rename_i hne
      congr 3
      have : j ∈ L.eraseIdx i ↔ j ∈ L := by
        refine ⟨List.mem_of_mem_eraseIdx, fun hm => ?_⟩
        obtain ⟨m, hml, rfl⟩ := List.mem_iff_getElem.1 hm
        rw [List.mem_eraseIdx_iff_getElem]
        exact ⟨m, hml, by rintro rfl; exact hne rfl, rfl⟩
      simp [this]
  · have h1 : (marks k L)[j]? = none := by simp [hj]
    have h2 : (marks k (L.eraseIdx i))[j]? = none := by simp [hj]
    rw [h1, h2]
    split
    · omega
    · rfl
end Go.Proofs.Ytfbejbkacpkalaa
