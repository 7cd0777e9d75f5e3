/-
  Contracts: slices.Delete, slices.Insert of one element, at rows of bytes.
-/
import Derived.Test.YtfbejbkacpkalaaLaw2
import Derived.Test.YtfbejbkacpkalaaPart
import Derived.Test.YtfbejbkacpkalaaRegion
namespace Go.Proofs.Ytfbejbkacpkalaa
open Go.RowKit


/-- row g of n values holds 'xs' ahead -/
def Held (g n c : Nat) (xs : List Value) (w w' : World) : Prop :=
  ∃ cur' : List Value, Blk w' g 28 cur'.toArray ∧ cur'.length = c ∧ cur'.take n = xs ∧ Keep [g] w w'

theorem Held.keep {g n c : Nat} {xs : List Value} {w w' : World} (h : Held g n c xs w w') : Keep [g] w w' := h.elim fun _ h => h.2.2.2

set_option maxHeartbeats 1000000 in
theorem Delete_any (g n c : Nat) (cur : List Value) (i : Int) (w : World) (hg : Blk w g 28 cur.toArray) (hc : cur.length = c) (hn : n ≤ c) (hc63 : c ≤ 9223372036854775807) (h0 : 0 ≤ i) (hi : i < n) (h1 : ∀ u ∈ cur.take n, u.oneCell' = true) :
    Calls Try.prog 26 #[.slice (some ⟨g, 0, none⟩) n c, .int .i64 i, .int .i64 (i + 1)] w fun e w' => e = .returned (.slice (some ⟨g, 0, none⟩) (n - 1) c) ∧ Held g (n - 1) c ((cur.take n).eraseIdx i.toNat) w w' := by
  obtain ⟨k, rfl⟩ := Int.eq_ofNat_of_zero_le h0
  have hkn : k < n := by omega
  have hne : ((k : Int) == (k : Int) + 1) = false := by rw [beq_eq_false_iff_ne]; omega
  have hkc : k ≤ c := by omega
  have HC := hide hc
  clear hc
  go_enter Try.func26, Try.ntmps26
  go_wp2
  refine wp_region_ht (fun _ => True) 6 [(0, false), (1, false), (2, false), (3, false), (4, false), (5, false)]
    (by kernel_rfl) (by kernel_rfl) (fun _ _ d _ _ h => by cases d <;> exact h) trivial ?_
  simp only [picked, List.filterMap_cons, List.filterMap_nil, List.getElem?_cons_zero, List.getElem?_cons_succ, Option.map_some, List.drop_succ_cons, List.drop_zero]
  iterate 5 (refine wpT_held ?_ (by rfl) ?_ ?_; rotate_left; (focus (intro W hW; go_simp; first | done | with_reducible rfl)); simp only [Act.put, List.setIfInBounds_toArray, List.set_cons_zero, List.set_cons_succ])
  refine wpT_held (.slice (cutA (some ⟨g, 0, none⟩) (k + 1) c) (n - (k + 1)) (c - (k + 1))) (by rfl) (fun W _ => exec_slice_of (.tmp 23) (some (.tmp 24)) none rfl _ ?hrun) ?_
  case hrun =>
    have := elemRows.run_l (some ⟨g, 0, none⟩) n c .i64 ((k : Int) + 1) (by omega) (by omega) W
    rw [show ((k : Int) + 1).toNat = k + 1 from by omega] at this
    exact this
  simp only [Act.put, List.setIfInBounds_toArray, List.set_cons_zero, List.set_cons_succ]
  refine wpT_nil ?_
  have hxr : Rd w (cutA (some ⟨g, 0, none⟩) (k + 1) c) (n - (k + 1)) ((cur.take n).drop (k + 1)) := by
    have h2 := Rd.of_blk (n := n) hg (by simp; rw [unhide HC]; exact hn)
    exact (h2.cutA (k := k + 1) (cap := c) (by omega) hn)
  have hone : ∀ u ∈ (cur.take n).drop (k + 1), u.oneCell' = true := fun u hu => h1 u (List.mem_of_mem_drop hu)
  have hcl : c ≤ cur.length := by rw [unhide HC]; exact Nat.le_refl _
  have hl1 : (cur.take k ++ (cur.take n).drop (k + 1) ++ cur.drop (k + (n - (k + 1)))).length = c := by
    have := unhide HC
    simp; omega
  obtain ⟨cur1, hcur1⟩ : ∃ x, x = cur.take k ++ (cur.take n).drop (k + 1) ++ cur.drop (k + (n - (k + 1))) := ⟨_, rfl⟩
  rw [← hcur1] at hl1
  have hkm : k + (n - (k + 1)) = n - 1 := by omega
  have HK := hide hkm
  have H1 := hide hcur1
  have HL := hide hl1
  clear hcur1 hl1 hkm
  refine elemRows.wp_room rfl (.tmp 22) (.tmp 25) rfl g k c cur rfl hg.drew hcl _ (n - (k + 1)) _ _ rfl hxr.drew hone (by omega) ?_
  rw [← unhide H1, unhide HK]
  intro w2 hb2 hk2
  go_wp2
  obtain ⟨w3, hrun, hb3, hk3⟩ := elemRows.run_clear w2 0 (some ⟨g, n - 1, none⟩) (n - (n - 1)) (c - (n - 1)) g (n - 1) cur1 _ hb2 (fun _ => rfl) (by have := unhide HL; omega) rfl
  rw [hrun]
  go_wp2
  go_ret
  have hl := unhide HL
  have h1 := unhide H1
  have hc := unhide HC
  refine ⟨rfl, _, hb3, ?_, ?_, (Keep.ofDrewN (l := [g]) 1 : Keep [g] w w.drew).trans (hk2.trans hk3 (fun _ hx => .inl hx)) (fun _ hx => .inl hx)⟩
  · simp [splice]; omega
  · rw [splice, List.take_append_of_le_length (by simp; omega), List.take_take, Nat.min_self, h1,
      List.take_append_of_le_length (by simp; omega), List.take_of_length_le (by simp; omega), List.eraseIdx_eq_take_drop_succ, List.take_take]
    simp only [Int.toNat_natCast]
    rw [Nat.min_eq_left (by omega)]
end Go.Proofs.Ytfbejbkacpkalaa
