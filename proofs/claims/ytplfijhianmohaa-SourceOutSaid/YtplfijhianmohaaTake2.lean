/-
  Contracts of source.Source's Take: taken, and refused by each name.
-/
import Derived.Test.YtplfijhianmohaaTake
namespace Go.Proofs.Ytplfijhianmohaa
open Go.RowKit

theorem Take_ok (hD : DecodeWord) (w0 w : World) (s view size epoch seq acked done : Nat) (L : Value) (os : List (Value × POp)) (h : Src w0 w s view size epoch seq acked done L os) (A : Option Addr) (c q e d : Nat)
    (ha : Rd w A 25 (bys (frBytes 8 view q 0 0 e d []))) (hv : 1 ≤ view ∧ view ≤ 2147483647) (hq : q ≤ seq) (hd : d ≤ q) (he : e ≤ 2147483647) :
    Calls Try.prog 11 #[.pointer (some ⟨s, 0, none⟩), .slice A 25 c] w fun r w' => ∃ L', r = .returned (.int .i64 0) ∧ Src w0 w' s view size epoch seq (max (max done d) q) (max done d) L' (os.drop (max done d - done)) ∧ Keep [s] w w' ∧
      ∀ g ∈ L'.ownBlock.toList, w.heap.size ≤ g := by
  have hlen := h.len
  exact Take_core hD w0 w s view size epoch seq acked done L os h A c q e d ha hv hq hd he (max done d) (max (max done d) q) (by omega) (by omega) (by omega)

section
variable (hD : DecodeWord) (w0 w : World) (s view size epoch seq acked done : Nat) (L : Value) (os : List (Value × POp)) (h : Src w0 w s view size epoch seq acked done L os) (A : Option Addr) (c : Nat)
include hD h

set_option maxHeartbeats 2000000 in
/-- bytes that are no frame -/
theorem Take_bad (n : Nat) (bs : List UInt8) (ha : Rd w A n (bys bs)) (hn : 25 ≤ n) (hn2 : n ≤ 65536) (hno : ¬ ((parse bs).May ∧ (parse bs).bytes = bs)) :
    Calls Try.prog 11 #[.pointer (some ⟨s, 0, none⟩), .slice A n c] w fun r w' => r = .returned (.int .i64 2) ∧ Keep [] w w' := by
  have hT := hD A n c _ w ha hn hn2
  have hfew := h.few
  go_enter Try.func11, Try.ntmps11
  go_wp2_with (
    (refine hT.mono ?_)
    clear hT
    rintro r w1 ⟨hk1, hP⟩
    have hP2 := hP.resolve_left (fun g => hno ⟨g.1, g.2.1⟩)
    obtain ⟨_, rfl⟩ := hP2
    clear hP)
  go_ret
  exact ⟨rfl, hk1.alloc _⟩

set_option maxHeartbeats 2000000 in
/-- a frame of another kind -/
theorem Take_kind (k v q b cc e d : Nat) (data : List UInt8) (n : Nat) (ha : Rd w A n (bys (frBytes k v q b cc e d data))) (hm : FrMay k v q b cc e d data) (hk : k ≠ 8) :
    Calls Try.prog 11 #[.pointer (some ⟨s, 0, none⟩), .slice A n c] w fun r w' => r = .returned (.int .i64 1) ∧ Keep [] w w' := by
  have hb := hm.bounds
  have hl : n = 25 + data.length := by have := ha.1; simpa using this.symm
  have hT := hD A n c _ w ha (by omega) (by omega)
  have hfew := h.few
  have hk8 : (((k : Nat) : Int) != 8) = true := by simp; omega
  have HM := hide hm
  clear hl hb hm
  go_enter Try.func11, Try.ntmps11
  go_wp2_with (
    (refine hT.mono ?_)
    clear hT
    rintro r w1 hP
    obtain ⟨hk1, u, rfl, hu⟩ := DecPost.of_frame (unhide HM) hP
    obtain ⟨UA, uc, rfl, _⟩ := own_form hu)
  go_ret
  exact ⟨rfl, hk1.alloc _⟩

set_option maxHeartbeats 4000000 in
set_option maxRecDepth 20000 in
/-- an answer of another view -/
theorem Take_view (v q e d : Nat) (ha : Rd w A 25 (bys (frBytes 8 v q 0 0 e d []))) (hv : 1 ≤ v ∧ v ≤ 2147483647) (hne : v ≠ view) (hq : q ≤ 2147483647) (hd : d ≤ q) (he : e ≤ 2147483647) :
    Calls Try.prog 11 #[.pointer (some ⟨s, 0, none⟩), .slice A 25 c] w fun r w' => r = .returned (.int .i64 8) ∧ Keep [] w w' := by
  have hT := hD A 25 c _ w ha (by omega) (by omega)
  have hfew := h.few
  have hvv : (((v : Nat) : Int) != (view : Nat)) = true := by simp; omega
  clear hne
  go_enter Try.func11, Try.ntmps11
  go_wp2_with (
    (refine hT.mono ?_)
    clear hT
    rintro r w1 hP
    obtain ⟨hk1, u, rfl, hu⟩ := DecPost.of_frame ⟨by omega, .inr (.inr (.inr (.inl ⟨rfl, by omega, rfl, rfl, by omega, by omega, rfl⟩)))⟩ hP
    obtain ⟨UA, uc, rfl, _⟩ := own_form hu)
  have hkW : Keep [] w (w1.alloc (.cells #[.int .i64 8, .int .i64 v, .int .i64 q, .int .i64 0, .int .i64 0, .int .i64 e, .int .i64 d, .slice UA 0 uc] 54)) := hk1.alloc _
  have hSW := h.keep0 hkW
  have hfr := Blk.new w1 54 #[.int .i64 8, .int .i64 v, .int .i64 q, .int .i64 0, .int .i64 0, .int .i64 e, .int .i64 d, .slice UA 0 uc]
  generalize w1.alloc (.cells #[.int .i64 8, .int .i64 v, .int .i64 q, .int .i64 0, .int .i64 0, .int .i64 e, .int .i64 d, .slice UA 0 uc] 54) = W at *
  generalize w1.heap.size = f5 at *
  obtain ⟨c0, c1, c2, c3, c4, c5, c6⟩ := src_cells hSW.blk
  obtain ⟨e0, e1, e2, e3, e4, e5, e6, e7⟩ := frame_cells hfr
  refine wp_region_ht (fun w' => w'.cell? ⟨f5, 1, none⟩ = some (.int .i64 v) ∧ w'.cell? ⟨s, 0, none⟩ = some (.int .i64 view)) 6 [(0, false), (1, false), (2, false), (3, false), (4, false), (5, false)]
    (by kernel_rfl) (by kernel_rfl) (fun _ _ d _ _ h => by cases d <;> exact h) ⟨e1, c0⟩ ?_
  simp only [picked, List.filterMap_cons, List.filterMap_nil, List.getElem?_cons_zero, List.getElem?_cons_succ, Option.map_some, List.drop_succ_cons, List.drop_zero]
  iterate 6 (refine wpT_held ?_ (by rfl) ?_ ?_; rotate_left; (focus (intro W hW; obtain ⟨hW1, hW2⟩ := hW; go_simp; first | done | with_reducible rfl)); simp only [Act.put, List.setIfInBounds_toArray, List.set_cons_zero, List.set_cons_succ])
  refine wpT_nil ?_
  go_wp2
  go_ret
  exact ⟨rfl, hkW.drew⟩

set_option maxHeartbeats 4000000 in
set_option maxRecDepth 20000 in
/-- an answer of what was never sent -/
theorem Take_seq (q e d : Nat) (ha : Rd w A 25 (bys (frBytes 8 view q 0 0 e d []))) (hv : 1 ≤ view ∧ view ≤ 2147483647) (hq : q ≤ 2147483647) (hqs : seq < q) (hd : d ≤ q) (he : e ≤ 2147483647) :
    Calls Try.prog 11 #[.pointer (some ⟨s, 0, none⟩), .slice A 25 c] w fun r w' => r = .returned (.int .i64 1) ∧ Keep [] w w' := by
  have hT := hD A 25 c _ w ha (by omega) (by omega)
  have hfew := h.few
  go_enter Try.func11, Try.ntmps11
  go_wp2_with (
    (refine hT.mono ?_)
    clear hT
    rintro r w1 hP
    obtain ⟨hk1, u, rfl, hu⟩ := DecPost.of_frame ⟨by omega, .inr (.inr (.inr (.inl ⟨rfl, by omega, rfl, rfl, by omega, by omega, rfl⟩)))⟩ hP
    obtain ⟨UA, uc, rfl, _⟩ := own_form hu)
  have hkW : Keep [] w (w1.alloc (.cells #[.int .i64 8, .int .i64 view, .int .i64 q, .int .i64 0, .int .i64 0, .int .i64 e, .int .i64 d, .slice UA 0 uc] 54)) := hk1.alloc _
  have hSW := h.keep0 hkW
  have hfr := Blk.new w1 54 #[.int .i64 8, .int .i64 view, .int .i64 q, .int .i64 0, .int .i64 0, .int .i64 e, .int .i64 d, .slice UA 0 uc]
  generalize w1.alloc (.cells #[.int .i64 8, .int .i64 view, .int .i64 q, .int .i64 0, .int .i64 0, .int .i64 e, .int .i64 d, .slice UA 0 uc] 54) = W at *
  generalize w1.heap.size = f5 at *
  obtain ⟨c0, c1, c2, c3, c4, c5, c6⟩ := src_cells hSW.blk
  obtain ⟨e0, e1, e2, e3, e4, e5, e6, e7⟩ := frame_cells hfr
  refine wp_region_ht (fun w' => w'.cell? ⟨f5, 1, none⟩ = some (.int .i64 view) ∧ w'.cell? ⟨s, 0, none⟩ = some (.int .i64 view)) 6 [(0, false), (1, false), (2, false), (3, false), (4, false), (5, false)]
    (by kernel_rfl) (by kernel_rfl) (fun _ _ d _ _ h => by cases d <;> exact h) ⟨e1, c0⟩ ?_
  simp only [picked, List.filterMap_cons, List.filterMap_nil, List.getElem?_cons_zero, List.getElem?_cons_succ, Option.map_some, List.drop_succ_cons, List.drop_zero]
  iterate 6 (refine wpT_held ?_ (by rfl) ?_ ?_; rotate_left; (focus (intro W hW; obtain ⟨hW1, hW2⟩ := hW; go_simp; first | done | with_reducible rfl)); simp only [Act.put, List.setIfInBounds_toArray, List.set_cons_zero, List.set_cons_succ])
  refine wpT_nil ?_
  go_wp2
  refine wp_region_ht (fun w' => w'.cell? ⟨f5, 2, none⟩ = some (.int .i64 q) ∧ w'.cell? ⟨s, 3, none⟩ = some (.int .i64 seq)) 6 [(0, false), (1, false), (2, false), (3, false), (4, false), (5, false)]
    (by kernel_rfl) (by kernel_rfl) (fun _ _ d _ _ h => by cases d <;> exact h) ⟨e2, c3⟩ ?_
  simp only [picked, List.filterMap_cons, List.filterMap_nil, List.getElem?_cons_zero, List.getElem?_cons_succ, Option.map_some, List.drop_succ_cons, List.drop_zero]
  iterate 6 (refine wpT_held ?_ (by rfl) ?_ ?_; rotate_left; (focus (intro W hW; obtain ⟨hW1, hW2⟩ := hW; go_simp; first | done | with_reducible rfl)); simp only [Act.put, List.setIfInBounds_toArray, List.set_cons_zero, List.set_cons_succ])
  refine wpT_nil ?_
  go_wp2
  go_ret
  exact ⟨rfl, hkW.drew.drew⟩
end
end Go.Proofs.Ytplfijhianmohaa
