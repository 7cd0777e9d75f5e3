/-
  Contracts of row.Row: numbers and bytes in a row.
-/
import Derived.Test.YtplfijhianmohaaOwn
import Derived.Test.YtplfijhianmohaaPart
import Derived.Outline
namespace Go.Proofs.Ytplfijhianmohaa
open Go.RowKit

/-- The row at block r: its bytes, and its place. -/
structure RowAt (w : World) (base r : Nat) (v : Value) (bs : List UInt8) (a : Nat) : Prop where
  blk : Blk w r 97 #[v, .int .i64 a]
  own : w.ownsRow base 5 1 v bs.length (bys bs)
  base : base ≤ r
  le : a ≤ bs.length
  few : bs.length ≤ 65536
namespace RowAt
variable {w w' : World} {base r a : Nat} {v : Value} {bs : List UInt8}
theorem keep0 (h : RowAt w base r v bs a) (hk : Keep [] w w') : RowAt w' base r v bs a := ⟨h.blk.keep0 hk, own_keep0 h.own hk, h.base, h.le, h.few⟩
theorem drew (h : RowAt w base r v bs a) : RowAt w.drew base r v bs a := h.keep0 (Keep.refl _ _).drew
theorem not_mem (h : RowAt w base r v bs a) : r ∉ v.ownBlock.toList := fun hm => own_blk_ne h.own h.blk (by decide) (by simpa using hm)
theorem c0 (h : RowAt w base r v bs a) : w.cell? ⟨r, 0, none⟩ = some v := by simpa using h.blk.cell 0
theorem c1 (h : RowAt w base r v bs a) : w.cell? ⟨r, 1, none⟩ = some (.int .i64 a) := by simpa using h.blk.cell 1
theorem fresh (h : RowAt w base r v bs a) : ∀ x ∈ r :: v.ownBlock.toList, base ≤ x := fun x hx => by
  rcases List.mem_cons.1 hx with rfl | hx
  · exact h.base
  · exact (own_mem h.own hx).1
/-- the place moves -/
theorem move (h : RowAt w base r v bs a) (b : Nat) (hb : b ≤ bs.length) : RowAt (w.setCell ⟨r, 1, none⟩ (.int .i64 b)) base r v bs b :=
  ⟨by have := h.blk.set 1 (.int .i64 b); simpa using this, own_set h.own h.not_mem _, h.base, hb, h.few⟩
end RowAt

theorem New_any (n : Nat) (hn : n ≤ 65536) (w : World) :
    Calls Try.prog 53 #[.int .i64 (n : Nat)] w fun e w' => ∃ r v, e = .returned (.pointer (some ⟨r, 0, none⟩)) ∧ RowAt w' w.heap.size r v (List.replicate n 0) 0 ∧ Keep [] w w' := by
  go_enter Try.func53, Try.ntmps53
  go_wp2_with (at_make; refine elem8.wp_make rfl _ _ rfl .i64 .i64 n n n rfl rfl rfl rfl (by omega) (by omega) ?_)
  go_ret
  have hb := Blk.new (w.alloc (.cells (Array.replicate n (.int .u8 0)) 5)) 97 #[.slice (some ⟨w.heap.size, 0, none⟩) n n, .int .i64 0]
  rw [show (w.alloc (.cells (Array.replicate n (.int .u8 0)) 5)).heap.size = w.heap.size + 1 by simp] at hb
  have ho : (w.alloc (.cells (Array.replicate n (.int .u8 0)) 5)).ownsRow w.heap.size 5 1 (.slice (some ⟨w.heap.size, 0, none⟩) n n) n (bys (List.replicate n 0)) :=
    own_full (Blk.new w 5 (Array.replicate n (.int .u8 0))) (Nat.le_refl _) (by omega) (by simp) (by simp [bys, by8])
  exact ⟨_, _, rfl, ⟨hb, by rw [List.length_replicate]; exact own_alloc ho _, by omega, Nat.zero_le _, by simpa using hn⟩, ((Keep.refl _ _).alloc _).alloc _⟩

theorem From_any (A : Option Addr) (n c : Nat) (bs : List UInt8) (w : World) (ha : Rd w A n (bys bs)) (hn : n ≤ 65536) :
    Calls Try.prog 39 #[.slice A n c] w fun e w' => ∃ r v, e = .returned (.pointer (some ⟨r, 0, none⟩)) ∧ RowAt w' w.heap.size r v bs 0 ∧ Keep [] w w' := by
  have hl : bs.length = n := by simpa using ha.1
  have hT := Clone_any A n c bs w ha (by omega)
  have HL := hide hl
  clear hl
  go_enter Try.func39, Try.ntmps39
  go_wp2_with (refine hT.mono ?_; clear hT; rintro e w' ⟨v, rfl, hv, hk, _⟩; obtain ⟨VA, vc, rfl, _⟩ := own_form hv)
  go_ret
  have h1 := hk.size
  have hl := unhide HL
  subst hl
  exact ⟨_, _, rfl, ⟨Blk.new _ _ _, own_alloc hv _, h1, Nat.zero_le _, by omega⟩, hk.alloc _⟩

theorem Left_any (w : World) (base r a : Nat) (v : Value) (bs : List UInt8) (h : RowAt w base r v bs a) :
    Calls Try.prog 42 #[.pointer (some ⟨r, 0, none⟩)] w fun e w' => e = .returned (.int .i64 ((bs.length : Nat) - (a : Nat) : Int)) ∧ w.drew = w' := by
  obtain ⟨A, c, rfl, _⟩ := own_form h.own
  have h0 := h.c0
  have h1 := h.c1
  have hle := h.le
  have hfew := h.few
  go_enter Try.func42, Try.ntmps42
  go_wp2
  refine wp_region_ht (fun w' => w'.cell? ⟨r, 0, none⟩ = some (.slice A bs.length c) ∧ w'.cell? ⟨r, 1, none⟩ = some (.int .i64 a)) 9 [(0, false), (1, false), (2, false), (3, false), (4, false), (5, false), (6, false), (7, false), (8, false)]
    (by kernel_rfl) (by kernel_rfl) (fun _ _ d _ _ h => by cases d <;> exact h) ⟨h0, h1⟩ ?_
  simp only [picked, List.filterMap_cons, List.filterMap_nil, List.getElem?_cons_zero, List.getElem?_cons_succ, Option.map_some, List.drop_succ_cons, List.drop_zero]
  iterate 9 (refine wpT_held ?_ (by rfl) ?_ ?_; rotate_left; (focus (intro W hW; obtain ⟨hW1, hW2⟩ := hW; go_simp; first | done | with_reducible rfl)); simp only [Act.put, List.setIfInBounds_toArray, List.set_cons_zero, List.set_cons_succ])
  refine wpT_nil ?_
  go_wp2
  go_ret
  exact ⟨rfl, rfl⟩

theorem wide_any (k : Nat) (hk : k = 1 ∨ k = 2 ∨ k = 4) (w : World) : Calls Try.prog 59 #[.int .i64 (k : Nat)] w fun e w' => e = .returned (.bool true) ∧ w = w' := by
  rcases hk with rfl | rfl | rfl
  all_goals
    go_enter Try.func59, Try.ntmps59
    go_wp2
    go_ret
    exact ⟨rfl, rfl⟩

theorem Bytes_row (w : World) (base r a : Nat) (v : Value) (bs : List UInt8) (h : RowAt w base r v bs a) :
    Calls Try.prog 57 #[.pointer (some ⟨r, 0, none⟩)] w fun e w' => ∃ u, e = .returned u ∧ w'.ownsRow w.heap.size 5 1 u bs.length (bys bs) ∧ Keep [] w w' := by
  obtain ⟨A, c, rfl, _⟩ := own_form h.own
  have h0 := h.c0
  have hfew := h.few
  have hT := Clone_any A bs.length c bs w (Rd.of_own h.own) (by omega)
  go_enter Try.func57, Try.ntmps57
  go_wp2_with (refine hT.mono ?_; clear hT; rintro e w' ⟨v, rfl, hv, hk, _⟩)
  go_ret
  exact ⟨_, rfl, hv, hk⟩
end Go.Proofs.Ytplfijhianmohaa
