/-
  Contracts of source.Source: New, what it tells, keep.
-/
import Derived.Test.YtplfijhianmohaaOps
namespace Go.Proofs.Ytplfijhianmohaa
open Go.RowKit

/-- The source at block s: its numbers, the row of what it keeps. -/
structure Src (w0 w : World) (s : Nat) (view size epoch seq acked done : Nat) (L : Value) (os : List (Value × POp)) : Prop where
  blk : Blk w s 64 #[.int .i64 view, .int .i64 size, .int .i64 epoch, .int .i64 seq, .int .i64 acked, .int .i64 done, L]
  row : w.ownsRow w0.heap.size 58 5 L os.length (os.flatMap opc)
  data : ∀ p ∈ os, w.ownsRow w0.heap.size 5 1 p.1 p.2.d.length (bys p.2.d)
  small : ∀ p ∈ os, p.2.d.length ≤ 64
  new : w0.heap.size ≤ s
  keep : Keep [] w0 w
  len : done + os.length = seq
  few : seq ≤ 1000000
namespace Src
variable {w0 w w' : World} {s view size epoch seq acked done : Nat} {L : Value} {os : List (Value × POp)}
theorem lt (h : Src w0 w s view size epoch seq acked done L os) : s < w.heap.size := h.blk.lt
theorem keep0 (h : Src w0 w s view size epoch seq acked done L os) (hk : Keep [] w w') : Src w0 w' s view size epoch seq acked done L os :=
  ⟨h.blk.keep0 hk, own_keep0 h.row hk, fun p hp => own_keep0 (h.data p hp) hk, h.small, h.new, h.keep.trans0 hk, h.len, h.few⟩
/-- blocks that are none of its own may turn -/
theorem keepL (h : Src w0 w s view size epoch seq acked done L os) {l : List Nat} (hk : Keep l w w') (hl : ∀ x ∈ l, w0.heap.size ≤ x) (h1 : s ∉ l) (h2 : ∀ g ∈ L.ownBlock.toList, g ∉ l) (h3 : ∀ p ∈ os, ∀ g ∈ p.1.ownBlock.toList, g ∉ l) : Src w0 w' s view size epoch seq acked done L os :=
  ⟨h.blk.keep hk h1, own_keep h.row hk (fun g hg => h2 g (by simpa using hg)), fun p hp => own_keep (h.data p hp) hk (fun g hg => h3 p hp g (by simpa using hg)), h.small, h.new, h.keep.trans hk (fun x hx => .inr (hl x hx)), h.len, h.few⟩
theorem not_mem (h : Src w0 w s view size epoch seq acked done L os) : s ∉ L.ownBlock.toList := fun hm => own_blk_ne h.row h.blk (by decide) (by simpa using hm)
theorem data_s (h : Src w0 w s view size epoch seq acked done L os) {p : Value × POp} (hp : p ∈ os) : s ∉ p.1.ownBlock.toList := fun hm => own_blk_ne (h.data p hp) h.blk (by decide) (by simpa using hm)
theorem data_L (h : Src w0 w s view size epoch seq acked done L os) {p : Value × POp} (hp : p ∈ os) {g : Nat} (hg : g ∈ p.1.ownBlock.toList) : g ∉ L.ownBlock.toList := fun hm => own_ne (h.data p hp) h.row (by decide) (by simpa using hg) (by simpa using hm)
theorem one (h : Src w0 w s view size epoch seq acked done L os) : ∀ p ∈ os, p.1.oneCell' = true := fun p hp => own_one (h.data p hp)
theorem fresh (h : Src w0 w s view size epoch seq acked done L os) : ∀ x ∈ s :: L.ownBlock.toList, w0.heap.size ≤ x := fun x hx => by
  rcases List.mem_cons.1 hx with rfl | hx
  · exact h.new
  · exact (own_mem h.row hx).1
theorem rd (h : Src w0 w s view size epoch seq acked done L os) {A : Option Addr} {n c : Nat} (hL : L = .slice A n c) : OpsRd w A n os := by
  have h1 := h.row
  subst hL
  have hl : os.length = n := by
    rcases h1.2 with ⟨he, h0⟩ | ⟨g, cap, cur, he, _⟩
    · injection he with _ e _; omega
    · injection he with _ e _; exact e.symm
  rw [hl] at h1
  exact OpsRd.of_own h1 hl
end Src
theorem src_cells {w : World} {g : Nat} {x0 x1 x2 x3 x4 x5 x6 : Value} (h : Blk w g 64 #[x0, x1, x2, x3, x4, x5, x6]) :
    w.cell? ⟨g, 0, none⟩ = some x0 ∧ w.cell? ⟨g, 1, none⟩ = some x1 ∧ w.cell? ⟨g, 2, none⟩ = some x2 ∧ w.cell? ⟨g, 3, none⟩ = some x3 ∧ w.cell? ⟨g, 4, none⟩ = some x4 ∧ w.cell? ⟨g, 5, none⟩ = some x5 ∧ w.cell? ⟨g, 6, none⟩ = some x6 :=
  ⟨by simpa using h.cell 0, by simpa using h.cell 1, by simpa using h.cell 2, by simpa using h.cell 3, by simpa using h.cell 4, by simpa using h.cell 5, by simpa using h.cell 6⟩

theorem NewS_yes (v n : Nat) (hv : 1 ≤ v ∧ v ≤ 2147483647) (hn : 1 ≤ n ∧ n ≤ 16) (w : World) :
    Calls Try.prog 8 #[.int .i64 (v : Nat), .int .i64 (n : Nat)] w fun e w' => ∃ s, e = .returned (.pointer (some ⟨s, 0, none⟩)) ∧ Src w w' s v n 0 0 0 0 (.slice none 0 0) [] := by
  obtain ⟨h1, h2⟩ := hv
  obtain ⟨h3, h4⟩ := hn
  go_enter Try.func8, Try.ntmps8
  go_wp2
  go_ret
  exact ⟨_, rfl, Blk.new _ _ _, World.ownsRow_nil _ _ _ _, by simp, by simp, Nat.le_refl _, (Keep.refl _ _).alloc _, rfl, by omega⟩
theorem NewS_no (v n : Nat) (h : v = 0 ∨ (1 ≤ v ∧ v ≤ 2147483647) ∧ (n = 0 ∨ 16 < n)) (w : World) :
    Calls Try.prog 8 #[.int .i64 (v : Nat), .int .i64 (n : Nat)] w fun e w' => e = .returned (.pointer none) ∧ w = w' := by
  rcases h with rfl | ⟨⟨h1, h2⟩, rfl | h3⟩
  all_goals
    go_enter Try.func8, Try.ntmps8
    go_wp2
    go_ret
    exact ⟨rfl, rfl⟩
section
variable (w0 w : World) (s view size epoch seq acked done : Nat) (L : Value) (os : List (Value × POp))
theorem Epoch_is (h : Src w0 w s view size epoch seq acked done L os) : Calls Try.prog 22 #[.pointer (some ⟨s, 0, none⟩)] w fun e w' => e = .returned (.int .i64 (epoch : Nat)) ∧ w = w' := by
  obtain ⟨c0, c1, c2, c3, c4, c5, c6⟩ := src_cells h.blk
  go_enter Try.func22, Try.ntmps22
  go_wp2
  go_ret
  exact ⟨rfl, rfl⟩
theorem Seq_is (h : Src w0 w s view size epoch seq acked done L os) : Calls Try.prog 16 #[.pointer (some ⟨s, 0, none⟩)] w fun e w' => e = .returned (.int .i64 (seq : Nat)) ∧ w = w' := by
  obtain ⟨c0, c1, c2, c3, c4, c5, c6⟩ := src_cells h.blk
  go_enter Try.func16, Try.ntmps16
  go_wp2
  go_ret
  exact ⟨rfl, rfl⟩
theorem Acked_is (h : Src w0 w s view size epoch seq acked done L os) : Calls Try.prog 15 #[.pointer (some ⟨s, 0, none⟩)] w fun e w' => e = .returned (.int .i64 (acked : Nat)) ∧ w = w' := by
  obtain ⟨c0, c1, c2, c3, c4, c5, c6⟩ := src_cells h.blk
  go_enter Try.func15, Try.ntmps15
  go_wp2
  go_ret
  exact ⟨rfl, rfl⟩
theorem Done_is (h : Src w0 w s view size epoch seq acked done L os) : Calls Try.prog 14 #[.pointer (some ⟨s, 0, none⟩)] w fun e w' => e = .returned (.int .i64 (done : Nat)) ∧ w = w' := by
  obtain ⟨c0, c1, c2, c3, c4, c5, c6⟩ := src_cells h.blk
  go_enter Try.func14, Try.ntmps14
  go_wp2
  go_ret
  exact ⟨rfl, rfl⟩
end
end Go.Proofs.Ytplfijhianmohaa
