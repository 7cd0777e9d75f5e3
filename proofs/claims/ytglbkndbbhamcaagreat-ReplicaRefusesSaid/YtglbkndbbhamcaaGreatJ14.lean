/-
  A part of the proof: lemmas, and contracts of functions; their conditions stand in them.
-/
import Derived.Test.YtglbkndbbhamcaaGreatJ13
namespace Go.Proofs.YtglbkndbbhamcaaGreat
section
open Go.RowKit
structure PDisk where
  n : Nat
  safe : List UInt8
  now : List UInt8
  held : List (Nat × List UInt8)
  faults : List Bool
  fuse : Int
  acts : Nat
  off : Bool
def heldc (p : Nat × List UInt8) : List Value := .int .i64 p.1 :: bys p.2
structure DiskIs (w : World) (base d : Nat) (S N H U : Value) (F : List Nat) (D : PDisk) : Prop where
  blk : Blk w d 104 #[S, N, H, U, .int .i64 D.fuse, .int .i64 D.acts, .bool D.off]
  safe : w.ownsRow base 259 64 S D.n (bys D.safe)
  now : w.ownsRow base 259 64 N D.n (bys D.now)
  held : w.ownsRow base 261 65 H D.held.length (D.held.flatMap heldc)
  flt : w.ownsRow base 4 1 U D.n (D.faults.map .bool)
  ne : S.ownBlock ≠ N.ownBlock
  foot : F = d :: (S.ownBlock.toList ++ (N.ownBlock.toList ++ (H.ownBlock.toList ++ U.ownBlock.toList)))
  base : base ≤ d
  pos : 0 < D.n
  few : D.n ≤ 4096
  ats : ∀ p ∈ D.held, p.1 < D.n ∧ p.2.length = 64
  acts : D.held.length ≤ D.acts
def DiskAt (w : World) (base d : Nat) (F : List Nat) (D : PDisk) : Prop := ∃ S N H U, DiskIs w base d S N H U F D
namespace DiskIs
variable {w w' : World} {base d : Nat} {S N H U : Value} {F l : List Nat} {D : PDisk}
theorem keep (h : DiskIs w base d S N H U F D) (hk : Keep l w w') (ha : Apart F l) : DiskIs w' base d S N H U F D := by
  have hf := h.foot
  refine ⟨h.blk.keep hk (ha d (by simp [hf])), own_keep h.safe hk fun g hg => ha g (by simp [hf, hg]), own_keep h.now hk fun g hg => ha g (by simp [hf, hg]), own_keep h.held hk fun g hg => ha g (by simp [hf, hg]),
    own_keep h.flt hk fun g hg => ha g (by simp [hf, hg]), h.ne, hf, h.base, h.pos, h.few, h.ats, h.acts⟩
theorem keep0 (h : DiskIs w base d S N H U F D) (hk : Keep [] w w') : DiskIs w' base d S N H U F D := h.keep hk Apart.nil_right
theorem lt (h : DiskIs w base d S N H U F D) : ∀ x ∈ F, x < w.heap.size := by
  rw [h.foot]
  intro x hx
  simp only [List.mem_cons, List.mem_append] at hx
  rcases hx with rfl | hx | hx | hx | hx
  · exact h.blk.lt
  · exact (own_mem h.safe hx).2
  · exact (own_mem h.now hx).2
  · exact (own_mem h.held hx).2
  · exact (own_mem h.flt hx).2
theorem ge (h : DiskIs w base d S N H U F D) : ∀ x ∈ F, base ≤ x := by
  rw [h.foot]
  intro x hx
  simp only [List.mem_cons, List.mem_append] at hx
  rcases hx with rfl | hx | hx | hx | hx
  · exact h.base
  · exact (own_mem h.safe hx).1
  · exact (own_mem h.now hx).1
  · exact (own_mem h.held hx).1
  · exact (own_mem h.flt hx).1
theorem dS (h : DiskIs w base d S N H U F D) : d ∉ S.ownBlock.toList := fun hm => own_blk_ne h.safe h.blk (by decide) (by simpa using hm)
theorem dN (h : DiskIs w base d S N H U F D) : d ∉ N.ownBlock.toList := fun hm => own_blk_ne h.now h.blk (by decide) (by simpa using hm)
theorem dH (h : DiskIs w base d S N H U F D) : d ∉ H.ownBlock.toList := fun hm => own_blk_ne h.held h.blk (by decide) (by simpa using hm)
theorem dU (h : DiskIs w base d S N H U F D) : d ∉ U.ownBlock.toList := fun hm => own_blk_ne h.flt h.blk (by decide) (by simpa using hm)
theorem len (h : DiskIs w base d S N H U F D) : D.now.length = D.n * 64 ∧ D.safe.length = D.n * 64 ∧ D.faults.length = D.n := ⟨by simpa using h.now.1, by simpa using h.safe.1, by simpa using h.flt.1⟩
end DiskIs
theorem disk_cells {w : World} {g : Nat} {x0 x1 x2 x3 x4 x5 x6 : Value} (h : Blk w g 104 #[x0, x1, x2, x3, x4, x5, x6]) :
    w.cell? ⟨g, 0, none⟩ = some x0 ∧ w.cell? ⟨g, 1, none⟩ = some x1 ∧ w.cell? ⟨g, 2, none⟩ = some x2 ∧ w.cell? ⟨g, 3, none⟩ = some x3 ∧ w.cell? ⟨g, 4, none⟩ = some x4 ∧ w.cell? ⟨g, 5, none⟩ = some x5 ∧ w.cell? ⟨g, 6, none⟩ = some x6 :=
  ⟨by simpa using h.cell 0, by simpa using h.cell 1, by simpa using h.cell 2, by simpa using h.cell 3, by simpa using h.cell 4, by simpa using h.cell 5, by simpa using h.cell 6⟩
namespace DiskAt
variable {w w' : World} {base d : Nat} {F l : List Nat} {D : PDisk}
theorem keep (h : DiskAt w base d F D) (hk : Keep l w w') (ha : Apart F l) : DiskAt w' base d F D := by
  obtain ⟨S, N, H, U, h⟩ := h; exact ⟨S, N, H, U, h.keep hk ha⟩
theorem keep0 (h : DiskAt w base d F D) (hk : Keep [] w w') : DiskAt w' base d F D := h.keep hk Apart.nil_right
theorem lt (h : DiskAt w base d F D) : ∀ x ∈ F, x < w.heap.size := by obtain ⟨S, N, H, U, h⟩ := h; exact h.lt
theorem ge (h : DiskAt w base d F D) : ∀ x ∈ F, base ≤ x := by obtain ⟨S, N, H, U, h⟩ := h; exact h.ge
end DiskAt
def PDisk.act (D : PDisk) : PDisk := { D with acts := D.acts + 1 }
def PDisk.write (D : PDisk) (at_ : Nat) (b : List UInt8) : PDisk := { D with acts := D.acts + 1, held := D.held ++ [(at_, b)], now := laid D.now (at_ * 64) b }
theorem act_ok (w : World) (base d : Nat) (S N H U : Value) (F : List Nat) (D : PDisk) (h : DiskIs w base d S N H U F D) (hoff : D.off = false) (hfuse : D.fuse = -1) (ha : D.acts ≤ 1000000000) :
    Calls Tryz.prog 165 #[.pointer (some ⟨d, 0, none⟩)] w fun e w' => e = .returned (.int .i64 0) ∧ DiskIs w' base d S N H U F D.act ∧ Keep [d] w w' := by
  obtain ⟨c0, c1, c2, c3, c4, c5, c6⟩ := disk_cells h.blk
  have q4 := h.blk.frozen 4
  have q5 := h.blk.frozen 5
  have q6 := h.blk.frozen 6
  have hk : Keep [d] w (((w.setCell ⟨d, 5, none⟩ (.int .i64 (D.acts + 1 : Nat))).setCell ⟨d, 6, none⟩ (.bool false)).setCell ⟨d, 4, none⟩ (.int .i64 (-1))) :=
    (((Keep.refl [d] w).setCell (p := ⟨d, 5, none⟩) (.inl (by simp)) _).setCell (p := ⟨d, 6, none⟩) (.inl (by simp)) _).setCell (p := ⟨d, 4, none⟩) (.inl (by simp)) _
  have hb := ((h.blk.set 5 (.int .i64 (D.acts + 1 : Nat))).set 6 (.bool false)).set 4 (.int .i64 (-1))
  have hres : DiskIs (((w.setCell ⟨d, 5, none⟩ (.int .i64 (D.acts + 1 : Nat))).setCell ⟨d, 6, none⟩ (.bool false)).setCell ⟨d, 4, none⟩ (.int .i64 (-1))) base d S N H U F D.act :=
    ⟨by simpa [PDisk.act, hoff, hfuse] using hb, own_keep h.safe hk (fun g hg => by simp; rintro rfl; exact h.dS (by simpa using hg)), own_keep h.now hk (fun g hg => by simp; rintro rfl; exact h.dN (by simpa using hg)),
      own_keep h.held hk (fun g hg => by simp; rintro rfl; exact h.dH (by simpa using hg)), own_keep h.flt hk (fun g hg => by simp; rintro rfl; exact h.dU (by simpa using hg)), h.ne, h.foot, h.base, h.pos, h.few, h.ats, Nat.le_succ_of_le h.acts⟩
  rw [hoff] at c6
  rw [hfuse] at c4
  clear hb h hoff hfuse
  go_enter Tryz.func165, Tryz.ntmps165
  go_wp2
  go_ret
  exact ⟨rfl, by simpa using hres, by simpa using hk⟩
theorem hasD_ok (w : World) (base d : Nat) (S N H U : Value) (F : List Nat) (D : PDisk) (h : DiskIs w base d S N H U F D) (k : Nat) (hk : k < D.n) :
    Calls Tryz.prog 190 #[.pointer (some ⟨d, 0, none⟩), .int .i64 (k : Nat)] w fun e w' => e = .returned (.bool true) ∧ w = w' := by
  obtain ⟨g, nc, rfl, hnc, hc63⟩ := own_someN h.now h.pos
  obtain ⟨c0, c1, c2, c3, c4, c5, c6⟩ := disk_cells h.blk
  have hkI : ((k : Nat) : Int) < (D.n : Nat) := by omega
  go_enter Tryz.func190, Tryz.ntmps190
  go_wp2
  go_ret
  exact ⟨rfl, rfl⟩
end
section
open Go.RowKit
theorem ElemN.wp_make {P : Program} {t e : TypeId} {z : Value} {s bytes : Nat} (E : ElemN P t e z s bytes) {w : World} {ops : Array Oper} {rest : List Oper} {o : Oper} {a : Act} {Q : Exit → Act → World → Prop} (hgd : o.guard = none)
    (l c : Operand) (hop : o.op = Op.makeSlice t l c) (kl kc : IntKind) (n : Nat) (hl : a.eval l = .int kl n) (hc : a.eval c = .int kc n) (hb : bytes * n ≤ 281474976710656) (h63 : n ≤ 9223372036854775807)
    (h : ∀ w' g, g = w.heap.size → w'.heap.size = g + 1 → Blk w' g e (madeCells z.cells (n * s)) → Keep [] w w' → wpList P ops Q rest (a.put o.dst (.slice (some ⟨g, 0, none⟩) n n)) w') : wpList P ops Q (o :: rest) a w :=
  wpList_plain hgd fun _ hK => E.wp1_make l c hop kl kc n hl hc hb h63 fun w' g h1 h2 h3 h4 => hK _ _ (h w' g h1 h2 h3 h4)
end
end Go.Proofs.YtglbkndbbhamcaaGreat
