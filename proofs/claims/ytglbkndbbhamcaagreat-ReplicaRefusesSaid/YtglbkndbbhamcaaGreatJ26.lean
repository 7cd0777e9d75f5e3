/-
  A part of the proof: lemmas, and contracts of functions; their conditions stand in them.
-/
import Derived.Test.YtglbkndbbhamcaaGreatJ21
import Derived.Test.YtglbkndbbhamcaaGreatJ15
import Derived.Test.YtglbkndbbhamcaaGreatJ25
namespace Go.Proofs.YtglbkndbbhamcaaGreat
section
open Go.RowKit Go.Shelf
namespace TableAt
variable {w w' : World} {base t g : Nat} {F l : List Nat} {us : List (Nat × Nat)} {lv : List Nat}
theorem keep (h : TableAt w base t g F us lv) (hk : Keep l w w') (ha : Apart F l) : TableAt w' base t g F us lv := by obtain ⟨L, V, h⟩ := h; exact ⟨L, V, h.keep hk ha⟩
theorem keep0 (h : TableAt w base t g F us lv) (hk : Keep [] w w') : TableAt w' base t g F us lv := h.keep hk Apart.nil_right
theorem lt (h : TableAt w base t g F us lv) : ∀ x ∈ F, x < w.heap.size := by obtain ⟨L, V, h⟩ := h; exact h.lt
theorem ge (h : TableAt w base t g F us lv) : ∀ x ∈ F, base ≤ x := by obtain ⟨L, V, h⟩ := h; exact h.ge
end TableAt
def PPos.Ok (p : PPos) : Prop := p.seg ≤ 7 ∧ p.off ≤ 24 ∧ (1 ≤ p.lsn ∧ p.lsn ≤ 2147483647) ∧ p.prev ≤ 4294967295 ∧ (1 ≤ p.mount ∧ p.mount ≤ 2147483647)
structure LogIs (w : World) (base d g t p : Nat) (Fd Ft Fw : List Nat) (B : Nat) (D : PDisk) (us : List (Nat × Nat)) (lv : List Nat) (W : PW) : Prop where
  disk : DiskAt w base d Fd D
  geom : GeomAt w g B
  tab : TableAt w base t g Ft us lv
  wri : WriterAt w base p d g t Fw W
  dt : Apart Fd Ft
  dw : Apart Fd Fw
  tw : Apart Ft Fw
  gd : g ∉ Fd
  gt : g ∉ Ft
  gw : g ∉ Fw
  pos : W.pos.Ok
  off : D.off = false
  fuse : D.fuse = -1
  many : D.n = 198 + 4 * pgs B
  le : base ≤ w.heap.size
namespace LogIs
variable {w w' : World} {base d g t p : Nat} {Fd Ft Fw l : List Nat} {B : Nat} {D : PDisk} {us : List (Nat × Nat)} {lv : List Nat} {W : PW}
theorem keep0 (h : LogIs w base d g t p Fd Ft Fw B D us lv W) (hk : Keep [] w w') : LogIs w' base d g t p Fd Ft Fw B D us lv W :=
  ⟨h.disk.keep0 hk, h.geom.keep0 hk, h.tab.keep0 hk, h.wri.keep0 hk, h.dt, h.dw, h.tw, h.gd, h.gt, h.gw, h.pos, h.off, h.fuse, h.many, Nat.le_trans h.le hk.size⟩
theorem keep (h : LogIs w base d g t p Fd Ft Fw B D us lv W) (hk : Keep l w w') (hg : g ∉ l) (h1 : Apart Fd l) (h2 : Apart Ft l) (h3 : Apart Fw l) : LogIs w' base d g t p Fd Ft Fw B D us lv W :=
  ⟨h.disk.keep hk h1, h.geom.keep hk hg, h.tab.keep hk h2, h.wri.keep hk h3, h.dt, h.dw, h.tw, h.gd, h.gt, h.gw, h.pos, h.off, h.fuse, h.many, Nat.le_trans h.le hk.size⟩
theorem setDisk (h : LogIs w base d g t p Fd Ft Fw B D us lv W) {Fd' : List Nat} {D' : PDisk} (hd : DiskAt w' base d Fd' D') (hk : Keep Fd w w') (hg : Grow w Fd Fd') (h1 : D'.off = D.off) (h2 : D'.fuse = D.fuse) (h3 : D'.n = D.n) : LogIs w' base d g t p Fd' Ft Fw B D' us lv W :=
  ⟨hd, h.geom.keep hk h.gd, h.tab.keep hk h.dt.symm, h.wri.keep hk h.dw.symm, h.dt.grow hg h.tab.lt, h.dw.grow hg h.wri.lt, h.tw, fun hm => (hg g hm).elim h.gd (by have := h.geom.lt; omega), h.gt, h.gw, h.pos, h1.trans h.off, h2.trans h.fuse, h3.trans h.many, Nat.le_trans h.le hk.size⟩
theorem setTab (h : LogIs w base d g t p Fd Ft Fw B D us lv W) {us' : List (Nat × Nat)} {lv' : List Nat} (ht : TableAt w' base t g Ft us' lv') (hk : Keep Ft w w') : LogIs w' base d g t p Fd Ft Fw B D us' lv' W :=
  ⟨h.disk.keep hk h.dt, h.geom.keep hk h.gt, ht, h.wri.keep hk h.tw.symm, h.dt, h.dw, h.tw, h.gd, h.gt, h.gw, h.pos, h.off, h.fuse, h.many, Nat.le_trans h.le hk.size⟩
theorem setWri (h : LogIs w base d g t p Fd Ft Fw B D us lv W) {Fw' : List Nat} {W' : PW} (hw : WriterAt w' base p d g t Fw' W') (hk : Keep Fw w w') (hg : Grow w Fw Fw') (hp : W'.pos.Ok) : LogIs w' base d g t p Fd Ft Fw' B D us lv W' :=
  ⟨h.disk.keep hk h.dw, h.geom.keep hk h.gw, h.tab.keep hk h.tw, hw, h.dt, h.dw.grow_r hg h.disk.lt, h.tw.grow_r hg h.tab.lt, h.gd, h.gt, fun hm => (hg g hm).elim h.gw (by have := h.geom.lt; omega), hp, h.off, h.fuse, h.many, Nat.le_trans h.le hk.size⟩
end LogIs
def segAt (B s : Nat) : Nat := 6 + 4 * pgs B + 24 * s
def Begun (B : Nat) (D : PDisk) (W : PW) (D' : PDisk) (W' : PW) : Prop :=
  (0 < W.pos.off ∧ D' = D ∧ W' = W) ∨ (W.pos.off = 0 ∧ ∃ h : List UInt8, h.length = 64 ∧ D' = D.write (segAt B W.pos.seg) h ∧ W' = { W with pos := { W.pos with off := 1 } })
set_option maxHeartbeats 4000000 in
set_option maxRecDepth 20000 in
theorem begin_ok (w : World) (base d g t p : Nat) (Fd Ft Fw : List Nat) (B : Nat) (D : PDisk) (us : List (Nat × Nat)) (lv : List Nat) (W : PW) (h : LogIs w base d g t p Fd Ft Fw B D us lv W) (ha : D.acts ≤ 1000000000) :
    Calls Tryz.prog 202 #[.pointer (some ⟨p, 0, none⟩)] w fun e w' => e = .returned (.int .i64 0) ∧ ∃ Fd' D' W', LogIs w' base d g t p Fd' Ft Fw B D' us lv W' ∧ Begun B D W D' W' ∧ Keep (Fd ++ [p]) w w' ∧ Grow w Fd Fd' := by
  obtain ⟨I, Bv, ls, hw⟩ := h.wri
  obtain ⟨⟨seg, off, lsn, prev, mount⟩, items, blocks⟩ := W
  have hpos := h.pos
  obtain ⟨b1, b2, b3, b4, b5⟩ := hpos
  have hblk := hw.blk
  have hIp := own_form hw.its
  have hBp := own_form hw.bls
  simp only at b1 b2 b3 b4 b5 hblk
  obtain ⟨IA, ic, hI, _⟩ := hIp
  obtain ⟨BA, bc, hB, _⟩ := hBp
  by_cases ho : 0 < off
  · obtain ⟨c0, c1, c2, c3, c4, c5, c6, c7, c8, c9⟩ := wri_cells hblk
    have hoI : (0 : Int) < (off : Nat) := by omega
    go_enter Tryz.func202, Tryz.ntmps202
    go_wp2_with fail
    go_ret
    exact ⟨rfl, Fd, D, _, h, .inl ⟨ho, rfl, rfl⟩, Keep.refl _ _, Grow.refl _ _⟩
  · obtain rfl : off = 0 := by omega
    rw [hI, hB] at hblk
    have HI := hide hI
    have HB := hide hB
    clear hI hB
    obtain ⟨c0, c1, c2, c3, c4, c5, c6, c7, c8, c9⟩ := wri_cells hblk
    have hE := fun W => HeadE_ok seg mount lsn prev (by omega) b5 b3 b4 W
    go_enter Tryz.func202, Tryz.ntmps202
    go_wp2_with fail
    clear c0 c1 c2 c3 c4 c5 c6 c7 c8 c9
    obtain ⟨c0, c1, c2, c3, c4, c5, c6, c7, c8, c9⟩ := wri_cells hblk.drew
    refine wp_region_ht (fun w' => w'.cell? ⟨p, 3, none⟩ = some (.int .i64 seg) ∧ w'.cell? ⟨p, 5, none⟩ = some (.int .i64 lsn) ∧ w'.cell? ⟨p, 6, none⟩ = some (.int .i64 prev) ∧ w'.cell? ⟨p, 7, none⟩ = some (.int .i64 mount)) 26 [(0, false), (1, false), (2, false), (3, false), (4, false), (5, false), (6, false), (7, false), (8, false), (9, false), (10, false), (11, false), (12, false), (13, false), (14, false), (15, false), (16, false), (17, false), (18, false), (19, false), (20, false), (21, true), (22, false), (23, false), (24, false), (25, false)]
      (by kernel_rfl) (by kernel_rfl) (fun _ _ d _ _ h => by cases d <;> exact h) ⟨c3, c5, c6, c7⟩ ?_
    simp only [PI]
    iterate 21 (refine wpT_held ?_ (by rfl) ?_ ?_; rotate_left; (focus (rintro W ⟨hW1, hW2, hW3, hW4⟩; go_simp; try with_reducible rfl)); simp only [Act.put, PU])
    refine wpT_loud (by rfl) (fun K hK => ?_)
    go_wp2_with (refine (hE _).mono ?_; clear hE; rintro e w2 ⟨u, rfl, hu, hk2⟩)
    clear c0 c1 c2 c3 c4 c5 c6 c7 c8 c9
    have hkA : Keep [] w w2 := (Keep.refl _ _).drew.trans0 hk2
    obtain ⟨c0, c1, c2, c3, c4, c5, c6, c7, c8, c9⟩ := wri_cells (hblk.keep0 hkA)
    refine hK _ _ (⟨c3, c5, c6, c7⟩) ?_
    clear hK K
    try simp only [Act.put, PU]
    iterate 4 (refine wpT_held ?_ (by rfl) ?_ ?_; rotate_left; (focus (rintro W ⟨hW1, hW2, hW3, hW4⟩; go_simp; try with_reducible rfl)); simp only [Act.put, PU])
    refine wpT_nil ?_
    go_wp2_with fail
    clear c0 c1 c2 c3 c4 c5 c6 c7 c8 c9
    obtain ⟨c0, c1, c2, c3, c4, c5, c6, c7, c8, c9⟩ := wri_cells (hblk.keep0 hkA).drew
    refine wp_region_ht (fun w' => w'.cell? ⟨p, 0, none⟩ = some (.pointer (some ⟨d, 0, none⟩)) ∧ w'.cell? ⟨p, 1, none⟩ = some (.pointer (some ⟨g, 0, none⟩)) ∧ w'.cell? ⟨p, 3, none⟩ = some (.int .i64 seg)) 15 [(0, false), (1, false), (2, false), (3, false), (4, false), (5, false), (6, false), (7, false), (8, false), (9, false), (10, false), (11, false), (12, false), (14, false), (13, true)]
      (by kernel_rfl) (by kernel_rfl) (fun _ _ d _ _ h => by cases d <;> exact h) ⟨c0, c1, c3⟩ ?_
    simp only [PI]
    iterate 14 (refine wpT_held ?_ (by rfl) ?_ ?_; rotate_left; (focus (rintro W ⟨hW1, hW2, hW3⟩; go_simp; try with_reducible rfl)); simp only [Act.put, PU])
    refine wpT_loud (by rfl) (fun K hK => ?_)
    go_wp2_with (refine (SegG_is _ g B (h.geom.keep0 hkA.drew) seg (by omega)).mono ?_; rintro e w3 ⟨rfl, hk3⟩)
    have hkB : Keep [] w w3 := hkA.drew.trans0 hk3
    clear c0 c1 c2 c3 c4 c5 c6 c7 c8 c9
    obtain ⟨c0, c1, c2, c3, c4, c5, c6, c7, c8, c9⟩ := wri_cells (hblk.keep0 hkB)
    refine hK _ _ (⟨c0, c1, c3⟩) ?_
    clear hK K
    try simp only [Act.put, PU]
    refine wpT_nil ?_
    obtain ⟨g2, uc, rfl, huc⟩ := own_some hu (by omega)
    have hu3 := own_keep0 (own_keep0 hu (Keep.refl _ _).drew) hk3
    have hg2 := own_mem hu (g := g2) (by simp [Value.ownBlock])
    have hWr := Write_ok w3 base d Fd D (h.disk.keep0 hkB) h.off h.fuse ha (segAt B seg) (by rw [h.many]; unfold segAt; omega) (some ⟨g2, 0, none⟩) uc _ (Rd.of_own hu3) (fun a ha' hm => by cases ha'; have h2 : g2 < w.heap.size := h.disk.lt _ hm; have h1 : w.heap.size ≤ g2 := hg2.1; omega) (Nat.le_trans h.le hkB.size)
    unfold segAt at hWr
    go_wp2_with (refine hWr.mono ?_; clear hWr; rintro e w4 ⟨rfl, Fd', hD, hk4, hg4⟩; (have hb4 := (hblk.keep0 hkB).keep hk4 (fun hm => h.dw _ hm hw.inP)); (obtain ⟨e0, e1, e2, e3, e4, e5, e6, e7, e8, e9⟩ := wri_cells hb4); (have f4 := hb4.frozen 4))
    go_ret
    have hkp : Keep [p] w4 (w4.setCell ⟨p, 4, none⟩ (.int .i64 1)) := (Keep.refl _ _).setCell (.inl (by simp)) _
    have hw4 := (hw.keep0 hkB).keep hk4 h.dw.symm
    have hbs := hw4.blk.set 4 (.int .i64 1)
    have hw5 := hw4.setPos ⟨seg, 1, lsn, prev, mount⟩ (w' := w4.setCell ⟨p, 4, none⟩ (.int .i64 1)) (by simpa using hbs) hkp
    have h4 := (h.keep0 hkB).setDisk hD hk4 hg4 rfl rfl rfl
    have h5 := h4.setWri ⟨_, _, _, hw5⟩ (hkp.sub (fun x hx => by simp at hx; subst hx; exact hw.inP)) (Grow.refl _ _) ⟨b1, (show 1 ≤ 24 by omega), b3, b4, b5⟩
    have hKK : Keep (Fd ++ [p]) w (w4.setCell ⟨p, 4, none⟩ (.int .i64 1)) := ((hkB.sub (m := Fd ++ [p]) (by simp)).trans hk4 (fun x hx => .inl (List.mem_append_left _ hx))).trans hkp (fun x hx => .inl (List.mem_append_right _ hx))
    exact ⟨rfl, Fd', _, _, h5, .inr ⟨rfl, _, length_sealed _ _ (by omega) (by rw [length_headH]; omega), rfl, rfl⟩, hKK, fun x hx => (hg4 x hx).imp id (fun h => Nat.le_trans hkB.size h)⟩
end
end Go.Proofs.YtglbkndbbhamcaaGreat
