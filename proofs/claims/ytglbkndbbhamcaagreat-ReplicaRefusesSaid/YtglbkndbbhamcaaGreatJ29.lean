/-
  A part of the proof: lemmas, and contracts of functions; their conditions stand in them.
-/
import Derived.Test.YtglbkndbbhamcaaGreatJ28
namespace Go.Proofs.YtglbkndbbhamcaaGreat
section
open Go.RowKit Go.Shelf
theorem LogIs.ul {w : World} {base d g t p : Nat} {Fd Ft Fw : List Nat} {B : Nat} {D : PDisk} {us : List (Nat × Nat)} {lv : List Nat} {W : PW} (h : LogIs w base d g t p Fd Ft Fw B D us lv W) : us.length = 8 := by obtain ⟨L, V, ht⟩ := h.tab; exact ht.ulen
def RoomOk (us : List (Nat × Nat)) (W : PW) (m : Nat) (spare : Bool) : Prop :=
  ¬ fitsP W.pos.off (W.items.length + 1) (W.blocks.length + m) → ¬ fitsP (offW W) 1 m → firstFree us < 8 ∧ (us.getD (firstFree us) (0, 0)).1 = 0 ∧ (spare = false → 2 < freeCount us)
set_option maxHeartbeats 4000000 in
set_option maxRecDepth 20000 in
theorem room_fits (w : World) (base d g t p : Nat) (Fd Ft Fw : List Nat) (B : Nat) (D : PDisk) (us : List (Nat × Nat)) (lv : List Nat) (W : PW) (h : LogIs w base d g t p Fd Ft Fw B D us lv W) (ho : W.Ok) (m : Nat) (hm : m ≤ 1) (spare : Bool)
    (hf : fitsP W.pos.off (W.items.length + 1) (W.blocks.length + m)) :
    Calls Tryz.prog 212 #[.pointer (some ⟨p, 0, none⟩), .int .i64 (m : Nat), .bool spare] w fun e w' => e = .returned (.int .i64 0) ∧ Keep [] w w' := by
  obtain ⟨I, Bv, ls, hw⟩ := h.wri
  obtain ⟨IA, ic, rfl, _⟩ := own_form hw.its
  obtain ⟨BA, bc, rfl, _⟩ := own_form hw.bls
  have hblk := hw.blk
  have hll := hw.len
  have hm6 : W.blocks.length ≤ 6 := by rw [ho.many]; exact Nat.le_trans (loadedN_le _) ho.few
  have hn6 := ho.few
  have hoff := h.pos.2.1
  obtain ⟨n, hn⟩ : ∃ n, n = W.items.length := ⟨_, rfl⟩
  obtain ⟨mb, hmb⟩ : ∃ n, n = W.blocks.length := ⟨_, rfl⟩
  obtain ⟨off, hof⟩ : ∃ n, n = W.pos.off := ⟨_, rfl⟩
  rw [← hn] at hblk hn6 hf
  rw [← hmb] at hll hm6 hf
  rw [hll, ← hof] at hblk
  rw [← hof] at hoff hf
  have hF := fitsW_is w.drew p g B _ hblk.drew (by simp) (h.geom.keep0 (Keep.refl _ _).drew) off (n + 1) (mb + m) (by omega) (by omega) (by omega)
  rw [decide_eq_true (show n + 1 ≤ 6 ∧ behindP off (mb + m) < 24 from hf), show ((n + 1 : Nat) : Int) = (n : Int) + 1 by omega, show ((mb + m : Nat) : Int) = (mb : Int) + (m : Int) by omega] at hF
  obtain ⟨c0, c1, c2, c3, c4, c5, c6, c7, c8, c9⟩ := wri_cells hblk.drew
  clear hof hn hmb hll hf
  go_enter Tryz.func212, Tryz.ntmps212
  go_wp2_with fail
  refine wp_region_ht (fun w' => w'.cell? ⟨p, 4, none⟩ = some (.int .i64 off) ∧ w'.cell? ⟨p, 8, none⟩ = some (.slice IA n ic) ∧ w'.cell? ⟨p, 9, none⟩ = some (.slice BA mb bc)) 19 [(0, false), (1, false), (2, false), (3, false), (4, false), (5, false), (6, false), (7, false), (8, false), (9, false), (10, false), (11, false), (12, false), (13, false), (14, false), (15, false), (16, false), (17, false), (18, false)]
    (by kernel_rfl) (by kernel_rfl) (fun _ _ d _ _ h => by cases d <;> exact h) ⟨c4, c8, c9⟩ ?_
  simp only [PI]
  iterate 19 (refine wpT_held ?_ (by rfl) ?_ ?_; rotate_left; (focus (rintro W ⟨hW1, hW2, hW3⟩; go_simp; try with_reducible rfl)); simp only [Act.put, PU])
  refine wpT_nil ?_
  go_wp2_with (refine hF.mono ?_; clear hF; rintro e w2 ⟨rfl, hk2⟩)
  go_ret
  exact ⟨rfl, (Keep.refl _ _).drew.trans0 hk2⟩
set_option maxHeartbeats 4000000 in
set_option maxRecDepth 20000 in
theorem room_emit (w : World) (base d g t p : Nat) (Fd Ft Fw : List Nat) (B : Nat) (D : PDisk) (us : List (Nat × Nat)) (lv : List Nat) (W : PW) (h : LogIs w base d g t p Fd Ft Fw B D us lv W) (ho : W.Ok) (hoo : W.pos.off ≤ 23) (m : Nat) (hm : m ≤ 1) (spare : Bool) (ha : D.acts ≤ 1000000) (hlsn : W.pos.lsn < 2147483647)
    (hnf : ¬ fitsP W.pos.off (W.items.length + 1) (W.blocks.length + m)) (hf : fitsP (offW W) 1 m) :
    Calls Tryz.prog 212 #[.pointer (some ⟨p, 0, none⟩), .int .i64 (m : Nat), .bool spare] w fun e w' => e = .returned (.int .i64 0) ∧ ∃ Fd' Fw' D' us' W', LogIs w' base d g t p Fd' Ft Fw' B D' us' lv W' ∧ Emitted B D us W D' us' W' ∧ Keep (Fd ++ (Ft ++ Fw)) w w' ∧ Grow w Fd Fd' ∧ Grow w Fw Fw' := by
  have hE := fun W1 (hk : Keep [] w W1) => Emit_ok W1 base d g t p Fd Ft Fw B D us lv W (h.keep0 hk) ho ha hlsn
  obtain ⟨I, Bv, ls, hw⟩ := h.wri
  obtain ⟨IA, ic, rfl, _⟩ := own_form hw.its
  obtain ⟨BA, bc, rfl, _⟩ := own_form hw.bls
  have hblk := hw.blk
  have hll := hw.len
  have hm6 : W.blocks.length ≤ 6 := by rw [ho.many]; exact Nat.le_trans (loadedN_le _) ho.few
  have hn6 := ho.few
  have hoff := h.pos.2.1
  have hgm := h.geom
  have hB0 : W.items.length = 0 → W.items = [] := List.eq_nil_of_length_eq_zero
  have hB1 : W.items = [] → W.items.length = 0 := fun e => by rw [e]; rfl
  obtain ⟨n, hn⟩ : ∃ n, n = W.items.length := ⟨_, rfl⟩
  obtain ⟨mb, hmb⟩ : ∃ n, n = W.blocks.length := ⟨_, rfl⟩
  obtain ⟨off, hof⟩ : ∃ n, n = W.pos.off := ⟨_, rfl⟩
  obtain ⟨o2, ho2⟩ : ∃ n, n = offW W := ⟨_, rfl⟩
  have ho2' : (n = 0 ∧ o2 = off) ∨ (0 < n ∧ o2 = behindP off mb) := by
    rw [ho2, hn, hof, hmb]
    unfold offW
    by_cases h0 : W.items.length = 0
    · exact .inl ⟨h0, by rw [if_pos (hB0 h0)]⟩
    · exact .inr ⟨by omega, by rw [if_neg (fun e => h0 (hB1 e))]⟩
  have hfb : o2 ≤ 100 := by rcases ho2' with ⟨_, e⟩ | ⟨_, e⟩ <;> rw [e] <;> first | omega | (unfold behindP; omega)
  rw [← ho2] at hf
  rw [← hn] at hblk hn6 hnf
  rw [← hmb] at hll hm6 hnf
  rw [hll, ← hof] at hblk
  rw [← hof] at hoff hnf
  have hF1 := fitsW_is w.drew p g B _ hblk.drew (by simp) (hgm.keep0 (Keep.refl _ _).drew) off (n + 1) (mb + m) (by omega) (by omega) (by omega)
  rw [decide_eq_false (show ¬ (n + 1 ≤ 6 ∧ behindP off (mb + m) < 24) from hnf), show ((n + 1 : Nat) : Int) = (n : Int) + 1 by omega, show ((mb + m : Nat) : Int) = (mb : Int) + (m : Int) by omega] at hF1
  have hF2 := fun W1 (hk : Keep [] w W1) => fitsW_is W1 p g B _ (hblk.keep0 hk) (by simp) (hgm.keep0 hk) o2 1 m hfb (by omega) (by omega)
  have hbe := fun W1 => behind_is off mb (by omega) (by omega) W1
  rw [decide_eq_true (show 1 ≤ 6 ∧ behindP o2 m < 24 from hf)] at hF2
  have hpk : ∀ {W1}, Keep [] w W1 → W1.cell? ⟨p, 2, none⟩ = some (.pointer (some ⟨t, 0, none⟩)) ∧ W1.cell? ⟨p, 4, none⟩ = some (.int .i64 off) ∧ W1.cell? ⟨p, 8, none⟩ = some (.slice IA n ic) ∧ W1.cell? ⟨p, 9, none⟩ = some (.slice BA mb bc) := fun hk => by
    obtain ⟨c0, c1, c2, c3, c4, c5, c6, c7, c8, c9⟩ := wri_cells (hblk.keep0 hk)
    exact ⟨c2, c4, c8, c9⟩
  obtain ⟨c2, c4, c8, c9⟩ := hpk (Keep.refl _ _).drew
  have H1 := hide hof
  have H2 := hide hn
  have H3 := hide hmb
  have H4 := hide ho2
  clear hof hn hmb hll hnf hB0 hB1 ho2
  rcases ho2' with ⟨rfl, rfl⟩ | ⟨hn0, rfl⟩
  · clear hbe
    go_enter Tryz.func212, Tryz.ntmps212
    go_wp2_with fail
    refine wp_region_ht (fun w' => w'.cell? ⟨p, 4, none⟩ = some (.int .i64 o2) ∧ w'.cell? ⟨p, 8, none⟩ = some (.slice IA (0 : Nat) ic) ∧ w'.cell? ⟨p, 9, none⟩ = some (.slice BA mb bc)) 19 [(0, false), (1, false), (2, false), (3, false), (4, false), (5, false), (6, false), (7, false), (8, false), (9, false), (10, false), (11, false), (12, false), (13, false), (14, false), (15, false), (16, false), (17, false), (18, false)]
      (by kernel_rfl) (by kernel_rfl) (fun _ _ d _ _ h => by cases d <;> exact h) ⟨c4, c8, c9⟩ ?_
    simp only [PI]
    iterate 19 (refine wpT_held ?_ (by rfl) ?_ ?_; rotate_left; (focus (rintro W ⟨hW1, hW2, hW3⟩; go_simp; try with_reducible rfl)); simp only [Act.put, PU])
    refine wpT_nil ?_
    clear c2 c4 c8 c9
    go_wp2_with (first
      | (go_at_call 230
         refine hF1.mono ?_
         clear hF1
         rintro e w2 ⟨rfl, hk2⟩
         replace hk2 := (Keep.refl [] w).drew.trans0 hk2
         obtain ⟨c2, c4, c8, c9⟩ := hpk hk2)
      | (go_at_call 230
         refine (hF2 _ hk2).mono ?_
         clear hF2
         rintro e w3 ⟨rfl, hk3⟩
         replace hk3 := hk2.trans0 hk3
         obtain ⟨c2, c4, c8, c9⟩ := hpk hk3)
      | (go_at_call 178
         refine (hE _ hk3).mono ?_
         clear hE
         rintro e w4 ⟨rfl, Fd', Fw', D', us', W', h4, hE4, hk4, hg4, hgw4⟩))
    go_ret
    exact ⟨rfl, Fd', Fw', D', us', W', h4, hE4, hk3.zero.trans hk4 (fun x hx => .inl hx), hg4.keep hk3, hgw4.keep hk3⟩
  · have hnI : (0 : Int) < (n : Nat) := by omega
    go_enter Tryz.func212, Tryz.ntmps212
    go_wp2_with fail
    refine wp_region_ht (fun w' => w'.cell? ⟨p, 4, none⟩ = some (.int .i64 off) ∧ w'.cell? ⟨p, 8, none⟩ = some (.slice IA n ic) ∧ w'.cell? ⟨p, 9, none⟩ = some (.slice BA mb bc)) 19 [(0, false), (1, false), (2, false), (3, false), (4, false), (5, false), (6, false), (7, false), (8, false), (9, false), (10, false), (11, false), (12, false), (13, false), (14, false), (15, false), (16, false), (17, false), (18, false)]
      (by kernel_rfl) (by kernel_rfl) (fun _ _ d _ _ h => by cases d <;> exact h) ⟨c4, c8, c9⟩ ?_
    simp only [PI]
    iterate 19 (refine wpT_held ?_ (by rfl) ?_ ?_; rotate_left; (focus (rintro W ⟨hW1, hW2, hW3⟩; go_simp; try with_reducible rfl)); simp only [Act.put, PU])
    refine wpT_nil ?_
    clear c2 c4 c8 c9
    go_wp2_with (first
      | (go_at_call 230
         refine hF1.mono ?_
         clear hF1
         rintro e w2 ⟨rfl, hk2⟩
         replace hk2 := (Keep.refl [] w).drew.trans0 hk2
         obtain ⟨c2, c4, c8, c9⟩ := hpk hk2)
      | (go_at_call 225
         refine (hbe _).mono ?_
         clear hbe
         rintro e w' ⟨rfl, rfl⟩)
      | (go_at_call 230
         refine (hF2 _ hk2).mono ?_
         clear hF2
         rintro e w3 ⟨rfl, hk3⟩
         replace hk3 := hk2.trans0 hk3
         obtain ⟨c2, c4, c8, c9⟩ := hpk hk3)
      | (go_at_call 178
         refine (hE _ hk3).mono ?_
         clear hE
         rintro e w4 ⟨rfl, Fd', Fw', D', us', W', h4, hE4, hk4, hg4, hgw4⟩))
    go_ret
    exact ⟨rfl, Fd', Fw', D', us', W', h4, hE4, hk3.zero.trans hk4 (fun x hx => .inl hx), hg4.keep hk3, hgw4.keep hk3⟩
set_option maxHeartbeats 4000000 in
set_option maxRecDepth 20000 in
theorem room_turn (w : World) (base d g t p : Nat) (Fd Ft Fw : List Nat) (B : Nat) (D : PDisk) (us : List (Nat × Nat)) (lv : List Nat) (W : PW) (h : LogIs w base d g t p Fd Ft Fw B D us lv W) (ho : W.Ok) (hoo : W.pos.off ≤ 23) (m : Nat) (hm : m ≤ 1) (spare : Bool) (ha : D.acts ≤ 900000) (hlsn : W.pos.lsn < 2147483646)
    (hnf : ¬ fitsP W.pos.off (W.items.length + 1) (W.blocks.length + m)) (hf : ¬ fitsP (offW W) 1 m) (hop : (us.getD W.pos.seg (0, 0)).1 = 1) (hs8 : firstFree us < 8) (hs0 : (us.getD (firstFree us) (0, 0)).1 = 0) (hsp : spare = false → 2 < freeCount us) :
    Calls Tryz.prog 212 #[.pointer (some ⟨p, 0, none⟩), .int .i64 (m : Nat), .bool spare] w fun e w' => e = .returned (.int .i64 0) ∧ ∃ Fd' Fw' D1 us1 W1 D' us' W', LogIs w' base d g t p Fd' Ft Fw' B D' us' (lv.set (firstFree us) 0) W' ∧ Emitted B D (setState us (firstFree us) 1) W D1 us1 W1 ∧ Turned B D1 us1 W1 (firstFree us) D' us' W' ∧ Keep (Fd ++ (Ft ++ Fw)) w w' ∧ Grow w Fd Fd' ∧ Grow w Fw Fw' := by
  have hul := h.ul
  have hTk := fun W1 (hk : Keep [] w W1) => TakeT_ok W1 base t g Ft us lv (h.keep0 hk).tab spare hsp hs8
  have h22 : 22 ≤ offW W := by unfold fitsP behindP at hf; omega
  have hE := fun W1 (h1 : LogIs W1 base d g t p Fd Ft Fw B D (setState us (firstFree us) 1) (lv.set (firstFree us) 0) W) => Emit_ok W1 base d g t p Fd Ft Fw B D _ _ W h1 ho (by omega) (by omega)
  have hfacts := fun D1 us1 W1 (hE1 : Emitted B D (setState us (firstFree us) 1) W D1 us1 W1) => hE1.facts ho
  have hTn : ∀ W2 Fd1 Fw1 D1 us1 W1, LogIs W2 base d g t p Fd1 Ft Fw1 B D1 us1 (lv.set (firstFree us) 0) W1 → Emitted B D (setState us (firstFree us) 1) W D1 us1 W1 →
      Calls Tryz.prog 232 #[.pointer (some ⟨p, 0, none⟩), .int .i64 (firstFree us : Nat)] W2 fun e w' => e = .returned (.int .i64 0) ∧ ∃ Fd' D' us' W', LogIs w' base d g t p Fd' Ft Fw1 B D' us' (lv.set (firstFree us) 0) W' ∧ Turned B D1 us1 W1 (firstFree us) D' us' W' ∧ Keep (Fd1 ++ (Ft ++ [p])) W2 w' ∧ Grow W2 Fd1 Fd' := by
    intro W2 Fd1 Fw1 D1 us1 W1 h1 hE1
    obtain ⟨f1, f2, f3, f4, f5, f6, f7, f8, f9, f10, f11⟩ := hfacts _ _ _ hE1
    have hof1 : W1.pos.off = offW W := by
      by_cases h0 : W.items = []
      · rw [f7 h0]; unfold offW; rw [if_pos h0]
      · exact f8 h0
    have hol : offW W ≤ 23 := by
      unfold offW
      split
      · exact hoo
      · rename_i h0; exact ho.fit h0
    have hsl := h.pos.1
    have hne : W.pos.seg ≠ firstFree us := fun e => by rw [e, hs0] at hop; cases hop
    refine turn_ok W2 base d g t p Fd1 Ft Fw1 B D1 us1 _ W1 h1 (firstFree us) (by omega) (by omega) (by omega) (by omega) (by omega) ?_
    rw [f3]
    rcases f10 with rfl | rfl
    · rw [state_state _ _ _ _ (by omega), if_neg hne]; exact hop
    · rw [state_stamp, state_state _ _ _ _ (by omega), if_neg hne]; exact hop
  have hGe := h
  clear hfacts h22 hul
  obtain ⟨I, Bv, ls, hw⟩ := h.wri
  obtain ⟨IA, ic, rfl, _⟩ := own_form hw.its
  obtain ⟨BA, bc, rfl, _⟩ := own_form hw.bls
  have hblk := hw.blk
  have hll := hw.len
  have hm6 : W.blocks.length ≤ 6 := by rw [ho.many]; exact Nat.le_trans (loadedN_le _) ho.few
  have hn6 := ho.few
  have hoff := h.pos.2.1
  have hgm := h.geom
  have hB0 : W.items.length = 0 → W.items = [] := List.eq_nil_of_length_eq_zero
  have hB1 : W.items = [] → W.items.length = 0 := fun e => by rw [e]; rfl
  obtain ⟨n, hn⟩ : ∃ n, n = W.items.length := ⟨_, rfl⟩
  obtain ⟨mb, hmb⟩ : ∃ n, n = W.blocks.length := ⟨_, rfl⟩
  obtain ⟨off, hof⟩ : ∃ n, n = W.pos.off := ⟨_, rfl⟩
  obtain ⟨o2, ho2⟩ : ∃ n, n = offW W := ⟨_, rfl⟩
  have ho2' : (n = 0 ∧ o2 = off) ∨ (0 < n ∧ o2 = behindP off mb) := by
    rw [ho2, hn, hof, hmb]
    unfold offW
    by_cases h0 : W.items.length = 0
    · exact .inl ⟨h0, by rw [if_pos (hB0 h0)]⟩
    · exact .inr ⟨by omega, by rw [if_neg (fun e => h0 (hB1 e))]⟩
  have hfb : o2 ≤ 100 := by rcases ho2' with ⟨_, e⟩ | ⟨_, e⟩ <;> rw [e] <;> first | omega | (unfold behindP; omega)
  rw [← ho2] at hf
  rw [← hn] at hblk hn6 hnf
  rw [← hmb] at hll hm6 hnf
  rw [hll, ← hof] at hblk
  rw [← hof] at hoff hnf
  have hF1 := fitsW_is w.drew p g B _ hblk.drew (by simp) (hgm.keep0 (Keep.refl _ _).drew) off (n + 1) (mb + m) (by omega) (by omega) (by omega)
  rw [decide_eq_false (show ¬ (n + 1 ≤ 6 ∧ behindP off (mb + m) < 24) from hnf), show ((n + 1 : Nat) : Int) = (n : Int) + 1 by omega, show ((mb + m : Nat) : Int) = (mb : Int) + (m : Int) by omega] at hF1
  have hF2 := fun W1 (hk : Keep [] w W1) => fitsW_is W1 p g B _ (hblk.keep0 hk) (by simp) (hgm.keep0 hk) o2 1 m hfb (by omega) (by omega)
  have hbe := fun W1 => behind_is off mb (by omega) (by omega) W1
  rw [decide_eq_false (show ¬ (1 ≤ 6 ∧ behindP o2 m < 24) from hf)] at hF2
  have hpk : ∀ {W1}, Keep [] w W1 → W1.cell? ⟨p, 2, none⟩ = some (.pointer (some ⟨t, 0, none⟩)) ∧ W1.cell? ⟨p, 4, none⟩ = some (.int .i64 off) ∧ W1.cell? ⟨p, 8, none⟩ = some (.slice IA n ic) ∧ W1.cell? ⟨p, 9, none⟩ = some (.slice BA mb bc) := fun hk => by
    obtain ⟨c0, c1, c2, c3, c4, c5, c6, c7, c8, c9⟩ := wri_cells (hblk.keep0 hk)
    exact ⟨c2, c4, c8, c9⟩
  obtain ⟨c2, c4, c8, c9⟩ := hpk (Keep.refl _ _).drew
  have H1 := hide hof
  have H2 := hide hn
  have H3 := hide hmb
  have H4 := hide ho2
  clear hof hn hmb hll hnf hB0 hB1 ho2
  rcases ho2' with ⟨rfl, rfl⟩ | ⟨hn0, rfl⟩
  · clear hbe
    go_enter Tryz.func212, Tryz.ntmps212
    go_wp2_with fail
    refine wp_region_ht (fun w' => w'.cell? ⟨p, 4, none⟩ = some (.int .i64 o2) ∧ w'.cell? ⟨p, 8, none⟩ = some (.slice IA (0 : Nat) ic) ∧ w'.cell? ⟨p, 9, none⟩ = some (.slice BA mb bc)) 19 [(0, false), (1, false), (2, false), (3, false), (4, false), (5, false), (6, false), (7, false), (8, false), (9, false), (10, false), (11, false), (12, false), (13, false), (14, false), (15, false), (16, false), (17, false), (18, false)]
      (by kernel_rfl) (by kernel_rfl) (fun _ _ d _ _ h => by cases d <;> exact h) ⟨c4, c8, c9⟩ ?_
    simp only [PI]
    iterate 19 (refine wpT_held ?_ (by rfl) ?_ ?_; rotate_left; (focus (rintro W ⟨hW1, hW2, hW3⟩; go_simp; try with_reducible rfl)); simp only [Act.put, PU])
    refine wpT_nil ?_
    clear c2 c4 c8 c9
    go_wp2_with (first
      | (go_at_call 230
         refine hF1.mono ?_
         clear hF1
         rintro e w2 ⟨rfl, hk2⟩
         replace hk2 := (Keep.refl [] w).drew.trans0 hk2
         obtain ⟨c2, c4, c8, c9⟩ := hpk hk2)
      | (go_at_call 230
         refine (hF2 _ hk2).mono ?_
         clear hF2
         rintro e w3 ⟨rfl, hk3⟩
         replace hk3 := hk2.trans0 hk3
         obtain ⟨c2, c4, c8, c9⟩ := hpk hk3)
      | (go_at_call 231
         refine (hTk _ hk3).mono ?_
         clear hTk
         rintro e w4 ⟨rfl, ht4, hk4⟩
         have h4 := (hGe.keep0 hk3).setTab ht4 hk4)
      | (go_at_call 178
         refine (hE _ h4).mono ?_
         clear hE
         rintro e w5 ⟨rfl, Fd1, Fw1, D1, us1, W1, h5, hE5, hk5, hg5, hgw5⟩)
      | (go_at_call 232
         refine (hTn _ _ _ _ _ _ h5 hE5).mono ?_
         clear hTn
         rintro e w6 ⟨rfl, Fd2, D2, us2, W2, h6, hT6, hk6, hg6⟩))
    go_ret
    have hK4 : Keep (Fd ++ (Ft ++ Fw)) w w4 := hk3.zero.trans hk4 (fun x hx => .inl (by simp [hx]))
    have hK5 := hK4.trans hk5 (fun x hx => .inl hx)
    refine ⟨rfl, Fd2, Fw1, D1, us1, W1, D2, us2, W2, h6, hE5, hT6, hK5.trans hk6 ?_, (hg5.keep hK4).trans hK5.size hg6, hgw5.keep hK4⟩
    intro x hx
    simp only [List.mem_append, List.mem_singleton] at hx ⊢
    rcases hx with hx | hx | rfl
    · rcases hg5 x hx with hx | hx
      · exact .inl (.inl hx)
      · exact .inr (Nat.le_trans hK4.size hx)
    · exact .inl (.inr (.inl hx))
    · exact .inl (.inr (.inr hw.inP))
  · have hnI : (0 : Int) < (n : Nat) := by omega
    go_enter Tryz.func212, Tryz.ntmps212
    go_wp2_with fail
    refine wp_region_ht (fun w' => w'.cell? ⟨p, 4, none⟩ = some (.int .i64 off) ∧ w'.cell? ⟨p, 8, none⟩ = some (.slice IA n ic) ∧ w'.cell? ⟨p, 9, none⟩ = some (.slice BA mb bc)) 19 [(0, false), (1, false), (2, false), (3, false), (4, false), (5, false), (6, false), (7, false), (8, false), (9, false), (10, false), (11, false), (12, false), (13, false), (14, false), (15, false), (16, false), (17, false), (18, false)]
      (by kernel_rfl) (by kernel_rfl) (fun _ _ d _ _ h => by cases d <;> exact h) ⟨c4, c8, c9⟩ ?_
    simp only [PI]
    iterate 19 (refine wpT_held ?_ (by rfl) ?_ ?_; rotate_left; (focus (rintro W ⟨hW1, hW2, hW3⟩; go_simp; try with_reducible rfl)); simp only [Act.put, PU])
    refine wpT_nil ?_
    clear c2 c4 c8 c9
    go_wp2_with (first
      | (go_at_call 230
         refine hF1.mono ?_
         clear hF1
         rintro e w2 ⟨rfl, hk2⟩
         replace hk2 := (Keep.refl [] w).drew.trans0 hk2
         obtain ⟨c2, c4, c8, c9⟩ := hpk hk2)
      | (go_at_call 225
         refine (hbe _).mono ?_
         clear hbe
         rintro e w' ⟨rfl, rfl⟩)
      | (go_at_call 230
         refine (hF2 _ hk2).mono ?_
         clear hF2
         rintro e w3 ⟨rfl, hk3⟩
         replace hk3 := hk2.trans0 hk3
         obtain ⟨c2, c4, c8, c9⟩ := hpk hk3)
      | (go_at_call 231
         refine (hTk _ hk3).mono ?_
         clear hTk
         rintro e w4 ⟨rfl, ht4, hk4⟩
         have h4 := (hGe.keep0 hk3).setTab ht4 hk4)
      | (go_at_call 178
         refine (hE _ h4).mono ?_
         clear hE
         rintro e w5 ⟨rfl, Fd1, Fw1, D1, us1, W1, h5, hE5, hk5, hg5, hgw5⟩)
      | (go_at_call 232
         refine (hTn _ _ _ _ _ _ h5 hE5).mono ?_
         clear hTn
         rintro e w6 ⟨rfl, Fd2, D2, us2, W2, h6, hT6, hk6, hg6⟩))
    go_ret
    have hK4 : Keep (Fd ++ (Ft ++ Fw)) w w4 := hk3.zero.trans hk4 (fun x hx => .inl (by simp [hx]))
    have hK5 := hK4.trans hk5 (fun x hx => .inl hx)
    refine ⟨rfl, Fd2, Fw1, D1, us1, W1, D2, us2, W2, h6, hE5, hT6, hK5.trans hk6 ?_, (hg5.keep hK4).trans hK5.size hg6, hgw5.keep hK4⟩
    intro x hx
    simp only [List.mem_append, List.mem_singleton] at hx ⊢
    rcases hx with hx | hx | rfl
    · rcases hg5 x hx with hx | hx
      · exact .inl (.inl hx)
      · exact .inr (Nat.le_trans hK4.size hx)
    · exact .inl (.inr (.inl hx))
    · exact .inl (.inr (.inr hw.inP))
end
end Go.Proofs.YtglbkndbbhamcaaGreat
