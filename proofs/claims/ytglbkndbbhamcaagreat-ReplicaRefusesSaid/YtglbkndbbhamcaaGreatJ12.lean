/-
  A part of the proof: lemmas, and contracts of functions; their conditions stand in them.
-/
import Derived.Test.YtglbkndbbhamcaaGreatJ11
namespace Go.Proofs.YtglbkndbbhamcaaGreat
section
open Go.RowKit
set_option maxHeartbeats 1000000 in
theorem Get_some (w : World) (base r a k : Nat) (v : Value) (bs : List UInt8) (h : RowAt w base r v bs a) (hk : k = 1 ∨ k = 2 ∨ k = 4) :
    Calls Tryz.prog 55 #[.pointer (some ⟨r, 0, none⟩), .int .i64 (k : Nat)] w fun e w' => ∃ (z a' : Nat) (ok : Bool), e = .returned (.tuple #[.int .i64 (z : Nat), .bool ok]) ∧ RowAt w' base r v bs a' ∧ Keep [r] w w' := by
  by_cases hm : a + k ≤ bs.length
  · refine (Get_row w base r a k v bs h hk hm).mono ?_
    rintro e w' ⟨rfl, h1, h2⟩
    exact ⟨_, _, _, rfl, h1, h2⟩
  · have hT := Left_any w base r a _ bs h
    have hTw := fun W => wide_any k hk W
    have hfew := h.few
    have hle := h.le
    obtain ⟨n, hn⟩ : ∃ n, n = bs.length := ⟨_, rfl⟩
    rw [← hn] at hT hm hfew hle
    have HN := hide hn
    have hgt : ((n : Nat) : Int) - (a : Nat) < (k : Nat) := by omega
    have hk4 : k ≤ 4 := by omega
    clear hn hk hm
    go_enter Tryz.func55, Tryz.ntmps55
    go_wp2_with (first | (refine (hTw _).mono ?_; clear hTw; rintro e w' ⟨rfl, rfl⟩) | (refine hT.mono ?_; clear hT; rintro e w' ⟨rfl, rfl⟩))
    go_ret2
    exact ⟨0, a, false, rfl, h.drew, (Keep.refl _ _).drew⟩
set_option maxHeartbeats 1000000 in
theorem Take_some (w : World) (base r a : Nat) (m : Int) (v : Value) (bs : List UInt8) (h : RowAt w base r v bs a) :
    Calls Tryz.prog 54 #[.pointer (some ⟨r, 0, none⟩), .int .i64 m] w fun e w' => ∃ (UA : Option Addr) (l uc a' : Nat) (xs : List UInt8) (ok : Bool), e = .returned (.tuple #[.slice UA l uc, .bool ok]) ∧ w'.ownsRow w.heap.size 5 1 (.slice UA l uc) l (bys xs) ∧ RowAt w' base r v bs a' ∧ Keep [r] w w' := by
  by_cases hm : 0 ≤ m ∧ (a : Int) + m ≤ bs.length
  · obtain ⟨k, rfl⟩ : ∃ k : Nat, m = k := ⟨m.toNat, by omega⟩
    refine (Take_row w base r a k v bs h (by omega)).mono ?_
    rintro e w' ⟨u, rfl, h0, h1, h2⟩
    obtain ⟨UA, uc, rfl, _⟩ := own_form h0
    exact ⟨UA, k, uc, _, _, _, rfl, h0, h1, h2⟩
  · have hT := Left_any w base r a _ bs h
    have hfew := h.few
    have hle := h.le
    obtain ⟨n, hn⟩ : ∃ n, n = bs.length := ⟨_, rfl⟩
    rw [← hn] at hT hm hfew hle
    have HN := hide hn
    clear hn
    have hfin : ∀ e, e = Ending.returned (.tuple #[.slice none 0 0, .bool false]) → ∃ (UA : Option Addr) (l uc a' : Nat) (xs : List UInt8) (ok : Bool), e = .returned (.tuple #[.slice UA l uc, .bool ok]) ∧ w.ownsRow w.heap.size 5 1 (.slice UA l uc) l (bys xs) ∧ RowAt w base r v bs a' ∧ Keep [r] w w :=
      fun e he => ⟨none, 0, 0, a, [], false, he, World.ownsRow_nil _ _ _ _, h, Keep.refl _ _⟩
    by_cases h0 : m < 0
    · clear hm hT
      go_enter Tryz.func54, Tryz.ntmps54
      go_wp2
      go_ret2
      exact hfin _ rfl
    · have hgt : ((n : Nat) : Int) - (a : Nat) < m := by omega
      clear hm
      go_enter Tryz.func54, Tryz.ntmps54
      go_wp2_with (refine hT.mono ?_; clear hT; rintro e w' ⟨rfl, rfl⟩)
      go_ret2
      exact ⟨none, 0, 0, a, [], false, rfl, World.ownsRow_nil _ _ _ _, h.drew, (Keep.refl _ _).drew⟩
set_option maxHeartbeats 8000000 in
set_option maxRecDepth 20000 in
theorem Decode_short (A : Option Addr) (n c : Nat) (bs : List UInt8) (w : World) (ha : Rd w A n (bys bs)) (hn : n < 25) :
    Calls Tryz.prog 21 #[.slice A n c] w fun e w' => e = .returned (.tuple #[.agg #[.int .i64 0, .int .i64 0, .int .i64 0, .int .i64 0, .int .i64 0, .int .i64 0, .int .i64 0, .slice none 0 0], .int .i64 2]) ∧ Keep [] w w' := by
  have hl : bs.length = n := by simpa using ha.1
  have hFr := From_any A n c bs (w.alloc (.cells #[.int .i64 0, .int .i64 0, .int .i64 0, .int .i64 0, .int .i64 0, .int .i64 0, .int .i64 0, .slice none 0 0] 59)) (ha.keep ((Keep.refl _ _).alloc _)) (by omega)
  have hF0 := Blk.new w 59 #[.int .i64 0, .int .i64 0, .int .i64 0, .int .i64 0, .int .i64 0, .int .i64 0, .int .i64 0, .slice none 0 0]
  have HL := hide hl
  clear hl
  go_enter Tryz.func21, Tryz.ntmps21
  go_wp2_with (
    (refine hFr.mono ?_)
    clear hFr
    rintro x W ⟨r, v, rfl, hR, hkW⟩
    have hF := hF0.keep0 hkW
    have hkw : Keep [] w W := ((Keep.refl _ _).alloc _).trans0 hkW
    have hFl := hF.lt)
  have hb1 : w.heap.size < (w.alloc (.cells #[.int .i64 0, .int .i64 0, .int .i64 0, .int .i64 0, .int .i64 0, .int .i64 0, .int .i64 0, .slice none 0 0] 59)).heap.size := by simp
  generalize (w.alloc (.cells #[.int .i64 0, .int .i64 0, .int .i64 0, .int .i64 0, .int .i64 0, .int .i64 0, .int .i64 0, .slice none 0 0] 59)).heap.size = base at *
  have hFr : w.heap.size ≠ r := by have := hR.base; omega
  have hFr' : w.heap.size ∉ [r] := by simpa using hFr
  have hrn : ∀ x ∈ [r], x ∈ ([] : List Nat) ∨ w.heap.size ≤ x := fun x hx => .inr (by have := hR.base; simp at hx; omega)
  clear hF0 hkW
  have hT := Take_some W base r 0 2 v bs hR
  go_wp2_with (
    (refine hT.mono ?_)
    clear hT
    rintro x W2 ⟨_, _, _, a2, _, _, rfl, _, hR2, hk2⟩
    have hF2 := hF.keep hk2 hFr'
    have hkw2 := hkw.trans hk2 hrn
    have hFl2 := hF2.lt)
  clear hR hF hkw hFl hk2
  have hT := Get_some _ base r _ 1 v bs hR2 (by omega)
  go_wp2_with (
    (refine hT.mono ?_)
    clear hT
    rintro x Wx0 ⟨p0, _, _, rfl, hR, hk2⟩
    have hF := hF2.keep hk2 hFr'
    have hkw := hkw2.trans hk2 hrn
    have hFl := hF.lt
    have hfz := hF.frozen 0
    have hcc := hF.cell 0)
  have hRx0 := hR.far (F := w.heap.size) (i := 0) hb1 (.int .i64 (p0 : Nat))
  have hFx0 := hF.set 0 (.int .i64 (p0 : Nat))
  have hkwx0 := hkw.setCell (p := ⟨w.heap.size, 0, none⟩) (.inr (Nat.le_refl _)) (.int .i64 (p0 : Nat))
  have hFlx0 := hFx0.lt
  clear hR hk2 hF hkw hFl hfz hcc hR2 hF2 hkw2 hFl2
  have hT := Get_some _ base r _ 4 v bs hRx0 (by omega)
  go_wp2_with (
    (refine hT.mono ?_)
    clear hT
    rintro x Wx1 ⟨p1, _, _, rfl, hR, hk2⟩
    have hF := hFx0.keep hk2 hFr'
    have hkw := hkwx0.trans hk2 hrn
    have hFl := hF.lt
    have hfz := hF.frozen 1
    have hcc := hF.cell 1)
  have hRx1 := hR.far (F := w.heap.size) (i := 1) hb1 (.int .i64 (p1 : Nat))
  have hFx1 := hF.set 1 (.int .i64 (p1 : Nat))
  have hkwx1 := hkw.setCell (p := ⟨w.heap.size, 1, none⟩) (.inr (Nat.le_refl _)) (.int .i64 (p1 : Nat))
  have hFlx1 := hFx1.lt
  clear hR hk2 hF hkw hFl hfz hcc hRx0 hFx0 hkwx0 hFlx0
  have hT := Get_some _ base r _ 4 v bs hRx1 (by omega)
  go_wp2_with (
    (refine hT.mono ?_)
    clear hT
    rintro x Wx2 ⟨p2, _, _, rfl, hR, hk2⟩
    have hF := hFx1.keep hk2 hFr'
    have hkw := hkwx1.trans hk2 hrn
    have hFl := hF.lt
    have hfz := hF.frozen 2
    have hcc := hF.cell 2)
  have hRx2 := hR.far (F := w.heap.size) (i := 2) hb1 (.int .i64 (p2 : Nat))
  have hFx2 := hF.set 2 (.int .i64 (p2 : Nat))
  have hkwx2 := hkw.setCell (p := ⟨w.heap.size, 2, none⟩) (.inr (Nat.le_refl _)) (.int .i64 (p2 : Nat))
  have hFlx2 := hFx2.lt
  clear hR hk2 hF hkw hFl hfz hcc hRx1 hFx1 hkwx1 hFlx1
  have hT := Get_some _ base r _ 1 v bs hRx2 (by omega)
  go_wp2_with (
    (refine hT.mono ?_)
    clear hT
    rintro x Wx3 ⟨p3, _, _, rfl, hR, hk2⟩
    have hF := hFx2.keep hk2 hFr'
    have hkw := hkwx2.trans hk2 hrn
    have hFl := hF.lt
    have hfz := hF.frozen 3
    have hcc := hF.cell 3)
  have hRx3 := hR.far (F := w.heap.size) (i := 3) hb1 (.int .i64 (p3 : Nat))
  have hFx3 := hF.set 3 (.int .i64 (p3 : Nat))
  have hkwx3 := hkw.setCell (p := ⟨w.heap.size, 3, none⟩) (.inr (Nat.le_refl _)) (.int .i64 (p3 : Nat))
  have hFlx3 := hFx3.lt
  clear hR hk2 hF hkw hFl hfz hcc hRx2 hFx2 hkwx2 hFlx2
  have hT := Get_some _ base r _ 1 v bs hRx3 (by omega)
  go_wp2_with (
    (refine hT.mono ?_)
    clear hT
    rintro x Wx4 ⟨p4, _, _, rfl, hR, hk2⟩
    have hF := hFx3.keep hk2 hFr'
    have hkw := hkwx3.trans hk2 hrn
    have hFl := hF.lt
    have hfz := hF.frozen 4
    have hcc := hF.cell 4)
  have hRx4 := hR.far (F := w.heap.size) (i := 4) hb1 (.int .i64 (p4 : Nat))
  have hFx4 := hF.set 4 (.int .i64 (p4 : Nat))
  have hkwx4 := hkw.setCell (p := ⟨w.heap.size, 4, none⟩) (.inr (Nat.le_refl _)) (.int .i64 (p4 : Nat))
  have hFlx4 := hFx4.lt
  clear hR hk2 hF hkw hFl hfz hcc hRx3 hFx3 hkwx3 hFlx3
  have hT := Get_some _ base r _ 4 v bs hRx4 (by omega)
  go_wp2_with (
    (refine hT.mono ?_)
    clear hT
    rintro x Wx5 ⟨p5, _, _, rfl, hR, hk2⟩
    have hF := hFx4.keep hk2 hFr'
    have hkw := hkwx4.trans hk2 hrn
    have hFl := hF.lt
    have hfz := hF.frozen 5
    have hcc := hF.cell 5)
  have hRx5 := hR.far (F := w.heap.size) (i := 5) hb1 (.int .i64 (p5 : Nat))
  have hFx5 := hF.set 5 (.int .i64 (p5 : Nat))
  have hkwx5 := hkw.setCell (p := ⟨w.heap.size, 5, none⟩) (.inr (Nat.le_refl _)) (.int .i64 (p5 : Nat))
  have hFlx5 := hFx5.lt
  clear hR hk2 hF hkw hFl hfz hcc hRx4 hFx4 hkwx4 hFlx4
  have hT := Get_some _ base r _ 4 v bs hRx5 (by omega)
  go_wp2_with (
    (refine hT.mono ?_)
    clear hT
    rintro x Wx6 ⟨p6, _, _, rfl, hR, hk2⟩
    have hF := hFx5.keep hk2 hFr'
    have hkw := hkwx5.trans hk2 hrn
    have hFl := hF.lt
    have hfz := hF.frozen 6
    have hcc := hF.cell 6)
  have hRx6 := hR.far (F := w.heap.size) (i := 6) hb1 (.int .i64 (p6 : Nat))
  have hFx6 := hF.set 6 (.int .i64 (p6 : Nat))
  have hkwx6 := hkw.setCell (p := ⟨w.heap.size, 6, none⟩) (.inr (Nat.le_refl _)) (.int .i64 (p6 : Nat))
  have hFlx6 := hFx6.lt
  clear hR hk2 hF hkw hFl hfz hcc hRx5 hFx5 hkwx5 hFlx5
  simp only [List.setIfInBounds_toArray, List.set_cons_zero, List.set_cons_succ] at hFx6
  have hLf := Left_any _ base r _ v bs hRx6
  have hTk := fun m => Take_some _ base r _ m v bs hRx6.drew
  have hkd : Keep [] w _ := hkwx6.drew
  go_wp2_with (first
    | (go_at_call 56
       refine hLf.mono ?_
       clear hLf
       rintro x w' ⟨rfl, rfl⟩)
    | (go_at_call 54
       refine (hTk _).mono ?_
       clear hTk
       rintro x W9 ⟨UA, m, uc, _, xs, _, rfl, hu, hR9, hk9⟩
       have hF9 := hFx6.drew.keep hk9 hFr'
       have hkw9 := hkd.trans hk9 hrn
       have hFl9 := hF9.lt
       have hfz := hF9.frozen 7
       have hcc := hF9.cell 7
       have hF10 : Blk (W9.setCell ⟨w.heap.size, 7, none⟩ (.slice UA m uc)) w.heap.size 59 #[.int .i64 p0, .int .i64 p1, .int .i64 p2, .int .i64 p3, .int .i64 p4, .int .i64 p5, .int .i64 p6, .slice UA m uc] := (by simpa using hF9.set 7 (.slice UA m uc))
       obtain ⟨e0, e1, e2, e3, e4, e5, e6, e7⟩ := frame_cells hF10))
  have hk10 : Keep [w.heap.size] W9 (W9.setCell ⟨w.heap.size, 7, none⟩ (.slice UA m uc)) := (Keep.refl _ _).setCell (p := ⟨w.heap.size, 7, none⟩) (.inl (by simp)) _
  have hkw10 := hkw9.trans hk10 (fun x hx => .inr (by simp at hx; omega))
  have hwu : w.heap.size ∉ (Value.slice UA m uc).ownBlock.toList := fun hm => own_blk_ne hu hF9 (by decide) (by simpa using hm)
  have hu10 := own_keep hu hk10 (fun g hg hm => by simp at hm; subst hm; exact hwu (by simpa using hg))
  have hl10 := hF10.lt
  generalize W9.setCell ⟨w.heap.size, 7, none⟩ (.slice UA m uc) = W10 at *
  clear hF9 hkw9 hk9 hk10 hu hFl9 hfz hcc hFx6 hkwx6 hkd hR9 hRx6 hFlx6
  have hxl : xs.length = m := by simpa using hu10.1
  by_cases hmay : FrMay p0 p1 p2 p3 p4 p5 p6 xs
  · have hE := Encode_may p0 p1 p2 p3 p4 p5 p6 UA m uc xs _ (Rd.of_own hu10) hmay
    unfold frv at hE
    clear hmay hFr hFr' hrn hb1
    have heq : ¬ frBytes p0 p1 p2 p3 p4 p5 p6 xs = bs := fun h => by
      have h1 := congrArg List.length h
      rw [unhide HL] at h1
      simp at h1
      omega
    have HEQ := hide heq
    have HXL := hide hxl
    clear heq hxl
    go_wp2_with (
      (refine hE.mono ?_)
      clear hE
      rintro x W11 ⟨y, rfl, hy, hk11⟩
      obtain ⟨YA, yc, rfl, _⟩ := own_form hy
      have hF11 := hF10.keep0 hk11
      have hl11 := hF11.lt
      clear e0 e1 e2 e3 e4 e5 e6 e7
      obtain ⟨e0, e1, e2, e3, e4, e5, e6, e7⟩ := frame_cells hF11
      have hB := bytesEqual_any YA A (25 + m) n yc c _ bs W11 (Rd.of_own hy) (ha.keep (hkw10.trans0 hk11))
      rw [decide_eq_false (unhide HEQ)] at hB
      have q0 := hF11.frozen 0
      have q1 := hF11.frozen 1
      have q2 := hF11.frozen 2
      have q3 := hF11.frozen 3
      have q4 := hF11.frozen 4
      have q5 := hF11.frozen 5
      have q6 := hF11.frozen 6
      have q7 := hF11.frozen 7)
    go_wp2_with (refine hB.mono ?_; clear hB; rintro x w' ⟨rfl, rfl⟩)
    have h8 := hF11.put8 (.int .i64 0) (.int .i64 0) (.int .i64 0) (.int .i64 0) (.int .i64 0) (.int .i64 0) (.int .i64 0) (.slice none 0 0)
    have hk8' := Keep.put8 W11 w.heap.size (.int .i64 0) (.int .i64 0) (.int .i64 0) (.int .i64 0) (.int .i64 0) (.int .i64 0) (.int .i64 0) (.slice none 0 0)
    unfold put8 at h8 hk8'
    obtain ⟨g0, g1, g2, g3, g4, g5, g6, g7⟩ := frame_cells h8
    have hfin : Keep [] w _ := (hkw10.trans0 hk11).trans hk8' (fun x hx => .inr (by simp at hx; omega))
    refine bodyPost_ret (v := .tuple #[.agg #[.int .i64 0, .int .i64 0, .int .i64 0, .int .i64 0, .int .i64 0, .int .i64 0, .int .i64 0, .slice none 0 0], .int .i64 2]) ?_ rfl ⟨rfl, hfin⟩
    simp [results, Tryz.results21, go_sem, g0, g1, g2, g3, g4, g5, g6, g7]
  · have hE := Encode_not p0 p1 p2 p3 p4 p5 p6 UA m uc xs _ (Rd.of_own hu10) hmay
    unfold frv at hE
    clear hmay
    go_wp2_with (
      (refine hE.mono ?_)
      clear hE
      rintro x W11 ⟨rfl, hk11⟩
      have hF11 := hF10.keep0 hk11
      have hl11 := hF11.lt
      clear e0 e1 e2 e3 e4 e5 e6 e7
      obtain ⟨e0, e1, e2, e3, e4, e5, e6, e7⟩ := frame_cells hF11
      have q0 := hF11.frozen 0
      have q1 := hF11.frozen 1
      have q2 := hF11.frozen 2
      have q3 := hF11.frozen 3
      have q4 := hF11.frozen 4
      have q5 := hF11.frozen 5
      have q6 := hF11.frozen 6
      have q7 := hF11.frozen 7)
    have h8 := hF11.put8 (.int .i64 0) (.int .i64 0) (.int .i64 0) (.int .i64 0) (.int .i64 0) (.int .i64 0) (.int .i64 0) (.slice none 0 0)
    have hk8' := Keep.put8 W11 w.heap.size (.int .i64 0) (.int .i64 0) (.int .i64 0) (.int .i64 0) (.int .i64 0) (.int .i64 0) (.int .i64 0) (.slice none 0 0)
    unfold put8 at h8 hk8'
    obtain ⟨g0, g1, g2, g3, g4, g5, g6, g7⟩ := frame_cells h8
    have hfin : Keep [] w _ := (hkw10.trans0 hk11).trans hk8' (fun x hx => .inr (by simp at hx; omega))
    refine bodyPost_ret (v := .tuple #[.agg #[.int .i64 0, .int .i64 0, .int .i64 0, .int .i64 0, .int .i64 0, .int .i64 0, .int .i64 0, .slice none 0 0], .int .i64 2]) ?_ rfl ⟨rfl, hfin⟩
    simp [results, Tryz.results21, go_sem, g0, g1, g2, g3, g4, g5, g6, g7]
end
end Go.Proofs.YtglbkndbbhamcaaGreat
