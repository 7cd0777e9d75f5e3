/-
  A part of the proof: lemmas, and contracts of functions; their conditions stand in them.
-/
import Derived.Test.YtglbkndbbhamcaaGreatJ10
import Derived.Test.YtglbkndbbhamcaaGreatJ07
namespace Go.Proofs.YtglbkndbbhamcaaGreat
section
open Go.RowKit
def OpMay (k b c e n : Nat) : Prop := (k = 1 ∧ b ≤ 63 ∧ c = 0 ∧ e = 0 ∧ n = 64) ∨ (k = 2 ∧ b ≤ 63 ∧ 1 ≤ c ∧ b + c ≤ 64 ∧ e = 0 ∧ n = 0) ∨ (k = 3 ∧ b = 0 ∧ c = 0 ∧ 1 ≤ e ∧ e ≤ 2147483647 ∧ n = 0)
theorem FrameMayR_op (v s k b c e n m : Nat) (A : Option Addr) (hv : 1 ≤ v ∧ v ≤ 2147483647) (hs : 1 ≤ s ∧ s ≤ 2147483647) (h : OpMay k b c e n) (w : World) :
    Calls Tryz.prog 47 #[frv k v s b c e 0 (.slice A n m)] w fun r w' => r = .returned (.bool true) ∧ Keep [] w w' := by
  rcases h with ⟨rfl, h1, rfl, rfl, rfl⟩ | ⟨rfl, h1, h2, h3, rfl, rfl⟩ | ⟨rfl, rfl, rfl, h1, h2, rfl⟩
  · exact FrameMayR_write v s b A m hv hs h1 w
  · exact FrameMayR_trim v s b c A m hv hs h1 ⟨h2, h3⟩ w
  · exact FrameMayR_mark v s e A m hv hs ⟨h1, h2⟩ w
theorem OpMay.fr {k b c e n v s : Nat} {xs : List UInt8} (h : OpMay k b c e n) (hv : 1 ≤ v ∧ v ≤ 2147483647) (hs : 1 ≤ s ∧ s ≤ 2147483647) (hx : xs.length = n) : FrMay k v s b c e 0 xs := by
  refine ⟨by omega, ?_⟩
  rcases h with ⟨rfl, h1, rfl, rfl, rfl⟩ | ⟨rfl, h1, h2, h3, rfl, rfl⟩ | ⟨rfl, rfl, rfl, h1, h2, rfl⟩
  · exact .inl ⟨rfl, by omega, by omega, by omega, rfl, rfl, hx⟩
  · exact .inr (.inl ⟨rfl, by omega, by omega, by omega, rfl, rfl, List.length_eq_zero_iff.1 hx⟩)
  · exact .inr (.inr (.inl ⟨rfl, by omega, rfl, rfl, by omega, rfl, List.length_eq_zero_iff.1 hx⟩))
set_option maxHeartbeats 4000000 in
set_option maxRecDepth 20000 in
theorem FrameFor_ok (v s k b c e n m : Nat) (A : Option Addr) (xs : List UInt8) (hv : 1 ≤ v ∧ v ≤ 2147483647) (hs : 1 ≤ s ∧ s ≤ 2147483647) (h : OpMay k b c e n) (w : World) (ha : Rd w A n (bys xs)) (hm : n ≤ m) :
    Calls Tryz.prog 38 #[.int .i64 (v : Nat), .int .i64 (s : Nat), .agg #[.int .i64 k, .int .i64 b, .int .i64 c, .int .i64 e, .slice A n m]] w fun r w' => ∃ A' m', r = .returned (.tuple #[frv k v s b c e 0 (.slice A' n m'), .bool true]) ∧ Rd w' A' n (bys xs) ∧ n ≤ m' ∧ Keep [] w w' := by
  have hMay := fun A m W => FrameMayR_op v s k b c e n m A hv hs h W
  have hK := fun W => WithinR_is (k : Nat) 1 3 true (by rcases h with ⟨rfl, _⟩ | ⟨rfl, _⟩ | ⟨rfl, _⟩ <;> simp) W
  have hn : n = 0 ∨ n = 64 := by rcases h with ⟨_, _, _, _, h⟩ | ⟨_, _, _, _, _, h⟩ | ⟨_, _, _, _, _, h⟩ <;> simp [h]
  have hxl : xs.length = n := by simpa using ha.1
  unfold frv at hMay ⊢
  clear h hv hs
  rcases hn with rfl | rfl
  · obtain rfl : xs = [] := List.length_eq_zero_iff.1 hxl
    have hM0 := hMay none 0
    clear hMay
    have hkA : Keep [] w (((w.alloc (.cells #[.int .i64 k, .int .i64 b, .int .i64 c, .int .i64 e, .slice A 0 m] 46)).alloc (.cells #[.int .i64 0, .int .i64 0, .int .i64 0, .int .i64 0, .int .i64 0, .int .i64 0, .int .i64 0, .slice none 0 0] 59)).alloc (.cells #[.int .i64 k, .int .i64 v, .int .i64 s, .int .i64 b, .int .i64 c, .int .i64 e, .int .i64 0, .slice none 0 0] 59)) := (((Keep.refl _ _).alloc _).alloc _).alloc _
    have hb6 := (Blk.new (w.alloc (.cells #[.int .i64 k, .int .i64 b, .int .i64 c, .int .i64 e, .slice A 0 m] 46)) 59 #[.int .i64 0, .int .i64 0, .int .i64 0, .int .i64 0, .int .i64 0, .int .i64 0, .int .i64 0, .slice none 0 0]).keep0 ((Keep.refl _ _).alloc (.cells #[.int .i64 k, .int .i64 v, .int .i64 s, .int .i64 b, .int .i64 c, .int .i64 e, .int .i64 0, .slice none 0 0] 59))
    have hb8 := Blk.new ((w.alloc (.cells #[.int .i64 k, .int .i64 b, .int .i64 c, .int .i64 e, .slice A 0 m] 46)).alloc (.cells #[.int .i64 0, .int .i64 0, .int .i64 0, .int .i64 0, .int .i64 0, .int .i64 0, .int .i64 0, .slice none 0 0] 59)) 59 #[.int .i64 k, .int .i64 v, .int .i64 s, .int .i64 b, .int .i64 c, .int .i64 e, .int .i64 0, .slice none 0 0]
    simp only [World.size_alloc] at hb6 hb8
    go_enter Tryz.func38, Tryz.ntmps38
    go_wp2_with (first
      | (go_at_call 87; refine (hK _).mono ?_; clear hK; rintro r w' ⟨rfl, rfl⟩)
      | (go_at_call 47
         refine (hM0 _).mono ?_
         clear hM0
         rintro r w1 ⟨rfl, hk1⟩
         replace hb6 := hb6.keep0 hk1
         replace hb8 := hb8.keep0 hk1
         obtain ⟨c0, c1, c2, c3, c4, c5, c6, c7⟩ := frame_cells hb8
         have q0 := hb6.frozen 0
         have q1 := hb6.frozen 1
         have q2 := hb6.frozen 2
         have q3 := hb6.frozen 3
         have q4 := hb6.frozen 4
         have q5 := hb6.frozen 5
         have q6 := hb6.frozen 6
         have q7 := hb6.frozen 7
         obtain ⟨z0, z1, z2, z3, z4, z5, z6, z7⟩ := frame_cells hb6
         have hlt6 := hb6.lt
         have hlt8 := hb8.lt))
    have hz := hb6
    have h8 := hz.put8 (.int .i64 k) (.int .i64 v) (.int .i64 s) (.int .i64 b) (.int .i64 c) (.int .i64 e) (.int .i64 0) (.slice none 0 0)
    have hk8' := Keep.put8 w1 (w.heap.size + 1) (.int .i64 k) (.int .i64 v) (.int .i64 s) (.int .i64 b) (.int .i64 c) (.int .i64 e) (.int .i64 0) (.slice none 0 0)
    unfold put8 at h8 hk8'
    obtain ⟨g0, g1, g2, g3, g4, g5, g6, g7⟩ := frame_cells h8
    have hkw : Keep [] w w1 := hkA.trans0 hk1
    exact bodyPost_ret (v := .tuple #[.agg #[.int .i64 k, .int .i64 v, .int .i64 s, .int .i64 b, .int .i64 c, .int .i64 e, .int .i64 0, .slice none 0 0], .bool true]) (by simp [results, Tryz.results38, go_sem, g0, g1, g2, g3, g4, g5, g6, g7]) rfl ⟨_, _, rfl, Rd.nil _ _, Nat.le_refl _, hkw.trans hk8' (fun x hx => .inr (by simp at hx; omega))⟩
  · have hkA : Keep [] w (((w.alloc (.cells #[.int .i64 k, .int .i64 b, .int .i64 c, .int .i64 e, .slice A 64 m] 46)).alloc (.cells #[.int .i64 0, .int .i64 0, .int .i64 0, .int .i64 0, .int .i64 0, .int .i64 0, .int .i64 0, .slice none 0 0] 59)).alloc (.cells #[.int .i64 k, .int .i64 v, .int .i64 s, .int .i64 b, .int .i64 c, .int .i64 e, .int .i64 0, .slice none 0 0] 59)) := (((Keep.refl _ _).alloc _).alloc _).alloc _
    have hb6 := (Blk.new (w.alloc (.cells #[.int .i64 k, .int .i64 b, .int .i64 c, .int .i64 e, .slice A 64 m] 46)) 59 #[.int .i64 0, .int .i64 0, .int .i64 0, .int .i64 0, .int .i64 0, .int .i64 0, .int .i64 0, .slice none 0 0]).keep0 ((Keep.refl _ _).alloc (.cells #[.int .i64 k, .int .i64 v, .int .i64 s, .int .i64 b, .int .i64 c, .int .i64 e, .int .i64 0, .slice none 0 0] 59))
    have hb8 := Blk.new ((w.alloc (.cells #[.int .i64 k, .int .i64 b, .int .i64 c, .int .i64 e, .slice A 64 m] 46)).alloc (.cells #[.int .i64 0, .int .i64 0, .int .i64 0, .int .i64 0, .int .i64 0, .int .i64 0, .int .i64 0, .slice none 0 0] 59)) 59 #[.int .i64 k, .int .i64 v, .int .i64 s, .int .i64 b, .int .i64 c, .int .i64 e, .int .i64 0, .slice none 0 0]
    simp only [World.size_alloc] at hb6 hb8
    have hP := fun W hW => Part_any A 64 m xs 0 64 W hW (by omega) (by omega) (by omega) hm (by omega)
    rw [show ((64 : Int) - 0).toNat = xs.length by rw [hxl]; rfl, show (List.take xs.length (List.drop (Int.toNat 0) xs)) = xs by simp] at hP
    rw [hxl] at hP
    go_enter Tryz.func38, Tryz.ntmps38
    go_wp2_with (first
      | (go_at_call 87; refine (hK _).mono ?_; clear hK; rintro r w' ⟨rfl, rfl⟩)
      | (go_at_call 86
         refine (hP _ (ha.keep hkA)).mono ?_
         clear hP
         rintro r w1 ⟨u, rfl, hu, hk1⟩
         replace hb6 := hb6.keep0 hk1
         replace hb8 := hb8.keep0 hk1
         obtain ⟨UA, uc, rfl, hu0, huc, _⟩ := own_form hu
         have hb9 := hb8.set 7 (.slice UA 64 uc)
         have hk9 : Keep [w.heap.size + 1 + 1] w1 (w1.setCell ⟨w.heap.size + 1 + 1, 7, none⟩ (.slice UA 64 uc)) := (Keep.refl _ _).setCell (.inl (by simp)) _
         have hu9 := own_keep hu hk9 (fun x hx hm => by simp at hm; subst hm; exact own_blk_ne hu hb8 (by decide) hx)
         have hb69 := hb6.keep hk9 (by simp)
         have f7 := hb8.frozen 7
         obtain ⟨y0, y1, y2, y3, y4, y5, y6, y7⟩ := frame_cells hb8
         have hb5 := (Blk.new w 46 #[.int .i64 k, .int .i64 b, .int .i64 c, .int .i64 e, .slice A 64 m]).keep0 ((((Keep.refl _ _).alloc _).alloc _).trans0 hk1)
         obtain ⟨o0, o1, o2, o3, o4⟩ := op_cells hb5
         have hlt8' := hb8.lt
         have hM0 := hMay UA uc
         clear hMay)
      | (go_at_call 47
         refine (hM0 _).mono ?_
         clear hM0
         rintro r w2 ⟨rfl, hk2⟩
         replace hb6 := hb69.keep0 hk2
         replace hb8 := hb9.keep0 hk2
         simp at hb8
         obtain ⟨c0, c1, c2, c3, c4, c5, c6, c7⟩ := frame_cells hb8
         have q0 := hb6.frozen 0
         have q1 := hb6.frozen 1
         have q2 := hb6.frozen 2
         have q3 := hb6.frozen 3
         have q4 := hb6.frozen 4
         have q5 := hb6.frozen 5
         have q6 := hb6.frozen 6
         have q7 := hb6.frozen 7
         obtain ⟨z0, z1, z2, z3, z4, z5, z6, z7⟩ := frame_cells hb6
         have hlt6 := hb6.lt
         have hlt8 := hb8.lt))
    have hz := hb6
    have h8 := hz.put8 (.int .i64 k) (.int .i64 v) (.int .i64 s) (.int .i64 b) (.int .i64 c) (.int .i64 e) (.int .i64 0) (.slice UA 64 uc)
    have hk8' := Keep.put8 w2 (w.heap.size + 1) (.int .i64 k) (.int .i64 v) (.int .i64 s) (.int .i64 b) (.int .i64 c) (.int .i64 e) (.int .i64 0) (.slice UA 64 uc)
    unfold put8 at h8 hk8'
    obtain ⟨g0, g1, g2, g3, g4, g5, g6, g7⟩ := frame_cells h8
    have hkw : Keep [] w w2 := ((hkA.trans0 hk1).trans hk9 (fun x hx => .inr (by simp at hx; omega))).trans0 hk2
    exact bodyPost_ret (v := .tuple #[.agg #[.int .i64 k, .int .i64 v, .int .i64 s, .int .i64 b, .int .i64 c, .int .i64 e, .int .i64 0, .slice UA 64 uc], .bool true]) (by simp [results, Tryz.results38, go_sem, g0, g1, g2, g3, g4, g5, g6, g7]) rfl ⟨_, _, rfl, (Rd.of_own (own_keep0 hu9 hk2)).keepIf hk8' (fun a ha hm => by simp at hm; exact own_blk_ne (own_keep0 hu9 hk2) hb6 (by decide) (by rw [ha]; simp [Value.ownBlock, hm])), (by omega), hkw.trans hk8' (fun x hx => .inr (by simp at hx; omega))⟩
end
section
open Go.RowKit
def DecPost (w : World) (bs : List UInt8) (r : Ending) (w' : World) : Prop :=
  Keep [] w w' ∧ (((parse bs).May ∧ (parse bs).bytes = bs ∧ ∃ u, r = .returned (.tuple #[.agg #[.int .i64 (parse bs).k, .int .i64 (parse bs).v, .int .i64 (parse bs).s, .int .i64 (parse bs).b, .int .i64 (parse bs).c, .int .i64 (parse bs).e, .int .i64 (parse bs).d, u], .int .i64 0]) ∧
      w'.ownsRow w.heap.size 5 1 u (bs.length - 25) (bys (parse bs).data)) ∨
    (¬ ((parse bs).May ∧ (parse bs).bytes = bs) ∧ r = .returned (.tuple #[.agg #[.int .i64 0, .int .i64 0, .int .i64 0, .int .i64 0, .int .i64 0, .int .i64 0, .int .i64 0, .slice none 0 0], .int .i64 2])))
theorem DecPost.ok {w w' : World} {bs : List UInt8} {k v s b c e d m : Nat} {data : List UInt8} {u : Value} (hk : Keep [] w w') (hp : parse bs = ⟨k, v, s, b, c, e, d, data⟩) (h1 : FrMay k v s b c e d data) (h2 : frBytes k v s b c e d data = bs) (hm : bs.length = m + 25) (hu : w'.ownsRow w.heap.size 5 1 u m (bys data)) :
    DecPost w bs (.returned (.tuple #[.agg #[.int .i64 k, .int .i64 v, .int .i64 s, .int .i64 b, .int .i64 c, .int .i64 e, .int .i64 d, u], .int .i64 0])) w' := by
  refine ⟨hk, .inl ?_⟩
  rw [hp]
  exact ⟨h1, h2, u, rfl, by rw [hm, Nat.add_sub_cancel]; exact hu⟩
theorem DecPost.bad {w w' : World} {bs : List UInt8} (hk : Keep [] w w') (h : ¬ ((parse bs).May ∧ (parse bs).bytes = bs)) :
    DecPost w bs (.returned (.tuple #[.agg #[.int .i64 0, .int .i64 0, .int .i64 0, .int .i64 0, .int .i64 0, .int .i64 0, .int .i64 0, .slice none 0 0], .int .i64 2])) w' := ⟨hk, .inr ⟨h, rfl⟩⟩
theorem RowAt.far {w : World} {base r a F i : Nat} {v : Value} {bs : List UInt8} (h : RowAt w base r v bs a) (hF : F < base) (u : Value) : RowAt (w.setCell ⟨F, i, none⟩ u) base r v bs a :=
  ⟨h.blk.far (p := ⟨F, i, none⟩) (by have := h.base; simp; omega) u, own_set h.own (fun hm => by have := (own_mem h.own hm).1; omega) u, h.base, h.le, h.few⟩
end
section
open Go.RowKit
set_option maxHeartbeats 8000000 in
set_option maxRecDepth 20000 in
theorem Decode_any (A : Option Addr) (n c : Nat) (bs : List UInt8) (w : World) (ha : Rd w A n (bys bs)) (hn : 25 ≤ n) (hn2 : n ≤ 65536) :
    Calls Tryz.prog 21 #[.slice A n c] w (DecPost w bs) := by
  have hl : bs.length = n := by simpa using ha.1
  have hFr := From_any A n c bs (w.alloc (.cells #[.int .i64 0, .int .i64 0, .int .i64 0, .int .i64 0, .int .i64 0, .int .i64 0, .int .i64 0, .slice none 0 0] 59)) (ha.keep ((Keep.refl _ _).alloc _)) hn2
  have hF0 := Blk.new w 59 #[.int .i64 0, .int .i64 0, .int .i64 0, .int .i64 0, .int .i64 0, .int .i64 0, .int .i64 0, .slice none 0 0]
  obtain ⟨p0, hp0⟩ : ∃ q, q = (parse bs).k := ⟨_, rfl⟩
  obtain ⟨p1, hp1⟩ : ∃ q, q = (parse bs).v := ⟨_, rfl⟩
  obtain ⟨p2, hp2⟩ : ∃ q, q = (parse bs).s := ⟨_, rfl⟩
  obtain ⟨p3, hp3⟩ : ∃ q, q = (parse bs).b := ⟨_, rfl⟩
  obtain ⟨p4, hp4⟩ : ∃ q, q = (parse bs).c := ⟨_, rfl⟩
  obtain ⟨p5, hp5⟩ : ∃ q, q = (parse bs).e := ⟨_, rfl⟩
  obtain ⟨p6, hp6⟩ : ∃ q, q = (parse bs).d := ⟨_, rfl⟩
  obtain ⟨p7, hp7⟩ : ∃ q, q = (parse bs).data := ⟨_, rfl⟩
  have HP0 := hide hp0
  have HP1 := hide hp1
  have HP2 := hide hp2
  have HP3 := hide hp3
  have HP4 := hide hp4
  have HP5 := hide hp5
  have HP6 := hide hp6
  have HP7 := hide hp7
  have HL := hide hl
  clear hp0 hp1 hp2 hp3 hp4 hp5 hp6 hp7 hl
  go_enter Tryz.func21, Tryz.ntmps21
  go_wp2_with (
    (refine hFr.mono ?_)
    clear hFr
    rintro x W ⟨r, v, rfl, hR, hkW⟩
    have hF := hF0.keep0 hkW
    have hkw : Keep [] w W := ((Keep.refl _ _).alloc _).trans0 hkW
    have hFl := hF.lt)
  have hb1 : w.heap.size < (w.alloc (.cells #[.int .i64 0, .int .i64 0, .int .i64 0, .int .i64 0, .int .i64 0, .int .i64 0, .int .i64 0, .slice none 0 0] 59)).heap.size := by simp
  generalize (w.alloc (.cells #[.int .i64 0, .int .i64 0, .int .i64 0, .int .i64 0, .int .i64 0, .int .i64 0, .int .i64 0, .slice none 0 0] 59)).heap.size = base at *
  have hFr : w.heap.size ≠ r := by have := hR.base; omega
  have hFr' : w.heap.size ∉ [r] := by simpa using hFr
  have hrn : ∀ x ∈ [r], x ∈ ([] : List Nat) ∨ w.heap.size ≤ x := fun x hx => .inr (by have := hR.base; simp at hx; omega)
  clear hF0 hkW
  have hT := Take_row W base r 0 2 v bs hR (by have := unhide HL; omega)
  go_wp2_with (
    (refine hT.mono ?_)
    clear hT
    rintro x W2 ⟨u, rfl, _, hR2, hk2⟩
    have hF2 := hF.keep hk2 hFr'
    have hkw2 := hkw.trans hk2 hrn
    have hFl2 := hF2.lt)
  clear hR hF hkw hFl
  have hT := Get_row _ base r 2 1 v bs hR2 (by omega) (by have := unhide HL; omega)
  rw [show num ((bs.drop 2).take 1) = p0 from (unhide HP0).symm] at hT
  go_wp2_with (
    (refine hT.mono ?_)
    clear hT
    rintro x W3 ⟨rfl, hR, hk2⟩
    have hF := hF2.keep hk2 hFr'
    have hkw := hkw2.trans hk2 hrn
    have hFl := hF.lt
    have hfz := hF.frozen 0
    have hcc := hF.cell 0)
  have hR3 := hR.far (F := w.heap.size) (i := 0) hb1 (.int .i64 (p0 : Nat))
  have hF3 := hF.set 0 (.int .i64 (p0 : Nat))
  have hkw3 := hkw.setCell (p := ⟨w.heap.size, 0, none⟩) (.inr (Nat.le_refl _)) (.int .i64 (p0 : Nat))
  have hFl3 := hF3.lt
  clear hR hk2 hF hkw hFl hfz hcc hR2 hF2 hkw2 hFl2
  have hT := Get_row _ base r 3 4 v bs hR3 (by omega) (by have := unhide HL; omega)
  rw [show num ((bs.drop 3).take 4) = p1 from (unhide HP1).symm] at hT
  go_wp2_with (
    (refine hT.mono ?_)
    clear hT
    rintro x W4 ⟨rfl, hR, hk2⟩
    have hF := hF3.keep hk2 hFr'
    have hkw := hkw3.trans hk2 hrn
    have hFl := hF.lt
    have hfz := hF.frozen 1
    have hcc := hF.cell 1)
  have hR4 := hR.far (F := w.heap.size) (i := 1) hb1 (.int .i64 (p1 : Nat))
  have hF4 := hF.set 1 (.int .i64 (p1 : Nat))
  have hkw4 := hkw.setCell (p := ⟨w.heap.size, 1, none⟩) (.inr (Nat.le_refl _)) (.int .i64 (p1 : Nat))
  have hFl4 := hF4.lt
  clear hR hk2 hF hkw hFl hfz hcc hR3 hF3 hkw3 hFl3
  have hT := Get_row _ base r 7 4 v bs hR4 (by omega) (by have := unhide HL; omega)
  rw [show num ((bs.drop 7).take 4) = p2 from (unhide HP2).symm] at hT
  go_wp2_with (
    (refine hT.mono ?_)
    clear hT
    rintro x W5 ⟨rfl, hR, hk2⟩
    have hF := hF4.keep hk2 hFr'
    have hkw := hkw4.trans hk2 hrn
    have hFl := hF.lt
    have hfz := hF.frozen 2
    have hcc := hF.cell 2)
  have hR5 := hR.far (F := w.heap.size) (i := 2) hb1 (.int .i64 (p2 : Nat))
  have hF5 := hF.set 2 (.int .i64 (p2 : Nat))
  have hkw5 := hkw.setCell (p := ⟨w.heap.size, 2, none⟩) (.inr (Nat.le_refl _)) (.int .i64 (p2 : Nat))
  have hFl5 := hF5.lt
  clear hR hk2 hF hkw hFl hfz hcc hR4 hF4 hkw4 hFl4
  have hT := Get_row _ base r 11 1 v bs hR5 (by omega) (by have := unhide HL; omega)
  rw [show num ((bs.drop 11).take 1) = p3 from (unhide HP3).symm] at hT
  go_wp2_with (
    (refine hT.mono ?_)
    clear hT
    rintro x W6 ⟨rfl, hR, hk2⟩
    have hF := hF5.keep hk2 hFr'
    have hkw := hkw5.trans hk2 hrn
    have hFl := hF.lt
    have hfz := hF.frozen 3
    have hcc := hF.cell 3)
  have hR6 := hR.far (F := w.heap.size) (i := 3) hb1 (.int .i64 (p3 : Nat))
  have hF6 := hF.set 3 (.int .i64 (p3 : Nat))
  have hkw6 := hkw.setCell (p := ⟨w.heap.size, 3, none⟩) (.inr (Nat.le_refl _)) (.int .i64 (p3 : Nat))
  have hFl6 := hF6.lt
  clear hR hk2 hF hkw hFl hfz hcc hR5 hF5 hkw5 hFl5
  have hT := Get_row _ base r 12 1 v bs hR6 (by omega) (by have := unhide HL; omega)
  rw [show num ((bs.drop 12).take 1) = p4 from (unhide HP4).symm] at hT
  go_wp2_with (
    (refine hT.mono ?_)
    clear hT
    rintro x W7 ⟨rfl, hR, hk2⟩
    have hF := hF6.keep hk2 hFr'
    have hkw := hkw6.trans hk2 hrn
    have hFl := hF.lt
    have hfz := hF.frozen 4
    have hcc := hF.cell 4)
  have hR7 := hR.far (F := w.heap.size) (i := 4) hb1 (.int .i64 (p4 : Nat))
  have hF7 := hF.set 4 (.int .i64 (p4 : Nat))
  have hkw7 := hkw.setCell (p := ⟨w.heap.size, 4, none⟩) (.inr (Nat.le_refl _)) (.int .i64 (p4 : Nat))
  have hFl7 := hF7.lt
  clear hR hk2 hF hkw hFl hfz hcc hR6 hF6 hkw6 hFl6
  have hT := Get_row _ base r 13 4 v bs hR7 (by omega) (by have := unhide HL; omega)
  rw [show num ((bs.drop 13).take 4) = p5 from (unhide HP5).symm] at hT
  go_wp2_with (
    (refine hT.mono ?_)
    clear hT
    rintro x W8 ⟨rfl, hR, hk2⟩
    have hF := hF7.keep hk2 hFr'
    have hkw := hkw7.trans hk2 hrn
    have hFl := hF.lt
    have hfz := hF.frozen 5
    have hcc := hF.cell 5)
  have hR8 := hR.far (F := w.heap.size) (i := 5) hb1 (.int .i64 (p5 : Nat))
  have hF8 := hF.set 5 (.int .i64 (p5 : Nat))
  have hkw8 := hkw.setCell (p := ⟨w.heap.size, 5, none⟩) (.inr (Nat.le_refl _)) (.int .i64 (p5 : Nat))
  have hFl8 := hF8.lt
  clear hR hk2 hF hkw hFl hfz hcc hR7 hF7 hkw7 hFl7
  have hT := Get_row _ base r 17 4 v bs hR8 (by omega) (by have := unhide HL; omega)
  rw [show num ((bs.drop 17).take 4) = p6 from (unhide HP6).symm] at hT
  go_wp2_with (
    (refine hT.mono ?_)
    clear hT
    rintro x W9 ⟨rfl, hR, hk2⟩
    have hF := hF8.keep hk2 hFr'
    have hkw := hkw8.trans hk2 hrn
    have hFl := hF.lt
    have hfz := hF.frozen 6
    have hcc := hF.cell 6)
  have hR9 := hR.far (F := w.heap.size) (i := 6) hb1 (.int .i64 (p6 : Nat))
  have hF9 := hF.set 6 (.int .i64 (p6 : Nat))
  have hkw9 := hkw.setCell (p := ⟨w.heap.size, 6, none⟩) (.inr (Nat.le_refl _)) (.int .i64 (p6 : Nat))
  have hFl9 := hF9.lt
  clear hR hk2 hF hkw hFl hfz hcc hR8 hF8 hkw8 hFl8
  obtain ⟨m, hm⟩ : ∃ m, n = m + 25 := ⟨n - 25, by omega⟩
  have hmb : m ≤ 65536 := by omega
  have HMM := hide hm
  clear hm
  have hT := Left_any _ base r 21 v bs hR9
  rw [show (((bs.length : Nat) : Int) - ((21 : Nat) : Int)) = (m : Nat) + 4 by have := unhide HL; have := unhide HMM; omega] at hT
  go_wp2_with (refine hT.mono ?_; clear hT; rintro x w' ⟨rfl, rfl⟩)
  have hT := Take_row _ base r 21 m v bs hR9.drew (by have := unhide HL; have := unhide HMM; omega)
  have hd : (bs.drop 21).take m = p7 := by rw [unhide HP7]; show _ = (bs.drop 21).take (bs.length - 25); congr 1; have := unhide HL; have := unhide HMM; omega
  rw [hd] at hT
  have HD := hide hd
  clear hd
  go_wp2_with (
    (refine hT.mono ?_)
    clear hT
    rintro x W10 ⟨u, rfl, hu, hR, hk2⟩
    obtain ⟨UA, uc, rfl, _⟩ := own_form hu
    have hF := hF9.drew.keep hk2 hFr'
    have hkw := hkw9.drew.trans hk2 hrn
    have hFl := hF.lt
    have hfz := hF.frozen 7
    have hcc := hF.cell 7
    have hF10 : Blk (W10.setCell ⟨w.heap.size, 7, none⟩ (.slice UA m uc)) w.heap.size 59 #[.int .i64 p0, .int .i64 p1, .int .i64 p2, .int .i64 p3, .int .i64 p4, .int .i64 p5, .int .i64 p6, .slice UA m uc] := (by simpa using hF.set 7 (.slice UA m uc))
    obtain ⟨e0, e1, e2, e3, e4, e5, e6, e7⟩ := frame_cells hF10)
  have hkw10 := hkw.setCell (p := ⟨w.heap.size, 7, none⟩) (.inr (Nat.le_refl _)) (.slice UA m uc)
  have hu10 : (W10.setCell ⟨w.heap.size, 7, none⟩ (.slice UA m uc)).ownsRow w.heap.size 5 1 (.slice UA m uc) m (bys p7) := own_set (own_base hu hkw9.size) (fun hm => own_blk_ne hu hF (by decide) (by simpa using hm)) _
  have hl10 := hF10.lt
  have hparse : parse bs = ⟨p0, p1, p2, p3, p4, p5, p6, p7⟩ := by rw [unhide HP0, unhide HP1, unhide HP2, unhide HP3, unhide HP4, unhide HP5, unhide HP6, unhide HP7]
  have hpl : p7.length = m := by simpa using hu.1
  have HPA := hide hparse
  have HPL := hide hpl
  clear hparse hpl hF hkw hFl hfz hcc hk2 hR hR9 hF9 hkw9 hFl9
  by_cases hmay : FrMay p0 p1 p2 p3 p4 p5 p6 p7
  · have hE := Encode_may p0 p1 p2 p3 p4 p5 p6 UA m uc p7 _ (Rd.of_own hu10) hmay
    unfold frv at hE
    have HMAY := hide hmay
    clear hmay hFr hFr' hrn hb1
    by_cases heq : frBytes p0 p1 p2 p3 p4 p5 p6 p7 = bs
    · have HEQ := hide heq
      clear heq
      go_wp2_with (
        (refine hE.mono ?_)
        clear hE
        rintro x W11 ⟨y, rfl, hy, hk11⟩
        obtain ⟨YA, yc, rfl, _⟩ := own_form hy
        have hF11 := hF10.keep0 hk11
        have hl11 := hF11.lt
        clear e0 e1 e2 e3 e4 e5 e6 e7
        obtain ⟨e0, e1, e2, e3, e4, e5, e6, e7⟩ := frame_cells hF11
        have hB := bytesEqual_any YA A (25 + m) n yc c _ bs W11 (Rd.of_own hy) (ha.keep (hkw10.trans0 hk11))
        rw [decide_eq_true (unhide HEQ)] at hB
        have q0 := hF11.frozen 0
        have q1 := hF11.frozen 1
        have q2 := hF11.frozen 2
        have q3 := hF11.frozen 3
        have q4 := hF11.frozen 4
        have q5 := hF11.frozen 5
        have q6 := hF11.frozen 6
        have q7 := hF11.frozen 7)
      go_wp2_with (refine hB.mono ?_; clear hB; rintro x w' ⟨rfl, rfl⟩)
      have h8 := hF11.put8 (.int .i64 p0) (.int .i64 p1) (.int .i64 p2) (.int .i64 p3) (.int .i64 p4) (.int .i64 p5) (.int .i64 p6) (.slice UA m uc)
      have hk8' := Keep.put8 W11 w.heap.size (.int .i64 p0) (.int .i64 p1) (.int .i64 p2) (.int .i64 p3) (.int .i64 p4) (.int .i64 p5) (.int .i64 p6) (.slice UA m uc)
      unfold put8 at h8 hk8'
      obtain ⟨g0, g1, g2, g3, g4, g5, g6, g7⟩ := frame_cells h8
      have hfin : Keep [] w _ := (hkw10.trans0 hk11).trans hk8' (fun x hx => .inr (by simp at hx; omega))
      have hou := own_keep (own_keep0 hu10 hk11) hk8' (fun g hg hm => by
        have h1 := (own_mem hu (g := g) (by simpa using hg)).1
        simp at hm
        subst hm
        exact own_blk_ne hu10 hF10 (by decide) hg)
      refine bodyPost_ret (v := .tuple #[.agg #[.int .i64 p0, .int .i64 p1, .int .i64 p2, .int .i64 p3, .int .i64 p4, .int .i64 p5, .int .i64 p6, .slice UA m uc], .int .i64 0]) ?_ rfl ?_
      · simp [results, Tryz.results21, go_sem, g0, g1, g2, g3, g4, g5, g6, g7]
      · exact DecPost.ok hfin (unhide HPA) (unhide HMAY) (unhide HEQ) (by have := unhide HL; have := unhide HMM; omega) hou
    · have HEQ := hide heq
      clear heq
      go_wp2_with (
        (refine hE.mono ?_)
        clear hE
        rintro x W11 ⟨y, rfl, hy, hk11⟩
        obtain ⟨YA, yc, rfl, _⟩ := own_form hy
        have hF11 := hF10.keep0 hk11
        have hl11 := hF11.lt
        clear e0 e1 e2 e3 e4 e5 e6 e7
        obtain ⟨e0, e1, e2, e3, e4, e5, e6, e7⟩ := frame_cells hF11
        have hB := bytesEqual_any YA A (25 + m) n yc c _ bs W11 (Rd.of_own hy) (ha.keep (hkw10.trans0 hk11))
        rw [decide_eq_false (unhide HEQ)] at hB
        have q0 := hF11.frozen 0
        have q1 := hF11.frozen 1
        have q2 := hF11.frozen 2
        have q3 := hF11.frozen 3
        have q4 := hF11.frozen 4
        have q5 := hF11.frozen 5
        have q6 := hF11.frozen 6
        have q7 := hF11.frozen 7)
      go_wp2_with (refine hB.mono ?_; clear hB; rintro x w' ⟨rfl, rfl⟩)
      have h8 := hF11.put8 (.int .i64 0) (.int .i64 0) (.int .i64 0) (.int .i64 0) (.int .i64 0) (.int .i64 0) (.int .i64 0) (.slice none 0 0)
      have hk8' := Keep.put8 W11 w.heap.size (.int .i64 0) (.int .i64 0) (.int .i64 0) (.int .i64 0) (.int .i64 0) (.int .i64 0) (.int .i64 0) (.slice none 0 0)
      unfold put8 at h8 hk8'
      obtain ⟨g0, g1, g2, g3, g4, g5, g6, g7⟩ := frame_cells h8
      have hfin : Keep [] w _ := (hkw10.trans0 hk11).trans hk8' (fun x hx => .inr (by simp at hx; omega))
      refine bodyPost_ret (v := .tuple #[.agg #[.int .i64 0, .int .i64 0, .int .i64 0, .int .i64 0, .int .i64 0, .int .i64 0, .int .i64 0, .slice none 0 0], .int .i64 2]) ?_ rfl ?_
      · simp [results, Tryz.results21, go_sem, g0, g1, g2, g3, g4, g5, g6, g7]
      · refine DecPost.bad hfin ?_
        rw [unhide HPA]
        exact fun h => unhide HEQ h.2
  · have hE := Encode_not p0 p1 p2 p3 p4 p5 p6 UA m uc p7 _ (Rd.of_own hu10) hmay
    unfold frv at hE
    go_wp2_with (
      (refine hE.mono ?_)
      clear hE
      rintro x W11 ⟨rfl, hk11⟩
      have hF11 := hF10.keep0 hk11
      have hl11 := hF11.lt
      clear e0 e1 e2 e3 e4 e5 e6 e7
      obtain ⟨e0, e1, e2, e3, e4, e5, e6, e7⟩ := frame_cells hF11
      have q0 := hF11.frozen 0
      have q1 := hF11.frozen 1
      have q2 := hF11.frozen 2
      have q3 := hF11.frozen 3
      have q4 := hF11.frozen 4
      have q5 := hF11.frozen 5
      have q6 := hF11.frozen 6
      have q7 := hF11.frozen 7)
    have h8 := hF11.put8 (.int .i64 0) (.int .i64 0) (.int .i64 0) (.int .i64 0) (.int .i64 0) (.int .i64 0) (.int .i64 0) (.slice none 0 0)
    have hk8' := Keep.put8 W11 w.heap.size (.int .i64 0) (.int .i64 0) (.int .i64 0) (.int .i64 0) (.int .i64 0) (.int .i64 0) (.int .i64 0) (.slice none 0 0)
    unfold put8 at h8 hk8'
    obtain ⟨g0, g1, g2, g3, g4, g5, g6, g7⟩ := frame_cells h8
    have hfin : Keep [] w _ := (hkw10.trans0 hk11).trans hk8' (fun x hx => .inr (by simp at hx; omega))
    refine bodyPost_ret (v := .tuple #[.agg #[.int .i64 0, .int .i64 0, .int .i64 0, .int .i64 0, .int .i64 0, .int .i64 0, .int .i64 0, .slice none 0 0], .int .i64 2]) ?_ rfl ?_
    · simp [results, Tryz.results21, go_sem, g0, g1, g2, g3, g4, g5, g6, g7]
    · refine DecPost.bad hfin ?_
      rw [unhide HPA]
      exact fun h => hmay h.1
end
section
open Go.RowKit
theorem xor_bit (c : UInt8) (j : Nat) (hj : j < 8) (q : Nat) : (c ^^^ UInt8.ofNat (2 ^ j)).toNat.testBit q = (c.toNat.testBit q ^^ decide (j = q)) := by
  rw [UInt8.toNat_xor, Nat.testBit_xor]
  have h : (UInt8.ofNat (2 ^ j)).toNat = 2 ^ j := by
    have : 2 ^ j < 256 := by
      have := Nat.pow_lt_pow_right (a := 2) (by omega) hj
      simpa using this
    simp [Nat.mod_eq_of_lt this]
  rw [h, Nat.testBit_two_pow]
@[simp] theorem length_turn1 (bs : List UInt8) (f : Nat) : (turn1 bs f).length = bs.length := by simp [turn1]
theorem turned_any (k v s b c e d f : Nat) (data : List UInt8) (M : Nat) (hM : M = 21 + data.length) (hf : f < 8 * (M + 4)) :
    ¬ ((parse (turn1 (frBytes k v s b c e d data) f)).May ∧ (parse (turn1 (frBytes k v s b c e d data) f)).bytes = turn1 (frBytes k v s b c e d data) f) := by
  rintro ⟨_, h⟩
  obtain ⟨y, hy⟩ : ∃ y, y = frBytes k v s b c e d data := ⟨_, rfl⟩
  have hyl : y.length = M + 4 := by rw [hy]; simp; omega
  have hy2 : y = y.take M ++ le 4 (crcSum (y.take M)) := by
    rw [hy, frBytes, List.take_left' (by simp; omega)]
  rw [← hy] at h
  have hi : f / 8 < M + 4 := by omega
  have hj : f % 8 < 8 := by omega
  obtain ⟨x, hx⟩ : ∃ x, x = turn1 y f := ⟨_, rfl⟩
  have hxl : x.length = M + 4 := by rw [hx, length_turn1, hyl]
  rw [← hx] at h
  have hx2 : x = x.take M ++ le 4 (crcSum (x.take M)) := by
    have hd : (parse x).data.length = data.length := by simp [parse, hxl]; omega
    rw [Fr.bytes, frBytes] at h
    have hB : (frBody (parse x).k (parse x).v (parse x).s (parse x).b (parse x).c (parse x).e (parse x).d (parse x).data).length = M := by simp [hd]; omega
    generalize frBody (parse x).k (parse x).v (parse x).s (parse x).b (parse x).c (parse x).e (parse x).d (parse x).data = B at h hB
    rw [← h, List.take_left' hB]
  have hc : y.getD (f / 8) 0 = y[f / 8]'(by omega) := by simp [List.getD_eq_getElem?_getD, hyl, hi]
  rw [turn1, hc] at hx
  rcases Nat.lt_or_ge (f / 8) M with h1 | h1
  · have e1 : x.drop M = y.drop M := (congrArg (List.drop M) hx).trans (List.drop_set_of_lt (by omega))
    have e2 : x.take M = (y.take M).set (f / 8) (y[f / 8]'(by omega) ^^^ UInt8.ofNat (2 ^ (f % 8))) := (congrArg (List.take M) hx).trans List.take_set
    have e3 : le 4 (crcSum (x.take M)) = le 4 (crcSum (y.take M)) := by
      have a1 : x.drop M = le 4 (crcSum (x.take M)) := by
        conv => lhs; rw [hx2]
        rw [List.drop_left' (by simp; omega)]
      have a2 : y.drop M = le 4 (crcSum (y.take M)) := by
        conv => lhs; rw [hy2]
        rw [List.drop_left' (by simp; omega)]
      rw [← a1, ← a2, e1]
    have e4 : crcSum (x.take M) = crcSum (y.take M) := by
      have := congrArg num e3
      rwa [num_le _ _ (crcSum_lt _), num_le _ _ (crcSum_lt _)] at this
    rw [e2] at e4
    refine crcSum_turned (y.take M) (f / 8) (f % 8) (by simp; omega) hj _ ?_ ?_ e4
    · intro q hq
      rw [xor_bit _ _ hj, List.getElem_take, decide_eq_false (fun h => hq h.symm), Bool.xor_false]
    · rw [xor_bit _ _ hj, List.getElem_take, decide_eq_true rfl, Bool.xor_true]
      simp
  · have e1 : x.take M = y.take M := ((congrArg (List.take M) hx).trans List.take_set).trans (List.set_eq_of_length_le (by simp; omega))
    have e2 : x = y := by rw [hx2, hy2, e1]
    have e3 : x[f / 8]? = y[f / 8]? := by rw [e2]
    rw [hx, List.getElem?_set_self (by omega), List.getElem?_eq_getElem (by omega), Option.some.injEq] at e3
    have e4 := congrArg (fun c : UInt8 => c.toNat.testBit (f % 8)) e3
    simp only [xor_bit _ _ hj] at e4
    simp at e4
end
section
open Go.RowKit
set_option maxHeartbeats 2000000 in
set_option maxRecDepth 20000 in
theorem wire_ok (v s k b c e n m : Nat) (A : Option Addr) (xs : List UInt8) (hv : 1 ≤ v ∧ v ≤ 2147483647) (hs : 1 ≤ s ∧ s ≤ 2147483647) (h : OpMay k b c e n) (w : World) (ha : Rd w A n (bys xs)) (hm : n ≤ m) :
    Calls Tryz.prog 11 #[.int .i64 (v : Nat), .int .i64 (s : Nat), .agg #[.int .i64 k, .int .i64 b, .int .i64 c, .int .i64 e, .slice A n m]] w fun r w' => ∃ u, r = .returned u ∧ w'.ownsRow w.heap.size 5 1 u (25 + n) (bys (frBytes k v s b c e 0 xs)) ∧ Keep [] w w' := by
  have hF := FrameFor_ok v s k b c e n m A xs hv hs h (w.alloc (.cells #[.int .i64 k, .int .i64 b, .int .i64 c, .int .i64 e, .slice A n m] 46)) (ha.keep ((Keep.refl _ _).alloc _)) hm
  have hn : n ≤ 64 := by rcases h with ⟨_, _, _, _, h⟩ | ⟨_, _, _, _, _, h⟩ | ⟨_, _, _, _, _, h⟩ <;> omega
  have hbd : k ≤ 9 ∧ b ≤ 63 ∧ c ≤ 64 ∧ e ≤ 2147483647 := by rcases h with ⟨_, _, _, _, h⟩ | ⟨_, _, _, _, _, h⟩ | ⟨_, _, _, _, _, h⟩ <;> omega
  have hB := fun A m W (hr : Rd W A n (bys xs)) => FrameBytes_of k v s b c e 0 A n m xs W hr hbd.1 hv.2 hs.2 hbd.2.1 hbd.2.2.1 hbd.2.2.2 (by omega) hn (fun W => FrameMayR_op v s k b c e n m A hv hs h W)
  unfold frv at hF hB
  clear h hv hs hbd
  go_enter Tryz.func11, Tryz.ntmps11
  go_wp2_with (first
    | (go_at_call 38
       refine hF.mono ?_
       clear hF
       rintro r w1 ⟨A', m', rfl, hr1, hm1, hk1⟩
       have hB1 := hB A' m' _ (hr1.keep ((Keep.refl _ _).alloc (.cells #[.int .i64 k, .int .i64 v, .int .i64 s, .int .i64 b, .int .i64 c, .int .i64 e, .int .i64 0, .slice A' n m'] 59)))
       clear hB)
    | (go_at_call 20
       refine hB1.mono ?_
       clear hB1
       rintro r w2 ⟨u, rfl, hu, hk2⟩))
  go_ret
  have hkA : Keep [] w (w1.alloc (.cells #[.int .i64 k, .int .i64 v, .int .i64 s, .int .i64 b, .int .i64 c, .int .i64 e, .int .i64 0, .slice A' n m'] 59)) := (((Keep.refl _ _).alloc _).trans0 hk1).alloc _
  exact ⟨u, rfl, own_base hu hkA.size, hkA.trans0 hk2⟩
theorem spoilt_ok (A : Option Addr) (n c : Nat) (bs : List UInt8) (x : Int) (w : World) (ha : Rd w A n (bys bs)) (hn : 1 ≤ n) (hn2 : n ≤ 1000) (hnc : n ≤ c) :
    Calls Tryz.prog 19 #[.slice A n c, .int .i64 x] w fun r w' => ∃ u, r = .returned u ∧ w'.ownsRow w.heap.size 5 1 u n (bys (turn1 bs (x % (8 * n)).toNat)) ∧ Keep [] w w' := by
  have hT := Turned_one A n c bs x w ha hn hn2 hnc
  go_enter Tryz.func19, Tryz.ntmps19
  go_wp2_with (refine hT.mono ?_; clear hT; rintro r w1 ⟨u, rfl, hu, hk1⟩)
  go_ret
  exact ⟨u, rfl, hu, hk1⟩
theorem small_ok (x : Int) (w : World) : Calls Tryz.prog 6 #[.int .i64 x] w fun r w' => ∃ B : Nat, r = .returned (.agg #[.int .i64 (B : Nat), .int .i64 8, .int .i64 24]) ∧ (B : Int) = 1 + x % 20 ∧ 1 ≤ B ∧ B ≤ 20 ∧ Keep [] w w' := by
  have hR := fun W => Round_any x 20 W (by omega) (by omega)
  have h1 := Int.emod_nonneg x (show (20 : Int) ≠ 0 by omega)
  have h2 := Int.emod_lt_of_pos x (show (0 : Int) < 20 by omega)
  obtain ⟨B, hB⟩ : ∃ B : Nat, (B : Int) = x % 20 := ⟨(x % 20).toNat, by omega⟩
  rw [← hB] at hR
  have HB := hide hB
  have hB20 : B < 20 := by omega
  clear hB h1 h2
  go_enter Tryz.func6, Tryz.ntmps6
  go_wp2_with (refine (hR _).mono ?_; clear hR; rintro r w' ⟨rfl, rfl⟩)
  have hb := Blk.new w 25 #[.int .i64 (1 + (B : Nat)), .int .i64 8, .int .i64 24]
  have g0 := hb.cell 0
  have g1 := hb.cell 1
  have g2 := hb.cell 2
  refine bodyPost_ret (v := .agg #[.int .i64 (1 + (B : Nat)), .int .i64 8, .int .i64 24]) (by simp [results, Tryz.results6, go_sem]) rfl ⟨1 + B, by simp, by rw [← unhide HB]; simp, by omega, by omega, (Keep.refl _ _).alloc _⟩
end
end Go.Proofs.YtglbkndbbhamcaaGreat
