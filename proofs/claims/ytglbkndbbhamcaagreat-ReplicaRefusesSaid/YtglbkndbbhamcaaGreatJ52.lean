/-
  A part of the proof: lemmas, and contracts of functions; their conditions stand in them.
-/
import Derived.Test.YtglbkndbbhamcaaGreatJ48
import Derived.Test.YtglbkndbbhamcaaGreatJ51
import Derived.Test.YtglbkndbbhamcaaGreatJ38
import Derived.Test.YtglbkndbbhamcaaGreatJ42
import Derived.Test.YtglbkndbbhamcaaGreatJ11
namespace Go.Proofs.YtglbkndbbhamcaaGreat
section
open Go.RowKit Go.Shelf
theorem DiskAt.rebase {w : World} {b b' d : Nat} {F : List Nat} {D : PDisk} (h : DiskAt w b d F D) (hb : b' ≤ b) : DiskAt w b' d F D := by
  obtain ⟨S, N, H, U, h⟩ := h
  exact ⟨S, N, H, U, h.blk, own_base h.safe hb, own_base h.now hb, own_base h.held hb, own_base h.flt hb, h.ne, h.foot, Nat.le_trans hb h.base, h.pos, h.few, h.ats, h.acts⟩
theorem RDkNew.keepLt {w w' : World} {base d n : Nat} {F l : List Nat} (h : RDkNew w base d F n) (hk : Keep l w w') (hl : ∀ x ∈ l, x < base) : RDkNew w' base d F n := by
  obtain ⟨S, U, R, h1, h2, h3, h4, h5, h6⟩ := h
  exact ⟨S, U, R, h1.keep hk (fun x hx hm => by have := h1.ge x hx; have := hl x hm; omega), h2, h3, h4, h5, fun v hv => own_keep (h6 v hv) hk (fun g hg hm => by have := (own_mem (h6 v hv) (g := g) (by simpa using hg)).1; have := hl g hm; omega)⟩
theorem Two_ok (n : Nat) (h0 : 0 < n) (hn : n ≤ 4096) (w : World) : Calls Tryz.prog 23 #[.int .i64 (n : Nat)] w fun e w' => ∃ d F m Fm b1, e = .returned (.tuple #[.pointer (some ⟨d, 0, none⟩), .pointer (some ⟨m, 0, none⟩), .bool true]) ∧ DiskAt w' w.heap.size d F (PDisk.new n) ∧ RDkNew w' b1 m Fm n ∧ Keep [] w w' ∧ w.heap.size ≤ b1 ∧ (∀ x ∈ F, x < b1) ∧ (∀ x ∈ Fm, b1 ≤ x) ∧ b1 ≤ w'.heap.size := by
  have hD := NewD_ok n h0 hn w
  have hM := fun W => NewDiskR_ok n h0 hn W
  go_enter Tryz.func23, Tryz.ntmps23
  go_wp2_with (first
    | (go_at_call 59; refine hD.mono ?_; clear hD; rintro e w1 ⟨d, F, rfl, hd, hk1⟩)
    | (go_at_call 60; refine (hM _).mono ?_; clear hM; rintro e w2 ⟨m, Fm, rfl, hm, hk2⟩))
  have hge : ∀ x ∈ Fm, w1.heap.size ≤ x := by
    obtain ⟨R, hR, _⟩ := hm.at_
    exact hR.ge
  have hlt := hd.lt
  have hs := hk1.size
  exact bodyPost_ret (v := .tuple #[.pointer (some ⟨d, 0, none⟩), .pointer (some ⟨m, 0, none⟩), .bool true]) (by simp [results, Tryz.results23, go_sem]) rfl ⟨d, F, m, Fm, _, rfl, hd.keep0 hk2, hm, hk1.trans0 hk2, hs, hlt, hge, hk2.size⟩
section
variable (w : World) (base s d g t p m : Nat) (Fd Ft Fw Fm : List Nat) (L0 L1 : Value) (B : Nat) (S : PS) (h : StoreIs w base s d g t p m Fd Ft Fw Fm L0 L1 B S)
include h
theorem GeomS_is : Calls Tryz.prog 27 #[.pointer (some ⟨s, 0, none⟩)] w fun e w' => e = .returned (.pointer (some ⟨g, 0, none⟩)) ∧ w = w' := by
  obtain ⟨c0, c1, c2, c3, c4, c5, c6, c7, c8, c9, c10, c11, c12, c13, c14, c15, c16, c17⟩ := sto_cells h.blk
  go_enter Tryz.func27, Tryz.ntmps27
  go_wp2
  go_ret
  exact ⟨rfl, rfl⟩
theorem TableS_is : Calls Tryz.prog 28 #[.pointer (some ⟨s, 0, none⟩)] w fun e w' => e = .returned (.pointer (some ⟨t, 0, none⟩)) ∧ w = w' := by
  obtain ⟨c0, c1, c2, c3, c4, c5, c6, c7, c8, c9, c10, c11, c12, c13, c14, c15, c16, c17⟩ := sto_cells h.blk
  go_enter Tryz.func28, Tryz.ntmps28
  go_wp2
  go_ret
  exact ⟨rfl, rfl⟩
end
def YardNew (w w' : World) (B t d s : Nat) (F : List Nat) (D : PDisk) : Prop :=
  ∃ m x : Nat, Blk w' t 37 #[.pointer (some ⟨d, 0, none⟩), .pointer (some ⟨m, 0, none⟩), .pointer (some ⟨s, 0, none⟩), .pointer (some ⟨x, 0, none⟩)] ∧ StoreAt w' w.heap.size s d F B (PS.fresh B D) ∧ Good B (PS.fresh B D) 0 0 ∧ t ∉ F ∧ w.heap.size ≤ t ∧ Keep [] w w'
set_option maxHeartbeats 4000000 in
set_option maxRecDepth 20000 in
theorem NewYard_ok (w : World) (B : Nat) (hB1 : 1 ≤ B) (hB2 : B ≤ 64) : Calls Tryz.prog 7 #[.agg #[.int .i64 B, .int .i64 8, .int .i64 24]] w fun e w' => ∃ t d s F D, e = .returned (.tuple #[.pointer (some ⟨t, 0, none⟩), .bool true]) ∧ YardNew w w' B t d s F D := by
  have hSe := fun W => SectorsR_is W B hB1 hB2
  have hpb := pgs_bounds hB1 hB2
  have hT := fun W => Two_ok (198 + 4 * pgs B) (by omega) (by omega) W
  have hS := fun W base d F (h : DiskAt W base d F (PDisk.new (198 + 4 * pgs B))) hb => NewSt_ok W base d _ B F hB1 hB2 rfl h hb
  have hR : ∀ W base d F, RDkNew W base d F (198 + 4 * pgs B) → base ≤ W.heap.size → Calls Tryz.prog 26 #[.pointer (some ⟨d, 0, none⟩), cfgv B, .int .i64 1] W fun e w' => ∃ x, e = .returned (.tuple #[.pointer (some ⟨x, 0, none⟩), .int .i64 0]) ∧ Keep F W w' := fun W base d F h hb => NewStR W base d _ B F hB1 hB2 rfl h hb
  obtain ⟨n, hn⟩ : ∃ n, n = 198 + 4 * pgs B := ⟨_, rfl⟩
  rw [← hn] at hSe hT hS hR
  have hbc := Blk.new w 25 #[.int .i64 B, .int .i64 8, .int .i64 24]
  have hkA : Keep [] w (w.alloc (.cells #[.int .i64 B, .int .i64 8, .int .i64 24] 25)) := (Keep.refl _ _).alloc _
  obtain ⟨c0, c1, c2⟩ := cfg_cells hbc
  unfold cfgv at *
  clear hn hpb
  go_enter Tryz.func7, Tryz.ntmps7
  go_wp2_with (first
    | (go_at_call 24
       refine (hSe _).mono ?_
       clear hSe
       rintro e w1 ⟨rfl, hk1⟩
       replace hkA := hkA.trans0 hk1
       replace hbc := hbc.keep0 hk1)
    | (go_at_call 23
       refine (hT _).mono ?_
       clear hT
       rintro e w2 ⟨d, F, m, Fm, b1, rfl, hd, hm, hk2, hs2, hFlt, hFm, hs2'⟩
       have hw1 := hkA.size
       have hw1l := hbc.lt
       have hFge := hd.ge
       have hFmlt := hm.lt
       replace hkA := hkA.trans0 hk2
       replace hbc := hbc.keep0 hk2
       clear c0 c1 c2
       obtain ⟨c0, c1, c2⟩ := cfg_cells hbc
       have hS2 := hS w2 w.heap.size d F (hd.rebase hw1) hkA.size)
    | (go_at_call 25
       refine hS2.mono ?_
       clear hS2 hS
       rintro e w3 ⟨s, rfl, F', D, hst, hgood, hk3, hg3⟩
       have hbc3 := hbc.keep hk3 (fun hm => by have := hFge _ hm; omega)
       clear c0 c1 c2
       obtain ⟨c0, c1, c2⟩ := cfg_cells hbc3
       have hR3 := hR w3 _ m Fm (hm.keepLt hk3 hFlt) (by have := hk3.size; omega))
    | (go_at_call 26
       refine hR3.mono ?_
       clear hR3 hR
       rintro e w4 ⟨x, rfl, hk4⟩
       have hst4 := hst.keep hk4 (fun y hy hmem => by
         rcases hg3 y hy with h1 | h1
         · have := hFlt y h1; have := hFm y hmem; omega
         · have := hFmlt y hmem; omega)
       have hFge' : ∀ y ∈ F', w.heap.size ≤ y := hst.ge
       have hFlt' := hst.lt
       have hs4 := hk4.size
       have hkW : Keep [] w w4 := (hkA.trans hk3 (fun y hy => .inr (by have := hFge y hy; omega))).trans hk4 (fun y hy => .inr (by have := hFm y hy; omega))
       have hkY : Keep [] w4 (w4.alloc (.cells #[.pointer (some ⟨d, 0, none⟩), .pointer (some ⟨m, 0, none⟩), .pointer (some ⟨s, 0, none⟩), .pointer (some ⟨x, 0, none⟩)] 37)) := (Keep.refl _ _).alloc _
       have hbY := Blk.new w4 37 #[.pointer (some ⟨d, 0, none⟩), .pointer (some ⟨m, 0, none⟩), .pointer (some ⟨s, 0, none⟩), .pointer (some ⟨x, 0, none⟩)]
       have hst5 := hst4.keep0 hkY
       obtain ⟨g, t, p, mm, Fd, Ft, Fw, Fm', L0, L1, hs5, hfoot⟩ := hst5
       have hG := fun W (hk : Keep [] (w4.alloc (.cells #[.pointer (some ⟨d, 0, none⟩), .pointer (some ⟨m, 0, none⟩), .pointer (some ⟨s, 0, none⟩), .pointer (some ⟨x, 0, none⟩)] 37)) W) => GeomS_is W _ s d g t p mm Fd Ft Fw Fm' L0 L1 B _ (hs5.keep0 hk)
       have hTb := fun W (hk : Keep [] (w4.alloc (.cells #[.pointer (some ⟨d, 0, none⟩), .pointer (some ⟨m, 0, none⟩), .pointer (some ⟨s, 0, none⟩), .pointer (some ⟨x, 0, none⟩)] 37)) W) => TableS_is W _ s d g t p mm Fd Ft Fw Fm' L0 L1 B _ (hs5.keep0 hk)
       have hIm := fun W (hk : Keep [] (w4.alloc (.cells #[.pointer (some ⟨d, 0, none⟩), .pointer (some ⟨m, 0, none⟩), .pointer (some ⟨s, 0, none⟩), .pointer (some ⟨x, 0, none⟩)] 37)) W) => ImageS_is W _ s d g t p mm Fd Ft Fw Fm' L0 L1 B _ (hs5.keep0 hk))
    | (go_at_call 27
       refine (hG _ (Keep.refl _ _)).mono ?_
       clear hG
       rintro e w' ⟨rfl, rfl⟩)
    | (go_at_call 28
       refine (hTb _ (Keep.refl _ _)).mono ?_
       clear hTb
       rintro e w' ⟨rfl, rfl⟩)
    | (go_at_call 29
       refine (hIm _ (Keep.refl _ _)).mono ?_
       clear hIm
       rintro e w' ⟨rfl, rfl⟩))
  go_ret2
  exact ⟨w4.heap.size, d, s, F', D, rfl, m, x, hbY, ⟨g, t, p, mm, Fd, Ft, Fw, Fm', L0, L1, hs5, hfoot⟩, hgood, fun hm => by have := hFlt' _ hm; omega, hkW.size, hkW.alloc _⟩
end
section
open Go.RowKit Go.Shelf
structure LawSt (w0 w : World) (B t r s d x : Nat) (Fs Fx : List Nat) (R : RS) : Prop where
  two : ∃ mm xx : Nat, Blk w t 37 #[.pointer (some ⟨d, 0, none⟩), .pointer (some ⟨mm, 0, none⟩), .pointer (some ⟨s, 0, none⟩), .pointer (some ⟨xx, 0, none⟩)]
  rep : ReplicaIs w w0.heap.size r s d x Fs Fx B R
  tn : t ∉ repF r Fs Fx
  tb : w0.heap.size ≤ t
  kept : Keep [] w0 w
namespace LawSt
variable {w0 w w' : World} {B t r s d x : Nat} {Fs Fx : List Nat} {R : RS}
theorem keep0 (h : LawSt w0 w B t r s d x Fs Fx R) (hk : Keep [] w w') : LawSt w0 w' B t r s d x Fs Fx R :=
  ⟨by obtain ⟨mm, xx, hb⟩ := h.two; exact ⟨mm, xx, hb.keep0 hk⟩, h.rep.keep0 hk, h.tn, h.tb, h.kept.trans0 hk⟩
theorem cells (h : LawSt w0 w B t r s d x Fs Fx R) : w.cell? ⟨t, 0, none⟩ = some (.pointer (some ⟨d, 0, none⟩)) ∧ w.cell? ⟨t, 2, none⟩ = some (.pointer (some ⟨s, 0, none⟩)) := by
  obtain ⟨mm, xx, hb⟩ := h.two
  exact ⟨by simpa using hb.cell 0, by simpa using hb.cell 2⟩
theorem lt (h : LawSt w0 w B t r s d x Fs Fx R) : t < w.heap.size := by
  obtain ⟨mm, xx, hb⟩ := h.two
  exact hb.lt
theorem turn (h : LawSt w0 w B t r s d x Fs Fx R) {Fs' Fx' : List Nat} {R' : RS} (hr : ReplicaIs w' w0.heap.size r s d x Fs' Fx' B R') (hk : Keep (repF r Fs Fx) w w') (hg : Grow w (repF r Fs Fx) (repF r Fs' Fx')) : LawSt w0 w' B t r s d x Fs' Fx' R' := by
  have hlt := h.lt
  have hge := h.rep.ge
  refine ⟨?_, hr, fun hm => (hg t hm).elim h.tn (by omega), h.tb, h.kept.trans hk (fun y hy => .inr (hge y hy))⟩
  obtain ⟨mm, xx, hb⟩ := h.two
  exact ⟨mm, xx, hb.keep hk h.tn⟩
end LawSt
def AckRow (w w' : World) (st : PSt) (A : Option Addr) (c : Nat) : Prop := w'.ownsRow w.heap.size 5 1 (.slice A 25 c) 25 (bys (frBytes 8 st.view st.seq 0 0 st.epoch st.done []))
def TookPost (w0 w : World) (B t r s d x : Nat) (Fs Fx : List Nat) (k j : Nat) (R1 : PSlot → RS) (o : POp) (e : Ending) (w' : World) : Prop :=
  ∃ (v : Value) (Fs' Fx' : List Nat) (R' : RS) (er : Nat), LawSt w0 w' B t r s d x Fs' Fx' R' ∧ Ran B (R1 ⟨v, o, true⟩) R' er ∧ Good B R'.S (k + present (R1 ⟨v, o, true⟩).sl) (j + 2 * present (R1 ⟨v, o, true⟩).sl) ∧ (∀ q ∈ R'.sl, q.is = true → OpFor B q.o) ∧
    Keep (repF r Fs Fx) w w' ∧ Grow w (repF r Fs Fx) (repF r Fs' Fx') ∧
    ((er = 0 ∧ ∃ UA uc, e = .returned (.tuple #[.slice UA 25 uc, .int .i64 0]) ∧ AckRow w w' R'.S.st UA uc) ∨ (er = 1 ∧ e = .returned (.tuple #[.slice none 0 0, .int .i64 1])))
theorem LawSt.take {w0 w : World} {B t r s d x : Nat} {Fs Fx : List Nat} {R : RS} (h : LawSt w0 w B t r s d x Fs Fx R) (hv : R.S.st.view = 1) (k b c e m fs : Nat) (xs : List UInt8) (A : Option Addr) (cp : Nat)
    (ha : Rd w A (25 + m) (bys (frBytes k 1 fs b c e 0 xs))) (ho : OpMay k b c e m) (hlen : xs.length = m) (hfor : b + max c 1 ≤ B ∨ k = 3) (hfs : 1 ≤ fs ∧ fs ≤ 2147483647)
    (kk j : Nat) (hg : Good B R.S kk j) (hk : kk + present R.sl ≤ 49) (hj : j ≤ 10000) (hnx : R.next ≤ 1000000) (hop : ∀ q ∈ R.sl, q.is = true → OpFor B q.o) (hn1 : R.next ≤ fs) (hn2 : fs < R.next + R.sl.length) (hq : (R.sl.getD (fs % R.sl.length) PSlot.none_).is = false) (hof : OpFor B ⟨k, b, c, e, xs⟩) :
    Calls Tryz.prog 10 #[.pointer (some ⟨r, 0, none⟩), .slice A (25 + m) cp] w (TookPost w0 w B t r s d x Fs Fx kk j (fun q => ⟨R.S, R.next, R.sl.set (fs % R.sl.length) q⟩) ⟨k, b, c, e, xs⟩) := by
  have hv' : ((1 : Nat) : Int) = (R.S.st.view : Nat) := by rw [hv]
  refine (TakeR_in w w0.heap.size r s d x Fs Fx B R h.rep h.kept.size k b c e m fs xs A cp (by rw [hv]; exact ha) ho hlen hfor hfs kk j hg hk hj hnx hop hn1 hn2 hq hof).mono ?_
  rintro en w' ⟨v, Fs', Fx', R', er, h1, h2, h3, h4, h5, h6, h7⟩
  refine ⟨v, Fs', Fx', R', er, h.turn h1 h5 h6, h2, h3, h4, h5, h6, ?_⟩
  rcases h7 with ⟨h7, u, h8, h9⟩ | h7
  · obtain ⟨UA, uc, rfl, _⟩ := own_form h9
    exact .inl ⟨h7, UA, uc, h8, h9⟩
  · exact .inr h7
def epUp (k ep : Nat) : Nat := if k = 3 then ep + 1 else ep
theorem stDo_is {st : PSt} {k b c e : Nat} {xs : List UInt8} : (stDo st ⟨k, b, c, e, xs⟩).view = st.view ∧ (stDo st ⟨k, b, c, e, xs⟩).mode = st.mode ∧ (stDo st ⟨k, b, c, e, xs⟩).seq = st.seq + 1 ∧ (stDo st ⟨k, b, c, e, xs⟩).epoch = epUp k st.epoch ∧ (k = 3 → (stDo st ⟨k, b, c, e, xs⟩).done = st.seq + 1) ∧ (k ≠ 3 → (stDo st ⟨k, b, c, e, xs⟩).done = st.done) := by
  unfold stDo epUp
  by_cases h : k = 3
  · subst h
    simp
  · have h' : ¬ ((k : Nat) : Int) = 3 := by omega
    simp [h, h']
@[simp] theorem length_emptyW (m : Nat) : (emptyW m).length = m := by simp [emptyW]
theorem present_empty (m : Nat) : present (emptyW m) = 0 := by
  unfold present emptyW
  rw [List.countP_replicate]
  simp [PSlot.none_]
theorem emptyW_get (m i : Nat) : ((emptyW m).getD i PSlot.none_).is = false := by
  unfold emptyW
  simp only [List.getD_eq_getElem?_getD, List.getElem?_replicate]
  split <;> rfl
theorem emptyW_ops (m B : Nat) : ∀ q ∈ emptyW m, q.is = true → OpFor B q.o := by
  intro q hq hi
  rw [List.eq_of_mem_replicate hq] at hi
  cases hi
theorem present_one {m i : Nat} (hi : i < m) (q : PSlot) (hq : q.is = true) : present ((emptyW m).set i q) = 1 := by
  rw [present_set (by simpa using hi) (emptyW_get m i) q hq, present_empty]
theorem LawSt.step {w0 w : World} {B t r s d x : Nat} {Fs Fx : List Nat} {S : PS} {i mW ep : Nat} (h : LawSt w0 w B t r s d x Fs Fx ⟨S, i + 1, emptyW mW⟩) (hm : 1 ≤ mW) (hv : S.st.view = 1 ∧ S.st.seq = i ∧ S.st.epoch = ep) (hg : Good B S i (2 * i)) (hi : i ≤ 40)
    (k b c e n : Nat) (xs : List UInt8) (A : Option Addr) (cp : Nat) (ha : Rd w A (25 + n) (bys (frBytes k 1 (i + 1) b c e 0 xs))) (ho : OpMay k b c e n) (hlen : xs.length = n) (hfor : b + max c 1 ≤ B ∨ k = 3) (hof : OpFor B ⟨k, b, c, e, xs⟩) (he : k = 3 → e = ep + 1) :
    Calls Tryz.prog 10 #[.pointer (some ⟨r, 0, none⟩), .slice A (25 + n) cp] w fun en w' => ∃ (UA : Option Addr) (uc : Nat) (Fs' Fx' : List Nat) (S' : PS), en = .returned (.tuple #[.slice UA 25 uc, .int .i64 0]) ∧ AckRow w w' S'.st UA uc ∧ LawSt w0 w' B t r s d x Fs' Fx' ⟨S', i + 1 + 1, emptyW mW⟩ ∧
      (S'.st.view = 1 ∧ S'.st.seq = i + 1 ∧ S'.st.epoch = epUp k ep) ∧ (k = 3 → S'.st.done = i + 1) ∧ Good B S' (i + 1) (2 * (i + 1)) ∧ Does B S ⟨k, b, c, e, xs⟩ S' ∧ Keep (repF r Fs Fx) w w' ∧ Grow w (repF r Fs Fx) (repF r Fs' Fx') := by
  refine (h.take hv.1 k b c e n (i + 1) xs A cp ha ho hlen hfor (by omega) i (2 * i) hg (by rw [present_empty]; omega) (by omega) (show i + 1 ≤ 1000000 by omega) (emptyW_ops mW B) (by simp) (by simp; omega) (emptyW_get _ _) hof).mono ?_
  rintro en w' ⟨v, Fs', Fx', R', er, h1, h2, h3, h4, h5, h6, h7⟩
  simp only [length_emptyW] at h2 h3
  have hlt : (i + 1) % mW < mW := Nat.mod_lt _ hm
  rw [present_one hlt _ rfl] at h3
  rcases Ran_one hm (q := ⟨v, ⟨k, b, c, e, xs⟩, true⟩) rfl h2 with ⟨q1, q2, _, _⟩ | ⟨S', q1, q2, q3⟩
  · exfalso
    apply q2
    have hk3 : k = 3 := by simp only at q1; omega
    have := he hk3
    rw [hv.2.2]
    simp only
    omega
  · obtain ⟨hgd, hst⟩ := q1.good hof hg (by omega) (by omega)
    obtain ⟨d1, d2, d3, d4, d5, d6⟩ := stDo_is (st := S.st) (k := k) (b := b) (c := c) (e := e) (xs := xs)
    replace hst : S'.st = stDo S.st ⟨k, b, c, e, xs⟩ := hst
    subst q3
    rcases h7 with ⟨_, UA, uc, h8, h9⟩ | ⟨h7, _⟩
    · exact ⟨UA, uc, Fs', Fx', S', h8, h9, h1, ⟨by rw [hst, d1, hv.1], by rw [hst, d3, hv.2.1], by rw [hst, d4, hv.2.2]⟩, fun h => by rw [hst, d5 h, hv.2.1], hgd, q1, h5, h6⟩
    · omega
end
section
open Go.RowKit Go.Shelf
def Off (N : List Nat) (w : World) (F : List Nat) : Prop := ∀ b ∈ N, b ∉ F ∧ b < w.heap.size
namespace Off
variable {N : List Nat} {w w' : World} {F F' : List Nat}
theorem nil : Off [] w F := fun _ h => by cases h
theorem keep0 (h : Off N w F) (hk : Keep [] w w') : Off N w' F := fun b hb => ⟨(h b hb).1, Nat.lt_of_lt_of_le (h b hb).2 hk.size⟩
theorem turn (h : Off N w F) (hk : Keep F w w') (hg : Grow w F F') : Off N w' F' := fun b hb => ⟨fun hm => (hg b hm).elim (h b hb).1 (by have := (h b hb).2; omega), Nat.lt_of_lt_of_le (h b hb).2 hk.size⟩
theorem keepN (h : Off N w F) (hk : Keep F w w') : KeepN N w w' := ⟨F, hk, fun b hb => (h b hb).1⟩
theorem add (h : Off N w F) (hk : Keep [] w w') {b : Nat} (h1 : w.heap.size ≤ b) (h2 : b < w'.heap.size) (hF : ∀ x ∈ F, x < w.heap.size) : Off (b :: N) w' F := fun x hx => by
  rcases List.mem_cons.1 hx with rfl | hx
  · exact ⟨fun hm => by have := hF _ hm; omega, h2⟩
  · exact h.keep0 hk x hx
end Off
theorem AckRow.rd {w w' : World} {st : PSt} {A : Option Addr} {c v s e d : Nat} (h : AckRow w w' st A c) (h1 : st.view = v) (h2 : st.seq = s) (h3 : st.epoch = e) (h4 : st.done = d) : Rd w' A 25 (bys (frBytes 8 v s 0 0 e d [])) := by
  subst h1 h2 h3 h4
  exact Rd.of_own h
theorem ack_may (v s e d : Nat) (hv : 1 ≤ v ∧ v ≤ 2147483647) (hs : s ≤ 2147483647) (he : e ≤ 2147483647) (hd : d ≤ s) : FrMay 8 v s 0 0 e d [] := ⟨by omega, .inr (.inr (.inr (.inl ⟨rfl, by omega, rfl, rfl, by omega, by omega, rfl⟩)))⟩
theorem LawSt.new {w0 w w' : World} {B t d s : Nat} {F : List Nat} {D : PDisk} (h : YardNew w0 w B t d s F D) {r x m : Nat} {Fx : List Nat} (hr : ReplicaIs w' w0.heap.size r s d x F Fx B ⟨PS.fresh B D, 0 + 1, emptyW m⟩) (hk : Keep [] w w') (hy : ∀ y ∈ repF r F Fx, y ∈ F ∨ w.heap.size ≤ y) :
    LawSt w0 w' B t r s d x F Fx ⟨PS.fresh B D, 0 + 1, emptyW m⟩ := by
  obtain ⟨mm, xx, hb, h2, h3, h4, h5, h6⟩ := h
  have := hb.lt
  exact ⟨⟨mm, xx, hb.keep0 hk⟩, hr, fun hm => (hy t hm).elim h4 (by omega), h5, h6.trans0 hk⟩
theorem cyc_empty (n m k : Nat) : cyc n (emptyW m) k = 0 := by
  unfold cyc
  rw [List.countP_eq_zero]
  intro j _
  rw [emptyW_get]
  simp
theorem awake_plain {S : PS} {R' : RS} {er : Nat} {v1 v2 : Value} (hv : S.st.view = 1 ∧ S.st.seq = 0 ∧ S.st.epoch = 0) (hg : Good 4 S 0 0)
    (h : Ran 4 ⟨S, 0 + 1, ((emptyW 4).set ((0 + 1 + 1) % 4) ⟨v1, ⟨3, 0, 0, 1, []⟩, true⟩).set ((0 + 1) % 4) ⟨v2, ⟨1, 1, 0, 0, fillOf 9⟩, true⟩⟩ R' er) :
    er = 0 ∧ ∃ S2, R' = ⟨S2, 3, emptyW 4⟩ ∧ S2.st.view = 1 ∧ S2.st.seq = 2 ∧ S2.st.epoch = 1 ∧ S2.st.done = 2 := by
  have o1 : OpFor 4 ⟨1, 1, 0, 0, fillOf 9⟩ := .inl ⟨rfl, by simp, by simp, by simp⟩
  have o2 : OpFor 4 ⟨3, 0, 0, 1, []⟩ := .inr (.inr ⟨rfl, by simp, by simp⟩)
  rcases Ran_two (by omega) rfl rfl h with ⟨q1, _⟩ | ⟨S', q1, q2⟩
  · simp at q1
  · obtain ⟨g1, s1⟩ := q1.good o1 hg (by omega) (by omega)
    simp only at s1
    rcases q2 with ⟨_, q3, _⟩ | ⟨S2, q3, q4, q5⟩
    · exfalso
      apply q3
      rw [s1]
      simp [stDo, hv.2.2]
    · obtain ⟨g2, s2⟩ := q3.good o2 g1 (by omega) (by omega)
      simp only at s2
      exact ⟨q4, S2, q5, by rw [s2, s1]; simp [stDo, hv], by rw [s2, s1]; simp [stDo, hv], by rw [s2, s1]; simp [stDo, hv], by rw [s2, s1]; simp [stDo, hv]⟩
set_option maxHeartbeats 8000000 in
set_option maxRecDepth 40000 in
theorem awake_any (w : World) : Calls Tryz.prog 5 #[] w fun r w' => r = .returned (.bool true) ∧ Keep [] w w' := by
  have hSm := small_ok 3 w
  have hY := fun W => NewYard_ok W 4 (by omega) (by omega)
  have hNil := fun W => NewR_nil 4 (by omega) (by omega) W
  have hF9 := fun W => Fill_any 9 W
  have hMk : ∀ W, Calls Tryz.prog 11 #[.int .i64 1, .int .i64 2, .agg #[.int .i64 3, .int .i64 0, .int .i64 0, .int .i64 1, .slice none 0 0]] W _ := fun W => wire_ok 1 2 3 0 0 1 0 0 none [] (by omega) (by omega) (.inr (.inr ⟨rfl, rfl, rfl, by omega, by omega, rfl⟩)) W (Rd.nil _ _) (by omega)
  go_enter Tryz.func5, Tryz.ntmps5
  go_wp2_with (first
    | (go_at_call 6
       refine hSm.mono ?_
       clear hSm
       rintro e w1 ⟨B, rfl, hB, _, _, hk1⟩
       obtain rfl : B = 4 := by omega
       have hY1 := hY w1
       clear hY)
    | (go_at_call 7
       refine hY1.mono ?_
       clear hY1
       rintro e w2 ⟨t, d, s, F, D, rfl, hYd⟩
       obtain ⟨mm, xx, hbt, hst, hgood, _, _, hk2⟩ := id hYd
       have t0 : w2.cell? ⟨t, 0, none⟩ = some (.pointer (some ⟨d, 0, none⟩)) := by simpa using hbt.cell 0
       have t2 : w2.cell? ⟨t, 2, none⟩ = some (.pointer (some ⟨s, 0, none⟩)) := by simpa using hbt.cell 2
       have hN4 : Calls Tryz.prog 8 #[.pointer (some ⟨s, 0, none⟩), .int .i64 4] w2 _ := NewR_ok w2 w1.heap.size s d F 4 (PS.fresh 4 D) hst (by simp [PS.fresh]) 4 (by omega) (by omega) rfl (by simp [PS.fresh]) hk2.size
       have hN0 := fun W (hk : Keep [] w2 W) => NewR_no W w1.heap.size s d F 4 (PS.fresh 4 D) (hst.keep0 hk) (by simp [PS.fresh]) 0 (by omega)
       have hN17 := fun W (hk : Keep [] w2 W) => NewR_no W w1.heap.size s d F 4 (PS.fresh 4 D) (hst.keep0 hk) (by simp [PS.fresh]) 17 (by omega)
       have htl := hbt.lt)
    | (go_at_call 8
       first
       | (refine hN4.mono ?_
          clear hN4
          rintro e w3 ⟨r, x, Fx, rfl, hr, hk3, hfr⟩
          have hL3 := LawSt.new hYd hr hk3 hfr
          obtain ⟨c0, c2⟩ := hL3.cells)
       | (refine (hNil _).mono ?_
          clear hNil
          rintro e w4 ⟨rfl, hk4⟩
          have hL4 := hL3.keep0 hk4
          clear c0 c2
          obtain ⟨c0, c2⟩ := hL4.cells
          replace hk4 := hk3.trans0 hk4)
       | (refine (hN0 _ hk4).mono ?_
          clear hN0
          rintro e w5 ⟨rfl, hk5⟩
          have hL5 := hL4.keep0 hk5
          clear c0 c2
          obtain ⟨c0, c2⟩ := hL5.cells
          replace hk5 := hk4.trans0 hk5)
       | (refine (hN17 _ hk5).mono ?_
          clear hN17
          rintro e w6 ⟨rfl, hk6⟩
          have hL6 := hL5.keep0 hk6
          clear c0 c2
          obtain ⟨c0, c2⟩ := hL6.cells))
    | (go_at_call 18
       refine (hF9 _).mono ?_
       clear hF9
       rintro e w7 ⟨u, rfl, hu, hk7⟩
       obtain ⟨gd, dc, rfl, hdc⟩ := own_some hu (by omega)))
  have hkA7 : Keep [] w6 (w7.alloc (.cells #[.int .i64 1, .int .i64 1, .int .i64 0, .int .i64 0, .slice (some ⟨gd, 0, none⟩) 64 dc] 46)) := hk7.alloc _
  have hL7 := hL6.keep0 hkA7
  have hbO := Blk.new w7 46 #[.int .i64 1, .int .i64 1, .int .i64 0, .int .i64 0, .slice (some ⟨gd, 0, none⟩) 64 dc]
  have hd7 := (Rd.of_own hu).keep ((Keep.refl _ _).alloc (.cells #[.int .i64 1, .int .i64 1, .int .i64 0, .int .i64 0, .slice (some ⟨gd, 0, none⟩) 64 dc] 46))
  have hgd := own_mem hu (g := gd) (by simp [Value.ownBlock])
  have hoff : Off [w7.heap.size, gd] (w7.alloc (.cells #[.int .i64 1, .int .i64 1, .int .i64 0, .int .i64 0, .slice (some ⟨gd, 0, none⟩) 64 dc] 46)) (repF r F Fx) := by
    have hl := hL6.rep.lt
    have hs7 := hk7.size
    intro b hb
    have hbb : w6.heap.size ≤ b ∧ b < w7.heap.size + 1 := by
      simp only [List.mem_cons, List.not_mem_nil, or_false] at hb
      rcases hb with rfl | rfl <;> omega
    exact ⟨fun hm => by have := hl b hm; omega, by simp; omega⟩
  have hF1 : (PS.fresh 4 D).st.view = 1 ∧ (PS.fresh 4 D).st.seq = 0 ∧ (PS.fresh 4 D).st.epoch = 0 ∧ (PS.fresh 4 D).st.done = 0 := ⟨rfl, rfl, rfl, rfl⟩
  generalize w7.alloc (.cells #[.int .i64 1, .int .i64 1, .int .i64 0, .int .i64 0, .slice (some ⟨gd, 0, none⟩) 64 dc] 46) = w8 at *
  generalize w7.heap.size = ow at *
  generalize PS.fresh 4 D = S at *
  clear hL6 hL5 hL4 hL3 hk3 hk4 hk5 hk6 hk7 hkA7 hu hgd t0 t2 c0 c2 hst hbt hYd hr hfr htl hk2
  go_wp2_with (first
    | (go_at_call 11
       refine (hMk _).mono ?_
       clear hMk
       rintro e w9 ⟨u, rfl, hu, hk9⟩
       obtain ⟨UA, uc, rfl, _⟩ := own_form hu
       have hT := (hL7.keep0 hk9).take hF1.1 3 0 0 1 0 (0 + 1 + 1) [] UA uc (Rd.of_own hu) (.inr (.inr ⟨rfl, rfl, rfl, by omega, by omega, rfl⟩)) rfl (.inr rfl) (by omega) 0 0 hgood (by simp [present_empty]) (by omega) (by simp) (emptyW_ops 4 4) (by simp) (by simp) (emptyW_get _ _) (.inr (.inr ⟨rfl, by simp, by simp⟩)))
    | (go_at_call 10
       refine hT.mono ?_
       clear hT
       rintro e w10 ⟨v1, Fs1, Fx1, R1, er1, hL10, hran, hg10, hops, hk10, hgr10, h10⟩
       have hoff9 := hoff.keep0 hk9
       have hoff10 := hoff9.turn hk10 hgr10
       have hkn10 := (KeepN.of0 hk9).trans (hoff9.keepN hk10)
       obtain ⟨rfl, rfl⟩ := Ran_wait (by omega) hran
       obtain ⟨UA1, uc1, rfl, hack⟩ : ∃ UA1 uc1, e = .returned (.tuple #[.slice UA1 25 uc1, .int .i64 0]) ∧ AckRow w9 w10 S.st UA1 uc1 := by
         rcases h10 with ⟨_, h⟩ | ⟨h, _⟩
         · exact h
         · omega))
  clear h10 hg10 hran hu hk9 hk10 hgr10 hoff9 hoff hL7
  have hD1 := Decode_fr 8 1 0 0 0 0 0 [] (ack_may 1 0 0 0 (by omega) (by omega) (by omega) (by omega)) UA1 25 uc1 w10 (hack.rd hF1.1 hF1.2.1 hF1.2.2.1 hF1.2.2.2)
  have hbO10 := hbO.keepN hkn10 (by simp)
  have hd10 := rd_keepN hd7 hkn10 (by rintro _ ⟨⟩; simp)
  have hWr := fun (v s : Nat) hv hs W hr => wire_ok v s 1 1 0 0 64 dc (some ⟨gd, 0, none⟩) (fillOf 9) hv hs (.inl ⟨rfl, by omega, rfl, rfl, rfl⟩) W hr hdc
  clear hbO hd7 hkn10
  go_wp2_with (first
    | (go_at_call 21
       refine hD1.mono ?_
       clear hD1
       rintro e w11 ⟨UA2, uc2, rfl, _, hk11⟩
       have hkB : Keep [] w10 (w11.alloc (.cells #[.int .i64 8, .int .i64 1, .int .i64 0, .int .i64 0, .int .i64 0, .int .i64 0, .int .i64 0, .slice UA2 0 uc2] 59)) := hk11.alloc _
       have hbF7 := Blk.new w11 59 #[.int .i64 8, .int .i64 1, .int .i64 0, .int .i64 0, .int .i64 0, .int .i64 0, .int .i64 0, .slice UA2 0 uc2]
       obtain ⟨o0, o1, o2, o3, o4⟩ := op_cells (hbO10.keep0 hkB)
       have hoff11 := hoff10.add hkB (b := w11.heap.size) hk11.size (by simp) hL10.rep.lt
       have hL11 := hL10.keep0 hkB
       have hW1 : Calls Tryz.prog 11 #[.int .i64 1, .int .i64 1, .agg #[.int .i64 1, .int .i64 1, .int .i64 0, .int .i64 0, .slice (some ⟨gd, 0, none⟩) 64 dc]] _ _ := hWr 1 1 (by omega) (by omega) _ (hd10.keep hkB))
    | (go_at_call 11
       refine hW1.mono ?_
       clear hW1
       rintro e w12 ⟨u, rfl, hu, hk12⟩
       obtain ⟨UA3, uc3, rfl, _⟩ := own_form hu
       have hT := (hL11.keep0 hk12).take hF1.1 1 1 0 0 64 (0 + 1) (fillOf 9) UA3 uc3 (Rd.of_own hu) (.inl ⟨rfl, by omega, rfl, rfl, rfl⟩) (by simp) (.inl (by omega)) (by omega) 0 0 hgood (by show 0 + present _ ≤ 49; rw [present_one (by omega) _ rfl]; omega) (by omega) (by simp) hops (by simp) (by simp) rfl (.inl ⟨rfl, by simp, by simp, by simp⟩)
       clear o0 o1 o2 o3 o4)
    | (go_at_call 10
       refine hT.mono ?_
       clear hT
       rintro e w13 ⟨v2, Fs2, Fx2, R2, er2, hL13, hran, hg13, hops13, hk13, hgr13, h13⟩
       have hoff12 := hoff11.keep0 hk12
       have hoff13 := hoff12.turn hk13 hgr13
       have hkn13 := (KeepN.of0 hk12).trans (hoff12.keepN hk13)
       obtain ⟨rfl, S2, rfl, hF2⟩ := awake_plain ⟨hF1.1, hF1.2.1, hF1.2.2.1⟩ hgood hran
       obtain ⟨UA4, uc4, rfl, hack2⟩ : ∃ UA1 uc1, e = .returned (.tuple #[.slice UA1 25 uc1, .int .i64 0]) ∧ AckRow w12 w13 S2.st UA1 uc1 := by
         rcases h13 with ⟨_, h⟩ | ⟨h, _⟩
         · exact h
         · omega))
  clear h13 hg13 hran hu hk12 hk13 hgr13 hoff12 hoff11 hL11 hF1 hgood hops hops13 hoff10 hL10
  have hD2 := Decode_fr 8 1 2 0 0 1 2 [] (ack_may 1 2 1 2 (by omega) (by omega) (by omega) (by omega)) UA4 25 uc4 w13 (hack2.rd hF2.1 hF2.2.1 hF2.2.2.1 hF2.2.2.2)
  have hbO13 := (hbO10.keep0 (hk11.alloc (.cells #[.int .i64 8, .int .i64 1, .int .i64 0, .int .i64 0, .int .i64 0, .int .i64 0, .int .i64 0, .slice UA2 0 uc2] 59))).keepN hkn13 (by simp)
  have hd13 := rd_keepN (hd10.keep (hk11.alloc (.cells #[.int .i64 8, .int .i64 1, .int .i64 0, .int .i64 0, .int .i64 0, .int .i64 0, .int .i64 0, .slice UA2 0 uc2] 59))) hkn13 (by rintro _ ⟨⟩; simp)
  have hbF13 := hbF7.keepN hkn13 (by simp)
  clear hbO10 hd10 hbF7 hkn13 hack
  have hRep := fun W (hk : Keep [] w13 W) => (hL13.keep0 hk).rep
  have hbs : ∀ W, Keep [] w13 W → w1.heap.size ≤ W.heap.size := fun W hk => (hL13.keep0 hk).kept.size
  go_wp2_with (first
    | (go_at_call 21
       refine hD2.mono ?_
       clear hD2
       rintro e w14 ⟨UA5, uc5, rfl, _, hk14⟩
       have hkA : Keep [] w13 (w14.alloc (.cells #[.int .i64 8, .int .i64 1, .int .i64 2, .int .i64 0, .int .i64 0, .int .i64 1, .int .i64 2, .slice UA5 0 uc5] 59)) := hk14.alloc _
       have hbF11 := Blk.new w14 59 #[.int .i64 8, .int .i64 1, .int .i64 2, .int .i64 0, .int .i64 0, .int .i64 1, .int .i64 2, .slice UA5 0 uc5]
       obtain ⟨o0, o1, o2, o3, o4⟩ := op_cells (hbO13.keep0 hkA)
       have hW3 : Calls Tryz.prog 11 #[.int .i64 1, .int .i64 1, .agg #[.int .i64 1, .int .i64 1, .int .i64 0, .int .i64 0, .slice (some ⟨gd, 0, none⟩) 64 dc]] _ _ := hWr 1 1 (by omega) (by omega) _ (hd13.keep hkA))
    | (go_at_call 11
       first
       | (refine hW3.mono ?_
          clear hW3
          rintro e w15 ⟨u, rfl, hu, hk15⟩
          obtain ⟨UB, ub, rfl, _⟩ := own_form hu
          have hkc15 := hk15
          replace hk15 := hkA.trans0 hk15
          have hT3 := TakeR_seq w15 _ r s d x Fs2 Fx2 4 ⟨S2, 3, emptyW 4⟩ (hRep _ hk15) (hbs _ hk15) 1 1 0 0 64 1 (fillOf 9) UB ub (by rw [hF2.1]; exact Rd.of_own hu) (.inl ⟨rfl, by omega, rfl, rfl, rfl⟩) (by simp) (.inl (by omega)) (by omega) (by show 1 < 3; omega) (by simp [hF2]) (by simp [hF2]) (by simp [hF2])
          clear o0 o1 o2 o3 o4)
       | (refine hW4.mono ?_
          clear hW4
          rintro e w17 ⟨u, rfl, hu, hk17⟩
          obtain ⟨UC, uc, rfl, _⟩ := own_form hu
          replace hkC := hkC.trans0 hk17
          replace hk17 := hk16.trans0 hk17
          have hT4 := TakeR_win w17 _ r s d x Fs2 Fx2 4 ⟨S2, 3, emptyW 4⟩ (hRep _ hk17) (hbs _ hk17) 1 1 0 0 64 7 (fillOf 9) UC uc (by rw [hF2.1]; exact Rd.of_own hu) (.inl ⟨rfl, by omega, rfl, rfl, rfl⟩) (by simp) (.inl (by omega)) (by omega) (by simp)
          clear o0 o1 o2 o3 o4)
       | (refine hW5.mono ?_
          clear hW5
          rintro e w19 ⟨u, rfl, hu, hk19⟩
          obtain ⟨UD, ud, rfl, _⟩ := own_form hu
          replace hkC := hkC.trans0 hk19
          replace hk19 := hk18.trans0 hk19
          have hT5 := TakeR_view w19 _ r s d x Fs2 Fx2 4 ⟨S2, 3, emptyW 4⟩ (hRep _ hk19) 2 1 1 0 0 64 3 (fillOf 9) UD ud (Rd.of_own hu) (.inl ⟨rfl, by omega, rfl, rfl, rfl⟩) (by simp) (.inl (by omega)) (by omega) (by omega) (by simp [hF2])
          clear o0 o1 o2 o3 o4)
       | (refine hW6.mono ?_
          clear hW6
          rintro e w21 ⟨u, rfl, hu, hk21⟩
          obtain ⟨ge, ue, rfl, hue⟩ := own_some hu (by omega)
          replace hkC := hkC.trans0 hk21
          replace hk21 := hk20.trans0 hk21
          have hSp := spoilt_ok (some ⟨ge, 0, none⟩) 89 ue _ 70 w21 (Rd.of_own hu) (by omega) (by omega) hue
          clear o0 o1 o2 o3 o4))
    | (go_at_call 19
       refine hSp.mono ?_
       clear hSp
       rintro e w22 ⟨u, rfl, hu, hk22⟩
       obtain ⟨UG, ug, rfl, _⟩ := own_form hu
       replace hkC := hkC.trans0 hk22
       replace hk22 := hk21.trans0 hk22
       have hT6 := TakeR_bad r UG 89 ug w22 (Decode_no UG 89 ug _ w22 (Rd.of_own hu) (by omega) (by omega) (turned_any 1 1 3 1 0 0 0 _ (fillOf 9) 85 (by simp) (by omega))))
    | (go_at_call 10
       first
       | (refine hT3.mono ?_
          clear hT3
          rintro e w16 ⟨u, rfl, hac, hk16⟩
          obtain ⟨CA, cc, rfl, _⟩ := own_form hac
          have hkF := hkc15.trans0 hk16
          have hkC := Keep.refl [] w16
          replace hk16 := hk15.trans0 hk16
          obtain ⟨o0, o1, o2, o3, o4⟩ := op_cells (hbO13.keep0 hk16)
          have hW4 : Calls Tryz.prog 11 #[.int .i64 1, .int .i64 7, .agg #[.int .i64 1, .int .i64 1, .int .i64 0, .int .i64 0, .slice (some ⟨gd, 0, none⟩) 64 dc]] _ _ := hWr 1 7 (by omega) (by omega) _ (hd13.keep hk16))
       | (refine hT4.mono ?_
          clear hT4
          rintro e w18 ⟨rfl, hk18⟩
          replace hkC := hkC.trans0 hk18
          replace hk18 := hk17.trans0 hk18
          obtain ⟨o0, o1, o2, o3, o4⟩ := op_cells (hbO13.keep0 hk18)
          have hW5 : Calls Tryz.prog 11 #[.int .i64 2, .int .i64 3, .agg #[.int .i64 1, .int .i64 1, .int .i64 0, .int .i64 0, .slice (some ⟨gd, 0, none⟩) 64 dc]] _ _ := hWr 2 3 (by omega) (by omega) _ (hd13.keep hk18))
       | (refine hT5.mono ?_
          clear hT5
          rintro e w20 ⟨rfl, hk20⟩
          replace hkC := hkC.trans0 hk20
          replace hk20 := hk19.trans0 hk20
          obtain ⟨o0, o1, o2, o3, o4⟩ := op_cells (hbO13.keep0 hk20)
          have hW6 : Calls Tryz.prog 11 #[.int .i64 1, .int .i64 3, .agg #[.int .i64 1, .int .i64 1, .int .i64 0, .int .i64 0, .slice (some ⟨gd, 0, none⟩) 64 dc]] _ _ := hWr 1 3 (by omega) (by omega) _ (hd13.keep hk20))
       | (refine hT6.mono ?_
          clear hT6
          rintro e w23 ⟨rfl, hk23⟩
          replace hkC := hkC.trans0 hk23
          replace hk23 := hk22.trans0 hk23
          have hRet := RetryR_nil w23)))
  obtain ⟨c0, c2⟩ := (hL13.keep0 hk23).cells
  obtain ⟨f0, f1, f2, f3, f4, f5, f6, f7⟩ := frame_cells (hbF13.keep0 hk23)
  obtain ⟨g0, g1, g2, g3, g4, g5, g6, g7⟩ := frame_cells (hbF11.keep0 (hkF.trans0 hkC))
  have hTl := tells_ok w23 w1.heap.size s d Fs2 4 S2 (hRep _ hk23).st CA cc ((Rd.of_own hac).keep hkC) (by rw [hF2.1, hF2.2.1, hF2.2.2.1, hF2.2.2.2]; exact ack_may 1 2 1 2 (by omega) (by omega) (by omega) (by omega))
  have hNx := fun W (hk : Keep [] w13 W) => NextR_is W _ r s d x Fs2 Fx2 4 _ (hRep W hk)
  have hWt := fun W (hk : Keep [] w13 W) => WaitingR_is W _ r s d x Fs2 Fx2 4 _ (hRep W hk)
  simp only [cyc_empty] at hWt
  go_wp2_with (first
    | (go_at_call 22
       refine hRet.mono ?_
       clear hRet
       rintro e w' ⟨rfl, rfl⟩)
    | (go_at_call 16
       refine hTl.mono ?_
       clear hTl
       rintro e w24 ⟨rfl, hk24⟩
       have hk24' := hk23.trans0 hk24)
    | (go_at_call 15
       refine (hNx _ hk24').mono ?_
       clear hNx
       rintro e w' ⟨rfl, rfl⟩)
    | (go_at_call 14
       refine (hWt _ hk24').mono ?_
       clear hWt
       rintro e w25 ⟨rfl, hk25⟩))
  go_ret
  exact ⟨rfl, hk1.trans0 ((hL13.keep0 (hk24'.trans0 hk25)).kept)⟩
end
end Go.Proofs.YtglbkndbbhamcaaGreat
