/-
  A part of the proof: lemmas, and contracts of functions; their conditions stand in them.
-/
import Derived.Test.YtglbkndbbhamcaaGreatJ41
import Derived.Test.YtglbkndbbhamcaaGreatJ11
import Derived.Test.YtglbkndbbhamcaaGreatJ39
import Derived.Test.YtglbkndbbhamcaaGreatJ35
import Derived.Test.YtglbkndbbhamcaaGreatJ31
import Derived.Test.YtglbkndbbhamcaaGreatJ16
namespace Go.Proofs.YtglbkndbbhamcaaGreat
section
open Go.RowKit Go.Shelf
theorem Decode_no (A : Option Addr) (n cp : Nat) (bs : List UInt8) (w : World) (ha : Rd w A n (bys bs)) (hn : 25 ≤ n) (hn2 : n ≤ 65536) (hno : ¬ ((parse bs).May ∧ (parse bs).bytes = bs)) :
    Calls Tryz.prog 21 #[.slice A n cp] w fun e w' => e = .returned (.tuple #[.agg #[.int .i64 0, .int .i64 0, .int .i64 0, .int .i64 0, .int .i64 0, .int .i64 0, .int .i64 0, .slice none 0 0], .int .i64 2]) ∧ Keep [] w w' := by
  refine (Decode_any A n cp bs w ha hn hn2).mono ?_
  rintro e w' ⟨hk, ⟨h1, h2, _⟩ | ⟨_, rfl⟩⟩
  · exact absurd ⟨h1, h2⟩ hno
  · exact ⟨rfl, hk⟩
theorem TakeR_bad (r : Nat) (A : Option Addr) (n cp : Nat) (w : World) (hD : Calls Tryz.prog 21 #[.slice A n cp] w fun e w' => e = .returned (.tuple #[.agg #[.int .i64 0, .int .i64 0, .int .i64 0, .int .i64 0, .int .i64 0, .int .i64 0, .int .i64 0, .slice none 0 0], .int .i64 2]) ∧ Keep [] w w') :
    Calls Tryz.prog 10 #[.pointer (some ⟨r, 0, none⟩), .slice A n cp] w fun e w' => e = .returned (.tuple #[.slice none 0 0, .int .i64 2]) ∧ Keep [] w w' := by
  go_enter Tryz.func10, Tryz.ntmps10
  go_wp2_with (refine hD.mono ?_; clear hD; rintro e w1 ⟨rfl, hk⟩)
  go_ret2
  exact ⟨rfl, hk.alloc _⟩
set_option maxHeartbeats 4000000 in
set_option maxRecDepth 20000 in
theorem TakeR_view (w : World) (base r s d x : Nat) (Fs Fx : List Nat) (B : Nat) (R : RS) (h : ReplicaIs w base r s d x Fs Fx B R) (v k b c e m fs : Nat) (xs : List UInt8) (A : Option Addr) (cp : Nat)
    (ha : Rd w A (25 + m) (bys (frBytes k v fs b c e 0 xs))) (ho : OpMay k b c e m) (hlen : xs.length = m) (hfor : b + max c 1 ≤ B ∨ k = 3) (hfs : 1 ≤ fs ∧ fs ≤ 2147483647) (hv : 1 ≤ v ∧ v ≤ 2147483647) (hne : v ≠ R.S.st.view) :
    Calls Tryz.prog 10 #[.pointer (some ⟨r, 0, none⟩), .slice A (25 + m) cp] w fun e w' => e = .returned (.tuple #[.slice none 0 0, .int .i64 8]) ∧ Keep [] w w' := by
  have hfr : FrMay k v fs b c e 0 xs := ho.fr hv hfs hlen
  have hD := Decode_fr k v fs b c e 0 xs hfr A (25 + m) cp w ha
  have hR := fun W (hk : Keep [] w W) => readyR_ok W base r s d x Fs Fx B R (h.keep0 hk)
  have hSt : ∀ UA uc W, Keep [] w W → Calls Tryz.prog 32 #[.pointer (some ⟨r, 0, none⟩), .agg #[.int .i64 k, .int .i64 v, .int .i64 fs, .int .i64 b, .int .i64 c, .int .i64 e, .int .i64 (0 : Nat), .slice UA m uc]] W fun e w' => e = .returned (.bool false) ∧ Keep [] W w' := fun UA uc W hk => by
    rcases hfor with hb | rfl
    · rcases ho with ⟨h1, _⟩ | ⟨h1, _⟩ | ⟨h1, h2, h3, h4⟩
      · exact strangeR_wt W base r s d x Fs Fx B R (h.keep0 hk) k v fs b c e 0 _ (by omega) hb UA m uc rfl
      · exact strangeR_wt W base r s d x Fs Fx B R (h.keep0 hk) k v fs b c e 0 _ (by omega) hb UA m uc rfl
      · subst h1
        exact strangeR_m W r v fs b c e 0 UA m uc
    · exact strangeR_m W r v fs b c e 0 UA m uc
  have hSa := fun W (hk : Keep [] w W) => StatusAt_is W base s d Fs B R.S (h.keep0 hk).st
  have hcl := fun W (hk : Keep [] w W) => (h.keep0 hk).cells
  rw [hlen] at hD
  have hk9 : ¬ ((k : Nat) : Int) = 9 := by have := ho; rcases this with ⟨h, _⟩ | ⟨h, _⟩ | ⟨h, _⟩ <;> omega
  have hk9b : (((k : Nat) : Int) == 9) = false := by simpa using hk9
  clear h ha hfr hfor
  have HO := hide ho
  clear ho
  generalize R.S.st = st at *
  obtain ⟨mode, view, epoch, seq, done, mount, gen⟩ := st
  simp only at hD hSt hSa hne
  have hvv : ¬ ((v : Nat) : Int) = (view : Nat) := by omega
  have hvb : (((v : Nat) : Int) == (view : Nat)) = false := by simpa using hvv
  have hfd := fun (a0 a1 a2 a3 a4 a5 a6 a7 a8 a9 : Value) W => run_field_one (P := Tryz.prog) Tryz.underlying48 1 rfl Tryz.isAgg3 #[a0, a1, a2, a3, a4, a5, a6, a7, a8, a9] rfl W
  go_enter Tryz.func10, Tryz.ntmps10
  go_wp2_with (first
    | (go_at_call 21
       refine hD.mono ?_
       clear hD
       rintro e1 w1 ⟨UA, uc, rfl, hu, hk1⟩
       have hbF := Blk.new w1 59 #[.int .i64 k, .int .i64 v, .int .i64 fs, .int .i64 b, .int .i64 c, .int .i64 e, .int .i64 (0 : Nat), .slice UA m uc]
       have hkA : Keep [] w (w1.alloc (.cells #[.int .i64 k, .int .i64 v, .int .i64 fs, .int .i64 b, .int .i64 c, .int .i64 e, .int .i64 (0 : Nat), .slice UA m uc] 59)) := hk1.alloc _)
    | (go_at_call 31
       refine (hR _ hkA).mono ?_
       clear hR
       rintro e2 w2 ⟨rfl, hk2⟩
       replace hbF := hbF.keep0 hk2
       replace hkA := hkA.trans0 hk2
       obtain ⟨f0, f1, f2, f3, f4, f5, f6, f7⟩ := frame_cells hbF)
    | (go_at_call 32
       refine (hSt _ _ _ hkA).mono ?_
       clear hSt
       rintro e3 w3 ⟨rfl, hk3⟩
       replace hbF := hbF.keep0 hk3
       replace hkA := hkA.trans0 hk3
       obtain ⟨f0, f1, f2, f3, f4, f5, f6, f7⟩ := frame_cells hbF))
  have r0 := (hcl _ hkA).1
  refine wp_region_ht (fun w' => w'.cell? ⟨w1.heap.size, 1, none⟩ = some (.int .i64 (v : Nat)) ∧ w'.cell? ⟨r, 0, none⟩ = some (.pointer (some ⟨s, 0, none⟩))) 8 [(0, false), (1, false), (2, false), (3, false), (4, false), (5, false), (6, true), (7, false)]
    (by kernel_rfl) (by kernel_rfl) (fun _ _ d _ _ h => by cases d <;> exact h) ⟨f1, r0⟩ ?_
  simp only [PI]
  iterate 6 (refine wpT_held ?_ (by rfl) ?_ ?_; rotate_left; (focus (rintro W ⟨hW0, hW1⟩; go_simp; try with_reducible rfl)); simp only [Act.put, PU])
  refine wpT_loud (by rfl) (fun K hK => ?_)
  go_wp2_with (
    refine (hSa _ hkA.drew).mono ?_
    clear hSa
    rintro e4 w4 ⟨rfl, hk4⟩
    have hkB := hkA.drew.trans0 hk4
    have hbB := hbF.drew.keep0 hk4)
  refine hK _ _ (⟨(frame_cells hbB).2.1, (hcl _ hkB).1⟩) ?_
  clear hK K
  try simp only [Act.put, PU]
  iterate 1 (refine wpT_held ?_ (by rfl) ?_ ?_; rotate_left; (focus (rintro W ⟨hW0, hW1⟩; go_simp; try with_reducible rfl)); simp only [Act.put, PU])
  refine wpT_nil ?_
  go_wp2
  go_ret2
  exact ⟨rfl, hkB⟩
theorem present_set {sl : List PSlot} {i : Nat} (hi : i < sl.length) (h : (sl.getD i PSlot.none_).is = false) (q : PSlot) (hq : q.is = true) : present (sl.set i q) = present sl + 1 := by
  unfold present
  have hg : sl[i].is = false := by simpa [List.getD_eq_getElem?_getD, hi] using h
  have := List.countP_set (p := (·.is)) (l := sl) (i := i) (a := q) hi
  rw [this, if_neg (by simp [hg]), if_pos hq]
  rfl
section
variable (w : World) (base r s d x : Nat) (Fs Fx : List Nat) (B : Nat) (R : RS) (h : ReplicaIs w base r s d x Fs Fx B R) (hbase : base ≤ w.heap.size) (k b c e m fs : Nat) (xs : List UInt8) (A : Option Addr) (cp : Nat)
    (ha : Rd w A (25 + m) (bys (frBytes k R.S.st.view fs b c e 0 xs))) (ho : OpMay k b c e m) (hlen : xs.length = m) (hfor : b + max c 1 ≤ B ∨ k = 3) (hfs : 1 ≤ fs ∧ fs ≤ 2147483647)
include h hbase ha ho hlen hfor hfs
theorem TakeR_win (hn : R.next + R.sl.length ≤ fs) : Calls Tryz.prog 10 #[.pointer (some ⟨r, 0, none⟩), .slice A (25 + m) cp] w fun e w' => e = .returned (.tuple #[.slice none 0 0, .int .i64 10]) ∧ Keep [] w w' := by
  refine TakeR w base r s d x Fs Fx B R h hbase k b c e m fs xs A cp ha ho hlen hfor hfs _ ?_
  intro w5 UA uc hk hu
  obtain ⟨L, hw⟩ := h.win
  refine (PutW_win w5 base x L Fx R.next R.sl (hw.keep0 hk) fs hn hfs.2 k b c e UA m uc).mono ?_
  rintro e5 w6 ⟨rfl, hk6⟩
  exact .inr (.inr ⟨rfl, rfl, hk.trans0 hk6⟩)
theorem TakeR_seq (hn : fs < R.next) (hs : R.S.st.seq ≤ 2147483647) (he : R.S.st.epoch ≤ 2147483647) (hd : R.S.st.done ≤ R.S.st.seq) : Calls Tryz.prog 10 #[.pointer (some ⟨r, 0, none⟩), .slice A (25 + m) cp] w fun e w' =>
    ∃ u, e = .returned (.tuple #[u, .int .i64 9]) ∧ w'.ownsRow w.heap.size 5 1 u 25 (bys (frBytes 8 R.S.st.view R.S.st.seq 0 0 R.S.st.epoch R.S.st.done [])) ∧ Keep [] w w' := by
  refine TakeR w base r s d x Fs Fx B R h hbase k b c e m fs xs A cp ha ho hlen hfor hfs _ ?_
  intro w5 UA uc hk hu
  obtain ⟨L, hw⟩ := h.win
  refine (PutW_seq w5 base x L Fx R.next R.sl (hw.keep0 hk) fs hn k b c e UA m uc).mono ?_
  rintro e5 w6 ⟨rfl, hk6⟩
  refine .inr (.inl ⟨rfl, ?_⟩)
  refine (answerR_ok w6 base r s d x Fs Fx B R (h.keep0 (hk.trans0 hk6)) hs he hd).mono ?_
  rintro e7 w7 ⟨u, rfl, hu7, hk7⟩
  have hkk := (hk.trans0 hk6)
  obtain ⟨A7, c7, rfl, _⟩ := own_form hu7
  exact ⟨A7, _, c7, rfl, _, rfl, own_base hu7 hkk.size, hkk.trans0 hk7⟩
theorem TakeR_in (kk j : Nat) (hg : Good B R.S kk j) (hk : kk + present R.sl ≤ 49) (hj : j ≤ 10000) (hnx : R.next ≤ 1000000) (hop : ∀ q ∈ R.sl, q.is = true → OpFor B q.o) (hn1 : R.next ≤ fs) (hn2 : fs < R.next + R.sl.length) (hq : (R.sl.getD (fs % R.sl.length) PSlot.none_).is = false) (hof : OpFor B ⟨k, b, c, e, xs⟩) :
    Calls Tryz.prog 10 #[.pointer (some ⟨r, 0, none⟩), .slice A (25 + m) cp] w fun en w' =>
      ∃ v, OnPost w base r s d x Fs Fx B ⟨R.S, R.next, R.sl.set (fs % R.sl.length) ⟨v, ⟨k, b, c, e, xs⟩, true⟩⟩ kk j en w' := by
  refine TakeR w base r s d x Fs Fx B R h hbase k b c e m fs xs A cp ha ho hlen hfor hfs _ ?_
  intro w5 UA uc hk5 hu
  obtain ⟨L, hw⟩ := h.win
  have hi : fs % R.sl.length < R.sl.length := Nat.mod_lt _ hw.pos
  subst hlen
  have hu5 := own_base hu hbase
  refine (PutW_ok w5 base x L Fx R.next R.sl (hw.keep0 hk5) fs hn1 hn2 hfs.2 hq k b c e UA uc xs hu5).mono ?_
  rintro e5 w6 ⟨rfl, F', hw6, hk6, hF'⟩
  refine .inl ⟨rfl, ?_⟩
  have hfresh : ∀ z ∈ (Value.slice UA xs.length uc).ownBlock.toList, w.heap.size ≤ z := fun z hz => (own_mem hu hz).1
  have hr6 := (h.keep0 hk5).setWin ⟨L, hw6⟩ hk6 (fun y hy => by
    rcases hF' y hy with h1 | h1
    · exact .inl h1
    · refine .inr ⟨fun hm => ?_, ?_⟩
      · have := hfresh y h1; have := h.st.lt y hm; omega
      · have := hfresh y h1; have := h.blk.lt; omega)
  have hpr := present_set hi hq ⟨.slice UA xs.length uc, ⟨k, b, c, e, xs⟩, true⟩ rfl
  have hkk : Keep (repF r Fs Fx) w w6 := hk5.zero.trans hk6 (fun y hy => .inl (by simp [repF, hy]))
  refine (onR_ok w6 base r s d x Fs F' B _ hr6 kk j hg (by simp only [hpr]; omega) hj hnx ?_).mono ?_
  · intro q hq' hqi
    rcases List.mem_or_eq_of_mem_set hq' with hq' | rfl
    · exact hop q hq' hqi
    · exact hof
  · rintro e7 w7 ⟨Fs7, Fx7, R7, er, h1, h2, h3, h4, h5, h6, h7⟩
    have hsz6 := hkk.size
    have hg6 : Grow w (repF r Fs Fx) (repF r Fs F') := by
      intro y hy
      simp only [repF, List.mem_cons, List.mem_append] at hy ⊢
      rcases hy with hy | hy | hy
      · exact .inl (.inl hy)
      · exact .inl (.inr (.inl hy))
      · rcases hF' y hy with h8 | h8
        · exact .inl (.inr (.inr h8))
        · exact .inr (hfresh y h8)
    have hk7 : Keep (repF r Fs Fx) w w7 := hkk.trans h5 hg6
    have hg7 : Grow w (repF r Fs Fx) (repF r Fs7 Fx7) := fun y hy => by
      rcases h6 y hy with h8 | h8
      · exact hg6 y h8
      · exact .inr (by omega)
    rcases h7 with ⟨rfl, u, rfl, hu7⟩ | ⟨rfl, rfl⟩
    · obtain ⟨A7, c7, rfl, _⟩ := own_form hu7
      exact ⟨A7, _, c7, _, rfl, _, Fs7, Fx7, R7, 0, h1, h2, h3, h4, hk7, hg7, .inl ⟨rfl, _, rfl, own_base hu7 hsz6⟩⟩
    · exact ⟨none, 0, 0, _, rfl, _, Fs7, Fx7, R7, 1, h1, h2, h3, h4, hk7, hg7, .inr ⟨rfl, rfl⟩⟩
end
theorem NewR_nil (m : Nat) (h1 : 1 ≤ m) (h2 : m ≤ 16) (w : World) : Calls Tryz.prog 8 #[.pointer none, .int .i64 (m : Nat)] w fun e w' => e = .returned (.pointer none) ∧ Keep [] w w' := by
  have hS := Status_nil w
  have hW : ∀ W, Calls Tryz.prog 30 #[.int .i64 (m : Nat), .int .i64 1] W _ := fun W => NewWin_ok m 1 h1 h2 (by omega) W
  have hfd := fun W => run_field_one (P := Tryz.prog) Tryz.underlying48 3 rfl Tryz.isAgg3 #[.int .i64 0, .int .i64 0, .int .i64 0, .int .i64 0, .int .i64 0, .int .i64 0, .int .i64 0, .int .i64 0, .int .i64 0, .int .i64 0] rfl W
  go_enter Tryz.func8, Tryz.ntmps8
  go_wp2_with (first
    | (go_at_call 12; refine hS.mono ?_; clear hS; rintro e w1 ⟨rfl, hk1⟩)
    | (go_at_call 30; refine (hW _).mono ?_; clear hW; rintro e w2 ⟨x, rfl, F, hF, hk2⟩))
  go_ret
  exact ⟨rfl, hk1.trans0 hk2⟩
theorem WinIs.down {w : World} {b1 b2 x next : Nat} {L : Value} {F : List Nat} {sl : List PSlot} (h : WinIs w b2 x L F next sl) (hb : b1 ≤ b2) : WinIs w b1 x L F next sl :=
  ⟨h.blk, own_base h.row hb, fun q hq => own_base (h.dat q hq) hb, h.foot, Nat.le_trans hb h.base, h.pos, h.few, h.zero, h.nb⟩
section
variable (w : World) (base s d : Nat) (Fs : List Nat) (B : Nat) (S : PS) (h : StoreAt w base s d Fs B S) (hs : S.st.seq ≤ 1000000)
include h hs
theorem NewR_no (m : Int) (hm : m < 1 ∨ 16 < m) : Calls Tryz.prog 8 #[.pointer (some ⟨s, 0, none⟩), .int .i64 m] w fun e w' => e = .returned (.pointer none) ∧ Keep [] w w' := by
  have hS := StatusAt_is w base s d Fs B S h
  generalize S.st = st at *
  obtain ⟨mode, view, epoch, seq, done, mount, gen⟩ := st
  simp only at hS hs
  have hW := fun W => NewWin_no m (seq + 1) hm W
  rw [Int.natCast_add] at hW
  have hfd := fun (a0 a1 a2 a3 a4 a5 a6 a7 a8 a9 : Value) W => run_field_one (P := Tryz.prog) Tryz.underlying48 3 rfl Tryz.isAgg3 #[a0, a1, a2, a3, a4, a5, a6, a7, a8, a9] rfl W
  go_enter Tryz.func8, Tryz.ntmps8
  go_wp2_with (first
    | (go_at_call 12; refine hS.mono ?_; clear hS; rintro e w1 ⟨rfl, hk1⟩)
    | (go_at_call 30; refine (hW _).mono ?_; clear hW; rintro e w2 ⟨rfl, rfl⟩))
  go_ret
  exact ⟨rfl, hk1⟩
theorem NewR_ok (m : Nat) (h1 : 1 ≤ m) (h2 : m ≤ 16) (hmode : S.st.mode = 1) (hview : 1 ≤ S.st.view ∧ S.st.view ≤ 2147483647) (hbase : base ≤ w.heap.size) :
    Calls Tryz.prog 8 #[.pointer (some ⟨s, 0, none⟩), .int .i64 (m : Nat)] w fun e w' => ∃ r x Fx, e = .returned (.pointer (some ⟨r, 0, none⟩)) ∧ ReplicaIs w' base r s d x Fs Fx B ⟨S, S.st.seq + 1, emptyW m⟩ ∧ Keep [] w w' ∧ (∀ y ∈ repF r Fs Fx, y ∈ Fs ∨ w.heap.size ≤ y) := by
  have hS := StatusAt_is w base s d Fs B S h
  have hres : ∀ w2 x F r, Keep [] w w2 → WinAt w2 w.heap.size x F (S.st.seq + 1) (emptyW m) → r = w2.heap.size → ReplicaIs (w2.alloc (.cells #[.pointer (some ⟨s, 0, none⟩), .pointer (some ⟨x, 0, none⟩)] 80)) base r s d x Fs F B ⟨S, S.st.seq + 1, emptyW m⟩ ∧ (∀ y ∈ repF r Fs F, y ∈ Fs ∨ w.heap.size ≤ y) := by
    intro w2 x F r hk hw hr
    subst hr
    have hka := (Keep.refl [] w2).alloc (.cells #[.pointer (some ⟨s, 0, none⟩), .pointer (some ⟨x, 0, none⟩)] 80)
    obtain ⟨L, hL⟩ := hw
    have hge := hL.ge
    have hlt := hL.lt
    refine ⟨⟨Blk.new _ _ _, h.keep0 (hk.trans0 hka), ⟨L, (hL.down hbase).keep0 hka⟩, fun y hy hm => ?_, fun hm => ?_, fun hm => ?_, ?_, hmode, hview⟩, ?_⟩
    · have := h.lt y hy; have := hge y hm; omega
    · have := h.lt _ hm; have := hk.size; omega
    · have := hlt _ hm; omega
    · have := hk.size; omega
    · intro y hy
      simp only [repF, List.mem_cons, List.mem_append] at hy
      rcases hy with hy | hy | hy
      · exact .inr (by have := hk.size; omega)
      · exact .inl hy
      · exact .inr (hge y hy)
  generalize hst : S.st = st at *
  obtain ⟨mode, view, epoch, seq, done, mount, gen⟩ := st
  simp only at hS hs hres hmode ⊢
  have hW := fun W => NewWin_ok m (seq + 1) h1 h2 (by omega) W
  rw [Int.natCast_add] at hW
  have hfd := fun (a0 a1 a2 a3 a4 a5 a6 a7 a8 a9 : Value) W => run_field_one (P := Tryz.prog) Tryz.underlying48 3 rfl Tryz.isAgg3 #[a0, a1, a2, a3, a4, a5, a6, a7, a8, a9] rfl W
  go_enter Tryz.func8, Tryz.ntmps8
  go_wp2_with (first
    | (go_at_call 12; refine hS.mono ?_; clear hS; rintro e w1 ⟨rfl, hk1⟩)
    | (go_at_call 30; refine (hW _).mono ?_; clear hW; rintro e w2 ⟨x, rfl, F, hF, hk2⟩))
  go_ret
  have hkk := hk1.trans0 hk2
  obtain ⟨L, hL⟩ := hF
  obtain ⟨q1, q2⟩ := hres w2 x F _ hkk ⟨L, hL.down hk1.size⟩ rfl
  exact ⟨_, x, F, rfl, q1, hkk.alloc _, q2⟩
end
section
variable (w : World) (base r s d x : Nat) (Fs Fx : List Nat) (B : Nat) (R : RS) (h : ReplicaIs w base r s d x Fs Fx B R)
include h
theorem NextR_is : Calls Tryz.prog 15 #[.pointer (some ⟨r, 0, none⟩)] w fun e w' => e = .returned (.int .i64 (R.next : Nat)) ∧ w = w' := by
  obtain ⟨c0, c1⟩ := h.cells
  have hN : Calls Tryz.prog 44 #[.pointer (some ⟨x, 0, none⟩)] w fun e w' => e = .returned (.int .i64 (R.next : Nat)) ∧ w = w' := by
    obtain ⟨L, hw⟩ := h.win
    exact NextW_is w base x L Fx R.next R.sl hw
  go_enter Tryz.func15, Tryz.ntmps15
  go_wp2_with (refine hN.mono ?_; clear hN; rintro e w' ⟨rfl, rfl⟩)
  go_ret
  exact ⟨rfl, rfl⟩
theorem WaitingR_is : Calls Tryz.prog 14 #[.pointer (some ⟨r, 0, none⟩)] w fun e w' => e = .returned (.int .i64 (cyc R.next R.sl R.sl.length : Nat)) ∧ Keep [] w w' := by
  obtain ⟨c0, c1⟩ := h.cells
  have hN : Calls Tryz.prog 43 #[.pointer (some ⟨x, 0, none⟩)] w fun e w' => e = .returned (.int .i64 (cyc R.next R.sl R.sl.length : Nat)) ∧ Keep [] w w' := by
    obtain ⟨L, hw⟩ := h.win
    exact LenW_is w base x R.next L Fx R.sl hw
  go_enter Tryz.func14, Tryz.ntmps14
  go_wp2_with (refine hN.mono ?_; clear hN; rintro e w' ⟨rfl, hk⟩)
  go_ret
  exact ⟨rfl, hk⟩
end
theorem RetryR_nil (w : World) : Calls Tryz.prog 22 #[.pointer none] w fun e w' => e = .returned (.tuple #[.slice none 0 0, .int .i64 3]) ∧ w = w' := by
  have hR := readyR_nil w
  go_enter Tryz.func22, Tryz.ntmps22
  go_wp2_with (refine hR.mono ?_; clear hR; rintro e w' ⟨rfl, rfl⟩)
  go_ret2
  exact ⟨rfl, rfl⟩
end
section
open Go.RowKit Go.Shelf
set_option maxHeartbeats 400000 in
theorem CloneI_any (A : Option Addr) (n c : Nat) (xs : List Int) (w : World) (ha : Rd w A n (ints xs)) (hn : n ≤ 1000000) :
    Calls Tryz.prog 121 #[.slice A n c] w fun e w' => ∃ v, e = .returned v ∧ w'.ownsRow w.heap.size 3 1 v n (ints xs) ∧ Keep [] w w' := by
  have heq := fun (W : World) => Lib.run_eql_slice_nil (P := Tryz.prog) W 92 3 A n c 0 0 Tryz.underlying92
  rcases A with _ | ad
  · obtain rfl : n = 0 := by
      rcases Nat.eq_zero_or_pos n with e | e
      · exact e
      · obtain ⟨b, o, h, _⟩ := ha.2 e
        cases h
    obtain rfl : xs = [] := List.eq_nil_of_length_eq_zero (by simpa using ha.1)
    go_enter Tryz.func121, Tryz.ntmps121
    go_wp2
    go_ret
    exact ⟨_, rfl, World.ownsRow_nil _ _ _ _, Keep.refl _ _⟩
  · have hr := ha.keep ((Keep.refl _ w).alloc (.cells #[] 3))
    have ho : (w.alloc (.cells #[] 3)).ownsRow w.heap.size 3 1 (.slice (some ⟨w.heap.size, 0, none⟩) 0 0) 0 [] := own_full (Blk.new w 3 #[]) (Nat.le_refl _) (by omega) rfl rfl
    go_enter Tryz.func121, Tryz.ntmps121
    go_wp2_with (at_builtin; refine elemInts.wp_app rfl _ _ rfl w.heap.size _ 0 [] rfl ho (some ad) n c (ints xs) rfl hr (ints_one _) (by omega) (by omega) (by simp) ?_)
    intro v' w' hown hk _ _
    go_wp2
    go_ret
    exact ⟨_, rfl, by simpa using hown, ((Keep.refl _ w).alloc _).trans hk (by simp [Value.ownBlock])⟩
theorem nats_ints (l : List Nat) : nats l = ints (l.map (fun (x : Nat) => (x : Int))) := by simp [nats, ints, i64]
set_option maxHeartbeats 2000000 in
set_option maxRecDepth 20000 in
theorem Make_ok (w : World) (d t m p g slot P : Nat) (r : PReg) (BA : Option Addr) (bc : Nat) (bz : List Nat) (OA : Option Addr) (oc : Nat) (oz : List Nat) (SA : Option Addr) (sn sc : Nat) (hb : Rd w BA P (nats bz)) (ho : Rd w OA P (nats oz)) (hP : P ≤ 1000) (st : PSt) :
    Calls Tryz.prog 67 #[.pointer (some ⟨d, 0, none⟩), .pointer (some ⟨t, 0, none⟩), .pointer (some ⟨m, 0, none⟩), .pointer (some ⟨p, 0, none⟩), .pointer (some ⟨g, 0, none⟩), .int .i64 (slot : Nat),
      .agg (r.cs (.slice BA P bc) (.slice OA P oc) (.slice SA sn sc)).toArray, .agg #[.int .i64 st.mode, .int .i64 st.view, .int .i64 st.epoch, .int .i64 st.seq, .int .i64 st.done, .int .i64 st.mount, .int .i64 st.gen, .int .i64 0, .int .i64 0, .int .i64 0]] w
      fun e w' => ∃ s L0 L1, e = .returned (.pointer (some ⟨s, 0, none⟩)) ∧ w.heap.size ≤ s ∧
        Blk w' s 95 #[.pointer (some ⟨d, 0, none⟩), .pointer (some ⟨g, 0, none⟩), .pointer (some ⟨t, 0, none⟩), .pointer (some ⟨m, 0, none⟩), .pointer (some ⟨p, 0, none⟩),
          .int .i64 st.mode, .int .i64 st.view, .int .i64 st.epoch, .int .i64 st.seq, .int .i64 st.done, .int .i64 st.mount, .int .i64 st.gen, .int .i64 0, .int .i64 0, .int .i64 0, .int .i64 slot, L0, L1] ∧
        w'.ownsRow w.heap.size 3 1 L0 P (nats bz) ∧ w'.ownsRow w.heap.size 3 1 L1 P (nats oz) ∧ Keep [] w w' := by
  obtain ⟨gen, view, mode, epoch, seq, done, ⟨seg, off, lsn, prev, mount⟩⟩ := r
  obtain ⟨smode, sview, sepoch, sseq, sdone, smount, sgen⟩ := st
  simp only [PReg.cs, PPos.cs, List.cons_append, List.nil_append] at *
  rw [nats_ints] at hb ho
  rw [nats_ints, nats_ints]
  obtain ⟨wA, hwA⟩ : ∃ wA, wA = (w.alloc (.cells #[.int .i64 gen, .int .i64 view, .int .i64 mode, .int .i64 epoch, .int .i64 seq, .int .i64 done, .int .i64 seg, .int .i64 off, .int .i64 lsn, .int .i64 prev, .int .i64 mount, .slice BA P bc, .slice OA P oc, .slice SA sn sc] 135)).alloc (.cells #[.int .i64 smode, .int .i64 sview, .int .i64 sepoch, .int .i64 sseq, .int .i64 sdone, .int .i64 smount, .int .i64 sgen, .int .i64 0, .int .i64 0, .int .i64 0] 48) := ⟨_, rfl⟩
  have hkA : Keep [] w wA := by rw [hwA]; exact ((Keep.refl _ _).alloc _).alloc _
  have hbR : Blk wA w.heap.size 135 #[.int .i64 gen, .int .i64 view, .int .i64 mode, .int .i64 epoch, .int .i64 seq, .int .i64 done, .int .i64 seg, .int .i64 off, .int .i64 lsn, .int .i64 prev, .int .i64 mount, .slice BA P bc, .slice OA P oc, .slice SA sn sc] := by
    rw [hwA]; exact (Blk.new w _ _).keep0 ((Keep.refl _ _).alloc _)
  have hbS : Blk wA (w.heap.size + 1) 48 #[.int .i64 smode, .int .i64 sview, .int .i64 sepoch, .int .i64 sseq, .int .i64 sdone, .int .i64 smount, .int .i64 sgen, .int .i64 0, .int .i64 0, .int .i64 0] := by
    rw [hwA]
    have := Blk.new (w.alloc (.cells #[.int .i64 gen, .int .i64 view, .int .i64 mode, .int .i64 epoch, .int .i64 seq, .int .i64 done, .int .i64 seg, .int .i64 off, .int .i64 lsn, .int .i64 prev, .int .i64 mount, .slice BA P bc, .slice OA P oc, .slice SA sn sc] 135)) 48 #[.int .i64 smode, .int .i64 sview, .int .i64 sepoch, .int .i64 sseq, .int .i64 sdone, .int .i64 smount, .int .i64 sgen, .int .i64 0, .int .i64 0, .int .i64 0]
    rw [show ∀ o, (w.alloc o).heap.size = w.heap.size + 1 from fun o => by simp] at this
    exact this
  go_enter Tryz.func67, Tryz.ntmps67
  go_wp2_with fail
  rw [← hwA]
  clear hwA
  have hC0 := CloneI_any BA P bc _ wA.drew (hb.keep hkA.drew) (by omega)
  refine wp_region_ht (fun w' => w'.cell? ⟨w.heap.size + 1, 0, none⟩ = some (.int .i64 smode) ∧ w'.cell? ⟨w.heap.size + 1, 1, none⟩ = some (.int .i64 sview) ∧ w'.cell? ⟨w.heap.size + 1, 2, none⟩ = some (.int .i64 sepoch) ∧ w'.cell? ⟨w.heap.size + 1, 3, none⟩ = some (.int .i64 sseq) ∧ w'.cell? ⟨w.heap.size + 1, 4, none⟩ = some (.int .i64 sdone) ∧ w'.cell? ⟨w.heap.size + 1, 5, none⟩ = some (.int .i64 smount) ∧ w'.cell? ⟨w.heap.size + 1, 6, none⟩ = some (.int .i64 sgen) ∧ w'.cell? ⟨w.heap.size + 1, 7, none⟩ = some (.int .i64 0) ∧ w'.cell? ⟨w.heap.size + 1, 8, none⟩ = some (.int .i64 0) ∧ w'.cell? ⟨w.heap.size + 1, 9, none⟩ = some (.int .i64 0) ∧ w'.cell? ⟨w.heap.size, 11, none⟩ = some (.slice BA P bc) ∧ w'.cell? ⟨w.heap.size, 12, none⟩ = some (.slice OA P oc)) 14 [(0, false), (1, false), (2, false), (3, false), (4, false), (5, false), (6, false), (7, false), (8, false), (10, false), (11, false), (9, true), (12, true), (13, false)]
    (by kernel_rfl) (by kernel_rfl) (fun _ _ d _ _ h => by cases d <;> exact h) ⟨(by simpa using (hbS.drew).cell 0), (by simpa using (hbS.drew).cell 1), (by simpa using (hbS.drew).cell 2), (by simpa using (hbS.drew).cell 3), (by simpa using (hbS.drew).cell 4), (by simpa using (hbS.drew).cell 5), (by simpa using (hbS.drew).cell 6), (by simpa using (hbS.drew).cell 7), (by simpa using (hbS.drew).cell 8), (by simpa using (hbS.drew).cell 9), (by simpa using (hbR.drew).cell 11), (by simpa using (hbR.drew).cell 12)⟩ ?_
  simp only [PI]
  iterate 11 (refine wpT_held ?_ (by rfl) ?_ ?_; rotate_left; (focus (rintro W ⟨hW0, hW1, hW2, hW3, hW4, hW5, hW6, hW7, hW8, hW9, hW10, hW11⟩; go_simp; try with_reducible rfl)); simp only [Act.put, PU])
  refine wpT_loud (by rfl) (fun K hK => ?_)
  go_wp2_with (refine hC0.mono ?_; clear hC0; rintro e w1 ⟨v1, rfl, hv1, hk1⟩)
  have hkB : Keep [] wA w1 := (Keep.refl _ _).drew.trans0 hk1
  have hC1 := CloneI_any OA P oc _ w1 (ho.keep (hkA.trans0 hkB)) (by omega)
  obtain ⟨VA1, vc1, rfl, _⟩ := own_form hv1
  refine hK _ _ (⟨(by simpa using (hbS.keep0 hkB).cell 0), (by simpa using (hbS.keep0 hkB).cell 1), (by simpa using (hbS.keep0 hkB).cell 2), (by simpa using (hbS.keep0 hkB).cell 3), (by simpa using (hbS.keep0 hkB).cell 4), (by simpa using (hbS.keep0 hkB).cell 5), (by simpa using (hbS.keep0 hkB).cell 6), (by simpa using (hbS.keep0 hkB).cell 7), (by simpa using (hbS.keep0 hkB).cell 8), (by simpa using (hbS.keep0 hkB).cell 9), (by simpa using (hbR.keep0 hkB).cell 11), (by simpa using (hbR.keep0 hkB).cell 12)⟩) ?_
  clear hK K
  try simp only [Act.put, PU]
  refine wpT_loud (by rfl) (fun K hK => ?_)
  go_wp2_with (refine hC1.mono ?_; clear hC1; rintro e w2 ⟨v2, rfl, hv2, hk2⟩)
  have hkC : Keep [] wA w2 := hkB.trans0 hk2
  obtain ⟨VA2, vc2, rfl, _⟩ := own_form hv2
  refine hK _ _ (⟨(by simpa using (hbS.keep0 hkC).cell 0), (by simpa using (hbS.keep0 hkC).cell 1), (by simpa using (hbS.keep0 hkC).cell 2), (by simpa using (hbS.keep0 hkC).cell 3), (by simpa using (hbS.keep0 hkC).cell 4), (by simpa using (hbS.keep0 hkC).cell 5), (by simpa using (hbS.keep0 hkC).cell 6), (by simpa using (hbS.keep0 hkC).cell 7), (by simpa using (hbS.keep0 hkC).cell 8), (by simpa using (hbS.keep0 hkC).cell 9), (by simpa using (hbR.keep0 hkC).cell 11), (by simpa using (hbR.keep0 hkC).cell 12)⟩) ?_
  clear hK K
  try simp only [Act.put, PU]
  iterate 1 (refine wpT_held ?_ (by rfl) ?_ ?_; rotate_left; (focus (rintro W ⟨hW0, hW1, hW2, hW3, hW4, hW5, hW6, hW7, hW8, hW9, hW10, hW11⟩; go_simp; try with_reducible rfl)); simp only [Act.put, PU])
  refine wpT_nil ?_
  have hv1' := own_base (own_keep0 hv1 hk2) (show w.heap.size ≤ wA.drew.heap.size from hkA.size)
  have hv2' := own_base hv2 (show w.heap.size ≤ w1.heap.size from Nat.le_trans hkA.size hkB.size)
  go_wp2_with fail
  go_ret
  refine ⟨_, _, _, rfl, Nat.le_trans hkA.size hkC.size, Blk.new _ _ _, own_alloc hv1' _, own_alloc hv2' _, (hkA.trans0 hkC).alloc _⟩
end
section
open Go.RowKit
def partOp (B : Nat) (z : Int × Int × Int) (ep : Nat) : POp × Nat :=
  if z.1 = 0 then (⟨3, 0, 0, ((ep : Nat) : Int) + 1, []⟩, ep + 1) else if z.1 = 1 then (⟨2, z.2.1 % (B : Nat), 1 + z.2.2 % ((B : Nat) - z.2.1 % (B : Nat)), 0, []⟩, ep) else (⟨1, z.2.1 % (B : Nat), 0, 0, fillOf z.2.2⟩, ep)
def strm (B : Nat) (zs : List (Int × Int × Int)) : Nat → List POp × Nat
  | 0 => ([], 0)
  | n + 1 => ((strm B zs n).1 ++ [(partOp B (zs.getD n (0, 0, 0)) (strm B zs n).2).1], (partOp B (zs.getD n (0, 0, 0)) (strm B zs n).2).2)
theorem strm_len (B : Nat) (zs : List (Int × Int × Int)) (n : Nat) : (strm B zs n).1.length = n := by
  induction n with
  | zero => rfl
  | succ n ih => simp [strm, ih]
theorem strm_ep (B : Nat) (zs : List (Int × Int × Int)) (n : Nat) : (strm B zs n).2 ≤ n := by
  induction n with
  | zero => simp [strm]
  | succ n ih =>
    simp only [strm, partOp]
    split
    · simp; exact ih
    · split <;> simp <;> omega
theorem strm_get (B : Nat) (zs : List (Int × Int × Int)) (n i : Nat) (h : i < n) : (strm B zs n).1[i]? = some (partOp B (zs.getD i (0, 0, 0)) (strm B zs i).2).1 := by
  induction n with
  | zero => omega
  | succ n ih =>
    have hl := strm_len B zs n
    simp only [strm]
    rcases Nat.lt_or_ge i n with hlt | hge
    · rw [List.getElem?_append_left (by omega), ih hlt]
    · obtain rfl : i = n := by omega
      rw [List.getElem?_append_right (by omega), hl]
      simp
theorem strm_next (B : Nat) (zs : List (Int × Int × Int)) (i : Nat) : (strm B zs (i + 1)).2 = (partOp B (zs.getD i (0, 0, 0)) (strm B zs i).2).2 := rfl
theorem partOp_ep (B : Nat) (z : Int × Int × Int) (ep : Nat) : ((partOp B z ep).1.k = 3 ∧ (partOp B z ep).1.e = ((ep : Nat) : Int) + 1 ∧ (partOp B z ep).2 = ep + 1) ∨ ((partOp B z ep).1.k ≠ 3 ∧ (partOp B z ep).2 = ep) := by
  unfold partOp
  split
  · exact .inl ⟨rfl, rfl, rfl⟩
  · split
    · exact .inr ⟨by simp, rfl⟩
    · exact .inr ⟨by simp, rfl⟩
theorem partOp_for (B : Nat) (hB : 1 ≤ B ∧ B ≤ 64) (z : Int × Int × Int) (ep : Nat) (he : ep ≤ 1000000) : OpFor B (partOp B z ep).1 ∧ ∃ k b c e : Nat, ∃ xs, (partOp B z ep).1 = ⟨k, b, c, e, xs⟩ ∧ OpMay k b c e xs.length ∧ (b + max c 1 ≤ B ∨ k = 3) := by
  have h1 := Int.emod_nonneg z.2.1 (show ((B : Nat) : Int) ≠ 0 by omega)
  have h2 := Int.emod_lt_of_pos z.2.1 (show (0 : Int) < ((B : Nat) : Int) by omega)
  have h3 := Int.emod_nonneg z.2.2 (show ((B : Nat) : Int) - z.2.1 % (B : Nat) ≠ 0 by omega)
  have h4 := Int.emod_lt_of_pos z.2.2 (show (0 : Int) < ((B : Nat) : Int) - z.2.1 % (B : Nat) by omega)
  unfold partOp
  split
  · refine ⟨.inr (.inr ⟨rfl, ?_, ?_⟩), 3, 0, 0, ep + 1, [], by simp, .inr (.inr ⟨rfl, rfl, rfl, by omega, by omega, rfl⟩), .inr rfl⟩
    · dsimp only; omega
    · dsimp only; omega
  · split
    · refine ⟨.inr (.inl ⟨rfl, ?_, ?_, ?_⟩), 2, (z.2.1 % (B : Nat)).toNat, (1 + z.2.2 % ((B : Nat) - z.2.1 % (B : Nat))).toNat, 0, [], ?_, .inr (.inl ⟨rfl, by omega, by omega, by omega, rfl, rfl⟩), .inl (by omega)⟩
      · exact h1
      · dsimp only; omega
      · dsimp only; omega
      · simp only [POp.mk.injEq, and_true]; refine ⟨rfl, ?_, ?_, rfl⟩ <;> omega
    · refine ⟨.inl ⟨rfl, h1, h2, by simp⟩, 1, (z.2.1 % (B : Nat)).toNat, 0, 0, fillOf z.2.2, ?_, .inl ⟨rfl, by omega, rfl, rfl, by simp⟩, .inl (by omega)⟩
      simp only [POp.mk.injEq, and_true]; refine ⟨rfl, ?_, rfl, rfl⟩; omega
def PartsAt (w : World) (A : Option Addr) (len : Nat) (zs : List (Int × Int × Int)) : Prop :=
  zs.length = len ∧ (0 < len → ∃ ab ao, A = some ⟨ab, ao, none⟩ ∧ ab < w.heap.size ∧ ∀ i z, zs[i]? = some z → w.cell? ⟨ab, ao + i * 3, none⟩ = some (.int .i64 z.1) ∧ w.cell? ⟨ab, ao + i * 3 + 1, none⟩ = some (.int .i64 z.2.1) ∧
    w.cell? ⟨ab, ao + i * 3 + 2, none⟩ = some (.int .i64 z.2.2))
theorem PartsAt.keep0 {w w' : World} {A : Option Addr} {len : Nat} {zs : List (Int × Int × Int)} (h : PartsAt w A len zs) (hk : Keep [] w w') : PartsAt w' A len zs :=
  ⟨h.1, fun h0 => by
    obtain ⟨ab, ao, e, hb, hc⟩ := h.2 h0
    exact ⟨ab, ao, e, hk.lt hb, fun i z hz => by
      obtain ⟨a, b, c⟩ := hc i z hz
      exact ⟨(hk.cell hb (by simp) _).trans a, (hk.cell hb (by simp) _).trans b, (hk.cell hb (by simp) _).trans c⟩⟩⟩
set_option maxHeartbeats 8000000 in
set_option maxRecDepth 20000 in
theorem opsL_any (w0 : World) (B : Nat) (hB : 1 ≤ B ∧ B ≤ 64) (A : Option Addr) (len cap : Nat) (zs : List (Int × Int × Int)) (hz : PartsAt w0 A len zs) (hlen : len ≤ 60) :
    Calls Tryz.prog 9 #[.int .i64 (B : Nat), .slice A len cap] w0 fun e w' => ∃ OA oc oz, e = .returned (.slice OA len oc) ∧ oz.map (·.2) = (strm B zs len).1 ∧ OHold w' w0.heap.size [] (.slice OA len oc) oz ∧ Keep [] w0 w' := by
  have hzl : zs.length = len := hz.1
  have HZL := hide hzl
  clear hzl
  go_enter Tryz.func9, Tryz.ntmps9
  go_wp2
  go_loopw [5, 6, 7] (fun v ep i wr => ∃ j oz, j ≤ len ∧ i = .int .i64 (j : Nat) ∧ ep = .int .i64 ((strm B zs j).2 : Nat) ∧ Hid (oz.map (·.2) = (strm B zs j).1) ∧ Hid (oz.length = j) ∧ OHold wr w0.heap.size [] v oz ∧ Keep [] w0 wr) (fun _ _ i _ => len - (intOf i).toNat)
  case atStart => exact ⟨0, [], Nat.zero_le _, rfl, rfl, rfl, rfl, OHold.nil _ _ _, Keep.refl _ _⟩
  case round =>
    obtain ⟨j, oz, hj, rfl, rfl, hoz, hol, hO, hkw⟩ := hrel
    obtain ⟨VA, vc, hvv, _⟩ := own_form hO.row
    rw [unhide hol] at hvv
    subst hvv
    by_cases hlt : j < len
    · obtain ⟨b, o, hA', hb, hc⟩ := hz.2 (by omega)
      subst hA'
      have hjl : j < zs.length := by rw [unhide HZL]; exact hlt
      obtain ⟨c0, c1, c2⟩ := hc j zs[j] (List.getElem?_eq_getElem hjl)
      replace c0 := (hkw.cell (b := b) hb (by simp) _).trans c0
      replace c1 := (hkw.cell (b := b) hb (by simp) _).trans c1
      replace c2 := (hkw.cell (b := b) hb (by simp) _).trans c2
      have hgd : zs.getD j (0, 0, 0) = zs[j] := by rw [List.getD_eq_getElem?_getD, List.getElem?_eq_getElem hjl]; rfl
      have hepj := strm_ep B zs j
      have hbw := hkw.lt hb
      clear hc
      generalize zs[j] = z at *
      obtain ⟨zk, zb, zn⟩ := z
      simp only at c0 c1 c2
      obtain ⟨bb, hbb, hbbB⟩ : ∃ bb : Nat, zb % (B : Nat) = (bb : Int) ∧ bb < B := ⟨(zb % (B : Nat)).toNat, by have := Int.emod_nonneg zb (show ((B : Nat) : Int) ≠ 0 by omega); omega, by have := Int.emod_nonneg zb (show ((B : Nat) : Int) ≠ 0 by omega); have := Int.emod_lt_of_pos zb (show (0 : Int) < ((B : Nat) : Int) by omega); omega⟩
      have HR : ∀ W : World, Calls Tryz.prog 13 #[.int .i64 zb, .int .i64 (B : Nat)] W fun e w' => e = .returned (.int .i64 (bb : Nat)) ∧ W = w' := fun W => by
        rw [← hbb]; exact Round_any _ _ _ (by omega) (by omega)
      obtain ⟨nn, hnn, hnn2⟩ : ∃ nn : Nat, zn % ((B : Nat) - (bb : Nat)) = (nn : Int) ∧ nn < B := ⟨(zn % ((B : Nat) - (bb : Nat))).toNat, by have := Int.emod_nonneg zn (show ((B : Nat) : Int) - (bb : Nat) ≠ 0 by omega); omega, by have := Int.emod_nonneg zn (show ((B : Nat) : Int) - (bb : Nat) ≠ 0 by omega); have := Int.emod_lt_of_pos zn (show (0 : Int) < ((B : Nat) : Int) - (bb : Nat) by omega); omega⟩
      have HRn : ∀ W : World, Calls Tryz.prog 13 #[.int .i64 zn, .int .i64 ((B : Nat) - (bb : Nat))] W fun e w' => e = .returned (.int .i64 (nn : Nat)) ∧ W = w' := fun W => by
        rw [← hnn]; exact Round_any _ _ _ (by omega) (by omega)
      have hF := Fill_any zn wr
      have HBB := hide hbb
      have HNN := hide hnn
      have HGD := hide hgd
      have hv0 := hO.row
      clear hbb hnn hgd
      by_cases hq0 : zk = 0
      · subst hq0
        have hkA : Keep [] wr (wr.alloc (.cells #[.int .i64 3, .int .i64 0, .int .i64 0, .int .i64 (((strm B zs j).2 : Nat) + 1), .slice none 0 0] 46)) := (Keep.refl _ _).alloc _
        have hrdB : Rd (wr.alloc (.cells #[.int .i64 3, .int .i64 0, .int .i64 0, .int .i64 (((strm B zs j).2 : Nat) + 1), .slice none 0 0] 46)) (some ⟨wr.heap.size, 0, none⟩) (1 * 5) (opc ((.slice none 0 0), ⟨3, 0, 0, ((strm B zs j).2 : Nat) + 1, []⟩)) := by
          have := Rd.of_blk (n := 5) (Blk.new wr 46 #[.int .i64 3, .int .i64 0, .int .i64 0, .int .i64 (((strm B zs j).2 : Nat) + 1), .slice none 0 0]) (by simp)
          simpa [opc] using this
        go_wp2_with (first
          | (refine (HR _).mono ?_; clear HR; rintro r w' ⟨rfl, rfl⟩)
          | (at_builtin; refine elemOps.wp_app rfl _ _ rfl w0.heap.size _ oz.length (oz.flatMap opc) rfl (own_alloc hv0 _) ⟨wr.heap.size, 0, none⟩ 1 1 (opc ((.slice none 0 0), ⟨3, 0, 0, ((strm B zs j).2 : Nat) + 1, []⟩)) rfl hrdB (opc_one _ rfl) (by have := unhide hol; omega) (by have := unhide hol; omega) (by have := hkw.size; simp; omega) ?_))
        intro v' w6 hv' hk6 _ _
        obtain ⟨VA', vc', hvv', _⟩ := own_form hv'
        subst hvv'
        have hO6 := (hO.keep0 hkA).snoc ((.slice none 0 0 : Value), (⟨3, 0, 0, ((strm B zs j).2 : Nat) + 1, []⟩ : POp)) (World.ownsRow_nil _ _ _ _) (by simp) hv' hk6
        have hkw6 : Keep [] w0 w6 := (hkw.trans0 hkA).trans hk6 (fun x hx => .inr (own_mem (hO.keep0 hkA).row (by simpa using hx)).1)
        go_wp2
        go_round
        case rel =>
          have hs1 : (strm B zs (j + 1)).1 = (strm B zs j).1 ++ [(⟨3, 0, 0, ((strm B zs j).2 : Nat) + 1, []⟩ : POp)] := by simp only [strm, unhide HGD, partOp]; rfl
          have hs2 : (strm B zs (j + 1)).2 = (strm B zs j).2 + 1 := by simp only [strm, unhide HGD, partOp]; rfl
          refine ⟨j + 1, oz ++ [((.slice none 0 0 : Value), (⟨3, 0, 0, ((strm B zs j).2 : Nat) + 1, []⟩ : POp))], by omega, by go_num, by rw [hs2]; go_num, ?_, ?_, hO6, hkw6⟩
          · show _ = _; rw [List.map_append, unhide hoz, hs1]; rfl
          · show _ = _; rw [List.length_append, unhide hol]; rfl
        case measure => simp [intOf]; omega
      · by_cases hq1 : zk = 1
        · subst hq1
          have hkA : Keep [] wr (wr.alloc (.cells #[.int .i64 2, .int .i64 bb, .int .i64 (1 + (nn : Nat)), .int .i64 0, .slice none 0 0] 46)) := (Keep.refl _ _).alloc _
          have hrdB : Rd (wr.alloc (.cells #[.int .i64 2, .int .i64 bb, .int .i64 (1 + (nn : Nat)), .int .i64 0, .slice none 0 0] 46)) (some ⟨wr.heap.size, 0, none⟩) (1 * 5) (opc ((.slice none 0 0), ⟨2, (bb : Nat), 1 + (nn : Nat), 0, []⟩)) := by
            have := Rd.of_blk (n := 5) (Blk.new wr 46 #[.int .i64 2, .int .i64 bb, .int .i64 (1 + (nn : Nat)), .int .i64 0, .slice none 0 0]) (by simp)
            simpa [opc] using this
          go_wp2_with (first
            | (go_at_call 13; first | (refine (HR _).mono ?_; clear HR; rintro r w' ⟨rfl, rfl⟩) | (refine (HRn _).mono ?_; clear HRn; rintro r w' ⟨rfl, rfl⟩))
            | (at_builtin; refine elemOps.wp_app rfl _ _ rfl w0.heap.size _ oz.length (oz.flatMap opc) rfl (own_alloc hv0 _) ⟨wr.heap.size, 0, none⟩ 1 1 (opc ((.slice none 0 0), ⟨2, (bb : Nat), 1 + (nn : Nat), 0, []⟩)) rfl hrdB (opc_one _ rfl) (by have := unhide hol; omega) (by have := unhide hol; omega) (by have := hkw.size; simp; omega) ?_))
          intro v' w6 hv' hk6 _ _
          obtain ⟨VA', vc', hvv', _⟩ := own_form hv'
          subst hvv'
          have hO6 := (hO.keep0 hkA).snoc ((.slice none 0 0 : Value), (⟨2, (bb : Nat), 1 + (nn : Nat), 0, []⟩ : POp)) (World.ownsRow_nil _ _ _ _) (by simp) hv' hk6
          have hkw6 : Keep [] w0 w6 := (hkw.trans0 hkA).trans hk6 (fun x hx => .inr (own_mem (hO.keep0 hkA).row (by simpa using hx)).1)
          go_wp2
          go_round
          case rel =>
            have hs1 : (strm B zs (j + 1)).1 = (strm B zs j).1 ++ [(⟨2, (bb : Nat), 1 + (nn : Nat), 0, []⟩ : POp)] := by simp only [strm, unhide HGD, partOp]; try simp [unhide HBB, unhide HNN]
            have hs2 : (strm B zs (j + 1)).2 = (strm B zs j).2 := by simp only [strm, unhide HGD, partOp]; try simp [unhide HBB, unhide HNN]
            refine ⟨j + 1, oz ++ [((.slice none 0 0 : Value), (⟨2, (bb : Nat), 1 + (nn : Nat), 0, []⟩ : POp))], by omega, by go_num, by rw [hs2], ?_, ?_, hO6, hkw6⟩
            · show _ = _; rw [List.map_append, unhide hoz, hs1]; rfl
            · show _ = _; rw [List.length_append, unhide hol]; rfl
          case measure => simp [intOf]; omega
        · go_wp2_with (first
            | (go_at_call 13; refine (HR _).mono ?_; clear HR; rintro r w' ⟨rfl, rfl⟩)
            | (go_at_call 18
               refine hF.mono ?_
               clear hF
               rintro r w2 ⟨u, rfl, hu, hk2⟩
               obtain ⟨UA, uc, rfl, _⟩ := own_form hu
               have hkA := hk2.alloc (.cells #[.int .i64 1, .int .i64 bb, .int .i64 0, .int .i64 0, .slice UA 64 uc] 46)
               have hrdB : Rd (w2.alloc (.cells #[.int .i64 1, .int .i64 bb, .int .i64 0, .int .i64 0, .slice UA 64 uc] 46)) (some ⟨w2.heap.size, 0, none⟩) (1 * 5) (opc ((.slice UA 64 uc), ⟨1, (bb : Nat), 0, 0, fillOf zn⟩)) := by
                 have := Rd.of_blk (n := 5) (Blk.new w2 46 #[.int .i64 1, .int .i64 bb, .int .i64 0, .int .i64 0, .slice UA 64 uc]) (by simp)
                 simpa [opc] using this)
            | (at_builtin; refine elemOps.wp_app rfl _ _ rfl w0.heap.size _ oz.length (oz.flatMap opc) rfl (own_alloc (own_keep0 hv0 hk2) _) ⟨w2.heap.size, 0, none⟩ 1 1 (opc ((.slice UA 64 uc), ⟨1, (bb : Nat), 0, 0, fillOf zn⟩)) rfl hrdB (opc_one _ rfl) (by have := unhide hol; omega) (by have := unhide hol; omega) (by have := hkw.size; have := hk2.size; simp; omega) ?_))
          intro v' w6 hv' hk6 _ _
          obtain ⟨VA', vc', hvv', _⟩ := own_form hv'
          subst hvv'
          have hO6 := (hO.keep0 hkA).snoc ((.slice UA 64 uc : Value), (⟨1, (bb : Nat), 0, 0, fillOf zn⟩ : POp)) (own_base (own_alloc (by simpa using hu) _) hkw.size) (by simp) hv' hk6
          have hkw6 : Keep [] w0 w6 := (hkw.trans0 hkA).trans hk6 (fun x hx => .inr (own_mem (hO.keep0 hkA).row (by simpa using hx)).1)
          go_wp2
          go_round
          case rel =>
            have hs1 : (strm B zs (j + 1)).1 = (strm B zs j).1 ++ [(⟨1, (bb : Nat), 0, 0, fillOf zn⟩ : POp)] := by simp only [strm, unhide HGD, partOp]; try simp [hq0, hq1, unhide HBB]
            have hs2 : (strm B zs (j + 1)).2 = (strm B zs j).2 := by simp only [strm, unhide HGD, partOp]; try simp [hq0, hq1, unhide HBB]
            refine ⟨j + 1, oz ++ [((.slice UA 64 uc : Value), (⟨1, (bb : Nat), 0, 0, fillOf zn⟩ : POp))], by omega, by go_num, by rw [hs2], ?_, ?_, hO6, hkw6⟩
            · show _ = _; rw [List.map_append, unhide hoz, hs1]; rfl
            · show _ = _; rw [List.length_append, unhide hol]; rfl
          case measure => simp [intOf]; omega
    · obtain rfl : j = len := by omega
      go_wp2
      go_ret
      exact ⟨VA, vc, oz, rfl, unhide hoz, hO, hkw⟩
end
section
open Go.RowKit Go.Shelf
set_option maxHeartbeats 2000000 in
theorem FrameA_same (k v s b c e d : Int) (A A' : Option Addr) (n n' m m' : Nat) (xs : List UInt8) (w : World) (ha : Rd w A n (bys xs)) (ha' : Rd w A' n' (bys xs)) (hn : n ≤ 1000000) :
    Calls Tryz.prog 45 #[.agg #[.int .i64 k, .int .i64 v, .int .i64 s, .int .i64 b, .int .i64 c, .int .i64 e, .int .i64 d, .slice A n m], .agg #[.int .i64 k, .int .i64 v, .int .i64 s, .int .i64 b, .int .i64 c, .int .i64 e, .int .i64 d, .slice A' n' m']] w fun r w' => r = .returned (.bool true) ∧ Keep [] w w' := by
  have h1 : xs.length = n := by simpa using ha.1
  have h2 : xs.length = n' := by simpa using ha'.1
  have hT := fun W (hk : Keep [] w W) => Bytes_any A A' n n' m m' xs xs W (ha.keep hk) (ha'.keep hk) (by omega) (by omega)
  simp only [decide_true] at hT
  clear h1 h2
  go_enter Tryz.func45, Tryz.ntmps45
  go_wp2_with (refine (hT _ (((Keep.refl _ _).alloc _).alloc _)).mono ?_; clear hT; rintro e w' ⟨rfl, k, rfl⟩)
  go_ret
  exact ⟨rfl, (((Keep.refl _ _).alloc _).alloc _).drewN _⟩
set_option maxHeartbeats 4000000 in
set_option maxRecDepth 20000 in
theorem tells_ok (w : World) (base s d : Nat) (Fs : List Nat) (B : Nat) (S : PS) (h : StoreAt w base s d Fs B S) (A : Option Addr) (c : Nat) (ha : Rd w A 25 (bys (frBytes 8 S.st.view S.st.seq 0 0 S.st.epoch S.st.done [])))
    (hm : FrMay 8 S.st.view S.st.seq 0 0 S.st.epoch S.st.done []) :
    Calls Tryz.prog 16 #[.slice A 25 c, .pointer (some ⟨s, 0, none⟩)] w fun e w' => e = .returned (.bool true) ∧ Keep [] w w' := by
  have hD := Decode_fr 8 S.st.view S.st.seq 0 0 S.st.epoch S.st.done [] hm A 25 c w ha
  have hS := fun W (hk : Keep [] w W) => StatusAt_is W base s d Fs B S (h.keep0 hk)
  generalize S.st = st at *
  obtain ⟨mode, view, epoch, seq, done, mount, gen⟩ := st
  simp only at hD hS hm
  go_enter Tryz.func16, Tryz.ntmps16
  go_wp2_with (first
    | (go_at_call 21
       refine hD.mono ?_
       clear hD
       rintro e w1 ⟨UA, uc, rfl, hu, hk1⟩
       have hkA := hk1.alloc (.cells #[.int .i64 ((8 : Nat) : Int), .int .i64 view, .int .i64 seq, .int .i64 ((0 : Nat) : Int), .int .i64 ((0 : Nat) : Int), .int .i64 epoch, .int .i64 done, .slice UA 0 uc] 59)
       have hS1 := hS _ hkA)
    | (go_at_call 12
       refine hS1.mono ?_
       clear hS1
       rintro e w2 ⟨rfl, hk2⟩
       have hkB := hk2.alloc (.cells #[.int .i64 mode, .int .i64 view, .int .i64 epoch, .int .i64 seq, .int .i64 done, .int .i64 mount, .int .i64 gen, .int .i64 (freeCount S.us : Nat), .int .i64 (liveN S : Nat), .int .i64 (pendCount S.I.ol : Nat)] 48)
       obtain ⟨f0, f1, f2, f3, f4, f5, f6, f7⟩ := frame_cells ((Blk.new w1 59 #[.int .i64 ((8 : Nat) : Int), .int .i64 view, .int .i64 seq, .int .i64 ((0 : Nat) : Int), .int .i64 ((0 : Nat) : Int), .int .i64 epoch, .int .i64 done, .slice UA 0 uc]).keep0 hkB)
       have hT : ∀ W, Calls Tryz.prog 45 #[.agg #[.int .i64 8, .int .i64 view, .int .i64 seq, .int .i64 0, .int .i64 0, .int .i64 epoch, .int .i64 done, .slice UA 0 uc], .agg #[.int .i64 8, .int .i64 view, .int .i64 seq, .int .i64 0, .int .i64 0, .int .i64 epoch, .int .i64 done, .slice none 0 0]] W fun r w' => r = .returned (.bool true) ∧ Keep [] W w' := fun W => FrameA_same 8 view seq 0 0 epoch done UA none 0 0 uc 0 [] W (Rd.nil _ _) (Rd.nil _ _) (by omega))
    | (go_at_call 45
       refine (hT _).mono ?_
       clear hT
       rintro e w3 ⟨rfl, hk3⟩))
  go_ret
  exact ⟨rfl, (hkA.trans0 hkB).trans0 hk3⟩
end
end Go.Proofs.YtglbkndbbhamcaaGreat
