/-
  Parts of the proof: ReplicaEpochs: the walk.
-/
import Derived.Test.YtglbkndbbhamcaaGreatK51
namespace Go.Proofs.YtglbkndbbhamcaaGreat
open Go.RowKit Go.Shelf
theorem cyc_one (n : Nat) (p : PSlot) (hp : p.is = true) : cyc (n + 1) ((emptyW 4).set ((n + 1 + 1) % 4) p) 4 = 1 := by
  unfold cyc
  have hl : ((emptyW 4).set ((n + 1 + 1) % 4) p).length = 4 := by simp
  rw [hl]
  have : (n + 1) % 4 = 0 ∨ (n + 1) % 4 = 1 ∨ (n + 1) % 4 = 2 ∨ (n + 1) % 4 = 3 := by omega
  rcases this with h | h | h | h
  · have h1 : (n + 1 + 1) % 4 = 1 := by omega
    have h2 : (n + 1 + 2) % 4 = 2 := by omega
    have h3 : (n + 1 + 3) % 4 = 3 := by omega
    simp [List.range_succ, h, h1, h2, h3, emptyW, List.replicate_succ, hp, PSlot.none_]
  · have h1 : (n + 1 + 1) % 4 = 2 := by omega
    have h2 : (n + 1 + 2) % 4 = 3 := by omega
    have h3 : (n + 1 + 3) % 4 = 0 := by omega
    simp [List.range_succ, h, h1, h2, h3, emptyW, List.replicate_succ, hp, PSlot.none_]
  · have h1 : (n + 1 + 1) % 4 = 3 := by omega
    have h2 : (n + 1 + 2) % 4 = 0 := by omega
    have h3 : (n + 1 + 3) % 4 = 1 := by omega
    simp [List.range_succ, h, h1, h2, h3, emptyW, List.replicate_succ, hp, PSlot.none_]
  · have h1 : (n + 1 + 1) % 4 = 0 := by omega
    have h2 : (n + 1 + 2) % 4 = 1 := by omega
    have h3 : (n + 1 + 3) % 4 = 2 := by omega
    simp [List.range_succ, h, h1, h2, h3, emptyW, List.replicate_succ, hp, PSlot.none_]
theorem trim_for {B : Nat} (hB : 1 ≤ B) : OpFor B ⟨2, 0, 1, 0, []⟩ := .inr (.inl ⟨rfl, by simp, by simp, by simp; omega⟩)
theorem mark_for {B e : Nat} (h1 : 1 ≤ e) (h2 : e ≤ 2147483647) : OpFor B ⟨3, 0, 0, (e : Nat), []⟩ := .inr (.inr ⟨rfl, by dsimp only; omega, by dsimp only; omega⟩)
theorem ahead_plain {B : Nat} {S : PS} {R' : RS} {er n E wrong : Nat} {v1 v2 : Value} (hv : S.st.view = 1 ∧ S.st.seq = n ∧ S.st.epoch = E) (hg : Good B S n (2 * n)) (hn : n ≤ 30) (hw : wrong ≠ E + 1)
    (h : Ran B ⟨S, n + 1, ((emptyW 4).set ((n + 1 + 1) % 4) ⟨v1, ⟨3, 0, 0, (wrong : Nat), []⟩, true⟩).set ((n + 1) % 4) ⟨v2, ⟨2, 0, 1, 0, []⟩, true⟩⟩ R' er) :
    er = 1 ∧ ∃ S', R' = ⟨S', n + 1 + 1, emptyW 4⟩ ∧ (S'.st.view = 1 ∧ S'.st.seq = n + 1 ∧ S'.st.epoch = E) ∧ Good B S' (n + 1) (2 * (n + 1)) := by
  have o1 : OpFor B ⟨2, 0, 1, 0, []⟩ := trim_for hg.b1
  rcases Ran_two (by omega) rfl rfl h with ⟨q1, _⟩ | ⟨S', q1, q2⟩
  · simp at q1
  · obtain ⟨g1, s1⟩ := q1.good o1 hg (by omega) (by omega)
    simp only at s1
    have hst : S'.st.view = 1 ∧ S'.st.seq = n + 1 ∧ S'.st.epoch = E := by rw [s1]; simp [stDo, hv]
    rcases q2 with ⟨_, _, q4, q5⟩ | ⟨S2, q3, _, _⟩
    · exact ⟨q4, S', q5, hst, g1⟩
    · exfalso
      rcases q3 with ⟨e1, _⟩ | ⟨e1, _⟩ | ⟨_, e2, _⟩
      · simp at e1
      · simp at e1
      · simp only [hst.2.2] at e2
        omega
theorem bad_plain {B : Nat} {S : PS} {R' : RS} {er n E wrong : Nat} {v1 : Value} (hv : S.st.epoch = E) (hw : wrong ≠ E + 1)
    (h : Ran B ⟨S, n, (emptyW 4).set (n % 4) ⟨v1, ⟨3, 0, 0, (wrong : Nat), []⟩, true⟩⟩ R' er) : er = 1 ∧ R' = ⟨S, n, emptyW 4⟩ := by
  rcases Ran_one (by omega) rfl h with ⟨_, _, q3, q4⟩ | ⟨S', q1, _⟩
  · exact ⟨q3, q4⟩
  · exfalso
    rcases q1 with ⟨e1, _⟩ | ⟨e1, _⟩ | ⟨_, e2, _⟩
    · simp at e1
    · simp at e1
    · simp only [hv] at e2
      omega
theorem wait_free (k : Nat) (p : PSlot) : (((emptyW 4).set ((k + 1 + 1) % 4) p).getD ((k + 1) % ((emptyW 4).set ((k + 1 + 1) % 4) p).length) PSlot.none_).is = false := by
  rw [List.length_set, length_emptyW, List.getD_eq_getElem?_getD, List.getElem?_set_ne (by omega), ← List.getD_eq_getElem?_getD]
  exact emptyW_get _ _
set_option maxHeartbeats 16000000 in
set_option maxRecDepth 100000 in
theorem epochs_walk (x0 : Int) (A : Option Addr) (len cap : Nat) (zs : List (Int × Int × Int)) (ep : Int) (ah : Bool) (w : World) (hz : PartsAt w A len zs) (hlen : len ≤ 9223372036854775807) :
    Calls Tryz.prog 3 #[.int .i64 x0, .slice A len cap, .int .i64 ep, .bool ah] w fun e w' => e = .returned (.bool true) ∧ Keep [] w w' := by
  by_cases hbig : (30 : Int) < (len : Nat)
  · go_enter Tryz.func3, Tryz.ntmps3
    go_wp2_with (refine (awake_any _).mono ?_; rintro e w' ⟨rfl, hk⟩)
    go_ret
    exact ⟨rfl, hk⟩
  have hl30 : len ≤ 30 := by omega
  have hSm := small_ok x0 w
  have hY := fun W B h1 h2 => NewYard_ok W B h1 h2
  obtain ⟨q, hq, hq40⟩ : ∃ q : Nat, ep % 40 = (q : Int) ∧ q < 40 := ⟨(ep % 40).toNat, by omega, by omega⟩
  have hRd : ∀ W, Calls Tryz.prog 13 #[.int .i64 ep, .int .i64 40] W fun e w' => e = .returned (.int .i64 (q : Nat)) ∧ W = w' := fun W => by rw [← hq]; exact Round_any ep 40 W (by omega) (by omega)
  clear hq
  go_enter Tryz.func3, Tryz.ntmps3
  go_wp2_with (first
    | (go_at_call 6
       refine hSm.mono ?_
       clear hSm
       rintro e w1 ⟨B, rfl, hB, hB1, hB2, hk1⟩
       have hbc := Blk.new w1 25 #[.int .i64 (B : Nat), .int .i64 8, .int .i64 24]
       have hkA : Keep [] w (w1.alloc (.cells #[.int .i64 (B : Nat), .int .i64 8, .int .i64 24] 25)) := hk1.alloc _
       have hY1 := hY (w1.alloc (.cells #[.int .i64 (B : Nat), .int .i64 8, .int .i64 24] 25)) B hB1 (by omega)
       clear hY hB)
    | (go_at_call 7
       refine hY1.mono ?_
       clear hY1
       rintro e w2 ⟨t, d, s, F, D, rfl, hYd⟩
       obtain ⟨mm, xx, hbt, hst, hgood, _, _, hk2⟩ := id hYd
       have t0 : w2.cell? ⟨t, 0, none⟩ = some (.pointer (some ⟨d, 0, none⟩)) := by simpa using hbt.cell 0
       have t2 : w2.cell? ⟨t, 2, none⟩ = some (.pointer (some ⟨s, 0, none⟩)) := by simpa using hbt.cell 2
       have hN4 : Calls Tryz.prog 8 #[.pointer (some ⟨s, 0, none⟩), .int .i64 4] w2 _ := NewR_ok w2 _ s d F B (PS.fresh B D) hst (by simp [PS.fresh]) 4 (by omega) (by omega) rfl (by simp [PS.fresh]) hk2.size
       have htl := hbt.lt)
    | (go_at_call 8
       refine hN4.mono ?_
       clear hN4
       rintro e w3 ⟨r, x, Fx, rfl, hr, hk3, hfr⟩
       have hL3 := LawSt.new hYd hr hk3 hfr
       have hkB := hkA.trans0 hL3.kept
       have hbc3 := (hbc.keep0 hk2).keep0 hk3
       obtain ⟨c0, c1, c2⟩ := cfg_cells hbc3
       have hOp := opsL_any w3 B ⟨hB1, by omega⟩ A len cap zs (hz.keep0 hkB) (by omega))
    | (go_at_call 9
       refine hOp.mono ?_
       clear hOp
       rintro e w4 ⟨OA, oc, oz, rfl, hoz, hO, hk4⟩
       have hL4 := hL3.keep0 hk4
       have hO4 := hO.apart hL3.rep.lt))
  have hF0 : (PS.fresh B D).st.view = 1 ∧ (PS.fresh B D).st.seq = 0 ∧ (PS.fresh B D).st.epoch = 0 := ⟨rfl, rfl, rfl⟩
  have hozl : oz.length = len := by have := congrArg List.length hoz; rwa [List.length_map, strm_len] at this
  have HOZ := hide hoz
  have HOL := hide hozl
  generalize PS.fresh B D = S at *
  generalize w1.alloc (.cells #[.int .i64 (B : Nat), .int .i64 8, .int .i64 24] 25) = wA at *
  clear hoz hozl hL3 hO hk4 hk3 hk2 hfr hr t0 t2 c0 c1 c2 hbc3 hbc hYd hbt hst htl hkB
  go_loopw [14] (fun i wr => ∃ (k : Nat) (Fs Fx : List Nat) (S : PS), k ≤ len ∧ i = .int .i64 (k : Nat) ∧ LawSt wA wr B t r s d x Fs Fx ⟨S, k + 1, emptyW 4⟩ ∧ Hid (S.st.view = 1 ∧ S.st.seq = k ∧ S.st.epoch = (strm B zs k).2) ∧ Good B S k (2 * k) ∧ OHold wr w3.heap.size (repF r Fs Fx) (.slice OA len oc) oz) (fun i _ => len - (intOf i).toNat)
  case atStart => exact ⟨0, F, Fx, S, by omega, rfl, hL4, hF0, hgood, hO4⟩
  case round =>
    clear hL4 hF0 hgood hO4
    obtain ⟨k, Fs, Fx, S, hk, rfl, hL, hst, hg, hO⟩ := hrel
    by_cases hlt : k < len
    · have hkz : k < oz.length := by rw [unhide HOL]; exact hlt
      obtain ⟨pv, hpv⟩ : ∃ p, p = oz[k] := ⟨_, rfl⟩
      have hop : pv.2 = (partOp B (zs.getD k (0, 0, 0)) (strm B zs k).2).1 := by
        have h1 : (oz.map (·.2))[k]? = some pv.2 := by rw [List.getElem?_map, List.getElem?_eq_getElem hkz, hpv]; rfl
        rw [unhide HOZ, strm_get B zs len k hlt] at h1
        exact (Option.some.inj h1).symm
      have hepk := strm_ep B zs k
      obtain ⟨hfor, k1, b1, c1, e1, xs, hpo, hmay, hfor2⟩ := partOp_for B ⟨hB1, by omega⟩ (zs.getD k (0, 0, 0)) (strm B zs k).2 (by omega)
      have hep := partOp_ep B (zs.getD k (0, 0, 0)) (strm B zs k).2
      have hnx := strm_next B zs k
      rw [← hop] at hpo hfor hep
      rw [← hnx] at hep
      have hda := hO.data pv (by rw [hpv]; exact List.getElem_mem hkz)
      have hrdO := hO.rd (A := OA) (c := oc) (by rw [unhide HOL])
      rw [unhide HOL] at hrdO
      obtain ⟨ob, oo, hOA, hobl, o0, o1, o2, o3, o4⟩ := hrdO.at_ hlt hkz
      rw [← hpv] at o0 o1 o2 o3 o4
      obtain ⟨DV, po⟩ := pv
      simp only at hpo hda o0 o1 o2 o3 o4 hop hfor hep
      subst hpo
      simp only at hda o0 o1 o2 o3 o4 hep
      obtain ⟨DA, dc, rfl, _, hdc, _⟩ := own_form hda
      have hE2 : (strm B zs (k + 1)).2 = epUp k1 (strm B zs k).2 ∧ (k1 = 3 → e1 = (strm B zs k).2 + 1) := by
        unfold epUp
        rcases hep with ⟨h1, h2, h3⟩ | ⟨h1, h2⟩
        · have : k1 = 3 := by omega
          exact ⟨by rw [if_pos this, h3], fun _ => by omega⟩
        · have : ¬ k1 = 3 := by omega
          exact ⟨by rw [if_neg this, h2], fun h => absurd h this⟩
      have HE2 := hide hE2
      have hW : Calls Tryz.prog 11 #[.int .i64 ((1 : Nat) : Int), .int .i64 (((k + 1 : Nat)) : Int), .agg #[.int .i64 k1, .int .i64 b1, .int .i64 c1, .int .i64 e1, .slice DA xs.length dc]] wr _ := wire_ok 1 (k + 1) k1 b1 c1 e1 xs.length dc DA xs (by omega) (by omega) hmay wr (Rd.of_own hda) (by omega)
      rw [Int.natCast_add] at hW
      have HOP := hide hop
      have HPV := hide hpv
      have HEP := hide hep
      have HNX := hide hnx
      have HOA := hide hOA
      clear hop hpv hep hnx hE2 hrdO
      subst hOA
      obtain ⟨n1, hn1⟩ : ∃ n, n = xs.length := ⟨_, rfl⟩
      rw [← hn1] at hW hmay hda o4
      have HN1 := hide hn1
      have hn64 : n1 ≤ 64 := by rcases hmay with ⟨_, _, _, _, h⟩ | ⟨_, _, _, _, _, h⟩ | ⟨_, _, _, _, _, h⟩ <;> omega
      clear hn1
      go_wp2_with (first
        | (go_at_call 11
           refine hW.mono ?_
           clear hW
           rintro e w5 ⟨u, rfl, hu, hk5⟩
           obtain ⟨UA, uc, rfl, _⟩ := own_form hu
           have hT := (hL.keep0 hk5).step (by omega) (unhide hst) hg (by omega) k1 b1 c1 e1 n1 xs UA uc (Rd.of_own hu) hmay (unhide HN1).symm hfor2 hfor (unhide HE2).2)
        | (go_at_call 10
           refine hT.mono ?_
           clear hT
           rintro e w6 ⟨VA, vc, Fs', Fx', S', rfl, _, hL6, hst6, _, hg6, _, hk6, hgr6⟩))
      go_roundw
      case rel =>
        refine ⟨k + 1, Fs', Fx', S', by omega, by go_num, hL6, ?_, hg6, (hO.keep0 hk5).turn hk6 (fun y hy => hy) hgr6⟩
        show _ ∧ _ ∧ _
        rw [(unhide HE2).1]
        exact hst6
      case measure => simp [intOf]; omega
    · obtain rfl : k = len := by omega
      have hE30 := strm_ep B zs k
      generalize (strm B zs k).2 = E at *
      clear HOZ HOL hO
      obtain ⟨hv, hsq, hpe⟩ := unhide hst
      have HST := hst
      clear hst
      have hSa := fun W (hk : Keep [] wr W) => StatusAt_is W _ s d Fs B S (hL.keep0 hk).rep.st
      obtain ⟨y0, y2⟩ := hL.cells
      have hfd := fun (a0 a1 a2 a3 a4 a5 a6 a7 a8 a9 : Value) W => run_field_one (P := Tryz.prog) Tryz.underlying48 2 rfl Tryz.isAgg3 #[a0, a1, a2, a3, a4, a5, a6, a7, a8, a9] rfl W
      have hfd4 := fun (a0 a1 a2 a3 a4 a5 a6 a7 a8 a9 : Value) W => run_field_one (P := Tryz.prog) Tryz.underlying48 4 rfl Tryz.isAgg3 #[a0, a1, a2, a3, a4, a5, a6, a7, a8, a9] rfl W
      rw [hpe] at hSa
      by_cases hc : ((E : Nat) : Int) + 1 ≤ 1 + (q : Nat)
      · go_wp2_with (first
          | (go_at_call 12
             refine (hSa _ (Keep.refl _ _)).mono ?_
             clear hSa
             rintro e w5 ⟨rfl, hk5⟩)
          | (go_at_call 13
             refine (hRd _).mono ?_
             clear hRd
             rintro e w' ⟨rfl, rfl⟩))
        obtain ⟨wv, hwv, hwne, hw1, hw2⟩ : ∃ wv : Nat, 1 + (q : Int) + 1 = (wv : Int) ∧ wv ≠ E + 1 ∧ 1 ≤ wv ∧ wv ≤ 100 := ⟨q + 2, by omega, by omega, by omega, by omega⟩
        rw [hwv]
        clear hc hwv y0 y2
        have hW1 : ∀ W, Calls Tryz.prog 11 #[.int .i64 1, .int .i64 ((k + 1 : Nat) : Int), .agg #[.int .i64 2, .int .i64 0, .int .i64 1, .int .i64 0, .slice none 0 0]] W _ := fun W => wire_ok 1 (k + 1) 2 0 1 0 0 0 none [] (by omega) (by omega) (.inr (.inl ⟨rfl, by omega, by omega, by omega, rfl, rfl⟩)) W (Rd.nil _ _) (by omega)
        have hW2 : ∀ W, Calls Tryz.prog 11 #[.int .i64 1, .int .i64 ((k + 2 : Nat) : Int), .agg #[.int .i64 3, .int .i64 0, .int .i64 0, .int .i64 (wv : Nat), .slice none 0 0]] W _ := fun W => wire_ok 1 (k + 2) 3 0 0 wv 0 0 none [] (by omega) (by omega) (.inr (.inr ⟨rfl, rfl, rfl, by omega, by omega, rfl⟩)) W (Rd.nil _ _) (by omega)
        have hW3 : ∀ W, Calls Tryz.prog 11 #[.int .i64 1, .int .i64 ((k + 2 : Nat) : Int), .agg #[.int .i64 3, .int .i64 0, .int .i64 0, .int .i64 ((E + 1 : Nat) : Int), .slice none 0 0]] W _ := fun W => wire_ok 1 (k + 2) 3 0 0 (E + 1) 0 0 none [] (by omega) (by omega) (.inr (.inr ⟨rfl, rfl, rfl, by omega, by omega, rfl⟩)) W (Rd.nil _ _) (by omega)
        simp only [Int.natCast_add] at hW1 hW2 hW3
        cases ah
        · go_wp2_with (first
            | (go_at_call 11
               first
               | (refine (hW1 _).mono ?_
                  clear hW1
                  rintro e w6 ⟨u, rfl, hu, hk6⟩
                  obtain ⟨UA, ua, rfl, _⟩ := own_form hu
                  replace hk6 := hk5.trans0 hk6)
               | (refine (hW2 _).mono ?_
                  clear hW2
                  rintro e w7 ⟨u2, rfl, hu2, hk7⟩
                  obtain ⟨UB, ub, rfl, _⟩ := own_form hu2
                  have hL6 := hL.keep0 hk6
                  have hL7 := hL6.keep0 hk7
                  have hltB : ∀ g ∈ (Value.slice UB (25 + 0) ub).ownBlock.toList, g ∉ repF r Fs Fx := fun g hg hm => by
                    have h1 := hL6.rep.lt g hm
                    have h2 := (own_mem hu2 hg).1
                    omega
                  have hTa := hL7.step (by omega) ⟨hv, hsq, hpe⟩ hg (by omega) 2 0 1 0 0 [] UA ua (Rd.of_own (own_keep0 hu hk7)) (.inr (.inl ⟨rfl, by omega, by omega, by omega, rfl, rfl⟩)) rfl (.inl (by omega)) (trim_for hB1) (fun h => by omega)))
            | (go_at_call 10
               first
               | (refine hTa.mono ?_
                  clear hTa
                  rintro e w8 ⟨VA, va, Fs1, Fx1, S2, rfl, _, hL8, hst2, _, hg2, _, hk8, hgr8⟩
                  have hrB8 := own_keep hu2 hk8 (fun g hg => hltB g (by simpa using hg))
                  have hTb := hL8.take hst2.1 3 0 0 wv 0 (k + 1 + 1) [] UB ub (Rd.of_own hrB8) (.inr (.inr ⟨rfl, rfl, rfl, by omega, by omega, rfl⟩)) rfl (.inr rfl) (by omega) (k + 1) (2 * (k + 1)) hg2 (by rw [present_empty]; omega) (by omega) (show k + 1 + 1 ≤ 1000000 by omega) (emptyW_ops 4 B) (by simp) (by simp) (emptyW_get _ _) (mark_for (by omega) (by omega)))
               | (refine hTb.mono ?_
                  clear hTb
                  rintro e w9 ⟨v2, Fs2, Fx2, R2, er2, hL2, hran2, _, _, hk9, hgr9, h9⟩
                  obtain ⟨rfl, rfl⟩ := bad_plain hst2.2.2 hwne hran2
                  obtain ⟨y0, y2⟩ := hL2.cells
                  obtain rfl : e = .returned (.tuple #[.slice none 0 0, .int .i64 1]) := by
                    rcases h9 with ⟨h, _⟩ | ⟨_, h⟩
                    · omega
                    · exact h)))
          have hbad := hran2
          have hgT := hgr9
          have hLT := hk9
          clear hbad hgT hLT
          have hSb := fun W (hk : Keep [] w9 W) => StatusAt_is W _ s d Fs2 B S2 (hL2.keep0 hk).rep.st
          rw [hst2.1, hst2.2.1, hst2.2.2, Int.natCast_add] at hSb
          have hNx := fun W (hk : Keep [] w9 W) => NextR_is W _ r s d x Fs2 Fx2 B _ (hL2.keep0 hk).rep
          have hWt := fun W (hk : Keep [] w9 W) => WaitingR_is W _ r s d x Fs2 Fx2 B _ (hL2.keep0 hk).rep
          simp only [cyc_empty] at hWt
          go_wp2_with (first
            | (go_at_call 12
               refine (hSb _ (Keep.refl _ _)).mono ?_
               clear hSb
               rintro e w10 ⟨rfl, hk10⟩
               have hkS : Keep [] w9 (w10.alloc (.cells #[.int .i64 S2.st.mode, .int .i64 1, .int .i64 (E : Nat), .int .i64 ((k : Nat) + 1), .int .i64 S2.st.done, .int .i64 S2.st.mount, .int .i64 S2.st.gen, .int .i64 (freeCount S2.us : Nat), .int .i64 (liveN S2 : Nat), .int .i64 (pendCount S2.I.ol : Nat)] 48)) := hk10.alloc _
               obtain ⟨s0, s1, s2, s3, s4, s5, s6, s7, s8, s9⟩ := sta_cells (Blk.new w10 48 #[.int .i64 S2.st.mode, .int .i64 1, .int .i64 (E : Nat), .int .i64 ((k : Nat) + 1), .int .i64 S2.st.done, .int .i64 S2.st.mount, .int .i64 S2.st.gen, .int .i64 (freeCount S2.us : Nat), .int .i64 (liveN S2 : Nat), .int .i64 (pendCount S2.I.ol : Nat)]))
            | (go_at_call 15
               refine (hNx _ hkS).mono ?_
               clear hNx
               rintro e w' ⟨rfl, rfl⟩)
            | (go_at_call 14
               refine (hWt _ hkS).mono ?_
               clear hWt
               rintro e w11 ⟨rfl, hk11⟩
               have hkT := hkS.trans0 hk11
               clear s0 s1 s2 s3 s4 s5 s6 s7 s8 s9)
            | (go_at_call 11
               refine (hW3 _).mono ?_
               clear hW3
               rintro e w12 ⟨u, rfl, hu, hk12⟩
               obtain ⟨UC, uc, rfl, _⟩ := own_form hu
               have hT3 := (hL2.keep0 (hkT.trans0 hk12)).step (by omega) hst2 hg2 (by omega) 3 0 0 (E + 1) 0 [] UC uc (Rd.of_own hu) (.inr (.inr ⟨rfl, rfl, rfl, by omega, by omega, rfl⟩)) rfl (.inr rfl) (mark_for (by omega) (by omega)) (fun _ => rfl))
            | (go_at_call 10
               refine hT3.mono ?_
               clear hT3
               rintro e w13 ⟨UD, ud, Fs3, Fx3, S3, rfl, hack, hL3, hst3, hdn3, hg3, _, hk13, _⟩
               obtain ⟨z0, z2⟩ := hL3.cells
               have hdn : S3.st.done = k + 2 := hdn3 (by simp)
               have hep3 : S3.st.epoch = E + 1 := hst3.2.2
               have hsq3 : S3.st.seq = k + 2 := hst3.2.1
               have hTl := tells_ok w13 _ s d Fs3 B S3 hL3.rep.st UD ud (Rd.of_own hack) (by rw [hst3.1, hsq3, hep3, hdn]; exact ack_may 1 (k + 2) (E + 1) (k + 2) (by omega) (by omega) (by omega) (by omega))
               have hSc := fun W (hk : Keep [] w13 W) => StatusAt_is W _ s d Fs3 B S3 (hL3.keep0 hk).rep.st
               rw [hep3, hdn, Int.natCast_add, Int.natCast_add] at hSc
               have HST3 := hide (And.intro hst3 (And.intro hdn (And.intro hep3 hsq3)))
               clear hst3 hdn3 hdn hep3 hsq3 y0 y2)
            | (go_at_call 16
               refine hTl.mono ?_
               clear hTl
               rintro e w14 ⟨rfl, hk14⟩
               obtain ⟨x0', x2'⟩ := (hL3.keep0 hk14).cells)
            | (go_at_call 12
               first
               | (refine (hSc _ hk14).mono ?_
                  rintro e w15 ⟨rfl, hk15⟩
                  replace hk14 := hk14.trans0 hk15
                  obtain ⟨x0', x2'⟩ := (hL3.keep0 hk14).cells))
            | (go_at_call 5
               refine (awake_any _).mono ?_
               rintro e w16 ⟨rfl, hk16⟩))
          go_ret
          exact ⟨rfl, hkA.trans0 ((hL3.keep0 hk14).kept.trans0 hk16)⟩
        · go_wp2_with (first
            | (go_at_call 11
               first
               | (refine (hW1 _).mono ?_
                  clear hW1
                  rintro e w6 ⟨u, rfl, hu, hk6⟩
                  obtain ⟨UA, ua, rfl, _⟩ := own_form hu
                  have hrA := Rd.of_own hu
                  replace hk6 := hk5.trans0 hk6)
               | (refine (hW2 _).mono ?_
                  clear hW2
                  rintro e w7 ⟨u2, rfl, hu2, hk7⟩
                  obtain ⟨UB, ub, rfl, _⟩ := own_form hu2
                  have hrA7 := own_keep0 hu hk7
                  have hL7 := hL.keep0 (hk6.trans0 hk7)
                  have hltA : ∀ g ∈ (Value.slice UA (25 + 0) ua).ownBlock.toList, g ∉ repF r Fs Fx := fun g hg hm => by
                    have h1 := (hL.keep0 hk5).rep.lt g hm
                    have h2 := (own_mem hu hg).1
                    omega
                  have hTb := hL7.take hv 3 0 0 wv 0 (k + 1 + 1) [] UB ub (Rd.of_own hu2) (.inr (.inr ⟨rfl, rfl, rfl, by omega, by omega, rfl⟩)) rfl (.inr rfl) (by omega) k (2 * k) hg (by rw [present_empty]; omega) (by omega) (show k + 1 ≤ 1000000 by omega) (emptyW_ops 4 B) (by simp) (by simp) (emptyW_get _ _) (mark_for (by omega) (by omega))))
            | (go_at_call 10
               first
               | (refine hTb.mono ?_
                  clear hTb
                  rintro e w8 ⟨v1, Fs1, Fx1, R1, er1, hL8, hran, _, hops8, hk8, hgr8, h8⟩
                  obtain ⟨rfl, rfl⟩ := Ran_wait (by omega) hran
                  obtain ⟨VA, va, rfl, _⟩ : ∃ VA va, e = .returned (.tuple #[.slice VA 25 va, .int .i64 0]) ∧ AckRow w7 w8 S.st VA va := by
                    rcases h8 with ⟨_, h⟩ | ⟨h, _⟩
                    · exact h
                    · omega
                  have hrA8 := own_keep hrA7 hk8 (fun g hg => hltA g (by simpa using hg))
                  have hWa : Calls Tryz.prog 14 #[.pointer (some ⟨r, 0, none⟩)] w8 fun e w' => e = .returned (.int .i64 1) ∧ Keep [] w8 w' := by
                    have h0 := WaitingR_is w8 _ r s d x Fs1 Fx1 B _ hL8.rep
                    simp only [List.length_set, length_emptyW] at h0
                    rw [cyc_one k _ rfl] at h0
                    exact h0)
               | (refine hTa.mono ?_
                  clear hTa
                  rintro e w9 ⟨v2, Fs2, Fx2, R2, er2, hL2, hran2, _, _, hk9, hgr9, h9⟩
                  simp only [List.length_set, length_emptyW] at hran2
                  obtain ⟨rfl, S2, rfl, hst2, hg2⟩ := ahead_plain ⟨hv, hsq, hpe⟩ hg (by omega) hwne hran2
                  obtain ⟨y0, y2⟩ := hL2.cells
                  obtain rfl : e = .returned (.tuple #[.slice none 0 0, .int .i64 1]) := by
                    rcases h9 with ⟨h, _⟩ | ⟨_, h⟩
                    · omega
                    · exact h))
            | (go_at_call 14
               refine hWa.mono ?_
               clear hWa
               rintro e w8' ⟨rfl, hk8'⟩
               have hTa := (hL8.keep0 hk8').take hv 2 0 1 0 0 (k + 1) [] UA ua (Rd.of_own (own_keep0 hrA8 hk8')) (.inr (.inl ⟨rfl, by omega, by omega, by omega, rfl, rfl⟩)) rfl (.inl (by omega)) (by omega) k (2 * k) hg (by show k + present _ ≤ 49; rw [present_one (Nat.mod_lt _ (by omega)) _ rfl]; omega) (by omega) (show k + 1 ≤ 1000000 by omega) hops8 (by simp) (by simp) (wait_free k _) (trim_for hB1)))
          have hbad := hran2
          have hgT := hgr9
          have hLT := hk9
          clear hbad hgT hLT
          have hSb := fun W (hk : Keep [] w9 W) => StatusAt_is W _ s d Fs2 B S2 (hL2.keep0 hk).rep.st
          rw [hst2.1, hst2.2.1, hst2.2.2, Int.natCast_add] at hSb
          have hNx := fun W (hk : Keep [] w9 W) => NextR_is W _ r s d x Fs2 Fx2 B _ (hL2.keep0 hk).rep
          have hWt := fun W (hk : Keep [] w9 W) => WaitingR_is W _ r s d x Fs2 Fx2 B _ (hL2.keep0 hk).rep
          simp only [cyc_empty] at hWt
          go_wp2_with (first
            | (go_at_call 12
               refine (hSb _ (Keep.refl _ _)).mono ?_
               clear hSb
               rintro e w10 ⟨rfl, hk10⟩
               have hkS : Keep [] w9 (w10.alloc (.cells #[.int .i64 S2.st.mode, .int .i64 1, .int .i64 (E : Nat), .int .i64 ((k : Nat) + 1), .int .i64 S2.st.done, .int .i64 S2.st.mount, .int .i64 S2.st.gen, .int .i64 (freeCount S2.us : Nat), .int .i64 (liveN S2 : Nat), .int .i64 (pendCount S2.I.ol : Nat)] 48)) := hk10.alloc _
               obtain ⟨s0, s1, s2, s3, s4, s5, s6, s7, s8, s9⟩ := sta_cells (Blk.new w10 48 #[.int .i64 S2.st.mode, .int .i64 1, .int .i64 (E : Nat), .int .i64 ((k : Nat) + 1), .int .i64 S2.st.done, .int .i64 S2.st.mount, .int .i64 S2.st.gen, .int .i64 (freeCount S2.us : Nat), .int .i64 (liveN S2 : Nat), .int .i64 (pendCount S2.I.ol : Nat)]))
            | (go_at_call 15
               refine (hNx _ hkS).mono ?_
               clear hNx
               rintro e w' ⟨rfl, rfl⟩)
            | (go_at_call 14
               refine (hWt _ hkS).mono ?_
               clear hWt
               rintro e w11 ⟨rfl, hk11⟩
               have hkT := hkS.trans0 hk11
               clear s0 s1 s2 s3 s4 s5 s6 s7 s8 s9)
            | (go_at_call 11
               refine (hW3 _).mono ?_
               clear hW3
               rintro e w12 ⟨u, rfl, hu, hk12⟩
               obtain ⟨UC, uc, rfl, _⟩ := own_form hu
               have hT3 := (hL2.keep0 (hkT.trans0 hk12)).step (by omega) hst2 hg2 (by omega) 3 0 0 (E + 1) 0 [] UC uc (Rd.of_own hu) (.inr (.inr ⟨rfl, rfl, rfl, by omega, by omega, rfl⟩)) rfl (.inr rfl) (mark_for (by omega) (by omega)) (fun _ => rfl))
            | (go_at_call 10
               refine hT3.mono ?_
               clear hT3
               rintro e w13 ⟨UD, ud, Fs3, Fx3, S3, rfl, hack, hL3, hst3, hdn3, hg3, _, hk13, _⟩
               obtain ⟨z0, z2⟩ := hL3.cells
               have hdn : S3.st.done = k + 2 := hdn3 (by simp)
               have hep3 : S3.st.epoch = E + 1 := hst3.2.2
               have hsq3 : S3.st.seq = k + 2 := hst3.2.1
               have hTl := tells_ok w13 _ s d Fs3 B S3 hL3.rep.st UD ud (Rd.of_own hack) (by rw [hst3.1, hsq3, hep3, hdn]; exact ack_may 1 (k + 2) (E + 1) (k + 2) (by omega) (by omega) (by omega) (by omega))
               have hSc := fun W (hk : Keep [] w13 W) => StatusAt_is W _ s d Fs3 B S3 (hL3.keep0 hk).rep.st
               rw [hep3, hdn, Int.natCast_add, Int.natCast_add] at hSc
               have HST3 := hide (And.intro hst3 (And.intro hdn (And.intro hep3 hsq3)))
               clear hst3 hdn3 hdn hep3 hsq3 y0 y2)
            | (go_at_call 16
               refine hTl.mono ?_
               clear hTl
               rintro e w14 ⟨rfl, hk14⟩
               obtain ⟨x0', x2'⟩ := (hL3.keep0 hk14).cells)
            | (go_at_call 12
               first
               | (refine (hSc _ hk14).mono ?_
                  rintro e w15 ⟨rfl, hk15⟩
                  replace hk14 := hk14.trans0 hk15
                  obtain ⟨x0', x2'⟩ := (hL3.keep0 hk14).cells))
            | (go_at_call 5
               refine (awake_any _).mono ?_
               rintro e w16 ⟨rfl, hk16⟩))
          go_ret
          exact ⟨rfl, hkA.trans0 ((hL3.keep0 hk14).kept.trans0 hk16)⟩
      · go_wp2_with (first
          | (go_at_call 12
             refine (hSa _ (Keep.refl _ _)).mono ?_
             clear hSa
             rintro e w5 ⟨rfl, hk5⟩)
          | (go_at_call 13
             refine (hRd _).mono ?_
             clear hRd
             rintro e w' ⟨rfl, rfl⟩))
        obtain ⟨wv, hwv, hwne, hw1, hw2⟩ : ∃ wv : Nat, 1 + (q : Int) = (wv : Int) ∧ wv ≠ E + 1 ∧ 1 ≤ wv ∧ wv ≤ 100 := ⟨q + 1, by omega, by omega, by omega, by omega⟩
        rw [hwv]
        clear hc hwv y0 y2
        have hW1 : ∀ W, Calls Tryz.prog 11 #[.int .i64 1, .int .i64 ((k + 1 : Nat) : Int), .agg #[.int .i64 2, .int .i64 0, .int .i64 1, .int .i64 0, .slice none 0 0]] W _ := fun W => wire_ok 1 (k + 1) 2 0 1 0 0 0 none [] (by omega) (by omega) (.inr (.inl ⟨rfl, by omega, by omega, by omega, rfl, rfl⟩)) W (Rd.nil _ _) (by omega)
        have hW2 : ∀ W, Calls Tryz.prog 11 #[.int .i64 1, .int .i64 ((k + 2 : Nat) : Int), .agg #[.int .i64 3, .int .i64 0, .int .i64 0, .int .i64 (wv : Nat), .slice none 0 0]] W _ := fun W => wire_ok 1 (k + 2) 3 0 0 wv 0 0 none [] (by omega) (by omega) (.inr (.inr ⟨rfl, rfl, rfl, by omega, by omega, rfl⟩)) W (Rd.nil _ _) (by omega)
        have hW3 : ∀ W, Calls Tryz.prog 11 #[.int .i64 1, .int .i64 ((k + 2 : Nat) : Int), .agg #[.int .i64 3, .int .i64 0, .int .i64 0, .int .i64 ((E + 1 : Nat) : Int), .slice none 0 0]] W _ := fun W => wire_ok 1 (k + 2) 3 0 0 (E + 1) 0 0 none [] (by omega) (by omega) (.inr (.inr ⟨rfl, rfl, rfl, by omega, by omega, rfl⟩)) W (Rd.nil _ _) (by omega)
        simp only [Int.natCast_add] at hW1 hW2 hW3
        cases ah
        · go_wp2_with (first
            | (go_at_call 11
               first
               | (refine (hW1 _).mono ?_
                  clear hW1
                  rintro e w6 ⟨u, rfl, hu, hk6⟩
                  obtain ⟨UA, ua, rfl, _⟩ := own_form hu
                  replace hk6 := hk5.trans0 hk6)
               | (refine (hW2 _).mono ?_
                  clear hW2
                  rintro e w7 ⟨u2, rfl, hu2, hk7⟩
                  obtain ⟨UB, ub, rfl, _⟩ := own_form hu2
                  have hL6 := hL.keep0 hk6
                  have hL7 := hL6.keep0 hk7
                  have hltB : ∀ g ∈ (Value.slice UB (25 + 0) ub).ownBlock.toList, g ∉ repF r Fs Fx := fun g hg hm => by
                    have h1 := hL6.rep.lt g hm
                    have h2 := (own_mem hu2 hg).1
                    omega
                  have hTa := hL7.step (by omega) ⟨hv, hsq, hpe⟩ hg (by omega) 2 0 1 0 0 [] UA ua (Rd.of_own (own_keep0 hu hk7)) (.inr (.inl ⟨rfl, by omega, by omega, by omega, rfl, rfl⟩)) rfl (.inl (by omega)) (trim_for hB1) (fun h => by omega)))
            | (go_at_call 10
               first
               | (refine hTa.mono ?_
                  clear hTa
                  rintro e w8 ⟨VA, va, Fs1, Fx1, S2, rfl, _, hL8, hst2, _, hg2, _, hk8, hgr8⟩
                  have hrB8 := own_keep hu2 hk8 (fun g hg => hltB g (by simpa using hg))
                  have hTb := hL8.take hst2.1 3 0 0 wv 0 (k + 1 + 1) [] UB ub (Rd.of_own hrB8) (.inr (.inr ⟨rfl, rfl, rfl, by omega, by omega, rfl⟩)) rfl (.inr rfl) (by omega) (k + 1) (2 * (k + 1)) hg2 (by rw [present_empty]; omega) (by omega) (show k + 1 + 1 ≤ 1000000 by omega) (emptyW_ops 4 B) (by simp) (by simp) (emptyW_get _ _) (mark_for (by omega) (by omega)))
               | (refine hTb.mono ?_
                  clear hTb
                  rintro e w9 ⟨v2, Fs2, Fx2, R2, er2, hL2, hran2, _, _, hk9, hgr9, h9⟩
                  obtain ⟨rfl, rfl⟩ := bad_plain hst2.2.2 hwne hran2
                  obtain ⟨y0, y2⟩ := hL2.cells
                  obtain rfl : e = .returned (.tuple #[.slice none 0 0, .int .i64 1]) := by
                    rcases h9 with ⟨h, _⟩ | ⟨_, h⟩
                    · omega
                    · exact h)))
          have hbad := hran2
          have hgT := hgr9
          have hLT := hk9
          clear hbad hgT hLT
          have hSb := fun W (hk : Keep [] w9 W) => StatusAt_is W _ s d Fs2 B S2 (hL2.keep0 hk).rep.st
          rw [hst2.1, hst2.2.1, hst2.2.2, Int.natCast_add] at hSb
          have hNx := fun W (hk : Keep [] w9 W) => NextR_is W _ r s d x Fs2 Fx2 B _ (hL2.keep0 hk).rep
          have hWt := fun W (hk : Keep [] w9 W) => WaitingR_is W _ r s d x Fs2 Fx2 B _ (hL2.keep0 hk).rep
          simp only [cyc_empty] at hWt
          go_wp2_with (first
            | (go_at_call 12
               refine (hSb _ (Keep.refl _ _)).mono ?_
               clear hSb
               rintro e w10 ⟨rfl, hk10⟩
               have hkS : Keep [] w9 (w10.alloc (.cells #[.int .i64 S2.st.mode, .int .i64 1, .int .i64 (E : Nat), .int .i64 ((k : Nat) + 1), .int .i64 S2.st.done, .int .i64 S2.st.mount, .int .i64 S2.st.gen, .int .i64 (freeCount S2.us : Nat), .int .i64 (liveN S2 : Nat), .int .i64 (pendCount S2.I.ol : Nat)] 48)) := hk10.alloc _
               obtain ⟨s0, s1, s2, s3, s4, s5, s6, s7, s8, s9⟩ := sta_cells (Blk.new w10 48 #[.int .i64 S2.st.mode, .int .i64 1, .int .i64 (E : Nat), .int .i64 ((k : Nat) + 1), .int .i64 S2.st.done, .int .i64 S2.st.mount, .int .i64 S2.st.gen, .int .i64 (freeCount S2.us : Nat), .int .i64 (liveN S2 : Nat), .int .i64 (pendCount S2.I.ol : Nat)]))
            | (go_at_call 15
               refine (hNx _ hkS).mono ?_
               clear hNx
               rintro e w' ⟨rfl, rfl⟩)
            | (go_at_call 14
               refine (hWt _ hkS).mono ?_
               clear hWt
               rintro e w11 ⟨rfl, hk11⟩
               have hkT := hkS.trans0 hk11
               clear s0 s1 s2 s3 s4 s5 s6 s7 s8 s9)
            | (go_at_call 11
               refine (hW3 _).mono ?_
               clear hW3
               rintro e w12 ⟨u, rfl, hu, hk12⟩
               obtain ⟨UC, uc, rfl, _⟩ := own_form hu
               have hT3 := (hL2.keep0 (hkT.trans0 hk12)).step (by omega) hst2 hg2 (by omega) 3 0 0 (E + 1) 0 [] UC uc (Rd.of_own hu) (.inr (.inr ⟨rfl, rfl, rfl, by omega, by omega, rfl⟩)) rfl (.inr rfl) (mark_for (by omega) (by omega)) (fun _ => rfl))
            | (go_at_call 10
               refine hT3.mono ?_
               clear hT3
               rintro e w13 ⟨UD, ud, Fs3, Fx3, S3, rfl, hack, hL3, hst3, hdn3, hg3, _, hk13, _⟩
               obtain ⟨z0, z2⟩ := hL3.cells
               have hdn : S3.st.done = k + 2 := hdn3 (by simp)
               have hep3 : S3.st.epoch = E + 1 := hst3.2.2
               have hsq3 : S3.st.seq = k + 2 := hst3.2.1
               have hTl := tells_ok w13 _ s d Fs3 B S3 hL3.rep.st UD ud (Rd.of_own hack) (by rw [hst3.1, hsq3, hep3, hdn]; exact ack_may 1 (k + 2) (E + 1) (k + 2) (by omega) (by omega) (by omega) (by omega))
               have hSc := fun W (hk : Keep [] w13 W) => StatusAt_is W _ s d Fs3 B S3 (hL3.keep0 hk).rep.st
               rw [hep3, hdn, Int.natCast_add, Int.natCast_add] at hSc
               have HST3 := hide (And.intro hst3 (And.intro hdn (And.intro hep3 hsq3)))
               clear hst3 hdn3 hdn hep3 hsq3 y0 y2)
            | (go_at_call 16
               refine hTl.mono ?_
               clear hTl
               rintro e w14 ⟨rfl, hk14⟩
               obtain ⟨x0', x2'⟩ := (hL3.keep0 hk14).cells)
            | (go_at_call 12
               first
               | (refine (hSc _ hk14).mono ?_
                  rintro e w15 ⟨rfl, hk15⟩
                  replace hk14 := hk14.trans0 hk15
                  obtain ⟨x0', x2'⟩ := (hL3.keep0 hk14).cells))
            | (go_at_call 5
               refine (awake_any _).mono ?_
               rintro e w16 ⟨rfl, hk16⟩))
          go_ret
          exact ⟨rfl, hkA.trans0 ((hL3.keep0 hk14).kept.trans0 hk16)⟩
        · go_wp2_with (first
            | (go_at_call 11
               first
               | (refine (hW1 _).mono ?_
                  clear hW1
                  rintro e w6 ⟨u, rfl, hu, hk6⟩
                  obtain ⟨UA, ua, rfl, _⟩ := own_form hu
                  have hrA := Rd.of_own hu
                  replace hk6 := hk5.trans0 hk6)
               | (refine (hW2 _).mono ?_
                  clear hW2
                  rintro e w7 ⟨u2, rfl, hu2, hk7⟩
                  obtain ⟨UB, ub, rfl, _⟩ := own_form hu2
                  have hrA7 := own_keep0 hu hk7
                  have hL7 := hL.keep0 (hk6.trans0 hk7)
                  have hltA : ∀ g ∈ (Value.slice UA (25 + 0) ua).ownBlock.toList, g ∉ repF r Fs Fx := fun g hg hm => by
                    have h1 := (hL.keep0 hk5).rep.lt g hm
                    have h2 := (own_mem hu hg).1
                    omega
                  have hTb := hL7.take hv 3 0 0 wv 0 (k + 1 + 1) [] UB ub (Rd.of_own hu2) (.inr (.inr ⟨rfl, rfl, rfl, by omega, by omega, rfl⟩)) rfl (.inr rfl) (by omega) k (2 * k) hg (by rw [present_empty]; omega) (by omega) (show k + 1 ≤ 1000000 by omega) (emptyW_ops 4 B) (by simp) (by simp) (emptyW_get _ _) (mark_for (by omega) (by omega))))
            | (go_at_call 10
               first
               | (refine hTb.mono ?_
                  clear hTb
                  rintro e w8 ⟨v1, Fs1, Fx1, R1, er1, hL8, hran, _, hops8, hk8, hgr8, h8⟩
                  obtain ⟨rfl, rfl⟩ := Ran_wait (by omega) hran
                  obtain ⟨VA, va, rfl, _⟩ : ∃ VA va, e = .returned (.tuple #[.slice VA 25 va, .int .i64 0]) ∧ AckRow w7 w8 S.st VA va := by
                    rcases h8 with ⟨_, h⟩ | ⟨h, _⟩
                    · exact h
                    · omega
                  have hrA8 := own_keep hrA7 hk8 (fun g hg => hltA g (by simpa using hg))
                  have hWa : Calls Tryz.prog 14 #[.pointer (some ⟨r, 0, none⟩)] w8 fun e w' => e = .returned (.int .i64 1) ∧ Keep [] w8 w' := by
                    have h0 := WaitingR_is w8 _ r s d x Fs1 Fx1 B _ hL8.rep
                    simp only [List.length_set, length_emptyW] at h0
                    rw [cyc_one k _ rfl] at h0
                    exact h0)
               | (refine hTa.mono ?_
                  clear hTa
                  rintro e w9 ⟨v2, Fs2, Fx2, R2, er2, hL2, hran2, _, _, hk9, hgr9, h9⟩
                  simp only [List.length_set, length_emptyW] at hran2
                  obtain ⟨rfl, S2, rfl, hst2, hg2⟩ := ahead_plain ⟨hv, hsq, hpe⟩ hg (by omega) hwne hran2
                  obtain ⟨y0, y2⟩ := hL2.cells
                  obtain rfl : e = .returned (.tuple #[.slice none 0 0, .int .i64 1]) := by
                    rcases h9 with ⟨h, _⟩ | ⟨_, h⟩
                    · omega
                    · exact h))
            | (go_at_call 14
               refine hWa.mono ?_
               clear hWa
               rintro e w8' ⟨rfl, hk8'⟩
               have hTa := (hL8.keep0 hk8').take hv 2 0 1 0 0 (k + 1) [] UA ua (Rd.of_own (own_keep0 hrA8 hk8')) (.inr (.inl ⟨rfl, by omega, by omega, by omega, rfl, rfl⟩)) rfl (.inl (by omega)) (by omega) k (2 * k) hg (by show k + present _ ≤ 49; rw [present_one (Nat.mod_lt _ (by omega)) _ rfl]; omega) (by omega) (show k + 1 ≤ 1000000 by omega) hops8 (by simp) (by simp) (wait_free k _) (trim_for hB1)))
          have hbad := hran2
          have hgT := hgr9
          have hLT := hk9
          clear hbad hgT hLT
          have hSb := fun W (hk : Keep [] w9 W) => StatusAt_is W _ s d Fs2 B S2 (hL2.keep0 hk).rep.st
          rw [hst2.1, hst2.2.1, hst2.2.2, Int.natCast_add] at hSb
          have hNx := fun W (hk : Keep [] w9 W) => NextR_is W _ r s d x Fs2 Fx2 B _ (hL2.keep0 hk).rep
          have hWt := fun W (hk : Keep [] w9 W) => WaitingR_is W _ r s d x Fs2 Fx2 B _ (hL2.keep0 hk).rep
          simp only [cyc_empty] at hWt
          go_wp2_with (first
            | (go_at_call 12
               refine (hSb _ (Keep.refl _ _)).mono ?_
               clear hSb
               rintro e w10 ⟨rfl, hk10⟩
               have hkS : Keep [] w9 (w10.alloc (.cells #[.int .i64 S2.st.mode, .int .i64 1, .int .i64 (E : Nat), .int .i64 ((k : Nat) + 1), .int .i64 S2.st.done, .int .i64 S2.st.mount, .int .i64 S2.st.gen, .int .i64 (freeCount S2.us : Nat), .int .i64 (liveN S2 : Nat), .int .i64 (pendCount S2.I.ol : Nat)] 48)) := hk10.alloc _
               obtain ⟨s0, s1, s2, s3, s4, s5, s6, s7, s8, s9⟩ := sta_cells (Blk.new w10 48 #[.int .i64 S2.st.mode, .int .i64 1, .int .i64 (E : Nat), .int .i64 ((k : Nat) + 1), .int .i64 S2.st.done, .int .i64 S2.st.mount, .int .i64 S2.st.gen, .int .i64 (freeCount S2.us : Nat), .int .i64 (liveN S2 : Nat), .int .i64 (pendCount S2.I.ol : Nat)]))
            | (go_at_call 15
               refine (hNx _ hkS).mono ?_
               clear hNx
               rintro e w' ⟨rfl, rfl⟩)
            | (go_at_call 14
               refine (hWt _ hkS).mono ?_
               clear hWt
               rintro e w11 ⟨rfl, hk11⟩
               have hkT := hkS.trans0 hk11
               clear s0 s1 s2 s3 s4 s5 s6 s7 s8 s9)
            | (go_at_call 11
               refine (hW3 _).mono ?_
               clear hW3
               rintro e w12 ⟨u, rfl, hu, hk12⟩
               obtain ⟨UC, uc, rfl, _⟩ := own_form hu
               have hT3 := (hL2.keep0 (hkT.trans0 hk12)).step (by omega) hst2 hg2 (by omega) 3 0 0 (E + 1) 0 [] UC uc (Rd.of_own hu) (.inr (.inr ⟨rfl, rfl, rfl, by omega, by omega, rfl⟩)) rfl (.inr rfl) (mark_for (by omega) (by omega)) (fun _ => rfl))
            | (go_at_call 10
               refine hT3.mono ?_
               clear hT3
               rintro e w13 ⟨UD, ud, Fs3, Fx3, S3, rfl, hack, hL3, hst3, hdn3, hg3, _, hk13, _⟩
               obtain ⟨z0, z2⟩ := hL3.cells
               have hdn : S3.st.done = k + 2 := hdn3 (by simp)
               have hep3 : S3.st.epoch = E + 1 := hst3.2.2
               have hsq3 : S3.st.seq = k + 2 := hst3.2.1
               have hTl := tells_ok w13 _ s d Fs3 B S3 hL3.rep.st UD ud (Rd.of_own hack) (by rw [hst3.1, hsq3, hep3, hdn]; exact ack_may 1 (k + 2) (E + 1) (k + 2) (by omega) (by omega) (by omega) (by omega))
               have hSc := fun W (hk : Keep [] w13 W) => StatusAt_is W _ s d Fs3 B S3 (hL3.keep0 hk).rep.st
               rw [hep3, hdn, Int.natCast_add, Int.natCast_add] at hSc
               have HST3 := hide (And.intro hst3 (And.intro hdn (And.intro hep3 hsq3)))
               clear hst3 hdn3 hdn hep3 hsq3 y0 y2)
            | (go_at_call 16
               refine hTl.mono ?_
               clear hTl
               rintro e w14 ⟨rfl, hk14⟩
               obtain ⟨x0', x2'⟩ := (hL3.keep0 hk14).cells)
            | (go_at_call 12
               first
               | (refine (hSc _ hk14).mono ?_
                  rintro e w15 ⟨rfl, hk15⟩
                  replace hk14 := hk14.trans0 hk15
                  obtain ⟨x0', x2'⟩ := (hL3.keep0 hk14).cells))
            | (go_at_call 5
               refine (awake_any _).mono ?_
               rintro e w16 ⟨rfl, hk16⟩))
          go_ret
          exact ⟨rfl, hkA.trans0 ((hL3.keep0 hk14).kept.trans0 hk16)⟩
end Go.Proofs.YtglbkndbbhamcaaGreat
