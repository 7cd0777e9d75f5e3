/-
  A part of the proof: lemmas, and contracts of functions; their conditions stand in them.
-/
import Derived.Test.YtglbkndbbhamcaaGreatJ52
import Derived.Test.YtglbkndbbhamcaaGreatJ43
import Derived.Test.YtglbkndbbhamcaaGreatJ10
namespace Go.Proofs.YtglbkndbbhamcaaGreat
section
open Go.RowKit Go.Shelf
def RefRel (B n k j : Nat) (sl : List PSlot) : Prop :=
  (j = k ∧ sl = emptyW 5 ∧ (n < 2 ∨ k + 2 ≤ n)) ∨ (k + 1 = n ∧ j + 2 = n ∧ sl = emptyW 5) ∨ (k = n ∧ j + 2 = n ∧ ∃ q : PSlot, q.is = true ∧ OpFor B q.o ∧ sl = (emptyW 5).set ((j + 1 + 1) % 5) q)
theorem RefRel.end_ {B n j : Nat} {sl : List PSlot} (h : RefRel B n n j sl) : j ≤ n ∧ sl.length = 5 := by
  rcases h with ⟨h1, h2, _⟩ | ⟨h1, _⟩ | ⟨_, h2, q, _, _, h3⟩
  · exact ⟨by omega, by rw [h2]; simp⟩
  · omega
  · exact ⟨by omega, by rw [h3]; simp⟩
def WasAt (t d s gS : Nat) (n0 n1 n2 n3 n4 n5 n6 n7 n8 n9 : Int) (W : World) : Prop :=
  (W.cell? ⟨t, 0, none⟩ = some (.pointer (some ⟨d, 0, none⟩)) ∧ W.cell? ⟨t, 2, none⟩ = some (.pointer (some ⟨s, 0, none⟩))) ∧ (W.cell? ⟨gS, 0, none⟩ = some (.int .i64 n0) ∧ W.cell? ⟨gS, 1, none⟩ = some (.int .i64 n1) ∧ W.cell? ⟨gS, 2, none⟩ = some (.int .i64 n2) ∧ W.cell? ⟨gS, 3, none⟩ = some (.int .i64 n3) ∧ W.cell? ⟨gS, 4, none⟩ = some (.int .i64 n4) ∧ W.cell? ⟨gS, 5, none⟩ = some (.int .i64 n5) ∧ W.cell? ⟨gS, 6, none⟩ = some (.int .i64 n6) ∧ W.cell? ⟨gS, 7, none⟩ = some (.int .i64 n7) ∧ W.cell? ⟨gS, 8, none⟩ = some (.int .i64 n8) ∧ W.cell? ⟨gS, 9, none⟩ = some (.int .i64 n9))
theorem store_sta (b : Nat) (cs : List Value) (hl : cs.length = 10) (h1 : ∀ u ∈ cs, u.oneCell' = true) (W : World) (h : W.there b 0 10) : (Instr.storeAt 48 (.pointer (some ⟨b, 0, none⟩)) (.agg cs.toArray)).run Tryz.prog W = .ok () (W.setCells b 0 cs) :=
  run_storeAt_mid W b 0 48 cs.toArray (by simpa [hl] using h) (by rw [List.size_toArray, hl]; kernel_rfl) (all_oneCell_toArray h1)
set_option maxHeartbeats 16000000 in
set_option maxRecDepth 100000 in
theorem refuses_walk (x0 : Int) (A : Option Addr) (len cap : Nat) (zs : List (Int × Int × Int)) (gap kind by_ : Int) (w : World) (hz : PartsAt w A len zs) (hlen : len ≤ 9223372036854775807) :
    Calls Tryz.prog 4 #[.int .i64 x0, .slice A len cap, .int .i64 gap, .int .i64 kind, .int .i64 by_] w fun e w' => e = .returned (.bool true) ∧ Keep [] w w' := by
  by_cases hbig : (30 : Int) < (len : Nat)
  · go_enter Tryz.func4, Tryz.ntmps4
    go_wp2_with (refine (awake_any _).mono ?_; rintro e w' ⟨rfl, hk⟩)
    go_ret
    exact ⟨rfl, hk⟩
  have hl30 : len ≤ 30 := by omega
  have hSm := small_ok x0 w
  have hY := fun W B h1 h2 => NewYard_ok W B h1 h2
  go_enter Tryz.func4, Tryz.ntmps4
  go_wp2_with (first
    | (go_at_call 6
       refine hSm.mono ?_
       clear hSm
       rintro e w1 ⟨B, rfl, hB, hB1, hB2, hk1⟩
       have hbc := Blk.new w1 25 #[.int .i64 (B : Nat), .int .i64 8, .int .i64 24]
       have hkA : Keep [] w (w1.alloc (.cells #[.int .i64 (B : Nat), .int .i64 8, .int .i64 24] 25)) := hk1.alloc _
       have hY1 := hY (w1.alloc (.cells #[.int .i64 (B : Nat), .int .i64 8, .int .i64 24] 25)) B hB1 (by omega)
       clear hY hB)
    | (go_at_call 7
       refine hY1.mono ?_
       clear hY1
       rintro e w2 ⟨t, d, s, F, D, rfl, hYd⟩
       obtain ⟨mm, xx, hbt, hst, hgood, _, _, hk2⟩ := id hYd
       have t0 : w2.cell? ⟨t, 0, none⟩ = some (.pointer (some ⟨d, 0, none⟩)) := by simpa using hbt.cell 0
       have t2 : w2.cell? ⟨t, 2, none⟩ = some (.pointer (some ⟨s, 0, none⟩)) := by simpa using hbt.cell 2
       have hN4 : Calls Tryz.prog 8 #[.pointer (some ⟨s, 0, none⟩), .int .i64 5] w2 _ := NewR_ok w2 _ s d F B (PS.fresh B D) hst (by simp [PS.fresh]) 5 (by omega) (by omega) rfl (by simp [PS.fresh]) hk2.size
       have htl := hbt.lt)
    | (go_at_call 8
       refine hN4.mono ?_
       clear hN4
       rintro e w3 ⟨r, x, Fx, rfl, hr, hk3, hfr⟩
       have hL3 := LawSt.new hYd hr hk3 hfr
       have hkB := hkA.trans0 hL3.kept
       have hbc3 := (hbc.keep0 hk2).keep0 hk3
       obtain ⟨c0, c1, c2⟩ := cfg_cells hbc3
       have hOp := opsL_any w3 B ⟨hB1, by omega⟩ A len cap zs (hz.keep0 hkB) (by omega))
    | (go_at_call 9
       refine hOp.mono ?_
       clear hOp
       rintro e w4 ⟨OA, oc, oz, rfl, hoz, hO, hk4⟩
       have hL4 := hL3.keep0 hk4
       have hO4 := hO.apart hL3.rep.lt
       have hbc4 := hbc3.keep0 hk4
       have hofc : Off [w1.heap.size] w4 (repF r F Fx) := by
         have hge := hL4.rep.ge
         have hlc := hbc4.lt
         intro y hy
         obtain rfl := List.mem_singleton.1 hy
         exact ⟨fun hm => by have h1 := hge _ hm; simp only [World.size_alloc] at h1; omega, hlc⟩))
  have hF0 : (PS.fresh B D).st.view = 1 ∧ (PS.fresh B D).st.seq = 0 ∧ (PS.fresh B D).st.epoch = 0 := ⟨rfl, rfl, rfl⟩
  have hozl : oz.length = len := by have := congrArg List.length hoz; rwa [List.length_map, strm_len] at this
  have HOZ := hide hoz
  have HOL := hide hozl
  generalize PS.fresh B D = S at *
  generalize w1.alloc (.cells #[.int .i64 (B : Nat), .int .i64 8, .int .i64 24] 25) = wA at *
  clear hoz hozl hL3 hO hk4 hk3 hk2 hfr hr t0 t2 c0 c1 c2 hbc3 hbc hYd hbt hst htl hkB
  go_loopw [16] (fun i wr => ∃ (k j : Nat) (Fs Fx : List Nat) (S : PS) (sl : List PSlot), k ≤ len ∧ i = .int .i64 (k : Nat) ∧ LawSt wA wr B t r s d x Fs Fx ⟨S, j + 1, sl⟩ ∧ Hid (S.st.view = 1 ∧ S.st.seq = j ∧ S.st.epoch = (strm B zs j).2) ∧ Good B S j (2 * j) ∧ OHold wr w3.heap.size (repF r Fs Fx) (.slice OA len oc) oz ∧ Hid (RefRel B len k j sl) ∧ Off [w1.heap.size] wr (repF r Fs Fx) ∧ Blk wr w1.heap.size 25 #[.int .i64 (B : Nat), .int .i64 8, .int .i64 24]) (fun i _ => len - (intOf i).toNat)
  case atStart => exact ⟨0, 0, F, Fx, S, emptyW 5, by omega, rfl, hL4, hF0, hgood, hO4, .inl ⟨rfl, rfl, by omega⟩, hofc, hbc4⟩
  case round =>
    clear hL4 hF0 hgood hO4 hofc hbc4
    obtain ⟨k, j, Fs, Fx, S, sl, hk, rfl, hL, hst, hg, hO, hrl, hofc, hbc⟩ := hrel
    by_cases hlt : k < len
    · by_cases hsk : k + 2 = len
      · have hskI : (((k : Nat) : Int) == (len : Nat) - 2) = true := by simp; omega
        have hsk2 : ((k : Nat) : Int) = (len : Nat) - 2 := by omega
        have HSK := hide hsk
        clear hsk
        go_wp2_with fail
        go_roundw
        case rel =>
          have hsk := unhide HSK
          refine ⟨k + 1, j, Fs, Fx, S, sl, by omega, by go_num, hL, hst, hg, hO, ?_, hofc, hbc⟩
          rcases unhide hrl with ⟨h1, h2, _⟩ | ⟨h1, _⟩ | ⟨h1, _⟩
          · exact .inr (.inl ⟨by omega, by omega, h2⟩)
          · omega
          · omega
        case measure => simp [intOf]; omega
      have hskI : (((k : Nat) : Int) == (len : Nat) - 2) = false := by simp; omega
      have hsk2 : ¬ ((k : Nat) : Int) = (len : Nat) - 2 := by omega
      have HSK := hide hsk
      clear hsk
      have hkz : k < oz.length := by rw [unhide HOL]; exact hlt
      obtain ⟨pv, hpv⟩ : ∃ p, p = oz[k] := ⟨_, rfl⟩
      have hop : pv.2 = (partOp B (zs.getD k (0, 0, 0)) (strm B zs k).2).1 := by
        have h1 : (oz.map (·.2))[k]? = some pv.2 := by rw [List.getElem?_map, List.getElem?_eq_getElem hkz, hpv]; rfl
        rw [unhide HOZ, strm_get B zs len k hlt] at h1
        exact (Option.some.inj h1).symm
      have hepk := strm_ep B zs k
      obtain ⟨hfor, k1, b1, c1, e1, xs, hpo, hmay, hfor2⟩ := partOp_for B ⟨hB1, by omega⟩ (zs.getD k (0, 0, 0)) (strm B zs k).2 (by omega)
      have hep := partOp_ep B (zs.getD k (0, 0, 0)) (strm B zs k).2
      have hnx := strm_next B zs k
      rw [← hop] at hpo hfor hep
      rw [← hnx] at hep
      have hda := hO.data pv (by rw [hpv]; exact List.getElem_mem hkz)
      have hrdO := hO.rd (A := OA) (c := oc) (by rw [unhide HOL])
      rw [unhide HOL] at hrdO
      obtain ⟨ob, oo, hOA, hobl, o0, o1, o2, o3, o4⟩ := hrdO.at_ hlt hkz
      rw [← hpv] at o0 o1 o2 o3 o4
      obtain ⟨DV, po⟩ := pv
      simp only at hpo hda o0 o1 o2 o3 o4 hop hfor hep
      subst hpo
      simp only at hda o0 o1 o2 o3 o4 hep
      obtain ⟨DA, dc, rfl, _, hdc, _⟩ := own_form hda
      have hE2 : (strm B zs (k + 1)).2 = epUp k1 (strm B zs k).2 ∧ (k1 = 3 → e1 = (strm B zs k).2 + 1) := by
        unfold epUp
        rcases hep with ⟨h1, h2, h3⟩ | ⟨h1, h2⟩
        · have : k1 = 3 := by omega
          exact ⟨by rw [if_pos this, h3], fun _ => by omega⟩
        · have : ¬ k1 = 3 := by omega
          exact ⟨by rw [if_neg this, h2], fun h => absurd h this⟩
      have HE2 := hide hE2
      have hW : Calls Tryz.prog 11 #[.int .i64 ((1 : Nat) : Int), .int .i64 (((k + 1 : Nat)) : Int), .agg #[.int .i64 k1, .int .i64 b1, .int .i64 c1, .int .i64 e1, .slice DA xs.length dc]] wr _ := wire_ok 1 (k + 1) k1 b1 c1 e1 xs.length dc DA xs (by omega) (by omega) hmay wr (Rd.of_own hda) (by omega)
      rw [Int.natCast_add] at hW
      have HOP := hide hop
      have HPV := hide hpv
      have HEP := hide hep
      have HNX := hide hnx
      have HOA := hide hOA
      clear hop hpv hep hnx hE2 hrdO
      subst hOA
      obtain ⟨n1, hn1⟩ : ∃ n, n = xs.length := ⟨_, rfl⟩
      rw [← hn1] at hW hmay hda o4
      have HN1 := hide hn1
      have hn64 : n1 ≤ 64 := by rcases hmay with ⟨_, _, _, _, h⟩ | ⟨_, _, _, _, _, h⟩ | ⟨_, _, _, _, _, h⟩ <;> omega
      clear hn1
      by_cases hlast : len < 2 ∨ k + 2 < len
      · obtain ⟨rfl, rfl⟩ : j = k ∧ sl = emptyW 5 := by
          rcases unhide hrl with ⟨h1, h2, _⟩ | ⟨h1, h2, _⟩ | ⟨h1, _⟩
          · exact ⟨h1, h2⟩
          · omega
          · omega
        have hT0 := fun W (hk : Keep [] wr W) UA uc hr => (hL.keep0 hk).step (by omega) (unhide hst) hg (by omega) k1 b1 c1 e1 n1 xs UA uc hr hmay (unhide HN1).symm hfor2 hfor (unhide HE2).2
        go_wp2_with (first
          | (go_at_call 11
             refine hW.mono ?_
             clear hW
             rintro e w5 ⟨u, rfl, hu, hk5⟩
             obtain ⟨UA, uc, rfl, _⟩ := own_form hu
             have hT := hT0 w5 hk5 UA uc (Rd.of_own hu)
             clear hT0)
          | (go_at_call 10
             refine hT.mono ?_
             clear hT
             rintro e w6 ⟨VA, vc, Fs', Fx', S', rfl, _, hL6, hst6, _, hg6, _, hk6, hgr6⟩))
        go_roundw
        case rel =>
          have hof5 := hofc.keep0 hk5
          refine ⟨j + 1, j + 1, Fs', Fx', S', emptyW 5, by omega, by go_num, hL6, ?_, hg6, (hO.keep0 hk5).turn hk6 (fun y hy => hy) hgr6, .inl ⟨rfl, rfl, by have := unhide HSK; omega⟩, hof5.turn hk6 hgr6, (hbc.keep0 hk5).keepN (hof5.keepN hk6) (by simp)⟩
          show _ ∧ _ ∧ _
          rw [(unhide HE2).1]
          exact hst6
        case measure => simp [intOf]; omega
      · obtain ⟨hj2, rfl, hkl⟩ : j + 2 = len ∧ sl = emptyW 5 ∧ k + 1 = len := by
          have := unhide HSK
          rcases unhide hrl with ⟨h1, h2, _⟩ | ⟨h1, h2, h3⟩ | ⟨h1, _⟩
          · omega
          · exact ⟨h2, h3, h1⟩
          · omega
        obtain rfl : k = j + 1 := by omega
        have HJ2 := hide hj2
        have HKL := hide hkl
        clear hj2 hkl
        have hT0 := fun W (hk : Keep [] wr W) UA uc hr => (hL.keep0 hk).take (unhide hst).1 k1 b1 c1 e1 n1 (j + 1 + 1) xs UA uc hr hmay (unhide HN1).symm hfor2 (by omega) j (2 * j) hg (by rw [present_empty]; omega) (by omega) (show j + 1 ≤ 1000000 by omega) (emptyW_ops 5 B) (by simp) (by simp) (emptyW_get _ _) hfor
        go_wp2_with (first
          | (go_at_call 11
             refine hW.mono ?_
             clear hW
             rintro e w5 ⟨u, rfl, hu, hk5⟩
             obtain ⟨UA, uc, rfl, _⟩ := own_form hu
             have hT := hT0 w5 hk5 UA uc (Rd.of_own hu)
             clear hT0)
          | (go_at_call 10
             refine hT.mono ?_
             clear hT
             rintro e w6 ⟨v1, Fs', Fx', R', er, hL6, hran, hg6, hops6, hk6, hgr6, h6⟩
             obtain ⟨rfl, rfl⟩ := Ran_wait (by omega) hran
             obtain ⟨VA, vc, rfl, _⟩ : ∃ VA vc, e = .returned (.tuple #[.slice VA 25 vc, .int .i64 0]) ∧ AckRow w5 w6 S.st VA vc := by
               rcases h6 with ⟨_, h⟩ | ⟨h, _⟩
               · exact h
               · omega))
        go_roundw
        case rel =>
          have hof5 := hofc.keep0 hk5
          refine ⟨j + 1 + 1, j, Fs', Fx', S, _, by have := unhide HKL; omega, by go_num, hL6, hst, hg, (hO.keep0 hk5).turn hk6 (fun y hy => hy) hgr6, .inr (.inr ⟨unhide HKL, unhide HJ2, _, rfl, hfor, rfl⟩), hof5.turn hk6 hgr6, (hbc.keep0 hk5).keepN (hof5.keepN hk6) (by simp)⟩
        case measure => simp [intOf]; omega
    · obtain rfl : k = len := by omega
      obtain ⟨hj30, hsl⟩ := (unhide hrl).end_
      clear HOZ HOL hO hrl
      obtain ⟨hv, hsq, hpe⟩ := unhide hst
      clear hst hsq hpe
      go_wp2_with fail
      obtain ⟨n0, n1, n2, n3, n4, n5, n6, n7, n8, n9, hSa⟩ : ∃ n0 n1 n2 n3 n4 n5 n6 n7 n8 n9 : Int, ∀ W, Keep [] wr W → Calls Tryz.prog 12 #[.pointer (some ⟨s, 0, none⟩)] W fun e w' => e = .returned (.agg #[.int .i64 n0, .int .i64 n1, .int .i64 n2, .int .i64 n3, .int .i64 n4, .int .i64 n5, .int .i64 n6, .int .i64 n7, .int .i64 n8, .int .i64 n9]) ∧ Keep [] W w' := ⟨_, _, _, _, _, _, _, _, _, _, fun W hk => StatusAt_is W _ s d Fs B S (hL.keep0 hk).rep.st⟩
      obtain ⟨ac, hAc⟩ : ∃ ac : Nat, ∀ W, Keep [] wr W → Calls Tryz.prog 17 #[.pointer (some ⟨d, 0, none⟩)] W fun e w' => e = .returned (.int .i64 (ac : Nat)) ∧ W = w' := ⟨S.D.acts, fun W hk => by
        obtain ⟨g, tt, p, m, Fd, Ft, Fw, Fm, L0, L1, h2, hf⟩ := (hL.keep0 hk).rep.st
        exact Acts_is W _ d Fd S.D h2.log.disk⟩
      have hNx : ∀ W, Keep [] wr W → Calls Tryz.prog 15 #[.pointer (some ⟨r, 0, none⟩)] W fun e w' => e = .returned (.int .i64 ((j : Nat) + 1)) ∧ W = w' := fun W hk => NextR_is W _ r s d x Fs Fx B _ (hL.keep0 hk).rep
      obtain ⟨cw, hWt⟩ : ∃ cw : Nat, ∀ W, Keep [] wr W → Calls Tryz.prog 14 #[.pointer (some ⟨r, 0, none⟩)] W fun e w' => e = .returned (.int .i64 (cw : Nat)) ∧ Keep [] W w' := ⟨_, fun W hk => WaitingR_is W _ r s d x Fs Fx B _ (hL.keep0 hk).rep⟩
      have hcl : ∀ W, Keep [] wr W → W.cell? ⟨t, 0, none⟩ = some (.pointer (some ⟨d, 0, none⟩)) ∧ W.cell? ⟨t, 2, none⟩ = some (.pointer (some ⟨s, 0, none⟩)) := fun W hk => (hL.keep0 hk).cells
      refine wp_region_rt (fun w' => w'.cell? ⟨t, 0, none⟩ = some (.pointer (some ⟨d, 0, none⟩)) ∧ w'.cell? ⟨t, 2, none⟩ = some (.pointer (some ⟨s, 0, none⟩))) 15 (.held 0 (.held 1 (.held 2 (.held 3 (.held 5 (.held 6 (.held 7 (.held 8 (.held 10 (.held 12 (.two 4 (.two 9 (.two 11 (.two 13 (.loud 14 .nil) 14 (.loud 13 .nil)) 14 (.loud 11 (.loud 13 .nil))) 14 (.loud 9 (.loud 11 (.loud 13 .nil)))) 14 (.loud 4 (.loud 9 (.loud 11 (.loud 13 .nil)))))))))))))))
        (by kernel_rfl) (by kernel_rfl) (fun _ _ d _ _ h => by cases d <;> exact h) (hcl _ (Keep.refl _ _).drew) ?_
      simp only [RT.pick, PJ]
      iterate 10 (refine wpR_held ?_ (by rfl) ?_ ?_; rotate_left; (focus (rintro W ⟨hW0, hW1⟩; go_simp; try with_reducible rfl)); simp only [Act.put, PU])
      refine @shareR2 (fun w' g => Keep [] wr w' ∧ wr.heap.size ≤ g ∧ Blk w' g 48 #[.int .i64 0, .int .i64 0, .int .i64 0, .int .i64 0, .int .i64 0, .int .i64 0, .int .i64 0, .int .i64 0, .int .i64 0, .int .i64 0]) ?X _ (fun hR => ?_) ?_
      rotate_left
      · have hkc : Keep [] wr wr.drew := (Keep.refl _ _).drew
        generalize wr.drew = V0 at hkc ⊢
        refine wpR_two ?_ ?_
        · refine wpR_loud (by rfl) (fun K hK => ?_)
          go_wp2_with (refine (hSa _ hkc).mono ?_; rintro e V1 ⟨rfl, hq⟩)
          replace hkc := hkc.trans0 hq
          clear hq
          refine hK _ _ ((hcl _ hkc)) ?_
          clear hK K
          try simp only [Act.put, PU]
          refine wpR_two ?_ ?_
          · refine wpR_loud (by rfl) (fun K hK => ?_)
            go_wp2_with (refine (hAc _ hkc).mono ?_; rintro e V2 ⟨rfl, rfl⟩)
            refine hK _ _ ((hcl _ hkc)) ?_
            clear hK K
            try simp only [Act.put, PU]
            refine wpR_two ?_ ?_
            · refine wpR_loud (by rfl) (fun K hK => ?_)
              go_wp2_with (refine (hNx _ hkc).mono ?_; rintro e V2 ⟨rfl, rfl⟩)
              refine hK _ _ ((hcl _ hkc)) ?_
              clear hK K
              try simp only [Act.put, PU]
              refine wpR_two ?_ ?_
              · refine wpR_loud (by rfl) (fun K hK => ?_)
                go_wp2_with (refine (hWt _ hkc).mono ?_; rintro e V2 ⟨rfl, hq⟩)
                replace hkc := hkc.trans0 hq
                clear hq
                refine hK _ _ ((hcl _ hkc)) ?_
                clear hK K
                try simp only [Act.put, PU]
                refine wpR_loud (by rfl) (fun K hK => ?_)
                go_wp2_with fail
                have hbS := Blk.new V2 48 #[.int .i64 0, .int .i64 0, .int .i64 0, .int .i64 0, .int .i64 0, .int .i64 0, .int .i64 0, .int .i64 0, .int .i64 0, .int .i64 0]
                have hq := (Keep.refl [] V2).alloc (.cells #[.int .i64 0, .int .i64 0, .int .i64 0, .int .i64 0, .int .i64 0, .int .i64 0, .int .i64 0, .int .i64 0, .int .i64 0, .int .i64 0] 48)
                have hlS : wr.heap.size ≤ V2.heap.size := hkc.size
                generalize V2.alloc (.cells #[.int .i64 0, .int .i64 0, .int .i64 0, .int .i64 0, .int .i64 0, .int .i64 0, .int .i64 0, .int .i64 0, .int .i64 0, .int .i64 0] 48) = V3 at hbS hq ⊢
                generalize V2.heap.size = gS at hbS hlS ⊢
                replace hkc := hkc.trans0 hq
                clear hq
                refine hK _ _ ((hcl _ hkc)) ?_
                clear hK K
                try simp only [Act.put, PU]
                refine wpR_nil ?_
                exact hR V3 gS ⟨hkc, hlS, hbS⟩
              · refine wpR_loud (by rfl) (fun K hK => ?_)
                go_wp2_with fail
                have hbS := Blk.new V1 48 #[.int .i64 0, .int .i64 0, .int .i64 0, .int .i64 0, .int .i64 0, .int .i64 0, .int .i64 0, .int .i64 0, .int .i64 0, .int .i64 0]
                have hq := (Keep.refl [] V1).alloc (.cells #[.int .i64 0, .int .i64 0, .int .i64 0, .int .i64 0, .int .i64 0, .int .i64 0, .int .i64 0, .int .i64 0, .int .i64 0, .int .i64 0] 48)
                have hlS : wr.heap.size ≤ V1.heap.size := hkc.size
                generalize V1.alloc (.cells #[.int .i64 0, .int .i64 0, .int .i64 0, .int .i64 0, .int .i64 0, .int .i64 0, .int .i64 0, .int .i64 0, .int .i64 0, .int .i64 0] 48) = V2 at hbS hq ⊢
                generalize V1.heap.size = gS at hbS hlS ⊢
                replace hkc := hkc.trans0 hq
                clear hq
                refine hK _ _ ((hcl _ hkc)) ?_
                clear hK K
                try simp only [Act.put, PU]
                refine wpR_loud (by rfl) (fun K hK => ?_)
                go_wp2_with (refine (hWt _ hkc).mono ?_; rintro e V3 ⟨rfl, hq⟩)
                replace hbS := hbS.keep0 hq
                replace hkc := hkc.trans0 hq
                clear hq
                refine hK _ _ ((hcl _ hkc)) ?_
                clear hK K
                try simp only [Act.put, PU]
                refine wpR_nil ?_
                exact hR V3 gS ⟨hkc, hlS, hbS⟩
            · refine wpR_loud (by rfl) (fun K hK => ?_)
              go_wp2_with fail
              have hbS := Blk.new V1 48 #[.int .i64 0, .int .i64 0, .int .i64 0, .int .i64 0, .int .i64 0, .int .i64 0, .int .i64 0, .int .i64 0, .int .i64 0, .int .i64 0]
              have hq := (Keep.refl [] V1).alloc (.cells #[.int .i64 0, .int .i64 0, .int .i64 0, .int .i64 0, .int .i64 0, .int .i64 0, .int .i64 0, .int .i64 0, .int .i64 0, .int .i64 0] 48)
              have hlS : wr.heap.size ≤ V1.heap.size := hkc.size
              generalize V1.alloc (.cells #[.int .i64 0, .int .i64 0, .int .i64 0, .int .i64 0, .int .i64 0, .int .i64 0, .int .i64 0, .int .i64 0, .int .i64 0, .int .i64 0] 48) = V2 at hbS hq ⊢
              generalize V1.heap.size = gS at hbS hlS ⊢
              replace hkc := hkc.trans0 hq
              clear hq
              refine hK _ _ ((hcl _ hkc)) ?_
              clear hK K
              try simp only [Act.put, PU]
              refine wpR_loud (by rfl) (fun K hK => ?_)
              go_wp2_with (refine (hNx _ hkc).mono ?_; rintro e V3 ⟨rfl, rfl⟩)
              refine hK _ _ ((hcl _ hkc)) ?_
              clear hK K
              try simp only [Act.put, PU]
              refine wpR_loud (by rfl) (fun K hK => ?_)
              go_wp2_with (refine (hWt _ hkc).mono ?_; rintro e V3 ⟨rfl, hq⟩)
              replace hbS := hbS.keep0 hq
              replace hkc := hkc.trans0 hq
              clear hq
              refine hK _ _ ((hcl _ hkc)) ?_
              clear hK K
              try simp only [Act.put, PU]
              refine wpR_nil ?_
              exact hR V3 gS ⟨hkc, hlS, hbS⟩
          · refine wpR_loud (by rfl) (fun K hK => ?_)
            go_wp2_with fail
            have hbS := Blk.new V1 48 #[.int .i64 0, .int .i64 0, .int .i64 0, .int .i64 0, .int .i64 0, .int .i64 0, .int .i64 0, .int .i64 0, .int .i64 0, .int .i64 0]
            have hq := (Keep.refl [] V1).alloc (.cells #[.int .i64 0, .int .i64 0, .int .i64 0, .int .i64 0, .int .i64 0, .int .i64 0, .int .i64 0, .int .i64 0, .int .i64 0, .int .i64 0] 48)
            have hlS : wr.heap.size ≤ V1.heap.size := hkc.size
            generalize V1.alloc (.cells #[.int .i64 0, .int .i64 0, .int .i64 0, .int .i64 0, .int .i64 0, .int .i64 0, .int .i64 0, .int .i64 0, .int .i64 0, .int .i64 0] 48) = V2 at hbS hq ⊢
            generalize V1.heap.size = gS at hbS hlS ⊢
            replace hkc := hkc.trans0 hq
            clear hq
            refine hK _ _ ((hcl _ hkc)) ?_
            clear hK K
            try simp only [Act.put, PU]
            refine wpR_loud (by rfl) (fun K hK => ?_)
            go_wp2_with (refine (hAc _ hkc).mono ?_; rintro e V3 ⟨rfl, rfl⟩)
            refine hK _ _ ((hcl _ hkc)) ?_
            clear hK K
            try simp only [Act.put, PU]
            refine wpR_loud (by rfl) (fun K hK => ?_)
            go_wp2_with (refine (hNx _ hkc).mono ?_; rintro e V3 ⟨rfl, rfl⟩)
            refine hK _ _ ((hcl _ hkc)) ?_
            clear hK K
            try simp only [Act.put, PU]
            refine wpR_loud (by rfl) (fun K hK => ?_)
            go_wp2_with (refine (hWt _ hkc).mono ?_; rintro e V3 ⟨rfl, hq⟩)
            replace hbS := hbS.keep0 hq
            replace hkc := hkc.trans0 hq
            clear hq
            refine hK _ _ ((hcl _ hkc)) ?_
            clear hK K
            try simp only [Act.put, PU]
            refine wpR_nil ?_
            exact hR V3 gS ⟨hkc, hlS, hbS⟩
        · refine wpR_loud (by rfl) (fun K hK => ?_)
          go_wp2_with fail
          have hbS := Blk.new V0 48 #[.int .i64 0, .int .i64 0, .int .i64 0, .int .i64 0, .int .i64 0, .int .i64 0, .int .i64 0, .int .i64 0, .int .i64 0, .int .i64 0]
          have hq := (Keep.refl [] V0).alloc (.cells #[.int .i64 0, .int .i64 0, .int .i64 0, .int .i64 0, .int .i64 0, .int .i64 0, .int .i64 0, .int .i64 0, .int .i64 0, .int .i64 0] 48)
          have hlS : wr.heap.size ≤ V0.heap.size := hkc.size
          generalize V0.alloc (.cells #[.int .i64 0, .int .i64 0, .int .i64 0, .int .i64 0, .int .i64 0, .int .i64 0, .int .i64 0, .int .i64 0, .int .i64 0, .int .i64 0] 48) = V1 at hbS hq ⊢
          generalize V0.heap.size = gS at hbS hlS ⊢
          replace hkc := hkc.trans0 hq
          clear hq
          refine hK _ _ ((hcl _ hkc)) ?_
          clear hK K
          try simp only [Act.put, PU]
          refine wpR_loud (by rfl) (fun K hK => ?_)
          go_wp2_with (refine (hSa _ hkc).mono ?_; rintro e V2 ⟨rfl, hq⟩)
          replace hbS := hbS.keep0 hq
          replace hkc := hkc.trans0 hq
          clear hq
          refine hK _ _ ((hcl _ hkc)) ?_
          clear hK K
          try simp only [Act.put, PU]
          refine wpR_loud (by rfl) (fun K hK => ?_)
          go_wp2_with (refine (hAc _ hkc).mono ?_; rintro e V3 ⟨rfl, rfl⟩)
          refine hK _ _ ((hcl _ hkc)) ?_
          clear hK K
          try simp only [Act.put, PU]
          refine wpR_loud (by rfl) (fun K hK => ?_)
          go_wp2_with (refine (hNx _ hkc).mono ?_; rintro e V3 ⟨rfl, rfl⟩)
          refine hK _ _ ((hcl _ hkc)) ?_
          clear hK K
          try simp only [Act.put, PU]
          refine wpR_loud (by rfl) (fun K hK => ?_)
          go_wp2_with (refine (hWt _ hkc).mono ?_; rintro e V3 ⟨rfl, hq⟩)
          replace hbS := hbS.keep0 hq
          replace hkc := hkc.trans0 hq
          clear hq
          refine hK _ _ ((hcl _ hkc)) ?_
          clear hK K
          try simp only [Act.put, PU]
          refine wpR_nil ?_
          exact hR V3 gS ⟨hkc, hlS, hbS⟩
      rintro V6 gS ⟨hkZ, hgS, hbS⟩
      refine wpl_store rfl _ _ _ rfl _ _ rfl rfl (store_sta gS [.int .i64 n0, .int .i64 n1, .int .i64 n2, .int .i64 n3, .int .i64 n4, .int .i64 n5, .int .i64 n6, .int .i64 n7, .int .i64 n8, .int .i64 n9] rfl (by simp [Value.oneCell']) V6 (there_of_blk hbS 10 (by simp))) ?_
      replace hbS := hbS.all [.int .i64 n0, .int .i64 n1, .int .i64 n2, .int .i64 n3, .int .i64 n4, .int .i64 n5, .int .i64 n6, .int .i64 n7, .int .i64 n8, .int .i64 n9] (by simp)
      have hk9 := Keep.setCells (g := gS) [.int .i64 n0, .int .i64 n1, .int .i64 n2, .int .i64 n3, .int .i64 n4, .int .i64 n5, .int .i64 n6, .int .i64 n7, .int .i64 n8, .int .i64 n9] 0 (Keep.refl [gS] V6) (.inl (by simp))
      generalize V6.setCells gS 0 [.int .i64 n0, .int .i64 n1, .int .i64 n2, .int .i64 n3, .int .i64 n4, .int .i64 n5, .int .i64 n6, .int .i64 n7, .int .i64 n8, .int .i64 n9] = V7 at *
      replace hkZ := hkZ.trans hk9 (fun y hy => .inr (by simp at hy; omega))
      clear hk9
      have hFl := Fill_any by_ V7
      obtain ⟨g, hg5, hgl⟩ : ∃ g : Nat, gap % 5 = (g : Int) ∧ g < 5 := ⟨(gap % 5).toNat, by omega, by omega⟩
      have hRg : ∀ W, Calls Tryz.prog 13 #[.int .i64 gap, .int .i64 5] W fun e w' => e = .returned (.int .i64 (g : Nat)) ∧ W = w' := fun W => by rw [← hg5]; exact Round_any gap 5 W (by omega) (by omega)
      obtain ⟨kk, hkk, hkl⟩ : ∃ kk : Nat, kind % 7 = (kk : Int) ∧ kk < 7 := ⟨(kind % 7).toNat, by omega, by omega⟩
      have hRk : ∀ W, Calls Tryz.prog 13 #[.int .i64 kind, .int .i64 7] W fun e w' => e = .returned (.int .i64 (kk : Nat)) ∧ W = w' := fun W => by rw [← hkk]; exact Round_any kind 7 W (by omega) (by omega)
      clear hg5 hkk
      have hbc7 := hbc.keep0 hkZ
      go_wp2_with (first
        | (go_at_call 18
           refine hFl.mono ?_
           clear hFl
           rintro e V8 ⟨u, rfl, hu, hk8⟩
           obtain ⟨gd, dc, rfl, hdc⟩ := own_some hu (by omega)
           have hkB := hk8.alloc (.cells #[.int .i64 1, .int .i64 0, .int .i64 0, .int .i64 0, .slice (some ⟨gd, 0, none⟩) 64 dc] 46)
           have hbO := Blk.new V8 46 #[.int .i64 1, .int .i64 0, .int .i64 0, .int .i64 0, .slice (some ⟨gd, 0, none⟩) 64 dc]
           have hd := (Rd.of_own hu).keep ((Keep.refl _ _).alloc (.cells #[.int .i64 1, .int .i64 0, .int .i64 0, .int .i64 0, .slice (some ⟨gd, 0, none⟩) 64 dc] 46)))
        | (go_at_call 13
           refine (hRg _).mono ?_
           clear hRg
           rintro e w' ⟨rfl, rfl⟩))
      have hdl : (fillOf by_).length = 64 := by simp
      generalize V8.alloc (.cells #[.int .i64 1, .int .i64 0, .int .i64 0, .int .i64 0, .slice (some ⟨gd, 0, none⟩) 64 dc] 46) = wB at *
      generalize V8.heap.size = ow at *
      generalize fillOf by_ = data at *
      have hkW := hkZ.trans0 hkB
      have hRep : ∀ W, Keep [] wB W → ReplicaIs W wA.heap.size r s d x Fs Fx B ⟨S, j + 1, sl⟩ := fun W hk => (hL.keep0 (hkW.trans0 hk)).rep
      have hbs : ∀ W, Keep [] wB W → wA.heap.size ≤ W.heap.size := fun W hk => (hL.keep0 (hkW.trans0 hk)).kept.size
      have hsC : ∀ W, Keep [] wB W → WasAt t d s gS n0 n1 n2 n3 n4 n5 n6 n7 n8 n9 W := fun W hk => ⟨hcl _ (hkW.trans0 hk), sta_cells ((hbS.keep0 hkB).keep0 hk)⟩
      have hop : ∀ W, Keep [] wB W → W.cell? ⟨ow, 0, none⟩ = some (.int .i64 1) ∧ W.cell? ⟨ow, 1, none⟩ = some (.int .i64 0) ∧ W.cell? ⟨ow, 2, none⟩ = some (.int .i64 0) ∧ W.cell? ⟨ow, 3, none⟩ = some (.int .i64 0) ∧ W.cell? ⟨ow, 4, none⟩ = some (.slice (some ⟨gd, 0, none⟩) 64 dc) := fun W hk => op_cells (hbO.keep0 hk)
      have hWr := fun (v sq : Nat) hv hs W (hk : Keep [] wB W) => wire_ok v sq 1 0 0 0 64 dc (some ⟨gd, 0, none⟩) data hv hs (.inl ⟨rfl, by omega, rfl, rfl, rfl⟩) W (hd.keep hk) hdc
      have hbcB := hbc7.keep0 hkB
      have hB63 : B ≤ 20 := hB2
      have hNx' := fun W hk => hNx W (hkW.trans0 hk)
      have hAc' := fun W hk => hAc W (hkW.trans0 hk)
      have hSa' := fun W hk => hSa W (hkW.trans0 hk)
      have hWt' := fun W hk => hWt W (hkW.trans0 hk)
      have hfinK : ∀ W, Keep [] wB W → Keep [] w W := fun W hk => hkA.trans0 ((hL.keep0 (hkW.trans0 hk)).kept)
      clear hkZ hgS hbS hkB hbc7 hNx hAc hSa hWt hcl hL hg hofc hbc hkW
      have hsq1 : 1 ≤ j + 1 + g ∧ j + 1 + g ≤ 2147483647 := by omega
      rcases (by omega : kk = 0 ∨ kk = 1 ∨ kk = 2 ∨ kk = 3 ∨ kk = 4 ∨ kk = 5 ∨ kk = 6) with rfl | rfl | rfl | rfl | rfl | rfl | rfl
      · obtain ⟨o0, o1, o2, o3, o4⟩ := hop _ (Keep.refl _ _)
        have hW : Calls Tryz.prog 11 #[.int .i64 ((1 : Nat) : Int), .int .i64 ((j + 1 + g : Nat) : Int), .agg #[.int .i64 1, .int .i64 0, .int .i64 0, .int .i64 0, .slice (some ⟨gd, 0, none⟩) 64 dc]] wB _ := hWr 1 (j + 1 + g) (by omega) hsq1 wB (Keep.refl _ _)
        simp only [Int.natCast_add] at hW
        obtain ⟨f, hf, hfl⟩ : ∃ f : Nat, (by_ % (8 * ((89 : Nat) : Int))).toNat = f ∧ f < 712 := ⟨_, rfl, by omega⟩
        go_wp2_with (first
          | (go_at_call 13
             refine (hRk _).mono ?_
             clear hRk
             rintro e w' ⟨rfl, rfl⟩)
          | (go_at_call 11
             refine hW.mono ?_
             clear hW
             rintro e w10 ⟨u, rfl, hu, hk10⟩
             obtain ⟨ge, ue, rfl, hue⟩ := own_some hu (by omega)
             have hSp := spoilt_ok (some ⟨ge, 0, none⟩) 89 ue _ by_ w10 (Rd.of_own hu) (by omega) (by omega) hue
             rw [hf] at hSp)
          | (go_at_call 19
             refine hSp.mono ?_
             clear hSp
             rintro e w11 ⟨u, rfl, hu, hk11⟩
             obtain ⟨UG, ug, rfl, _⟩ := own_form hu
             replace hk11 := hk10.trans0 hk11
             have hT := TakeR_bad r UG 89 ug w11 (Decode_no UG 89 ug _ w11 (Rd.of_own hu) (by omega) (by omega) (turned_any 1 1 (j + 1 + g) 0 0 0 0 f data 85 (by omega) (by omega))))
          | (go_at_call 10
             refine hT.mono ?_
             clear hT
             rintro e w12 ⟨rfl, hk12⟩
             have hkT := hk11.trans0 hk12))
        have hT0 : Keep [] wB _ := hkT.drew
        refine wp_region_ht (WasAt t d s gS n0 n1 n2 n3 n4 n5 n6 n7 n8 n9) 36 [(0, false), (1, false), (2, false), (3, false), (4, false), (5, false), (6, false), (7, false), (8, false), (9, false), (10, false), (11, false), (12, false), (14, false), (13, true), (15, false), (16, false), (17, false), (18, false), (19, false), (20, false), (21, false), (23, false), (22, true), (24, false), (25, false), (26, false), (27, false), (29, false), (28, true), (30, false), (31, false), (32, false), (33, false), (35, false), (34, true)]
          (by kernel_rfl) (by kernel_rfl) (fun _ _ d _ _ h => by cases d <;> exact h) (hsC _ hT0) ?_
        simp only [PI]
        iterate 14 (refine wpT_held ?_ (by rfl) ?_ ?_; rotate_left; (focus (rintro W ⟨⟨hW0, hW1⟩, hW2, hW3, hW4, hW5, hW6, hW7, hW8, hW9, hWa, hWb⟩; go_simp; try with_reducible rfl)); simp only [Act.put, PU])
        refine wpT_loud (by rfl) (fun K hK => ?_)
        go_wp2_with (refine (hSa' _ hT0).mono ?_; clear hSa'; rintro e U1 ⟨rfl, hT1⟩)
        replace hT1 := hT0.trans0 hT1
        refine hK _ _ ((hsC _ hT1)) ?_
        clear hK K
        try simp only [Act.put, PU]
        iterate 8 (refine wpT_held ?_ (by rfl) ?_ ?_; rotate_left; (focus (rintro W ⟨⟨hW0, hW1⟩, hW2, hW3, hW4, hW5, hW6, hW7, hW8, hW9, hWa, hWb⟩; go_simp; try with_reducible rfl)); simp only [Act.put, PU])
        refine wpT_loud (by rfl) (fun K hK => ?_)
        go_wp2_with (refine (hAc' _ hT1).mono ?_; clear hAc'; rintro e w' ⟨rfl, rfl⟩)
        refine hK _ _ ((hsC _ hT1)) ?_
        clear hK K
        try simp only [Act.put, PU]
        iterate 5 (refine wpT_held ?_ (by rfl) ?_ ?_; rotate_left; (focus (rintro W ⟨⟨hW0, hW1⟩, hW2, hW3, hW4, hW5, hW6, hW7, hW8, hW9, hWa, hWb⟩; go_simp; try with_reducible rfl)); simp only [Act.put, PU])
        refine wpT_loud (by rfl) (fun K hK => ?_)
        go_wp2_with (refine (hNx' _ hT1).mono ?_; clear hNx'; rintro e w' ⟨rfl, rfl⟩)
        refine hK _ _ ((hsC _ hT1)) ?_
        clear hK K
        try simp only [Act.put, PU]
        iterate 5 (refine wpT_held ?_ (by rfl) ?_ ?_; rotate_left; (focus (rintro W ⟨⟨hW0, hW1⟩, hW2, hW3, hW4, hW5, hW6, hW7, hW8, hW9, hWa, hWb⟩; go_simp; try with_reducible rfl)); simp only [Act.put, PU])
        refine wpT_loud (by rfl) (fun K hK => ?_)
        go_wp2_with (refine (hWt' _ hT1).mono ?_; clear hWt'; rintro e U2 ⟨rfl, hT2⟩)
        replace hT2 := hT1.trans0 hT2
        refine hK _ _ ((hsC _ hT2)) ?_
        clear hK K
        try simp only [Act.put, PU]
        refine wpT_nil ?_
        go_wp2_with (refine (awake_any _).mono ?_; rintro e U3 ⟨rfl, hT3⟩)
        go_ret
        exact ⟨rfl, (hfinK _ hT2).trans0 hT3⟩
      · obtain ⟨q, hq, hql⟩ : ∃ q : Nat, by_ % 1000 = (q : Int) ∧ q < 1000 := ⟨(by_ % 1000).toNat, by omega, by omega⟩
        have hRq : ∀ W, Calls Tryz.prog 13 #[.int .i64 by_, .int .i64 1000] W fun e w' => e = .returned (.int .i64 (q : Nat)) ∧ W = w' := fun W => by rw [← hq]; exact Round_any by_ 1000 W (by omega) (by omega)
        clear hq
        have hW : Calls Tryz.prog 11 #[.int .i64 ((2 + q : Nat) : Int), .int .i64 ((j + 1 + g : Nat) : Int), .agg #[.int .i64 1, .int .i64 0, .int .i64 0, .int .i64 0, .slice (some ⟨gd, 0, none⟩) 64 dc]] wB.drew _ := hWr (2 + q) (j + 1 + g) (by omega) hsq1 wB.drew (Keep.refl _ _).drew
        simp only [Int.natCast_add] at hW
        go_wp2_with (first
          | (go_at_call 13
             refine (hRk _).mono ?_
             clear hRk
             rintro e w' ⟨rfl, rfl⟩))
        refine wp_region_ht (fun w' => w'.cell? ⟨ow, 0, none⟩ = some (.int .i64 1) ∧ w'.cell? ⟨ow, 1, none⟩ = some (.int .i64 0) ∧ w'.cell? ⟨ow, 2, none⟩ = some (.int .i64 0) ∧ w'.cell? ⟨ow, 3, none⟩ = some (.int .i64 0) ∧ w'.cell? ⟨ow, 4, none⟩ = some (.slice (some ⟨gd, 0, none⟩) 64 dc)) 5 [(0, false), (3, false), (4, false), (1, true), (2, false)]
          (by kernel_rfl) (by kernel_rfl) (fun _ _ d _ _ h => by cases d <;> exact h) (hop _ (Keep.refl _ _).drew) ?_
        simp only [PI]
        iterate 3 (refine wpT_held ?_ (by rfl) ?_ ?_; rotate_left; (focus (rintro W ⟨hW0, hW1, hW2, hW3, hW4⟩; go_simp; try with_reducible rfl)); simp only [Act.put, PU])
        refine wpT_loud (by rfl) (fun K hK => ?_)
        go_wp2_with (refine (hRq _).mono ?_; clear hRq; rintro e w' ⟨rfl, rfl⟩)
        refine hK _ _ ((hop _ (Keep.refl _ _).drew)) ?_
        clear hK K
        try simp only [Act.put, PU]
        iterate 1 (refine wpT_held ?_ (by rfl) ?_ ?_; rotate_left; (focus (rintro W ⟨hW0, hW1, hW2, hW3, hW4⟩; go_simp; try with_reducible rfl)); simp only [Act.put, PU])
        refine wpT_nil ?_
        go_wp2_with (first
          | (go_at_call 11
             refine hW.mono ?_
             clear hW
             rintro e w11 ⟨u, rfl, hu, hk11⟩
             replace hk11 : Keep [] wB w11 := (Keep.refl _ _).drew.trans0 hk11
             obtain ⟨UG, ug, rfl, _⟩ := own_form hu
             have hT := TakeR_view w11 _ r s d x Fs Fx B _ (hRep _ hk11) (2 + q) 1 0 0 0 64 (j + 1 + g) data UG ug (Rd.of_own hu) (.inl ⟨rfl, by omega, rfl, rfl, rfl⟩) hdl (.inl (by omega)) hsq1 (by omega) (by simp only [hv]; omega))
          | (go_at_call 10
             refine hT.mono ?_
             clear hT
             rintro e w12 ⟨rfl, hk12⟩
             have hkT := hk11.trans0 hk12))
        have hT0 : Keep [] wB _ := hkT.drew
        refine wp_region_ht (WasAt t d s gS n0 n1 n2 n3 n4 n5 n6 n7 n8 n9) 36 [(0, false), (1, false), (2, false), (3, false), (4, false), (5, false), (6, false), (7, false), (8, false), (9, false), (10, false), (11, false), (12, false), (14, false), (13, true), (15, false), (16, false), (17, false), (18, false), (19, false), (20, false), (21, false), (23, false), (22, true), (24, false), (25, false), (26, false), (27, false), (29, false), (28, true), (30, false), (31, false), (32, false), (33, false), (35, false), (34, true)]
          (by kernel_rfl) (by kernel_rfl) (fun _ _ d _ _ h => by cases d <;> exact h) (hsC _ hT0) ?_
        simp only [PI]
        iterate 14 (refine wpT_held ?_ (by rfl) ?_ ?_; rotate_left; (focus (rintro W ⟨⟨hW0, hW1⟩, hW2, hW3, hW4, hW5, hW6, hW7, hW8, hW9, hWa, hWb⟩; go_simp; try with_reducible rfl)); simp only [Act.put, PU])
        refine wpT_loud (by rfl) (fun K hK => ?_)
        go_wp2_with (refine (hSa' _ hT0).mono ?_; clear hSa'; rintro e U1 ⟨rfl, hT1⟩)
        replace hT1 := hT0.trans0 hT1
        refine hK _ _ ((hsC _ hT1)) ?_
        clear hK K
        try simp only [Act.put, PU]
        iterate 8 (refine wpT_held ?_ (by rfl) ?_ ?_; rotate_left; (focus (rintro W ⟨⟨hW0, hW1⟩, hW2, hW3, hW4, hW5, hW6, hW7, hW8, hW9, hWa, hWb⟩; go_simp; try with_reducible rfl)); simp only [Act.put, PU])
        refine wpT_loud (by rfl) (fun K hK => ?_)
        go_wp2_with (refine (hAc' _ hT1).mono ?_; clear hAc'; rintro e w' ⟨rfl, rfl⟩)
        refine hK _ _ ((hsC _ hT1)) ?_
        clear hK K
        try simp only [Act.put, PU]
        iterate 5 (refine wpT_held ?_ (by rfl) ?_ ?_; rotate_left; (focus (rintro W ⟨⟨hW0, hW1⟩, hW2, hW3, hW4, hW5, hW6, hW7, hW8, hW9, hWa, hWb⟩; go_simp; try with_reducible rfl)); simp only [Act.put, PU])
        refine wpT_loud (by rfl) (fun K hK => ?_)
        go_wp2_with (refine (hNx' _ hT1).mono ?_; clear hNx'; rintro e w' ⟨rfl, rfl⟩)
        refine hK _ _ ((hsC _ hT1)) ?_
        clear hK K
        try simp only [Act.put, PU]
        iterate 5 (refine wpT_held ?_ (by rfl) ?_ ?_; rotate_left; (focus (rintro W ⟨⟨hW0, hW1⟩, hW2, hW3, hW4, hW5, hW6, hW7, hW8, hW9, hWa, hWb⟩; go_simp; try with_reducible rfl)); simp only [Act.put, PU])
        refine wpT_loud (by rfl) (fun K hK => ?_)
        go_wp2_with (refine (hWt' _ hT1).mono ?_; clear hWt'; rintro e U2 ⟨rfl, hT2⟩)
        replace hT2 := hT1.trans0 hT2
        refine hK _ _ ((hsC _ hT2)) ?_
        clear hK K
        try simp only [Act.put, PU]
        refine wpT_nil ?_
        go_wp2_with (refine (awake_any _).mono ?_; rintro e U3 ⟨rfl, hT3⟩)
        go_ret
        exact ⟨rfl, (hfinK _ hT2).trans0 hT3⟩
      · obtain ⟨q, hq, hql⟩ : ∃ q : Nat, by_ % 1000 = (q : Int) ∧ q < 1000 := ⟨(by_ % 1000).toNat, by omega, by omega⟩
        have hRq : ∀ W, Calls Tryz.prog 13 #[.int .i64 by_, .int .i64 1000] W fun e w' => e = .returned (.int .i64 (q : Nat)) ∧ W = w' := fun W => by rw [← hq]; exact Round_any by_ 1000 W (by omega) (by omega)
        clear hq
        have hW : Calls Tryz.prog 11 #[.int .i64 ((1 : Nat) : Int), .int .i64 ((j + 1 + 5 + q : Nat) : Int), .agg #[.int .i64 1, .int .i64 0, .int .i64 0, .int .i64 0, .slice (some ⟨gd, 0, none⟩) 64 dc]] wB.drew _ := hWr 1 (j + 1 + 5 + q) (by omega) (by omega) wB.drew (Keep.refl _ _).drew
        simp only [Int.natCast_add] at hW
        go_wp2_with (first
          | (go_at_call 13
             refine (hRk _).mono ?_
             clear hRk
             rintro e w' ⟨rfl, rfl⟩))
        refine wp_region_ht (fun w' => w'.cell? ⟨ow, 0, none⟩ = some (.int .i64 1) ∧ w'.cell? ⟨ow, 1, none⟩ = some (.int .i64 0) ∧ w'.cell? ⟨ow, 2, none⟩ = some (.int .i64 0) ∧ w'.cell? ⟨ow, 3, none⟩ = some (.int .i64 0) ∧ w'.cell? ⟨ow, 4, none⟩ = some (.slice (some ⟨gd, 0, none⟩) 64 dc)) 6 [(0, false), (1, false), (2, false), (5, false), (3, true), (4, false)]
          (by kernel_rfl) (by kernel_rfl) (fun _ _ d _ _ h => by cases d <;> exact h) (hop _ (Keep.refl _ _).drew) ?_
        simp only [PI]
        iterate 4 (refine wpT_held ?_ (by rfl) ?_ ?_; rotate_left; (focus (rintro W ⟨hW0, hW1, hW2, hW3, hW4⟩; go_simp; try with_reducible rfl)); simp only [Act.put, PU])
        refine wpT_loud (by rfl) (fun K hK => ?_)
        go_wp2_with (refine (hRq _).mono ?_; clear hRq; rintro e w' ⟨rfl, rfl⟩)
        refine hK _ _ ((hop _ (Keep.refl _ _).drew)) ?_
        clear hK K
        try simp only [Act.put, PU]
        iterate 1 (refine wpT_held ?_ (by rfl) ?_ ?_; rotate_left; (focus (rintro W ⟨hW0, hW1, hW2, hW3, hW4⟩; go_simp; try with_reducible rfl)); simp only [Act.put, PU])
        refine wpT_nil ?_
        go_wp2_with (first
          | (go_at_call 11
             refine hW.mono ?_
             clear hW
             rintro e w11 ⟨u, rfl, hu, hk11⟩
             replace hk11 : Keep [] wB w11 := (Keep.refl _ _).drew.trans0 hk11
             obtain ⟨UG, ug, rfl, _⟩ := own_form hu
             have hT := TakeR_win w11 _ r s d x Fs Fx B _ (hRep _ hk11) (hbs _ hk11) 1 0 0 0 64 (j + 1 + 5 + q) data UG ug (by simp only [hv]; exact Rd.of_own hu) (.inl ⟨rfl, by omega, rfl, rfl, rfl⟩) hdl (.inl (by omega)) (by omega) (by simp only [hsl]; omega))
          | (go_at_call 10
             refine hT.mono ?_
             clear hT
             rintro e w12 ⟨rfl, hk12⟩
             have hkT := hk11.trans0 hk12))
        have hT0 : Keep [] wB _ := hkT.drew
        refine wp_region_ht (WasAt t d s gS n0 n1 n2 n3 n4 n5 n6 n7 n8 n9) 36 [(0, false), (1, false), (2, false), (3, false), (4, false), (5, false), (6, false), (7, false), (8, false), (9, false), (10, false), (11, false), (12, false), (14, false), (13, true), (15, false), (16, false), (17, false), (18, false), (19, false), (20, false), (21, false), (23, false), (22, true), (24, false), (25, false), (26, false), (27, false), (29, false), (28, true), (30, false), (31, false), (32, false), (33, false), (35, false), (34, true)]
          (by kernel_rfl) (by kernel_rfl) (fun _ _ d _ _ h => by cases d <;> exact h) (hsC _ hT0) ?_
        simp only [PI]
        iterate 14 (refine wpT_held ?_ (by rfl) ?_ ?_; rotate_left; (focus (rintro W ⟨⟨hW0, hW1⟩, hW2, hW3, hW4, hW5, hW6, hW7, hW8, hW9, hWa, hWb⟩; go_simp; try with_reducible rfl)); simp only [Act.put, PU])
        refine wpT_loud (by rfl) (fun K hK => ?_)
        go_wp2_with (refine (hSa' _ hT0).mono ?_; clear hSa'; rintro e U1 ⟨rfl, hT1⟩)
        replace hT1 := hT0.trans0 hT1
        refine hK _ _ ((hsC _ hT1)) ?_
        clear hK K
        try simp only [Act.put, PU]
        iterate 8 (refine wpT_held ?_ (by rfl) ?_ ?_; rotate_left; (focus (rintro W ⟨⟨hW0, hW1⟩, hW2, hW3, hW4, hW5, hW6, hW7, hW8, hW9, hWa, hWb⟩; go_simp; try with_reducible rfl)); simp only [Act.put, PU])
        refine wpT_loud (by rfl) (fun K hK => ?_)
        go_wp2_with (refine (hAc' _ hT1).mono ?_; clear hAc'; rintro e w' ⟨rfl, rfl⟩)
        refine hK _ _ ((hsC _ hT1)) ?_
        clear hK K
        try simp only [Act.put, PU]
        iterate 5 (refine wpT_held ?_ (by rfl) ?_ ?_; rotate_left; (focus (rintro W ⟨⟨hW0, hW1⟩, hW2, hW3, hW4, hW5, hW6, hW7, hW8, hW9, hWa, hWb⟩; go_simp; try with_reducible rfl)); simp only [Act.put, PU])
        refine wpT_loud (by rfl) (fun K hK => ?_)
        go_wp2_with (refine (hNx' _ hT1).mono ?_; clear hNx'; rintro e w' ⟨rfl, rfl⟩)
        refine hK _ _ ((hsC _ hT1)) ?_
        clear hK K
        try simp only [Act.put, PU]
        iterate 5 (refine wpT_held ?_ (by rfl) ?_ ?_; rotate_left; (focus (rintro W ⟨⟨hW0, hW1⟩, hW2, hW3, hW4, hW5, hW6, hW7, hW8, hW9, hWa, hWb⟩; go_simp; try with_reducible rfl)); simp only [Act.put, PU])
        refine wpT_loud (by rfl) (fun K hK => ?_)
        go_wp2_with (refine (hWt' _ hT1).mono ?_; clear hWt'; rintro e U2 ⟨rfl, hT2⟩)
        replace hT2 := hT1.trans0 hT2
        refine hK _ _ ((hsC _ hT2)) ?_
        clear hK K
        try simp only [Act.put, PU]
        refine wpT_nil ?_
        go_wp2_with (refine (awake_any _).mono ?_; rintro e U3 ⟨rfl, hT3⟩)
        go_ret
        exact ⟨rfl, (hfinK _ hT2).trans0 hT3⟩
      · obtain ⟨q, hq, hql⟩ : ∃ q : Nat, by_ % 20 = (q : Int) ∧ q < 20 := ⟨(by_ % 20).toNat, by omega, by omega⟩
        have hRq : ∀ W, Calls Tryz.prog 13 #[.int .i64 by_, .int .i64 20] W fun e w' => e = .returned (.int .i64 (q : Nat)) ∧ W = w' := fun W => by rw [← hq]; exact Round_any by_ 20 W (by omega) (by omega)
        clear hq
        have hFl := Fill_any by_ wB.drew
        have hcB := fun W (hk : Keep [] wB W) => cfg_cells (hbcB.keep0 hk)
        go_wp2_with (first
          | (go_at_call 13
             refine (hRk _).mono ?_
             clear hRk
             rintro e w' ⟨rfl, rfl⟩))
        refine wp_region_ht (fun w' => w'.cell? ⟨w1.heap.size, 0, none⟩ = some (.int .i64 (B : Nat))) 9 [(0, false), (1, false), (2, false), (3, false), (6, false), (4, true), (5, false), (7, true), (8, false)]
          (by kernel_rfl) (by kernel_rfl) (fun _ _ d _ _ h => by cases d <;> exact h) (hcB _ (Keep.refl _ _).drew).1 ?_
        simp only [PI]
        iterate 5 (refine wpT_held ?_ (by rfl) ?_ ?_; rotate_left; (focus (intro W hW; go_simp; try with_reducible rfl)); simp only [Act.put, PU])
        refine wpT_loud (by rfl) (fun K hK => ?_)
        go_wp2_with (refine (hRq _).mono ?_; clear hRq; rintro e w' ⟨rfl, rfl⟩)
        refine hK _ _ ((hcB _ (Keep.refl _ _).drew).1) ?_
        clear hK K
        try simp only [Act.put, PU]
        iterate 1 (refine wpT_held ?_ (by rfl) ?_ ?_; rotate_left; (focus (intro W hW; go_simp; try with_reducible rfl)); simp only [Act.put, PU])
        refine wpT_loud (by rfl) (fun K hK => ?_)
        go_wp2_with (refine hFl.mono ?_; clear hFl; rintro e w10 ⟨u, rfl, hu, hk10⟩; obtain ⟨g2, c2', rfl, hc2⟩ := own_some hu (by omega))
        replace hk10 : Keep [] wB w10 := (Keep.refl _ _).drew.trans0 hk10
        refine hK _ _ ((hcB _ hk10).1) ?_
        clear hK K
        try simp only [Act.put, PU]
        iterate 1 (refine wpT_held ?_ (by rfl) ?_ ?_; rotate_left; (focus (intro W hW; go_simp; try with_reducible rfl)); simp only [Act.put, PU])
        refine wpT_nil ?_
        have hW : Calls Tryz.prog 11 #[.int .i64 ((1 : Nat) : Int), .int .i64 ((j + 1 + g : Nat) : Int), .agg #[.int .i64 1, .int .i64 ((B + q : Nat) : Int), .int .i64 0, .int .i64 0, .slice (some ⟨g2, 0, none⟩) 64 c2']] w10 _ := wire_ok 1 (j + 1 + g) 1 (B + q) 0 0 64 c2' (some ⟨g2, 0, none⟩) (fillOf by_) (by omega) hsq1 (.inl ⟨rfl, by omega, rfl, rfl, rfl⟩) w10 (Rd.of_own hu) hc2
        simp only [Int.natCast_add] at hW
        go_wp2_with (first
          | (go_at_call 11
             refine hW.mono ?_
             clear hW
             rintro e w11 ⟨u, rfl, hu, hk11⟩
             replace hk11 := hk10.trans0 hk11
             obtain ⟨UG, ug, rfl, _⟩ := own_form hu
             have hT := TakeR_strange w11 _ r s d x Fs Fx B _ (hRep _ hk11) 1 1 (B + q) 0 0 0 (j + 1 + g) (fillOf by_) UG 89 ug ⟨by omega, .inl ⟨rfl, by omega, by omega, rfl, rfl, rfl, by simp⟩⟩ (Rd.of_own hu) (fun UA m uc W hk => strangeR_yes W _ r s d x Fs Fx B _ (hRep _ (hk11.trans0 hk)) 1 1 (j + 1 + g) (B + q) 0 0 0 (by omega) (by omega) (by omega) UA m uc))
          | (go_at_call 10
             refine hT.mono ?_
             clear hT
             rintro e w12 ⟨rfl, hk12⟩
             have hkT := hk11.trans0 hk12))
        have hT0 : Keep [] wB _ := hkT.drew
        refine wp_region_ht (WasAt t d s gS n0 n1 n2 n3 n4 n5 n6 n7 n8 n9) 36 [(0, false), (1, false), (2, false), (3, false), (4, false), (5, false), (6, false), (7, false), (8, false), (9, false), (10, false), (11, false), (12, false), (14, false), (13, true), (15, false), (16, false), (17, false), (18, false), (19, false), (20, false), (21, false), (23, false), (22, true), (24, false), (25, false), (26, false), (27, false), (29, false), (28, true), (30, false), (31, false), (32, false), (33, false), (35, false), (34, true)]
          (by kernel_rfl) (by kernel_rfl) (fun _ _ d _ _ h => by cases d <;> exact h) (hsC _ hT0) ?_
        simp only [PI]
        iterate 14 (refine wpT_held ?_ (by rfl) ?_ ?_; rotate_left; (focus (rintro W ⟨⟨hW0, hW1⟩, hW2, hW3, hW4, hW5, hW6, hW7, hW8, hW9, hWa, hWb⟩; go_simp; try with_reducible rfl)); simp only [Act.put, PU])
        refine wpT_loud (by rfl) (fun K hK => ?_)
        go_wp2_with (refine (hSa' _ hT0).mono ?_; clear hSa'; rintro e U1 ⟨rfl, hT1⟩)
        replace hT1 := hT0.trans0 hT1
        refine hK _ _ ((hsC _ hT1)) ?_
        clear hK K
        try simp only [Act.put, PU]
        iterate 8 (refine wpT_held ?_ (by rfl) ?_ ?_; rotate_left; (focus (rintro W ⟨⟨hW0, hW1⟩, hW2, hW3, hW4, hW5, hW6, hW7, hW8, hW9, hWa, hWb⟩; go_simp; try with_reducible rfl)); simp only [Act.put, PU])
        refine wpT_loud (by rfl) (fun K hK => ?_)
        go_wp2_with (refine (hAc' _ hT1).mono ?_; clear hAc'; rintro e w' ⟨rfl, rfl⟩)
        refine hK _ _ ((hsC _ hT1)) ?_
        clear hK K
        try simp only [Act.put, PU]
        iterate 5 (refine wpT_held ?_ (by rfl) ?_ ?_; rotate_left; (focus (rintro W ⟨⟨hW0, hW1⟩, hW2, hW3, hW4, hW5, hW6, hW7, hW8, hW9, hWa, hWb⟩; go_simp; try with_reducible rfl)); simp only [Act.put, PU])
        refine wpT_loud (by rfl) (fun K hK => ?_)
        go_wp2_with (refine (hNx' _ hT1).mono ?_; clear hNx'; rintro e w' ⟨rfl, rfl⟩)
        refine hK _ _ ((hsC _ hT1)) ?_
        clear hK K
        try simp only [Act.put, PU]
        iterate 5 (refine wpT_held ?_ (by rfl) ?_ ?_; rotate_left; (focus (rintro W ⟨⟨hW0, hW1⟩, hW2, hW3, hW4, hW5, hW6, hW7, hW8, hW9, hWa, hWb⟩; go_simp; try with_reducible rfl)); simp only [Act.put, PU])
        refine wpT_loud (by rfl) (fun K hK => ?_)
        go_wp2_with (refine (hWt' _ hT1).mono ?_; clear hWt'; rintro e U2 ⟨rfl, hT2⟩)
        replace hT2 := hT1.trans0 hT2
        refine hK _ _ ((hsC _ hT2)) ?_
        clear hK K
        try simp only [Act.put, PU]
        refine wpT_nil ?_
        go_wp2_with (refine (awake_any _).mono ?_; rintro e U3 ⟨rfl, hT3⟩)
        go_ret
        exact ⟨rfl, (hfinK _ hT2).trans0 hT3⟩
      · obtain ⟨q, hq, hql⟩ : ∃ q : Nat, by_ % 20 = (q : Int) ∧ q < 20 := ⟨(by_ % 20).toNat, by omega, by omega⟩
        have hRq : ∀ W, Calls Tryz.prog 13 #[.int .i64 by_, .int .i64 20] W fun e w' => e = .returned (.int .i64 (q : Nat)) ∧ W = w' := fun W => by rw [← hq]; exact Round_any by_ 20 W (by omega) (by omega)
        clear hq
        have hcB := fun W (hk : Keep [] wB W) => cfg_cells (hbcB.keep0 hk)
        have hW : Calls Tryz.prog 11 #[.int .i64 ((1 : Nat) : Int), .int .i64 ((j + 1 + g : Nat) : Int), .agg #[.int .i64 2, .int .i64 ((B - 1 : Nat) : Int), .int .i64 ((2 + q : Nat) : Int), .int .i64 0, .slice none 0 0]] wB.drew _ := wire_ok 1 (j + 1 + g) 2 (B - 1) (2 + q) 0 0 0 none [] (by omega) hsq1 (.inr (.inl ⟨rfl, by omega, by omega, by omega, rfl, rfl⟩)) wB.drew (Rd.nil _ _) (by omega)
        rw [show ((B - 1 : Nat) : Int) = (B : Nat) - 1 by omega] at hW
        simp only [Int.natCast_add] at hW
        go_wp2_with (first
          | (go_at_call 13
             refine (hRk _).mono ?_
             clear hRk
             rintro e w' ⟨rfl, rfl⟩))
        refine wp_region_ht (fun w' => w'.cell? ⟨w1.heap.size, 0, none⟩ = some (.int .i64 (B : Nat))) 8 [(0, false), (1, false), (2, false), (3, false), (4, false), (5, true), (6, false), (7, false)]
          (by kernel_rfl) (by kernel_rfl) (fun _ _ d _ _ h => by cases d <;> exact h) (hcB _ (Keep.refl _ _).drew).1 ?_
        simp only [PI]
        iterate 5 (refine wpT_held ?_ (by rfl) ?_ ?_; rotate_left; (focus (intro W hW; go_simp; try with_reducible rfl)); simp only [Act.put, PU])
        refine wpT_loud (by rfl) (fun K hK => ?_)
        go_wp2_with (refine (hRq _).mono ?_; clear hRq; rintro e w' ⟨rfl, rfl⟩)
        refine hK _ _ ((hcB _ (Keep.refl _ _).drew).1) ?_
        clear hK K
        try simp only [Act.put, PU]
        iterate 2 (refine wpT_held ?_ (by rfl) ?_ ?_; rotate_left; (focus (intro W hW; go_simp; try with_reducible rfl)); simp only [Act.put, PU])
        refine wpT_nil ?_
        go_wp2_with (first
          | (go_at_call 11
             refine hW.mono ?_
             clear hW
             rintro e w11 ⟨u, rfl, hu, hk11⟩
             replace hk11 : Keep [] wB w11 := (Keep.refl _ _).drew.trans0 hk11
             obtain ⟨UG, ug, rfl, _⟩ := own_form hu
             have hT := TakeR_strange w11 _ r s d x Fs Fx B _ (hRep _ hk11) 2 1 (B - 1) (2 + q) 0 0 (j + 1 + g) [] UG 25 ug ⟨by omega, .inr (.inl ⟨rfl, by omega, by omega, by omega, rfl, rfl, rfl⟩)⟩ (Rd.of_own hu) (fun UA m uc W hk => strangeR_yes W _ r s d x Fs Fx B _ (hRep _ (hk11.trans0 hk)) 2 1 (j + 1 + g) (B - 1) (2 + q) 0 0 (by omega) (by omega) (by omega) UA m uc))
          | (go_at_call 10
             refine hT.mono ?_
             clear hT
             rintro e w12 ⟨rfl, hk12⟩
             have hkT := hk11.trans0 hk12))
        have hT0 : Keep [] wB _ := hkT.drew
        refine wp_region_ht (WasAt t d s gS n0 n1 n2 n3 n4 n5 n6 n7 n8 n9) 36 [(0, false), (1, false), (2, false), (3, false), (4, false), (5, false), (6, false), (7, false), (8, false), (9, false), (10, false), (11, false), (12, false), (14, false), (13, true), (15, false), (16, false), (17, false), (18, false), (19, false), (20, false), (21, false), (23, false), (22, true), (24, false), (25, false), (26, false), (27, false), (29, false), (28, true), (30, false), (31, false), (32, false), (33, false), (35, false), (34, true)]
          (by kernel_rfl) (by kernel_rfl) (fun _ _ d _ _ h => by cases d <;> exact h) (hsC _ hT0) ?_
        simp only [PI]
        iterate 14 (refine wpT_held ?_ (by rfl) ?_ ?_; rotate_left; (focus (rintro W ⟨⟨hW0, hW1⟩, hW2, hW3, hW4, hW5, hW6, hW7, hW8, hW9, hWa, hWb⟩; go_simp; try with_reducible rfl)); simp only [Act.put, PU])
        refine wpT_loud (by rfl) (fun K hK => ?_)
        go_wp2_with (refine (hSa' _ hT0).mono ?_; clear hSa'; rintro e U1 ⟨rfl, hT1⟩)
        replace hT1 := hT0.trans0 hT1
        refine hK _ _ ((hsC _ hT1)) ?_
        clear hK K
        try simp only [Act.put, PU]
        iterate 8 (refine wpT_held ?_ (by rfl) ?_ ?_; rotate_left; (focus (rintro W ⟨⟨hW0, hW1⟩, hW2, hW3, hW4, hW5, hW6, hW7, hW8, hW9, hWa, hWb⟩; go_simp; try with_reducible rfl)); simp only [Act.put, PU])
        refine wpT_loud (by rfl) (fun K hK => ?_)
        go_wp2_with (refine (hAc' _ hT1).mono ?_; clear hAc'; rintro e w' ⟨rfl, rfl⟩)
        refine hK _ _ ((hsC _ hT1)) ?_
        clear hK K
        try simp only [Act.put, PU]
        iterate 5 (refine wpT_held ?_ (by rfl) ?_ ?_; rotate_left; (focus (rintro W ⟨⟨hW0, hW1⟩, hW2, hW3, hW4, hW5, hW6, hW7, hW8, hW9, hWa, hWb⟩; go_simp; try with_reducible rfl)); simp only [Act.put, PU])
        refine wpT_loud (by rfl) (fun K hK => ?_)
        go_wp2_with (refine (hNx' _ hT1).mono ?_; clear hNx'; rintro e w' ⟨rfl, rfl⟩)
        refine hK _ _ ((hsC _ hT1)) ?_
        clear hK K
        try simp only [Act.put, PU]
        iterate 5 (refine wpT_held ?_ (by rfl) ?_ ?_; rotate_left; (focus (rintro W ⟨⟨hW0, hW1⟩, hW2, hW3, hW4, hW5, hW6, hW7, hW8, hW9, hWa, hWb⟩; go_simp; try with_reducible rfl)); simp only [Act.put, PU])
        refine wpT_loud (by rfl) (fun K hK => ?_)
        go_wp2_with (refine (hWt' _ hT1).mono ?_; clear hWt'; rintro e U2 ⟨rfl, hT2⟩)
        replace hT2 := hT1.trans0 hT2
        refine hK _ _ ((hsC _ hT2)) ?_
        clear hK K
        try simp only [Act.put, PU]
        refine wpT_nil ?_
        go_wp2_with (refine (awake_any _).mono ?_; rintro e U3 ⟨rfl, hT3⟩)
        go_ret
        exact ⟨rfl, (hfinK _ hT2).trans0 hT3⟩
      · have hW : Calls Tryz.prog 20 #[.agg #[.int .i64 8, .int .i64 ((1 : Nat) : Int), .int .i64 ((j + 1 + g : Nat) : Int), .int .i64 0, .int .i64 0, .int .i64 ((1 : Nat) : Int), .int .i64 ((1 : Nat) : Int), .slice none 0 0]] wB _ := FrameBytes_ack 1 (j + 1 + g) 1 1 (by omega) (by omega) (by omega) (by omega) wB
        simp only [Int.natCast_add] at hW
        go_wp2_with (first
          | (go_at_call 13
             refine (hRk _).mono ?_
             clear hRk
             rintro e w' ⟨rfl, rfl⟩)
          | (go_at_call 20
             refine hW.mono ?_
             clear hW
             rintro e w11 ⟨u, rfl, hu, hk11⟩
             obtain ⟨UG, ug, rfl, _⟩ := own_form hu
             have hT := TakeR_strange w11 _ r s d x Fs Fx B _ (hRep _ hk11) 8 1 0 0 1 1 (j + 1 + g) [] UG 25 ug (ack_may 1 (j + 1 + g) 1 1 (by omega) (by omega) (by omega) (by omega)) (Rd.of_own hu) (fun UA m uc W hk => strangeR_ack W r 1 (j + 1 + g) 0 0 1 1 UA m uc))
          | (go_at_call 10
             refine hT.mono ?_
             clear hT
             rintro e w12 ⟨rfl, hk12⟩
             have hkT := hk11.trans0 hk12))
        have hT0 : Keep [] wB _ := hkT.drew
        refine wp_region_ht (WasAt t d s gS n0 n1 n2 n3 n4 n5 n6 n7 n8 n9) 36 [(0, false), (1, false), (2, false), (3, false), (4, false), (5, false), (6, false), (7, false), (8, false), (9, false), (10, false), (11, false), (12, false), (14, false), (13, true), (15, false), (16, false), (17, false), (18, false), (19, false), (20, false), (21, false), (23, false), (22, true), (24, false), (25, false), (26, false), (27, false), (29, false), (28, true), (30, false), (31, false), (32, false), (33, false), (35, false), (34, true)]
          (by kernel_rfl) (by kernel_rfl) (fun _ _ d _ _ h => by cases d <;> exact h) (hsC _ hT0) ?_
        simp only [PI]
        iterate 14 (refine wpT_held ?_ (by rfl) ?_ ?_; rotate_left; (focus (rintro W ⟨⟨hW0, hW1⟩, hW2, hW3, hW4, hW5, hW6, hW7, hW8, hW9, hWa, hWb⟩; go_simp; try with_reducible rfl)); simp only [Act.put, PU])
        refine wpT_loud (by rfl) (fun K hK => ?_)
        go_wp2_with (refine (hSa' _ hT0).mono ?_; clear hSa'; rintro e U1 ⟨rfl, hT1⟩)
        replace hT1 := hT0.trans0 hT1
        refine hK _ _ ((hsC _ hT1)) ?_
        clear hK K
        try simp only [Act.put, PU]
        iterate 8 (refine wpT_held ?_ (by rfl) ?_ ?_; rotate_left; (focus (rintro W ⟨⟨hW0, hW1⟩, hW2, hW3, hW4, hW5, hW6, hW7, hW8, hW9, hWa, hWb⟩; go_simp; try with_reducible rfl)); simp only [Act.put, PU])
        refine wpT_loud (by rfl) (fun K hK => ?_)
        go_wp2_with (refine (hAc' _ hT1).mono ?_; clear hAc'; rintro e w' ⟨rfl, rfl⟩)
        refine hK _ _ ((hsC _ hT1)) ?_
        clear hK K
        try simp only [Act.put, PU]
        iterate 5 (refine wpT_held ?_ (by rfl) ?_ ?_; rotate_left; (focus (rintro W ⟨⟨hW0, hW1⟩, hW2, hW3, hW4, hW5, hW6, hW7, hW8, hW9, hWa, hWb⟩; go_simp; try with_reducible rfl)); simp only [Act.put, PU])
        refine wpT_loud (by rfl) (fun K hK => ?_)
        go_wp2_with (refine (hNx' _ hT1).mono ?_; clear hNx'; rintro e w' ⟨rfl, rfl⟩)
        refine hK _ _ ((hsC _ hT1)) ?_
        clear hK K
        try simp only [Act.put, PU]
        iterate 5 (refine wpT_held ?_ (by rfl) ?_ ?_; rotate_left; (focus (rintro W ⟨⟨hW0, hW1⟩, hW2, hW3, hW4, hW5, hW6, hW7, hW8, hW9, hWa, hWb⟩; go_simp; try with_reducible rfl)); simp only [Act.put, PU])
        refine wpT_loud (by rfl) (fun K hK => ?_)
        go_wp2_with (refine (hWt' _ hT1).mono ?_; clear hWt'; rintro e U2 ⟨rfl, hT2⟩)
        replace hT2 := hT1.trans0 hT2
        refine hK _ _ ((hsC _ hT2)) ?_
        clear hK K
        try simp only [Act.put, PU]
        refine wpT_nil ?_
        go_wp2_with (refine (awake_any _).mono ?_; rintro e U3 ⟨rfl, hT3⟩)
        go_ret
        exact ⟨rfl, (hfinK _ hT2).trans0 hT3⟩
      · obtain ⟨q, hq, hql⟩ : ∃ q : Nat, by_ % 89 = (q : Int) ∧ q < 89 := ⟨(by_ % 89).toNat, by omega, by omega⟩
        have hRq : ∀ W, Calls Tryz.prog 13 #[.int .i64 by_, .int .i64 89] W fun e w' => e = .returned (.int .i64 (q : Nat)) ∧ W = w' := fun W => by rw [← hq]; exact Round_any by_ 89 W (by omega) (by omega)
        clear hq
        obtain ⟨o0, o1, o2, o3, o4⟩ := hop _ (Keep.refl _ _)
        have hW : Calls Tryz.prog 11 #[.int .i64 ((1 : Nat) : Int), .int .i64 ((j + 1 + g : Nat) : Int), .agg #[.int .i64 1, .int .i64 0, .int .i64 0, .int .i64 0, .slice (some ⟨gd, 0, none⟩) 64 dc]] wB _ := hWr 1 (j + 1 + g) (by omega) hsq1 wB (Keep.refl _ _)
        simp only [Int.natCast_add] at hW
        go_wp2_with (first
          | (go_at_call 13
             first
             | (refine (hRk _).mono ?_
                clear hRk
                rintro e w' ⟨rfl, rfl⟩)
             | (refine (hRq _).mono ?_
                clear hRq
                rintro e w' ⟨rfl, rfl⟩))
          | (go_at_call 11
             refine hW.mono ?_
             clear hW
             rintro e w11 ⟨u, rfl, hu, hk11⟩
             obtain ⟨ge, ue, rfl, hue⟩ := own_some hu (by omega)
             have hql2 : q ≤ ue := by omega
             have hT := TakeR_bad r (some ⟨ge, 0, none⟩) q ue w11 (Decode_cut 1 (j + 1 + g) 0 data (by omega) (by omega) (by omega) hdl q hql (some ⟨ge, 0, none⟩) ue ue w11 (Rd.of_own hu)))
          | (go_at_call 10
             refine hT.mono ?_
             clear hT
             rintro e w12 ⟨rfl, hk12⟩
             have hkT := hk11.trans0 hk12))
        have hT0 : Keep [] wB _ := hkT.drew
        refine wp_region_ht (WasAt t d s gS n0 n1 n2 n3 n4 n5 n6 n7 n8 n9) 36 [(0, false), (1, false), (2, false), (3, false), (4, false), (5, false), (6, false), (7, false), (8, false), (9, false), (10, false), (11, false), (12, false), (14, false), (13, true), (15, false), (16, false), (17, false), (18, false), (19, false), (20, false), (21, false), (23, false), (22, true), (24, false), (25, false), (26, false), (27, false), (29, false), (28, true), (30, false), (31, false), (32, false), (33, false), (35, false), (34, true)]
          (by kernel_rfl) (by kernel_rfl) (fun _ _ d _ _ h => by cases d <;> exact h) (hsC _ hT0) ?_
        simp only [PI]
        iterate 14 (refine wpT_held ?_ (by rfl) ?_ ?_; rotate_left; (focus (rintro W ⟨⟨hW0, hW1⟩, hW2, hW3, hW4, hW5, hW6, hW7, hW8, hW9, hWa, hWb⟩; go_simp; try with_reducible rfl)); simp only [Act.put, PU])
        refine wpT_loud (by rfl) (fun K hK => ?_)
        go_wp2_with (refine (hSa' _ hT0).mono ?_; clear hSa'; rintro e U1 ⟨rfl, hT1⟩)
        replace hT1 := hT0.trans0 hT1
        refine hK _ _ ((hsC _ hT1)) ?_
        clear hK K
        try simp only [Act.put, PU]
        iterate 8 (refine wpT_held ?_ (by rfl) ?_ ?_; rotate_left; (focus (rintro W ⟨⟨hW0, hW1⟩, hW2, hW3, hW4, hW5, hW6, hW7, hW8, hW9, hWa, hWb⟩; go_simp; try with_reducible rfl)); simp only [Act.put, PU])
        refine wpT_loud (by rfl) (fun K hK => ?_)
        go_wp2_with (refine (hAc' _ hT1).mono ?_; clear hAc'; rintro e w' ⟨rfl, rfl⟩)
        refine hK _ _ ((hsC _ hT1)) ?_
        clear hK K
        try simp only [Act.put, PU]
        iterate 5 (refine wpT_held ?_ (by rfl) ?_ ?_; rotate_left; (focus (rintro W ⟨⟨hW0, hW1⟩, hW2, hW3, hW4, hW5, hW6, hW7, hW8, hW9, hWa, hWb⟩; go_simp; try with_reducible rfl)); simp only [Act.put, PU])
        refine wpT_loud (by rfl) (fun K hK => ?_)
        go_wp2_with (refine (hNx' _ hT1).mono ?_; clear hNx'; rintro e w' ⟨rfl, rfl⟩)
        refine hK _ _ ((hsC _ hT1)) ?_
        clear hK K
        try simp only [Act.put, PU]
        iterate 5 (refine wpT_held ?_ (by rfl) ?_ ?_; rotate_left; (focus (rintro W ⟨⟨hW0, hW1⟩, hW2, hW3, hW4, hW5, hW6, hW7, hW8, hW9, hWa, hWb⟩; go_simp; try with_reducible rfl)); simp only [Act.put, PU])
        refine wpT_loud (by rfl) (fun K hK => ?_)
        go_wp2_with (refine (hWt' _ hT1).mono ?_; clear hWt'; rintro e U2 ⟨rfl, hT2⟩)
        replace hT2 := hT1.trans0 hT2
        refine hK _ _ ((hsC _ hT2)) ?_
        clear hK K
        try simp only [Act.put, PU]
        refine wpT_nil ?_
        go_wp2_with (refine (awake_any _).mono ?_; rintro e U3 ⟨rfl, hT3⟩)
        go_ret
        exact ⟨rfl, (hfinK _ hT2).trans0 hT3⟩
end
end Go.Proofs.YtglbkndbbhamcaaGreat
