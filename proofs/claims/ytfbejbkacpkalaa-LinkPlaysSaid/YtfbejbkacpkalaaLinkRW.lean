/-
  LinkRoom: the walk.
-/
import Derived.Test.YtfbejbkacpkalaaLinkB
import Derived.Test.YtfbejbkacpkalaaLinkOW
namespace Go.Proofs.Ytfbejbkacpkalaa
open Go.RowKit

/-- the rows that the laws build -/
def rowsUp (X : Int) (m : Nat) : List (List UInt8) := (List.range m).map fun i => rowOf (X + (i : Nat))
theorem rowsUp_succ (X : Int) (m : Nat) : rowsUp X (m + 1) = rowsUp X m ++ [rowOf (X + (m : Nat))] := by simp [rowsUp, List.range_succ]
@[simp] theorem length_rowsUp (X : Int) (m : Nat) : (rowsUp X m).length = m := by simp [rowsUp]
theorem rowOf_small (x : Int) : (rowOf x).length ≤ 140737488355328 := by simp [rowOf]; omega

theorem cond_min (k : Nat) (h : (64 : Int) ≤ (k : Int)) : min ((k : Nat) : Int) 64 = 64 := by omega

set_option maxHeartbeats 4000000 in
set_option maxRecDepth 100000 in
theorem room_walk (n x at_ : Int) (w : World) :
    Calls Try.prog 4 #[.int .i64 n, .int .i64 x, .int .i64 at_] w fun e w' => e = .returned (.bool true) ∧ Keep [] w w' := by
  obtain ⟨k, hk, hk130⟩ : ∃ k : Nat, n % 130 = (k : Int) ∧ k < 130 := ⟨(n % 130).toNat, by omega, by omega⟩
  have HR : Calls Try.prog 8 #[.int .i64 n, .int .i64 130] w fun e w' => e = .returned (.int .i64 (k : Nat)) ∧ w = w' := by
    rw [← hk]; exact Round_any _ _ _ (by omega) (by omega)
  obtain ⟨X, hX, hX0, hX1⟩ : ∃ X : Int, x % 100000 = X ∧ 0 ≤ X ∧ X < 100000 := ⟨_, rfl, by omega, by omega⟩
  have HX : ∀ W : World, Calls Try.prog 8 #[.int .i64 x, .int .i64 100000] W fun e w' => e = .returned (.int .i64 X) ∧ W = w' := fun W => by
    rw [← hX]; exact Round_any _ _ _ (by omega) (by omega)
  clear hk hX
  go_enter Try.func4, Try.ntmps4
  go_wp2_with (refine HR.mono ?_; clear HR; rintro e w' ⟨rfl, rfl⟩)
  go_wp2_with (refine (New_own _).mono ?_; rintro e w1 ⟨b, rfl, hL1⟩)
  have hF : ∀ y ∈ Lk.fp b (.slice none 0 0) [], y < w1.heap.size := hL1.lk.fp_lt
  go_loopw [9, 10] (fun v i wr => ∃ m fs, m ≤ k ∧ i = .int .i64 (m : Nat) ∧ Hold wr w1.heap.size (Lk.fp b (.slice none 0 0) []) v fs ∧ Hid (fs.length = m) ∧ Hid (fs.map (·.2) = rowsUp X m) ∧ Keep [] w1 wr) (fun _ i _ => k - (intOf i).toNat)
  case atStart => exact ⟨0, [], Nat.zero_le _, rfl, Hold.nil _ _ _, rfl, rfl, Keep.refl _ _⟩
  case round =>
    obtain ⟨m, fs, hm, rfl, hH, hl, hmap, hkw⟩ := hrel
    have hsz := hkw.size
    by_cases hlt : m < k
    · have hT := HX wr
      go_wp2_with (refine hT.mono ?_; clear hT; rintro e w' ⟨rfl, rfl⟩)
      have hT := row_any (X + (m : Nat)) wr
      go_wp2_with (first
        | (at_builtin; refine elemRows.wp_app rfl _ _ rfl w1.heap.size _ fs.length (fs.map (·.1)) rfl (own_alloc (own_keep0 hH.row hk2) _) _ 1 1 [_] rfl (rd_new1 _ _ _) (by simp [Value.oneCell']) (by have := unhide hl; omega) (by have := unhide hl; omega) (by have := hk2.size; simp; omega) ?_)
        | (refine hT.mono ?_; clear hT; rintro e w2 ⟨u, rfl, hu, hk2⟩; obtain ⟨UA, uc, rfl, _⟩ := own_form hu))
      intro v' w3 hv' hk3 hat _
      have hP := hH.push hF hsz hk2 hu (rowOf_small _) hk3 hv'
      obtain ⟨VA, vc, rfl, _⟩ := own_form hv'
      have hkw3 := (hkw.trans0 hk2).one_more (own_keep0 hH.row hk2) (Nat.le_refl _) hk3
      clear hk3 hu hH
      go_wp2
      go_roundw
      case rel => exact ⟨m + 1, _, by omega, by go_num, hP.1, by show _ = _; rw [List.length_append, unhide hl]; rfl, by show _ = _; rw [List.map_append, unhide hmap, rowsUp_succ]; rfl, hkw3⟩
      case measure => simp [intOf]; omega
    · obtain rfl : k = m := by omega
      have hL2 := hL1.keep0 hkw
      obtain ⟨FA, fc, hv, hfc, hfc63, _⟩ := own_form hH.row
      rw [unhide hl] at hv
      have hS := Send_grow w wr b _ _ hL2 FA k fc fs (by have := hH.rws (by rw [unhide hl]; exact hv); rwa [unhide hl] at this) (fun p e => hH.off_b _ (by rw [hv, e]; simp [Value.ownBlock])) hH.offs_b (by omega)
      have hfck : k ≤ fc := by have := unhide hl; omega
      subst hv
      by_cases hfull : k < 64
      · have hmin : min ((k : Nat) : Int) 64 = (k : Nat) := by omega
        go_wp2_with (refine hS.mono ?_; clear hS; rintro e w2 ⟨v2, l2, rfl, hL3, hm2, hk2, hg2⟩; have hm3 : l2.map (·.2) = rowsUp X k := (by rw [hm2, unhide hmap]; exact List.take_of_length_le (by simp; omega)); have hll : l2.length = k := (by have := congrArg List.length hm3; simpa using this); rw [hll]; have hT := Len_any w2 b v2 l2 hL3.lk; rw [hll] at hT; have hTA := all_any w2 b v2 l2 hL3.lk; have HL := hide hll; clear hll)
        go_wp2_with (refine hT.mono ?_; clear hT; rintro e w' ⟨rfl, rfl⟩)
        go_wp2_with (refine hTA.mono ?_; clear hTA; rintro e w3 ⟨TA, tn, tc, ls3, rfl, hR3, hm4, hk3⟩)
        have hHw := (hH.turn hk2 fp_bv hg2).keep0 hk3
        have hRf := hHw.rws (A := FA) (c := fc) (by rw [unhide hl])
        rw [unhide hl] at hRf
        have hTB := Blocks_k TA FA tn k tc fc ls3 fs w3 hR3 hRf (by have := hR3.len; have := congrArg List.length hm4; have := unhide HL; simp at *; omega) (by omega) (by rw [hm4, hm3, unhide hmap])
        go_wp2_with (refine hTB.mono ?_; clear hTB; rintro e w4 ⟨rfl, hk4⟩)
        go_wp2_with (refine (awake_any _).mono ?_; rintro e w5 ⟨rfl, hk5⟩)
        go_ret
        exact ⟨rfl, ((hL3.keep.trans0 hk3).trans0 hk4).trans0 hk5⟩
      · have h64 : (64 : Int) < ((k : Nat) : Int) ∨ ((k : Nat) : Int) = 64 := by omega
        have hk64 : 64 ≤ k := by omega
        rcases h64 with h64 | h64
        all_goals
          obtain ⟨i, hi, hi64⟩ : ∃ i : Nat, at_ % 64 = (i : Int) ∧ i < 64 := ⟨(at_ % 64).toNat, by omega, by omega⟩
          have HI : ∀ W : World, Calls Try.prog 8 #[.int .i64 at_, .int .i64 64] W fun e w' => e = .returned (.int .i64 (i : Nat)) ∧ W = w' := fun W => by
            rw [← hi]; exact Round_any _ _ _ (by omega) (by omega)
          clear hi
          go_wp2_with (refine hS.mono ?_; clear hS; rintro e w2 ⟨v2, l2, rfl, hL3, hm2, hk2, hg2⟩; have hm3 : l2.map (·.2) = (rowsUp X k).take 64 := (by rw [hm2, unhide hmap]; rfl); have hll : l2.length = 64 := (by have := congrArg List.length hm3; simp at this; omega); rw [hll]; have hT := Len_any w2 b v2 l2 hL3.lk; rw [hll] at hT; have hTA := all_any w2 b v2 l2 hL3.lk; have HL := hide hll; clear hll)
          go_wp2_with (refine hT.mono ?_; clear hT; rintro e w' ⟨rfl, rfl⟩)
          go_wp2_with (refine hTA.mono ?_; clear hTA; rintro e w3 ⟨TA, tn, tc, ls3, rfl, hR3, hm4, hk3⟩)
          have hHw := (hH.turn hk2 fp_bv hg2).keep0 hk3
          have hRf := hHw.rws (A := FA) (c := fc) (by rw [unhide hl])
          rw [unhide hl] at hRf
          have hTB := Blocks_k TA FA tn 64 tc fc ls3 (fs.take 64) w3 hR3 (hRf.take (by omega)) (by have := hR3.len; have := congrArg List.length hm4; have := unhide HL; simp at *; omega) (by omega) (by rw [hm4, hm3, List.map_take, unhide hmap])
          go_wp2_with (refine hTB.mono ?_; clear hTB; rintro e w4 ⟨rfl, hk4⟩)
          go_wp2_with (refine (HI _).mono ?_; clear HI; rintro e w' ⟨rfl, rfl⟩)
          have hL4 := (hL3.keep0 hk3).keep0 hk4
          have hH4 := hHw.keep0 hk4
          have hT := Double_full w4 b v2 l2 hL4.lk (i : Nat) (unhide HL)
          go_wp2_with (refine hT.mono ?_; clear hT; rintro e w' ⟨rfl, rfl⟩)
          have hT := Send_full w w4 b v2 l2 hL4 1 1 rfl (unhide HL)
          go_wp2_with (refine hT.mono ?_; clear hT; rintro e w5 ⟨v5, l5, rfl, hL5, hl5, hm5, hk5, hg5⟩)
          have hH5 := hH4.turn hk5 fp_bv hg5
          obtain ⟨u, bs, hub⟩ : ∃ u bs, l5[i]'(by omega) = (u, bs) := ⟨_, _, rfl⟩
          have hbs : bs = rowOf (X + (i : Nat)) := by
            have h1 : (l5.map (·.2))[i]'(by simp; omega) = bs := by rw [List.getElem_map, hub]
            rw [← h1]
            simp only [hm5, hm3]
            simp [rowsUp]
          have hT := Take_sub w w5 b v5 l5 hL5 (i : Nat) i u bs rfl (by omega) hub
          go_wp2_with (
              (refine hT.mono ?_)
              (clear hT)
              (rintro e w6 ⟨v6, rfl, hL6, hk6, ho6, hs6⟩)
              have hH6 := hH5.turn hk6 fp_bv (Grow.of_sub hs6)
              have hif : i < fs.length := by have := unhide hl; omega
              have hfi : fs[i].2 = bs := by
                have h1 : (fs.map (·.2))[i]'(by simpa using hif) = fs[i].2 := List.getElem_map _
                rw [hbs, ← h1]
                simp only [unhide hmap]
                simp [rowsUp]
              obtain ⟨g, rfl, hcg, hbg⟩ := hH6.cell hif
              rw [hfi] at hbg
              generalize fs[i].1 = pv at hcg hbg
              obtain ⟨PA, pn, pc, rfl, hpc, hpn, hpr⟩ := hbg
              have hub6 : Bts w6 u bs := Bts.of_own ho6 (by rw [hbs]; exact rowOf_small _)
              have hT := Bytes_k u _ bs bs w6 hub6 ⟨PA, pn, pc, rfl, hpc, hpn, hpr⟩
              rw [decide_eq_true rfl] at hT
              have hik : i < k := by omega
              clear hbs hfi hpr hL5 hH5)
          go_wp2_with (refine hT.mono ?_; clear hT; rintro e w7 ⟨rfl, hk7⟩)
          have hL7 := hL6.keep0 hk7
          have hl7 : (l5.eraseIdx i).length = 63 := by rw [List.length_eraseIdx]; simp [hl5, hi64]
          have hT := Len_any w7 b v6 _ hL7.lk
          rw [hl7] at hT
          go_wp2_with (refine hT.mono ?_; clear hT; rintro e w' ⟨rfl, rfl⟩)
          have hT := Send_byte w w7 b v6 _ hL7 1 1 rfl 63 hl7 (by omega)
          go_wp2_with (refine hT.mono ?_; clear hT; rintro e w8 ⟨v8, l8, rfl, hL8, _, _⟩)
          go_wp2_with (refine (awake_any _).mono ?_; rintro e w9 ⟨rfl, hk9⟩)
          go_ret
          exact ⟨rfl, hL8.keep.trans0 hk9⟩
end Go.Proofs.Ytfbejbkacpkalaa
