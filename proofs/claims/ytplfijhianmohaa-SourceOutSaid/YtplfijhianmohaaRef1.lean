/-
  Contracts of keelsonref1's small functions (Within, Mod, Equal, Part) and keelsonalike's Round, Bytes, Blocks; slices.Clone.
-/
import Derived.Test.YtplfijhianmohaaBase
namespace Go.Proofs.Ytplfijhianmohaa
open Go.RowKit

set_option maxHeartbeats 400000 in
theorem Within_any (n low high : Int) (w : World) :
    Calls Try.prog 63 #[.int .i64 n, .int .i64 low, .int .i64 high] w fun e w' => e = .returned (.bool (decide (low ≤ n ∧ n ≤ high))) ∧ w = w' := by
  by_cases h1 : low ≤ n
  · by_cases h2 : n ≤ high
    all_goals
      go_enter Try.func63, Try.ntmps63
      go_wp2
      go_ret
      exact ⟨by simp [h1, h2], rfl⟩
  · go_enter Try.func63, Try.ntmps63
    go_wp2
    go_ret
    exact ⟨by simp; omega, rfl⟩

theorem tmod_mod (n m : Int) (hm : 0 < m) : n % m = if n.tmod m < 0 then n.tmod m + m else n.tmod m := by
  have h1 := Int.tmod_lt_of_pos n hm
  have h2 : -m < n.tmod m := by
    have := Int.tmod_lt_of_pos (-n) hm
    rw [Int.neg_tmod] at this; omega
  have h3 := Int.mul_tdiv_add_tmod n m
  have key : ∀ r : Int, 0 ≤ r → r < m → (∃ q, m * q + r = n) → n % m = r := by
    intro r hr0 hr1 ⟨q, hq⟩
    rw [← hq, Int.add_comm, Int.add_mul_emod_self_left, Int.emod_eq_of_lt hr0 hr1]
  split
  · refine key _ (by omega) (by omega) ⟨n.tdiv m - 1, ?_⟩
    rw [Int.mul_sub]; omega
  · exact key _ (by omega) (by omega) ⟨n.tdiv m, by omega⟩

set_option maxHeartbeats 400000 in
theorem Mod_any (n m : Int) (w : World) (hm : 0 < m) (hm' : m ≤ 9223372036854775807) :
    Calls Try.prog 30 #[.int .i64 n, .int .i64 m] w fun e w' => e = .returned (.int .i64 (n % m)) ∧ w = w' := by
  have k := tmod_mod n m hm
  have h1 := Int.tmod_lt_of_pos n hm
  have h2 : -m < n.tmod m := by
    have := Int.tmod_lt_of_pos (-n) hm
    rw [Int.neg_tmod] at this; omega
  have K := hide k
  clear k
  go_enter Try.func30, Try.ntmps30
  go_wp2
  · have h3 : n.tmod m < 0 := by assumption
    go_ret
    refine ⟨ret_int ?_, rfl⟩
    rw [unhide K, if_pos h3]
  · have h3 : 0 ≤ n.tmod m := by assumption
    go_ret
    refine ⟨ret_int ?_, rfl⟩
    rw [unhide K, if_neg (by omega)]

set_option maxHeartbeats 400000 in
theorem Round_any (n m : Int) (w : World) (hm : 0 < m) (hm' : m ≤ 9223372036854775807) :
    Calls Try.prog 10 #[.int .i64 n, .int .i64 m] w fun e w' => e = .returned (.int .i64 (n % m)) ∧ w = w' := by
  go_enter Try.func10, Try.ntmps10
  go_wp2_with (go_at_call 30; refine (Mod_any _ _ _ hm hm').mono ?_; rintro e w' ⟨rfl, rfl⟩)
  go_ret
  exact ⟨rfl, rfl⟩

set_option maxHeartbeats 400000 in
theorem Equal_any (A B : Option Addr) (n m c d : Nat) (xs ys : List UInt8) (w : World) (ha : Rd w A n (bys xs)) (hb : Rd w B m (bys ys)) (hn : n ≤ 9223372036854775807) (hm : m ≤ 9223372036854775807) :
    Calls Try.prog 58 #[.slice A n c, .slice B m d] w fun e w' => e = .returned (.bool (decide (xs = ys))) ∧ ∃ k, w.drewN k = w' := by
  have hxn : xs.length = n := by simpa using ha.1
  have hym : ys.length = m := by simpa using hb.1
  by_cases hnm : n = m
  · subst hnm
    have HX := hide hxn
    have HY := hide hym
    clear hxn hym
    go_enter Try.func58, Try.ntmps58
    go_wp2
    go_loopw [5] (fun i wr => ∃ k : Nat, k ≤ n ∧ i = .int .i64 k ∧ Hid (xs.take k = ys.take k) ∧ ∃ t, wr = w.drewN t) (fun i _ => n - (intOf i).toNat)
    case atStart => exact ⟨0, Nat.zero_le _, rfl, by simp [Hid], 0, rfl⟩
    case round =>
      obtain ⟨k, hk, rfl, hpre, t, rfl⟩ := hrel
      by_cases hlt : k < n
      · obtain ⟨b1, o1, u1, rfl, hx1, _, hc1⟩ := ha.at_ hlt
        obtain ⟨b2, o2, u2, rfl, hx2, _, hc2⟩ := hb.at_ hlt
        have hxk : k < xs.length := by rw [unhide HX]; exact hlt
        have hyk : k < ys.length := by rw [unhide HY]; exact hlt
        rw [bys_get _ _ hxk] at hx1
        rw [bys_get _ _ hyk] at hx2
        obtain ⟨cx, hcx⟩ : ∃ c, c = xs[k] := ⟨_, rfl⟩
        obtain ⟨cy, hcy⟩ : ∃ c, c = ys[k] := ⟨_, rfl⟩
        rw [← hcx] at hx1
        rw [← hcy] at hx2
        obtain rfl : by8 cx = u1 := by simpa using hx1
        obtain rfl : by8 cy = u2 := by simpa using hx2
        clear hx1 hx2
        have H1 := hide hcx
        have H2 := hide hcy
        clear hcx hcy
        unfold by8 at hc1 hc2
        by_cases hcc : cx = cy
        · subst hcc
          go_wp2
          go_quiet (fail)
          go_wp2
          go_roundw
          case rel =>
            refine ⟨k + 1, by omega, by go_num, ?_, _, rfl⟩
            show xs.take (k + 1) = ys.take (k + 1)
            rw [List.take_succ_eq_append_getElem hxk, List.take_succ_eq_append_getElem hyk, unhide hpre, ← unhide H1, ← unhide H2]
          case measure => simp [intOf]; omega
        · have hne : ((cx.toNat : Int) == (cy.toNat : Int)) = false := by
            rw [beq_eq_false_iff_ne]; intro e; exact hcc (UInt8.toNat_inj.1 (by omega))
          have hne' : ((cx.toNat : Int) != (cy.toNat : Int)) = true := by
            rw [bne, hne]; rfl
          go_wp2
          go_quiet (fail)
          go_wp2
          go_ret
          refine ⟨ret_bool ?_, ex_drewN _ _ _⟩
          symm
          rw [decide_eq_false_iff_not]
          intro e
          apply hcc
          rw [unhide H1, unhide H2]
          simp [e]
      · have : k = n := by omega
        subst this
        go_wp2
        go_ret
        refine ⟨ret_bool ?_, _, rfl⟩
        symm
        rw [decide_eq_true_eq]
        have h := unhide hpre
        have h1 := unhide HX
        have h2 := unhide HY
        rw [List.take_of_length_le (by omega), List.take_of_length_le (by omega)] at h
        exact h
  · have hne : ((n : Int) != (m : Int)) = true := by simp; omega
    go_enter Try.func58, Try.ntmps58
    go_wp2
    go_ret
    refine ⟨ret_bool ?_, 0, rfl⟩
    symm
    rw [decide_eq_false_iff_not]
    rintro rfl
    omega

set_option maxHeartbeats 400000 in
theorem Bytes_any (A B : Option Addr) (n m c d : Nat) (xs ys : List UInt8) (w : World) (ha : Rd w A n (bys xs)) (hb : Rd w B m (bys ys)) (hn : n ≤ 9223372036854775807) (hm : m ≤ 9223372036854775807) :
    Calls Try.prog 38 #[.slice A n c, .slice B m d] w fun e w' => e = .returned (.bool (decide (xs = ys))) ∧ ∃ k, w.drewN k = w' := by
  go_enter Try.func38, Try.ntmps38
  go_wp2_with (go_at_call 58; refine (Equal_any A B n m c d xs ys _ ha hb hn hm).mono ?_; rintro e w' ⟨rfl, k, rfl⟩)
  go_ret
  exact ⟨rfl, _, rfl⟩
end Go.Proofs.Ytplfijhianmohaa
