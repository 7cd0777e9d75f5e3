/-
  SourceRefuses: the walk.
-/
import Derived.Test.YtplfijhianmohaaSLaw
import Derived.Test.YtplfijhianmohaaSIn
namespace Go.Proofs.Ytplfijhianmohaa
open Go.RowKit

theorem outRows_le (view acked size : Nat) : ∀ (n : Nat) (l : List POp), (outRows view acked size n l).length ≤ l.length
  | _, [] => by simp [outRows]
  | n, o :: l => by
    have := outRows_le view acked size (n + 1) l
    simp only [outRows, List.length_append, List.length_cons]
    split <;> simp <;> omega

set_option maxHeartbeats 8000000 in
set_option maxRecDepth 100000 in
theorem srefuses_walk (A : Option Addr) (len cap : Nat) (zs : List Int) (seq bit view : Int) (w : World) (hz : Rd w A len (ints zs)) (hlc : len ≤ 9223372036854775807) :
    Calls Try.prog 5 #[.slice A len cap, .int .i64 seq, .int .i64 bit, .int .i64 view] w fun e w' => e = .returned (.bool true) ∧ Keep [] w w' := by
  by_cases hlen : len ≤ 60
  rotate_left
  · have hA := awake_any w
    go_enter Try.func5, Try.ntmps5
    go_wp2_with (refine hA.mono ?_; clear hA; rintro e w1 ⟨rfl, hk1⟩)
    go_ret
    exact ⟨rfl, hk1⟩
  obtain ⟨n, hn, hnl⟩ : ∃ n : Nat, seq % ((len : Nat) + 1) = (n : Int) ∧ n ≤ len := by
    have h1 := Int.emod_nonneg seq (show ((len : Nat) : Int) + 1 ≠ 0 by omega)
    have h2 := Int.emod_lt_of_pos seq (show (0 : Int) < ((len : Nat) : Int) + 1 by omega)
    exact ⟨(seq % ((len : Nat) + 1)).toNat, by omega, by omega⟩
  have HR : ∀ W, Calls Try.prog 10 #[.int .i64 seq, .int .i64 ((len : Nat) + 1)] W fun e w' => e = .returned (.int .i64 (n : Nat)) ∧ W = w' := by
    intro W; rw [← hn]; exact Round_any _ _ _ (by omega) (by omega)
  clear hn
  obtain ⟨v0, hv0, hv20⟩ : ∃ n : Nat, view % 20 = (n : Int) ∧ n < 20 := ⟨(view % 20).toNat, by omega, by omega⟩
  have HV : ∀ W, Calls Try.prog 10 #[.int .i64 view, .int .i64 20] W fun e w' => e = .returned (.int .i64 (v0 : Nat)) ∧ W = w' := by
    intro W; rw [← hv0]; exact Round_any _ _ _ (by omega) (by omega)
  clear hv0
  obtain ⟨b9, hb9, hb99⟩ : ∃ n : Nat, bit % 9 = (n : Int) ∧ n < 9 := ⟨(bit % 9).toNat, by omega, by omega⟩
  have HB : ∀ W, Calls Try.prog 10 #[.int .i64 bit, .int .i64 9] W fun e w' => e = .returned (.int .i64 (b9 : Nat)) ∧ W = w' := by
    intro W; rw [← hb9]; exact Round_any _ _ _ (by omega) (by omega)
  clear hb9
  have hf200 : (bit % (8 * (25 : Nat))).toNat < 200 := by omega
  obtain ⟨f, hf⟩ : ∃ f, f = (bit % (8 * (25 : Nat))).toNat := ⟨_, rfl⟩
  rw [← hf] at hf200
  have HF := hide hf
  clear hf
  have H1 := NewS_yes 7 4 (by omega) (by omega) w
  go_enter Try.func5, Try.ntmps5
  go_wp2_with (first
    | (refine H1.mono ?_
       clear H1
       rintro e w1 ⟨s, rfl, hS⟩
       have hT := said_any w w1 s 7 4 (by omega) hS A len cap zs hz hlen)
    | (refine hT.mono ?_
       clear hT
       rintro e w2 ⟨OA, oc, L, os, oz, rfl, hS2, hos, _, hO⟩
       have hE := saidUp_ep zs len
       generalize (saidUp zs len).2 = ep at hE hS2
       have hR := HR w2)
    | (refine hR.mono ?_
       clear hR HR
       rintro e w' ⟨rfl, rfl⟩
       have hA1 := ack_any 7 n 0 n (by omega) (by omega) (by omega) (by omega) w2)
    | (refine hA1.mono ?_
       clear hA1
       rintro e w3 ⟨y, rfl, hy, hk3⟩
       obtain ⟨YA, yc, rfl, _⟩ := own_form hy
       have hT := Take_ok decodeWord w w3 s 7 4 ep len 0 0 L os (hS2.keep0 hk3) YA yc n 0 n (Rd.of_own hy) (by omega) (by omega) (by omega) (by omega))
    | (refine hT.mono ?_
       clear hT
       rintro e w4 ⟨L', rfl, hS4, _, _⟩
       have hS4' : Src w w4 s 7 4 ep len n n L' (os.drop n) := by
         have e1 : max (max 0 n) n = n := by omega
         have e2 : max 0 n = n := by omega
         rw [e1, e2, Nat.sub_zero] at hS4
         exact hS4
       clear hS4
       have hmay : ∀ i o, ((os.drop n).map (·.2))[i]? = some o → FrMay o.k (7 : Nat) ((n + 1 + i : Nat) : Int) o.b o.c o.e 0 o.d ∧ o.k ≠ 8 ∧ o.k ≠ 9 := by
         intro i o ho
         rw [List.map_drop, hos] at ho
         exact saidUp_may zs len 7 hlen (by omega) n i o ho
       have hol : (os.drop n).length ≤ 500 := by
         have := congrArg List.length hos
         rw [List.length_map, saidUp_len] at this
         rw [List.length_drop]
         omega
       generalize os.drop n = os4 at *
       have HM := hide hmay
       clear hmay
       have hO1 := Out_any w w4 s 7 4 ep len n n L' os4 hS4' hol (by omega) (by omega) (unhide HM))
    | (refine hO1.mono ?_
       clear hO1
       rintro e w5 ⟨A1, m1, c1, us1, rfl, hr1, hb1, hu1, hk5⟩))
  have hS5 := hS4'.keep0 hk5
  clear hS4' hS hS2 hy hk3 hO hos
  rcases Nat.lt_or_ge v0 6 with h6 | h6
  all_goals
    refine (HV _).mono ?_
    clear HV
    rintro e w' ⟨rfl, rfl⟩
    go_wp2_with fail
  · have hv : ∃ v : Nat, (1 : Int) + (v0 : Nat) = (v : Int) ∧ 1 ≤ v ∧ v ≤ 22 ∧ v ≠ 7 := ⟨1 + v0, by omega, by omega, by omega, by omega⟩
    obtain ⟨v, hv, hv1, hv2, hv7⟩ := hv
    rw [hv]
    clear h6 hv20 hv
    have hA2 := ack_any 7 len 0 0 (by omega) (by omega) (by omega) (by omega) w5
    go_wp2_with (first
      | (refine hA2.mono ?_
         clear hA2
         rintro e w6 ⟨y6, rfl, hy6, hk6⟩
         obtain ⟨YA6, yc6, rfl, hyc6, _⟩ := own_form hy6
         have hX1 := Turned_one YA6 25 yc6 _ bit w6 (Rd.of_own hy6) (by omega) (by omega) hyc6
         rw [← unhide HF] at hX1)
      | (refine hX1.mono ?_
         clear hX1
         rintro e w7 ⟨x7, rfl, hx7, hk7⟩
         obtain ⟨XA, xc, rfl, _⟩ := own_form hx7
         have hS7 := hS5.keep0 (hk6.trans0 hk7)
         have hX2 := Take_bad decodeWord w w7 s 7 4 ep len n n L' os4 hS7 XA xc 25 _ (Rd.of_own hx7) (by omega) (by omega) (turned_bad 8 7 len 0 0 0 0 f hf200))
      | (refine hX2.mono ?_
         clear hX2
         rintro e w8 ⟨rfl, hk8⟩
         have hA3 := ack_any v len 0 len (by omega) (by omega) (by omega) (by omega) w8)
      | (refine hA3.mono ?_
         clear hA3
         rintro e w9 ⟨y9, rfl, hy9, hk9⟩
         obtain ⟨YA9, yc9, rfl, _⟩ := own_form hy9
         have hX3 := Take_view decodeWord w w9 s 7 4 ep len n n L' os4 (hS7.keep0 (hk8.trans0 hk9)) YA9 yc9 v len 0 len (Rd.of_own hy9) (by omega) (by omega) (by omega) (by omega) (by omega))
      | (refine hX3.mono ?_
         clear hX3
         rintro e w10 ⟨rfl, hk10⟩
         have hk710 := (hk8.trans0 hk9).trans0 hk10
         have hR := HB w10)
      | (refine hR.mono ?_
         clear hR HB
         rintro e w' ⟨rfl, rfl⟩
         have hA4 := ack_any 7 (len + 1 + b9) 0 0 (by omega) (by omega) (by omega) (by omega) w10)
      | (refine hA4.mono ?_
         clear hA4
         rintro e w11 ⟨y11, rfl, hy11, hk11⟩
         obtain ⟨YA11, yc11, rfl, _⟩ := own_form hy11
         have hX4 := Take_seq decodeWord w w11 s 7 4 ep len n n L' os4 (hS7.keep0 (hk710.trans0 hk11)) YA11 yc11 (len + 1 + b9) 0 0 (Rd.of_own hy11) (by omega) (by omega) (by omega) (by omega) (by omega))
      | (refine hX4.mono ?_
         clear hX4
         rintro e w12 ⟨rfl, hk12⟩
         have hk712 := (hk710.trans0 hk11).trans0 hk12
         have hH := Hello_is w w12 s 7 4 ep len n n L' os4 (hS7.keep0 hk712) (by omega))
      | (refine hH.mono ?_
         clear hH
         rintro e w13 ⟨y13, rfl, hy13, hk13⟩
         obtain ⟨YA13, yc13, rfl, _⟩ := own_form hy13
         have hX5 := Take_kind decodeWord w w13 s 7 4 ep len n n L' os4 (hS7.keep0 (hk712.trans0 hk13)) YA13 yc13 9 7 0 0 0 0 0 [] 25 (Rd.of_own hy13) ⟨by omega, .inr (.inr (.inr (.inr ⟨rfl, rfl, rfl, rfl, rfl, rfl, rfl⟩)))⟩ (by omega))
      | (refine hX5.mono ?_
         clear hX5
         rintro e w14 ⟨rfl, hk14⟩
         have hk714 := (hk712.trans0 hk13).trans0 hk14
         have hS14 := hS7.keep0 hk714
         have hk514 : Keep [] w5 w14 := (hk6.trans0 hk7).trans0 hk714
         have hQ1 := Acked_is w w14 s 7 4 ep len n n L' os4 hS14
         have hQ2 := Done_is w w14 s 7 4 ep len n n L' os4 hS14
         have hQ3 := Seq_is w w14 s 7 4 ep len n n L' os4 hS14
         have hO2 := Out_any w w14 s 7 4 ep len n n L' os4 hS14 hol (by omega) (by omega) (unhide HM))
      | (refine hQ1.mono ?_
         clear hQ1
         rintro e w' ⟨rfl, rfl⟩)
      | (refine hQ2.mono ?_
         clear hQ2
         rintro e w' ⟨rfl, rfl⟩)
      | (refine hQ3.mono ?_
         clear hQ3
         rintro e w' ⟨rfl, rfl⟩)
      | (refine hO2.mono ?_
         clear hO2
         rintro e w15 ⟨A2, m2, c2, us2, rfl, hr2, hb2, hu2, hk15⟩
         have hm1 : m1 ≤ 9223372036854775807 := by
           have e1 := hr1.1
           have e2 := congrArg List.length hu1
           have e3 := outRows_le 7 n 4 (n + 1) (os4.map (·.2))
           rw [List.length_map] at e1 e2 e3
           omega
         have hm2 : m2 ≤ 9223372036854775807 := by
           have e1 := hr2.1
           have e2 := congrArg List.length hu2
           have e3 := outRows_le 7 n 4 (n + 1) (os4.map (·.2))
           rw [List.length_map] at e1 e2 e3
           omega
         have hBl := Blocks_any A2 A1 m2 m1 c2 c1 us2 us1 w15 ⟨hr2, hb2⟩ ⟨hr1.keep (hk514.trans0 hk15), fun p hp => (hb1 p hp).keep (hk514.trans0 hk15)⟩ hm2 hm1
         rw [decide_eq_true (hu2.trans hu1.symm)] at hBl
         clear hu1 hu2)
      | (refine hBl.mono ?_
         clear hBl
         rintro e w16 ⟨rfl, kk, rfl⟩
         have hA := awake_any (w15.drewN kk))
      | (refine hA.mono ?_
         clear hA
         rintro e w17 ⟨rfl, hk17⟩))
    go_ret
    exact ⟨rfl, ((hS14.keep.trans0 hk15).trans0 (Keep.ofDrewN kk)).trans0 hk17⟩
  · have hv : ∃ v : Nat, (1 : Int) + (v0 : Nat) + 1 = (v : Int) ∧ 1 ≤ v ∧ v ≤ 22 ∧ v ≠ 7 := ⟨1 + v0 + 1, by omega, by omega, by omega, by omega⟩
    obtain ⟨v, hv, hv1, hv2, hv7⟩ := hv
    rw [hv]
    clear h6 hv20 hv
    have hA2 := ack_any 7 len 0 0 (by omega) (by omega) (by omega) (by omega) w5
    go_wp2_with (first
      | (refine hA2.mono ?_
         clear hA2
         rintro e w6 ⟨y6, rfl, hy6, hk6⟩
         obtain ⟨YA6, yc6, rfl, hyc6, _⟩ := own_form hy6
         have hX1 := Turned_one YA6 25 yc6 _ bit w6 (Rd.of_own hy6) (by omega) (by omega) hyc6
         rw [← unhide HF] at hX1)
      | (refine hX1.mono ?_
         clear hX1
         rintro e w7 ⟨x7, rfl, hx7, hk7⟩
         obtain ⟨XA, xc, rfl, _⟩ := own_form hx7
         have hS7 := hS5.keep0 (hk6.trans0 hk7)
         have hX2 := Take_bad decodeWord w w7 s 7 4 ep len n n L' os4 hS7 XA xc 25 _ (Rd.of_own hx7) (by omega) (by omega) (turned_bad 8 7 len 0 0 0 0 f hf200))
      | (refine hX2.mono ?_
         clear hX2
         rintro e w8 ⟨rfl, hk8⟩
         have hA3 := ack_any v len 0 len (by omega) (by omega) (by omega) (by omega) w8)
      | (refine hA3.mono ?_
         clear hA3
         rintro e w9 ⟨y9, rfl, hy9, hk9⟩
         obtain ⟨YA9, yc9, rfl, _⟩ := own_form hy9
         have hX3 := Take_view decodeWord w w9 s 7 4 ep len n n L' os4 (hS7.keep0 (hk8.trans0 hk9)) YA9 yc9 v len 0 len (Rd.of_own hy9) (by omega) (by omega) (by omega) (by omega) (by omega))
      | (refine hX3.mono ?_
         clear hX3
         rintro e w10 ⟨rfl, hk10⟩
         have hk710 := (hk8.trans0 hk9).trans0 hk10
         have hR := HB w10)
      | (refine hR.mono ?_
         clear hR HB
         rintro e w' ⟨rfl, rfl⟩
         have hA4 := ack_any 7 (len + 1 + b9) 0 0 (by omega) (by omega) (by omega) (by omega) w10)
      | (refine hA4.mono ?_
         clear hA4
         rintro e w11 ⟨y11, rfl, hy11, hk11⟩
         obtain ⟨YA11, yc11, rfl, _⟩ := own_form hy11
         have hX4 := Take_seq decodeWord w w11 s 7 4 ep len n n L' os4 (hS7.keep0 (hk710.trans0 hk11)) YA11 yc11 (len + 1 + b9) 0 0 (Rd.of_own hy11) (by omega) (by omega) (by omega) (by omega) (by omega))
      | (refine hX4.mono ?_
         clear hX4
         rintro e w12 ⟨rfl, hk12⟩
         have hk712 := (hk710.trans0 hk11).trans0 hk12
         have hH := Hello_is w w12 s 7 4 ep len n n L' os4 (hS7.keep0 hk712) (by omega))
      | (refine hH.mono ?_
         clear hH
         rintro e w13 ⟨y13, rfl, hy13, hk13⟩
         obtain ⟨YA13, yc13, rfl, _⟩ := own_form hy13
         have hX5 := Take_kind decodeWord w w13 s 7 4 ep len n n L' os4 (hS7.keep0 (hk712.trans0 hk13)) YA13 yc13 9 7 0 0 0 0 0 [] 25 (Rd.of_own hy13) ⟨by omega, .inr (.inr (.inr (.inr ⟨rfl, rfl, rfl, rfl, rfl, rfl, rfl⟩)))⟩ (by omega))
      | (refine hX5.mono ?_
         clear hX5
         rintro e w14 ⟨rfl, hk14⟩
         have hk714 := (hk712.trans0 hk13).trans0 hk14
         have hS14 := hS7.keep0 hk714
         have hk514 : Keep [] w5 w14 := (hk6.trans0 hk7).trans0 hk714
         have hQ1 := Acked_is w w14 s 7 4 ep len n n L' os4 hS14
         have hQ2 := Done_is w w14 s 7 4 ep len n n L' os4 hS14
         have hQ3 := Seq_is w w14 s 7 4 ep len n n L' os4 hS14
         have hO2 := Out_any w w14 s 7 4 ep len n n L' os4 hS14 hol (by omega) (by omega) (unhide HM))
      | (refine hQ1.mono ?_
         clear hQ1
         rintro e w' ⟨rfl, rfl⟩)
      | (refine hQ2.mono ?_
         clear hQ2
         rintro e w' ⟨rfl, rfl⟩)
      | (refine hQ3.mono ?_
         clear hQ3
         rintro e w' ⟨rfl, rfl⟩)
      | (refine hO2.mono ?_
         clear hO2
         rintro e w15 ⟨A2, m2, c2, us2, rfl, hr2, hb2, hu2, hk15⟩
         have hm1 : m1 ≤ 9223372036854775807 := by
           have e1 := hr1.1
           have e2 := congrArg List.length hu1
           have e3 := outRows_le 7 n 4 (n + 1) (os4.map (·.2))
           rw [List.length_map] at e1 e2 e3
           omega
         have hm2 : m2 ≤ 9223372036854775807 := by
           have e1 := hr2.1
           have e2 := congrArg List.length hu2
           have e3 := outRows_le 7 n 4 (n + 1) (os4.map (·.2))
           rw [List.length_map] at e1 e2 e3
           omega
         have hBl := Blocks_any A2 A1 m2 m1 c2 c1 us2 us1 w15 ⟨hr2, hb2⟩ ⟨hr1.keep (hk514.trans0 hk15), fun p hp => (hb1 p hp).keep (hk514.trans0 hk15)⟩ hm2 hm1
         rw [decide_eq_true (hu2.trans hu1.symm)] at hBl
         clear hu1 hu2)
      | (refine hBl.mono ?_
         clear hBl
         rintro e w16 ⟨rfl, kk, rfl⟩
         have hA := awake_any (w15.drewN kk))
      | (refine hA.mono ?_
         clear hA
         rintro e w17 ⟨rfl, hk17⟩))
    go_ret
    exact ⟨rfl, ((hS14.keep.trans0 hk15).trans0 (Keep.ofDrewN kk)).trans0 hk17⟩
end Go.Proofs.Ytplfijhianmohaa
