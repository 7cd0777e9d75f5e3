/-
  SourceRoom: the walk.
-/
import Derived.Test.YtplfijhianmohaaAwakeS
namespace Go.Proofs.Ytplfijhianmohaa
open Go.RowKit

set_option maxHeartbeats 4000000 in
set_option maxRecDepth 100000 in
theorem sroom_walk (done kind : Int) (w : World) :
    Calls Try.prog 4 #[.int .i64 done, .int .i64 kind] w fun e w' => e = .returned (.bool true) ∧ Keep [] w w' := by
  obtain ⟨d, hd, hd30⟩ : ∃ d : Nat, done % 30 = (d : Int) ∧ d < 30 := ⟨(done % 30).toNat, by omega, by omega⟩
  have HR : ∀ W, Calls Try.prog 10 #[.int .i64 done, .int .i64 30] W fun e w' => e = .returned (.int .i64 (d : Nat)) ∧ W = w' := by
    intro W; rw [← hd]; exact Round_any _ _ _ (by omega) (by omega)
  clear hd
  have H1 := NewS_yes 1 4 (by omega) (by omega) w
  go_enter Try.func4, Try.ntmps4
  go_wp2_with (refine H1.mono ?_; clear H1; rintro e w1 ⟨s, rfl, hS⟩)
  go_loopw [6] (fun i wr => ∃ (k : Nat) (L : Value) (os : List (Value × POp)), k ≤ 400 ∧ i = .int .i64 k ∧ Src w wr s 1 4 0 k 0 0 L os) (fun i _ => (400 - (intOf i)).toNat)
  case atStart => exact ⟨0, _, _, by omega, rfl, hS⟩
  case round =>
    clear hS
    obtain ⟨k, L, os, hk, rfl, hS⟩ := hrel
    by_cases hlt : k < 400
    · have hT := Trim_ok w wr s 1 4 0 k 0 0 L os hS ((k % 64 : Nat) : Int) 1 (by omega) (by omega) (by omega) (by omega) (by omega)
      go_wp2_with (refine hT.mono ?_; clear hT; rintro e w3 ⟨L', u, rfl, hS3, _, _⟩)
      go_roundw
      case rel => exact ⟨k + 1, L', _, by omega, by go_num, hS3⟩
      case measure => simp [intOf]; omega
    · obtain rfl : k = 400 := by omega
      have hM := Mark_full w wr s 1 4 0 400 0 0 L os hS (by omega) (by omega) (by omega)
      go_wp2_with (first
        | (refine hM.mono ?_
           clear hM
           rintro e w2 ⟨rfl, hk2⟩
           have hT := Trim_full w w2 s 1 4 0 400 0 0 L os (hS.keep0 hk2) 1 1 (by omega) (by omega) (by omega) (by omega))
        | (refine hT.mono ?_
           clear hT
           rintro e w3 ⟨rfl, hk3⟩
           have hF := Fill_any kind w3)
        | (refine hF.mono ?_
           clear hF
           rintro e w4 ⟨u4, rfl, hu4, hk4⟩
           obtain ⟨UA4, uc4, rfl, _⟩ := own_form hu4
           have hX := Write_full w w4 s 1 4 0 400 0 0 L os (hS.keep0 ((hk2.trans0 hk3).trans0 hk4)) 1 UA4 64 uc4 _ (Rd.of_own hu4) (by simp) (by omega) (by omega) (by omega))
        | (refine hX.mono ?_
           clear hX
           rintro e w5 ⟨rfl, hk5⟩
           have hS5 := hS.keep0 (((hk2.trans0 hk3).trans0 hk4).trans0 hk5)
           have hQ1 := Seq_is w w5 s 1 4 0 400 0 0 L os hS5
           have hQ2 := Epoch_is w w5 s 1 4 0 400 0 0 L os hS5
           have hQ3 := Trim_arg w w5 s 1 4 0 400 0 0 L os hS5 1 0 (by omega))
        | (refine hQ1.mono ?_
           clear hQ1
           rintro e w' ⟨rfl, rfl⟩)
        | (refine hQ2.mono ?_
           clear hQ2
           rintro e w' ⟨rfl, rfl⟩)
        | (refine hQ3.mono ?_
           clear hQ3
           rintro e w6 ⟨rfl, hk6⟩
           have hR := HR w6)
        | (refine hR.mono ?_
           clear hR
           rintro e w' ⟨rfl, rfl⟩
           have hA := ack_any 1 400 0 d (by omega) (by omega) (by omega) (by omega) w6)
        | (refine hA.mono ?_
           clear hA
           rintro e w7 ⟨y, rfl, hy, hk7⟩
           obtain ⟨YA, yc, rfl, _⟩ := own_form hy
           have hT := Take_ok decodeWord w w7 s 1 4 0 400 0 0 L os (hS5.keep0 (hk6.trans0 hk7)) YA yc 400 0 d (Rd.of_own hy) (by omega) (by omega) (by omega) (by omega))
        | (refine hT.mono ?_
           clear hT
           rintro e w8 ⟨L', rfl, hS8, hk8, _⟩))
      have hS9 : Src w w8 s 1 4 0 400 400 d L' (os.drop d) := by
        have e1 : max (max 0 d) 400 = 400 := by omega
        have e2 : max 0 d = d := by omega
        rw [e1, e2, Nat.sub_zero] at hS8
        exact hS8
      clear hS8 hS hk hS5
      generalize os.drop d = os9 at *
      go_loopw [11] (fun i wr => ∃ (k : Nat) (L : Value) (os : List (Value × POp)), k ≤ d ∧ i = .int .i64 k ∧ Src w wr s 1 4 k (400 + k) 400 d L os) (fun i _ => (d - (intOf i)).toNat)
      case atStart => exact ⟨0, _, _, by omega, rfl, hS9⟩
      case round =>
        clear hS9
        obtain ⟨k, L9, os8, hk, rfl, hS⟩ := hrel
        by_cases hlt2 : k < d
        · have hT := Mark_ok w wr s 1 4 k (400 + k) 400 d L9 os8 hS (by omega) (by omega) (by omega) (by omega)
          go_wp2_with (refine hT.mono ?_; clear hT; rintro e w3 ⟨L', u, rfl, hS3, _, _⟩)
          go_roundw
          case rel => exact ⟨k + 1, L', _, by omega, by go_num, hS3⟩
          case measure => simp [intOf]; omega
        · obtain rfl : k = d := by omega
          have hM := Mark_full w wr s 1 4 k (400 + k) 400 k L9 os8 hS (by omega) (by omega) (by omega)
          go_wp2_with (first
            | (refine hM.mono ?_
               clear hM
               rintro e w9 ⟨rfl, hk9⟩
               have hS7 := hS.keep0 hk9
               have hQ1 := Epoch_is w w9 s 1 4 k (400 + k) 400 k L9 os8 hS7
               have hQ2 := Seq_is w w9 s 1 4 k (400 + k) 400 k L9 os8 hS7
               have hA := awake_any w9)
            | (refine hQ1.mono ?_
               clear hQ1
               rintro e w' ⟨rfl, rfl⟩)
            | (refine hQ2.mono ?_
               clear hQ2
               rintro e w' ⟨rfl, rfl⟩)
            | (refine hA.mono ?_
               clear hA
               rintro e w10 ⟨rfl, hk10⟩))
          go_ret
          exact ⟨rfl, hS7.keep.trans0 hk10⟩
end Go.Proofs.Ytplfijhianmohaa
