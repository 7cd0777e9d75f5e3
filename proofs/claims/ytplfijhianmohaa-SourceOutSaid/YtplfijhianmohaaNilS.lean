/-
  source.Source's functions at nil.
-/
import Derived.Test.YtplfijhianmohaaSource3
namespace Go.Proofs.Ytplfijhianmohaa
open Go.RowKit

theorem Seq_nil (w : World) : Calls Try.prog 16 #[.pointer none] w fun e w' => e = .returned (.int .i64 0) ∧ w = w' := by
  go_enter Try.func16, Try.ntmps16
  go_wp2
  go_ret
  exact ⟨rfl, rfl⟩
theorem Epoch_nil (w : World) : Calls Try.prog 22 #[.pointer none] w fun e w' => e = .returned (.int .i64 0) ∧ w = w' := by
  go_enter Try.func22, Try.ntmps22
  go_wp2
  go_ret
  exact ⟨rfl, rfl⟩
theorem keep_nil (k b c e : Int) (A : Option Addr) (n m : Nat) (w : World) : Calls Try.prog 34 #[.pointer none, .agg #[.int .i64 k, .int .i64 b, .int .i64 c, .int .i64 e, .slice A n m]] w fun r w' => r = .returned (.int .i64 1) ∧ Keep [] w w' := by
  have hk : Keep [] w (w.alloc (.cells #[.int .i64 k, .int .i64 b, .int .i64 c, .int .i64 e, .slice A n m] 58)) := (Keep.refl _ _).alloc _
  go_enter Try.func34, Try.ntmps34
  go_wp2
  go_ret
  exact ⟨rfl, hk⟩
theorem Mark_nil (w : World) : Calls Try.prog 19 #[.pointer none] w fun r w' => r = .returned (.int .i64 1) ∧ Keep [] w w' := by
  have hE := Epoch_nil w
  have hK := keep_nil 3 0 0 1 none 0 0 w
  go_enter Try.func19, Try.ntmps19
  go_wp2_with (first
    | (refine hE.mono ?_; clear hE; rintro e w' ⟨rfl, rfl⟩)
    | (refine hK.mono ?_; clear hK; rintro e w1 ⟨rfl, hk⟩))
  go_ret
  exact ⟨rfl, hk⟩
end Go.Proofs.Ytplfijhianmohaa
