/- Lemmas of the proof, with their conditions. -/
import Derived.Test.YtkonbpfbjiepfaaGreatRows
import Derived.JoinedOf
namespace Go.Proofs.YtkonbpfbjiepfaaGreat
set_option linter.unusedSimpArgs false
set_option linter.unusedVariables false
set_option maxHeartbeats 64000000
namespace twinStrip
open Go.ChangeShapes Go.WideShapes
theorem laidOut:laidOutB Tryz.prog=true:=by kernel_rfl
theorem band {a b:Bool} (h:a=true) (k:b=true):(a && b)=true:=by rw[h,k];rfl
theorem closed:joinedFacts Tryz.prog 6 Tryz.f6 Rows.twinStripSpec Rows.twinStripRow=true:=by
 unfold joinedFacts
 repeat' with_reducible refine band ?_ ?_
 all_goals first | (with_reducible exact laidOut) | (as_aux_lemma=>kernel_rfl)
end twinStrip
end Go.Proofs.YtkonbpfbjiepfaaGreat
