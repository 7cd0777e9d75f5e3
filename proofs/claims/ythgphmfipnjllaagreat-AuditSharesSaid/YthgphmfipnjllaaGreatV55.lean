/- Lemmas of the proof, with their conditions. -/
import Derived.Test.YthgphmfipnjllaaGreatRows
import Derived.JoinedOf
namespace Go.Proofs.YthgphmfipnjllaaGreat
set_option linter.unusedSimpArgs false
set_option linter.unusedVariables false
set_option maxHeartbeats 64000000
namespace auditShares
open Go.ChangeShapes Go.WideShapes
theorem laidOut:laidOutB Tryz.prog=true:=by kernel_rfl
theorem band {a b:Bool} (h:a=true) (k:b=true):(a && b)=true:=by rw[h,k];rfl
theorem closed:joinedFacts Tryz.prog 3 Tryz.f3 Rows.auditSharesSpec Rows.auditSharesRow=true:=by
 unfold joinedFacts
 repeat' with_reducible refine band ?_ ?_
 all_goals first | (with_reducible exact laidOut) | (as_aux_lemma=>kernel_rfl)
end auditShares
end Go.Proofs.YthgphmfipnjllaaGreat
