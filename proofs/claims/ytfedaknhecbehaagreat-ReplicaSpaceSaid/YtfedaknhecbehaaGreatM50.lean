/- Lemmas of the proof, with their conditions. -/
import Derived.Test.YtfedaknhecbehaaGreatRows
import Derived.JoinedOf
namespace Go.Proofs.YtfedaknhecbehaaGreat
set_option linter.all false
set_option maxHeartbeats 64000000
namespace replicaSpace
open Go.ChangeShapes Go.WideShapes
theorem laidOut:laidOutB Tryz.prog=true:=by kernel_rfl
theorem band {a b:Bool} (h:a=true) (k:b=true):(a && b)=true:=by rw[h,k];rfl
theorem closed:joinedFacts Tryz.prog 8 Tryz.f8 Rows.replicaSpaceSpec Rows.replicaSpaceRow=true:=by
 unfold joinedFacts
 repeat' with_reducible refine band ?_ ?_
 all_goals first | (with_reducible exact laidOut) | (as_aux_lemma=>kernel_rfl)