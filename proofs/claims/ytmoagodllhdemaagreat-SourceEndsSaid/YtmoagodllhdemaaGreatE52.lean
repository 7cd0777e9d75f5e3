/-
  A part of the proof: lemmas, and contracts of functions; their conditions stand in them.
-/
import Derived.Test.YtmoagodllhdemaaGreatE37
import Derived.WalkKit
import Derived.ProofKit
import Derived.OpenShut
import Derived.ShutString
import Derived.ChangeOld
import Derived.Below
import Derived.Deep.Slices
import Derived.Deep.Fields
import Derived.ChangeSame
namespace Go.Proofs.YtmoagodllhdemaaGreat
set_option linter.unusedSimpArgs false
set_option linter.unusedVariables false
section
open Go.ChangeShapes Go.WideShapes Go.ChangeAt Go.RowKit Go.Deep
section
variable {H:Type} {enc:TypeId×Value→H} {P:Program} {w:World} {base:Nat} {spare:Nat→Bool} {held:Bool}
end
end
end Go.Proofs.YtmoagodllhdemaaGreat
