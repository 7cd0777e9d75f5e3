/- Lemmas of the proof, with their conditions. -/
import Derived.Test.YtfedaknhecbehaaGreatM28
import Derived.Test.YtfedaknhecbehaaGreatM48
namespace Go.Proofs.YtfedaknhecbehaaGreat
open Tryz
set_option linter.all false
section
open Go.ChangeShapes Go.WideShapes Go.ChangeAt Go.RowKit Go.Deep