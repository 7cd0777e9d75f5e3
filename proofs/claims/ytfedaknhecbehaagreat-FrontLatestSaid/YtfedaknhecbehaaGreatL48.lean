/- Lemmas of the proof, with their conditions. -/
import Derived.Test.YtfedaknhecbehaaGreatL41
import Derived.Test.YtfedaknhecbehaaGreatL10
namespace Go.Proofs.YtfedaknhecbehaaGreat
open Tryz Go.RowKit
set_option linter.all false
section
variable (w:World) (B:Nat) (h1:1<=B) (h2:B<=64)
include h1 h2
end
def zv (P:Nat):List Value:=List.replicate P (.int .i64 0)
theorem cells14 {w:World} {g:Nat} {t:TypeId} {a b c d e f i j k l m n o p:Value} (h:Blk w g t #[a,b,c,d,e,f,i,j,k,l,m,n,o,p]) :
 cl w g a/\cl w (aq g 1) b/\cl w (aq g 2) c/\cl w (aq g 3) d/\cl w (aq g 4) e/\cl w (aq g 5) f/\cl w (aq g 6) i/\cl w (aq g 7) j/\cl w (aq g 8) k/\cl w (aq g 9) l/\cl w (aq g 10) m/\cl w (aq g 11) n/\cl w (aq g 12) o/\cl w (aq g 13) p:=
 ⟨uq (h.cell 0),uq (h.cell 1),uq (h.cell 2),uq (h.cell 3),uq (h.cell 4),uq (h.cell 5),uq (h.cell 6),uq (h.cell 7),uq (h.cell 8),uq (h.cell 9),uq (h.cell 10),uq (h.cell 11),uq (h.cell 12),uq (h.cell 13)⟩
def SegsR (w:World) (G:Nat):Prop:=Rd w (some G) 16 (.int .i64 1 :: List.replicate 15 (.int .i64 0))
theorem SegsR.kO {w w':World} {G:Nat} (h:SegsR w G) (a:kz w w'):SegsR w' G:=Rd.keep h a