/- Lemmas of the proof, with their conditions. -/
import Derived.Test.YtfedaknhecbehaaGreatL01
import Derived.ProofKit
import Derived.OpenShut
import Derived.ShutString
import Derived.Deep.Fields
namespace Go.Proofs.YtfedaknhecbehaaGreat
open Tryz
set_option linter.all false
section
open Go.ChangeShapes Go.WideShapes Go.ChangeAt Go.RowKit Go.Deep
section
variable {H:Type} {enc:TypeId×Value->H} {P:Program} {w:World} {base:Nat} {spare:Nat->Bool} {held:Bool}
theorem Zc {t e:TypeId} {fs:Array Field} {k:Nat} {cs:List Value} {x:DataW H×List MemPlace} (l:P.underlying t=some (.slice e)) (o:P.underlying e=some (.struct fs))
 (p:oneCellFields P fs=true) (r:P.cellsOf e=fs.size) (h:DataW.trod enc P w base spare held k t cs=some x) :
 cs=[.slice none 0 0] \/
 ∃ (a:Addr) (len cap:Nat),cs=[.slice (some a) len cap]/\len<=cap/\cap<=maxLen /\
   ∀ i,i<len->∃ n:Nat,∀ (j:Nat) (f:Field),fs[j]? = some f->∃ (v:Value) (y:DataW H×List MemPlace),cl w (a.add (i*fs.size+j)) v/\DataW.trod enc P w base spare held n f.type [v]=some y:=by
 rcases open_slice l h with s | ⟨a,len,cap,m,n,D,Q,u,R,z,A,B,S,hi⟩
 . exact .inl s.1
 refine .inr ⟨a,len,cap,u,z,A,fun i T=>?_⟩;have C:i<m:=by rw[B];split <;> omega
 obtain⟨b,g,E⟩:=hi i C;rw[r] at g;obtain⟨ys,n',U,V,W,X,F⟩:=DataW.trod_struct o E;obtain⟨_,Y,G⟩:=World.cells?_some g;refine⟨n',fun j f c=>?_⟩;obtain⟨I,J⟩:=hone_of p j f c;have K:j<fs.size:=(AI.1 c).1;have L:=G j K;have M:b[j]? = some (b[j]' Z):=AC Z;have d:=F j f c;rw[I,J] at d
 have N:(b.drop j).take 1=[b[j]' Z]:=by
  rw[BY Z];rfl
 rw[N] at d;have O:ys[j]? = some (ys[j]' Z):=AC Z;refine⟨_,_,?_,d.trans O⟩;rw[<- Go.Deep.add_add,L,M]