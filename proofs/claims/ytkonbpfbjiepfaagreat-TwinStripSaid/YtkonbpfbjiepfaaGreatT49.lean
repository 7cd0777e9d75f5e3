/- Lemmas of the proof, with their conditions. -/
import Derived.Test.YtkonbpfbjiepfaaGreatT02
import Derived.ProofKit
import Derived.OpenShut
import Derived.ShutString
import Derived.Deep.Fields
namespace Go.Proofs.YtkonbpfbjiepfaaGreat
set_option linter.unusedSimpArgs false
set_option linter.unusedVariables false
section
open Go.ChangeShapes Go.WideShapes Go.ChangeAt Go.RowKit Go.Deep
section
variable {H:Type} {enc:TypeId×Value→H} {P:Program} {w:World} {base:Nat} {spare:Nat→Bool} {held:Bool}
theorem Ve {t e:TypeId} {fs:Array Field} {fuel:Nat} {cs:List Value} {x:DataW H×List MemPlace} (ht:P.underlying t=some (.slice e)) (he:P.underlying e=some (.struct fs))
 (hone:oneCellFields P fs=true) (hC:P.cellsOf e=fs.size) (h:DataW.trod enc P w base spare held fuel t cs=some x) :
 cs=[.slice none 0 0] ∨
 ∃ (a:Addr) (len cap:Nat),cs=[.slice (some a) len cap]∧len≤cap∧cap≤maxLen ∧
   ∀ i,i<len→∃ n:Nat,∀ (j:Nat) (f:Field),fs[j]? = some f→∃ (v:Value) (y:DataW H×List MemPlace),w.cell? (a.add (i*fs.size+j))=some v∧DataW.trod enc P w base spare held n f.type [v]=some y:=by
 rcases open_slice ht h with h0 | ⟨a,len,cap,m,n,D,Pl,hcs,hb,hl,hm,hmm,hx,hi⟩
 · exact .inl h0.1
 · refine .inr ⟨a,len,cap,hcs,hl,hm,fun i hil=>?_⟩
   have him:i<m:=by rw[hmm];split <;> omega
   obtain⟨cs',hc,ht'⟩:=hi i him;rw[hC] at hc;obtain⟨ys,n',hn',hy,hlen,hyl,hf⟩:=DataW.trod_struct he ht';obtain⟨_,hcl,hat⟩:=World.cells?_some hc;refine⟨n',fun j f hj=>?_⟩;obtain⟨ho,hk⟩:=hone_of hone j f hj;have hjl:j<fs.size:=(Array.getElem?_eq_some_iff.1 hj).1;have hcell:=hat j hjl;have hv:cs'[j]? = some (cs'[j]'(by omega)):=List.getElem?_eq_getElem (by omega);have h1:=hf j f hj;rw[ho,hk] at h1
   have hone':(cs'.drop j).take 1=[cs'[j]'(by omega)]:=by
    rw[List.drop_eq_getElem_cons (by omega)];rfl
   rw[hone'] at h1;have hys:ys[j]? = some (ys[j]'(by omega)):=List.getElem?_eq_getElem (by omega);refine⟨_,_,?_,h1.trans hys⟩;rw[← Go.Deep.add_add,hcell,hv]
end
end
end Go.Proofs.YtkonbpfbjiepfaaGreat
