/- Lemmas of the proof, with their conditions. -/
import Derived.Test.YthgphmfipnjllaaGreatV01
import Derived.OpenShut
namespace Go.Proofs.YthgphmfipnjllaaGreat
set_option linter.unusedSimpArgs false
set_option linter.unusedVariables false
section
open Go.RowKit
theorem KBF {w:World} {a:Option Addr} {len:Nat} {z:List Int} (h:(a=none∧len=0)∨∃ x,a=some x∧len≤z.length∧∀ i,i<z.length→w.cell? (x.add i)=some (.int .i64 (z.getD i 0))):Rd w a len (VS (z.take len)):=by
 rcases h with⟨_,rfl⟩ | ⟨x,rfl,hl,hc⟩
 · exact Rd.nil _ _
 · refine⟨by rw[length_ints,List.length_take];omega,fun h0=>?_⟩
   obtain⟨b,o,sp⟩:=x
   have hsp:sp=none:=by simpa [Addr.add] using World.cell?_spot (hc 0 (by omega))
   subst hsp
   refine⟨b,o,rfl,?_,fun j u hj=>?_⟩
   · have:=hc 0 (by omega)
     rw[Addr.add_mid] at this
     exact World.block_lt_of_cell? w _ this
   · simp only[VS,List.getElem?_map,Option.map_eq_some_iff] at hj
     obtain⟨n,hn,rfl⟩:=hj
     rw[List.getElem?_take] at hn
     split at hn
     · have:=hc j (by omega)
       rw[Addr.add_mid,List.getD_eq_getElem?_getD,hn] at this
       exact this
     · cases hn
end
end Go.Proofs.YthgphmfipnjllaaGreat
