/- Lemmas of the proof, with their conditions. -/
import Derived.Test.YtkonbpfbjiepfaaGreatP43
import Derived.ProofKit
import Derived.OpenShut
import Derived.ShutString
import Derived.Deep.Fields
namespace Go.Proofs.YtkonbpfbjiepfaaGreat
set_option linter.unusedSimpArgs false
set_option linter.unusedVariables false
section
open Go.ChangeShapes Go.WideShapes Go.ChangeAt Go.RowKit Go.Deep
section
variable {H:Type} {enc:TypeId×Value→H} {P:Program} {w:World} {base:Nat} {spare:Nat→Bool} {held:Bool}
theorem Qk {t e:TypeId} {fs:Array Field} {fuel:Nat} {cs:List Value} {x:DataW H×List MemPlace} (ht:P.underlying t=some (.slice e)) (he:P.underlying e=some (.struct fs))
 (hone:oneCellFields P fs=true) (hC:P.cellsOf e=fs.size) (h:DataW.trod enc P w base spare held fuel t cs=some x) :
 cs=[.slice none 0 0] ∨
 ∃ (a:Addr) (len cap:Nat),cs=[.slice (some a) len cap]∧len≤cap∧cap≤maxLen ∧
   ∀ i,i<len→∃ n:Nat,∀ (j:Nat) (f:Field),fs[j]? = some f→∃ (v:Value) (y:DataW H×List MemPlace),w.cell? (a.add (i*fs.size+j))=some v∧DataW.trod enc P w base spare held n f.type [v]=some y:=by
 rcases open_slice ht h with h0 | ⟨a,len,cap,m,n,D,Pl,hcs,hb,hl,hm,hmm,hx,hi⟩
 · exact .inl h0.1
 · refine .inr ⟨a,len,cap,hcs,hl,hm,fun i hil=>?_⟩
   have him:i<m:=by rw[hmm];split <;> omega
   obtain⟨cs',hc,ht'⟩:=hi i him;rw[hC] at hc;obtain⟨ys,n',hn',hy,hlen,hyl,hf⟩:=DataW.trod_struct he ht';obtain⟨_,hcl,hat⟩:=World.cells?_some hc;refine⟨n',fun j f hj=>?_⟩;obtain⟨ho,hk⟩:=hone_of hone j f hj;have hjl:j<fs.size:=(Array.getElem?_eq_some_iff.1 hj).1;have hcell:=hat j hjl;have hv:cs'[j]? = some (cs'[j]'(by omega)):=List.getElem?_eq_getElem (by omega);have h1:=hf j f hj;rw[ho,hk] at h1
   have hone':(cs'.drop j).take 1=[cs'[j]'(by omega)]:=by
    rw[List.drop_eq_getElem_cons (by omega)];rfl
   rw[hone'] at h1;have hys:ys[j]? = some (ys[j]'(by omega)):=List.getElem?_eq_getElem (by omega);refine⟨_,_,?_,h1.trans hys⟩;rw[← Go.Deep.add_add,hcell,hv]
end
theorem YAZ {H:Type} {enc:TypeId×Value→H} {W:World} {base:Nat} {spare:Nat→Bool} {held:Bool} {a0:Option Addr} {len0 cap0:Nat} {d:DataW H} {ps:List MemPlace} (h0:DataW.Trod enc Tryz.prog W base spare held 61 (.slice a0 len0 cap0) d ps) :
 ∃ zs,PartsAt W a0 len0 zs∧len0≤9223372036854775807:=by
 obtain⟨fuel,hf⟩:=h0;rcases Qk Tryz.underlying61 Tryz.underlying146 (by kernel_rfl) (by kernel_rfl) hf with hcs | ⟨a,l,c,hcs,hl,hm,hi⟩
 · simp[Value.cells] at hcs
   obtain⟨rfl,rfl,rfl⟩:=hcs;exact⟨[],⟨rfl,fun h=>by omega⟩,by omega⟩
 · simp[Value.cells] at hcs
   obtain⟨rfl,rfl,rfl⟩:=hcs
   have hi3:∀ i,i<len0→∃ z:Int×Int×Int,W.cell? (a.add (i*3+0))=some (.int .i64 z.1)∧W.cell? (a.add (i*3+1))=some (.int .i64 z.2.1)∧W.cell? (a.add (i*3+2))=some (.int .i64 z.2.2):=by
    intro i hil;obtain⟨n,hj⟩:=hi i hil;obtain⟨u0,y0,hc0,ht0⟩:=hj 0 _ rfl;obtain⟨u1,y1,hc1,ht1⟩:=hj 1 _ rfl;obtain⟨u2,y2,hc2,ht2⟩:=hj 2 _ rfl;obtain⟨n0,e0,_,_⟩:=DataW.trod_int (k:=.i64) Tryz.underlying3 ht0;obtain⟨n1,e1,_,_⟩:=DataW.trod_int (k:=.i64) Tryz.underlying3 ht1;obtain⟨n2,e2,_,_⟩:=DataW.trod_int (k:=.i64) Tryz.underlying3 ht2;simp only[List.cons.injEq,and_true] at e0 e1 e2;subst e0 e1 e2;exact⟨(n0,n1,n2),hc0,hc1,hc2⟩
   refine⟨(List.range len0).map fun i=>if h:i<len0 then Classical.choose (hi3 i h) else (0,0,0),⟨by simp,fun h0=>?_⟩,by simpa [maxLen] using Nat.le_trans hl hm⟩;obtain⟨ab,ao,sp⟩:=a
   have hsp:sp=none:=by
    obtain⟨z,hz0,_⟩:=hi3 0 h0;simpa [Addr.add] using World.cell?_spot hz0
   subst hsp;refine⟨ab,ao,rfl,?_,fun i z hzi=>?_⟩
   · obtain⟨z,hz0,_⟩:=hi3 0 h0
     rw[Addr.add_mid] at hz0;exact World.block_lt_of_cell? W _ hz0
   · rw[List.getElem?_map] at hzi
     rcases Nat.lt_or_ge i len0 with hil | hil
     · rw[List.getElem?_range hil,Option.map_some,Option.some.injEq,dif_pos hil] at hzi
       have hch:=Classical.choose_spec (hi3 i hil);rw[hzi] at hch;obtain⟨g0,g1,g2⟩:=hch;rw[Addr.add_mid] at g0 g1 g2;exact⟨g0,g1,g2⟩
     · rw[List.getElem?_eq_none (by simpa using hil)] at hzi
       cases hzi
end
end Go.Proofs.YtkonbpfbjiepfaaGreat
