/- Lemmas of the proof, with their conditions. -/
import Derived.Test.YthgphmfipnjllaaGreatV52
import Derived.Test.YthgphmfipnjllaaGreatV53
namespace Go.Proofs.YthgphmfipnjllaaGreat
set_option linter.unusedSimpArgs false
set_option linter.unusedVariables false
set_option maxRecDepth 100000
section
open Go.ChangeShapes Go.WideShapes Go.ChangeAt Go.RowKit Go.Deep
theorem ZAk {H:Type} {enc:TypeId×Value→H} {W:World} {base:Nat} {spare:Nat→Bool} {held:Bool} {a0:Option Addr} {len0 cap0:Nat} {d:DataW H} {ps:List MemPlace} (h0:DataW.Trod enc Tryz.prog W base spare held 22 (.slice a0 len0 cap0) d ps) :
 ∃ zs,Rd W a0 len0 (VS zs)∧len0≤9223372036854775807:=by
 obtain⟨fuel,hf⟩:=h0
 rcases open_ints Tryz.underlying22 Tryz.underlying3 (by kernel_rfl) hf with⟨hcs,_⟩ | ⟨x,l,c,zs,hcs,_,hl,hm,hz,_,hcell,hwz⟩
 · simp[Value.cells] at hcs
   obtain⟨rfl,rfl,rfl⟩:=hcs
   exact⟨[],Rd.nil _ _,by omega⟩
 · simp[Value.cells] at hcs
   obtain⟨rfl,rfl,rfl⟩:=hcs
   exact⟨zs.take len0,KBF (.inr ⟨_,rfl,by rw[hz];split <;> omega,hcell⟩),by simpa [maxLen] using Nat.le_trans hl hm⟩
end
section
open Go.ChangeShapes Go.WideShapes Go.ChangeAt Go.RowKit Go.Deep
theorem QAN {H:Type} {enc:TypeId×Value→H} {P:Program} {w:World} {base:Nat} {spare:Nat→Bool} {held:Bool} {fuel:Nat} {t e:TypeId} {cs:List Value} {x:DataW H×List MemPlace} (ht:P.underlying t=some (.array 2 e)) (he:P.underlying e=some (.int .i64)) (c1:P.cellsOf e=1) (c2:P.cellsOf t=2)
 (h:DataW.trod enc P w base spare held fuel t cs=some x):∃ y0 y1,cs=[.int .i64 y0,.int .i64 y1]:=by
 obtain⟨xs,m,-,-,hl,hx,hel⟩:=DataW.trod_array ht h
 have e0:=hel 0 (by omega)
 have e1:=hel 1 (by omega)
 rw[c1,List.getElem?_eq_getElem (by omega)] at e0 e1
 rw[c2] at hl
 obtain⟨y0,g0,-⟩:=DataW.trod_int he e0
 obtain⟨y1,g1,-⟩:=DataW.trod_int he e1
 rcases cs with _ | ⟨a,_ | ⟨b,_ | ⟨c,cs⟩⟩⟩
 · simp at hl
 · simp at hl
 · simp at g0 g1
   exact⟨y0,y1,by rw[g0,g1]⟩
 · simp at hl
theorem XAC {P:Program} {w:World} {r:Reach} {b0 n:Nat} {t e:TypeId} {v:Value} (ht:P.underlying t=some (.array n e)) (h:Value.okWide P w r b0 t v):∃ cs,v=.agg cs:=by
 simp only[Value.okWide,ht] at h
 obtain⟨cs,h1,_⟩:=h
 exact⟨cs,h1⟩
theorem KAe {H:Type} {enc:TypeId×Value→H} {W:World} {r:Reach} {b0 base:Nat} {spare:Nat→Bool} {held:Bool} {v:Value} {d:DataW H} {ps:List MemPlace} (hval:Value.okWide Tryz.prog W r b0 23 v) (h0:DataW.Trod enc Tryz.prog W base spare held 23 v d ps) :
 ∃ y0 y1,v=.agg #[.int .i64 y0,.int .i64 y1]:=by
 obtain⟨⟨cs⟩,rfl⟩:=XAC Tryz.underlying23 hval
 obtain⟨fuel,hf⟩:=h0
 obtain⟨y0,y1,h⟩:=QAN Tryz.underlying23 Tryz.underlying3 (by kernel_rfl) (by kernel_rfl) hf
 have h':cs=[.int .i64 y0,.int .i64 y1]:=h
 exact⟨y0,y1,by rw[h']⟩
end
end Go.Proofs.YthgphmfipnjllaaGreat
