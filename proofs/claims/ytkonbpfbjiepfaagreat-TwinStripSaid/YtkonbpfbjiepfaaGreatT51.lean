/- Lemmas of the proof, with their conditions. -/
import Derived.Test.YtkonbpfbjiepfaaGreatT49
import Derived.Test.YtkonbpfbjiepfaaGreatT25
import Derived.Test.YtkonbpfbjiepfaaGreatT50
namespace Go.Proofs.YtkonbpfbjiepfaaGreat
set_option linter.unusedSimpArgs false
set_option linter.unusedVariables false
section
open Go.ChangeShapes Go.WideShapes Go.ChangeAt Go.RowKit Go.Deep
theorem ZAz {w:World} {b o len:Nat} {es:List (Value×PEv)} (hl:es.length=len) (hb:0<len→b<w.heap.size) (h:∀ i p,es[i]? = some p→w.cell? ⟨b,o+i*5,none⟩=some (.int .i64 p.2.k)∧w.cell? ⟨b,o+i*5+1,none⟩=some (.int .i64 p.2.a)∧w.cell? ⟨b,o+i*5+2,none⟩=some (.int .i64 p.2.b)∧w.cell? ⟨b,o+i*5+3,none⟩=some (.int .i64 p.2.y)∧w.cell? ⟨b,o+i*5+4,none⟩=some p.1∧PkRd w p.1 p.2.p) :
 EvsRd w (some ⟨b,o,none⟩) len es:=by
 refine⟨⟨⟨by rw[Xj,List.length_map,hl],fun h0=>⟨b,o,rfl,hb (by omega),fun t u ht=>?_⟩⟩,by simpa using hl⟩,fun p hp=>?_⟩
 · have htl:t<len*5:=by
    have:=(List.getElem?_eq_some_iff.1 ht).1;rw[Xj,List.length_map,hl] at this;exact this
   obtain⟨i,j,hij,hj⟩:∃ i j,t=i*5+j∧j<5:=⟨t / 5,t % 5,by omega,by omega⟩;subst hij;have hi:i<es.length:=by omega
   rw[JAK (es.map evo) i j (by simpa using hi) hj] at ht;obtain⟨g0,g1,g2,g3,g4,_⟩:=h i es[i] (List.getElem?_eq_getElem hi);simp only[List.getElem_map,evo,opc] at ht;have hj5:j=0∨j=1∨j=2∨j=3∨j=4:=by omega
   rcases hj5 with rfl | rfl | rfl | rfl | rfl
   · simp at ht;subst ht;simpa using g0
   · simp at ht;subst ht;simpa [Nat.add_assoc] using g1
   · simp at ht;subst ht;simpa [Nat.add_assoc] using g2
   · simp at ht;subst ht;simpa [Nat.add_assoc] using g3
   · simp at ht;subst ht;simpa [Nat.add_assoc] using g4
 · obtain⟨i,hi,rfl⟩:=List.getElem_of_mem hp
   exact(h i es[i] (List.getElem?_eq_getElem hi)).2.2.2.2.2
theorem ZAD {H:Type} {enc:TypeId×Value→H} {W:World} {base:Nat} {spare:Nat→Bool} {held:Bool} {a0:Option Addr} {len0 cap0:Nat} {d:DataW H} {ps:List MemPlace} (h0:DataW.Trod enc Tryz.prog W base spare held 84 (.slice a0 len0 cap0) d ps) :
 ∃ zs,(EvsRd W a0 len0 zs∧len0≤cap0)∧len0≤9223372036854775807:=by
 obtain⟨fuel,hf⟩:=h0;rcases Ve Tryz.underlying84 Tryz.underlying88 (by kernel_rfl) (by kernel_rfl) hf with hcs | ⟨a,l,c,hcs,hl,hm,hi⟩
 · simp[Value.cells] at hcs
   obtain⟨rfl,rfl,rfl⟩:=hcs;exact⟨[],⟨⟨⟨Rd.nil _ _,rfl⟩,by simp⟩,by omega⟩,by omega⟩
 · simp[Value.cells] at hcs
   obtain⟨rfl,rfl,rfl⟩:=hcs
   have hi5:∀ i,i<len0→∃ p:Value×PEv,W.cell? (a.add (i*5+0))=some (.int .i64 p.2.k)∧W.cell? (a.add (i*5+1))=some (.int .i64 p.2.a)∧W.cell? (a.add (i*5+2))=some (.int .i64 p.2.b)∧W.cell? (a.add (i*5+3))=some (.int .i64 p.2.y)∧W.cell? (a.add (i*5+4))=some p.1∧PkRd W p.1 p.2.p:=by
    intro i hil;obtain⟨n,hj⟩:=hi i hil;obtain⟨u0,y0,hc0,ht0⟩:=hj 0 _ rfl;obtain⟨u1,y1,hc1,ht1⟩:=hj 1 _ rfl;obtain⟨u2,y2,hc2,ht2⟩:=hj 2 _ rfl;obtain⟨u3,y3,hc3,ht3⟩:=hj 3 _ rfl;obtain⟨u4,y4,hc4,ht4⟩:=hj 4 _ rfl;obtain⟨n0,e0,_,_⟩:=DataW.trod_int (k:=.i64) Tryz.underlying3 ht0;obtain⟨n1,e1,_,_⟩:=DataW.trod_int (k:=.i64) Tryz.underlying3 ht1;obtain⟨n2,e2,_,_⟩:=DataW.trod_int (k:=.i64) Tryz.underlying3 ht2;obtain⟨n3,e3,_,_⟩:=DataW.trod_int (k:=.i64) Tryz.underlying3 ht3;simp only[List.cons.injEq,and_true] at e0 e1 e2 e3;subst e0 e1 e2 e3
    have hpk:∃ zs,PkRd W u4 zs:=by
     rcases open_ints Tryz.underlying22 Tryz.underlying3 (by kernel_rfl) ht4 with⟨hcs,_⟩ | ⟨x,l,c,zs,hcs,_,hl',hm',hz,_,hcell,hwz⟩
     · simp only[List.cons.injEq,and_true] at hcs
       subst hcs;exact⟨[],none,0,0,rfl,by omega,Rd.nil _ _⟩
     · simp only[List.cons.injEq,and_true] at hcs
       subst hcs;exact⟨zs.take l,some x,l,c,rfl,by unfold maxLen at hm';omega,VBE (.inr ⟨x,rfl,by rw[hz];split <;> omega,hcell⟩)⟩
    obtain⟨zs,hpk⟩:=hpk;exact⟨(u4,⟨n0,n1,n2,n3,zs⟩),hc0,hc1,hc2,hc3,hc4,hpk⟩
   obtain⟨es,hes,hat⟩:∃ es:List (Value×PEv),es.length=len0∧∀ i p,es[i]? = some p→W.cell? (a.add (i*5+0))=some (.int .i64 p.2.k)∧W.cell? (a.add (i*5+1))=some (.int .i64 p.2.a)∧W.cell? (a.add (i*5+2))=some (.int .i64 p.2.b)∧W.cell? (a.add (i*5+3))=some (.int .i64 p.2.y)∧W.cell? (a.add (i*5+4))=some p.1∧PkRd W p.1 p.2.p:=by
    refine⟨(List.range len0).map fun i=>if h:i<len0 then Classical.choose (hi5 i h) else (.bool false,⟨0,0,0,0,[]⟩),by simp,fun i p hp=>?_⟩;rw[List.getElem?_map] at hp;rcases Nat.lt_or_ge i len0 with hil | hil
    · rw[List.getElem?_range hil,Option.map_some,Option.some.injEq,dif_pos hil] at hp
      have hch:=Classical.choose_spec (hi5 i hil)
      rwa [hp] at hch
    · rw[List.getElem?_eq_none (by simpa using hil)] at hp
      cases hp
   refine⟨es,⟨?_,hl⟩,by simpa [maxLen] using Nat.le_trans hl hm⟩;obtain⟨ab,ao,sp⟩:=a;rcases Nat.eq_zero_or_pos len0 with h00 | h00
   · obtain rfl:es=[]:=List.eq_nil_of_length_eq_zero (by omega)
     subst h00;exact⟨⟨Rd.nil _ _,rfl⟩,by simp⟩
   · have hz0:=(hat 0 es[0] (List.getElem?_eq_getElem (by omega))).1
     have hsp:sp=none:=by simpa [Addr.add] using World.cell?_spot hz0
     subst hsp;refine ZAz hes (fun _=>?_) (fun i p hp=>?_)
     · rw[Addr.add_mid] at hz0
       exact World.block_lt_of_cell? W _ hz0
     · obtain⟨g0,g1,g2,g3,g4,g5⟩:=hat i p hp
       rw[Addr.add_mid] at g0 g1 g2 g3 g4;exact⟨by simpa using g0,by simpa [Nat.add_assoc] using g1,by simpa [Nat.add_assoc] using g2,by simpa [Nat.add_assoc] using g3,by simpa [Nat.add_assoc] using g4,g5⟩
end
end Go.Proofs.YtkonbpfbjiepfaaGreat
