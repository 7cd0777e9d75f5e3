/-
  A part of the proof: lemmas, and contracts of functions; their conditions stand in them.
-/
import Derived.Test.YtmoagodllhdemaaGreatE12
import Derived.Test.YtmoagodllhdemaaGreatE08
import Derived.Test.YtmoagodllhdemaaGreatE11
import Derived.Test.YtmoagodllhdemaaGreatE10
import Derived.Test.YtmoagodllhdemaaGreatE01
namespace Go.Proofs.YtmoagodllhdemaaGreat
set_option linter.unusedSimpArgs false
set_option linter.unusedVariables false
set_option maxHeartbeats 8000000
set_option maxRecDepth 20000
section
open Go.RowKit
def QK (z:Int) (i ep:Nat):POp×Nat:=
 if z % 4=0 then (⟨3,0,0,((ep:Nat):Int)+1,[]⟩,ep+1) else if z % 4=1 then (⟨2,z % 10,2,0,[]⟩,ep) else (⟨1,z % 10,0,0,KL (i:Nat)⟩,ep)
def VD (zs:List Int):Nat→List POp×Nat
 | 0=>([],0)
 | n+1=>((VD zs n).1++[(QK (zs.getD n 0) n (VD zs n).2).1],(QK (zs.getD n 0) n (VD zs n).2).2)
theorem XW (zs:List Int) (n:Nat):(VD zs n).1.length=n:=by
 induction n with
 | zero=>rfl
 | succ n ih=>simp [VD,ih]
theorem QZ (zs:List Int) (n:Nat):(VD zs n).2≤n:=by
 induction n with
 | zero=>simp [VD]
 | succ n ih=>
   simp only [VD,QK]
   split
   · simp;exact ih
   · split <;> simp <;> omega
namespace OHold
variable {w w':World} {B:Nat} {F F':List Nat} {v:Value} {os:List (Value×POp)}
end OHold
structure Fresh (w wr:World) (s:Nat) (L:Value) (os:List (Value×POp)) (v:Value) (oz:List (Value×POp)):Prop where
 keep:Keep [s] w wr
 l:∀ g∈L.ownBlock.toList,w.heap.size≤g
 o:∀ p∈os,∀ g∈p.1.ownBlock.toList,w.heap.size≤g
 v:∀ g∈v.ownBlock.toList,w.heap.size≤g
 z:∀ p∈oz,∀ g∈p.1.ownBlock.toList,w.heap.size≤g
theorem Fresh.step {w wr w3 w4 w5 w6:World} {s:Nat} {L L' v v' uu X:Value} {os oz:List (Value×POp)} {o o':POp} (h:Fresh w wr s L os v oz) (hk3:Keep [] wr w3) (hk4:Keep (s :: L.ownBlock.toList) w3 w4) (hg4:Grow w3 (s :: L.ownBlock.toList) (s :: L'.ownBlock.toList)) (hu:∀ g∈uu.ownBlock.toList,w3.heap.size≤g)
 (hk5:Keep [] w4 w5) (hk6:Keep v.ownBlock.toList w5 w6) (hat:v'.ownBlock=v.ownBlock∨v'.ownBlock=some w5.heap.size) (hx:∀ g∈X.ownBlock.toList,wr.heap.size≤g) (hs:s∉L'.ownBlock.toList):Fresh w w6 s L' (os++[(uu,o)]) v' (oz++[(X,o')]):=by
 have h1:=h.keep.size
 have h3:=hk3.size
 have h4:=hk4.size
 have h5:=hk5.size
 refine ⟨(((h.keep.trans0 hk3).trans hk4 (fun x hx=>?_)).trans0 hk5).trans hk6 (fun x hx => .inr (h.v x hx)),fun g hg=>?_,fun p hp g hg=>?_,fun g hg=>?_,fun p hp g hg=>?_⟩
 · rcases List.mem_cons.1 hx with rfl | hx
   · exact .inl (by simp)
   · exact .inr (h.l x hx)
 · rcases hg4 g (List.mem_cons_of_mem _ hg) with hm | hm
   · rcases List.mem_cons.1 hm with rfl | hm
     · exact absurd hg hs
     · exact h.l g hm
   · omega
 · rcases List.mem_append.1 hp with hp | hp
   · exact h.o p hp g hg
   · obtain rfl:=List.mem_singleton.1 hp
     have:=hu g hg
     omega
 · rcases hat with e | e
   · rw [e] at hg;exact h.v g hg
   · rw [e] at hg;simp at hg;omega
 · rcases List.mem_append.1 hp with hp | hp
   · exact h.z p hp g hg
   · obtain rfl:=List.mem_singleton.1 hp
     have:=hx g hg
     omega
theorem ZAa (w0 w:World) (s view size:Nat) (hv:1≤view∧view≤2147483647) (h:Src w0 w s view size 0 0 0 0 (.slice none 0 0) []) (A:Option Addr) (len cap:Nat) (zs:List Int) (hz:Rd w0 A len (KP zs)) (hlen:len≤60) :
 Calls Tryz.prog 35 #[.pointer (some ⟨s,0,none⟩),.slice A len cap] w fun e w'=>∃ OA oc L os oz,e = .returned (.tuple #[.slice OA len oc,.bool true])∧Src w0 w' s view size (VD zs len).2 len 0 0 L os∧os.map (·.2)=(VD zs len).1 ∧
  oz.map (·.2)=(VD zs len).1∧OHold w' w0.heap.size (s :: L.ownBlock.toList) (.slice OA len oc) oz∧Fresh w w' s L os (.slice OA len oc) oz:=by
 have hzl:zs.length=len:=by simpa using hz.1
 have HZL:=JC hzl
 have hw0:=h.keep.size
 clear hzl
 go_enter Tryz.func35,Tryz.ntmps35
 go_wp2
 go_loopw [6,7,8] (fun v ep i wr=>∃ j L os oz,j≤len∧i = .int .i64 (j:Nat)∧ep = .int .i64 ((VD zs j).2:Nat)∧Src w0 wr s view size (VD zs j).2 j 0 0 L os∧Hid (os.map (·.2)=(VD zs j).1)∧Hid (oz.map (·.2)=(VD zs j).1)∧Hid (oz.length=j)∧OHold wr w0.heap.size (s :: L.ownBlock.toList) v oz∧Keep [] w0 wr∧Fresh w wr s L os v oz) (fun _ _ i _=>len-(intOf i).toNat)
 case atStart=>exact ⟨0,_,_,[],Nat.zero_le _,rfl,rfl,h,rfl,rfl,rfl,OHold.nil _ _ _,h.keep,⟨Keep.refl _ _,by simp [Value.ownBlock],by simp,by simp [Value.ownBlock],by simp⟩⟩
 case round=>
  clear h
  obtain ⟨j,L,os,oz,hj,rfl,rfl,hS,hos,hoz,hol,hO,hkw,hN⟩:=hrel
  obtain ⟨VA,vc,hvv,_⟩:=JB hO.row
  rw [JA hol] at hvv
  subst hvv
  by_cases hlt:j<len
  · obtain ⟨b,o,u,hA',hx,hb,hc⟩:=hz.at_ hlt
    subst hA'
    have hjl:j<zs.length:=by rw [JA HZL];exact hlt
    simp only [KP,List.getElem?_map,List.getElem?_eq_getElem hjl,Option.map_some,Option.some.injEq] at hx
    subst hx
    have hcw:wr.cell? ⟨b,o+j,none⟩=some (.int .i64 zs[j]):=(hS.keep.cell (b:=b) hb (by simp) (o+j)).trans hc
    have hgd:zs.getD j 0=zs[j]:=by rw [List.getD_eq_getElem?_getD,List.getElem?_eq_getElem hjl];rfl
    have hepj:=QZ zs j
    clear hc
    generalize zs[j]=z at *
    obtain ⟨bb,hbb,hbb10⟩:∃ bb:Nat,z % 10=(bb:Int)∧bb<10:=⟨(z % 10).toNat,by omega,by omega⟩
    have HR:∀ W:World,Calls Tryz.prog 19 #[.int .i64 z,.int .i64 10] W fun e w'=>e = .returned (.int .i64 (bb:Nat))∧W=w':=fun W=>by
     rw [← hbb];exact VP _ _ _ (by omega) (by omega)
    obtain ⟨q,hq,hq4⟩:∃ q:Nat,z % 4=(q:Int)∧q<4:=⟨(z % 4).toNat,by omega,by omega⟩
    have HR4:∀ W:World,Calls Tryz.prog 19 #[.int .i64 z,.int .i64 4] W fun e w'=>e = .returned (.int .i64 (q:Nat))∧W=w':=fun W=>by
     rw [← hq];exact VP _ _ _ (by omega) (by omega)
    have hF:=Vo (j:Nat) wr
    have HBB:=JC hbb
    have HQ:=JC hq
    have HGD:=JC hgd
    clear hbb hq hgd
    by_cases hq0:q=0
    · subst hq0
      go_wp2_with (first
       | (refine (HR _).mono ?_;clear HR;rintro r w' ⟨rfl,rfl⟩)
       | (refine hF.mono ?_;clear hF;rintro r w2 ⟨u,rfl,hu,hk2⟩;(obtain ⟨UA,uc,rfl,_⟩:=JB hu);(have hcw2:=(hk2.cell (Nat.lt_of_lt_of_le hb hS.keep.size) (by simp) (o+j)).trans hcw);have hbw2:b<w2.heap.size:=Nat.lt_of_lt_of_le hb (Nat.le_trans hS.keep.size hk2.size))
       | (refine (HR4 _).mono ?_;clear HR4;rintro r w' ⟨rfl,rfl⟩))
      have hk3:Keep [] wr (w2.alloc (.cells #[.int .i64 3,.int .i64 0,.int .i64 0,.int .i64 (((VD zs j).2:Nat)+1),.slice none 0 0] 46)):=hk2.alloc _
      have hS3:=hS.keep0 hk3
      have hO3:=hO.keep0 hk3
      have hb3:=Blk.new w2 46 #[.int .i64 3,.int .i64 0,.int .i64 0,.int .i64 (((VD zs j).2:Nat)+1),.slice none 0 0]
      have hu3:=ZD hu (.cells #[.int .i64 3,.int .i64 0,.int .i64 0,.int .i64 (((VD zs j).2:Nat)+1),.slice none 0 0] 46)
      have hbL:w2.heap.size∉s :: L.ownBlock.toList:=fun hm=>by
       have h1:=hS.lt
       have h2:=hk2.size
       rcases List.mem_cons.1 hm with e | hm
       · omega
       · have:=(own_mem hS.row hm).2;omega
      have hT:=YAk w0 _ s view size (VD zs j).2 j 0 0 L os hS3 hv (by omega) (by omega) (by omega)
      go_wp2_with (first
       | (at_builtin;refine elemOps.wp_app rfl _ _ rfl w0.heap.size _ oz.length (oz.flatMap opc) rfl (ZD hv0 _) ⟨w4.heap.size,0,none⟩ 1 1 (opc ((.slice none 0 0),⟨3,0,0,((VD zs j).2:Nat)+1,[]⟩)) rfl hrdB (Yg _ rfl) (by have:=JA hol;omega) (by have:=JA hol;omega) (by have:=hkw4.size;simp;omega) ?_)
       | (
          (refine hT.mono ?_)
          clear hT
          rintro r w4 ⟨L',uu,rfl,hS4,hk4,hg4,huu⟩
          have hb4:=hb3.keep hk4 hbL
          have hb4l:=hb4.lt
          obtain ⟨d0,d1,d2,d3,d4⟩:=QC hb4
          have hO4:=hO3.turn hk4 (fun x hx=>hx) hg4
          have hXo:w4.ownsRow w0.heap.size 5 1 (.slice none 0 0) 0 (bys []):=World.ownsRow_nil _ _ _ _
          have hXs:∀ g∈((.slice none 0 0):Value).ownBlock.toList,g∉s :: L'.ownBlock.toList:=fun g hg hm=>by
           rcases List.mem_cons.1 hm with rfl | hm
           · exact own_blk_ne hXo hS4.blk (by decide) (by simpa using hg)
           · exact own_ne hXo hS4.row (by decide) (by simpa using hg) (by simpa using hm)
          have hkw4:Keep [] w0 w4:=hS4.keep
          have hrdB:Rd (w4.alloc (.cells #[.int .i64 3,.int .i64 0,.int .i64 0,.int .i64 (((VD zs j).2:Nat)+1),.slice none 0 0] 46)) (some ⟨w4.heap.size,0,none⟩) (1*5) (opc ((.slice none 0 0),⟨3,0,0,((VD zs j).2:Nat)+1,[]⟩)):=by
           have:=Rd.of_blk (n:=5) (Blk.new w4 46 #[.int .i64 3,.int .i64 0,.int .i64 0,.int .i64 (((VD zs j).2:Nat)+1),.slice none 0 0]) (by simp)
           simpa [opc] using this
          have hv0:=hO4.row))
      intro v' w6 hv' hk6 hat _
      obtain ⟨VA',vc',hvv',_⟩:=JB hv'
      subst hvv'
      have hkA:Keep [] w4 (w4.alloc (.cells #[.int .i64 3,.int .i64 0,.int .i64 0,.int .i64 (((VD zs j).2:Nat)+1),.slice none 0 0] 46)):=(Keep.refl _ _).alloc _
      have hSB:=hS4.keep0 hkA
      have hOB:=hO4.keep0 hkA
      have hS6:=hSB.keepL hk6 (fun x hx=>(own_mem hOB.row hx).1) (fun hm=>hOB.off _ hm List.mem_cons_self) (fun g hg hm=>hOB.off _ hm (List.mem_cons_of_mem _ hg)) (fun p hp g hg hm=>own_ne (hSB.data p hp) hOB.row (by decide) (by simpa using hg) (by simpa using hm))
      go_wp2
      go_roundw
      case rel=>
       have hsd:QK (zs.getD j 0) j (VD zs j).2=(⟨3,0,0,((VD zs j).2:Nat)+1,[]⟩,(VD zs j).2+1):=by
        rw [JA HGD];simp [QK,JA HQ]
       have hs1:(VD zs (j+1)).1=(VD zs j).1++[⟨3,0,0,((VD zs j).2:Nat)+1,[]⟩]:=by simp only [VD,hsd]
       have hs2:(VD zs (j+1)).2=(VD zs j).2+1:=by simp only [VD,hsd]
       refine ⟨j+1,L',os++[(uu,⟨3,0,0,((VD zs j).2:Nat)+1,[]⟩)],oz++[((.slice none 0 0),⟨3,0,0,((VD zs j).2:Nat)+1,[]⟩)],by omega,by go_num,by rw [hs2];go_num,by rw [hs2];exact hS6,?_,?_,?_,⟨?_,?_,?_,?_,?_⟩,hS6.keep,hN.step hk3 hk4 hg4 huu hkA hk6 (by rw [World.size_alloc];exact hat) (by simp [Value.ownBlock]) hS4.not_mem⟩
       · show _=_;rw [List.map_append,JA hos,hs1];rfl
       · show _=_;rw [List.map_append,JA hoz,hs1];rfl
       · show _=_;rw [List.length_append,JA hol];rfl
       · rw [List.length_append,List.flatMap_append,List.flatMap_singleton];exact hv'
       · intro p hp
         rcases List.mem_append.1 hp with hp | hp
         · exact QB (hOB.data p hp) hk6 (fun g hg hm=>own_ne (hOB.data p hp) hOB.row (by decide) hg (by simpa using hm))
         · obtain rfl:=List.mem_singleton.1 hp
           exact QB (XB hXo hkA) hk6 (fun g hg hm=>own_ne (XB hXo hkA) hOB.row (by decide) hg (by simpa using hm))
       · intro p hp
         rcases List.mem_append.1 hp with hp | hp
         · exact hO4.small p hp
         · rw [List.mem_singleton.1 hp];simp
       · intro g hg hm
         rcases hat with e | e
         · rw [e] at hg;exact hO4.off g hg hm
         · rw [e] at hg
           obtain rfl:g=_:=by simpa using hg
           rcases List.mem_cons.1 hm with e | hm
           · have:=hS4.lt;omega
           · have:=(own_mem hS4.row hm).2;omega
       · intro p hp
         rcases List.mem_append.1 hp with hp | hp
         · exact hO4.offs p hp
         · obtain rfl:=List.mem_singleton.1 hp
           exact hXs
      case measure=>simp [intOf];omega
    by_cases hq1:q=1
    · subst hq1
      go_wp2_with (first
       | (refine (HR _).mono ?_;clear HR;rintro r w' ⟨rfl,rfl⟩)
       | (refine hF.mono ?_;clear hF;rintro r w2 ⟨u,rfl,hu,hk2⟩;(obtain ⟨UA,uc,rfl,_⟩:=JB hu);(have hcw2:=(hk2.cell (Nat.lt_of_lt_of_le hb hS.keep.size) (by simp) (o+j)).trans hcw);have hbw2:b<w2.heap.size:=Nat.lt_of_lt_of_le hb (Nat.le_trans hS.keep.size hk2.size))
       | (refine (HR4 _).mono ?_;clear HR4;rintro r w' ⟨rfl,rfl⟩))
      have hk3:Keep [] wr (w2.alloc (.cells #[.int .i64 2,.int .i64 (bb:Nat),.int .i64 2,.int .i64 0,.slice none 0 0] 46)):=hk2.alloc _
      have hS3:=hS.keep0 hk3
      have hO3:=hO.keep0 hk3
      have hb3:=Blk.new w2 46 #[.int .i64 2,.int .i64 (bb:Nat),.int .i64 2,.int .i64 0,.slice none 0 0]
      have hu3:=ZD hu (.cells #[.int .i64 2,.int .i64 (bb:Nat),.int .i64 2,.int .i64 0,.slice none 0 0] 46)
      have hbL:w2.heap.size∉s :: L.ownBlock.toList:=fun hm=>by
       have h1:=hS.lt
       have h2:=hk2.size
       rcases List.mem_cons.1 hm with e | hm
       · omega
       · have:=(own_mem hS.row hm).2;omega
      have hT:=XAj w0 _ s view size (VD zs j).2 j 0 0 L os hS3 (bb:Nat) 2 hv (by omega) (by omega) (by omega) (by omega)
      go_wp2_with (first
       | (at_builtin;refine elemOps.wp_app rfl _ _ rfl w0.heap.size _ oz.length (oz.flatMap opc) rfl (ZD hv0 _) ⟨w4.heap.size,0,none⟩ 1 1 (opc ((.slice none 0 0),⟨2,(bb:Nat),2,0,[]⟩)) rfl hrdB (Yg _ rfl) (by have:=JA hol;omega) (by have:=JA hol;omega) (by have:=hkw4.size;simp;omega) ?_)
       | (
          (refine hT.mono ?_)
          clear hT
          rintro r w4 ⟨L',uu,rfl,hS4,hk4,hg4,huu⟩
          have hb4:=hb3.keep hk4 hbL
          have hb4l:=hb4.lt
          obtain ⟨d0,d1,d2,d3,d4⟩:=QC hb4
          have hO4:=hO3.turn hk4 (fun x hx=>hx) hg4
          have hXo:w4.ownsRow w0.heap.size 5 1 (.slice none 0 0) 0 (bys []):=World.ownsRow_nil _ _ _ _
          have hXs:∀ g∈((.slice none 0 0):Value).ownBlock.toList,g∉s :: L'.ownBlock.toList:=fun g hg hm=>by
           rcases List.mem_cons.1 hm with rfl | hm
           · exact own_blk_ne hXo hS4.blk (by decide) (by simpa using hg)
           · exact own_ne hXo hS4.row (by decide) (by simpa using hg) (by simpa using hm)
          have hkw4:Keep [] w0 w4:=hS4.keep
          have hrdB:Rd (w4.alloc (.cells #[.int .i64 2,.int .i64 (bb:Nat),.int .i64 2,.int .i64 0,.slice none 0 0] 46)) (some ⟨w4.heap.size,0,none⟩) (1*5) (opc ((.slice none 0 0),⟨2,(bb:Nat),2,0,[]⟩)):=by
           have:=Rd.of_blk (n:=5) (Blk.new w4 46 #[.int .i64 2,.int .i64 (bb:Nat),.int .i64 2,.int .i64 0,.slice none 0 0]) (by simp)
           simpa [opc] using this
          have hv0:=hO4.row))
      intro v' w6 hv' hk6 hat _
      obtain ⟨VA',vc',hvv',_⟩:=JB hv'
      subst hvv'
      have hkA:Keep [] w4 (w4.alloc (.cells #[.int .i64 2,.int .i64 (bb:Nat),.int .i64 2,.int .i64 0,.slice none 0 0] 46)):=(Keep.refl _ _).alloc _
      have hSB:=hS4.keep0 hkA
      have hOB:=hO4.keep0 hkA
      have hS6:=hSB.keepL hk6 (fun x hx=>(own_mem hOB.row hx).1) (fun hm=>hOB.off _ hm List.mem_cons_self) (fun g hg hm=>hOB.off _ hm (List.mem_cons_of_mem _ hg)) (fun p hp g hg hm=>own_ne (hSB.data p hp) hOB.row (by decide) (by simpa using hg) (by simpa using hm))
      go_wp2
      go_roundw
      case rel=>
       have hsd:QK (zs.getD j 0) j (VD zs j).2=(⟨2,(bb:Nat),2,0,[]⟩,(VD zs j).2):=by
        rw [JA HGD];simp [QK,JA HQ,JA HBB]
       have hs1:(VD zs (j+1)).1=(VD zs j).1++[⟨2,(bb:Nat),2,0,[]⟩]:=by simp only [VD,hsd]
       have hs2:(VD zs (j+1)).2=(VD zs j).2:=by simp only [VD,hsd]
       refine ⟨j+1,L',os++[(uu,⟨2,(bb:Nat),2,0,[]⟩)],oz++[((.slice none 0 0),⟨2,(bb:Nat),2,0,[]⟩)],by omega,by go_num,by rw [hs2],by rw [hs2];exact hS6,?_,?_,?_,⟨?_,?_,?_,?_,?_⟩,hS6.keep,hN.step hk3 hk4 hg4 huu hkA hk6 (by rw [World.size_alloc];exact hat) (by simp [Value.ownBlock]) hS4.not_mem⟩
       · show _=_;rw [List.map_append,JA hos,hs1];rfl
       · show _=_;rw [List.map_append,JA hoz,hs1];rfl
       · show _=_;rw [List.length_append,JA hol];rfl
       · rw [List.length_append,List.flatMap_append,List.flatMap_singleton];exact hv'
       · intro p hp
         rcases List.mem_append.1 hp with hp | hp
         · exact QB (hOB.data p hp) hk6 (fun g hg hm=>own_ne (hOB.data p hp) hOB.row (by decide) hg (by simpa using hm))
         · obtain rfl:=List.mem_singleton.1 hp
           exact QB (XB hXo hkA) hk6 (fun g hg hm=>own_ne (XB hXo hkA) hOB.row (by decide) hg (by simpa using hm))
       · intro p hp
         rcases List.mem_append.1 hp with hp | hp
         · exact hO4.small p hp
         · rw [List.mem_singleton.1 hp];simp
       · intro g hg hm
         rcases hat with e | e
         · rw [e] at hg;exact hO4.off g hg hm
         · rw [e] at hg
           obtain rfl:g=_:=by simpa using hg
           rcases List.mem_cons.1 hm with e | hm
           · have:=hS4.lt;omega
           · have:=(own_mem hS4.row hm).2;omega
       · intro p hp
         rcases List.mem_append.1 hp with hp | hp
         · exact hO4.offs p hp
         · obtain rfl:=List.mem_singleton.1 hp
           exact hXs
      case measure=>simp [intOf];omega
    have hqb0:((q:Int) == 0)=false:=by simp;omega
    have hqb1:((q:Int) == 1)=false:=by simp;omega
    clear hq0 hq1
    by_cases hqt:True
    · skip
      go_wp2_with (first
       | (refine (HR _).mono ?_;clear HR;rintro r w' ⟨rfl,rfl⟩)
       | (refine hF.mono ?_;clear hF;rintro r w2 ⟨u,rfl,hu,hk2⟩;(obtain ⟨UA,uc,rfl,_⟩:=JB hu);(have hcw2:=(hk2.cell (Nat.lt_of_lt_of_le hb hS.keep.size) (by simp) (o+j)).trans hcw);have hbw2:b<w2.heap.size:=Nat.lt_of_lt_of_le hb (Nat.le_trans hS.keep.size hk2.size))
       | (refine (HR4 _).mono ?_;clear HR4;rintro r w' ⟨rfl,rfl⟩))
      have hk3:Keep [] wr (w2.alloc (.cells #[.int .i64 1,.int .i64 (bb:Nat),.int .i64 0,.int .i64 0,.slice UA 64 uc] 46)):=hk2.alloc _
      have hS3:=hS.keep0 hk3
      have hO3:=hO.keep0 hk3
      have hb3:=Blk.new w2 46 #[.int .i64 1,.int .i64 (bb:Nat),.int .i64 0,.int .i64 0,.slice UA 64 uc]
      have hu3:=ZD hu (.cells #[.int .i64 1,.int .i64 (bb:Nat),.int .i64 0,.int .i64 0,.slice UA 64 uc] 46)
      have hbL:w2.heap.size∉s :: L.ownBlock.toList:=fun hm=>by
       have h1:=hS.lt
       have h2:=hk2.size
       rcases List.mem_cons.1 hm with e | hm
       · omega
       · have:=(own_mem hS.row hm).2;omega
      have hT:=Zt w0 _ s view size (VD zs j).2 j 0 0 L os hS3 (bb:Nat) UA 64 uc (KL (j:Nat)) (Rd.of_own hu3) (by simp) hv (by omega) (by omega) (by omega)
      obtain ⟨x0,x1,x2,x3,x4⟩:=QC hb3
      go_wp2_with (first
       | (at_builtin;refine elemOps.wp_app rfl _ _ rfl w0.heap.size _ oz.length (oz.flatMap opc) rfl (ZD hv0 _) ⟨w4.heap.size,0,none⟩ 1 1 (opc ((.slice UA 64 uc),⟨1,(bb:Nat),0,0,(KL (j:Nat))⟩)) rfl hrdB (Yg _ rfl) (by have:=JA hol;omega) (by have:=JA hol;omega) (by have:=hkw4.size;simp;omega) ?_)
       | (
          (refine hT.mono ?_)
          clear hT
          rintro r w4 ⟨L',uu,rfl,hS4,hk4,hg4,huu⟩
          have hb4:=hb3.keep hk4 hbL
          have hb4l:=hb4.lt
          obtain ⟨d0,d1,d2,d3,d4⟩:=QC hb4
          have hO4:=hO3.turn hk4 (fun x hx=>hx) hg4
          have hXo:w4.ownsRow w0.heap.size 5 1 (.slice UA 64 uc) 64 (bys (KL (j:Nat))):=YC (QB hu3 hk4 (fun g hg hm=>by
           have h1:=(own_mem hu (g:=g) (by simpa using hg)).1
           rcases List.mem_cons.1 hm with e | hm
           · have:=hS.lt;omega
           · have:=(own_mem hS.row hm).2;omega)) hS.keep.size
          have hXs:∀ g∈((.slice UA 64 uc):Value).ownBlock.toList,g∉s :: L'.ownBlock.toList:=fun g hg hm=>by
           rcases List.mem_cons.1 hm with rfl | hm
           · exact own_blk_ne hXo hS4.blk (by decide) (by simpa using hg)
           · exact own_ne hXo hS4.row (by decide) (by simpa using hg) (by simpa using hm)
          have hkw4:Keep [] w0 w4:=hS4.keep
          have hrdB:Rd (w4.alloc (.cells #[.int .i64 1,.int .i64 (bb:Nat),.int .i64 0,.int .i64 0,.slice UA 64 uc] 46)) (some ⟨w4.heap.size,0,none⟩) (1*5) (opc ((.slice UA 64 uc),⟨1,(bb:Nat),0,0,(KL (j:Nat))⟩)):=by
           have:=Rd.of_blk (n:=5) (Blk.new w4 46 #[.int .i64 1,.int .i64 (bb:Nat),.int .i64 0,.int .i64 0,.slice UA 64 uc]) (by simp)
           simpa [opc] using this
          have hv0:=hO4.row))
      intro v' w6 hv' hk6 hat _
      obtain ⟨VA',vc',hvv',_⟩:=JB hv'
      subst hvv'
      have hkA:Keep [] w4 (w4.alloc (.cells #[.int .i64 1,.int .i64 (bb:Nat),.int .i64 0,.int .i64 0,.slice UA 64 uc] 46)):=(Keep.refl _ _).alloc _
      have hSB:=hS4.keep0 hkA
      have hOB:=hO4.keep0 hkA
      have hS6:=hSB.keepL hk6 (fun x hx=>(own_mem hOB.row hx).1) (fun hm=>hOB.off _ hm List.mem_cons_self) (fun g hg hm=>hOB.off _ hm (List.mem_cons_of_mem _ hg)) (fun p hp g hg hm=>own_ne (hSB.data p hp) hOB.row (by decide) (by simpa using hg) (by simpa using hm))
      go_wp2
      go_roundw
      case rel=>
       have hsd:QK (zs.getD j 0) j (VD zs j).2=(⟨1,(bb:Nat),0,0,(KL (j:Nat))⟩,(VD zs j).2):=by
        rw [JA HGD];have h0:¬ (q=0):=by simpa using hqb0
        have h1:¬ ((q:Int)=1):=by simpa using hqb1
        unfold QK
        rw [if_neg (by rw [JA HQ];omega),if_neg (by rw [JA HQ];omega),JA HBB]
       have hs1:(VD zs (j+1)).1=(VD zs j).1++[⟨1,(bb:Nat),0,0,(KL (j:Nat))⟩]:=by simp only [VD,hsd]
       have hs2:(VD zs (j+1)).2=(VD zs j).2:=by simp only [VD,hsd]
       refine ⟨j+1,L',os++[(uu,⟨1,(bb:Nat),0,0,(KL (j:Nat))⟩)],oz++[((.slice UA 64 uc),⟨1,(bb:Nat),0,0,(KL (j:Nat))⟩)],by omega,by go_num,by rw [hs2],by rw [hs2];exact hS6,?_,?_,?_,⟨?_,?_,?_,?_,?_⟩,hS6.keep,hN.step hk3 hk4 hg4 huu hkA hk6 (by rw [World.size_alloc];exact hat) (fun g hg=>(own_mem hu hg).1) hS4.not_mem⟩
       · show _=_;rw [List.map_append,JA hos,hs1];rfl
       · show _=_;rw [List.map_append,JA hoz,hs1];rfl
       · show _=_;rw [List.length_append,JA hol];rfl
       · rw [List.length_append,List.flatMap_append,List.flatMap_singleton];exact hv'
       · intro p hp
         rcases List.mem_append.1 hp with hp | hp
         · exact QB (hOB.data p hp) hk6 (fun g hg hm=>own_ne (hOB.data p hp) hOB.row (by decide) hg (by simpa using hm))
         · obtain rfl:=List.mem_singleton.1 hp
           exact QB (XB hXo hkA) hk6 (fun g hg hm=>own_ne (XB hXo hkA) hOB.row (by decide) hg (by simpa using hm))
       · intro p hp
         rcases List.mem_append.1 hp with hp | hp
         · exact hO4.small p hp
         · rw [List.mem_singleton.1 hp];simp
       · intro g hg hm
         rcases hat with e | e
         · rw [e] at hg;exact hO4.off g hg hm
         · rw [e] at hg
           obtain rfl:g=_:=by simpa using hg
           rcases List.mem_cons.1 hm with e | hm
           · have:=hS4.lt;omega
           · have:=(own_mem hS4.row hm).2;omega
       · intro p hp
         rcases List.mem_append.1 hp with hp | hp
         · exact hO4.offs p hp
         · obtain rfl:=List.mem_singleton.1 hp
           exact hXs
      case measure=>simp [intOf];omega
    exact absurd trivial hqt
  · obtain rfl:len=j:=by omega
    go_wp2
    go_ret2
    exact ⟨VA,vc,L,os,oz,rfl,hS,JA hos,JA hoz,hO,hN⟩
end
section
open Go.RowKit
theorem KAE (z:Int) (i ep view q:Nat) (hv:1≤view∧view≤2147483647) (hq:1≤q∧q≤1000000) (he:ep≤1000000) :
 FrMay (QK z i ep).1.k view (q:Nat) (QK z i ep).1.b (QK z i ep).1.c (QK z i ep).1.e 0 (QK z i ep).1.d∧(QK z i ep).1.k≠8∧(QK z i ep).1.k≠9:=by
 unfold QK
 split
 · refine ⟨⟨by omega,.inr (.inr (.inl ⟨rfl,by omega,rfl,rfl,?_,rfl,rfl⟩))⟩,?_,?_⟩ <;> dsimp only <;> omega
 · split
   · refine ⟨⟨by omega,.inr (.inl ⟨rfl,by omega,?_,?_,rfl,rfl,rfl⟩)⟩,?_,?_⟩ <;> dsimp only <;> omega
   · refine ⟨⟨by omega,.inl ⟨rfl,by omega,?_,rfl,rfl,rfl,?_⟩⟩,?_,?_⟩ <;> first | simp;done | (dsimp only;omega)
theorem KAY (zs:List Int) (n i:Nat) (h:i<n):(VD zs n).1[i]? = some (QK (zs.getD i 0) i (VD zs i).2).1:=by
 induction n with
 | zero=>omega
 | succ n ih=>
   simp only [VD]
   rcases Nat.lt_or_ge i n with h1 | h1
   · rw [List.getElem?_append_left (by rw [XW];exact h1)];exact ih h1
   · obtain rfl:i=n:=by omega
     rw [List.getElem?_append_right (by rw [XW];omega),XW,Nat.sub_self]
     rfl
theorem Jm (zs:List Int) (n view:Nat) (hn:n≤60) (hv:1≤view∧view≤2147483647) (d i:Nat) (o:POp) (h:((VD zs n).1.drop d)[i]? = some o) :
 FrMay o.k view ((d+1+i:Nat):Int) o.b o.c o.e 0 o.d∧o.k≠8∧o.k≠9:=by
 rw [List.getElem?_drop] at h
 have hl:=(List.getElem?_eq_some_iff.1 h).1
 rw [XW] at hl
 rw [KAY zs n _ hl] at h
 have:=QZ zs (d+i)
 obtain rfl:=Option.some.inj h
 exact KAE _ _ _ view (d+1+i) hv (by omega) (by omega)
end
section
open Go.RowKit
def put5 (w:World) (g:Nat) (x0 x1 x2 x3 x4:Value):World:=
 ((((w.setCell ⟨g,0,none⟩ x0).setCell ⟨g,1,none⟩ x1).setCell ⟨g,2,none⟩ x2).setCell ⟨g,3,none⟩ x3).setCell ⟨g,4,none⟩ x4
theorem Blk.put5 {w:World} {g:Nat} {t:TypeId} {y0 y1 y2 y3 y4:Value} (h:Blk w g t #[y0,y1,y2,y3,y4]) (x0 x1 x2 x3 x4:Value):Blk (Go.Proofs.YtmoagodllhdemaaGreat.put5 w g x0 x1 x2 x3 x4) g t #[x0,x1,x2,x3,x4]:=by
 have:=((((h.set 0 x0).set 1 x1).set 2 x2).set 3 x3).set 4 x4
 simpa [Go.Proofs.YtmoagodllhdemaaGreat.put5] using this
theorem Keep.put5 (w:World) (g:Nat) (x0 x1 x2 x3 x4:Value):Keep [g] w (Go.Proofs.YtmoagodllhdemaaGreat.put5 w g x0 x1 x2 x3 x4):=
 ((((((Keep.refl [g] w).setCell (p:=⟨g,0,none⟩) (.inl (by simp)) _).setCell (p:=⟨g,1,none⟩) (.inl (by simp)) _).setCell (p:=⟨g,2,none⟩) (.inl (by simp)) _).setCell (p:=⟨g,3,none⟩) (.inl (by simp)) _).setCell (p:=⟨g,4,none⟩) (.inl (by simp)) _)
theorem XAu (k v s b c e d:Int) (A:Option Addr) (n m:Nat) (xs:List UInt8) (w:World) (ha:Rd w A n (bys xs)) (hn:n≤140737488355328) (hk8:k≠8) (hk9:k≠9) (hmay:FrMay k v s b c e d xs) :
 Calls Tryz.prog 55 #[frv k v s b c e d (.slice A n m)] w fun r w'=>∃ u,r = .returned (.tuple #[.agg #[.int .i64 k,.int .i64 b,.int .i64 c,.int .i64 e,u],.bool true]) ∧
  w'.ownsRow w.heap.size 5 1 u n (bys xs)∧Keep [] w w':=by
 have hCl:=fun W (hk:Keep [] w W)=>ZL A n m xs W (ha.keep hk) hn
 have hM:=fun W (hk:Keep [] w W)=>Qf k v s b c e d A n m xs W (ha.keep hk)
 rw [decide_eq_true hmay] at hM
 unfold frv at hM
 unfold frv
 have hbl:=Blk.new w 85 #[.int .i64 k,.int .i64 v,.int .i64 s,.int .i64 b,.int .i64 c,.int .i64 e,.int .i64 d,.slice A n m]
 have hbA:=hbl.alloc (.cells #[.int .i64 0,.int .i64 0,.int .i64 0,.int .i64 0,.slice none 0 0] 46)
 have hz0:=Blk.new (w.alloc (.cells #[.int .i64 k,.int .i64 v,.int .i64 s,.int .i64 b,.int .i64 c,.int .i64 e,.int .i64 d,.slice A n m] 85)) 46 #[.int .i64 0,.int .i64 0,.int .i64 0,.int .i64 0,.slice none 0 0]
 rw [show (w.alloc (.cells #[.int .i64 k,.int .i64 v,.int .i64 s,.int .i64 b,.int .i64 c,.int .i64 e,.int .i64 d,.slice A n m] 85)).heap.size=w.heap.size+1 by simp] at hz0
 have hkA:Keep [] w ((w.alloc (.cells #[.int .i64 k,.int .i64 v,.int .i64 s,.int .i64 b,.int .i64 c,.int .i64 e,.int .i64 d,.slice A n m] 85)).alloc (.cells #[.int .i64 0,.int .i64 0,.int .i64 0,.int .i64 0,.slice none 0 0] 46)):=((Keep.refl _ _).alloc _).alloc _
 have hM1:=hM _ hkA
 have e8:(k == 8)=false:=by simpa using hk8
 have e9:(k == 9)=false:=by simpa using hk9
 clear hM hk8 hk9 hmay
 go_enter Tryz.func55,Tryz.ntmps55
 go_wp2_with (
  (refine hM1.mono ?_)
  clear hM1
  rintro r w2 ⟨rfl,hk2⟩
  have hB2:=hbA.keep0 hk2
  have hz2:=hz0.keep0 hk2
  have hkw2:=hkA.trans0 hk2
  obtain ⟨c0,c1,c2,c3,c4,c5,c6,c7⟩:=YB hB2
  have hlt:=hB2.lt)
 have hkD:Keep [] w2 w2.drew:=(Keep.refl _ _).drew
 obtain ⟨d0,d1,d2,d3,d4,d5,d6,d7⟩:=YB (hB2.keep0 hkD)
 clear c0 c1 c2 c3 c4 c5 c6 c7
 refine KA (fun w'=>w'.cell? ⟨w.heap.size,0,none⟩=some (.int .i64 k)∧w'.cell? ⟨w.heap.size,3,none⟩=some (.int .i64 b)∧w'.cell? ⟨w.heap.size,4,none⟩=some (.int .i64 c)∧w'.cell? ⟨w.heap.size,5,none⟩=some (.int .i64 e)∧w'.cell? ⟨w.heap.size,7,none⟩=some (.slice A n m)) 11 [(0,false),(1,false),(2,false),(3,false),(4,false),(5,false),(6,false),(7,false),(8,false),(9,false),(10,true)]
  (by kernel_rfl) (by kernel_rfl) (fun _ _ d _ _ h=>by cases d <;> exact h) ⟨d0,d3,d4,d5,d7⟩ ?_
 simp only [PI]
 iterate 10 (refine ZB ?_ (by rfl) ?_ ?_;rotate_left;(focus (rintro W ⟨hW1,hW2,hW3,hW4,hW5⟩;go_simp;try with_reducible rfl));simp only [Act.put,PU])
 refine KB (by rfl) (fun K hK=>?_)
 have hC1:=hCl _ (hkw2.trans0 hkD)
 go_wp2_with (
  (refine hC1.mono ?_)
  clear hC1
  rintro r w3 ⟨u,rfl,hu,hk3,_⟩
  obtain ⟨UA,uc,rfl,_⟩:=JB hu)
 replace hk3:Keep [] w2 w3:=hkD.trans0 hk3
 obtain ⟨f0,f1,f2,f3,f4,f5,f6,f7⟩:=YB (hB2.keep0 hk3)
 refine hK _ _ (⟨f0,f3,f4,f5,f7⟩) ?_
 clear hK K
 try simp only [Act.put,PU]
 refine ZC ?_
 have hz:=hz2.keep0 hk3
 have hzl:=hz.lt
 obtain ⟨z0,z1,z2,z3,z4⟩:=QC hz
 have q0:=hz.frozen 0
 have q1:=hz.frozen 1
 have q2:=hz.frozen 2
 have q3:=hz.frozen 3
 have q4:=hz.frozen 4
 clear hCl hbl hbA hz0 hkA
 go_wp2
 have h8:=hz.put5 (.int .i64 k) (.int .i64 b) (.int .i64 c) (.int .i64 e) (.slice UA n uc)
 have hk8':=Keep.put5 w3 (w.heap.size+1) (.int .i64 k) (.int .i64 b) (.int .i64 c) (.int .i64 e) (.slice UA n uc)
 unfold put5 at h8 hk8'
 obtain ⟨g0,g1,g2,g3,g4⟩:=QC h8
 refine bodyPost_ret (v := .tuple #[.agg #[.int .i64 k,.int .i64 b,.int .i64 c,.int .i64 e,.slice UA n uc],.bool true]) (by simp [results,Tryz.results55,go_sem,g0,g1,g2,g3,g4]) rfl ⟨_,rfl,?_,(hkw2.trans0 hk3).trans hk8' (fun x hx => .inr (by simp at hx;omega))⟩
 refine QB (YC hu (by have:=hkw2.size;simpa using this)) hk8' (fun g hg hm=>?_)
 have h1:=(own_mem hu (g:=g) (by simpa using hg)).1
 have h2:=hz2.lt
 simp at hm h1
 omega
end
section
open Go.RowKit
theorem QAY (w:World):Calls Tryz.prog 101 #[.agg #[.int .i64 0,.int .i64 0,.int .i64 0]] w fun e w'=>e = .returned (.tuple #[.pointer none,.int .i64 1])∧Keep [] w w':=by
 have hT1:=fun W=>YG 0 1 64 W
 rw [decide_eq_false (by omega)] at hT1
 go_enter Tryz.func101,Tryz.ntmps101
 go_wp2_with (first | (refine (hT1 _).mono ?_;clear hT1;rintro e w' ⟨rfl,rfl⟩))
 go_ret2
 exact ⟨rfl,(Keep.refl _ _).alloc _⟩
theorem KI {w:World} {g:Nat} {t:TypeId} {x0 x1 x2 x3 x4:Value} (h:Blk w g t #[x0,x1,x2,x3,x4]) :
 w.cell? ⟨g,0,none⟩=some x0∧w.cell? ⟨g,1,none⟩=some x1∧w.cell? ⟨g,2,none⟩=some x2∧w.cell? ⟨g,3,none⟩=some x3∧w.cell? ⟨g,4,none⟩=some x4:=
 ⟨by simpa using h.cell 0,by simpa using h.cell 1,by simpa using h.cell 2,by simpa using h.cell 3,by simpa using h.cell 4⟩
theorem XAK (B id mount:Nat) (h1:1≤B) (h2:B≤64) (h3:id≤2147483647) (h4:1≤mount∧mount≤2147483647) (w:World) :
 Calls Tryz.prog 240 #[.agg #[.int .i64 B,.int .i64 8,.int .i64 24,.int .i64 id,.int .i64 mount]] w fun e w'=>e = .returned (.bool true)∧Keep [] w w':=by
 have hG:=fun W=>Xw W B h1 h2
 have hBk:=Blk.new w 242 #[.int .i64 B,.int .i64 8,.int .i64 24,.int .i64 id,.int .i64 mount]
 obtain ⟨h5,h6⟩:=h4
 have i1:((id:Nat):Int)≤2147483647:=by omega
 have i2:(1:Int)≤(mount:Nat):=by omega
 have i3:((mount:Nat):Int)≤2147483647:=by omega
 go_enter Tryz.func240,Tryz.ntmps240
 go_wp2_with (
  (refine (hG _).mono ?_)
  clear hG
  rintro e w2 ⟨g,rfl,-,-,hk2⟩
  have hB2:=hBk.keep0 hk2
  obtain ⟨c0,c1,c2,c3,c4⟩:=KI hB2
  have hlt:=hB2.lt
  clear hBk hB2)
 go_ret
 exact ⟨rfl,((Keep.refl _ _).alloc _).trans0 hk2⟩
theorem QAQ (w:World) :
 Calls Tryz.prog 240 #[.agg #[.int .i64 0,.int .i64 0,.int .i64 0,.int .i64 0,.int .i64 0]] w fun e w'=>e = .returned (.bool false)∧Keep [] w w':=by
 have hG:=fun W=>QAY W
 go_enter Tryz.func240,Tryz.ntmps240
 go_wp2_with (
  (refine (hG _).mono ?_)
  clear hG
  rintro e w2 ⟨rfl,hk2⟩)
 go_ret
 exact ⟨rfl,((Keep.refl _ _).alloc _).trans0 hk2⟩
theorem YAi (B id mount:Nat) (h1:1≤B) (h2:B≤64) (h3:id≤2147483647) (h4:1≤mount∧mount≤2147483647) (w:World) :
 Calls Tryz.prog 169 #[.agg #[.int .i64 B,.int .i64 8,.int .i64 24,.int .i64 id,.int .i64 mount]] w fun e w'=>∃ u bs,e = .returned (.tuple #[u,.int .i64 0])∧bs.length=64∧w'.ownsRow w.heap.size 5 1 u 64 (bys bs)∧Keep [] w w':=by
 have hM:=fun W=>XAK B id mount h1 h2 h3 h4 W
 have hBk:=Blk.new w 242 #[.int .i64 B,.int .i64 8,.int .i64 24,.int .i64 id,.int .i64 mount]
 go_enter Tryz.func169,Tryz.ntmps169
 go_wp2_with (
  (refine (hM _).mono ?_)
  clear hM
  rintro e w2 ⟨rfl,hk2⟩
  have hB2:=hBk.keep0 hk2
  clear hBk)
 have hkw:Keep [] w w2:=((Keep.refl _ _).alloc _).trans0 hk2
 have hN:=ZAv 64 (by omega) w2
 go_wp2_with (
  (refine hN.mono ?_)
  clear hN
  rintro e w4 ⟨r,rv,rfl,hR,hK4⟩
  have hB4:=hB2.keep0 hK4
  obtain ⟨c0,c1,c2,c3,c4⟩:=KI hB4
  have hlt:=hB4.lt)
 have hP:=Qr (k:=1) hR (by omega) [75,83,B,8,24] (by simp;omega) (by simp) (by simp) #[.int .i64 75,.int .i64 83,.int .i64 B,.int .i64 8,.int .i64 24] rfl 5 rfl
 go_wp2_with (
  (refine hP.mono ?_)
  clear hP
  rintro e w5 ⟨rfl,hR5,hK5⟩
  have hK5':=hK4.trans hK5 (fun x hx => .inr (hR.fresh x hx))
  clear c0 c1 c2 c3 c4 hlt hB4
  have hB5:=hB2.keep0 hK5'
  obtain ⟨c0,c1,c2,c3,c4⟩:=KI hB5
  have hlt:=hB5.lt
  clear hR hK5 hK4)
 have hP:=Qr (k:=4) hR5 (by omega) [id,mount] (by simp;omega) (by simp) (by simp) #[.int .i64 id,.int .i64 mount] rfl 2 rfl
 go_wp2_with (
  (refine hP.mono ?_)
  clear hP
  rintro e w6 ⟨rfl,hR6,hK6⟩
  have hK6':=hK5'.trans hK6 (fun x hx => .inr (hR5.fresh x hx))
  clear c0 c1 c2 c3 c4 hlt)
 have hB:=Xm hR6
 go_wp2_with (refine hB.mono ?_;clear hB;rintro e w12 ⟨u,bs,rfl,hl2,hu,hk7⟩)
 have hS:=ZAq hl2 hu (by omega) (by omega)
 go_wp2_with (refine hS.mono ?_;clear hS;rintro e w13 ⟨cs,rfl,hl3,hu3,hk3⟩)
 go_ret2
 have hKw:=hkw.trans0 hK6'
 exact ⟨u,cs,rfl,hl3,YC hu3 hKw.size,(hKw.trans0 hk7).trans hk3 (fun x hx => .inr (Nat.le_trans hKw.size (own_mem hu hx).1))⟩
theorem VAo (w:World) :
 Calls Tryz.prog 169 #[.agg #[.int .i64 0,.int .i64 0,.int .i64 0,.int .i64 0,.int .i64 0]] w fun e w'=>e = .returned (.tuple #[.slice none 0 0,.int .i64 1])∧Keep [] w w':=by
 have hM:=fun W=>QAQ W
 go_enter Tryz.func169,Tryz.ntmps169
 go_wp2_with (
  (refine (hM _).mono ?_)
  clear hM
  rintro e w2 ⟨rfl,hk2⟩)
 go_ret2
 exact ⟨rfl,((Keep.refl _ _).alloc _).trans0 hk2⟩
theorem QAt {W0:World} {base r a k:Nat} {v:Value} (h:RowAt W0 base r v (List.replicate 64 0) a) (hk:k=1∨k=2∨k=4) (hm:a+k≤64) :
 Calls Tryz.prog 94 #[.pointer (some ⟨r,0,none⟩),.int .i64 (k:Nat)] W0 fun e w'=>e = .returned (.tuple #[.int .i64 0,.bool true])∧RowAt w' base r v (List.replicate 64 0) (a+k)∧Keep [r] W0 w':=by
 have:=KU W0 base r a k v _ h hk (by simpa using hm)
 rw [List.drop_replicate,List.take_replicate,show min k (64-a)=k by omega] at this
 have hz:num (List.replicate k (0:UInt8))=0:=by rcases hk with rfl | rfl | rfl <;> rfl
 rw [hz] at this
 exact this
theorem Vi {w4:World} {base r a N:Nat} {v:Value} {bs:List UInt8} (j:Nat) (hj:j<5) (hR:RowAt w4 base r v bs a) (hB:Blk w4 N 242 #[.int .i64 0,.int .i64 0,.int .i64 0,.int .i64 0,.int .i64 0]) :
 RowAt (w4.setCell ⟨N,j,none⟩ (.int .i64 0)) base r v bs a∧Blk (w4.setCell ⟨N,j,none⟩ (.int .i64 0)) N 242 #[.int .i64 0,.int .i64 0,.int .i64 0,.int .i64 0,.int .i64 0]∧Keep [N] w4 (w4.setCell ⟨N,j,none⟩ (.int .i64 0)):=by
 have hk:Keep [N] w4 (w4.setCell ⟨N,j,none⟩ (.int .i64 0)):=(Keep.refl _ _).setCell (.inl (by simp)) _
 have h1:r≠N:=fun e=>by subst e;exact Blk.ne_ (t:=242) hB hR.blk (by decide) rfl
 have h2:∀ x∈v.ownBlock.toList,x≠N:=fun x hx e=>by subst e;exact own_blk_ne hR.own hB (by decide) (by simpa using hx)
 refine ⟨⟨hR.blk.keep hk (by simpa using h1),QB hR.own hk (fun x hx=>by simpa using h2 x (by simpa using hx)),hR.base,hR.le,hR.few⟩,?_,hk⟩
 have:=hB.set j (.int .i64 0)
 obtain rfl | rfl | rfl | rfl | rfl:j=0∨j=1∨j=2∨j=3∨j=4:=by omega
 all_goals simpa using this
theorem YAF {w3 w4:World} {base r a N:Nat} {v:Value} {bs:List UInt8} {l:List Nat} (hR:RowAt w3 base r v bs a) (hk:Keep l w3 w4) (hl:∀ x∈l,x∈r :: v.ownBlock.toList) (hB:Blk w3 N 242 #[.int .i64 0,.int .i64 0,.int .i64 0,.int .i64 0,.int .i64 0]) :
 Blk w4 N 242 #[.int .i64 0,.int .i64 0,.int .i64 0,.int .i64 0,.int .i64 0]:=by
 refine hB.keep hk (fun hm=>?_)
 rcases List.mem_cons.1 (hl _ hm) with rfl | hx
 · exact Blk.ne_ (t:=242) hB hR.blk (by decide) rfl
 · exact own_blk_ne hR.own hB (by decide) (by simpa using hx)
theorem Kj (A:Option Addr) (c:Nat) (w:World) (ha:Rd w A 64 (bys (List.replicate 64 0))) :
 Calls Tryz.prog 239 #[.slice A 64 c] w fun e w'=>e = .returned (.tuple #[.agg #[.int .i64 0,.int .i64 0,.int .i64 0,.int .i64 0,.int .i64 0],.int .i64 2])∧Keep [] w w':=by
 have hF:=fun W (hk:Keep [] w W)=>QAE A 64 c _ W (ha.keep hk) (by omega)
 have hE:=fun W=>VAo W
 have hBk:=Blk.new w 242 #[.int .i64 0,.int .i64 0,.int .i64 0,.int .i64 0,.int .i64 0]
 go_enter Tryz.func239,Tryz.ntmps239
 go_wp2_with (
  (refine (hF _ ((Keep.refl _ _).alloc _)).mono ?_)
  clear hF
  rintro e w2 ⟨r,v,rfl,hR,hk2⟩
  have hB2:=hBk.keep0 hk2
  clear hBk)
 have hkw:Keep [] w w2:=((Keep.refl _ _).alloc _).trans0 hk2
 have hT:=Vd w2 _ r 0 2 v _ hR (by simp)
 go_wp2_with (
  (refine hT.mono ?_)
  clear hT
  rintro e w3 ⟨ut,rfl,-,hR3,hk3⟩)
 have hB3:=YAF hR hk3 (by simp) hB2
 have hK3:Keep [] w w3:=hkw.trans hk3 (fun x hx => .inr (Nat.le_trans (by simp) (hR.fresh x (by simp at hx;simp [hx]))))
 clear hR hB2 hkw hk2 hk3
 have hT:=QAt (a:=2) (k:=1) hR3 (by omega) (by omega)
 go_wp2_with (
  (refine hT.mono ?_)
  clear hT
  rintro e w4 ⟨rfl,hR4,hk4⟩
  have hB4:=YAF hR3 hk4 (by simp) hB3
  have q4:=hB4.frozen 0
  obtain ⟨x0,x1,x2,x3,x4⟩:=KI hB4
  have hlt4:=hB4.lt
  obtain ⟨hR4',hB4',hk4'⟩:=Vi 0 (by omega) hR4 hB4
  have hK4':=(hK3.trans hk4 (fun x hx => .inr (Nat.le_trans (by simp) (hR3.fresh x (by simp at hx;simp [hx]))))).trans hk4' (fun x hx => .inr (by simp at hx;omega))
  skip)
 clear q4 x0 x1 x2 x3 x4 hR3 hB3 hK3 hR4 hB4
 have hT:=QAt (a:=3) (k:=1) hR4' (by omega) (by omega)
 go_wp2_with (
  (refine hT.mono ?_)
  clear hT
  rintro e w5 ⟨rfl,hR5,hk5⟩
  have hB5:=YAF hR4' hk5 (by simp) hB4'
  have q5:=hB5.frozen 1
  obtain ⟨x0,x1,x2,x3,x4⟩:=KI hB5
  have hlt5:=hB5.lt
  obtain ⟨hR5',hB5',hk5'⟩:=Vi 1 (by omega) hR5 hB5
  have hK5':=(hK4'.trans hk5 (fun x hx => .inr (Nat.le_trans (by simp) (hR4'.fresh x (by simp at hx;simp [hx]))))).trans hk5' (fun x hx => .inr (by simp at hx;omega))
  skip)
 clear q5 x0 x1 x2 x3 x4 hR4' hB4' hK4' hR5 hB5
 have hT:=QAt (a:=4) (k:=1) hR5' (by omega) (by omega)
 go_wp2_with (
  (refine hT.mono ?_)
  clear hT
  rintro e w6 ⟨rfl,hR6,hk6⟩
  have hB6:=YAF hR5' hk6 (by simp) hB5'
  have q6:=hB6.frozen 2
  obtain ⟨x0,x1,x2,x3,x4⟩:=KI hB6
  have hlt6:=hB6.lt
  obtain ⟨hR6',hB6',hk6'⟩:=Vi 2 (by omega) hR6 hB6
  have hK6':=(hK5'.trans hk6 (fun x hx => .inr (Nat.le_trans (by simp) (hR5'.fresh x (by simp at hx;simp [hx]))))).trans hk6' (fun x hx => .inr (by simp at hx;omega))
  skip)
 clear q6 x0 x1 x2 x3 x4 hR5' hB5' hK5' hR6 hB6
 have hT:=QAt (a:=5) (k:=4) hR6' (by omega) (by omega)
 go_wp2_with (
  (refine hT.mono ?_)
  clear hT
  rintro e w7 ⟨rfl,hR7,hk7⟩
  have hB7:=YAF hR6' hk7 (by simp) hB6'
  have q7:=hB7.frozen 3
  obtain ⟨x0,x1,x2,x3,x4⟩:=KI hB7
  have hlt7:=hB7.lt
  obtain ⟨hR7',hB7',hk7'⟩:=Vi 3 (by omega) hR7 hB7
  have hK7':=(hK6'.trans hk7 (fun x hx => .inr (Nat.le_trans (by simp) (hR6'.fresh x (by simp at hx;simp [hx]))))).trans hk7' (fun x hx => .inr (by simp at hx;omega))
  skip)
 clear q7 x0 x1 x2 x3 x4 hR6' hB6' hK6' hR7 hB7
 have hT:=QAt (a:=9) (k:=4) hR7' (by omega) (by omega)
 go_wp2_with (
  (refine hT.mono ?_)
  clear hT
  rintro e w8 ⟨rfl,hR8,hk8⟩
  have hB8:=YAF hR7' hk8 (by simp) hB7'
  have q8:=hB8.frozen 4
  obtain ⟨x0,x1,x2,x3,x4⟩:=KI hB8
  have hlt8:=hB8.lt
  obtain ⟨hR8',hB8',hk8'⟩:=Vi 4 (by omega) hR8 hB8
  have hK8':=(hK7'.trans hk8 (fun x hx => .inr (Nat.le_trans (by simp) (hR7'.fresh x (by simp at hx;simp [hx]))))).trans hk8' (fun x hx => .inr (by simp at hx;omega))
  obtain ⟨y0,y1,y2,y3,y4⟩:=KI hB8')
 clear q8 x0 x1 x2 x3 x4 hR7' hB7' hK7' hR8 hB8
 go_wp2_with (
  (refine (hE _).mono ?_)
  clear hE
  rintro e w9 ⟨rfl,hk9⟩
  have hB9:=hB8'.keep0 hk9
  obtain ⟨x0,x1,x2,x3,x4⟩:=KI hB9
  have f0:=hB9.frozen 0
  have f1:=hB9.frozen 1
  have f2:=hB9.frozen 2
  have f3:=hB9.frozen 3
  have f4:=hB9.frozen 4
  have hlt9:=hB9.lt)
 have z0:=Vi 0 (by omega) (hR8'.keep0 hk9) hB9
 have z1:=Vi 1 (by omega) z0.1 z0.2.1
 have z2:=Vi 2 (by omega) z1.1 z1.2.1
 have z3:=Vi 3 (by omega) z2.1 z2.2.1
 have z4:=Vi 4 (by omega) z3.1 z3.2.1
 have hK:=(((((hK8'.trans0 hk9).trans z0.2.2 (fun x hx => .inr (by simp at hx;omega))).trans z1.2.2 (fun x hx => .inr (by simp at hx;omega))).trans z2.2.2 (fun x hx => .inr (by simp at hx;omega))).trans z3.2.2 (fun x hx => .inr (by simp at hx;omega))).trans z4.2.2 (fun x hx => .inr (by simp at hx;omega))
 obtain ⟨y0,y1,y2,y3,y4⟩:=KI z4.2.1
 refine bodyPost_ret (v := .tuple #[.agg #[.int .i64 0,.int .i64 0,.int .i64 0,.int .i64 0,.int .i64 0],.int .i64 2]) (by simp [results,Tryz.results239,go_sem,y0,y1,y2,y3,y4]) rfl ?_
 exact ⟨rfl,hK⟩
end
section
open Go.RowKit
theorem ZAt {w4:World} {N:Nat} (j:Nat) (hj:j<5) (hB:Blk w4 N 242 #[.int .i64 0,.int .i64 0,.int .i64 0,.int .i64 0,.int .i64 0]) :
 Blk (w4.setCell ⟨N,j,none⟩ (.int .i64 0)) N 242 #[.int .i64 0,.int .i64 0,.int .i64 0,.int .i64 0,.int .i64 0]∧Keep [N] w4 (w4.setCell ⟨N,j,none⟩ (.int .i64 0)):=by
 refine ⟨?_,(Keep.refl _ _).setCell (.inl (by simp)) _⟩
 have:=hB.set j (.int .i64 0)
 obtain rfl | rfl | rfl | rfl | rfl:j=0∨j=1∨j=2∨j=3∨j=4:=by omega
 all_goals simpa using this
theorem KAJ (A B:Option Addr) (c d:Nat) (w:World) (ha:Rd w A 64 (bys (List.replicate 64 0))) (hb:Rd w B 64 (bys (List.replicate 64 0))) :
 Calls Tryz.prog 168 #[.slice A 64 c,.slice B 64 d] w fun e w'=>e = .returned (.tuple #[.agg #[.int .i64 0,.int .i64 0,.int .i64 0,.int .i64 0,.int .i64 0],.int .i64 0,.int .i64 2])∧Keep [] w w':=by
 have hD:=fun W (hk:Keep [] w W)=>Kj A c W (ha.keep hk)
 have hE:=fun W (hk:Keep [] w W)=>Kj B d W (hb.keep hk)
 have hBk:=Blk.new w 242 #[.int .i64 0,.int .i64 0,.int .i64 0,.int .i64 0,.int .i64 0]
 go_enter Tryz.func168,Tryz.ntmps168
 go_wp2_with (
  (refine (hD _ ((Keep.refl _ _).alloc _)).mono ?_)
  clear hD
  rintro e w2 ⟨rfl,hk2⟩)
 have hk12:Keep [] w w2:=((Keep.refl _ _).alloc _).trans0 hk2
 have hE':=hE _ (hk12.alloc (.cells #[.int .i64 0,.int .i64 0,.int .i64 0,.int .i64 0,.int .i64 0] 242))
 clear hE
 have hBx:=hBk.keep0 hk2
 go_wp2_with (
  (refine hE'.mono ?_)
  clear hE'
  rintro e w3 ⟨rfl,hk3⟩
  have hB3:=(hBx.keep0 ((Keep.refl _ _).alloc (.cells #[.int .i64 0,.int .i64 0,.int .i64 0,.int .i64 0,.int .i64 0] 242))).keep0 hk3
  have hB4:=hB3.keep0 ((Keep.refl _ _).alloc (.cells #[.int .i64 0,.int .i64 0,.int .i64 0,.int .i64 0,.int .i64 0] 242))
  obtain ⟨x0,x1,x2,x3,x4⟩:=KI hB4
  have f0:=hB4.frozen 0
  have f1:=hB4.frozen 1
  have f2:=hB4.frozen 2
  have f3:=hB4.frozen 3
  have f4:=hB4.frozen 4
  have hlt4:=hB4.lt)
 have z0:=ZAt 0 (by omega) hB4
 have z1:=ZAt 1 (by omega) z0.1
 have z2:=ZAt 2 (by omega) z1.1
 have z3:=ZAt 3 (by omega) z2.1
 have z4:=ZAt 4 (by omega) z3.1
 have hK:=((((((((hk12.alloc _).trans0 hk3).alloc _)).trans z0.2 (fun x hx => .inr (by simp at hx;omega))).trans z1.2 (fun x hx => .inr (by simp at hx;omega))).trans z2.2 (fun x hx => .inr (by simp at hx;omega))).trans z3.2 (fun x hx => .inr (by simp at hx;omega))).trans z4.2 (fun x hx => .inr (by simp at hx;omega))
 obtain ⟨y0,y1,y2,y3,y4⟩:=KI z4.1
 refine bodyPost_ret (v := .tuple #[.agg #[.int .i64 0,.int .i64 0,.int .i64 0,.int .i64 0,.int .i64 0],.int .i64 0,.int .i64 2]) (by simp [results,Tryz.results168,go_sem,y0,y1,y2,y3,y4]) rfl ?_
 exact ⟨rfl,hK⟩
end
end Go.Proofs.YtmoagodllhdemaaGreat
