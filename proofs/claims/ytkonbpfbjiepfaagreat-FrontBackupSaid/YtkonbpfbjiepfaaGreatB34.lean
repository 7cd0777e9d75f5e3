/-
  A part of the proof: lemmas, and contracts of functions; their conditions stand in them.
-/
import Derived.Test.YtkonbpfbjiepfaaGreatB33
import Derived.Test.YtkonbpfbjiepfaaGreatB01
namespace Go.Proofs.YtkonbpfbjiepfaaGreat
set_option linter.unusedSimpArgs false
set_option linter.unusedVariables false
set_option maxHeartbeats 4000000
set_option maxRecDepth 100000
section
open Go.RowKit Go.Shelf
attribute [local go_sem] Oper.semAt_some
def Vq (ol:List Int) (k:Nat):List Int:=(ol.take k).flatMap (fun o=>if 0<ZE o (-1) then [ZE o (-1)] else [])
theorem YAj {ol:List Int} {k:Nat} (hk:k<ol.length):Vq ol (k+1)=Vq ol k++if 0<ZE ol[k] (-1) then [ZE ol[k] (-1)] else []:=by
 unfold Vq
 rw [List.take_succ_eq_append_getElem hk,List.flatMap_append]
 simp
theorem Zo (ol:List Int) (k:Nat):(Vq ol k).length≤k:=by
 unfold Vq
 have:∀ l:List Int,(l.flatMap (fun o=>if 0<ZE o (-1) then [ZE o (-1)] else [])).length≤l.length:=by
  intro l
  induction l with
  | nil=>simp
  | cons p l ih=>
    rw [List.flatMap_cons,List.length_append,List.length_cons]
    have:(if 0<ZE p (-1) then [ZE p (-1)] else []).length≤1:=by split <;> simp
    omega
 refine Nat.le_trans (this _) ?_
 simp;omega
structure KFor (w:World) (base m p1 p2:Nat) (F F1 F2:List Nat) (I:PImage) (pre:List PRnd) (W:World):Prop where
 img:∃ od,ImageIs W base m p1 p2 F F1 F2 ⟨I.bl,I.bd,Kc I.ol pre.length,od⟩
 out:∃ ov,Boxed W (w.heap.size+1) 22 ov∧W.ownsRow w.heap.size 3 1 ov (Vq I.ol pre.length).length (KJ (Vq I.ol pre.length))
 b1:Boxed W w.heap.size 46 (.pointer (some ⟨m,0,none⟩))
 keep:Keep F w W
 few:pre.length≤I.ol.length
theorem KFor.kept {w A B:World} {base m p1 p2:Nat} {F F1 F2:List Nat} {I:PImage} {pre:List PRnd} (h:KFor w base m p1 p2 F F1 F2 I pre A) (hk:Keep [] A B):KFor w base m p1 p2 F F1 F2 I pre B:=by
 obtain ⟨od,h1⟩:=h.img
 obtain ⟨ov,h2,h3⟩:=h.out
 exact ⟨⟨od,h1.keep0 hk⟩,⟨ov,JA h2 hk (by simp),QB h3 hk⟩,JA h.b1 hk (by simp),h.keep.trans0 hk,h.few⟩
theorem KFor.turned {w W:World} {base m p1 p2 k:Nat} {F F1 F2:List Nat} {I:PImage} {pre:List PRnd} {o o':Obj} (h:KFor w base m p1 p2 F F1 F2 I pre W) (hl:w.heap.size≤k) (hg:W.heap[k]? = some o) (ho:o.isCells=false):KFor w base m p1 p2 F F1 F2 I pre (W.putObj k o'):=by
 obtain ⟨od,h1⟩:=h.img
 obtain ⟨ov,h2,h3⟩:=h.out
 exact ⟨⟨od,h1.putObj o' hg ho⟩,⟨ov,VC o' h2 hg ho,ownsRow_putObj h3 o' hg ho⟩,VC o' h.b1 hg ho,h.keep.putObj hl o',h.few⟩
theorem YAE (w:World) (base m:Nat) (F:List Nat) (I:PImage) (h:ImageAt w base m F I) :
 Calls Tryz.prog 156 #[.pointer (some ⟨m,0,none⟩)] w fun e w'=>∃ G od,e = .returned G∧w'.ownsRow w.heap.size 3 1 G (Vq I.ol I.ol.length).length (KJ (Vq I.ol I.ol.length)) ∧
  ImageAt w' base m F ⟨I.bl,I.bd,Kc I.ol I.ol.length,od⟩∧Keep F w w':=by
 obtain ⟨p1,p2,F1,F2,h⟩:=h
 refine (callsIn_wide (n:=3)).1 ?_
 refine callsIn_of_wp_marks Tryz.func156 rfl trivial ?_ rfl
 simp only [Tryz.ntmps156,List.size_toArray,List.length_cons,List.length_nil,Nat.reduceAdd,Nat.reduceSub,Array.replicate_succ,Array.replicate_zero,List.push_toArray,List.append_toArray,List.nil_append,List.cons_append]
 have hT:=fun W (hk:Keep [] w W)=>callsIn_wide (n:=2).2 (VK W base m p1 p2 F F1 F2 I (h.keep0 hk) true)
 gi_wp2_with (first
  | (refine ⟨trivial,?_⟩;refine (hT _ (((Keep.refl _ _).alloc _).alloc _)).mono ?_;rintro e w' ⟨rfl,rfl⟩)
  | (refine ⟨trivial,?_⟩;refine (Vl _ _ _ rfl).mono ?_;rintro e w' ⟨rfl,rfl⟩))
 obtain ⟨w1,hw1⟩:∃ w1,w1=w.alloc (.cells #[.pointer (some ⟨m,0,none⟩)] 46):=⟨_,rfl⟩
 obtain ⟨w2,hw2⟩:∃ w2,w2=w1.alloc (.cells #[.slice none 0 0] 22):=⟨_,rfl⟩
 obtain ⟨w3,hw3⟩:∃ w3,w3=w2.alloc (.cells #[.pointer (some ⟨p2,0,none⟩)] 198):=⟨_,rfl⟩
 rw [← hw1,← hw2,← hw3]
 have s1:w1.heap.size=w.heap.size+1:=by rw [hw1,World.size_alloc]
 have s2:w2.heap.size=w.heap.size+2:=by rw [hw2,World.size_alloc,s1]
 have s3:w3.heap.size=w.heap.size+3:=by rw [hw3,World.size_alloc,s2]
 have k1:Keep [] w w1:=by rw [hw1];exact (Keep.refl _ _).alloc _
 have k2:Keep [] w1 w2:=by rw [hw2];exact (Keep.refl _ _).alloc _
 have k3:Keep [] w2 w3:=by rw [hw3];exact (Keep.refl _ _).alloc _
 have kw:Keep [] w w3:=(k1.trans0 k2).trans0 k3
 have b1:Boxed w3 w.heap.size 46 (.pointer (some ⟨m,0,none⟩)):=JA (by rw [hw1];exact Boxed.new w _ _) (k2.trans0 k3) (by simp)
 have b2:Boxed w3 (w.heap.size+1) 22 (.slice none 0 0):=JA (by rw [hw2,← s1];exact Boxed.new w1 _ _) k3 (by simp)
 have bc:Boxed w3 (w.heap.size+1+1) 198 (.pointer (some ⟨p2,0,none⟩)):=by rw [hw3,show w.heap.size+1+1=w2.heap.size by omega];exact Boxed.new w2 _ _
 have hlen:=h.ok.1
 have h0:KFor w base m p1 p2 F F1 F2 I [] w3:=⟨⟨I.od,by have:=h.keep0 kw;simpa [Kc] using this⟩,⟨_,b2,World.ownsRow_nil _ _ _ _⟩,b1,kw.zero,Nat.zero_le _⟩
 have hlt:=h.lt
 have hseq:=QAD 2 (w.heap.size+1+1) base p2 I.ol.length F2 w3 ⟨I.ol,I.od,rfl,h.o.keep0 kw⟩ bc
 refine QO (n:=3) (gf:=208) (lb:=#[.pointer (some ⟨w.heap.size+1+1,0,none⟩)]) rfl (enters_of Tryz.func208 (by kernel_rfl) rfl)
  hseq
  (fun A B C h k=>⟨fun hb=>k.1 (h.1 hb),fun hb=>k.2 (h.2 hb)⟩)
  (fun W l o o' hl hg' ho=>⟨fun hb=>VC o' hb hg' ho,fun ⟨ls,ds,q1,q2⟩=>⟨ls,ds,q1,q2.putObj o' hg' ho⟩⟩)
  (fun _=>rfl) (KFor w base m p1 p2 F F1 F2 I) (fun s A B h hk=>h.kept hk) (fun s W l o o' h hl hg' ho=>h.turned (by omega) hg' ho)
  (fun pre x W l o o' h hl hg' ho=>⟨h.1,by obtain ⟨ls,ds,q1,q2,q3⟩:=h.2;exact ⟨ls,ds,q1,q2.putObj o' hg' ho,q3⟩⟩) h0
  (fun x=>{ tmps:=#[.pointer (some ⟨m,0,none⟩),.pointer (some ⟨w.heap.size,0,none⟩),.pointer (some ⟨w.heap.size+1,0,none⟩),.int .i64 (x.1:Nat),undef,.pointer (some ⟨m,0,none⟩),.pointer (some ⟨p2,0,none⟩),
    .func (.func 208) #[] #[.pointer (some ⟨w.heap.size+1+1,0,none⟩)],.int .i64 (x.1:Nat),.int .i64 x.2,undef,undef,undef,undef,undef,undef,undef,undef,undef,undef,undef,undef,undef],defers:=[] }) ?assign ?body ?done
 case assign=>
  rintro l ⟨k,z⟩ W K hK
  dsimp only [JO] at hK ⊢
  gi_wp2
  exact hK
 case body=>
  rintro l pre ⟨k,z⟩ W hI ⟨hk,ls,ds,q1,q2,q3⟩
  dsimp only at hk q3 ⊢
  obtain ⟨od,him⟩:=hI.img
  obtain ⟨ov,hb2,hov⟩:=hI.out
  have hzz:=him.o.unique q2
  subst hk
  have hkl:pre.length<I.ol.length:=by rw [← q1];exact (List.getElem?_eq_some_iff.1 q3).1
  have hO:=QAE (k:=pre.length) hkl
  have hG:=YAj (k:=pre.length) hkl
  have hrngO:=Zv (ol:=I.ol) (k:=pre.length+1) h.ok.2.2
  have hOl:(Kc I.ol pre.length).length=I.ol.length:=XW (by omega)
  rw [hO] at hrngO
  have hb2l:=hb2.lt
  have hb1l:=hI.b1.lt
  have hIk:=hI.keep
  have hIb:=hI.b1
  have hF2n:∀ x∈F2,x<w.heap.size:=fun x hx=>hlt x (him.subO x hx)
  have hfoot:=him.foot
  have hsz:=hI.keep.size
  obtain ⟨c0,c1⟩:=him.cells
  have d1:=hI.b1.cell
  have hPost:∀ (gn cO:List Int),Kc I.ol (pre.length+1)=cO→Vq I.ol (pre.length+1)=gn→∀ (W':World) (od':List Bool) (ov':Value) (K:List Nat),ImageIs W' base m p1 p2 F F1 F2 ⟨I.bl,I.bd,cO,od'⟩→Boxed W' (w.heap.size+1) 22 ov' →
   W'.ownsRow w.heap.size 3 1 ov' gn.length (KJ gn)→Keep K W W'→(∀ x∈K,x∈F∨(w.heap.size<x∧(Boxed W (w.heap.size+1+1) 198 (.pointer (some ⟨p2,0,none⟩))→¬ x=w.heap.size+1+1)∧∀ o,W.heap[x]? = some o→o.isCells=true)) →
   KeepsFrom w3.heap.size W W'∧JAI base p2 I.ol.length (w.heap.size+1+1) F2 W W'∧KFor w base m p1 p2 F F1 F2 I (pre++[(pre.length,z)]) W':=by
   intro gn cO eO eG W' od' ov' K g1 g2 g3 hK hKx
   have hsub:∀ x∈K,x≠w.heap.size∧(Boxed W (w.heap.size+1+1) 198 (.pointer (some ⟨p2,0,none⟩))→x≠w.heap.size+1+1):=fun x hx=>by
    rcases hKx x hx with h | h
    · have:=hlt x h;exact ⟨by omega,fun _=>by omega⟩
    · exact ⟨by omega,h.2.1⟩
   refine ⟨hK.fromCells (fun x hx o ho=>?_) _,⟨fun hb=>JA hb hK (fun hm=>(hsub _ hm).2 hb rfl),fun _=>?_⟩,⟨?_,?_,JA hIb hK (fun hm=>(hsub _ hm).1 rfl),?_,by simp;omega⟩⟩
   · rcases hKx x hx with h | h
     · rw [hfoot] at h
       simp only [List.mem_cons,List.mem_append] at h
       rcases h with rfl | h | h
       · rw [show W.heap[_]? = _ from him.blk] at ho;cases ho;rfl
       · exact him.b.isCells x h o ho
       · exact him.o.isCells x h o ho
     · exact h.2.2 o ho
   · refine ⟨_,_,?_,g1.o⟩
     rw [← eO,XW (by omega)]
   · rw [List.length_append,List.length_singleton,eO];exact ⟨_,g1⟩
   · rw [List.length_append,List.length_singleton,eG];exact ⟨_,g2,g3⟩
   · exact hIk.trans hK (fun x hx=>(hKx x hx).imp id (fun h=>by omega))
  have HPOST:=KB hPost
  have HFOOT:=KB hfoot
  have HS3:=KB s3
  obtain ⟨OA,oc,rfl,_⟩:=YB hov
  have HIM:=KB him
  have HB2:=KB hb2
  have HOV:=KB hov
  have hOx:pre.length<(Kc I.ol pre.length).length:=by omega
  have hgl:(Kc I.ol pre.length)[pre.length]=I.ol[pre.length]:=by
   have:=YAH (k:=pre.length) hkl
   rw [List.getElem?_eq_getElem hOx] at this
   exact Option.some.inj this
  have hTs:=callsIn_wide (n:=0).2 (Jl W base p2 F2 _ _ him.o pre.length hOx (-1))
  simp only [hgl] at hTs
  have hor:=h.ok.2.2 _ (List.getElem_mem hkl)
  have hfewI:=him.o.few
  simp only at hfewI
  have hgs:0≤ZE I.ol[pre.length] (-1)∧ZE I.ol[pre.length] (-1)<4096:=Qa hor
  have hgc:(Vq I.ol pre.length).length≤64:=by
   have:=Zo I.ol pre.length
   omega
  generalize ZE I.ol[pre.length] (-1)=y at *
  have hos:=him.o
  have hblk:=him.blk
  have hmlt:m<w.heap.size:=hlt m (by rw [him.foot];simp)
  have hm2':=him.m2
  have hPp:=hPost
  clear hPp h0 b1 b2 bc kw k1 k2 k3 hw1 hw2 hw3 s1 s2 s3 hseq hI hPost hfoot hgl hor
  have HRO:=KB hrngO
  clear hrngO
  have HO:=KB hO
  have HG:=KB hG
  clear hO hG
  generalize Vq I.ol pre.length=gl at *
  clear hov hb2
  have hovm:∀ g,(Value.slice OA gl.length oc).ownBlock=some g→w.heap.size≤g:=fun g hg=>(own_mem (XA HOV) (by simpa using hg)).1
  have hovF:∀ g,(Value.slice OA gl.length oc).ownBlock=some g→g∉F2:=fun g hg hm=>by have:=hovm g hg;have:=hF2n g hm;omega
  have hovB:(Value.slice OA gl.length oc).ownBlock≠some (w.heap.size+1):=fun e=>(XA HB2).not_row (by decide) (XA HOV) e.symm
  have hovA:(Value.slice OA gl.length oc).ownBlock≠some w.heap.size:=fun e=>hIb.not_row (by decide) (XA HOV) e.symm
  have hF2b:∀ x∈F2,x≠w.heap.size∧x≠w.heap.size+1:=fun x hx=>by have:=hF2n x hx;omega
  by_cases hy:0<y
  · have hy0:¬ y≤0:=by omega
    gi_wp2_with (first
     | (refine ⟨trivial,?_⟩;refine hTs.mono ?_;clear hTs;rintro e W2 ⟨rfl,hp1,hk2⟩;(have hb2':=JA (XA HB2) hk2 (fun hm=>(hF2b _ hm).2 rfl));(have e2:=hb2'.cell);(have ho2:=ZB (XA HOV) hk2 hovF);(have hsz2:=hk2.size))
     | (gi_at_builtin;refine elemIntsN.wpIn_app rfl _ _ rfl w.heap.size _ gl.length (KJ gl) rfl (JD ho2 _) ⟨W2.heap.size,0,none⟩ 1 1 [.int .i64 y] rfl (KS _ _ _) (by simp [Value.oneCell']) (by omega) (by omega) (by simp;omega) ?_;intro v' W3 hv' hk3 hat;(obtain ⟨VA,vc,rfl,_⟩:=YB hv');(have hkA:Keep (Value.slice OA gl.length oc).ownBlock.toList W2 W3:=((Keep.refl _ _).alloc _).trans hk3 (fun x hx => .inl hx));(have hb3:=JA hb2' hkA (by simpa using hovB));(have e3:=hb3.cell);(have f3:=hb3.frozen)))
    have hkS:Keep [w.heap.size+1] W3 (W3.setCell ⟨w.heap.size+1,0,none⟩ (.slice VA (gl.length+1) vc)):=(Keep.refl _ _).setCell (.inl (by simp)) _
    have hFo:Apart F (Value.slice OA gl.length oc).ownBlock.toList:=fun x hx hm=>by have:=hovm x (by simpa using hm);have:=hlt x hx;omega
    have hFB:Apart F [w.heap.size+1]:=fun x hx hm=>by have:=hlt x hx;simp at hm;omega
    have im:=((((XA HIM).setO hp1 hk2 (by simp) (XA HRO)).keep hkA hFo).keep hkS hFB)
    have hb5:=hb3.set (.slice VA (gl.length+1) vc)
    have hv5:=own_set (o:=0) hv' (fun hm=>hb3.not_row (by decide) hv' (Eq.symm (by simpa using hm))) (.slice VA (gl.length+1) vc)
    have hKK:Keep (F++((Value.slice OA gl.length oc).ownBlock.toList++[w.heap.size+1])) W _:=
     ((hk2.sub (fun x hx=>List.mem_append_left _ ((XA HIM).subO x hx))).trans hkA (fun x hx => .inl (by simp at hx;simp [hx]))).trans hkS (fun x hx => .inl (by simp at hx;simp [hx]))
    have hGL:Vq I.ol (pre.length+1)=gl++[y]:=by rw [XA HG,if_pos hy]
    refine XA HPOST _ _ (XA HO) hGL _ _ _ _ im hb5 ?_ hKK ?_
    · rw [List.length_append,List.length_singleton,show KJ (gl++[y])=KJ gl++[.int .i64 y] by simp [KJ,i64]];exact hv5
    · intro x hx
      rcases List.mem_append.1 hx with hx | hx
      · exact .inl hx
      · rcases List.mem_append.1 hx with hx | hx
        · have h1:=hovm x (by simpa using hx)
          refine .inr ⟨?_,fun hb e=>?_,fun o ho=>VO (XA HOV) x hx o ho⟩
          · refine Nat.lt_of_le_of_ne h1 (fun e=>?_)
            subst e;exact hovA (by simpa using hx)
          · subst e;exact hb.not_row (by decide) (XA HOV) (Eq.symm (by simpa using hx))
        · simp at hx
          subst hx
          exact .inr ⟨by omega,fun _=>by omega,fun o ho=>by rw [show W.heap[_]? = _ from XA HB2] at ho;cases ho;rfl⟩
  · have hy0:y=0:=by omega
    subst hy0
    gi_wp2_with (refine ⟨trivial,?_⟩;refine hTs.mono ?_;clear hTs;rintro e W2 ⟨rfl,hp1,hk2⟩;(have hb2':=JA (XA HB2) hk2 (fun hm=>(hF2b _ hm).2 rfl));(have ho2:=ZB (XA HOV) hk2 hovF))
    have im:=(XA HIM).setO hp1 hk2 (by simp) (XA HRO)
    have hKK:Keep F W W2:=hk2.sub (fun x hx=>(XA HIM).subO x hx)
    have hGL:Vq I.ol (pre.length+1)=gl:=by rw [XA HG,if_neg (by omega),List.append_nil]
    exact XA HPOST _ _ (XA HO) hGL _ _ _ _ im hb2' ho2 hKK (fun x hx => .inl hx)
 case done=>
  intro D' xs W hD' hS hI hdef
  obtain ⟨od,him⟩:=hI.img
  obtain ⟨ov,hb2,hov⟩:=hI.out
  rw [hS] at him hov
  obtain ⟨gl,hgl⟩:∃ gl,gl=Vq I.ol I.ol.length:=⟨_,rfl⟩
  rw [← hgl] at hov
  have HGL:=KB hgl
  clear hgl
  obtain ⟨OA,oc,rfl,_⟩:=YB hov
  have hc2:=hb2.cell
  have hf2:=hb2.frozen
  have HI:=KB hI
  have HOV:=KB hov
  have HIM:=KB him
  clear h0 b1 b2 bc kw k1 k2 k3 hw1 hw2 hw3 s1 s2 hseq hI hov him
  gi_wp2
  have hI:=XA HI
  have hov:=XA HOV
  have him:=XA HIM
  have hKs:Keep [w.heap.size+1] W (W.setCell ⟨w.heap.size+1,0,none⟩ (.slice OA gl.length oc)):=(Keep.refl _ _).setCell (p:=⟨w.heap.size+1,0,none⟩) (.inl (by simp)) _
  have hdef2:(W.setCell ⟨w.heap.size+1,0,none⟩ (.slice OA gl.length oc)).heap[D']? = some (.deferred (some [])):=(hKs.block D' (Array.getElem?_eq_some_iff.1 hdef).1 (by simp;omega)).trans hdef
  have q6:=(VC (.deferred none) (hb2.set (.slice OA gl.length oc)) hdef2 rfl).cell
  have hkw:=(hI.keep.trans hKs (fun x hx => .inr (by simp at hx;omega))).putObj (g:=D') (by omega) (.deferred none)
  have hov2:=ownsRow_putObj (own_set hov (fun hm=>hb2.not_row (by decide) hov (Eq.symm (by simpa using hm))) (.slice OA gl.length oc)) (.deferred none) hdef2 rfl
  have him2:=(him.keep hKs (fun x hx hm=>by have:=hlt x hx;simp at hm;omega)).putObj (.deferred none) hdef2 rfl
  refine ⟨by simp,.inl ⟨_,_,rfl,run_takeDeferred hdef2,?_⟩⟩
  refine ⟨.slice OA gl.length oc,?_,_,_,rfl,by rw [XA HGL] at hov2 ⊢;exact hov2,⟨_,_,_,_,him2⟩,hkw⟩
  simp [results,Tryz.results156,go_sem,q6]
end
section
open Go.RowKit Go.Shelf
theorem elemBoolE:Elem Tryz.prog 160 4 (.bool false) 1:=Elem.of Tryz.underlying160 (by kernel_rfl) rfl
theorem YAB (w:World) (base p:Nat) (F:List Nat) (l:List Int) (ds:List Bool) (h:PagedAt w base p F l ds) :
 Calls Tryz.prog 313 #[.pointer (some ⟨p,0,none⟩)] w fun e w'=>e = .returned (.tuple #[])∧PagedAt w' base p F l (List.replicate ds.length false)∧Keep F w w':=by
 obtain ⟨L,U,h⟩:=h
 obtain ⟨g,c,u,uc,rfl,rfl,hgu,hpg,hpu⟩:=h.forms
 obtain ⟨c0,c1,c2⟩:=h.cells
 have hF:=h.foot
 obtain ⟨cur,hb,hus,hun,hum,hubs⟩:∃ cur:List Value,Blk w u 4 cur.toArray∧cur.length=uc∧ds.length≤uc∧uc≤9223372036854775807∧base≤u:=by
  rcases h.rd.2 with ⟨he,_⟩ | ⟨g',cap,cur,he,hb,hg,hn,hm,hs,ht⟩
  · cases he
  · cases he
    exact ⟨cur.toList,hg,by simpa using hs,hn,by simpa [maxLen] using hm,hb⟩
 obtain ⟨w',hrun,hb',hk'⟩:=elemBoolE.run_clear w 0 (some ⟨u,0,none⟩) ds.length uc u 0 cur _ hb (fun _=>rfl) (by omega) rfl
 have hres:PagedIs w' base p (.slice (some ⟨g,0,none⟩) l.length c) (.slice (some ⟨u,0,none⟩) ds.length uc) F l (List.replicate ds.length false):=by
  refine ⟨h.blk.keep hk' (by simpa using hpu),ZB h.rl hk' (fun x hx=>by simp [Value.ownBlock] at hx;subst hx;simpa using hgu),?_,h.foot,h.base,h.pos,h.few,by rw [List.length_replicate];exact h.pages⟩
  rw [List.length_replicate]
  refine Xb hb' hubs hun hum (by simp [splice];omega) ?_
  simp [splice,List.take_append_of_le_length]
 have hkk:Keep F w w':=hk'.sub (m:=F) (by rw [hF];simp [Value.ownBlock])
 go_enter Tryz.func313,Tryz.ntmps313
 go_wp2
 go_end0
 exact ⟨rfl,⟨_,_,hres⟩,hkk⟩
theorem Km (w:World) (base p:Nat) (F:List Nat) (l:List Int) (ds:List Bool) (h:PagedAt w base p F l ds) :
 Calls Tryz.prog 394 #[.pointer (some ⟨p,0,none⟩)] w fun e w'=>e = .returned (.int .i64 (ds.length:Nat))∧w=w':=by
 obtain ⟨L,U,h⟩:=h
 obtain ⟨g,c,u,uc,rfl,rfl,_⟩:=h.forms
 obtain ⟨c0,c1,c2⟩:=h.cells
 go_enter Tryz.func394,Tryz.ntmps394
 go_wp2
 go_ret
 exact ⟨rfl,rfl⟩
theorem JAb (w:World) (base m:Nat) (F:List Nat) (I:PImage) (h:ImageAt w base m F I) :
 Calls Tryz.prog 242 #[.pointer (some ⟨m,0,none⟩)] w fun e w'=>e = .returned (.tuple #[])∧ImageAt w' base m F ⟨I.bl,List.replicate I.bd.length false,I.ol,List.replicate I.od.length false⟩∧Keep F w w':=by
 obtain ⟨p1,p2,F1,F2,h⟩:=h
 have hT1:=VK w base m p1 p2 F F1 F2 I h false
 have hs1:=h.subB
 have hs2:=h.subO
 have hC1:=YAB w base p1 F1 I.bl I.bd h.b
 simp only [Bool.false_eq_true,if_false] at hT1
 go_enter Tryz.func242,Tryz.ntmps242
 go_wp2_with (first
  | (go_at_call 119;refine hT1.mono ?_;clear hT1;rintro e w' ⟨rfl,rfl⟩)
  | (go_at_call 313;refine hC1.mono ?_;clear hC1;rintro e w1 ⟨rfl,hp1,hk1⟩;(have h1:=h.setB hp1 hk1 rfl h.ok.2.1);(have hT2:=VK w1 base m p1 p2 F F1 F2 _ h1 true))
  | (go_at_call 119;refine hT2.mono ?_;clear hT2;rintro e w' ⟨rfl,rfl⟩;(have hC2:=YAB w1 base p2 F2 _ _ h1.o))
  | (go_at_call 313;refine hC2.mono ?_;clear hC2;rintro e w2 ⟨rfl,hp2,hk2⟩))
 go_end0
 exact ⟨rfl,⟨_,_,_,_,h1.setO hp2 hk2 rfl h1.ok.2.2⟩,(hk1.sub hs1).trans (hk2.sub hs2) (fun x hx => .inl hx)⟩
end
end Go.Proofs.YtkonbpfbjiepfaaGreat
