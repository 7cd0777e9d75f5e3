/- Lemmas of the proof, with their conditions. -/
import Derived.Test.YthgphmfipnjllaaGreatV19
import Derived.Test.YthgphmfipnjllaaGreatV33
namespace Go.Proofs.YthgphmfipnjllaaGreat
set_option linter.unusedSimpArgs false
set_option linter.unusedVariables false
set_option maxHeartbeats 4000000
set_option maxRecDepth 100000
section
open Go.RowKit Go.Shelf
attribute [local go_sem] Oper.semAt_some
def Xb (bl ol:List Int) (k:Nat):List Int:=(List.zipWith (fun b o=>if o = -1 then b else o) bl ol).take k++bl.drop k
def Ze (ol:List Int) (k:Nat):List Int:=List.replicate k (-1)++ol.drop k
def Zp (bl ol:List Int) (k:Nat):List Int:=((bl.zip ol).take k).flatMap (fun p=>if p.2 = -1 then [] else if 0<YF p.1 p.2 then [YF p.1 p.2] else [])
section
variable {bl ol:List Int} {k:Nat}
theorem Qa (h:bl.length=ol.length) (hk:k≤bl.length):(Xb bl ol k).length=bl.length:=by simp[Xb];omega
theorem Yj (hk:k≤ol.length):(Ze ol k).length=ol.length:=by simp[Ze];omega
theorem VAv (h:bl.length=ol.length) (hk:k<bl.length):(Xb bl ol k)[k]? = some bl[k]:=by
 have hl:((List.zipWith (fun b o=>if o = -1 then b else o) bl ol).take k).length=k:=by simp;omega
 unfold Xb
 rw[List.getElem?_append_right (by omega),hl,Nat.sub_self,List.getElem?_drop]
 simp[hk]
theorem JAe (hk:k<ol.length):(Ze ol k)[k]? = some ol[k]:=by
 unfold Ze
 rw[List.getElem?_append_right (by simp),List.length_replicate,Nat.sub_self,List.getElem?_drop]
 simp[hk]
theorem YAU (h:bl.length=ol.length) (hk:k<bl.length):Xb bl ol (k+1)=(Xb bl ol k).set k (if ol[k]'(by omega) = -1 then bl[k] else ol[k]'(by omega)):=by
 have hz:k<(List.zipWith (fun b o=>if o = -1 then b else o) bl ol).length:=by simp;omega
 have hl:((List.zipWith (fun b o=>if o = -1 then b else o) bl ol).take k).length=k:=by simp;omega
 unfold Xb
 rw[List.take_succ_eq_append_getElem hz,List.set_append_right _ _ (by omega),hl,Nat.sub_self,List.drop_eq_getElem_cons hk,List.set_cons_zero]
 simp
theorem VAZ (hk:k<ol.length):Ze ol (k+1)=(Ze ol k).set k (-1):=by
 unfold Ze
 rw[List.replicate_succ',List.set_append_right _ _ (by simp),List.length_replicate,Nat.sub_self,List.drop_eq_getElem_cons hk,List.set_cons_zero]
 simp
theorem VAW (h:bl.length=ol.length) (hk:k<bl.length):Zp bl ol (k+1)=Zp bl ol k++if ol[k]'(by omega) = -1 then [] else if 0<YF bl[k] (ol[k]'(by omega)) then [YF bl[k] (ol[k]'(by omega))] else []:=by
 have hz:k<(bl.zip ol).length:=by simp;omega
 unfold Zp
 rw[List.take_succ_eq_append_getElem hz,List.flatMap_append]
 simp
theorem Qm (bl ol:List Int) (k:Nat):(Zp bl ol k).length≤k:=by
 unfold Zp
 have:∀ l:List (Int×Int),(l.flatMap (fun p=>if p.2 = -1 then [] else if 0<YF p.1 p.2 then [YF p.1 p.2] else [])).length≤l.length:=by
  intro l
  induction l with
  | nil=>simp
  | cons p l ih=>
    rw[List.flatMap_cons,List.length_append,List.length_cons]
    have:(if p.2 = -1 then [] else if 0<YF p.1 p.2 then [YF p.1 p.2] else []).length≤1:=by
     split
     · simp
     · split <;> simp
    omega
 refine Nat.le_trans (this _) ?_
 simp;omega
theorem Yx (b z:Int) (h:0≤b):0≤YF b z∧YF b z≤b:=by
 unfold YF;split <;> omega
theorem XAQ (h:bl.length=ol.length) (h1:∀ x∈bl,0≤x∧x<4096) (h2:∀ x∈ol,-1≤x∧x<4096):∀ x∈Xb bl ol k,0≤x∧x<4096:=by
 intro x hx
 rcases List.mem_append.1 hx with hx | hx
 · obtain⟨i,hi,rfl⟩:=List.mem_iff_getElem.1 (List.mem_of_mem_take hx)
   rw[List.getElem_zipWith]
   have q1:=h1 _ (List.getElem_mem (l:=bl) (n:=i) (by simp at hi;omega))
   have q2:=h2 _ (List.getElem_mem (l:=ol) (n:=i) (by simp at hi;omega))
   split
   · exact q1
   · omega
 · exact h1 x (List.mem_of_mem_drop hx)
theorem ZAQ (h2:∀ x∈ol,-1≤x∧x<4096):∀ x∈Ze ol k,-1≤x∧x<4096:=by
 intro x hx
 rcases List.mem_append.1 hx with hx | hx
 · have:=List.eq_of_mem_replicate hx;omega
 · exact h2 x (List.mem_of_mem_drop hx)
end
structure KCom (w:World) (base m p1 p2:Nat) (F F1 F2:List Nat) (I:PImage) (pre:List PRnd) (W:World):Prop where
 img:∃ bd od,ImageIs W base m p1 p2 F F1 F2 ⟨Xb I.bl I.ol pre.length,bd,Ze I.ol pre.length,od⟩
 out:∃ ov,Boxed W (w.heap.size+1) 22 ov∧W.ownsRow w.heap.size 3 1 ov (Zp I.bl I.ol pre.length).length (VS (Zp I.bl I.ol pre.length))
 b1:Boxed W w.heap.size 46 (.pointer (some ⟨m,0,none⟩))
 keep:Keep F w W
 few:pre.length≤I.ol.length
theorem ImageIs.putObj {W:World} {base m p1 p2 k:Nat} {F F1 F2:List Nat} {I:PImage} {o:Obj} (h:ImageIs W base m p1 p2 F F1 F2 I) (o':Obj) (hl:W.heap[k]? = some o) (ho:o.isCells=false):ImageIs (W.putObj k o') base m p1 p2 F F1 F2 I:=
 ⟨JG o' h.blk hl ho,h.b.putObj o' hl ho,h.o.putObj o' hl ho,h.apart,h.m1,h.m2,h.foot,h.base,h.ok⟩
theorem PagedAt.isCells {W:World} {base p:Nat} {F:List Nat} {l:List Int} {ds:List Bool} (h:PagedAt W base p F l ds):∀ g∈F,∀ o,W.heap[g]? = some o→o.isCells=true:=by
 obtain⟨L,U,h⟩:=h;exact h.isCells
theorem KCom.kept {w A B:World} {base m p1 p2:Nat} {F F1 F2:List Nat} {I:PImage} {pre:List PRnd} (h:KCom w base m p1 p2 F F1 F2 I pre A) (hk:Keep [] A B):KCom w base m p1 p2 F F1 F2 I pre B:=by
 obtain⟨bd,od,h1⟩:=h.img
 obtain⟨ov,h2,h3⟩:=h.out
 exact⟨⟨bd,od,h1.keep0 hk⟩,⟨ov,JA h2 hk (by simp),ZA h3 hk⟩,JA h.b1 hk (by simp),h.keep.trans0 hk,h.few⟩
theorem KCom.turned {w W:World} {base m p1 p2 k:Nat} {F F1 F2:List Nat} {I:PImage} {pre:List PRnd} {o o':Obj} (h:KCom w base m p1 p2 F F1 F2 I pre W) (hl:w.heap.size≤k) (hg:W.heap[k]? = some o) (ho:o.isCells=false):KCom w base m p1 p2 F F1 F2 I pre (W.putObj k o'):=by
 obtain⟨bd,od,h1⟩:=h.img
 obtain⟨ov,h2,h3⟩:=h.out
 exact⟨⟨bd,od,h1.putObj o' hg ho⟩,⟨ov,XC o' h2 hg ho,ownsRow_putObj h3 o' hg ho⟩,XC o' h.b1 hg ho,h.keep.putObj hl o',h.few⟩
theorem XAc (w:World) (base m:Nat) (F:List Nat) (I:PImage) (h:ImageAt w base m F I) :
 Calls Tryz.prog 60 #[.pointer (some ⟨m,0,none⟩)] w fun e w'=>∃ G bd od,e=.returned G∧w'.ownsRow w.heap.size 3 1 G (Zp I.bl I.ol I.ol.length).length (VS (Zp I.bl I.ol I.ol.length)) ∧
  ImageAt w' base m F ⟨Xb I.bl I.ol I.ol.length,bd,Ze I.ol I.ol.length,od⟩∧Keep F w w':=by
 obtain⟨p1,p2,F1,F2,h⟩:=h
 refine(callsIn_wide (n:=3)).1 ?_
 refine callsIn_of_wp_marks Tryz.func60 rfl trivial ?_ rfl
 simp only[Tryz.ntmps60,List.size_toArray,List.length_cons,List.length_nil,Nat.reduceAdd,Nat.reduceSub,Array.replicate_succ,Array.replicate_zero,List.push_toArray,List.append_toArray,List.nil_append,List.cons_append]
 have hT:=fun W (hk:Keep [] w W)=>callsIn_wide (n:=2).2 (XU W base m p1 p2 F F1 F2 I (h.keep0 hk) true)
 gi_wp2_with (first
  | (refine⟨trivial,?_⟩;refine(hT _ (((Keep.refl _ _).alloc _).alloc _)).mono ?_;rintro e w' ⟨rfl,rfl⟩)
  | (refine⟨trivial,?_⟩;refine(YAW _ _ _ rfl).mono ?_;rintro e w' ⟨rfl,rfl⟩))
 obtain⟨w1,hw1⟩:∃ w1,w1=w.alloc (.cells #[.pointer (some ⟨m,0,none⟩)] 46):=⟨_,rfl⟩
 obtain⟨w2,hw2⟩:∃ w2,w2=w1.alloc (.cells #[.slice none 0 0] 22):=⟨_,rfl⟩
 obtain⟨w3,hw3⟩:∃ w3,w3=w2.alloc (.cells #[.pointer (some ⟨p2,0,none⟩)] 211):=⟨_,rfl⟩
 rw[← hw1,← hw2,← hw3]
 have s1:w1.heap.size=w.heap.size+1:=by rw[hw1,World.size_alloc]
 have s2:w2.heap.size=w.heap.size+2:=by rw[hw2,World.size_alloc,s1]
 have s3:w3.heap.size=w.heap.size+3:=by rw[hw3,World.size_alloc,s2]
 have k1:Keep [] w w1:=by rw[hw1];exact(Keep.refl _ _).alloc _
 have k2:Keep [] w1 w2:=by rw[hw2];exact(Keep.refl _ _).alloc _
 have k3:Keep [] w2 w3:=by rw[hw3];exact(Keep.refl _ _).alloc _
 have kw:Keep [] w w3:=(k1.trans0 k2).trans0 k3
 have b1:Boxed w3 w.heap.size 46 (.pointer (some ⟨m,0,none⟩)):=JA (by rw[hw1];exact Boxed.new w _ _) (k2.trans0 k3) (by simp)
 have b2:Boxed w3 (w.heap.size+1) 22 (.slice none 0 0):=JA (by rw[hw2,← s1];exact Boxed.new w1 _ _) k3 (by simp)
 have bc:Boxed w3 (w.heap.size+1+1) 211 (.pointer (some ⟨p2,0,none⟩)):=by rw[hw3,show w.heap.size+1+1=w2.heap.size by omega];exact Boxed.new w2 _ _
 have hlen:=h.ok.1
 have h0:KCom w base m p1 p2 F F1 F2 I [] w3:=⟨⟨I.bd,I.od,by have:=h.keep0 kw;simpa [Xb,Ze] using this⟩,⟨_,b2,World.ownsRow_nil _ _ _ _⟩,b1,kw.zero,Nat.zero_le _⟩
 have hlt:=h.lt
 have hseq:=KAc 2 (w.heap.size+1+1) base p2 I.ol.length F2 w3 ⟨I.ol,I.od,rfl,h.o.keep0 kw⟩ bc
 refine XT (n:=3) (gf:=248) (lb:=#[.pointer (some ⟨w.heap.size+1+1,0,none⟩)]) rfl (enters_of Tryz.func248 (by kernel_rfl) rfl)
  hseq
  (fun A B C h k=>⟨fun hb=>k.1 (h.1 hb),fun hb=>k.2 (h.2 hb)⟩)
  (fun W l o o' hl hg' ho=>⟨fun hb=>XC o' hb hg' ho,fun⟨ls,ds,q1,q2⟩=>⟨ls,ds,q1,q2.putObj o' hg' ho⟩⟩)
  (fun _=>rfl) (KCom w base m p1 p2 F F1 F2 I) (fun s A B h hk=>h.kept hk) (fun s W l o o' h hl hg' ho=>h.turned (by omega) hg' ho)
  (fun pre x W l o o' h hl hg' ho=>⟨h.1,by obtain⟨ls,ds,q1,q2,q3⟩:=h.2;exact⟨ls,ds,q1,q2.putObj o' hg' ho,q3⟩⟩) h0
  (fun x=>{ tmps:=#[.pointer (some ⟨m,0,none⟩),.pointer (some ⟨w.heap.size,0,none⟩),.pointer (some ⟨w.heap.size+1,0,none⟩),.int .i64 (x.1:Nat),.int .i64 x.2,undef,.pointer (some ⟨m,0,none⟩),.pointer (some ⟨p2,0,none⟩),
    .func (.func 248) #[] #[.pointer (some ⟨w.heap.size+1+1,0,none⟩)],.int .i64 (x.1:Nat),.int .i64 x.2,undef,undef,undef,undef,undef,undef,undef,undef,undef,undef,undef,undef,undef,undef,undef,undef,undef,undef,undef,undef,undef,undef],defers:=[] }) ?assign ?body ?done
 case assign=>
  rintro l ⟨k,z⟩ W K hK
  dsimp only[VR] at hK ⊢
  gi_wp2
  exact hK
 case body=>
  rintro l pre ⟨k,z⟩ W hI ⟨hk,ls,ds,q1,q2,q3⟩
  dsimp only at hk q3 ⊢
  obtain⟨bd,od,him⟩:=hI.img
  obtain⟨ov,hb2,hov⟩:=hI.out
  have hzz:=him.o.unique q2
  subst hk
  have hkl:pre.length<I.ol.length:=by rw[← q1];exact(List.getElem?_eq_some_iff.1 q3).1
  have hkb:pre.length<I.bl.length:=by omega
  rw[← hzz,JAe hkl] at q3
  have hz:I.ol[pre.length]=z:=by simpa using q3
  have hB:=YAU (k:=pre.length) hlen hkb
  have hO:=VAZ (k:=pre.length) hkl
  have hG:=VAW (k:=pre.length) hlen hkb
  have hBat:=VAv (k:=pre.length) hlen hkb
  rw[hz] at hB hG
  have hrng:=XAQ (k:=pre.length+1) hlen h.ok.2.1 h.ok.2.2
  have hrngO:=ZAQ (ol:=I.ol) (k:=pre.length+1) h.ok.2.2
  have hBl:(Xb I.bl I.ol pre.length).length=I.bl.length:=Qa hlen (by omega)
  have hOl:(Ze I.ol pre.length).length=I.ol.length:=Yj (by omega)
  rw[hB] at hrng
  rw[hO] at hrngO
  have hb2l:=hb2.lt
  have hb1l:=hI.b1.lt
  have hIk:=hI.keep
  have hIb:=hI.b1
  have hnm1:m≠w.heap.size:=fun e=>by have:=hlt m (by rw[him.foot];simp);omega
  have hnm2:m≠w.heap.size+1:=fun e=>by have:=hlt m (by rw[him.foot];simp);omega
  have hF1n:∀ x∈F1,x<w.heap.size:=fun x hx=>hlt x (him.subB x hx)
  have hF2n:∀ x∈F2,x<w.heap.size:=fun x hx=>hlt x (him.subO x hx)
  have hfoot:=him.foot
  have hsz:=hI.keep.size
  obtain⟨c0,c1⟩:=him.cells
  have d1:=hI.b1.cell
  have hPost:∀ (gn:List Int) (cB cO:List Int),Xb I.bl I.ol (pre.length+1)=cB→Ze I.ol (pre.length+1)=cO→Zp I.bl I.ol (pre.length+1)=gn→∀ (W':World) (bd' od':List Bool) (ov':Value) (K:List Nat),ImageIs W' base m p1 p2 F F1 F2 ⟨cB,bd',cO,od'⟩→Boxed W' (w.heap.size+1) 22 ov' →
   W'.ownsRow w.heap.size 3 1 ov' gn.length (VS gn)→Keep K W W'→(∀ x∈K,x∈F∨(w.heap.size<x∧(Boxed W (w.heap.size+1+1) 211 (.pointer (some ⟨p2,0,none⟩))→¬ x=w.heap.size+1+1)∧∀ o,W.heap[x]? = some o→o.isCells=true)) →
   KeepsFrom w3.heap.size W W'∧ZAY base p2 I.ol.length (w.heap.size+1+1) F2 W W'∧KCom w base m p1 p2 F F1 F2 I (pre++[(pre.length,z)]) W':=by
   intro gn cB cO eB eO eG W' bd' od' ov' K g1 g2 g3 hK hKx
   have hsub:∀ x∈K,x≠w.heap.size∧(Boxed W (w.heap.size+1+1) 211 (.pointer (some ⟨p2,0,none⟩))→x≠w.heap.size+1+1):=fun x hx=>by
    rcases hKx x hx with h | h
    · have:=hlt x h;exact⟨by omega,fun _=>by omega⟩
    · exact⟨by omega,h.2.1⟩
   refine⟨hK.fromCells (fun x hx o ho=>?_) _,⟨fun hb=>JA hb hK (fun hm=>(hsub _ hm).2 hb rfl),fun _=>?_⟩,⟨?_,?_,JA hIb hK (fun hm=>(hsub _ hm).1 rfl),?_,by simp;omega⟩⟩
   · rcases hKx x hx with h | h
     · rw[hfoot] at h
       simp only[List.mem_cons,List.mem_append] at h
       rcases h with rfl | h | h
       · rw[show W.heap[_]? = _ from him.blk] at ho;cases ho;rfl
       · exact him.b.isCells x h o ho
       · exact him.o.isCells x h o ho
     · exact h.2.2 o ho
   · refine⟨_,_,?_,g1.o⟩
     rw[← eO,Yj (by omega)]
   · rw[List.length_append,List.length_singleton,eB,eO];exact⟨_,_,g1⟩
   · rw[List.length_append,List.length_singleton,eG];exact⟨_,g2,g3⟩
   · exact hIk.trans hK (fun x hx=>(hKx x hx).imp id (fun h=>by omega))
  have HPOST:=ZB hPost
  have HFOOT:=ZB hfoot
  have HS3:=ZB s3
  obtain⟨OA,oc,rfl,_⟩:=QB hov
  have HIM:=ZB him
  have HB2:=ZB hb2
  have HOV:=ZB hov
  by_cases hz1:z = -1
  · subst hz1
    have e1:(Ze I.ol pre.length).set pre.length (-1)=Ze I.ol pre.length:=by
     have hx:pre.length<(Ze I.ol pre.length).length:=by omega
     have:=JAe (k:=pre.length) hkl
     rw[List.getElem?_eq_getElem hx,hz] at this
     rw[← (Option.some.inj this)];exact List.set_getElem_self hx
    have e2:(Xb I.bl I.ol pre.length).set pre.length (if (-1:Int) = -1 then I.bl[pre.length] else -1)=Xb I.bl I.ol pre.length:=by
     have hx:pre.length<(Xb I.bl I.ol pre.length).length:=by omega
     have:=hBat
     rw[List.getElem?_eq_getElem hx] at this
     rw[if_pos rfl,← (Option.some.inj this)];exact List.set_getElem_self hx
    rw[e2] at hB
    rw[e1] at hO
    rw[if_pos rfl,List.append_nil] at hG
    have hR:=QA HPOST _ _ _ hB hO hG _ _ _ _ _ (QA HIM) (QA HB2) (QA HOV) (Keep.refl [] W) (by simp)
    clear h0 b1 b2 bc kw k1 k2 k3 hw1 hw2 hw3 s1 s2 s3 hseq hI hPost hfoot e1 e2 hG hO hB hBat hrng hrngO
    gi_wp2
    exact hR
  · have hBx:pre.length<(Xb I.bl I.ol pre.length).length:=by omega
    have hOx:pre.length<(Ze I.ol pre.length).length:=by omega
    have hgl:(Xb I.bl I.ol pre.length)[pre.length]=I.bl[pre.length]:=by
     have:=hBat
     rw[List.getElem?_eq_getElem hBx] at this
     exact Option.some.inj this
    rw[if_neg hz1] at hB hG hrng
    have hTs:=callsIn_wide (n:=0).2 (QAH W base p1 F1 _ _ him.b pre.length hBx z)
    have hTo:=fun W' (hP:PagedAt W' base p2 F2 (Ze I.ol pre.length) od)=>callsIn_wide (n:=0).2 (XAj W' base p2 F2 _ _ hP pre.length hOx (-1))
    simp only[hgl] at hTs
    have hbr:=h.ok.2.1 _ (List.getElem_mem hkb)
    have hfewI:=him.b.few
    simp only at hfewI
    have hgs:=Yx I.bl[pre.length] z (by omega)
    have hgc:(Zp I.bl I.ol pre.length).length≤64:=by
     have:=Qm I.bl I.ol pre.length
     omega
    generalize YF I.bl[pre.length] z=y at *
    generalize I.bl[pre.length]=bb at *
    have hbs:=him.b
    have hos:=him.o
    have hblk:=him.blk
    have hm1':=him.m1
    have hap:=him.apart
    have hmlt:m<w.heap.size:=hlt m (by rw[him.foot];simp)
    clear h0 b1 b2 bc kw k1 k2 k3 hw1 hw2 hw3 s1 s2 s3 hseq hI hPost hfoot hBat hgl hbr
    have HRO:=ZB hrngO
    clear hrngO
    have hzI:(z == -1)=false:=by simpa using hz1
    have himB:∀ (W2:World) (d1:List Bool),PagedAt W2 base p1 F1 ((Xb I.bl I.ol pre.length).set pre.length z) d1→Keep F1 W W2→ImageIs W2 base m p1 p2 F F1 F2 ⟨(Xb I.bl I.ol pre.length).set pre.length z,d1,Ze I.ol pre.length,od⟩:=fun _ _ g1 g2=>
     (QA HIM).setB g1 g2 (by simp) hrng
    have HB:=ZB hB
    have HO:=ZB hO
    have HG:=ZB hG
    have HHB:=ZB himB
    clear hB hO hG hrng himB
    have hovc:=hov
    generalize Zp I.bl I.ol pre.length=gl at *
    clear hov hb2
    have hF1b:∀ x∈F1,x≠w.heap.size∧x≠w.heap.size+1:=fun x hx=>by have:=hF1n x hx;omega
    have hovF:∀ g,(Value.slice OA gl.length oc).ownBlock=some g→g∉F1:=fun g hg hm=>by have:=(own_mem (QA HOV) (by simpa using hg)).1;have:=hF1n g hm;omega
    have hovm:∀ g,(Value.slice OA gl.length oc).ownBlock=some g→w.heap.size≤g:=fun g hg=>(own_mem (QA HOV) (by simpa using hg)).1
    have hovB:(Value.slice OA gl.length oc).ownBlock≠some (w.heap.size+1):=fun e=>(QA HB2).not_row (by decide) (QA HOV) e.symm
    have hovA:(Value.slice OA gl.length oc).ownBlock≠some w.heap.size:=fun e=>hIb.not_row (by decide) (QA HOV) e.symm
    have hovM:m∉(Value.slice OA gl.length oc).ownBlock.toList:=fun hm=>by have:=hovm m (by simpa using hm);omega
    have hF2o:Apart F2 (Value.slice OA gl.length oc).ownBlock.toList:=fun x hx hm=>by have:=hovm x (by simpa using hm);have:=hF2n x hx;omega
    have hF2b:Apart F2 [w.heap.size+1]:=fun x hx hm=>by have:=hF2n x hx;simp at hm;omega
    by_cases hy:0<y
    · have hy0:¬ y≤0:=by omega
      gi_wp2_with (first
       | (refine⟨trivial,?_⟩;refine hTs.mono ?_;clear hTs;rintro e W2 ⟨rfl,hp1,hk2⟩;(have e1:=(JA hIb hk2 (fun hm=>(hF1b _ hm).1 rfl)).cell);(have hb2':=JA (QA HB2) hk2 (fun hm=>(hF1b _ hm).2 rfl));(have e2:=hb2'.cell);(have ho2:=KA (QA HOV) hk2 hovF);(have hsz2:=hk2.size);(have hbm2:=hblk.keep hk2 hm1');(have m20:=(hbm2.cell 0).trans (show _=some (Value.pointer (some ⟨p1,0,none⟩)) from rfl));(have m21:=(hbm2.cell 1).trans (show _=some (Value.pointer (some ⟨p2,0,none⟩)) from rfl)))
       | (gi_at_builtin;refine elemIntsN.wpIn_app rfl _ _ rfl w.heap.size _ gl.length (VS gl) rfl (YD ho2 _) ⟨W2.heap.size,0,none⟩ 1 1 [.int .i64 y] rfl (KO _ _ _) (by simp[Value.oneCell']) (by omega) (by omega) (by simp;omega) ?_;intro v' W3 hv' hk3 hat;(obtain⟨VA,vc,rfl,_⟩:=QB hv');(have hkA:Keep (Value.slice OA gl.length oc).ownBlock.toList W2 W3:=((Keep.refl _ _).alloc _).trans hk3 (fun x hx=>.inl hx));(have hb3:=JA hb2' hkA (by simpa using hovB));(have e3:=hb3.cell);(have f3:=hb3.frozen);(have e4:=(JA (JA hIb hk2 (fun hm=>(hF1b _ hm).1 rfl)) hkA (by simpa using hovA)).cell);(have hbm3:=hbm2.keep hkA hovM);(have m31:=(hbm3.cell 1).trans (show _=some (Value.pointer (some ⟨p2,0,none⟩)) from rfl))))
      have hkS:Keep [w.heap.size+1] W3 (W3.setCell ⟨w.heap.size+1,0,none⟩ (.slice VA (gl.length+1) vc)):=(Keep.refl _ _).setCell (.inl (by simp)) _
      have hos4:=((hos.keep hk2 hap.symm).keep hkA hF2o).keep hkS hF2b
      gi_wp2_with (refine⟨trivial,?_⟩;refine(hTo _ hos4).mono ?_;rintro e W5 ⟨rfl,hp5,hk5⟩)
      have hFo:Apart F (Value.slice OA gl.length oc).ownBlock.toList:=fun x hx hm=>by have:=hovm x (by simpa using hm);have:=hlt x hx;omega
      have hFB:Apart F [w.heap.size+1]:=fun x hx hm=>by have:=hlt x hx;simp at hm;omega
      have im:=((((QA HHB _ _ hp1 hk2).keep hkA hFo).keep hkS hFB).setO hp5 hk5 (by simp) (QA HRO))
      have hb5:=JA (hb3.set (.slice VA (gl.length+1) vc)) hk5 (fun hm=>by have:=hF2n _ hm;omega)
      have hv5:=KA (own_set hv' (fun hm=>hb3.not_row (by decide) hv' (Eq.symm (by simpa using hm))) (.slice VA (gl.length+1) vc)) hk5 (fun g hg hm=>by have:=(own_mem hv' (by simpa using hg)).1;have:=hF2n g hm;omega)
      have hKK:Keep (F++((Value.slice OA gl.length oc).ownBlock.toList++[w.heap.size+1])) W W5:=
       (((hk2.sub (fun x hx=>List.mem_append_left _ ((QA HIM).subB x hx))).trans hkA (fun x hx=>.inl (by simp at hx;simp[hx]))).trans hkS (fun x hx=>.inl (by simp at hx;simp[hx]))).trans hk5 (fun x hx=>.inl (List.mem_append_left _ ((QA HIM).subO x hx)))
      have hGL:Zp I.bl I.ol (pre.length+1)=gl++[y]:=by rw[QA HG,if_pos hy]
      refine QA HPOST _ _ _ (QA HB) (QA HO) hGL _ _ _ _ _ im hb5 ?_ hKK ?_
      · rw[List.length_append,List.length_singleton,show VS (gl++[y])=VS gl++[.int .i64 y] by simp[VS,i64]];exact hv5
      · intro x hx
        rcases List.mem_append.1 hx with hx | hx
        · exact .inl hx
        · rcases List.mem_append.1 hx with hx | hx
          · have h1:=hovm x (by simpa using hx)
            refine .inr ⟨?_,fun hb e=>?_,fun o ho=>KK (QA HOV) x hx o ho⟩
            · refine Nat.lt_of_le_of_ne h1 (fun e=>?_)
              subst e;exact hovA (by simpa using hx)
            · subst e;exact hb.not_row (by decide) (QA HOV) (Eq.symm (by simpa using hx))
          · simp at hx
            subst hx
            exact .inr ⟨by omega,fun _=>by omega,fun o ho=>by rw[show W.heap[_]? = _ from QA HB2] at ho;cases ho;rfl⟩
    · have hy0:y=0:=by omega
      subst hy0
      gi_wp2_with (refine⟨trivial,?_⟩;refine hTs.mono ?_;clear hTs;rintro e W2 ⟨rfl,hp1,hk2⟩;(have e1:=(JA hIb hk2 (fun hm=>(hF1b _ hm).1 rfl)).cell);(have hb2':=JA (QA HB2) hk2 (fun hm=>(hF1b _ hm).2 rfl));(have ho2:=KA (QA HOV) hk2 hovF);(have hbm2:=hblk.keep hk2 hm1');(have m20:=(hbm2.cell 0).trans (show _=some (Value.pointer (some ⟨p1,0,none⟩)) from rfl));(have m21:=(hbm2.cell 1).trans (show _=some (Value.pointer (some ⟨p2,0,none⟩)) from rfl)))
      have hos4:=hos.keep hk2 hap.symm
      gi_wp2_with (refine⟨trivial,?_⟩;refine(hTo _ hos4).mono ?_;rintro e W5 ⟨rfl,hp5,hk5⟩)
      have im:=((QA HHB _ _ hp1 hk2).setO hp5 hk5 (by simp) (QA HRO))
      have hb5:=JA hb2' hk5 (fun hm=>by have:=hF2n _ hm;omega)
      have hv5:=KA ho2 hk5 (fun g hg hm=>by have:=hovm g hg;have:=hF2n g hm;omega)
      have hKK:Keep F W W5:=(hk2.sub (fun x hx=>(QA HIM).subB x hx)).trans hk5 (fun x hx=>.inl ((QA HIM).subO x hx))
      have hGL:Zp I.bl I.ol (pre.length+1)=gl:=by rw[QA HG,if_neg (by omega),List.append_nil]
      exact QA HPOST _ _ _ (QA HB) (QA HO) hGL _ _ _ _ _ im hb5 hv5 hKK (fun x hx=>.inl hx)
 case done=>
  intro D' xs W hD' hS hI hdef
  obtain⟨bd,od,him⟩:=hI.img
  obtain⟨ov,hb2,hov⟩:=hI.out
  rw[hS] at him hov
  obtain⟨gl,hgl⟩:∃ gl,gl=Zp I.bl I.ol I.ol.length:=⟨_,rfl⟩
  rw[← hgl] at hov
  have HGL:=ZB hgl
  clear hgl
  obtain⟨OA,oc,rfl,_⟩:=QB hov
  have hc2:=hb2.cell
  have hf2:=hb2.frozen
  have HI:=ZB hI
  have HOV:=ZB hov
  have HIM:=ZB him
  clear h0 b1 b2 bc kw k1 k2 k3 hw1 hw2 hw3 s1 s2 hseq hI hov him
  gi_wp2
  have hI:=QA HI
  have hov:=QA HOV
  have him:=QA HIM
  have hKs:Keep [w.heap.size+1] W (W.setCell ⟨w.heap.size+1,0,none⟩ (.slice OA gl.length oc)):=(Keep.refl _ _).setCell (p:=⟨w.heap.size+1,0,none⟩) (.inl (by simp)) _
  have hdef2:(W.setCell ⟨w.heap.size+1,0,none⟩ (.slice OA gl.length oc)).heap[D']? = some (.deferred (some [])):=(hKs.block D' (Array.getElem?_eq_some_iff.1 hdef).1 (by simp;omega)).trans hdef
  have q6:=(XC (.deferred none) (hb2.set (.slice OA gl.length oc)) hdef2 rfl).cell
  have hkw:=(hI.keep.trans hKs (fun x hx=>.inr (by simp at hx;omega))).putObj (g:=D') (by omega) (.deferred none)
  have hov2:=ownsRow_putObj (own_set hov (fun hm=>hb2.not_row (by decide) hov (Eq.symm (by simpa using hm))) (.slice OA gl.length oc)) (.deferred none) hdef2 rfl
  have him2:=(him.keep hKs (fun x hx hm=>by have:=hlt x hx;simp at hm;omega)).putObj (.deferred none) hdef2 rfl
  refine⟨by simp,.inl ⟨_,_,rfl,run_takeDeferred hdef2,?_⟩⟩
  refine⟨.slice OA gl.length oc,?_,_,_,_,rfl,by rw[QA HGL] at hov2 ⊢;exact hov2,⟨_,_,_,_,him2⟩,hkw⟩
  simp[results,Tryz.results60,go_sem,q6]
end
end Go.Proofs.YthgphmfipnjllaaGreat
