/- Lemmas of the proof, with their conditions. -/
import Derived.Test.YtkonbpfbjiepfaaGreatP31
import Derived.Test.YtkonbpfbjiepfaaGreatP29
namespace Go.Proofs.YtkonbpfbjiepfaaGreat
set_option linter.unusedSimpArgs false
set_option linter.unusedVariables false
set_option maxHeartbeats 4000000
set_option maxRecDepth 100000
section
open Go.RowKit Go.Shelf
attribute [local go_sem] Oper.semAt_some
def Vn (bl ol:List Int) (k:Nat):List Int:=(List.zipWith (fun b o=>if o = -1 then b else o) bl ol).take k++bl.drop k
def Ze (ol:List Int) (k:Nat):List Int:=List.replicate k (-1)++ol.drop k
def Vv (bl ol:List Int) (k:Nat):List Int:=((bl.zip ol).take k).flatMap (fun p=>if p.2 = -1 then [] else if 0<XE p.1 p.2 then [XE p.1 p.2] else [])
section
variable {bl ol:List Int} {k:Nat}
theorem Xp (h:bl.length=ol.length) (hk:k≤bl.length):(Vn bl ol k).length=bl.length:=by simp[Vn];omega
theorem VY (hk:k≤ol.length):(Ze ol k).length=ol.length:=by simp[Ze];omega
theorem XBJ (h:bl.length=ol.length) (hk:k<bl.length):(Vn bl ol k)[k]? = some bl[k]:=by
 have hl:((List.zipWith (fun b o=>if o = -1 then b else o) bl ol).take k).length=k:=by simp;omega
 unfold Vn;rw[List.getElem?_append_right (by omega),hl,Nat.sub_self,List.getElem?_drop];simp[hk]
theorem QAP (hk:k<ol.length):(Ze ol k)[k]? = some ol[k]:=by
 unfold Ze;rw[List.getElem?_append_right (by simp),List.length_replicate,Nat.sub_self,List.getElem?_drop];simp[hk]
theorem YAd (h:bl.length=ol.length) (hk:k<bl.length):Vn bl ol (k+1)=(Vn bl ol k).set k (if ol[k]'(by omega) = -1 then bl[k] else ol[k]'(by omega)):=by
 have hz:k<(List.zipWith (fun b o=>if o = -1 then b else o) bl ol).length:=by simp;omega
 have hl:((List.zipWith (fun b o=>if o = -1 then b else o) bl ol).take k).length=k:=by simp;omega
 unfold Vn;rw[List.take_succ_eq_append_getElem hz,List.set_append_right _ _ (by omega),hl,Nat.sub_self,List.drop_eq_getElem_cons hk,List.set_cons_zero];simp
theorem ZAJ (hk:k<ol.length):Ze ol (k+1)=(Ze ol k).set k (-1):=by
 unfold Ze;rw[List.replicate_succ',List.set_append_right _ _ (by simp),List.length_replicate,Nat.sub_self,List.drop_eq_getElem_cons hk,List.set_cons_zero];simp
theorem JAr (h:bl.length=ol.length) (hk:k<bl.length):Vv bl ol (k+1)=Vv bl ol k++if ol[k]'(by omega) = -1 then [] else if 0<XE bl[k] (ol[k]'(by omega)) then [XE bl[k] (ol[k]'(by omega))] else []:=by
 have hz:k<(bl.zip ol).length:=by simp;omega
 unfold Vv;rw[List.take_succ_eq_append_getElem hz,List.flatMap_append];simp
theorem Yr (bl ol:List Int) (k:Nat):(Vv bl ol k).length≤k:=by
 unfold Vv
 have:∀ l:List (Int×Int),(l.flatMap (fun p=>if p.2 = -1 then [] else if 0<XE p.1 p.2 then [XE p.1 p.2] else [])).length≤l.length:=by
  intro l
  induction l with
  | nil=>simp
  | cons p l ih=>
    rw[List.flatMap_cons,List.length_append,List.length_cons]
    have:(if p.2 = -1 then [] else if 0<XE p.1 p.2 then [XE p.1 p.2] else []).length≤1:=by
     split
     · simp
     · split <;> simp
    omega
 refine Nat.le_trans (this _) ?_;simp;omega
theorem KAF (b z:Int) (h:0≤b):0≤XE b z∧XE b z≤b:=by
 unfold XE;split <;> omega
theorem JAa (h:bl.length=ol.length) (h1:∀ x∈bl,0≤x∧x<4096) (h2:∀ x∈ol,-1≤x∧x<4096):∀ x∈Vn bl ol k,0≤x∧x<4096:=by
 intro x hx;rcases List.mem_append.1 hx with hx | hx
 · obtain⟨i,hi,rfl⟩:=List.mem_iff_getElem.1 (List.mem_of_mem_take hx)
   rw[List.getElem_zipWith];have q1:=h1 _ (List.getElem_mem (l:=bl) (n:=i) (by simp at hi;omega));have q2:=h2 _ (List.getElem_mem (l:=ol) (n:=i) (by simp at hi;omega))
   split
   · exact q1
   · omega
 · exact h1 x (List.mem_of_mem_drop hx)
theorem Xw (h2:∀ x∈ol,-1≤x∧x<4096):∀ x∈Ze ol k,-1≤x∧x<4096:=by
 intro x hx;rcases List.mem_append.1 hx with hx | hx
 · have:=List.eq_of_mem_replicate hx;omega
 · exact h2 x (List.mem_of_mem_drop hx)
end
structure KCom (w:World) (base m p1 p2:Nat) (F F1 F2:List Nat) (I:PImage) (pre:List PRnd) (W:World):Prop where
 img:∃ bd od,ImageIs W base m p1 p2 F F1 F2 ⟨Vn I.bl I.ol pre.length,bd,Ze I.ol pre.length,od⟩
 out:∃ ov,Boxed W (w.heap.size+1) 22 ov∧W.ownsRow w.heap.size 3 1 ov (Vv I.bl I.ol pre.length).length (JK (Vv I.bl I.ol pre.length))
 b1:Boxed W w.heap.size 46 (.pointer (some ⟨m,0,none⟩))
 keep:Keep F w W
 few:pre.length≤I.ol.length
theorem ImageIs.putObj {W:World} {base m p1 p2 k:Nat} {F F1 F2:List Nat} {I:PImage} {o:Obj} (h:ImageIs W base m p1 p2 F F1 F2 I) (o':Obj) (hl:W.heap[k]? = some o) (ho:o.isCells=false):ImageIs (W.putObj k o') base m p1 p2 F F1 F2 I:=
 ⟨ZJ o' h.blk hl ho,h.b.putObj o' hl ho,h.o.putObj o' hl ho,h.apart,h.m1,h.m2,h.foot,h.base,h.ok⟩
theorem PagedAt.isCells {W:World} {base p:Nat} {F:List Nat} {l:List Int} {ds:List Bool} (h:PagedAt W base p F l ds):∀ g∈F,∀ o,W.heap[g]? = some o→o.isCells=true:=by
 obtain⟨L,U,h⟩:=h;exact h.isCells
theorem KCom.kept {w A B:World} {base m p1 p2:Nat} {F F1 F2:List Nat} {I:PImage} {pre:List PRnd} (h:KCom w base m p1 p2 F F1 F2 I pre A) (hk:Keep [] A B):KCom w base m p1 p2 F F1 F2 I pre B:=by
 obtain⟨bd,od,h1⟩:=h.img;obtain⟨ov,h2,h3⟩:=h.out;exact⟨⟨bd,od,h1.keep0 hk⟩,⟨ov,JA h2 hk (by simp),KA h3 hk⟩,JA h.b1 hk (by simp),h.keep.trans0 hk,h.few⟩
theorem KCom.turned {w W:World} {base m p1 p2 k:Nat} {F F1 F2:List Nat} {I:PImage} {pre:List PRnd} {o o':Obj} (h:KCom w base m p1 p2 F F1 F2 I pre W) (hl:w.heap.size≤k) (hg:W.heap[k]? = some o) (ho:o.isCells=false):KCom w base m p1 p2 F F1 F2 I pre (W.putObj k o'):=by
 obtain⟨bd,od,h1⟩:=h.img;obtain⟨ov,h2,h3⟩:=h.out;exact⟨⟨bd,od,h1.putObj o' hg ho⟩,⟨ov,JC o' h2 hg ho,ownsRow_putObj h3 o' hg ho⟩,JC o' h.b1 hg ho,h.keep.putObj hl o',h.few⟩
theorem XAr (w:World) (base m:Nat) (F:List Nat) (I:PImage) (h:ImageAt w base m F I) :
 Calls Tryz.prog 57 #[.pointer (some ⟨m,0,none⟩)] w fun e w'=>∃ G bd od,e=.returned G∧w'.ownsRow w.heap.size 3 1 G (Vv I.bl I.ol I.ol.length).length (JK (Vv I.bl I.ol I.ol.length)) ∧
  ImageAt w' base m F ⟨Vn I.bl I.ol I.ol.length,bd,Ze I.ol I.ol.length,od⟩∧Keep F w w':=by
 obtain⟨p1,p2,F1,F2,h⟩:=h;refine(callsIn_wide (n:=3)).1 ?_;refine callsIn_of_wp_marks Tryz.func57 rfl trivial ?_ rfl;simp only[Tryz.ntmps57,List.size_toArray,List.length_cons,List.length_nil,Nat.reduceAdd,Nat.reduceSub,Array.replicate_succ,Array.replicate_zero,List.push_toArray,List.append_toArray,List.nil_append,List.cons_append];have hT:=fun W (hk:Keep [] w W)=>callsIn_wide (n:=2).2 (XL W base m p1 p2 F F1 F2 I (h.keep0 hk) true)
 gi_wp2_with (first
  | (refine⟨trivial,?_⟩;refine(hT _ (((Keep.refl _ _).alloc _).alloc _)).mono ?_;rintro e w' ⟨rfl,rfl⟩)
  | (refine⟨trivial,?_⟩;refine(Vp _ _ _ rfl).mono ?_;rintro e w' ⟨rfl,rfl⟩))
 obtain⟨w1,hw1⟩:∃ w1,w1=w.alloc (.cells #[.pointer (some ⟨m,0,none⟩)] 46):=⟨_,rfl⟩;obtain⟨w2,hw2⟩:∃ w2,w2=w1.alloc (.cells #[.slice none 0 0] 22):=⟨_,rfl⟩;obtain⟨w3,hw3⟩:∃ w3,w3=w2.alloc (.cells #[.pointer (some ⟨p2,0,none⟩)] 198):=⟨_,rfl⟩;rw[← hw1,← hw2,← hw3];have s1:w1.heap.size=w.heap.size+1:=by rw[hw1,World.size_alloc]
 have s2:w2.heap.size=w.heap.size+2:=by rw[hw2,World.size_alloc,s1]
 have s3:w3.heap.size=w.heap.size+3:=by rw[hw3,World.size_alloc,s2]
 have k1:Keep [] w w1:=by rw[hw1];exact(Keep.refl _ _).alloc _
 have k2:Keep [] w1 w2:=by rw[hw2];exact(Keep.refl _ _).alloc _
 have k3:Keep [] w2 w3:=by rw[hw3];exact(Keep.refl _ _).alloc _
 have kw:Keep [] w w3:=(k1.trans0 k2).trans0 k3;have b1:Boxed w3 w.heap.size 46 (.pointer (some ⟨m,0,none⟩)):=JA (by rw[hw1];exact Boxed.new w _ _) (k2.trans0 k3) (by simp);have b2:Boxed w3 (w.heap.size+1) 22 (.slice none 0 0):=JA (by rw[hw2,← s1];exact Boxed.new w1 _ _) k3 (by simp);have bc:Boxed w3 (w.heap.size+1+1) 198 (.pointer (some ⟨p2,0,none⟩)):=by rw[hw3,show w.heap.size+1+1=w2.heap.size by omega];exact Boxed.new w2 _ _
 have hlen:=h.ok.1;have h0:KCom w base m p1 p2 F F1 F2 I [] w3:=⟨⟨I.bd,I.od,by have:=h.keep0 kw;simpa [Vn,Ze] using this⟩,⟨_,b2,World.ownsRow_nil _ _ _ _⟩,b1,kw.zero,Nat.zero_le _⟩;have hlt:=h.lt;have hseq:=QAE 2 (w.heap.size+1+1) base p2 I.ol.length F2 w3 ⟨I.ol,I.od,rfl,h.o.keep0 kw⟩ bc
 refine QP (n:=3) (gf:=208) (lb:=#[.pointer (some ⟨w.heap.size+1+1,0,none⟩)]) rfl (enters_of Tryz.func208 (by kernel_rfl) rfl)
  hseq
  (fun A B C h k=>⟨fun hb=>k.1 (h.1 hb),fun hb=>k.2 (h.2 hb)⟩)
  (fun W l o o' hl hg' ho=>⟨fun hb=>JC o' hb hg' ho,fun⟨ls,ds,q1,q2⟩=>⟨ls,ds,q1,q2.putObj o' hg' ho⟩⟩)
  (fun _=>rfl) (KCom w base m p1 p2 F F1 F2 I) (fun s A B h hk=>h.kept hk) (fun s W l o o' h hl hg' ho=>h.turned (by omega) hg' ho)
  (fun pre x W l o o' h hl hg' ho=>⟨h.1,by obtain⟨ls,ds,q1,q2,q3⟩:=h.2;exact⟨ls,ds,q1,q2.putObj o' hg' ho,q3⟩⟩) h0
  (fun x=>{ tmps:=#[.pointer (some ⟨m,0,none⟩),.pointer (some ⟨w.heap.size,0,none⟩),.pointer (some ⟨w.heap.size+1,0,none⟩),.int .i64 (x.1:Nat),.int .i64 x.2,undef,.pointer (some ⟨m,0,none⟩),.pointer (some ⟨p2,0,none⟩),
    .func (.func 208) #[] #[.pointer (some ⟨w.heap.size+1+1,0,none⟩)],.int .i64 (x.1:Nat),.int .i64 x.2,undef,undef,undef,undef,undef,undef,undef,undef,undef,undef,undef,undef,undef,undef,undef,undef,undef,undef,undef,undef,undef,undef],defers:=[] }) ?assign ?body ?done
 case assign=>
  rintro l ⟨k,z⟩ W K hK;dsimp only[ZP] at hK ⊢
  gi_wp2
  exact hK
 case body=>
  rintro l pre ⟨k,z⟩ W hI ⟨hk,ls,ds,q1,q2,q3⟩;dsimp only at hk q3 ⊢;obtain⟨bd,od,him⟩:=hI.img;obtain⟨ov,hb2,hov⟩:=hI.out;have hzz:=him.o.unique q2;subst hk;have hkl:pre.length<I.ol.length:=by rw[← q1];exact(List.getElem?_eq_some_iff.1 q3).1
  have hkb:pre.length<I.bl.length:=by omega
  rw[← hzz,QAP hkl] at q3;have hz:I.ol[pre.length]=z:=by simpa using q3
  have hB:=YAd (k:=pre.length) hlen hkb;have hO:=ZAJ (k:=pre.length) hkl;have hG:=JAr (k:=pre.length) hlen hkb;have hBat:=XBJ (k:=pre.length) hlen hkb;rw[hz] at hB hG;have hrng:=JAa (k:=pre.length+1) hlen h.ok.2.1 h.ok.2.2;have hrngO:=Xw (ol:=I.ol) (k:=pre.length+1) h.ok.2.2;have hBl:(Vn I.bl I.ol pre.length).length=I.bl.length:=Xp hlen (by omega);have hOl:(Ze I.ol pre.length).length=I.ol.length:=VY (by omega);rw[hB] at hrng;rw[hO] at hrngO;have hb2l:=hb2.lt;have hb1l:=hI.b1.lt;have hIk:=hI.keep;have hIb:=hI.b1;have hnm1:m≠w.heap.size:=fun e=>by have:=hlt m (by rw[him.foot];simp);omega
  have hnm2:m≠w.heap.size+1:=fun e=>by have:=hlt m (by rw[him.foot];simp);omega
  have hF1n:∀ x∈F1,x<w.heap.size:=fun x hx=>hlt x (him.subB x hx);have hF2n:∀ x∈F2,x<w.heap.size:=fun x hx=>hlt x (him.subO x hx);have hfoot:=him.foot;have hsz:=hI.keep.size;obtain⟨c0,c1⟩:=him.cells;have d1:=hI.b1.cell
  have hPost:∀ (gn:List Int) (cB cO:List Int),Vn I.bl I.ol (pre.length+1)=cB→Ze I.ol (pre.length+1)=cO→Vv I.bl I.ol (pre.length+1)=gn→∀ (W':World) (bd' od':List Bool) (ov':Value) (K:List Nat),ImageIs W' base m p1 p2 F F1 F2 ⟨cB,bd',cO,od'⟩→Boxed W' (w.heap.size+1) 22 ov' →
   W'.ownsRow w.heap.size 3 1 ov' gn.length (JK gn)→Keep K W W'→(∀ x∈K,x∈F∨(w.heap.size<x∧(Boxed W (w.heap.size+1+1) 198 (.pointer (some ⟨p2,0,none⟩))→¬ x=w.heap.size+1+1)∧∀ o,W.heap[x]? = some o→o.isCells=true)) →
   KeepsFrom w3.heap.size W W'∧VAP base p2 I.ol.length (w.heap.size+1+1) F2 W W'∧KCom w base m p1 p2 F F1 F2 I (pre++[(pre.length,z)]) W':=by
   intro gn cB cO eB eO eG W' bd' od' ov' K g1 g2 g3 hK hKx
   have hsub:∀ x∈K,x≠w.heap.size∧(Boxed W (w.heap.size+1+1) 198 (.pointer (some ⟨p2,0,none⟩))→x≠w.heap.size+1+1):=fun x hx=>by
    rcases hKx x hx with h | h
    · have:=hlt x h;exact⟨by omega,fun _=>by omega⟩
    · exact⟨by omega,h.2.1⟩
   refine⟨hK.fromCells (fun x hx o ho=>?_) _,⟨fun hb=>JA hb hK (fun hm=>(hsub _ hm).2 hb rfl),fun _=>?_⟩,⟨?_,?_,JA hIb hK (fun hm=>(hsub _ hm).1 rfl),?_,by simp;omega⟩⟩
   · rcases hKx x hx with h | h
     · rw[hfoot] at h
       simp only[List.mem_cons,List.mem_append] at h;rcases h with rfl | h | h
       · rw[show W.heap[_]? = _ from him.blk] at ho;cases ho;rfl
       · exact him.b.isCells x h o ho
       · exact him.o.isCells x h o ho
     · exact h.2.2 o ho
   · refine⟨_,_,?_,g1.o⟩
     rw[← eO,VY (by omega)]
   · rw[List.length_append,List.length_singleton,eB,eO];exact⟨_,_,g1⟩
   · rw[List.length_append,List.length_singleton,eG];exact⟨_,g2,g3⟩
   · exact hIk.trans hK (fun x hx=>(hKx x hx).imp id (fun h=>by omega))
  have HPOST:=JB hPost;have HFOOT:=JB hfoot;have HS3:=JB s3;obtain⟨OA,oc,rfl,_⟩:=ZB hov;have HIM:=JB him;have HB2:=JB hb2;have HOV:=JB hov
  by_cases hz1:z = -1
  · subst hz1
    have e1:(Ze I.ol pre.length).set pre.length (-1)=Ze I.ol pre.length:=by
     have hx:pre.length<(Ze I.ol pre.length).length:=by omega
     have:=QAP (k:=pre.length) hkl;rw[List.getElem?_eq_getElem hx,hz] at this;rw[← (Option.some.inj this)];exact List.set_getElem_self hx
    have e2:(Vn I.bl I.ol pre.length).set pre.length (if (-1:Int) = -1 then I.bl[pre.length] else -1)=Vn I.bl I.ol pre.length:=by
     have hx:pre.length<(Vn I.bl I.ol pre.length).length:=by omega
     have:=hBat;rw[List.getElem?_eq_getElem hx] at this;rw[if_pos rfl,← (Option.some.inj this)];exact List.set_getElem_self hx
    rw[e2] at hB;rw[e1] at hO;rw[if_pos rfl,List.append_nil] at hG;have hR:=XA HPOST _ _ _ hB hO hG _ _ _ _ _ (XA HIM) (XA HB2) (XA HOV) (Keep.refl [] W) (by simp);clear h0 b1 b2 bc kw k1 k2 k3 hw1 hw2 hw3 s1 s2 s3 hseq hI hPost hfoot e1 e2 hG hO hB hBat hrng hrngO
    gi_wp2
    exact hR
  · have hBx:pre.length<(Vn I.bl I.ol pre.length).length:=by omega
    have hOx:pre.length<(Ze I.ol pre.length).length:=by omega
    have hgl:(Vn I.bl I.ol pre.length)[pre.length]=I.bl[pre.length]:=by
     have:=hBat;rw[List.getElem?_eq_getElem hBx] at this;exact Option.some.inj this
    rw[if_neg hz1] at hB hG hrng;have hTs:=callsIn_wide (n:=0).2 (Xt W base p1 F1 _ _ him.b pre.length hBx z);have hTo:=fun W' (hP:PagedAt W' base p2 F2 (Ze I.ol pre.length) od)=>callsIn_wide (n:=0).2 (XAn W' base p2 F2 _ _ hP pre.length hOx (-1));simp only[hgl] at hTs;have hbr:=h.ok.2.1 _ (List.getElem_mem hkb);have hfewI:=him.b.few;simp only at hfewI;have hgs:=KAF I.bl[pre.length] z (by omega)
    have hgc:(Vv I.bl I.ol pre.length).length≤64:=by
     have:=Yr I.bl I.ol pre.length;omega
    generalize XE I.bl[pre.length] z=y at *;generalize I.bl[pre.length]=bb at *;have hbs:=him.b;have hos:=him.o;have hblk:=him.blk;have hm1':=him.m1;have hap:=him.apart;have hmlt:m<w.heap.size:=hlt m (by rw[him.foot];simp);clear h0 b1 b2 bc kw k1 k2 k3 hw1 hw2 hw3 s1 s2 s3 hseq hI hPost hfoot hBat hgl hbr;have HRO:=JB hrngO;clear hrngO;have hzI:(z == -1)=false:=by simpa using hz1
    have himB:∀ (W2:World) (d1:List Bool),PagedAt W2 base p1 F1 ((Vn I.bl I.ol pre.length).set pre.length z) d1→Keep F1 W W2→ImageIs W2 base m p1 p2 F F1 F2 ⟨(Vn I.bl I.ol pre.length).set pre.length z,d1,Ze I.ol pre.length,od⟩:=fun _ _ g1 g2=>
     (XA HIM).setB g1 g2 (by simp) hrng
    have HB:=JB hB;have HO:=JB hO;have HG:=JB hG;have HHB:=JB himB;clear hB hO hG hrng himB;have hovc:=hov;generalize Vv I.bl I.ol pre.length=gl at *;clear hov hb2;have hF1b:∀ x∈F1,x≠w.heap.size∧x≠w.heap.size+1:=fun x hx=>by have:=hF1n x hx;omega
    have hovF:∀ g,(Value.slice OA gl.length oc).ownBlock=some g→g∉F1:=fun g hg hm=>by have:=(own_mem (XA HOV) (by simpa using hg)).1;have:=hF1n g hm;omega
    have hovm:∀ g,(Value.slice OA gl.length oc).ownBlock=some g→w.heap.size≤g:=fun g hg=>(own_mem (XA HOV) (by simpa using hg)).1;have hovB:(Value.slice OA gl.length oc).ownBlock≠some (w.heap.size+1):=fun e=>(XA HB2).not_row (by decide) (XA HOV) e.symm;have hovA:(Value.slice OA gl.length oc).ownBlock≠some w.heap.size:=fun e=>hIb.not_row (by decide) (XA HOV) e.symm;have hovM:m∉(Value.slice OA gl.length oc).ownBlock.toList:=fun hm=>by have:=hovm m (by simpa using hm);omega
    have hF2o:Apart F2 (Value.slice OA gl.length oc).ownBlock.toList:=fun x hx hm=>by have:=hovm x (by simpa using hm);have:=hF2n x hx;omega
    have hF2b:Apart F2 [w.heap.size+1]:=fun x hx hm=>by have:=hF2n x hx;simp at hm;omega
    by_cases hy:0<y
    · have hy0:¬ y≤0:=by omega
      gi_wp2_with (first
       | (refine⟨trivial,?_⟩;refine hTs.mono ?_;clear hTs;rintro e W2 ⟨rfl,hp1,hk2⟩;(have e1:=(JA hIb hk2 (fun hm=>(hF1b _ hm).1 rfl)).cell);(have hb2':=JA (XA HB2) hk2 (fun hm=>(hF1b _ hm).2 rfl));(have e2:=hb2'.cell);(have ho2:=QB (XA HOV) hk2 hovF);(have hsz2:=hk2.size);(have hbm2:=hblk.keep hk2 hm1');(have m20:=(hbm2.cell 0).trans (show _=some (Value.pointer (some ⟨p1,0,none⟩)) from rfl));(have m21:=(hbm2.cell 1).trans (show _=some (Value.pointer (some ⟨p2,0,none⟩)) from rfl)))
       | (gi_at_builtin;refine elemIntsN.wpIn_app rfl _ _ rfl w.heap.size _ gl.length (JK gl) rfl (XD ho2 _) ⟨W2.heap.size,0,none⟩ 1 1 [.int .i64 y] rfl (JS _ _ _) (by simp[Value.oneCell']) (by omega) (by omega) (by simp;omega) ?_;intro v' W3 hv' hk3 hat;(obtain⟨VA,vc,rfl,_⟩:=ZB hv');(have hkA:Keep (Value.slice OA gl.length oc).ownBlock.toList W2 W3:=((Keep.refl _ _).alloc _).trans hk3 (fun x hx=>.inl hx));(have hb3:=JA hb2' hkA (by simpa using hovB));(have e3:=hb3.cell);(have f3:=hb3.frozen);(have e4:=(JA (JA hIb hk2 (fun hm=>(hF1b _ hm).1 rfl)) hkA (by simpa using hovA)).cell);(have hbm3:=hbm2.keep hkA hovM);(have m31:=(hbm3.cell 1).trans (show _=some (Value.pointer (some ⟨p2,0,none⟩)) from rfl))))
      have hkS:Keep [w.heap.size+1] W3 (W3.setCell ⟨w.heap.size+1,0,none⟩ (.slice VA (gl.length+1) vc)):=(Keep.refl _ _).setCell (.inl (by simp)) _;have hos4:=((hos.keep hk2 hap.symm).keep hkA hF2o).keep hkS hF2b
      gi_wp2_with (refine⟨trivial,?_⟩;refine(hTo _ hos4).mono ?_;rintro e W5 ⟨rfl,hp5,hk5⟩)
      have hFo:Apart F (Value.slice OA gl.length oc).ownBlock.toList:=fun x hx hm=>by have:=hovm x (by simpa using hm);have:=hlt x hx;omega
      have hFB:Apart F [w.heap.size+1]:=fun x hx hm=>by have:=hlt x hx;simp at hm;omega
      have im:=((((XA HHB _ _ hp1 hk2).keep hkA hFo).keep hkS hFB).setO hp5 hk5 (by simp) (XA HRO));have hb5:=JA (hb3.set (.slice VA (gl.length+1) vc)) hk5 (fun hm=>by have:=hF2n _ hm;omega);have hv5:=QB (own_set hv' (fun hm=>hb3.not_row (by decide) hv' (Eq.symm (by simpa using hm))) (.slice VA (gl.length+1) vc)) hk5 (fun g hg hm=>by have:=(own_mem hv' (by simpa using hg)).1;have:=hF2n g hm;omega)
      have hKK:Keep (F++((Value.slice OA gl.length oc).ownBlock.toList++[w.heap.size+1])) W W5:=
       (((hk2.sub (fun x hx=>List.mem_append_left _ ((XA HIM).subB x hx))).trans hkA (fun x hx=>.inl (by simp at hx;simp[hx]))).trans hkS (fun x hx=>.inl (by simp at hx;simp[hx]))).trans hk5 (fun x hx=>.inl (List.mem_append_left _ ((XA HIM).subO x hx)))
      have hGL:Vv I.bl I.ol (pre.length+1)=gl++[y]:=by rw[XA HG,if_pos hy]
      refine XA HPOST _ _ _ (XA HB) (XA HO) hGL _ _ _ _ _ im hb5 ?_ hKK ?_
      · rw[List.length_append,List.length_singleton,show JK (gl++[y])=JK gl++[.int .i64 y] by simp[JK,i64]];exact hv5
      · intro x hx
        rcases List.mem_append.1 hx with hx | hx
        · exact .inl hx
        · rcases List.mem_append.1 hx with hx | hx
          · have h1:=hovm x (by simpa using hx)
            refine .inr ⟨?_,fun hb e=>?_,fun o ho=>VP (XA HOV) x hx o ho⟩
            · refine Nat.lt_of_le_of_ne h1 (fun e=>?_)
              subst e;exact hovA (by simpa using hx)
            · subst e;exact hb.not_row (by decide) (XA HOV) (Eq.symm (by simpa using hx))
          · simp at hx
            subst hx;exact .inr ⟨by omega,fun _=>by omega,fun o ho=>by rw[show W.heap[_]? = _ from XA HB2] at ho;cases ho;rfl⟩
    · have hy0:y=0:=by omega
      subst hy0
      gi_wp2_with (refine⟨trivial,?_⟩;refine hTs.mono ?_;clear hTs;rintro e W2 ⟨rfl,hp1,hk2⟩;(have e1:=(JA hIb hk2 (fun hm=>(hF1b _ hm).1 rfl)).cell);(have hb2':=JA (XA HB2) hk2 (fun hm=>(hF1b _ hm).2 rfl));(have ho2:=QB (XA HOV) hk2 hovF);(have hbm2:=hblk.keep hk2 hm1');(have m20:=(hbm2.cell 0).trans (show _=some (Value.pointer (some ⟨p1,0,none⟩)) from rfl));(have m21:=(hbm2.cell 1).trans (show _=some (Value.pointer (some ⟨p2,0,none⟩)) from rfl)))
      have hos4:=hos.keep hk2 hap.symm
      gi_wp2_with (refine⟨trivial,?_⟩;refine(hTo _ hos4).mono ?_;rintro e W5 ⟨rfl,hp5,hk5⟩)
      have im:=((XA HHB _ _ hp1 hk2).setO hp5 hk5 (by simp) (XA HRO));have hb5:=JA hb2' hk5 (fun hm=>by have:=hF2n _ hm;omega);have hv5:=QB ho2 hk5 (fun g hg hm=>by have:=hovm g hg;have:=hF2n g hm;omega);have hKK:Keep F W W5:=(hk2.sub (fun x hx=>(XA HIM).subB x hx)).trans hk5 (fun x hx=>.inl ((XA HIM).subO x hx));have hGL:Vv I.bl I.ol (pre.length+1)=gl:=by rw[XA HG,if_neg (by omega),List.append_nil]
      exact XA HPOST _ _ _ (XA HB) (XA HO) hGL _ _ _ _ _ im hb5 hv5 hKK (fun x hx=>.inl hx)
 case done=>
  intro D' xs W hD' hS hI hdef;obtain⟨bd,od,him⟩:=hI.img;obtain⟨ov,hb2,hov⟩:=hI.out;rw[hS] at him hov;obtain⟨gl,hgl⟩:∃ gl,gl=Vv I.bl I.ol I.ol.length:=⟨_,rfl⟩;rw[← hgl] at hov;have HGL:=JB hgl;clear hgl;obtain⟨OA,oc,rfl,_⟩:=ZB hov;have hc2:=hb2.cell;have hf2:=hb2.frozen;have HI:=JB hI;have HOV:=JB hov;have HIM:=JB him;clear h0 b1 b2 bc kw k1 k2 k3 hw1 hw2 hw3 s1 s2 hseq hI hov him
  gi_wp2
  have hI:=XA HI;have hov:=XA HOV;have him:=XA HIM;have hKs:Keep [w.heap.size+1] W (W.setCell ⟨w.heap.size+1,0,none⟩ (.slice OA gl.length oc)):=(Keep.refl _ _).setCell (p:=⟨w.heap.size+1,0,none⟩) (.inl (by simp)) _;have hdef2:(W.setCell ⟨w.heap.size+1,0,none⟩ (.slice OA gl.length oc)).heap[D']? = some (.deferred (some [])):=(hKs.block D' (Array.getElem?_eq_some_iff.1 hdef).1 (by simp;omega)).trans hdef;have q6:=(JC (.deferred none) (hb2.set (.slice OA gl.length oc)) hdef2 rfl).cell;have hkw:=(hI.keep.trans hKs (fun x hx=>.inr (by simp at hx;omega))).putObj (g:=D') (by omega) (.deferred none);have hov2:=ownsRow_putObj (own_set hov (fun hm=>hb2.not_row (by decide) hov (Eq.symm (by simpa using hm))) (.slice OA gl.length oc)) (.deferred none) hdef2 rfl;have him2:=(him.keep hKs (fun x hx hm=>by have:=hlt x hx;simp at hm;omega)).putObj (.deferred none) hdef2 rfl;refine⟨by simp,.inl ⟨_,_,rfl,run_takeDeferred hdef2,?_⟩⟩;refine⟨.slice OA gl.length oc,?_,_,_,_,rfl,by rw[XA HGL] at hov2 ⊢;exact hov2,⟨_,_,_,_,him2⟩,hkw⟩;simp[results,Tryz.results57,go_sem,q6]
end
section
open Go.RowKit Go.Shelf
attribute [local go_sem] Oper.semAt_some
theorem QS {w:World} {g:Nat} {t:TypeId} {x0 x1 x2 x3 x4 x5 x6 x7 x8 x9 x10 x11 x12 x13:Value} (h:Blk w g t #[x0,x1,x2,x3,x4,x5,x6,x7,x8,x9,x10,x11,x12,x13]) :
 w.cell? ⟨g,0,none⟩=some x0∧w.cell? ⟨g,1,none⟩=some x1∧w.cell? ⟨g,2,none⟩=some x2∧w.cell? ⟨g,3,none⟩=some x3∧w.cell? ⟨g,4,none⟩=some x4∧w.cell? ⟨g,5,none⟩=some x5∧w.cell? ⟨g,6,none⟩=some x6∧w.cell? ⟨g,7,none⟩=some x7∧w.cell? ⟨g,8,none⟩=some x8∧w.cell? ⟨g,9,none⟩=some x9∧w.cell? ⟨g,10,none⟩=some x10∧w.cell? ⟨g,11,none⟩=some x11∧w.cell? ⟨g,12,none⟩=some x12∧w.cell? ⟨g,13,none⟩=some x13:=
 ⟨by simpa using h.cell 0,by simpa using h.cell 1,by simpa using h.cell 2,by simpa using h.cell 3,by simpa using h.cell 4,by simpa using h.cell 5,by simpa using h.cell 6,by simpa using h.cell 7,by simpa using h.cell 8,by simpa using h.cell 9,by simpa using h.cell 10,by simpa using h.cell 11,by simpa using h.cell 12,by simpa using h.cell 13⟩
theorem Qt {w:World} {g:Nat} {t:TypeId} {x0 x1 x2 x3 x4:Value} (h:Blk w g t #[x0,x1,x2,x3,x4]) :
 w.cell? ⟨g,0,none⟩=some x0∧w.cell? ⟨g,1,none⟩=some x1∧w.cell? ⟨g,2,none⟩=some x2∧w.cell? ⟨g,3,none⟩=some x3∧w.cell? ⟨g,4,none⟩=some x4:=
 ⟨by simpa using h.cell 0,by simpa using h.cell 1,by simpa using h.cell 2,by simpa using h.cell 3,by simpa using h.cell 4⟩
def VJ (W:World) (s d g:Nat):Prop:=Blk W s 381 #[.pointer (some ⟨d,0,none⟩),.pointer (some ⟨g,0,none⟩),.int .i64 0,.int .i64 0,.int .i64 1,.int .i64 0,.int .i64 1,.bool false,.int .i64 0,.int .i64 0,.int .i64 1,.int .i64 0,.int .i64 1,.int .i64 0]
theorem Blk.new1 (w:World) (o:Obj) (t:TypeId) (cs:Array Value):Blk ((w.alloc o).alloc (.cells cs t)) (w.heap.size+1) t cs:=by
 have h:=Blk.new (w.alloc o) t cs
 rwa [World.size_alloc] at h
theorem YAV (w:World) (d g:Nat) :
 Calls Tryz.prog 287 #[.pointer (some ⟨d,0,none⟩),.pointer (some ⟨g,0,none⟩),.agg #[.int .i64 0,.int .i64 0,.int .i64 1,.int .i64 0,.int .i64 1]] w fun e w'=>∃ s,e=.returned (.pointer (some ⟨s,0,none⟩))∧VJ w' s d g∧w.heap.size≤s∧Keep [] w w':=by
 go_enter Tryz.func287,Tryz.ntmps287
 go_wp2
 go_ret;exact⟨_,rfl,Blk.new1 _ _ _ _,by simp,((Keep.refl _ _).alloc _).alloc _⟩
theorem KAN (w:World) (s d g base:Nat) (F:List Nat) (D:PDisk) (hs:VJ w s d g) (h:DiskAt w base d F D) (hoff:D.off=false) (k:Nat) (hk:k<D.n) (hf:D.faults[k]? = some false) :
 Calls Tryz.prog 385 #[.pointer (some ⟨s,0,none⟩),.int .i64 (k:Nat)] w fun e w'=>∃ u,e=.returned (.tuple #[u,.bool true])∧w'.ownsRow w.heap.size 5 1 u 64 (bys (seg 64 D.now k))∧VJ w' s d g∧Keep [s] w w':=by
 have hR:=Jc w base d F D h hoff k hk hf;unfold VJ at *;obtain⟨c0,c1,c2,c3,c4,c5,c6,c7,c8,c9,c10,c11,c12,c13⟩:=QS hs
 go_enter Tryz.func385,Tryz.ntmps385
 go_wp2_with (
  refine hR.mono ?_;clear hR c0 c1 c2 c3 c4 c5 c6 c7 c8 c9 c10 c11 c12 c13;rintro e w2 ⟨u,rfl,hu,hk2⟩;obtain⟨UA,uc,rfl,_⟩:=ZB hu;have hs2:=hs.keep0 hk2;obtain⟨c0,c1,c2,c3,c4,c5,c6,c7,c8,c9,c10,c11,c12,c13⟩:=QS hs2;have f13:=hs2.frozen 13;have hlt:=hs2.lt)
 have hs3:=hs2.set 13 (.int .i64 0);have hk3:Keep [s] w2 (w2.setCell ⟨s,13,none⟩ (.int .i64 0)):=(Keep.refl _ _).setCell (p:=⟨s,13,none⟩) (.inl (by simp)) _;have hu3:=QB hu hk3 (fun x hx hm=>by simp at hm;subst hm;exact own_blk_ne hu hs2 (by decide) hx);simp only[List.setIfInBounds_toArray,List.set_cons_zero,List.set_cons_succ] at hs3;have hd3:=hs3.drew;have q:=(QS hd3).2.2.2.2.2.2.2.2.2.2.2.2.2;refine ZT (fun W=>W.cell? ⟨s,13,none⟩=some (.int .i64 0)) 7 [[0,1,2,3,4,5,6]] q ?_;simp only[PI]
 iterate 7 (refine ZH ?_;simp only[Act.put,PU])
 refine YB ?_
 go_wp2
 go_ret2;exact⟨_,rfl,KA hu3 (Keep.refl _ _).drew,hd3,(hk2.zero.trans hk3 (fun x hx=>.inl hx)).drew⟩
theorem Jv (w:World) (s d g B base:Nat) (F:List Nat) (D:PDisk) (hs:VJ w s d g) (hg:GeomAt w g B) (h:DiskAt w base d F D) (hoff:D.off=false) (hn:D.n=198+4*pgs B) (hf:D.faults[6+4*pgs B]? = some false) (hz:seg 64 D.now (6+4*pgs B)=List.replicate 64 0) (hsF:s∉F) (hsg:s≠g) :
 Calls Tryz.prog 343 #[.pointer (some ⟨s,0,none⟩)] w fun e w'=>e=.returned (.tuple #[.agg #[.int .i64 0,.int .i64 0,.int .i64 1,.int .i64 0,.int .i64 1],.bool false])∧VJ w' s d g∧Keep [s] w w':=by
 have hH:=fun W (hk:Keep [s] w W)=>KAO W g B (hg.keep hk (by simpa using fun e=>hsg e.symm)) 0;have hC:=fun W (hk:Keep [s] w W)=>ConfigG_is W g B (hg.keep hk (by simpa using fun e=>hsg e.symm))
 have hSg:∀ W,Keep [s] w W→Calls Tryz.prog 45 #[.pointer (some ⟨g,0,none⟩),.int .i64 0] W fun e w'=>e=.returned (.int .i64 ((6+4*pgs B:Nat)))∧Keep [] W w':=fun W hk=>by
  have:=Qs W g B (hg.keep hk (by simpa using fun e=>hsg e.symm)) 0 (by omega);simpa using this
 obtain⟨K,hK⟩:∃ K:Nat,K=6+4*pgs B:=⟨_,rfl⟩;have hR:=fun W (hk:Keep [s] w W) (hS:VJ W s d g)=>KAN W s d g base F D hS (h.keep hk (fun x hx hm=>by simp at hm;subst hm;exact hsF hx)) hoff (6+4*pgs B) (by omega) hf;rw[hz] at hR;rw[← hK] at hR hSg;clear hK hz hf hn;have hS:=hs;have hfd:=fun W=>ZE (P:=Tryz.prog) Tryz.underlying27 2 rfl Tryz.isAgg3 #[.int .i64 B,.int .i64 8,.int .i64 24] rfl W;unfold VJ at hs;obtain⟨c0,c1,c2,c3,c4,c5,c6,c7,c8,c9,c10,c11,c12,c13⟩:=QS hs;have f13:=hs.frozen 13;have hlt:=hs.lt;have hs1:=hs.set 13 (.int .i64 0);have hk1:Keep [s] w (w.setCell ⟨s,13,none⟩ (.int .i64 0)):=(Keep.refl _ _).setCell (p:=⟨s,13,none⟩) (.inl (by simp)) _;have hne:s≠w.heap.size:=by omega
 simp only[List.setIfInBounds_toArray,List.set_cons_zero,List.set_cons_succ] at hs1
 go_enter Tryz.func343,Tryz.ntmps343
 go_wp2_with fail
 have hbp:=Blk.new (w.setCell ⟨s,13,none⟩ (.int .i64 0)) 175 #[.int .i64 0,.int .i64 0,.int .i64 1,.int .i64 0,.int .i64 1];rw[World.size_setCell] at hbp;have hka:=hk1.alloc (.cells #[.int .i64 0,.int .i64 0,.int .i64 1,.int .i64 0,.int .i64 1] 175);have hsa:=hs1.keep0 ((Keep.refl [] _).alloc (.cells #[.int .i64 0,.int .i64 0,.int .i64 1,.int .i64 0,.int .i64 1] 175));clear hs1 hk1 f13 hlt c0 c1 c2 c3 c4 c5 c6 c7 c8 c9 c10 c11 c12 c13 hs;generalize ((w.setCell ⟨s,13,none⟩ (.int .i64 0)).alloc (.cells #[.int .i64 0,.int .i64 0,.int .i64 1,.int .i64 0,.int .i64 1] 175))=w1 at *;have hbd:=hbp.drew;have hsd:=hsa.drew;have hkd:=hka.drew;obtain⟨p0,p1,p2,p3,p4⟩:=Qt hbd;have c1:=(QS hsd).2.1;refine ZT (fun W=>W.cell? ⟨s,1,none⟩=some (.pointer (some ⟨g,0,none⟩))∧W.cell? ⟨w.heap.size,0,none⟩=some (.int .i64 0)∧W.cell? ⟨w.heap.size,1,none⟩=some (.int .i64 0)) 22 [[0,1,2,3,4,5],[6,7,8,9,10,11,12,13,14,15,16,17,18,19],[20,21]] ⟨c1,p0,p1⟩ ?_;simp only[PI]
 iterate 6 (refine ZH ?_;simp only[Act.put,PU])
 refine XB (by rfl) (fun K hK=>?_)
 go_wp2_with (refine(hH _ hkd).mono ?_;rintro e w2 ⟨rfl,rfl⟩)
 refine hK _ _ (⟨c1,p0,p1⟩) ?_;clear hK K
 try simp only[Act.put,PU]
 iterate 13 (refine ZH ?_;simp only[Act.put,PU])
 refine XB (by rfl) (fun K hK=>?_)
 go_wp2_with (refine(hC _ hkd).mono ?_;rintro e w2 ⟨rfl,hk2⟩)
 have hb2:=hbd.keep0 hk2;have hs2:=hsd.keep0 hk2;have hkw2:=hkd.trans0 hk2;obtain⟨p0',p1',p2',p3',p4'⟩:=Qt hb2;have c1':=(QS hs2).2.1;refine hK _ _ (⟨c1',p0',p1'⟩) ?_;clear hK K
 try simp only[Act.put,PU]
 iterate 1 (refine ZH ?_;simp only[Act.put,PU])
 refine YB ?_;clear p0 p1 p2 p3 p4 c1 hbd hsd hkd hbp hka hsa;have hltp:=hb2.lt
 go_wp2_with fail
 have hbd:=hb2.drew;have hsd:=hs2.drew;have hkd:=hkw2.drew;obtain⟨p0,p1,p2,p3,p4⟩:=Qt hbd;have c1:=(QS hsd).2.1;refine ZT (fun W=>W.cell? ⟨s,1,none⟩=some (.pointer (some ⟨g,0,none⟩))∧W.cell? ⟨w.heap.size,0,none⟩=some (.int .i64 0)) 13 [[0,1,2,3,4,5,6],[7],[8,9,10,11,12]] ⟨c1,p0⟩ ?_;simp only[PI]
 iterate 7 (refine ZH ?_;simp only[Act.put,PU])
 refine XB (by rfl) (fun K hK=>?_)
 go_wp2_with (refine(hSg _ hkd).mono ?_;rintro e w3 ⟨rfl,hk3⟩)
 have hb3:=hbd.keep0 hk3;have hs3:=hsd.keep0 hk3;have hkw3:=hkd.trans0 hk3;clear p0 p1 p2 p3 p4 c1 hsd hkd hk3 p0' p1' p2' p3' p4' c1' hb2 hs2 hkw2 hk2;refine hK _ _ (⟨(QS hs3).2.1,(Qt hb3).1⟩) ?_;clear hK K
 try simp only[Act.put,PU]
 refine XB (by rfl) (fun K hK=>?_)
 go_wp2_with (refine(hR _ hkw3 hs3).mono ?_;rintro e w4 ⟨u,rfl,hu,hs4,hk4⟩;obtain⟨UA,uc,rfl,_⟩:=ZB hu)
 have hb4:=hb3.keep hk4 (by simpa using fun e=>hne e.symm);have hkw4:=hkw3.trans hk4 (fun x hx=>.inl hx);clear hs3 hkw3 hk4 hb3 hR hSg hbd;refine hK _ _ (⟨(QS hs4).2.1,(Qt hb4).1⟩) ?_;clear hK K
 try simp only[Act.put,PU]
 iterate 4 (refine ZH ?_;simp only[Act.put,PU])
 refine YB ?_;have hHd:=QAN UA uc w4 (Rd.of_own hu)
 go_wp2_with (
  refine hHd.mono ?_;clear hHd;rintro e w5 ⟨rfl,hk5⟩;have hb5:=hb4.keep0 hk5;obtain⟨p0,p1,p2,p3,p4⟩:=Qt hb5;have g0:=hb5.frozen 0;have g1:=hb5.frozen 1;have g2:=hb5.frozen 2;have g3:=hb5.frozen 3;have g4:=hb5.frozen 4;have hltp:=hb5.lt)
 have hz:=((((hb5.set 0 (.int .i64 0)).set 1 (.int .i64 0)).set 2 (.int .i64 1)).set 3 (.int .i64 0)).set 4 (.int .i64 1);have hkz:=(((((Keep.refl [w.heap.size] w5).setCell (p:=⟨w.heap.size,0,none⟩) (.inl (by simp)) (.int .i64 0)).setCell (p:=⟨w.heap.size,1,none⟩) (.inl (by simp)) (.int .i64 0)).setCell (p:=⟨w.heap.size,2,none⟩) (.inl (by simp)) (.int .i64 1)).setCell (p:=⟨w.heap.size,3,none⟩) (.inl (by simp)) (.int .i64 0)).setCell (p:=⟨w.heap.size,4,none⟩) (.inl (by simp)) (.int .i64 1);have hka:=(Keep.refl [] (((((w5.setCell ⟨w.heap.size,0,none⟩ (.int .i64 0)).setCell ⟨w.heap.size,1,none⟩ (.int .i64 0)).setCell ⟨w.heap.size,2,none⟩ (.int .i64 1)).setCell ⟨w.heap.size,3,none⟩ (.int .i64 0)).setCell ⟨w.heap.size,4,none⟩ (.int .i64 1))).alloc (.cells #[.int .i64 0,.int .i64 0,.int .i64 0,.int .i64 0] 376);simp only[List.setIfInBounds_toArray,List.set_cons_zero,List.set_cons_succ] at hz;have hsz:=((hs4.keep0 hk5).keep hkz (by simpa using hne)).keep0 hka;obtain⟨y0,y1,y2,y3,y4⟩:=Qt (hz.keep0 hka);refine bodyPost_ret (v:=.tuple #[.agg #[.int .i64 0,.int .i64 0,.int .i64 1,.int .i64 0,.int .i64 1],.bool false]) (by simp[results,Tryz.results343,go_sem,y0,y1,y2,y3,y4]) rfl ⟨rfl,hsz,((hkw4.trans0 hk5).trans hkz (fun x hx=>.inr (by simp at hx;omega))).trans0 hka⟩
end
section
open Go.RowKit Go.Shelf
attribute [local go_sem] Oper.semAt_some
theorem JAm {W:World} {s d g:Nat} (h:VJ W s d g) :
 VJ (((((W.setCell ⟨s,8,none⟩ (.int .i64 0)).setCell ⟨s,9,none⟩ (.int .i64 0)).setCell ⟨s,10,none⟩ (.int .i64 1)).setCell ⟨s,11,none⟩ (.int .i64 0)).setCell ⟨s,12,none⟩ (.int .i64 1)) s d g ∧
 Keep [s] W (((((W.setCell ⟨s,8,none⟩ (.int .i64 0)).setCell ⟨s,9,none⟩ (.int .i64 0)).setCell ⟨s,10,none⟩ (.int .i64 1)).setCell ⟨s,11,none⟩ (.int .i64 0)).setCell ⟨s,12,none⟩ (.int .i64 1)):=by
 unfold VJ at *;have hz:=((((h.set 8 (.int .i64 0)).set 9 (.int .i64 0)).set 10 (.int .i64 1)).set 11 (.int .i64 0)).set 12 (.int .i64 1);simp only[List.setIfInBounds_toArray,List.set_cons_zero,List.set_cons_succ] at hz;exact⟨hz,(((((Keep.refl [s] W).setCell (p:=⟨s,8,none⟩) (.inl (by simp)) _).setCell (p:=⟨s,9,none⟩) (.inl (by simp)) _).setCell (p:=⟨s,10,none⟩) (.inl (by simp)) _).setCell (p:=⟨s,11,none⟩) (.inl (by simp)) _).setCell (p:=⟨s,12,none⟩) (.inl (by simp)) _⟩
theorem YAH (w:World) (v:Value) (sb s d g B base:Nat) (F:List Nat) (D:PDisk) (hb:Boxed w sb 300 (.pointer (some ⟨s,0,none⟩))) (hs:VJ w s d g) (hg:GeomAt w g B) (h:DiskAt w base d F D) (hoff:D.off=false) (hn:D.n=198+4*pgs B) (hf:D.faults[6+4*pgs B]? = some false) (hz:seg 64 D.now (6+4*pgs B)=List.replicate 64 0) (hsF:s∉F) (hsg:s≠g) (hsb:sb≠s) :
 Calls Tryz.prog 342 #[v,.pointer (some ⟨sb,0,none⟩)] w fun e w'=>(∃ u,e=.returned u)∧VJ w' s d g∧Keep [s] w w':=by
 have hBg:=Jv w s d g B base F D hs hg h hoff hn hf hz hsF hsg;have hc:=hb.cell
 go_enter Tryz.func342,Tryz.ntmps342
 go_wp2_with (
  refine hBg.mono ?_;clear hBg hc;rintro e w1 ⟨rfl,hs1,hk1⟩;have hc1:=(JA hb hk1 (by simpa using hsb)).cell;have hc2:=(JA hb (hk1.alloc (.cells #[.int .i64 0,.int .i64 0,.int .i64 1,.int .i64 0,.int .i64 1] 175)) (by simpa using hsb)).cell;have hs2:VJ (w1.alloc (.cells #[.int .i64 0,.int .i64 0,.int .i64 1,.int .i64 0,.int .i64 1] 175)) s d g:=hs1.keep0 ((Keep.refl _ _).alloc _);have hs3:=id hs2;unfold VJ at hs2;obtain⟨c0,c1,c2,c3,c4,c5,c6,c7,c8,c9,c10,c11,c12,c13⟩:=QS hs2;have f8:=hs2.frozen 8;have f9:=hs2.frozen 9;have f10:=hs2.frozen 10;have f11:=hs2.frozen 11;have f12:=hs2.frozen 12;have hlt:=hs2.lt)
 obtain⟨hs4,hk4⟩:=JAm hs3;have hka:=hk1.alloc (.cells #[.int .i64 0,.int .i64 0,.int .i64 1,.int .i64 0,.int .i64 1] 175);have hkz:=hka.trans hk4 (fun x hx=>.inl hx);clear hs3 hs2 c0 c1 c2 c3 c4 c5 c6 c7 c8 c9 c10 c11 c12 c13 f8 f9 f10 f11 f12 hlt hc1 hc2 hs1 hka hk4;generalize (((((((w1.alloc (.cells #[.int .i64 0,.int .i64 0,.int .i64 1,.int .i64 0,.int .i64 1] 175)).setCell ⟨s,8,none⟩ (.int .i64 0)).setCell ⟨s,9,none⟩ (.int .i64 0)).setCell ⟨s,10,none⟩ (.int .i64 1)).setCell ⟨s,11,none⟩ (.int .i64 0)).setCell ⟨s,12,none⟩ (.int .i64 1)))=w2 at *
 go_loopw [4] (fun b wr=>b=.bool false∧VJ wr s d g∧Keep [s] w wr) (fun _ _=>0)
 case atStart=>exact⟨rfl,hs4,hkz⟩
 case round=>
  obtain⟨rfl,hs5,hk5⟩:=hrel
  go_wp2
  go_end0
  exact⟨⟨_,rfl⟩,hs5,hk5⟩
theorem YAq (n:Nat) (v:Value) (w:World) (hv:v.oneCell'=true) :
 CallsIn Fence.wide n Tryz.prog 289 #[v] w fun e w'=>e=.returned (.func (.func 342) #[] #[.pointer (some ⟨w.heap.size,0,none⟩)])∧w'=w.alloc (.cells #[v] 300):=by
 refine(callsIn_wide (n:=n)).2 ?_
 go_enter Tryz.func289,Tryz.ntmps289
 go_wp2
 go_ret;exact⟨rfl,rfl⟩
theorem VAV (w:World) (s d g:Nat) (hs:VJ w s d g):Calls Tryz.prog 212 #[.pointer (some ⟨s,0,none⟩)] w fun e w'=>e=.returned (.int .i64 0)∧w=w':=by
 unfold VJ at hs;have c13:=(QS hs).2.2.2.2.2.2.2.2.2.2.2.2.2
 go_enter Tryz.func212,Tryz.ntmps212
 go_wp2
 go_ret;exact⟨rfl,rfl⟩
theorem XAY (w:World) (s d g:Nat) (hs:VJ w s d g):Calls Tryz.prog 351 #[.pointer (some ⟨s,0,none⟩)] w fun e w'=>e=.returned (.agg #[.int .i64 0,.int .i64 0,.int .i64 1,.int .i64 0,.int .i64 1])∧Keep [] w w':=by
 unfold VJ at hs;obtain⟨c0,c1,c2,c3,c4,c5,c6,c7,c8,c9,c10,c11,c12,c13⟩:=QS hs;have hlt:=hs.lt
 go_enter Tryz.func351,Tryz.ntmps351
 go_wp2
 exact bodyPost_ret (v:=.agg #[.int .i64 0,.int .i64 0,.int .i64 1,.int .i64 0,.int .i64 1]) (by simp[results,Tryz.results351,go_sem]) rfl ⟨rfl,(Keep.refl _ _).alloc _⟩
end
section
open Go.RowKit Go.Shelf
attribute [local go_sem] Oper.semAt_some
def Vt (ol:List Int) (k:Nat):List Int:=(ol.take k).flatMap (fun o=>if 0<XE o (-1) then [XE o (-1)] else [])
theorem VAl {ol:List Int} {k:Nat} (hk:k<ol.length):Vt ol (k+1)=Vt ol k++if 0<XE ol[k] (-1) then [XE ol[k] (-1)] else []:=by
 unfold Vt;rw[List.take_succ_eq_append_getElem hk,List.flatMap_append];simp
theorem Xs (ol:List Int) (k:Nat):(Vt ol k).length≤k:=by
 unfold Vt
 have:∀ l:List Int,(l.flatMap (fun o=>if 0<XE o (-1) then [XE o (-1)] else [])).length≤l.length:=by
  intro l
  induction l with
  | nil=>simp
  | cons p l ih=>
    rw[List.flatMap_cons,List.length_append,List.length_cons];have:(if 0<XE p (-1) then [XE p (-1)] else []).length≤1:=by split <;> simp
    omega
 refine Nat.le_trans (this _) ?_;simp;omega
structure KFor (w:World) (base m p1 p2:Nat) (F F1 F2:List Nat) (I:PImage) (pre:List PRnd) (W:World):Prop where
 img:∃ od,ImageIs W base m p1 p2 F F1 F2 ⟨I.bl,I.bd,Ze I.ol pre.length,od⟩
 out:∃ ov,Boxed W (w.heap.size+1) 22 ov∧W.ownsRow w.heap.size 3 1 ov (Vt I.ol pre.length).length (JK (Vt I.ol pre.length))
 b1:Boxed W w.heap.size 46 (.pointer (some ⟨m,0,none⟩))
 keep:Keep F w W
 few:pre.length≤I.ol.length
theorem KFor.kept {w A B:World} {base m p1 p2:Nat} {F F1 F2:List Nat} {I:PImage} {pre:List PRnd} (h:KFor w base m p1 p2 F F1 F2 I pre A) (hk:Keep [] A B):KFor w base m p1 p2 F F1 F2 I pre B:=by
 obtain⟨od,h1⟩:=h.img;obtain⟨ov,h2,h3⟩:=h.out;exact⟨⟨od,h1.keep0 hk⟩,⟨ov,JA h2 hk (by simp),KA h3 hk⟩,JA h.b1 hk (by simp),h.keep.trans0 hk,h.few⟩
theorem KFor.turned {w W:World} {base m p1 p2 k:Nat} {F F1 F2:List Nat} {I:PImage} {pre:List PRnd} {o o':Obj} (h:KFor w base m p1 p2 F F1 F2 I pre W) (hl:w.heap.size≤k) (hg:W.heap[k]? = some o) (ho:o.isCells=false):KFor w base m p1 p2 F F1 F2 I pre (W.putObj k o'):=by
 obtain⟨od,h1⟩:=h.img;obtain⟨ov,h2,h3⟩:=h.out;exact⟨⟨od,h1.putObj o' hg ho⟩,⟨ov,JC o' h2 hg ho,ownsRow_putObj h3 o' hg ho⟩,JC o' h.b1 hg ho,h.keep.putObj hl o',h.few⟩
theorem VAE (w:World) (base m:Nat) (F:List Nat) (I:PImage) (h:ImageAt w base m F I) :
 Calls Tryz.prog 156 #[.pointer (some ⟨m,0,none⟩)] w fun e w'=>∃ G od,e=.returned G∧w'.ownsRow w.heap.size 3 1 G (Vt I.ol I.ol.length).length (JK (Vt I.ol I.ol.length)) ∧
  ImageAt w' base m F ⟨I.bl,I.bd,Ze I.ol I.ol.length,od⟩∧Keep F w w':=by
 obtain⟨p1,p2,F1,F2,h⟩:=h;refine(callsIn_wide (n:=3)).1 ?_;refine callsIn_of_wp_marks Tryz.func156 rfl trivial ?_ rfl;simp only[Tryz.ntmps156,List.size_toArray,List.length_cons,List.length_nil,Nat.reduceAdd,Nat.reduceSub,Array.replicate_succ,Array.replicate_zero,List.push_toArray,List.append_toArray,List.nil_append,List.cons_append];have hT:=fun W (hk:Keep [] w W)=>callsIn_wide (n:=2).2 (XL W base m p1 p2 F F1 F2 I (h.keep0 hk) true)
 gi_wp2_with (first
  | (refine⟨trivial,?_⟩;refine(hT _ (((Keep.refl _ _).alloc _).alloc _)).mono ?_;rintro e w' ⟨rfl,rfl⟩)
  | (refine⟨trivial,?_⟩;refine(Vp _ _ _ rfl).mono ?_;rintro e w' ⟨rfl,rfl⟩))
 obtain⟨w1,hw1⟩:∃ w1,w1=w.alloc (.cells #[.pointer (some ⟨m,0,none⟩)] 46):=⟨_,rfl⟩;obtain⟨w2,hw2⟩:∃ w2,w2=w1.alloc (.cells #[.slice none 0 0] 22):=⟨_,rfl⟩;obtain⟨w3,hw3⟩:∃ w3,w3=w2.alloc (.cells #[.pointer (some ⟨p2,0,none⟩)] 198):=⟨_,rfl⟩;rw[← hw1,← hw2,← hw3];have s1:w1.heap.size=w.heap.size+1:=by rw[hw1,World.size_alloc]
 have s2:w2.heap.size=w.heap.size+2:=by rw[hw2,World.size_alloc,s1]
 have s3:w3.heap.size=w.heap.size+3:=by rw[hw3,World.size_alloc,s2]
 have k1:Keep [] w w1:=by rw[hw1];exact(Keep.refl _ _).alloc _
 have k2:Keep [] w1 w2:=by rw[hw2];exact(Keep.refl _ _).alloc _
 have k3:Keep [] w2 w3:=by rw[hw3];exact(Keep.refl _ _).alloc _
 have kw:Keep [] w w3:=(k1.trans0 k2).trans0 k3;have b1:Boxed w3 w.heap.size 46 (.pointer (some ⟨m,0,none⟩)):=JA (by rw[hw1];exact Boxed.new w _ _) (k2.trans0 k3) (by simp);have b2:Boxed w3 (w.heap.size+1) 22 (.slice none 0 0):=JA (by rw[hw2,← s1];exact Boxed.new w1 _ _) k3 (by simp);have bc:Boxed w3 (w.heap.size+1+1) 198 (.pointer (some ⟨p2,0,none⟩)):=by rw[hw3,show w.heap.size+1+1=w2.heap.size by omega];exact Boxed.new w2 _ _
 have hlen:=h.ok.1;have h0:KFor w base m p1 p2 F F1 F2 I [] w3:=⟨⟨I.od,by have:=h.keep0 kw;simpa [Ze] using this⟩,⟨_,b2,World.ownsRow_nil _ _ _ _⟩,b1,kw.zero,Nat.zero_le _⟩;have hlt:=h.lt;have hseq:=QAE 2 (w.heap.size+1+1) base p2 I.ol.length F2 w3 ⟨I.ol,I.od,rfl,h.o.keep0 kw⟩ bc
 refine QP (n:=3) (gf:=208) (lb:=#[.pointer (some ⟨w.heap.size+1+1,0,none⟩)]) rfl (enters_of Tryz.func208 (by kernel_rfl) rfl)
  hseq
  (fun A B C h k=>⟨fun hb=>k.1 (h.1 hb),fun hb=>k.2 (h.2 hb)⟩)
  (fun W l o o' hl hg' ho=>⟨fun hb=>JC o' hb hg' ho,fun⟨ls,ds,q1,q2⟩=>⟨ls,ds,q1,q2.putObj o' hg' ho⟩⟩)
  (fun _=>rfl) (KFor w base m p1 p2 F F1 F2 I) (fun s A B h hk=>h.kept hk) (fun s W l o o' h hl hg' ho=>h.turned (by omega) hg' ho)
  (fun pre x W l o o' h hl hg' ho=>⟨h.1,by obtain⟨ls,ds,q1,q2,q3⟩:=h.2;exact⟨ls,ds,q1,q2.putObj o' hg' ho,q3⟩⟩) h0
  (fun x=>{ tmps:=#[.pointer (some ⟨m,0,none⟩),.pointer (some ⟨w.heap.size,0,none⟩),.pointer (some ⟨w.heap.size+1,0,none⟩),.int .i64 (x.1:Nat),undef,.pointer (some ⟨m,0,none⟩),.pointer (some ⟨p2,0,none⟩),
    .func (.func 208) #[] #[.pointer (some ⟨w.heap.size+1+1,0,none⟩)],.int .i64 (x.1:Nat),.int .i64 x.2,undef,undef,undef,undef,undef,undef,undef,undef,undef,undef,undef,undef,undef],defers:=[] }) ?assign ?body ?done
 case assign=>
  rintro l ⟨k,z⟩ W K hK;dsimp only[ZP] at hK ⊢
  gi_wp2
  exact hK
 case body=>
  rintro l pre ⟨k,z⟩ W hI ⟨hk,ls,ds,q1,q2,q3⟩;dsimp only at hk q3 ⊢;obtain⟨od,him⟩:=hI.img;obtain⟨ov,hb2,hov⟩:=hI.out;have hzz:=him.o.unique q2;subst hk;have hkl:pre.length<I.ol.length:=by rw[← q1];exact(List.getElem?_eq_some_iff.1 q3).1
  have hO:=ZAJ (k:=pre.length) hkl;have hG:=VAl (k:=pre.length) hkl;have hrngO:=Xw (ol:=I.ol) (k:=pre.length+1) h.ok.2.2;have hOl:(Ze I.ol pre.length).length=I.ol.length:=VY (by omega);rw[hO] at hrngO;have hb2l:=hb2.lt;have hb1l:=hI.b1.lt;have hIk:=hI.keep;have hIb:=hI.b1;have hF2n:∀ x∈F2,x<w.heap.size:=fun x hx=>hlt x (him.subO x hx);have hfoot:=him.foot;have hsz:=hI.keep.size;obtain⟨c0,c1⟩:=him.cells;have d1:=hI.b1.cell
  have hPost:∀ (gn cO:List Int),Ze I.ol (pre.length+1)=cO→Vt I.ol (pre.length+1)=gn→∀ (W':World) (od':List Bool) (ov':Value) (K:List Nat),ImageIs W' base m p1 p2 F F1 F2 ⟨I.bl,I.bd,cO,od'⟩→Boxed W' (w.heap.size+1) 22 ov' →
   W'.ownsRow w.heap.size 3 1 ov' gn.length (JK gn)→Keep K W W'→(∀ x∈K,x∈F∨(w.heap.size<x∧(Boxed W (w.heap.size+1+1) 198 (.pointer (some ⟨p2,0,none⟩))→¬ x=w.heap.size+1+1)∧∀ o,W.heap[x]? = some o→o.isCells=true)) →
   KeepsFrom w3.heap.size W W'∧VAP base p2 I.ol.length (w.heap.size+1+1) F2 W W'∧KFor w base m p1 p2 F F1 F2 I (pre++[(pre.length,z)]) W':=by
   intro gn cO eO eG W' od' ov' K g1 g2 g3 hK hKx
   have hsub:∀ x∈K,x≠w.heap.size∧(Boxed W (w.heap.size+1+1) 198 (.pointer (some ⟨p2,0,none⟩))→x≠w.heap.size+1+1):=fun x hx=>by
    rcases hKx x hx with h | h
    · have:=hlt x h;exact⟨by omega,fun _=>by omega⟩
    · exact⟨by omega,h.2.1⟩
   refine⟨hK.fromCells (fun x hx o ho=>?_) _,⟨fun hb=>JA hb hK (fun hm=>(hsub _ hm).2 hb rfl),fun _=>?_⟩,⟨?_,?_,JA hIb hK (fun hm=>(hsub _ hm).1 rfl),?_,by simp;omega⟩⟩
   · rcases hKx x hx with h | h
     · rw[hfoot] at h
       simp only[List.mem_cons,List.mem_append] at h;rcases h with rfl | h | h
       · rw[show W.heap[_]? = _ from him.blk] at ho;cases ho;rfl
       · exact him.b.isCells x h o ho
       · exact him.o.isCells x h o ho
     · exact h.2.2 o ho
   · refine⟨_,_,?_,g1.o⟩
     rw[← eO,VY (by omega)]
   · rw[List.length_append,List.length_singleton,eO];exact⟨_,g1⟩
   · rw[List.length_append,List.length_singleton,eG];exact⟨_,g2,g3⟩
   · exact hIk.trans hK (fun x hx=>(hKx x hx).imp id (fun h=>by omega))
  have HPOST:=JB hPost;have HFOOT:=JB hfoot;have HS3:=JB s3;obtain⟨OA,oc,rfl,_⟩:=ZB hov;have HIM:=JB him;have HB2:=JB hb2;have HOV:=JB hov;have hOx:pre.length<(Ze I.ol pre.length).length:=by omega
  have hgl:(Ze I.ol pre.length)[pre.length]=I.ol[pre.length]:=by
   have:=QAP (k:=pre.length) hkl;rw[List.getElem?_eq_getElem hOx] at this;exact Option.some.inj this
  have hTs:=callsIn_wide (n:=0).2 (Xt W base p2 F2 _ _ him.o pre.length hOx (-1));simp only[hgl] at hTs;have hor:=h.ok.2.2 _ (List.getElem_mem hkl);have hfewI:=him.o.few;simp only at hfewI;have hgs:0≤XE I.ol[pre.length] (-1)∧XE I.ol[pre.length] (-1)<4096:=Va hor
  have hgc:(Vt I.ol pre.length).length≤64:=by
   have:=Xs I.ol pre.length;omega
  generalize XE I.ol[pre.length] (-1)=y at *;have hos:=him.o;have hblk:=him.blk;have hmlt:m<w.heap.size:=hlt m (by rw[him.foot];simp);have hm2':=him.m2;have hPp:=hPost;clear hPp h0 b1 b2 bc kw k1 k2 k3 hw1 hw2 hw3 s1 s2 s3 hseq hI hPost hfoot hgl hor;have HRO:=JB hrngO;clear hrngO;have HO:=JB hO;have HG:=JB hG;clear hO hG;generalize Vt I.ol pre.length=gl at *;clear hov hb2;have hovm:∀ g,(Value.slice OA gl.length oc).ownBlock=some g→w.heap.size≤g:=fun g hg=>(own_mem (XA HOV) (by simpa using hg)).1;have hovF:∀ g,(Value.slice OA gl.length oc).ownBlock=some g→g∉F2:=fun g hg hm=>by have:=hovm g hg;have:=hF2n g hm;omega
  have hovB:(Value.slice OA gl.length oc).ownBlock≠some (w.heap.size+1):=fun e=>(XA HB2).not_row (by decide) (XA HOV) e.symm;have hovA:(Value.slice OA gl.length oc).ownBlock≠some w.heap.size:=fun e=>hIb.not_row (by decide) (XA HOV) e.symm;have hF2b:∀ x∈F2,x≠w.heap.size∧x≠w.heap.size+1:=fun x hx=>by have:=hF2n x hx;omega
  by_cases hy:0<y
  · have hy0:¬ y≤0:=by omega
    gi_wp2_with (first
     | (refine⟨trivial,?_⟩;refine hTs.mono ?_;clear hTs;rintro e W2 ⟨rfl,hp1,hk2⟩;(have hb2':=JA (XA HB2) hk2 (fun hm=>(hF2b _ hm).2 rfl));(have e2:=hb2'.cell);(have ho2:=QB (XA HOV) hk2 hovF);(have hsz2:=hk2.size))
     | (gi_at_builtin;refine elemIntsN.wpIn_app rfl _ _ rfl w.heap.size _ gl.length (JK gl) rfl (XD ho2 _) ⟨W2.heap.size,0,none⟩ 1 1 [.int .i64 y] rfl (JS _ _ _) (by simp[Value.oneCell']) (by omega) (by omega) (by simp;omega) ?_;intro v' W3 hv' hk3 hat;(obtain⟨VA,vc,rfl,_⟩:=ZB hv');(have hkA:Keep (Value.slice OA gl.length oc).ownBlock.toList W2 W3:=((Keep.refl _ _).alloc _).trans hk3 (fun x hx=>.inl hx));(have hb3:=JA hb2' hkA (by simpa using hovB));(have e3:=hb3.cell);(have f3:=hb3.frozen)))
    have hkS:Keep [w.heap.size+1] W3 (W3.setCell ⟨w.heap.size+1,0,none⟩ (.slice VA (gl.length+1) vc)):=(Keep.refl _ _).setCell (.inl (by simp)) _;have hFo:Apart F (Value.slice OA gl.length oc).ownBlock.toList:=fun x hx hm=>by have:=hovm x (by simpa using hm);have:=hlt x hx;omega
    have hFB:Apart F [w.heap.size+1]:=fun x hx hm=>by have:=hlt x hx;simp at hm;omega
    have im:=((((XA HIM).setO hp1 hk2 (by simp) (XA HRO)).keep hkA hFo).keep hkS hFB);have hb5:=hb3.set (.slice VA (gl.length+1) vc);have hv5:=own_set (o:=0) hv' (fun hm=>hb3.not_row (by decide) hv' (Eq.symm (by simpa using hm))) (.slice VA (gl.length+1) vc)
    have hKK:Keep (F++((Value.slice OA gl.length oc).ownBlock.toList++[w.heap.size+1])) W _:=
     ((hk2.sub (fun x hx=>List.mem_append_left _ ((XA HIM).subO x hx))).trans hkA (fun x hx=>.inl (by simp at hx;simp[hx]))).trans hkS (fun x hx=>.inl (by simp at hx;simp[hx]))
    have hGL:Vt I.ol (pre.length+1)=gl++[y]:=by rw[XA HG,if_pos hy]
    refine XA HPOST _ _ (XA HO) hGL _ _ _ _ im hb5 ?_ hKK ?_
    · rw[List.length_append,List.length_singleton,show JK (gl++[y])=JK gl++[.int .i64 y] by simp[JK,i64]];exact hv5
    · intro x hx
      rcases List.mem_append.1 hx with hx | hx
      · exact .inl hx
      · rcases List.mem_append.1 hx with hx | hx
        · have h1:=hovm x (by simpa using hx)
          refine .inr ⟨?_,fun hb e=>?_,fun o ho=>VP (XA HOV) x hx o ho⟩
          · refine Nat.lt_of_le_of_ne h1 (fun e=>?_)
            subst e;exact hovA (by simpa using hx)
          · subst e;exact hb.not_row (by decide) (XA HOV) (Eq.symm (by simpa using hx))
        · simp at hx
          subst hx;exact .inr ⟨by omega,fun _=>by omega,fun o ho=>by rw[show W.heap[_]? = _ from XA HB2] at ho;cases ho;rfl⟩
  · have hy0:y=0:=by omega
    subst hy0
    gi_wp2_with (refine⟨trivial,?_⟩;refine hTs.mono ?_;clear hTs;rintro e W2 ⟨rfl,hp1,hk2⟩;(have hb2':=JA (XA HB2) hk2 (fun hm=>(hF2b _ hm).2 rfl));(have ho2:=QB (XA HOV) hk2 hovF))
    have im:=(XA HIM).setO hp1 hk2 (by simp) (XA HRO);have hKK:Keep F W W2:=hk2.sub (fun x hx=>(XA HIM).subO x hx);have hGL:Vt I.ol (pre.length+1)=gl:=by rw[XA HG,if_neg (by omega),List.append_nil]
    exact XA HPOST _ _ (XA HO) hGL _ _ _ _ im hb2' ho2 hKK (fun x hx=>.inl hx)
 case done=>
  intro D' xs W hD' hS hI hdef;obtain⟨od,him⟩:=hI.img;obtain⟨ov,hb2,hov⟩:=hI.out;rw[hS] at him hov;obtain⟨gl,hgl⟩:∃ gl,gl=Vt I.ol I.ol.length:=⟨_,rfl⟩;rw[← hgl] at hov;have HGL:=JB hgl;clear hgl;obtain⟨OA,oc,rfl,_⟩:=ZB hov;have hc2:=hb2.cell;have hf2:=hb2.frozen;have HI:=JB hI;have HOV:=JB hov;have HIM:=JB him;clear h0 b1 b2 bc kw k1 k2 k3 hw1 hw2 hw3 s1 s2 hseq hI hov him
  gi_wp2
  have hI:=XA HI;have hov:=XA HOV;have him:=XA HIM;have hKs:Keep [w.heap.size+1] W (W.setCell ⟨w.heap.size+1,0,none⟩ (.slice OA gl.length oc)):=(Keep.refl _ _).setCell (p:=⟨w.heap.size+1,0,none⟩) (.inl (by simp)) _;have hdef2:(W.setCell ⟨w.heap.size+1,0,none⟩ (.slice OA gl.length oc)).heap[D']? = some (.deferred (some [])):=(hKs.block D' (Array.getElem?_eq_some_iff.1 hdef).1 (by simp;omega)).trans hdef;have q6:=(JC (.deferred none) (hb2.set (.slice OA gl.length oc)) hdef2 rfl).cell;have hkw:=(hI.keep.trans hKs (fun x hx=>.inr (by simp at hx;omega))).putObj (g:=D') (by omega) (.deferred none);have hov2:=ownsRow_putObj (own_set hov (fun hm=>hb2.not_row (by decide) hov (Eq.symm (by simpa using hm))) (.slice OA gl.length oc)) (.deferred none) hdef2 rfl;have him2:=(him.keep hKs (fun x hx hm=>by have:=hlt x hx;simp at hm;omega)).putObj (.deferred none) hdef2 rfl;refine⟨by simp,.inl ⟨_,_,rfl,run_takeDeferred hdef2,?_⟩⟩;refine⟨.slice OA gl.length oc,?_,_,_,rfl,by rw[XA HGL] at hov2 ⊢;exact hov2,⟨_,_,_,_,him2⟩,hkw⟩;simp[results,Tryz.results156,go_sem,q6]
end
end Go.Proofs.YtkonbpfbjiepfaaGreat
