/- Lemmas of the proof, with their conditions. -/
import Derived.Test.YtfedaknhecbehaaGreatL25
import Derived.Test.YtfedaknhecbehaaGreatL27
import Derived.Test.YtfedaknhecbehaaGreatL10
namespace Go.Proofs.YtfedaknhecbehaaGreat
open Tryz Go.RowKit Go.Shelf
variable {W w A B:World} {base m p1 p2 p g s d:Nat} {F F1 F2:List Nat} {l:List Int} {ds:List Bool} {pre:List PRnd} {t:TypeId} {x0 x1 x2 x3 x4:Value} {D:PDisk}
set_option linter.all false
set_option maxHeartbeats 4000000
set_option maxRecDepth 100000
section
open Go.RowKit Go.Shelf
attribute [local go_sem] AZ
def Xv (bl ol:List Int) (k:Nat):List Int:=(List.zipWith (fun b o=>if o = -1 then b else o) bl ol).take k++bl.drop k
def Ql (ol:List Int) (k:Nat):List Int:=List.replicate k (-1)++ol.drop k
def QAD (bl ol:List Int) (k:Nat):List Int:=((bl.zip ol).take k).flatMap (fun p=>if p.2 = -1 then [] else if 0<QF p.1 p.2 then [QF p.1 p.2] else [])
section
variable {bl ol:List Int} {k:Nat}
theorem Xz (h:bl.length=ol.length) (a:k<=bl.length):(Xv bl ol k).length=bl.length:=by simp[Xv];omega
theorem Vf (a:k<=ol.length):(Ql ol k).length=ol.length:=by simp[Ql];omega
theorem JBc (h:bl.length=ol.length) (a:k<bl.length):(Xv bl ol k)[k]? = some bl[k]:=by
 have c:((List.zipWith (fun b o=>if o = -1 then b else o) bl ol).take k).length=k:=by simp;omega
 unfold Xv;rw[Bc Z,c,CS,BW];simp[a]
theorem KAc (a:k<ol.length):(Ql ol k)[k]? = some ol[k]:=by
 unfold Ql;rw[Bc sq,Ai,CS,BW];simp[a]
theorem QBF (h:bl.length=ol.length) (a:k<bl.length):Xv bl ol (k+1)=(Xv bl ol k).set k (if ol[k]' Z = -1 then bl[k] else ol[k]' Z):=by
 have c:k<(List.zipWith (fun b o=>if o = -1 then b else o) bl ol).length:=by simp;omega
 have d:((List.zipWith (fun b o=>if o = -1 then b else o) bl ol).take k).length=k:=by simp;omega
 unfold Xv;rw[AO c,Dx _ _ Z,d,CS,BY a,AT];simp
theorem JAV (a:k<ol.length):Ql ol (k+1)=(Ql ol k).set k (-1):=by
 unfold Ql;rw[List.replicate_succ',Dx _ _ sq,Ai,CS,BY a,AT];simp
theorem KBD (h:bl.length=ol.length) (b:k<bl.length):QAD bl ol (k+1)=QAD bl ol k++if ol[k]' Z = -1 then [] else if 0<QF bl[k] (ol[k]' Z) then [QF bl[k] (ol[k]' Z)] else []:=by
 have a:k<(bl.zip ol).length:=by simp;omega
 unfold QAD;rw[AO a,Az];simp
theorem Kx (bl ol:List Int) (k:Nat):(QAD bl ol k).length<=k:=by
 unfold QAD
 have:∀ l:List (Int×Int),(l.flatMap (fun p=>if p.2 = -1 then [] else if 0<QF p.1 p.2 then [QF p.1 p.2] else [])).length<=l.length:=by
  intro l
  induction l with
  | nil=>simp
  | cons p l ih=>
    rw[At,AE,Am]
    have:(if p.2 = -1 then [] else if 0<QF p.1 p.2 then [QF p.1 p.2] else []).length<=1:=by
     split
     . simp
     split <;> simp
    omega
 refine AA (this _) ?_;simp;omega
theorem JAP (b z:Int) (h:0<=b):0<=QF b z/\QF b z<=b:=by
 unfold QF;split <;> omega
theorem KAq (h:bl.length=ol.length) (b:∀ x∈bl,0<=x/\x<4096) (c:∀ x∈ol,-1<=x/\x<4096):∀ x∈Xv bl ol k,0<=x/\x<4096:=by
 intro x a;rcases AD.1 a with a | a
 . obtain⟨i,hi,rfl⟩:=List.mem_iff_getElem.1 (CI a)
   rw[List.getElem_zipWith];have d:=b _ (AQ (l:=bl) (n:=i) (by simp at hi;omega));have e:=c _ (AQ (l:=ol) (n:=i) (by simp at hi;omega))
   split
   . exact d
   omega
 exact b x (EA a)
theorem XAF (b:∀ x∈ol,-1<=x/\x<4096):∀ x∈Ql ol k,-1<=x/\x<4096:=by
 intro x a;rcases AD.1 a with a | a
 . have:=AV a;omega
 exact b x (EA a)
end
structure KCom (w:World) (base m p1 p2:Nat) (F F1 F2:List Nat) (I:PImage) (pre:List PRnd) (W:World):Prop where
 img:∃ bd od,ImageIs W base m p1 p2 F F1 F2 ⟨Xv I.bl I.ol pre.length,bd,Ql I.ol pre.length,od⟩
 out:∃ ov,Boxed W (w.heap.size+1) 53 ov/\W.ownsRow w.heap.size 3 1 ov (QAD I.bl I.ol pre.length).length (VM (QAD I.bl I.ol pre.length))
 b1:Boxed W w.heap.size 128 (.pointer (some m))
 keep:Keep F w W
 few:pre.length<=I.ol.length
theorem ImageIs.putObj {k:Nat} {I:PImage} {o:Obj} (h:ImageIs W base m p1 p2 F F1 F2 I) (a:Obj) (b:W.heap[k]? = some o) (c:o.isCells=false):ImageIs (W.putObj k a) base m p1 p2 F F1 F2 I:=
 ⟨YF a h.blk b c,h.b.putObj a b c,h.o.putObj a b c,h.apart,h.m1,h.m2,h.foot,h.base,h.ok⟩
theorem PagedAt.isCells (h:PagedAt W base p F l ds):∀ g∈F,∀ o,W.heap[g]? = some o->o.isCells=true:=by
 obtain⟨L,U,h⟩:=h;exact h.isCells
theorem KCom.kept {I:PImage} (h:KCom w base m p1 p2 F F1 F2 I pre A) (a:kz A B):KCom w base m p1 p2 F F1 F2 I pre B:=by
 obtain⟨b,od,c⟩:=h.img;obtain⟨d,e,f⟩:=h.out;exact⟨⟨b,od,c.kO a⟩,⟨d,KA e a sq,QB f a⟩,KA h.b1 a sq,h.keep.tO a,h.few⟩
theorem KCom.turned {k:Nat} {I:PImage} {o a:Obj} (h:KCom w base m p1 p2 F F1 F2 I pre W) (d:w.heap.size<=k) (b:W.heap[k]? = some o) (c:o.isCells=false):KCom w base m p1 p2 F F1 F2 I pre (W.putObj k a):=by
 obtain⟨e,od,f⟩:=h.img;obtain⟨g,i,j⟩:=h.out;exact⟨⟨e,od,f.putObj a b c⟩,⟨g,JC a i b c,ownsRow_putObj j a b c⟩,JC a h.b1 b c,h.keep.putObj d a,h.few⟩
theorem XBK {I:PImage} (h:ImageAt w base m F I) :
 Calls prog 108 #[.pointer (some ⟨m,0,none⟩)] w fun e w'=>∃ G bd od,e=.returned G/\w'.ownsRow w.heap.size 3 1 G (QAD I.bl I.ol I.ol.length).length (VM (QAD I.bl I.ol I.ol.length)) /\
  ImageAt w' base m F ⟨Xv I.bl I.ol I.ol.length,bd,Ql I.ol I.ol.length,od⟩/\Keep F w w':=by
 obtain⟨p1,p2,F1,F2,h⟩:=h;refine(callsIn_wide (n:=3)).1 ?_;refine callsIn_of_wp_marks func108 rfl trivial ?_ rfl;simp only[ntmps108,List.size_toArray,List.length_cons,List.length_nil,Nat.reduceAdd,Nat.reduceSub,Array.replicate_succ,Array.replicate_zero,List.push_toArray,List.append_toArray,List.nil_append,List.cons_append];have hT:=fun W (hk:Keep [] w W)=>callsIn_wide (n:=2).2 (JN W base m p1 p2 F F1 F2 I (h.kO hk) true)
 gi_wp2_with (first
  | (refine⟨trivial,?_⟩;refine(hT _ ((kq.alloc _).alloc _)).mono ?_;rintro e w' ⟨rfl,rfl⟩)
  | (refine⟨trivial,?_⟩;refine(ZAJ _ _ _ rfl).mono ?_;rintro e w' ⟨rfl,rfl⟩))
 obtain⟨w1,hw1⟩:∃ w1,w1=w.alloc (.cells #[.pointer (some ⟨m,0,none⟩)] 128):=⟨_,rfl⟩;obtain⟨w2,hw2⟩:∃ w2,w2=w1.alloc (.cells #[.slice none 0 0] 53):=⟨_,rfl⟩;obtain⟨w3,hw3⟩:∃ w3,w3=w2.alloc (.cells #[.pointer (some ⟨p2,0,none⟩)] 295):=⟨_,rfl⟩;rw[<- hw1,<- hw2,<- hw3];have s1:w1.heap.size=w.heap.size+1:=by rw[hw1,World.size_alloc]
 have s2:w2.heap.size=w.heap.size+2:=by rw[hw2,World.size_alloc,s1]
 have s3:w3.heap.size=w.heap.size+3:=by rw[hw3,World.size_alloc,s2]
 have k1:Keep [] w w1:=by rw[hw1];exact kq.alloc _
 have k2:Keep [] w1 w2:=by rw[hw2];exact kq.alloc _
 have k3:Keep [] w2 w3:=by rw[hw3];exact kq.alloc _
 have kw:Keep [] w w3:=(k1.tO k2).tO k3;have b1:Boxed w3 w.heap.size 128 (.pointer (some ⟨m,0,none⟩)):=KA (by rw[hw1];exact Boxed.new w _ _) (k2.tO k3) sq;have b2:Boxed w3 (w.heap.size+1) 53 (.slice none 0 0):=KA (by rw[hw2,<- s1];exact Boxed.new w1 _ _) k3 sq;have bc:Boxed w3 (w.heap.size+1+1) 295 (.pointer (some ⟨p2,0,none⟩)):=by rw[hw3,show w.heap.size+1+1=w2.heap.size from Z];exact Boxed.new w2 _ _
 have hlen:=h.ok.1;have h0:KCom w base m p1 p2 F F1 F2 I [] w3:=⟨⟨I.bd,I.od,by have:=h.kO kw;simpa [Xv,Ql] using this⟩,⟨_,b2,World.ownsRow_nil _ _ _ _⟩,b1,kw.zero,Nat.zero_le _⟩;have hlt:=h.lt;have hseq:=YAP 2 (base:=base) (p:=p2) (m:=I.ol.length) (F:=F2) (w:=w3) ⟨I.ol,I.od,rfl,h.o.kO kw⟩ bc
 refine ZV (n:=3) (gf:=343) (lb:=#[.pointer (some ⟨w.heap.size+1+1,0,none⟩)]) rfl (enters_of func343 (by kernel_rfl) rfl)
  hseq
  (fun A B C h k=>⟨fun hb=>k.1 (h.1 hb),fun hb=>k.2 (h.2 hb)⟩)
  (fun W l o o' hl hg' ho=>⟨fun hb=>JC o' hb hg' ho,fun⟨ls,ds,q1,q2⟩=>⟨ls,ds,q1,q2.putObj o' hg' ho⟩⟩)
  (fun _=>rfl) (KCom w base m p1 p2 F F1 F2 I) (fun s A B h hk=>h.kept hk) (fun s W l o o' h hl hg' ho=>h.turned Z hg' ho)
  (fun pre x W l o o' h hl hg' ho=>⟨h.1,by obtain⟨ls,ds,q1,q2,q3⟩:=h.2;exact⟨ls,ds,q1,q2.putObj o' hg' ho,q3⟩⟩) h0
  (fun x=>{ tmps:=#[.pointer (some ⟨m,0,none⟩),.pointer (some ⟨w.heap.size,0,none⟩),.pointer (some ⟨w.heap.size+1,0,none⟩),.int .i64 (x.1:Nat),.int .i64 x.2,undef,.pointer (some ⟨m,0,none⟩),.pointer (some ⟨p2,0,none⟩),
    .func (.func 343) #[] #[.pointer (some ⟨w.heap.size+1+1,0,none⟩)],.int .i64 (x.1:Nat),.int .i64 x.2,undef,undef,undef,undef,undef,undef,undef,undef,undef,undef,undef,undef,undef,undef,undef,undef,undef,undef,undef,undef,undef,undef],defers:=[] }) ?assign ?body ?done
 case assign=>
  rintro l ⟨k,z⟩ W K hK;dsimp only[KZ] at hK ⊢
  gi_wp2
  exact hK
 case body=>
  rintro l pre ⟨k,z⟩ W hI ⟨hk,ls,ds,q1,q2,q3⟩;dsimp only at hk q3 ⊢;obtain⟨bd,od,him⟩:=hI.img;obtain⟨ov,hb2,hov⟩:=hI.out;have hzz:=him.o.unique q2;subst hk;have hkl:pre.length<I.ol.length:=by rw[<- q1];exact(List.getElem?_eq_some_iff.1 q3).1
  have hkb:pre.length<I.bl.length:=Z
  rw[<- hzz,KAc hkl] at q3;have hz:I.ol[pre.length]=z:=by simpa using q3
  have hB:=QBF (k:=pre.length) hlen hkb;have hO:=JAV (k:=pre.length) hkl;have hG:=KBD (k:=pre.length) hlen hkb;have hBat:=JBc (k:=pre.length) hlen hkb;rw[hz] at hB hG;have hrng:=KAq (k:=pre.length+1) hlen h.ok.2.1 h.ok.2.2;have hrngO:=XAF (ol:=I.ol) (k:=pre.length+1) h.ok.2.2;have hBl:(Xv I.bl I.ol pre.length).length=I.bl.length:=Xz hlen Z;have hOl:(Ql I.ol pre.length).length=I.ol.length:=Vf Z;rw[hB] at hrng;rw[hO] at hrngO;have hb2l:=hb2.lt;have hb1l:=hI.b1.lt;have hIk:=hI.keep;have hIb:=hI.b1;have hnm1:m≠w.heap.size:=fun e=>by have:=hlt m (by rw[him.foot];simp);omega
  have hnm2:m≠w.heap.size+1:=fun e=>by have:=hlt m (by rw[him.foot];simp);omega
  have hF1n:∀ x∈F1,x<w.heap.size:=fun x hx=>hlt x (him.subB x hx);have hF2n:∀ x∈F2,x<w.heap.size:=fun x hx=>hlt x (him.subO x hx);have hfoot:=him.foot;have hsz:=hI.keep.size;obtain⟨c0,c1⟩:=him.cells;have d1:=hI.b1.cell
  have hPost:∀ (gn:List Int) (cB cO:List Int),Xv I.bl I.ol (pre.length+1)=cB->Ql I.ol (pre.length+1)=cO->QAD I.bl I.ol (pre.length+1)=gn->∀ (W':World) (bd' od':List Bool) (ov':Value) (K:List Nat),ImageIs W' base m p1 p2 F F1 F2 ⟨cB,bd',cO,od'⟩->Boxed W' (w.heap.size+1) 53 ov' ->
   W'.ownsRow w.heap.size 3 1 ov' gn.length (VM gn)->Keep K W W'->(∀ x∈K,x∈F\/(w.heap.size<x/\(Boxed W (w.heap.size+1+1) 295 (.pointer (some ⟨p2,0,none⟩))->¬ x=w.heap.size+1+1)/\∀ o,W.heap[x]? = some o->o.isCells=true)) ->
   KeepsFrom w3.heap.size W W'/\QAd base p2 I.ol.length (w.heap.size+1+1) F2 W W'/\KCom w base m p1 p2 F F1 F2 I (pre++[(pre.length,z)]) W':=by
   intro gn cB cO eB eO eG W' bd' od' ov' K g1 g2 g3 hK hKx
   have hsub:∀ x∈K,x≠w.heap.size/\(Boxed W (w.heap.size+1+1) 295 (.pointer (some ⟨p2,0,none⟩))->x≠w.heap.size+1+1):=fun x hx=>by
    rcases hKx x hx with h | h
    . have:=hlt x h;exact⟨Z,fun _=>Z⟩
    . exact⟨Z,h.2.1⟩
   refine⟨hK.fromCells (fun x hx o ho=>?_) _,⟨fun hb=>KA hb hK (fun hm=>(hsub _ hm).2 hb rfl),fun _=>?_⟩,⟨?_,?_,KA hIb hK (fun hm=>(hsub _ hm).1 rfl),?_,by simp;omega⟩⟩
   . rcases hKx x hx with h | h
     . rw[hfoot] at h
       simp only[List.mem_cons,List.mem_append] at h;rcases h with rfl | h | h
       . rw[show W.heap[_]? = _ from him.blk] at ho;cases ho;rfl
       . exact him.b.isCells x h o ho
       . exact him.o.isCells x h o ho
     . exact h.2.2 o ho
   . refine⟨_,_,?_,g1.o⟩
     rw[<- eO,Vf Z]
   . rw[List.length_append,List.length_singleton,eB,eO];exact⟨_,_,g1⟩
   . rw[List.length_append,List.length_singleton,eG];exact⟨_,g2,g3⟩
   . exact hIk.trans hK (fun x hx=>(hKx x hx).imp id (fun h=>Z))
  have HPOST:=JB hPost;have HFOOT:=JB hfoot;have HS3:=JB s3;obtain⟨OA,oc,rfl,_⟩:=ZB hov;have HIM:=JB him;have HB2:=JB hb2;have HOV:=JB hov;by_cases hz1:z = -1
  . subst hz1
    have e1:(Ql I.ol pre.length).set pre.length (-1)=Ql I.ol pre.length:=by
     have hx:pre.length<(Ql I.ol pre.length).length:=Z
     have:=KAc (k:=pre.length) hkl;rw[List.getElem?_eq_getElem hx,hz] at this;rw[<- (Option.some.inj this)];exact List.set_getElem_self hx
    have e2:(Xv I.bl I.ol pre.length).set pre.length (if (-1:Int) = -1 then I.bl[pre.length] else -1)=Xv I.bl I.ol pre.length:=by
     have hx:pre.length<(Xv I.bl I.ol pre.length).length:=Z
     have:=hBat;rw[List.getElem?_eq_getElem hx] at this;rw[if_pos rfl,<- (Option.some.inj this)];exact List.set_getElem_self hx
    rw[e2] at hB;rw[e1] at hO;rw[if_pos rfl,List.append_nil] at hG;have hR:=JA HPOST _ _ _ hB hO hG _ _ _ _ _ (JA HIM) (JA HB2) (JA HOV) (Keep.refl [] W) sq;clear h0 b1 b2 bc kw k1 k2 k3 hw1 hw2 hw3 s1 s2 s3 hseq hI hPost hfoot e1 e2 hG hO hB hBat hrng hrngO
    gi_wp2
    exact hR
  . have hBx:pre.length<(Xv I.bl I.ol pre.length).length:=Z
    have hOx:pre.length<(Ql I.ol pre.length).length:=Z
    have hgl:(Xv I.bl I.ol pre.length)[pre.length]=I.bl[pre.length]:=by
     have:=hBat;rw[List.getElem?_eq_getElem hBx] at this;exact Option.some.inj this
    rw[if_neg hz1] at hB hG hrng;have hTs:=callsIn_wide (n:=0).2 (Vr him.b pre.length hBx z);have hTo:=fun W' (hP:PagedAt W' base p2 F2 (Ql I.ol pre.length) od)=>callsIn_wide (n:=0).2 (VAN W' base p2 F2 _ _ hP pre.length hOx (-1));simp only[hgl] at hTs;have hbr:=h.ok.2.1 _ (List.getElem_mem hkb);have hfewI:=him.b.few;simp only at hfewI;have hgs:=JAP I.bl[pre.length] z Z
    have hgc:(QAD I.bl I.ol pre.length).length<=64:=by
     have:=Kx I.bl I.ol pre.length;omega
    generalize QF I.bl[pre.length] z=y at *;generalize I.bl[pre.length]=bb at *;have hbs:=him.b;have hos:=him.o;have hblk:=him.blk;have hm1':=him.m1;have hap:=him.apart;have hmlt:m<w.heap.size:=hlt m (by rw[him.foot];simp);clear h0 b1 b2 bc kw k1 k2 k3 hw1 hw2 hw3 s1 s2 s3 hseq hI hPost hfoot hBat hgl hbr;have HRO:=JB hrngO;clear hrngO;have hzI:(z == -1)=false:=by simpa using hz1
    have himB:∀ (W2:World) (d1:List Bool),PagedAt W2 base p1 F1 ((Xv I.bl I.ol pre.length).set pre.length z) d1->Keep F1 W W2->ImageIs W2 base m p1 p2 F F1 F2 ⟨(Xv I.bl I.ol pre.length).set pre.length z,d1,Ql I.ol pre.length,od⟩:=fun _ _ g1 g2=>
     (JA HIM).setB g1 g2 sq hrng
    have HB:=JB hB;have HO:=JB hO;have HG:=JB hG;have HHB:=JB himB;clear hB hO hG hrng himB;have hovc:=hov;generalize QAD I.bl I.ol pre.length=gl at *;clear hov hb2;have hF1b:∀ x∈F1,x≠w.heap.size/\x≠w.heap.size+1:=fun x hx=>by have:=hF1n x hx;omega
    have hovF:∀ g,(Value.slice OA gl.length oc).ownBlock=some g->g∉F1:=fun g hg hm=>by have:=(own_mem (JA HOV) (by simpa using hg)).1;have:=hF1n g hm;omega
    have hovm:∀ g,(Value.slice OA gl.length oc).ownBlock=some g->w.heap.size<=g:=fun g hg=>(own_mem (JA HOV) (by simpa using hg)).1;have hovB:(Value.slice OA gl.length oc).ownBlock≠some (w.heap.size+1):=fun e=>(JA HB2).not_row (by decide) (JA HOV) e.symm;have hovA:(Value.slice OA gl.length oc).ownBlock≠some w.heap.size:=fun e=>hIb.not_row (by decide) (JA HOV) e.symm;have hovM:m∉(Value.slice OA gl.length oc).ownBlock.toList:=fun hm=>by have:=hovm m (by simpa using hm);omega
    have hF2o:Apart F2 (Value.slice OA gl.length oc).ownBlock.toList:=fun x hx hm=>by have:=hovm x (by simpa using hm);have:=hF2n x hx;omega
    have hF2b:Apart F2 [w.heap.size+1]:=fun x hx hm=>by have:=hF2n x hx;simp at hm;omega
    by_cases hy:0<y
    . have hy0:¬ y<=0:=Z
      gi_wp2_with (first
       | (refine⟨trivial,?_⟩;refine hTs.mono ?_;clear hTs;rintro e W2 ⟨rfl,hp1,hk2⟩;(have e1:=(KA hIb hk2 (fun hm=>(hF1b _ hm).1 rfl)).cell);(have hb2':=KA (JA HB2) hk2 (fun hm=>(hF1b _ hm).2 rfl));(have e2:=hb2'.cell);(have ho2:=XB (JA HOV) hk2 hovF);(have hsz2:=hk2.size);(have hbm2:=hblk.keep hk2 hm1');(have m20:=(hbm2.cell 0).trans (show _=some (Value.pointer (some ⟨p1,0,none⟩)) from rfl));(have m21:=(hbm2.cell 1).trans (show _=some (Value.pointer (some ⟨p2,0,none⟩)) from rfl)))
       | (gi_at_builtin;refine elemIntsN.wpIn_app rfl _ _ rfl w.heap.size _ gl.length (VM gl) rfl (KD ho2 _) ⟨W2.heap.size,0,none⟩ 1 1 [.int .i64 y] rfl (JT _ _ _) (by simp[Value.oneCell']) Z Z (by simp;omega) ?_;intro v' W3 hv' hk3 hat;(obtain⟨VA,vc,rfl,_⟩:=ZB hv');(have hkA:Keep (Value.slice OA gl.length oc).ownBlock.toList W2 W3:=(kq.alloc _).trans hk3 (fun x hx=>.inl hx));(have hb3:=KA hb2' hkA (by simpa using hovB));(have e3:=hb3.cell);(have f3:=hb3.frozen);(have e4:=(KA (KA hIb hk2 (fun hm=>(hF1b _ hm).1 rfl)) hkA (by simpa using hovA)).cell);(have hbm3:=hbm2.keep hkA hovM);(have m31:=(hbm3.cell 1).trans (show _=some (Value.pointer (some ⟨p2,0,none⟩)) from rfl))))
      have hkS:Keep [w.heap.size+1] W3 (W3.setCell ⟨w.heap.size+1,0,none⟩ (.slice VA (gl.length+1) vc)):=kq.setCell (.inl sq) _;have hos4:=((hos.keep hk2 hap.symm).keep hkA hF2o).keep hkS hF2b;gi_wp2_with (refine⟨trivial,?_⟩;refine(hTo _ hos4).mono ?_;rintro e W5 ⟨rfl,hp5,hk5⟩);have hFo:Apart F (Value.slice OA gl.length oc).ownBlock.toList:=fun x hx hm=>by have:=hovm x (by simpa using hm);have:=hlt x hx;omega
      have hFB:Apart F [w.heap.size+1]:=fun x hx hm=>by have:=hlt x hx;simp at hm;omega
      have im:=((((JA HHB _ _ hp1 hk2).keep hkA hFo).keep hkS hFB).setO hp5 hk5 sq (JA HRO));have hb5:=KA (hb3.set (.slice VA (gl.length+1) vc)) hk5 (fun hm=>by have:=hF2n _ hm;omega);have hv5:=XB (own_set hv' (fun hm=>hb3.not_row (by decide) hv' (Eq.symm (by simpa using hm))) (.slice VA (gl.length+1) vc)) hk5 (fun g hg hm=>by have:=(own_mem hv' (by simpa using hg)).1;have:=hF2n g hm;omega)
      have hKK:Keep (F++((Value.slice OA gl.length oc).ownBlock.toList++[w.heap.size+1])) W W5:=
       (((hk2.sub (fun x hx=>List.mem_append_left _ ((JA HIM).subB x hx))).trans hkA (fun x hx=>.inl (by simp at hx;simp[hx]))).trans hkS (fun x hx=>.inl (by simp at hx;simp[hx]))).trans hk5 (fun x hx=>.inl (List.mem_append_left _ ((JA HIM).subO x hx)))
      have hGL:QAD I.bl I.ol (pre.length+1)=gl++[y]:=by rw[JA HG,if_pos hy]
      refine JA HPOST _ _ _ (JA HB) (JA HO) hGL _ _ _ _ _ im hb5 ?_ hKK ?_
      . rw[List.length_append,List.length_singleton,show VM (gl++[y])=VM gl++[.int .i64 y] by simp[VM,i64]];exact hv5
      . intro x hx
        rcases List.mem_append.1 hx with hx | hx
        . exact .inl hx
        . rcases List.mem_append.1 hx with hx | hx
          . have h1:=hovm x (by simpa using hx)
            refine .inr ⟨?_,fun hb e=>?_,fun o ho=>KR (JA HOV) x hx o ho⟩
            . refine Nat.lt_of_le_of_ne h1 (fun e=>?_)
              subst e;exact hovA (by simpa using hx)
            . subst e;exact hb.not_row (by decide) (JA HOV) (Eq.symm (by simpa using hx))
          . simp at hx
            subst hx;exact .inr ⟨Z,fun _=>Z,fun o ho=>by rw[show W.heap[_]? = _ from JA HB2] at ho;cases ho;rfl⟩
    . have hy0:y=0:=Z
      subst hy0;gi_wp2_with (refine⟨trivial,?_⟩;refine hTs.mono ?_;clear hTs;rintro e W2 ⟨rfl,hp1,hk2⟩;(have e1:=(KA hIb hk2 (fun hm=>(hF1b _ hm).1 rfl)).cell);(have hb2':=KA (JA HB2) hk2 (fun hm=>(hF1b _ hm).2 rfl));(have ho2:=XB (JA HOV) hk2 hovF);(have hbm2:=hblk.keep hk2 hm1');(have m20:=(hbm2.cell 0).trans (show _=some (Value.pointer (some ⟨p1,0,none⟩)) from rfl));(have m21:=(hbm2.cell 1).trans (show _=some (Value.pointer (some ⟨p2,0,none⟩)) from rfl)));have hos4:=hos.keep hk2 hap.symm;gi_wp2_with (refine⟨trivial,?_⟩;refine(hTo _ hos4).mono ?_;rintro e W5 ⟨rfl,hp5,hk5⟩);have im:=((JA HHB _ _ hp1 hk2).setO hp5 hk5 sq (JA HRO));have hb5:=KA hb2' hk5 (fun hm=>by have:=hF2n _ hm;omega);have hv5:=XB ho2 hk5 (fun g hg hm=>by have:=hovm g hg;have:=hF2n g hm;omega);have hKK:Keep F W W5:=(hk2.sub (fun x hx=>(JA HIM).subB x hx)).trans hk5 (fun x hx=>.inl ((JA HIM).subO x hx));have hGL:QAD I.bl I.ol (pre.length+1)=gl:=by rw[JA HG,if_neg Z,List.append_nil]
      exact JA HPOST _ _ _ (JA HB) (JA HO) hGL _ _ _ _ _ im hb5 hv5 hKK (fun x hx=>.inl hx)
 case done=>
  intro D' xs W hD' hS hI hdef;obtain⟨bd,od,him⟩:=hI.img;obtain⟨ov,hb2,hov⟩:=hI.out;rw[hS] at him hov;obtain⟨gl,hgl⟩:∃ gl,gl=QAD I.bl I.ol I.ol.length:=⟨_,rfl⟩;rw[<- hgl] at hov;have HGL:=JB hgl;clear hgl;obtain⟨OA,oc,rfl,_⟩:=ZB hov;have hc2:=hb2.cell;have hf2:=hb2.frozen;have HI:=JB hI;have HOV:=JB hov;have HIM:=JB him;clear h0 b1 b2 bc kw k1 k2 k3 hw1 hw2 hw3 s1 s2 hseq hI hov him
  gi_wp2
  have hI:=JA HI;have hov:=JA HOV;have him:=JA HIM;have hKs:Keep [w.heap.size+1] W (W.setCell ⟨w.heap.size+1,0,none⟩ (.slice OA gl.length oc)):=kq.setCell (p:=⟨w.heap.size+1,0,none⟩) (.inl sq) _;have hdef2:(W.setCell ⟨w.heap.size+1,0,none⟩ (.slice OA gl.length oc)).heap[D']? = some (.deferred (some [])):=(hKs.block D' (Array.getElem?_eq_some_iff.1 hdef).1 (by simp;omega)).trans hdef;have q6:=(JC (.deferred none) (hb2.set (.slice OA gl.length oc)) hdef2 rfl).cell;have hkw:=(hI.keep.trans hKs (fun x hx=>.inr (by simp at hx;omega))).putObj (g:=D') Z (.deferred none);have hov2:=ownsRow_putObj (own_set hov (fun hm=>hb2.not_row (by decide) hov (Eq.symm (by simpa using hm))) (.slice OA gl.length oc)) (.deferred none) hdef2 rfl;have him2:=(him.keep hKs (fun x hx hm=>by have:=hlt x hx;simp at hm;omega)).putObj (.deferred none) hdef2 rfl;refine⟨sq,.inl ⟨_,_,rfl,run_takeDeferred hdef2,?_⟩⟩;refine⟨.slice OA gl.length oc,?_,_,_,_,rfl,by rw[JA HGL] at hov2 ⊢;exact hov2,⟨_,_,_,_,him2⟩,hkw⟩;simp[results,results108,go_sem,q6]
end
section
open Go.RowKit Go.Shelf
attribute [local go_sem] AZ
theorem cells14 {a b c d e f i j k:Value} (h:Blk w g t #[x0,x1,x2,x3,x4,a,b,c,d,e,f,i,j,k]) :
 cl w g x0/\cl w (aq g 1) x1/\cl w (aq g 2) x2/\cl w (aq g 3) x3/\cl w (aq g 4) x4/\cl w (aq g 5) a/\cl w (aq g 6) b/\cl w (aq g 7) c/\cl w (aq g 8) d/\cl w (aq g 9) e/\cl w (aq g 10) f/\cl w (aq g 11) i/\cl w (aq g 12) j/\cl w (aq g 13) k:=
 ⟨uq (h.cell 0),uq (h.cell 1),uq (h.cell 2),uq (h.cell 3),uq (h.cell 4),uq (h.cell 5),uq (h.cell 6),uq (h.cell 7),uq (h.cell 8),uq (h.cell 9),uq (h.cell 10),uq (h.cell 11),uq (h.cell 12),uq (h.cell 13)⟩
theorem JG (h:Blk w g t #[x0,x1,x2,x3,x4]) :
 cl w g x0/\cl w (aq g 1) x1/\cl w (aq g 2) x2/\cl w (aq g 3) x3/\cl w (aq g 4) x4:=
 ⟨uq (h.cell 0),uq (h.cell 1),uq (h.cell 2),uq (h.cell 3),uq (h.cell 4)⟩
def JM (W:World) (s d g:Nat):Prop:=Blk W s 375 #[pq d,pq g,zz,zz,ii 1,zz,ii 1,.bool false,zz,zz,ii 1,zz,ii 1,zz]
theorem Blk.new1 (w:World) (o:Obj) (t:TypeId) (cs:Array Value):Blk ((w.alloc o).alloc (.cells cs t)) (w.heap.size+1) t cs:=by
 have h:=Blk.new (w.alloc o) t cs
 rwa [AN] at h
theorem KAr (w:World) (d g:Nat) :
 Calls prog 324 #[pq d,pq g,.agg #[zz,zz,ii 1,zz,ii 1]] w fun e w'=>∃ s,e=.returned (pq s)/\JM w' s d g/\w.heap.size<=s/\kz w w':=by
 go_enter func324,ntmps324
 go_wp2
 go_ret;exact⟨_,rfl,Blk.new1 _ _ _ _,sq,(kq.alloc _).alloc _⟩
theorem JAY (f:JM w s d g) (h:DiskAt w base d F D) (L:D.off=false) (k:Nat) (M:k<D.n) (N:D.faults[k]? = some false) :
 Calls prog 424 #[pq s,k] w fun e w'=>∃ u,e=.returned (.tuple #[u,.bool true])/\w'.ownsRow w.heap.size 5 1 u 64 (bys (seg 64 D.now k))/\JM w' s d g/\Keep [s] w w':=by
 have i:=Zf w base d F D h L k M N;unfold JM at *;obtain⟨j,l,m,n,o,p,r,t,v,y,z,A,B,C⟩:=cells14 f;go_enter func424,ntmps424
 go_wp2_with (
  apply i.mono;clear i j l m n o p r t v y z A B C;rintro e E ⟨u,rfl,b,G⟩;obtain⟨P,Q,rfl,_⟩:=ZB b;have a:=f.kO G;obtain⟨j,l,m,n,o,p,r,t,v,y,z,A,B,C⟩:=cells14 a;have R:=a.frozen 13;have S:=a.lt)
 have H:=a.set 13 (.int .i64 0);have I:Keep [s] E (E.setCell (aq s 13) (.int .i64 0)):=kq.sc s 13;have O:=XB b I (fun x c J=>by simp at J;subst J;exact own_blk_ne b a (by decide) c);simp only[PU] at H;have K:=H.drew;have q:=(cells14 K).2.2.2.2.2.2.2.2.2.2.2.2.2;refine ZT (fun W=>cl W (aq s 13) zz) 7 [[0,1,2,3,4,5,6]] q ?_;simp only[PI];iterate 7 refine wG ?_
 refine KB ?_
 go_wp2
 go_ret2;exact⟨_,rfl,QB O kq.drew,K,(G.zero.trans I (fun x c=>.inl c)).drew⟩
theorem ZAD {B:Nat} (h:JM w s d g) (A:GeomAt w g B) (a6:DiskAt w base d F D) (a7:D.off=false) (hn:D.n=198+4*pgs B) (R:D.faults[6+4*pgs B]? = some false) (m:seg 64 D.now (6+4*pgs B)=List.replicate 64 0) (a8:s∉F) (C:s≠g) :
 Calls prog 382 #[pq s] w fun e w'=>e=.returned (.tuple #[.agg #[zz,zz,ii 1,zz,ii 1],.bool false])/\JM w' s d g/\Keep [s] w w':=by
 have a9:=fun W (i:Keep [s] w W)=>Js (A.keep i (by simpa using fun e=>C e.symm)) 0;have aa:=fun W (i:Keep [s] w W)=>ConfigG_is W g B (A.keep i (by simpa using fun e=>C e.symm))
 have E:∀ W,Keep [s] w W->cr 34 #[pq g,zz] W (ii ((6+4*pgs B:Nat))):=fun W i=>by
  have:=Yb W g B (A.keep i (by simpa using fun e=>C e.symm)) 0 Z;simpa using this
 obtain⟨K,a⟩:∃ K:Nat,K=6+4*pgs B:=⟨_,rfl⟩;have n:=fun W (i:Keep [s] w W) (S:JM W s d g)=>JAY S (a6.keep i (fun x G T=>by simp at T;subst T;exact a8 G)) a7 (6+4*pgs B) Z R;rw[m] at n;rw[<- a] at n E;clear a m R hn;have S:=h;have ar:=fun W=>QE (P:=prog) underlying28 2 rfl isAgg3 #[ii B,ii 8,ii 24] rfl W;unfold JM at h;obtain⟨ab,b,c2,ac,c4,c5,c6,c7,c8,c9,ad,ae,af,ag⟩:=cells14 h;have ah:=h.frozen 13;have ai:=h.lt;have H:=h.set 13 (.int .i64 0);have U:Keep [s] w (w.setCell (aq s 13) (.int .i64 0)):=kq.sc s 13;have V:s≠w.heap.size:=Z;simp only[PU] at H;go_enter func382,ntmps382;go_wp2_with fail;have I:=Blk.new (w.setCell (aq s 13) (.int .i64 0)) 49 #[zz,zz,ii 1,zz,ii 1];rw[Dj] at I;have l:=U.alloc (.cells #[zz,zz,ii 1,zz,ii 1] 49);have X:=H.kO ((Keep.refl [] _).alloc (.cells #[zz,zz,ii 1,zz,ii 1] 49));clear H U ah ai ab b c2 ac c4 c5 c6 c7 c8 c9 ad ae af ag h;generalize ((w.setCell (aq s 13) (.int .i64 0)).alloc (.cells #[zz,zz,ii 1,zz,ii 1] 49))=w1 at *;have j:=I.drew;have k:=X.drew;have c:=l.drew;obtain⟨p0,p1,p2,o,r⟩:=JG j;have b:=(cells14 k).2.1;refine ZT (fun W=>cl W (aq s 1) (pq g)/\cl W w.heap.size zz/\cl W (aq w.heap.size 1) zz) 22 [[0,1,2,3,4,5],[6,7,8,9,10,11,12,13,14,15,16,17,18,19],[20,21]] ⟨b,p0,p1⟩ ?_;simp only[PI];iterate 6 refine wG ?_
 refine YB rq (fun K a=>?_);go_wp2_with (apply mq (a9 _ c));refine a _ _ (⟨b,p0,p1⟩) ?_;iterate 13 refine wG ?_
 refine YB rq (fun K a=>?_);go_wp2_with (apply (aa _ c).mono;rintro e w2 ⟨rfl,t⟩);have y:=j.kO t;have J:=k.kO t;have Y:=c.tO t;obtain⟨a0,a1,aj,ak,al⟩:=JG y;have a2:=(cells14 J).2.1;refine a _ _ (⟨a2,a0,a1⟩) ?_;iterate 1 refine wG ?_
 refine KB ?_;clear p0 p1 p2 o r b j k c I l X;have am:=y.lt;go_wp2_with fail;have j:=y.drew;have k:=J.drew;have c:=Y.drew;obtain⟨p0,p1,p2,o,r⟩:=JG j;have b:=(cells14 k).2.1;refine ZT (fun W=>cl W (aq s 1) (pq g)/\cl W w.heap.size zz) 13 [[0,1,2,3,4,5,6],[7],[8,9,10,11,12]] ⟨b,p0⟩ ?_;simp only[PI];iterate 7 refine wG ?_
 refine YB rq (fun K a=>?_);go_wp2_with (apply (E _ c).mono;rintro e w3 ⟨rfl,z⟩);have L:=j.kO z;have M:=k.kO z;have N:=c.tO z;clear p0 p1 p2 o r b k c z a0 a1 aj ak al a2 y J Y t;refine a _ _ (⟨(cells14 M).2.1,(JG L).1⟩) ?_
 try simp only[Act.put,PU]
 refine YB rq (fun K a=>?_);go_wp2_with (apply (n _ N M).mono;rintro e w4 ⟨u,rfl,hu,a3,O⟩;obtain⟨au,uc,rfl,_⟩:=ZB hu);have a4:=L.keep O (by simpa using fun e=>V e.symm);have an:=N.trans O (fun x G=>.inl G);clear M N O L n E j;refine a _ _ (⟨(cells14 a3).2.1,(JG a4).1⟩) ?_;iterate 4 refine wG ?_
 refine KB ?_;have ao:=Kw uc (Rd.of_own hu)
 go_wp2_with (
  apply ao.mono;rintro e w5 ⟨rfl,Q⟩;have f:=a4.kO Q;obtain⟨p0,p1,p2,o,r⟩:=JG f;have g0:=f.frozen 0;have g1:=f.frozen 1;have g2:=f.frozen 2;have g3:=f.frozen 3;have g4:=f.frozen 4;have am:=f.lt)
 have m:=((((f.set 0 (.int .i64 0)).set 1 (.int .i64 0)).set 2 (.int .i64 1)).set 3 (.int .i64 0)).set 4 (.int .i64 1);have a5:=(((((Keep.refl [w.heap.size] w5).setCell (p:=⟨w.heap.size,0,none⟩) (.inl sq) (.int .i64 0)).setCell (p:=⟨w.heap.size,1,none⟩) (.inl sq) (.int .i64 0)).setCell (p:=⟨w.heap.size,2,none⟩) (.inl sq) (.int .i64 1)).setCell (p:=⟨w.heap.size,3,none⟩) (.inl sq) (.int .i64 0)).setCell (p:=⟨w.heap.size,4,none⟩) (.inl sq) (.int .i64 1);have l:=(Keep.refl [] (((((w5.setCell w.heap.size (.int .i64 0)).setCell (aq w.heap.size 1) (.int .i64 0)).setCell (aq w.heap.size 2) (.int .i64 1)).setCell (aq w.heap.size 3) (.int .i64 0)).setCell (aq w.heap.size 4) (.int .i64 1))).alloc (.cells #[zz,zz,zz,zz] 383);simp only[PU] at m;have ap:=((a3.kO Q).keep a5 (uq V)).kO l;obtain⟨y0,y1,y2,y3,y4⟩:=JG (m.kO l);refine Af (v:=.tuple #[.agg #[zz,zz,ii 1,zz,ii 1],.bool false]) (by simp[results,results382,go_sem,y0,y1,y2,y3,y4]) rfl ⟨rfl,ap,((an.tO Q).trans a5 iq).tO l⟩
end
section
open Go.RowKit Go.Shelf
attribute [local go_sem] AZ
theorem QBL (h:JM W s d g) :
 JM (((((W.setCell (aq s 8) (.int .i64 0)).setCell (aq s 9) (.int .i64 0)).setCell (aq s 10) (.int .i64 1)).setCell (aq s 11) (.int .i64 0)).setCell (aq s 12) (.int .i64 1)) s d g /\
 Keep [s] W (((((W.setCell (aq s 8) (.int .i64 0)).setCell (aq s 9) (.int .i64 0)).setCell (aq s 10) (.int .i64 1)).setCell (aq s 11) (.int .i64 0)).setCell (aq s 12) (.int .i64 1)):=by
 unfold JM at *;have a:=((((h.set 8 (.int .i64 0)).set 9 (.int .i64 0)).set 10 (.int .i64 1)).set 11 (.int .i64 0)).set 12 (.int .i64 1);simp only[PU] at a;exact⟨a,(((((Keep.refl [s] W).sc s 8).sc s 9).sc s 10).sc s 11).sc s 12⟩
theorem JAU (v:Value) {sb B:Nat} (c:Boxed w sb 274 (.pointer (some s))) (o:JM w s d g) (p:GeomAt w g B) (h:DiskAt w base d F D) (r:D.off=false) (t:D.n=198+4*pgs B) (y:D.faults[6+4*pgs B]? = some false) (z:seg 64 D.now (6+4*pgs B)=List.replicate 64 0) (A:s∉F) (C:s≠g) (i:sb≠s) :
 Calls prog 381 #[v,pq sb] w fun e w'=>(∃ u,e=.returned u)/\JM w' s d g/\Keep [s] w w':=by
 have j:=ZAD o p h r t y z A C;have E:=c.cell;go_enter func381,ntmps381
 go_wp2_with (
  apply j.mono;clear j E;rintro e w1 ⟨rfl,k,f⟩;have G:=(KA c f (uq i)).cell;have H:=(KA c (f.alloc (.cells #[zz,zz,ii 1,zz,ii 1] 49)) (uq i)).cell;have a:JM (w1.alloc (.cells #[zz,zz,ii 1,zz,ii 1] 49)) s d g:=k.kO (kq.alloc _);have l:=id a;unfold JM at a;obtain⟨I,J,K,L,M,N,O,P,Q,R,S,T,U,V⟩:=cells14 a;have W:=a.frozen 8;have X:=a.frozen 9;have Y:=a.frozen 10;have a0:=a.frozen 11;have a1:=a.frozen 12;have a2:=a.lt)
 obtain⟨a3,m⟩:=QBL l;have n:=f.alloc (.cells #[zz,zz,ii 1,zz,ii 1] 49);have a4:=n.trans m (fun x hx=>.inl hx);clear l a I J K L M N O P Q R S T U V W X Y a0 a1 a2 G H k n m;generalize (((((((w1.alloc (.cells #[zz,zz,ii 1,zz,ii 1] 49)).setCell (aq s 8) (.int .i64 0)).setCell (aq s 9) (.int .i64 0)).setCell (aq s 10) (.int .i64 1)).setCell (aq s 11) (.int .i64 0)).setCell (aq s 12) (.int .i64 1)))=w2 at *;go_loopw [4] (fun b wr=>b=.bool false/\JM wr s d g/\Keep [s] w wr) (fun _ _=>0)
 case atStart=>exact⟨rfl,a3,a4⟩
 obtain⟨rfl,a5,a6⟩:=hrel
 go_wp2
 go_end0
 exact⟨⟨_,rfl⟩,a5,a6⟩
theorem XAQ (n:Nat) (v:Value) (w:World) (a:v.oneCell'=true) :
 CallsIn Fence.wide n prog 326 #[v] w fun e w'=>e=.returned (.func (.func 381) #[] #[pq w.heap.size])/\w'=w.alloc (.cells #[v] 274):=by
 refine(AR (n:=n)).2 ?_;go_enter func326,ntmps326
 go_wp2
 go_ret;exact⟨rfl,rfl⟩
theorem JAn (a:JM w s d g):cq 214 #[pq s] w zz:=by
 unfold JM at a;have b:=(cells14 a).2.2.2.2.2.2.2.2.2.2.2.2.2;go_enter func214,ntmps214
 go_wp2
 go_ret;exact⟨rfl,rfl⟩
theorem YAn (a:JM w s d g):cr 443 #[pq s] w (.agg #[zz,zz,ii 1,zz,ii 1]):=by
 unfold JM at a;obtain⟨b,c,e,f,h,i,j,k,l,m,n,o,p,r⟩:=cells14 a;have t:=a.lt;go_enter func443,ntmps443
 go_wp2
 exact Af (v:=.agg #[zz,zz,ii 1,zz,ii 1]) (by simp[results,results443,go_sem]) rfl ⟨rfl,kq.alloc _⟩
end
section
open Go.RowKit Go.Shelf
attribute [local go_sem] AZ
def VAC (ol:List Int) (k:Nat):List Int:=(ol.take k).flatMap (fun o=>if 0<QF o (-1) then [QF o (-1)] else [])
theorem JBK {ol:List Int} {k:Nat} (a:k<ol.length):VAC ol (k+1)=VAC ol k++if 0<QF ol[k] (-1) then [QF ol[k] (-1)] else []:=by
 unfold VAC;rw[AO a,Az];simp
theorem Yy (ol:List Int) (k:Nat):(VAC ol k).length<=k:=by
 unfold VAC
 have:∀ l:List Int,(l.flatMap (fun o=>if 0<QF o (-1) then [QF o (-1)] else [])).length<=l.length:=by
  intro l
  induction l with
  | nil=>simp
  | cons p l ih=>
    rw[At,AE,Am];have:(if 0<QF p (-1) then [QF p (-1)] else []).length<=1:=by split <;> simp
    omega
 refine AA (this _) ?_;simp;omega
structure KFor (w:World) (base m p1 p2:Nat) (F F1 F2:List Nat) (I:PImage) (pre:List PRnd) (W:World):Prop where
 img:∃ od,ImageIs W base m p1 p2 F F1 F2 ⟨I.bl,I.bd,Ql I.ol pre.length,od⟩
 out:∃ ov,Boxed W (w.heap.size+1) 53 ov/\W.ownsRow w.heap.size 3 1 ov (VAC I.ol pre.length).length (VM (VAC I.ol pre.length))
 b1:Boxed W w.heap.size 128 (.pointer (some m))
 keep:Keep F w W
 few:pre.length<=I.ol.length
theorem KFor.kept {I:PImage} (h:KFor w base m p1 p2 F F1 F2 I pre A) (a:kz A B):KFor w base m p1 p2 F F1 F2 I pre B:=by
 obtain⟨od,b⟩:=h.img;obtain⟨c,d,e⟩:=h.out;exact⟨⟨od,b.kO a⟩,⟨c,KA d a sq,QB e a⟩,KA h.b1 a sq,h.keep.tO a,h.few⟩
theorem KFor.turned {k:Nat} {I:PImage} {o a:Obj} (h:KFor w base m p1 p2 F F1 F2 I pre W) (d:w.heap.size<=k) (b:W.heap[k]? = some o) (c:o.isCells=false):KFor w base m p1 p2 F F1 F2 I pre (W.putObj k a):=by
 obtain⟨od,e⟩:=h.img;obtain⟨f,g,i⟩:=h.out;exact⟨⟨od,e.putObj a b c⟩,⟨f,JC a g b c,ownsRow_putObj i a b c⟩,JC a h.b1 b c,h.keep.putObj d a,h.few⟩
theorem JAT {I:PImage} (h:ImageAt w base m F I) :
 Calls prog 248 #[pq m] w fun e w'=>∃ G od,e=.returned G/\w'.ownsRow w.heap.size 3 1 G (VAC I.ol I.ol.length).length (VM (VAC I.ol I.ol.length)) /\
  ImageAt w' base m F ⟨I.bl,I.bd,Ql I.ol I.ol.length,od⟩/\Keep F w w':=by
 obtain⟨p1,p2,F1,F2,h⟩:=h;refine(AR (n:=3)).1 ?_;refine callsIn_of_wp_marks func248 rfl trivial ?_ rfl;simp only[ntmps248,PL,Nat.reduceAdd,Nat.reduceSub];have bd:=fun W (J:kz w W)=>AR (n:=2).2 (JN W base m p1 p2 F F1 F2 I (h.kO J) true)
 gi_wp2_with (first
  | (refine⟨trivial,?_⟩;refine(bd _ ((kq.alloc _).alloc _)).mono ?_;rintro e w' ⟨rfl,rfl⟩)
  | (refine⟨trivial,?_⟩;refine(ZAJ _ _ _ rfl).mono ?_;rintro e w' ⟨rfl,rfl⟩))
 obtain⟨w1,L⟩:=ex (w.alloc (.cells #[pq m] 128));obtain⟨M,N⟩:=ex (w1.alloc (.cells #[zn] 53));obtain⟨v,O⟩:=ex (M.alloc (.cells #[pq p2] 295));rw[<- L,<- N,<- O];have s1:w1.heap.size=w.heap.size+1:=by rw[L,AN]
 have s2:M.heap.size=w.heap.size+2:=by rw[N,AN,s1]
 have s3:v.heap.size=w.heap.size+3:=by rw[O,AN,s2]
 have k1:kz w w1:=by rw[L];exact kq.alloc _
 have k2:kz w1 M:=by rw[N];exact kq.alloc _
 have T:kz M v:=by rw[O];exact kq.alloc _
 have U:kz w v:=(k1.tO k2).tO T;have b1:Boxed v w.heap.size 128 (.pointer (some m)):=KA (by rw[L];exact Boxed.new w _ _) (k2.tO T) sq;have b2:Boxed v (w.heap.size+1) 53 (.slice none 0 0):=KA (by rw[N,<- s1];exact Boxed.new w1 _ _) T sq;have bc:Boxed v (w.heap.size+1+1) 295 (.pointer (some p2)):=by rw[O,show w.heap.size+1+1=M.heap.size from Z];exact Boxed.new M _ _
 have bv:=h.ok.1;have h0:KFor w base m p1 p2 F F1 F2 I [] v:=⟨⟨I.od,by have:=h.kO U;simpa [Ql] using this⟩,⟨_,b2,Ab _ _ _ _⟩,b1,U.zero,AS _⟩;have P:=h.lt;have a7:=YAP 2 (base:=base) (p:=p2) (m:=I.ol.length) (F:=F2) (w:=v) ⟨I.ol,I.od,rfl,h.o.kO U⟩ bc
 refine ZV (n:=3) (gf:=343) (lb:=#[pq (w.heap.size+1+1)]) rfl (enters_of func343 (by kernel_rfl) rfl)
  a7
  (fun A B C h k=>⟨fun t=>k.1 (h.1 t),fun t=>k.2 (h.2 t)⟩)
  (fun W l o V hl Q f=>⟨fun t=>JC V t Q f,fun⟨ls,ds,X,Y⟩=>⟨ls,ds,X,Y.putObj V Q f⟩⟩)
  (fun _=>rfl) (KFor w base m p1 p2 F F1 F2 I) (fun s A B h J=>h.kept J) (fun s W l o V h hl Q f=>h.turned Z Q f)
  (fun pre x W l o V h hl Q f=>⟨h.1,by obtain⟨ls,ds,X,Y,q3⟩:=h.2;exact⟨ls,ds,X,Y.putObj V Q f,q3⟩⟩) h0
  (fun x=>{ tmps:=#[pq m,pq w.heap.size,pq (w.heap.size+1),.int .i64 (x.1:Nat),undef,pq m,pq p2,
    .func (.func 343) #[] #[.pointer (some ⟨w.heap.size+1+1,0,none⟩)],.int .i64 (x.1:Nat),.int .i64 x.2,undef,undef,undef,undef,undef,undef,undef,undef,undef,undef,undef,undef,undef],defers:=[] }) ?assign ?body ?done
 case assign=>
  rintro l ⟨k,z⟩ W K H;dsimp only[KZ] at H ⊢
  gi_wp2
  exact H
 case body=>
  rintro l pre ⟨k,z⟩ W i ⟨J,ls,ds,X,Y,q3⟩;dsimp only at J q3 ⊢;obtain⟨od,c⟩:=i.img;obtain⟨ov,E,r⟩:=i.out;have bw:=c.o.unique Y;subst J;have a1:pre.length<I.ol.length:=by rw[<- X];exact(BL.1 q3).1
  have a8:=JAV (k:=pre.length) a1;have ap:=JBK (k:=pre.length) a1;have a9:=XAF (ol:=I.ol) (k:=pre.length+1) h.ok.2.2;have bx:(Ql I.ol pre.length).length=I.ol.length:=Vf Z;rw[a8] at a9;have bz:=E.lt;have c2:=i.b1.lt;have bf:=i.keep;have ar:=i.b1;have au:∀ x∈F2,x<w.heap.size:=fun x a=>P x (c.subO x a);have aa:=c.foot;have c4:=i.keep.size;obtain⟨c5,c6⟩:=c.cells;have d1:=i.b1.cell
  have ab:∀ (gn ac:List Int),Ql I.ol (pre.length+1)=ac->VAC I.ol (pre.length+1)=gn->∀ (W':World) (av:List Bool) (ad:Value) (K:List Nat),ImageIs W' base m p1 p2 F F1 F2 ⟨I.bl,I.bd,ac,av⟩->Boxed W' (w.heap.size+1) 53 ad ->
   W'.ownsRow w.heap.size 3 1 ad gn.length (VM gn)->Keep K W W'->(∀ x∈K,x∈F\/(w.heap.size<x/\(Boxed W (w.heap.size+1+1) 295 (.pointer (some p2))->¬ x=w.heap.size+1+1)/\∀ o,W.heap[x]? = some o->o.isCells=true)) ->
   KeepsFrom v.heap.size W W'/\QAd base p2 I.ol.length (w.heap.size+1+1) F2 W W'/\KFor w base m p1 p2 F F1 F2 I (pre++[(pre.length,z)]) W':=by
   intro gn ac aw bg W' av ad K g1 g2 g3 H ae
   have ax:∀ x∈K,x≠w.heap.size/\(Boxed W (w.heap.size+1+1) 295 (.pointer (some p2))->x≠w.heap.size+1+1):=fun x a=>by
    rcases ae x a with h | h
    . have:=P x h;exact⟨Z,fun _=>Z⟩
    exact⟨Z,h.2.1⟩
   refine⟨H.fromCells (fun x a o f=>?_) _,⟨fun t=>KA t H (fun d=>(ax _ d).2 t rfl),fun _=>?_⟩,⟨?_,?_,KA ar H (fun d=>(ax _ d).1 rfl),?_,by simp;omega⟩⟩
   . rcases ae x a with h | h
     . rw[aa] at h
       simp only[AM,AD] at h;rcases h with rfl | h | h
       . rw[show W.heap[_]? = _ from c.blk] at f;cases f;rfl
       . exact c.b.isCells x h o f
       exact c.o.isCells x h o f
     exact h.2.2 o f
   . refine⟨_,_,?_,g1.o⟩
     rw[<- aw,Vf Z]
   . rw[AE,Al,aw];exact⟨_,g1⟩
   . rw[AE,Al,bg];exact⟨_,g2,g3⟩
   exact bf.trans H (fun x a=>(ae x a).imp id (fun h=>Z))
  have ay:=JB ab;have c7:=JB aa;have c8:=JB s3;obtain⟨OA,j,rfl,_⟩:=ZB r;have R:=JB c;have a2:=JB E;have D:=JB r;have az:pre.length<(Ql I.ol pre.length).length:=Z
  have S:(Ql I.ol pre.length)[pre.length]=I.ol[pre.length]:=by
   have:=KAc (k:=pre.length) a1;rw[AC az] at this;exact CD this
  have a0:=AR (n:=0).2 (Vr c.o pre.length az (-1));simp only[S] at a0;have b0:=h.ok.2.2 _ (AQ a1);have bh:=c.o.few;simp only at bh;have c9:0<=QF I.ol[pre.length] (-1)/\QF I.ol[pre.length] (-1)<4096:=Ya b0
  have ca:(VAC I.ol pre.length).length<=64:=by
   have:=Yy I.ol pre.length;omega
  generalize QF I.ol[pre.length] (-1)=y at *;have cb:=c.o;have cc:=c.blk;have cd:m<w.heap.size:=P m (by rw[c.foot];simp);have ce:=c.m2;have bi:=ab;clear bi h0 b1 b2 bc U k1 k2 T L N O s1 s2 s3 a7 i ab aa S b0;have b3:=JB a9;clear a9;have b4:=JB a8;have b5:=JB ap;clear a8 ap;generalize VAC I.ol pre.length=b at *;clear r E;have af:∀ g,(Value.slice OA b.length j).ownBlock=some g->w.heap.size<=g:=fun g hg=>(own_mem (JA D) (uq hg)).1;have b6:∀ g,(Value.slice OA b.length j).ownBlock=some g->g∉F2:=fun g hg d=>by have:=af g hg;have:=au g d;omega
  have bj:(Value.slice OA b.length j).ownBlock≠some (w.heap.size+1):=fun e=>(JA a2).not_row (by decide) (JA D) e.symm;have bk:(Value.slice OA b.length j).ownBlock≠some w.heap.size:=fun e=>ar.not_row (by decide) (JA D) e.symm;have b7:∀ x∈F2,x≠w.heap.size/\x≠w.heap.size+1:=fun x a=>by have:=au x a;omega
  by_cases hy:0<y
  . have b8:¬ y<=0:=Z
    gi_wp2_with (first
     | (refine⟨trivial,?_⟩;refine a0.mono ?_;clear a0;rintro e a3 ⟨rfl,ag,u⟩;(have a4:=KA (JA a2) u (fun d=>(b7 _ d).2 rfl));(have e2:=a4.cell);(have ah:=XB (JA D) u b6);(have cf:=u.size))
     | (gi_at_builtin;refine elemIntsN.wpIn_app rfl _ _ rfl w.heap.size _ b.length (VM b) rfl (KD ah _) ⟨a3.heap.size,0,none⟩ 1 1 [.int .i64 y] rfl (JT _ _ _) (by simp[Value.oneCell']) Z Z (by simp;omega) ?_;intro cg ai aj bl ch;(obtain⟨ak,vc,rfl,_⟩:=ZB aj);(have al:Keep (Value.slice OA b.length j).ownBlock.toList a3 ai:=(kq.alloc _).trans bl (fun x a=>.inl a));(have a5:=KA a4 al (uq bj));(have e3:=a5.cell);(have f3:=a5.frozen)))
    have b9:Keep [w.heap.size+1] ai (ai.setCell ⟨w.heap.size+1,0,none⟩ (.slice ak (b.length+1) vc)):=kq.setCell (.inl sq) _;have bm:Apart F (Value.slice OA b.length j).ownBlock.toList:=fun x a d=>by have:=af x (uq d);have:=P x a;omega
    have bn:Apart F [w.heap.size+1]:=fun x a d=>by have:=P x a;simp at d;omega
    have im:=((((JA R).setO ag u sq (JA b3)).keep al bm).keep b9 bn);have bo:=a5.set (.slice ak (b.length+1) vc);have bp:=own_set (o:=0) aj (fun d=>a5.not_row (by decide) aj (DO (uq d))) (.slice ak (b.length+1) vc)
    have am:Keep (F++((Value.slice OA b.length j).ownBlock.toList++[w.heap.size+1])) W _:=
     ((u.sub (fun x a=>BB _ ((JA R).subO x a))).trans al (fun x a=>.inl (by simp at a;simp[a]))).trans b9 (fun x a=>.inl (by simp at a;simp[a]))
    have an:VAC I.ol (pre.length+1)=b++[y]:=by rw[JA b5,AP hy]
    refine JA ay _ _ (JA b4) an _ _ _ _ im bo ?_ am ?_
    . rw[AE,Al,show VM (b++[y])=VM b++[.int .i64 y] by simp[VM,i64]];exact bp
    intro x a;rcases AD.1 a with a | a
    . exact .inl a
    rcases AD.1 a with a | a
    . have h1:=af x (uq a)
      refine .inr ⟨?_,fun t e=>?_,fun o f=>KR (JA D) x a o f⟩
      . refine Nat.lt_of_le_of_ne h1 (fun e=>?_)
        subst e;exact bk (uq a)
      subst e;exact t.not_row (by decide) (JA D) (DO (uq a))
    simp at a;subst a;exact .inr ⟨Z,fun _=>Z,fun o f=>by rw[show W.heap[_]? = _ from JA a2] at f;cases f;rfl⟩
  have b8:y=0:=Z;subst b8;gi_wp2_with (refine⟨trivial,?_⟩;refine a0.mono ?_;clear a0;rintro e a3 ⟨rfl,ag,u⟩;(have a4:=KA (JA a2) u (fun d=>(b7 _ d).2 rfl));(have ah:=XB (JA D) u b6));have im:=(JA R).setO ag u sq (JA b3);have am:Keep F W a3:=u.sub (fun x a=>(JA R).subO x a);have an:VAC I.ol (pre.length+1)=b:=by rw[JA b5,AL Z,Ba]
  exact JA ay _ _ (JA b4) an _ _ _ _ im a4 ah am (fun x a=>.inl a)
 case done=>
  intro D' xs W ci bq i ba;obtain⟨od,c⟩:=i.img;obtain⟨ov,E,r⟩:=i.out;rw[bq] at c r;obtain⟨b,S⟩:=ex (VAC I.ol I.ol.length);rw[<- S] at r;have br:=JB S;clear S;obtain⟨OA,j,rfl,_⟩:=ZB r;have cj:=E.cell;have ck:=E.frozen;have bs:=JB i;have D:=JB r;have R:=JB c;clear h0 b1 b2 bc U k1 k2 T L N O s1 s2 a7 i r c
  gi_wp2
  have i:=JA bs;have r:=JA D;have c:=JA R;have ao:Keep [w.heap.size+1] W (W.setCell ⟨w.heap.size+1,0,none⟩ (.slice OA b.length j)):=kq.sc (w.heap.size+1) 0;have a6:(W.setCell ⟨w.heap.size+1,0,none⟩ (.slice OA b.length j)).heap[D']? = some (.deferred (some [])):=(ao.block D' (AI.1 ba).1 (by simp;omega)).trans ba;have q6:=(JC (.deferred none) (E.set (.slice OA b.length j)) a6 rfl).cell;have bt:=(i.keep.trans ao iq).putObj (g:=D') Z (.deferred none);have bb:=ownsRow_putObj (own_set r (fun d=>E.not_row (by decide) r (DO (uq d))) (.slice OA b.length j)) (.deferred none) a6 rfl;have bu:=(c.keep ao (fun x a d=>by have:=P x a;simp at d;omega)).putObj (.deferred none) a6 rfl;refine⟨sq,.inl ⟨_,_,rfl,run_takeDeferred a6,?_⟩⟩;refine⟨.slice OA b.length j,?_,_,_,rfl,by rw[JA br] at bb ⊢;exact bb,⟨_,_,_,_,bu⟩,bt⟩;simp[results,results248,go_sem,q6]
end
theorem elemBoolE:Elem prog 184 4 (.bool false) 1:=Elem.of underlying184 (by kernel_rfl) rfl
theorem VAQ (h:PagedAt w base p F l ds) :
 Calls prog 231 #[pq p] w fun e w'=>e=.returned (.tuple #[])/\PagedAt w' base p F l (List.replicate ds.length false)/\Keep F w w':=by
 obtain⟨L,U,h⟩:=h;obtain⟨g,c,u,b,rfl,rfl,k,E,n⟩:=h.forms;obtain⟨G,H,I⟩:=h.cells;have o:=h.foot
 obtain⟨a,d,J,r,s,t⟩:∃ a:List Value,Blk w u 4 a.toArray/\a.length=b/\ds.length<=b/\b<=9223372036854775807/\base<=u:=by
  rcases h.rd.2 with⟨f,_⟩ | ⟨K,cap,a,f,d,v,y,z,A,M⟩
  . cases f
  cases f;exact⟨a.toList,v,uq A,y,by simpa [maxLen] using z,d⟩
 obtain⟨w',N,B,i⟩:=elemBoolE.run_clear w 0 (some u) ds.length b u 0 a _ d (fun _=>rfl) Z rfl
 have C:PagedIs w' base p (.slice (some g) l.length c) (.slice (some u) ds.length b) F l (List.replicate ds.length false):=by
  refine⟨h.blk.keep i (uq n),XB h.rl i (fun x j=>by simp[Value.ownBlock] at j;subst j;simpa using k),?_,h.foot,h.base,h.pos,h.few,by rw[Ai];exact h.pages⟩;rw[Ai];refine Zk B t r s (by simp[splice];omega) ?_;simp[splice,CK]
 have D:Keep F w w':=i.sub (m:=F) (by rw[o];simp[Value.ownBlock]);go_enter func231,ntmps231
 go_wp2
 go_end0
 exact⟨rfl,⟨_,_,C⟩,D⟩
theorem YAB (h:PagedAt w base p F l ds) :
 cq 392 #[pq p] w ds.length:=by
 obtain⟨L,U,h⟩:=h;obtain⟨g,c,u,a,rfl,rfl,_⟩:=h.forms;obtain⟨b,d,e⟩:=h.cells;go_enter func392,ntmps392
 go_wp2
 go_ret;exact⟨rfl,rfl⟩
theorem YAx {I:PImage} (h:ImageAt w base m F I) :
 Calls prog 98 #[pq m] w fun e w'=>e=.returned (.tuple #[])/\ImageAt w' base m F ⟨I.bl,List.replicate I.bd.length false,I.ol,List.replicate I.od.length false⟩/\Keep F w w':=by
 obtain⟨p1,p2,F1,F2,h⟩:=h;have b:=JN w base m p1 p2 F F1 F2 I h false;have j:=h.subB;have k:=h.subO;have c:=VAQ h.b;simp only[Bool.false_eq_true,if_false] at b;go_enter func98,ntmps98
 go_wp2_with (first
  | (go_at_call 230;refine b.mono ?_;clear b;rintro e w' ⟨rfl,rfl⟩)
  | (go_at_call 231;refine c.mono ?_;clear c;rintro e w1 ⟨rfl,l,d⟩;(have a:=h.setB l d rfl h.ok.2.1);(have f:=JN w1 base m p1 p2 F F1 F2 _ a true))
  | (go_at_call 230;refine f.mono ?_;clear f;rintro e w' ⟨rfl,rfl⟩;(have g:=VAQ a.o))
  | (go_at_call 231;refine g.mono ?_;clear g;rintro e p ⟨rfl,n,i⟩))
 go_end0
 exact⟨rfl,⟨_,_,_,_,a.setO n i rfl a.ok.2.2⟩,(d.sub j).trans (i.sub k) (fun x o=>.inl o)⟩