/- Lemmas of the proof, with their conditions. -/
import Derived.Test.YtfedaknhecbehaaGreatM24
import Derived.Test.YtfedaknhecbehaaGreatM26
namespace Go.Proofs.YtfedaknhecbehaaGreat
open Tryz Go.RowKit Go.Shelf
variable {W w A B:World} {base m p1 p2 p g:Nat} {F F1 F2:List Nat} {l:List Int} {ds:List Bool} {pre:List PRnd} {t:TypeId} {x0 x1 x2 x3 x4:Value}
set_option linter.all false
set_option maxHeartbeats 4000000
set_option maxRecDepth 100000
section
open Go.RowKit Go.Shelf
attribute [local go_sem] AW
def Kr (bl ol:List Int) (k:Nat):List Int:=(List.zipWith (fun b o=>if o = -1 then b else o) bl ol).take k++bl.drop k
def Xs (ol:List Int) (k:Nat):List Int:=List.replicate k (-1)++ol.drop k
def XAC (bl ol:List Int) (k:Nat):List Int:=((bl.zip ol).take k).flatMap (fun p=>if p.2 = -1 then [] else if 0<YH p.1 p.2 then [YH p.1 p.2] else [])
section
variable {bl ol:List Int} {k:Nat}
theorem Ju (h:bl.length=ol.length) (a:k<=bl.length):(Kr bl ol k).length=bl.length:=by simp[Kr];omega
theorem Xu (a:k<=ol.length):(Xs ol k).length=ol.length:=by simp[Xs];omega
theorem VBV (h:bl.length=ol.length) (a:k<bl.length):(Kr bl ol k)[k]? = some bl[k]:=by
 have c:((List.zipWith (fun b o=>if o = -1 then b else o) bl ol).take k).length=k:=by simp;omega
 unfold Kr;rw[Bm Z,c,C6,BT];simp[a]
theorem YAx (a:k<ol.length):(Xs ol k)[k]? = some ol[k]:=by
 unfold Xs;rw[Bm sq,BD,C6,BT];simp[a]
theorem QBC (h:bl.length=ol.length) (a:k<bl.length):Kr bl ol (k+1)=(Kr bl ol k).set k (if ol[k]' Z = -1 then bl[k] else ol[k]' Z):=by
 have c:k<(List.zipWith (fun b o=>if o = -1 then b else o) bl ol).length:=by simp;omega
 have d:((List.zipWith (fun b o=>if o = -1 then b else o) bl ol).take k).length=k:=by simp;omega
 unfold Kr;rw[AO c,D7 _ _ Z,d,C6,Bt a,Ah];simp
theorem ZBH (a:k<ol.length):Xs ol (k+1)=(Xs ol k).set k (-1):=by
 unfold Xs;rw[List.replicate_succ',D7 _ _ sq,BD,C6,Bt a,Ah];simp
theorem VAx (h:bl.length=ol.length) (b:k<bl.length):XAC bl ol (k+1)=XAC bl ol k++if ol[k]' Z = -1 then [] else if 0<YH bl[k] (ol[k]' Z) then [YH bl[k] (ol[k]' Z)] else []:=by
 have a:k<(bl.zip ol).length:=by simp;omega
 unfold XAC;rw[AO a,BM];simp
theorem Xy (bl ol:List Int) (k:Nat):(XAC bl ol k).length<=k:=by
 unfold XAC
 have:∀ l:List (Int×Int),(l.flatMap (fun p=>if p.2 = -1 then [] else if 0<YH p.1 p.2 then [YH p.1 p.2] else [])).length<=l.length:=by
  intro l
  induction l with
  | nil=>simp
  | cons p l ih=>
    rw[BE,AE,Ao]
    have:(if p.2 = -1 then [] else if 0<YH p.1 p.2 then [YH p.1 p.2] else []).length<=1:=by
     split
     . simp
     split <;> simp
    omega
 refine AB (this _) ?_;simp;omega
theorem XAM (b z:Int) (h:0<=b):0<=YH b z/\YH b z<=b:=by
 unfold YH;split <;> omega
theorem VAk (h:bl.length=ol.length) (b:∀ x∈bl,0<=x/\x<4096) (c:∀ x∈ol,-1<=x/\x<4096):∀ x∈Kr bl ol k,0<=x/\x<4096:=by
 intro x a;rcases AD.1 a with a | a
 . obtain⟨i,hi,rfl⟩:=List.mem_iff_getElem.1 (Ch a)
   rw[List.getElem_zipWith];have d:=b _ (AN (l:=bl) (n:=i) (by simp at hi;omega));have e:=c _ (AN (l:=ol) (n:=i) (by simp at hi;omega))
   split
   . exact d
   omega
 exact b x (EE a)
theorem ZAc (b:∀ x∈ol,-1<=x/\x<4096):∀ x∈Xs ol k,-1<=x/\x<4096:=by
 intro x a;rcases AD.1 a with a | a
 . have:=AX a;omega
 exact b x (EE a)
end
structure KCom (w:World) (base m p1 p2:Nat) (F F1 F2:List Nat) (I:PImage) (pre:List PRnd) (W:World):Prop where
 img:∃ bd od,ImageIs W base m p1 p2 F F1 F2 ⟨Kr I.bl I.ol pre.length,bd,Xs I.ol pre.length,od⟩
 out:∃ ov,Boxed W (w.heap.size+1) 53 ov/\W.ownsRow w.heap.size 3 1 ov (XAC I.bl I.ol pre.length).length (KW (XAC I.bl I.ol pre.length))
 b1:Boxed W w.heap.size 128 (.pointer (some m))
 keep:Keep F w W
 few:pre.length<=I.ol.length
theorem ImageIs.putObj {k:Nat} {I:PImage} {o:Obj} (h:ImageIs W base m p1 p2 F F1 F2 I) (a:Obj) (b:W.heap[k]? = some o) (c:o.isCells=false):ImageIs (W.putObj k a) base m p1 p2 F F1 F2 I:=
 ⟨XH a h.blk b c,h.b.putObj a b c,h.o.putObj a b c,h.apart,h.m1,h.m2,h.foot,h.base,h.ok⟩
theorem PagedAt.isCells (h:PagedAt W base p F l ds):∀ g∈F,∀ o,W.heap[g]? = some o->o.isCells=true:=by
 obtain⟨L,U,h⟩:=h;exact h.isCells
theorem KCom.kept {I:PImage} (h:KCom w base m p1 p2 F F1 F2 I pre A) (a:kz A B):KCom w base m p1 p2 F F1 F2 I pre B:=by
 obtain⟨b,od,c⟩:=h.img;obtain⟨d,e,f⟩:=h.out;exact⟨⟨b,od,c.kO a⟩,⟨d,JA e a sq,QB f a⟩,JA h.b1 a sq,h.keep.tO a,h.few⟩
theorem KCom.turned {k:Nat} {I:PImage} {o a:Obj} (h:KCom w base m p1 p2 F F1 F2 I pre W) (d:w.heap.size<=k) (b:W.heap[k]? = some o) (c:o.isCells=false):KCom w base m p1 p2 F F1 F2 I pre (W.putObj k a):=by
 obtain⟨e,od,f⟩:=h.img;obtain⟨g,i,j⟩:=h.out;exact⟨⟨e,od,f.putObj a b c⟩,⟨g,ZC a i b c,ownsRow_putObj j a b c⟩,ZC a h.b1 b c,h.keep.putObj d a,h.few⟩
theorem XAp {I:PImage} (h:ImageAt w base m F I) :
 Calls prog 108 #[pq m] w fun e w'=>∃ bg bd od,e=.returned bg/\w'.ownsRow w.heap.size 3 1 bg (XAC I.bl I.ol I.ol.length).length (KW (XAC I.bl I.ol I.ol.length)) /\
  ImageAt w' base m F ⟨Kr I.bl I.ol I.ol.length,bd,Xs I.ol I.ol.length,od⟩/\Keep F w w':=by
 obtain⟨p1,p2,F1,F2,h⟩:=h;refine(AQ (n:=3)).1 ?_;refine callsIn_of_wp_marks func108 rfl trivial ?_ rfl;simp only[ntmps108,PL,Nat.reduceAdd,Nat.reduceSub];have c7:=fun W (T:kz w W)=>AQ (n:=2).2 (YR W base m p1 p2 F F1 F2 I (h.kO T) true)
 gi_wp2_with (first
  | (refine⟨trivial,?_⟩;refine(c7 _ ((kq.alloc _).alloc _)).mono ?_;rintro e w' ⟨rfl,rfl⟩)
  | (refine⟨trivial,?_⟩;refine(KAU _ _ _ rfl).mono ?_;rintro e w' ⟨rfl,rfl⟩))
 obtain⟨w1,M⟩:=ex (w.alloc (.cells #[pq m] 128));obtain⟨U,N⟩:=ex (w1.alloc (.cells #[zn] 53));obtain⟨D,O⟩:=ex (U.alloc (.cells #[pq p2] 295));rw[<- M,<- N,<- O];have s1:w1.heap.size=w.heap.size+1:=by rw[M,AM]
 have s2:U.heap.size=w.heap.size+2:=by rw[N,AM,s1]
 have s3:D.heap.size=w.heap.size+3:=by rw[O,AM,s2]
 have k1:kz w w1:=by rw[M];exact kq.alloc _
 have k2:kz w1 U:=by rw[N];exact kq.alloc _
 have V:kz U D:=by rw[O];exact kq.alloc _
 have X:kz w D:=(k1.tO k2).tO V;have b1:Boxed D w.heap.size 128 (.pointer (some m)):=JA (by rw[M];exact Boxed.new w _ _) (k2.tO V) sq;have b2:Boxed D (w.heap.size+1) 53 (.slice none 0 0):=JA (by rw[N,<- s1];exact Boxed.new w1 _ _) V sq;have bc:Boxed D (w.heap.size+1+1) 295 (.pointer (some p2)):=by rw[O,show w.heap.size+1+1=U.heap.size from Z];exact Boxed.new U _ _
 have a5:=h.ok.1;have h0:KCom w base m p1 p2 F F1 F2 I [] D:=⟨⟨I.bd,I.od,by have:=h.kO X;simpa [Kr,Xs] using this⟩,⟨_,b2,AZ _ _ _ _⟩,b1,X.zero,AP _⟩;have E:=h.lt;have ad:=VAy 2 (base:=base) (p:=p2) (m:=I.ol.length) (F:=F2) (w:=D) ⟨I.ol,I.od,rfl,h.o.kO X⟩ bc
 refine ZU (n:=3) (gf:=343) (lb:=#[pq (w.heap.size+1+1)]) rfl (enters_of func343 (by kernel_rfl) rfl)
  ad
  (fun A B C h k=>⟨fun v=>k.1 (h.1 v),fun v=>k.2 (h.2 v)⟩)
  (fun W l o a6 hl Y f=>⟨fun v=>ZC a6 v Y f,fun⟨ls,ds,q1,q2⟩=>⟨ls,ds,q1,q2.putObj a6 Y f⟩⟩)
  (fun _=>rfl) (KCom w base m p1 p2 F F1 F2 I) (fun s A B h T=>h.kept T) (fun s W l o a6 h hl Y f=>h.turned Z Y f)
  (fun pre x W l o a6 h hl Y f=>⟨h.1,by obtain⟨ls,ds,q1,q2,q3⟩:=h.2;exact⟨ls,ds,q1,q2.putObj a6 Y f,q3⟩⟩) h0
  (fun x=>{ tmps:=#[pq m,pq w.heap.size,pq (w.heap.size+1),.int .i64 (x.1:Nat),.int .i64 x.2,undef,pq m,pq p2,
    .func (.func 343) #[] #[.pointer (some ⟨w.heap.size+1+1,0,none⟩)],.int .i64 (x.1:Nat),.int .i64 x.2,undef,undef,undef,undef,undef,undef,undef,undef,undef,undef,undef,undef,undef,undef,undef,undef,undef,undef,undef,undef,undef,undef],defers:=[] }) ?assign ?body ?done
 case assign=>
  rintro l ⟨k,z⟩ W K P;dsimp only[YY] at P ⊢
  gi_wp2
  exact P
 case body=>
  rintro l pre ⟨k,z⟩ W j ⟨T,ls,ds,q1,q2,q3⟩;dsimp only at T q3 ⊢;obtain⟨bd,od,c⟩:=j.img;obtain⟨ov,H,t⟩:=j.out;have c8:=c.o.unique q2;subst T;have am:pre.length<I.ol.length:=by rw[<- q1];exact(BS.1 q3).1
  have ae:pre.length<I.bl.length:=Z
  rw[<- c8,YAx am] at q3;have hz:I.ol[pre.length]=z:=uq q3
  have J:=QBC (k:=pre.length) a5 ae;have a0:=ZBH (k:=pre.length) am;have Q:=VAx (k:=pre.length) a5 ae;have af:=VBV (k:=pre.length) a5 ae;rw[hz] at J Q;have a7:=VAk (k:=pre.length+1) a5 h.ok.2.1 h.ok.2.2;have ag:=ZAc (ol:=I.ol) (k:=pre.length+1) h.ok.2.2;have cw:(Kr I.bl I.ol pre.length).length=I.bl.length:=Ju a5 Z;have cx:(Xs I.ol pre.length).length=I.ol.length:=Xu Z;rw[J] at a7;rw[a0] at ag;have cy:=H.lt;have cz:=j.b1.lt;have c9:=j.keep;have a8:=j.b1;have d0:m≠w.heap.size:=fun e=>by have:=E m (by rw[c.foot];simp);omega
  have d2:m≠w.heap.size+1:=fun e=>by have:=E m (by rw[c.foot];simp);omega
  have bh:∀ x∈F1,x<w.heap.size:=fun x a=>E x (c.subB x a);have a1:∀ x∈F2,x<w.heap.size:=fun x a=>E x (c.subO x a);have ah:=c.foot;have d3:=j.keep.size;obtain⟨d4,d5⟩:=c.cells;have d1:=j.b1.cell
  have an:∀ (gn:List Int) (ao ap:List Int),Kr I.bl I.ol (pre.length+1)=ao->Xs I.ol (pre.length+1)=ap->XAC I.bl I.ol (pre.length+1)=gn->∀ (W':World) (bi bj:List Bool) (ar:Value) (K:List Nat),ImageIs W' base m p1 p2 F F1 F2 ⟨ao,bi,ap,bj⟩->Boxed W' (w.heap.size+1) 53 ar ->
   W'.ownsRow w.heap.size 3 1 ar gn.length (KW gn)->Keep K W W'->(∀ x∈K,x∈F\/(w.heap.size<x/\(Boxed W (w.heap.size+1+1) 295 (.pointer (some p2))->¬ x=w.heap.size+1+1)/\∀ o,W.heap[x]? = some o->o.isCells=true)) ->
   KeepsFrom D.heap.size W W'/\QAr base p2 I.ol.length (w.heap.size+1+1) F2 W W'/\KCom w base m p1 p2 F F1 F2 I (pre++[(pre.length,z)]) W':=by
   intro gn ao ap ca bk cb W' bi bj ar K g1 g2 g3 P au
   have bl:∀ x∈K,x≠w.heap.size/\(Boxed W (w.heap.size+1+1) 295 (.pointer (some p2))->x≠w.heap.size+1+1):=fun x a=>by
    rcases au x a with h | h
    . have:=E x h;exact⟨Z,fun _=>Z⟩
    exact⟨Z,h.2.1⟩
   refine⟨P.fromCells (fun x a o f=>?_) _,⟨fun v=>JA v P (fun b=>(bl _ b).2 v rfl),fun _=>?_⟩,⟨?_,?_,JA a8 P (fun b=>(bl _ b).1 rfl),?_,by simp;omega⟩⟩
   . rcases au x a with h | h
     . rw[ah] at h
       simp only[AL,AD] at h;rcases h with rfl | h | h
       . rw[show W.heap[_]? = _ from c.blk] at f;cases f;rfl
       . exact c.b.isCells x h o f
       exact c.o.isCells x h o f
     exact h.2.2 o f
   . refine⟨_,_,?_,g1.o⟩
     rw[<- bk,Xu Z]
   . rw[AE,Af,ca,bk];exact⟨_,_,g1⟩
   . rw[AE,Af,cb];exact⟨_,g2,g3⟩
   exact c9.trans P (fun x a=>(au x a).imp id (fun h=>Z))
  have av:=ZB an;have d6:=ZB ah;have d7:=ZB s3;obtain⟨q,r,rfl,_⟩:=XB t;have L:=ZB c;have a9:=ZB H;have u:=ZB t;by_cases aw:z = -1
  . subst aw
    have e1:(Xs I.ol pre.length).set pre.length (-1)=Xs I.ol pre.length:=by
     have a:pre.length<(Xs I.ol pre.length).length:=Z
     have:=YAx (k:=pre.length) am;rw[AC a,hz] at this;rw[<- (C0 this)];exact C2 a
    have e2:(Kr I.bl I.ol pre.length).set pre.length (if (-1:Int) = -1 then I.bl[pre.length] else -1)=Kr I.bl I.ol pre.length:=by
     have a:pre.length<(Kr I.bl I.ol pre.length).length:=Z
     have:=af;rw[AC a] at this;rw[AJ rfl,<- (C0 this)];exact C2 a
    rw[e2] at J;rw[e1] at a0;rw[AJ rfl,Bg] at Q;have cc:=ZA av _ _ _ J a0 Q _ _ _ _ _ (ZA L) (ZA a9) (ZA u) (Keep.refl [] W) sq;clear h0 b1 b2 bc X k1 k2 V M N O s1 s2 s3 ad j an ah e1 e2 Q a0 J af a7 ag
    gi_wp2
    exact cc
  have bm:pre.length<(Kr I.bl I.ol pre.length).length:=Z
  have cd:pre.length<(Xs I.ol pre.length).length:=Z
  have a2:(Kr I.bl I.ol pre.length)[pre.length]=I.bl[pre.length]:=by
   have:=af;rw[AC bm] at this;exact C0 this
  rw[AF aw] at J Q a7;have aa:=AQ (n:=0).2 (YAX c.b pre.length bm z);have bn:=fun W' (ce:PagedAt W' base p2 F2 (Xs I.ol pre.length) od)=>AQ (n:=0).2 (JAG W' base p2 F2 _ _ ce pre.length cd (-1));simp only[a2] at aa;have cf:=h.ok.2.1 _ (AN ae);have cg:=c.b.few;simp only at cg;have d8:=XAM I.bl[pre.length] z Z
  have d9:(XAC I.bl I.ol pre.length).length<=64:=by
   have:=Xy I.bl I.ol pre.length;omega
  generalize YH I.bl[pre.length] z=y at *;generalize I.bl[pre.length]=bb at *;have da:=c.b;have bo:=c.o;have bp:=c.blk;have bq:=c.m1;have br:=c.apart;have db:m<w.heap.size:=E m (by rw[c.foot];simp);clear h0 b1 b2 bc X k1 k2 V M N O s1 s2 s3 ad j an ah af a2 cf;have bs:=ZB ag;clear ag;have dc:(z == -1)=false:=uq aw
  have bt:∀ (R:World) (d1:List Bool),PagedAt R base p1 F1 ((Kr I.bl I.ol pre.length).set pre.length z) d1->Keep F1 W R->ImageIs R base m p1 p2 F F1 F2 ⟨(Kr I.bl I.ol pre.length).set pre.length z,d1,Xs I.ol pre.length,od⟩:=fun _ _ g1 g2=>
   (ZA L).setB g1 g2 sq a7
  have bu:=ZB J;have bv:=ZB a0;have bw:=ZB Q;have bx:=ZB bt;clear J a0 Q a7 bt;have dd:=t;generalize XAC I.bl I.ol pre.length=d at *;clear t H;have ab:∀ x∈F1,x≠w.heap.size/\x≠w.heap.size+1:=fun x a=>by have:=bh x a;omega
  have bz:∀ g,(Value.slice q d.length r).ownBlock=some g->g∉F1:=fun g S b=>by have:=(own_mem (ZA u) (uq S)).1;have:=bh g b;omega
  have ac:∀ g,(Value.slice q d.length r).ownBlock=some g->w.heap.size<=g:=fun g S=>(own_mem (ZA u) (uq S)).1;have ch:(Value.slice q d.length r).ownBlock≠some (w.heap.size+1):=fun e=>(ZA a9).not_row (by decide) (ZA u) e.symm;have c2:(Value.slice q d.length r).ownBlock≠some w.heap.size:=fun e=>a8.not_row (by decide) (ZA u) e.symm;have ci:m∉(Value.slice q d.length r).ownBlock.toList:=fun b=>by have:=ac m (uq b);omega
  have cj:Apart F2 (Value.slice q d.length r).ownBlock.toList:=fun x a b=>by have:=ac x (uq b);have:=a1 x a;omega
  have ck:Apart F2 [w.heap.size+1]:=fun x a b=>by have:=a1 x a;simp at b;omega
  by_cases hy:0<y
  . have c4:¬ y<=0:=Z
    gi_wp2_with (first
     | (refine⟨trivial,?_⟩;refine aa.mono ?_;clear aa;rintro e R ⟨rfl,ax,i⟩;(have e1:=(JA a8 i (fun b=>(ab _ b).1 rfl)).cell);(have ai:=JA (ZA a9) i (fun b=>(ab _ b).2 rfl));(have e2:=ai.cell);(have ay:=KA (ZA u) i bz);(have de:=i.size);(have a3:=bp.keep i bq);(have cl:=(a3.cell 0).trans (show _=some (Value.pointer (some p1)) from rfl));(have cm:=(a3.cell 1).trans (show _=some (Value.pointer (some p2)) from rfl)))
     | (gi_at_builtin;refine elemIntsN.wpIn_app rfl _ _ rfl w.heap.size _ d.length (KW d) rfl (XE ay _) ⟨R.heap.size,0,none⟩ 1 1 [.int .i64 y] rfl (XS _ _ _) (by simp[Value.oneCell']) Z Z (by simp;omega) ?_;intro df az aj cn dg;(obtain⟨b0,vc,rfl,_⟩:=XB aj);(have a4:Keep (Value.slice q d.length r).ownBlock.toList R az:=(kq.alloc _).trans cn (fun x a=>.inl a));(have ak:=JA ai a4 (uq ch));(have e3:=ak.cell);(have f3:=ak.frozen);(have e4:=(JA (JA a8 i (fun b=>(ab _ b).1 rfl)) a4 (uq c2)).cell);(have co:=a3.keep a4 ci);(have dh:=(co.cell 1).trans (show _=some (Value.pointer (some p2)) from rfl))))
    have b3:Keep [w.heap.size+1] az (az.setCell ⟨w.heap.size+1,0,none⟩ (.slice b0 (d.length+1) vc)):=kq.setCell (.inl sq) _;have b4:=((bo.keep i br.symm).keep a4 cj).keep b3 ck;gi_wp2_with (refine⟨trivial,?_⟩;refine(bn _ b4).mono ?_;rintro e b5 ⟨rfl,b6,G⟩);have cp:Apart F (Value.slice q d.length r).ownBlock.toList:=fun x a b=>by have:=ac x (uq b);have:=E x a;omega
    have cq:Apart F [w.heap.size+1]:=fun x a b=>by have:=E x a;simp at b;omega
    have im:=((((ZA bx _ _ ax i).keep a4 cp).keep b3 cq).setO b6 G sq (ZA bs));have b7:=JA (ak.set (.slice b0 (d.length+1) vc)) G (fun b=>by have:=a1 _ b;omega);have b8:=KA (own_set aj (fun b=>ak.not_row (by decide) aj (D0 (uq b))) (.slice b0 (d.length+1) vc)) G (fun g S b=>by have:=(own_mem aj (uq S)).1;have:=a1 g b;omega)
    have b9:Keep (F++((Value.slice q d.length r).ownBlock.toList++[w.heap.size+1])) W b5:=
     (((i.sub (fun x a=>At _ ((ZA L).subB x a))).trans a4 (fun x a=>.inl (by simp at a;simp[a]))).trans b3 (fun x a=>.inl (by simp at a;simp[a]))).trans G (fun x a=>.inl (At _ ((ZA L).subO x a)))
    have ba:XAC I.bl I.ol (pre.length+1)=d++[y]:=by rw[ZA bw,AJ hy]
    refine ZA av _ _ _ (ZA bu) (ZA bv) ba _ _ _ _ _ im b7 ?_ b9 ?_
    . rw[AE,Af,show KW (d++[y])=KW d++[.int .i64 y] by simp[KW,i64]];exact b8
    intro x a
    rcases AD.1 a with a | a
    . exact .inl a
    rcases AD.1 a with a | a
    . have h1:=ac x (uq a)
      refine .inr ⟨?_,fun v e=>?_,fun o f=>JT (ZA u) x a o f⟩
      . refine Nat.lt_of_le_of_ne h1 (fun e=>?_)
        subst e;exact c2 (uq a)
      subst e;exact v.not_row (by decide) (ZA u) (D0 (uq a))
    simp at a
    subst a;exact .inr ⟨Z,fun _=>Z,fun o f=>by rw[show W.heap[_]? = _ from ZA a9] at f;cases f;rfl⟩
  have c4:y=0:=Z
  subst c4;gi_wp2_with (refine⟨trivial,?_⟩;refine aa.mono ?_;clear aa;rintro e R ⟨rfl,ax,i⟩;(have e1:=(JA a8 i (fun b=>(ab _ b).1 rfl)).cell);(have ai:=JA (ZA a9) i (fun b=>(ab _ b).2 rfl));(have ay:=KA (ZA u) i bz);(have a3:=bp.keep i bq);(have cl:=(a3.cell 0).trans (show _=some (Value.pointer (some p1)) from rfl));(have cm:=(a3.cell 1).trans (show _=some (Value.pointer (some p2)) from rfl)));have b4:=bo.keep i br.symm;gi_wp2_with (refine⟨trivial,?_⟩;refine(bn _ b4).mono ?_;rintro e b5 ⟨rfl,b6,G⟩);have im:=((ZA bx _ _ ax i).setO b6 G sq (ZA bs));have b7:=JA ai G (fun b=>by have:=a1 _ b;omega);have b8:=KA ay G (fun g S b=>by have:=ac g S;have:=a1 g b;omega);have b9:Keep F W b5:=(i.sub (fun x a=>(ZA L).subB x a)).trans G (fun x a=>.inl ((ZA L).subO x a));have ba:XAC I.bl I.ol (pre.length+1)=d:=by rw[ZA bw,AF Z,Bg]
  exact ZA av _ _ _ (ZA bu) (ZA bv) ba _ _ _ _ _ im b7 b8 b9 (fun x a=>.inl a)
 case done=>
  intro D' xs W di cr j c5;obtain⟨bd,od,c⟩:=j.img;obtain⟨ov,H,t⟩:=j.out;rw[cr] at c t;obtain⟨d,a2⟩:=ex (XAC I.bl I.ol I.ol.length);rw[<- a2] at t;have cs:=ZB a2;clear a2;obtain⟨q,r,rfl,_⟩:=XB t;have dj:=H.cell;have dk:=H.frozen;have ct:=ZB j;have u:=ZB t;have L:=ZB c;clear h0 b1 b2 bc X k1 k2 V M N O s1 s2 ad j t c
  gi_wp2
  have j:=ZA ct;have t:=ZA u;have c:=ZA L;have bf:Keep [w.heap.size+1] W (W.setCell ⟨w.heap.size+1,0,none⟩ (.slice q d.length r)):=kq.sc (w.heap.size+1) 0;have al:(W.setCell ⟨w.heap.size+1,0,none⟩ (.slice q d.length r)).heap[D']? = some (.deferred (some [])):=(bf.block D' (AR.1 c5).1 (by simp;omega)).trans c5;have q6:=(ZC (.deferred none) (H.set (.slice q d.length r)) al rfl).cell;have cu:=(j.keep.trans bf iq).putObj (g:=D') Z (.deferred none);have c6:=ownsRow_putObj (own_set t (fun b=>H.not_row (by decide) t (D0 (uq b))) (.slice q d.length r)) (.deferred none) al rfl;have cv:=(c.keep bf (fun x a b=>by have:=E x a;simp at b;omega)).putObj (.deferred none) al rfl;refine⟨sq,.inl ⟨_,_,rfl,run_takeDeferred al,?_⟩⟩;refine⟨.slice q d.length r,?_,_,_,_,rfl,by rw[ZA cs] at c6 ⊢;exact c6,⟨_,_,_,_,cv⟩,cu⟩;simp[results,results108,go_sem,q6]
end
section
open Go.RowKit Go.Shelf
attribute [local go_sem] AW
theorem cells14 {a b c d e f i j k:Value} (h:Blk w g t #[x0,x1,x2,x3,x4,a,b,c,d,e,f,i,j,k]) :
 cl w g x0/\cl w (aq g 1) x1/\cl w (aq g 2) x2/\cl w (aq g 3) x3/\cl w (aq g 4) x4/\cl w (aq g 5) a/\cl w (aq g 6) b/\cl w (aq g 7) c/\cl w (aq g 8) d/\cl w (aq g 9) e/\cl w (aq g 10) f/\cl w (aq g 11) i/\cl w (aq g 12) j/\cl w (aq g 13) k:=
 ⟨uq (h.cell 0),uq (h.cell 1),uq (h.cell 2),uq (h.cell 3),uq (h.cell 4),uq (h.cell 5),uq (h.cell 6),uq (h.cell 7),uq (h.cell 8),uq (h.cell 9),uq (h.cell 10),uq (h.cell 11),uq (h.cell 12),uq (h.cell 13)⟩
theorem cells5 (h:Blk w g t #[x0,x1,x2,x3,x4]) :
 cl w g x0/\cl w (aq g 1) x1/\cl w (aq g 2) x2/\cl w (aq g 3) x3/\cl w (aq g 4) x4:=
 ⟨uq (h.cell 0),uq (h.cell 1),uq (h.cell 2),uq (h.cell 3),uq (h.cell 4)⟩
def XBl (W:World) (s d g:Nat):Prop:=Blk W s 375 #[pq d,pq g,zz,zz,ii 1,zz,ii 1,.bool false,zz,zz,ii 1,zz,ii 1,zz]
theorem Blk.new1 (w:World) (o:Obj) (t:TypeId) (cs:Array Value):Blk ((w.alloc o).alloc (.cells cs t)) (w.heap.size+1) t cs:=by
 have h:=Blk.new (w.alloc o) t cs
 rwa [AM] at h
end
section
open Go.RowKit Go.Shelf
attribute [local go_sem] AW
theorem QAu (n:Nat) (v:Value) (w:World) (a:v.oneCell'=true) :
 CallsIn Fence.wide n prog 326 #[v] w fun e w'=>e=.returned (.func (.func 381) #[] #[pq w.heap.size])/\w'=w.alloc (.cells #[v] 274):=by
 refine(AQ (n:=n)).2 ?_;go_enter func326,ntmps326
 go_wp2
 go_ret;exact⟨rfl,rfl⟩
end
section
open Go.RowKit Go.Shelf
attribute [local go_sem] AW
def QBh (ol:List Int) (k:Nat):List Int:=(ol.take k).flatMap (fun o=>if 0<YH o (-1) then [YH o (-1)] else [])
structure KFor (w:World) (base m p1 p2:Nat) (F F1 F2:List Nat) (I:PImage) (pre:List PRnd) (W:World):Prop where
 img:∃ od,ImageIs W base m p1 p2 F F1 F2 ⟨I.bl,I.bd,Xs I.ol pre.length,od⟩
 out:∃ ov,Boxed W (w.heap.size+1) 53 ov/\W.ownsRow w.heap.size 3 1 ov (QBh I.ol pre.length).length (KW (QBh I.ol pre.length))
 b1:Boxed W w.heap.size 128 (.pointer (some m))
 keep:Keep F w W
 few:pre.length<=I.ol.length
theorem KFor.kept {I:PImage} (h:KFor w base m p1 p2 F F1 F2 I pre A) (a:kz A B):KFor w base m p1 p2 F F1 F2 I pre B:=by
 obtain⟨od,b⟩:=h.img;obtain⟨c,d,e⟩:=h.out;exact⟨⟨od,b.kO a⟩,⟨c,JA d a sq,QB e a⟩,JA h.b1 a sq,h.keep.tO a,h.few⟩
theorem KFor.turned {k:Nat} {I:PImage} {o a:Obj} (h:KFor w base m p1 p2 F F1 F2 I pre W) (d:w.heap.size<=k) (b:W.heap[k]? = some o) (c:o.isCells=false):KFor w base m p1 p2 F F1 F2 I pre (W.putObj k a):=by
 obtain⟨od,e⟩:=h.img;obtain⟨f,g,i⟩:=h.out;exact⟨⟨od,e.putObj a b c⟩,⟨f,ZC a g b c,ownsRow_putObj i a b c⟩,ZC a h.b1 b c,h.keep.putObj d a,h.few⟩
end
theorem elemBoolE:Elem prog 184 4 (.bool false) 1:=Elem.of underlying184 (by kernel_rfl) rfl
theorem VAL (h:PagedAt w base p F l ds) :
 Calls prog 231 #[pq p] w fun e w'=>e=.returned (.tuple #[])/\PagedAt w' base p F l (List.replicate ds.length false)/\Keep F w w':=by
 obtain⟨L,U,h⟩:=h;obtain⟨g,c,u,b,rfl,rfl,k,D,n⟩:=h.forms;obtain⟨E,G,H⟩:=h.cells;have o:=h.foot
 obtain⟨a,d,I,q,r,s⟩:∃ a:List Value,Blk w u 4 a.toArray/\a.length=b/\ds.length<=b/\b<=9223372036854775807/\base<=u:=by
  rcases h.rd.2 with⟨f,_⟩ | ⟨J,cap,a,f,d,t,v,y,z,K⟩
  . cases f
  cases f
  exact⟨a.toList,t,uq z,v,by simpa [maxLen] using y,d⟩
 obtain⟨w',M,A,i⟩:=elemBoolE.run_clear w 0 (some u) ds.length b u 0 a _ d (fun _=>rfl) Z rfl
 have B:PagedIs w' base p (.slice (some g) l.length c) (.slice (some u) ds.length b) F l (List.replicate ds.length false):=by
  refine⟨h.blk.keep i (uq n),KA h.rl i (fun x j=>by simp[Value.ownBlock] at j;subst j;simpa using k),?_,h.foot,h.base,h.pos,h.few,by rw[BD];exact h.pages⟩;rw[BD];refine Vh A s q r (by simp[splice];omega) ?_;simp[splice,CI]
 have C:Keep F w w':=i.sub (m:=F) (by rw[o];simp[Value.ownBlock]);go_enter func231,ntmps231
 go_wp2
 go_end0
 exact⟨rfl,⟨_,_,B⟩,C⟩
theorem KAM (h:PagedAt w base p F l ds) :
 cq 392 #[pq p] w ds.length:=by
 obtain⟨L,U,h⟩:=h;obtain⟨g,c,u,a,rfl,rfl,_⟩:=h.forms;obtain⟨b,d,e⟩:=h.cells;go_enter func392,ntmps392
 go_wp2
 go_ret;exact⟨rfl,rfl⟩
theorem VBA {I:PImage} (h:ImageAt w base m F I) :
 Calls prog 98 #[pq m] w fun e w'=>e=.returned (.tuple #[])/\ImageAt w' base m F ⟨I.bl,List.replicate I.bd.length false,I.ol,List.replicate I.od.length false⟩/\Keep F w w':=by
 obtain⟨p1,p2,F1,F2,h⟩:=h;have b:=YR w base m p1 p2 F F1 F2 I h false;have j:=h.subB;have k:=h.subO;have c:=VAL h.b;simp only[Ap,CD] at b;go_enter func98,ntmps98
 go_wp2_with (first
  | (go_at_call 230;refine b.mono ?_;clear b;rintro e w' ⟨rfl,rfl⟩)
  | (go_at_call 231;refine c.mono ?_;clear c;rintro e w1 ⟨rfl,l,d⟩;(have a:=h.setB l d rfl h.ok.2.1);(have f:=YR w1 base m p1 p2 F F1 F2 _ a true))
  | (go_at_call 230;refine f.mono ?_;clear f;rintro e w' ⟨rfl,rfl⟩;(have g:=VAL a.o))
  | (go_at_call 231;refine g.mono ?_;clear g;rintro e p ⟨rfl,n,i⟩))
 go_end0
 exact⟨rfl,⟨_,_,_,_,a.setO n i rfl a.ok.2.2⟩,(d.sub j).trans (i.sub k) (fun x o=>.inl o)⟩