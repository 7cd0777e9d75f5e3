/- Lemmas of the proof, with their conditions. -/
import Derived.Test.YtfedaknhecbehaaGreatM20
namespace Go.Proofs.YtfedaknhecbehaaGreat
open Tryz
variable {w W:World} {I:Value} {N0 N7 l:Nat} {pre:List Nat}
set_option linter.all false
set_option maxHeartbeats 4000000
set_option maxRecDepth 100000
section
open Go.RowKit Go.Shelf
attribute [local go_sem] AW
structure PRec where
 mount:Nat
 lsn:Nat
 prev:Nat
 items:List PItem
 blocks:List (List UInt8)
structure PRec.May (R:PRec):Prop where
 mount:1<=R.mount/\R.mount<=2147483647
 lsn:1<=R.lsn/\R.lsn<=2147483647
 prev:R.prev<=4294967295
 some:1<=R.items.length
 few:R.items.length<=6
 items:∀ i∈R.items,i.May
 many:R.blocks.length=ZG R.items
 full:∀ b∈R.blocks,b.length=64
def PRec.sum (R:PRec):Nat:=Vd R.mount R.lsn R.prev R.items R.blocks
def PRec.bytes (R:PRec):List UInt8:=YAn R.mount R.lsn R.prev R.items R.blocks++R.blocks.flatten
theorem VBk (bs:List (List UInt8)) (h:∀ b∈bs,b.length=64):bs.flatten.length=64*bs.length:=by
 induction bs with
 | nil=>rfl
 | cons b bs ih=>rw[Dx,AE,h b sq,ih (fun x a=>h x (by simp[a]))];simp;omega
theorem XBL (bs:List (List UInt8)) (h:∀ b∈bs,b.length=64) (k:Nat) (a:k<bs.length):seg 64 bs.flatten k=bs[k]:=by
 induction bs generalizing k with
 | nil=>simp at a
 | cons b bs ih=>
   have c:=h b sq;unfold seg at ih ⊢
   cases k with
   | zero=>simp[c]
   | succ k=>
     rw[Dx,show (k+1)*64=b.length+k*64 from Z,CH,Dy Z,Am,Nat.add_sub_cancel_left];have:=ih (fun x d=>h x (by simp[d])) k (uq a);simpa using this
theorem PRec.May.few6 {R:PRec} (h:R.May):R.blocks.length<=R.items.length:=by
 rw[h.many];exact YK _
theorem PRec.length_bytes {R:PRec} (h:R.May):R.bytes.length=64*(1+R.blocks.length):=by
 unfold PRec.bytes;rw[AE,QV _ _ _ _ _ h.few,VBk _ h.full];omega
theorem PRec.fields_is {R:PRec} (h:R.May):∃ t,R.bytes=fields (VBC R.mount R.lsn R.prev R.items.length R.blocks.length)++(YQ R.items++t):=by
 refine⟨List.replicate (60-(16+7*R.items.length)) 0++(le 4 (Vd R.mount R.lsn R.prev R.items R.blocks)++R.blocks.flatten),?_⟩;unfold PRec.bytes YAn QY;rw[length_recH];unfold VAn VBC;simp only[BN]
structure RecHold (w:World) (B:Nat) (I Bv:Value) (R:PRec):Prop where
 its:w.ownsRow B 178 4 I R.items.length (R.items.flatMap itc)
 bls:∃ ls:List (Value×List UInt8),ls.map (·.2)=R.blocks/\w.ownsRow B 66 1 Bv ls.length (ls.map (·.1))/\∀ q∈ls,w.ownsRow B 5 1 q.1 64 (bys q.2)
theorem RecHold.kO {w':World} {B:Nat} {b:Value} {R:PRec} (h:RecHold w B I b R) (a:kz w w'):RecHold w' B I b R:=by
 obtain⟨c,ls,d,e,f⟩:=h;exact⟨QB c a,ls,d,QB e a,fun q g=>QB (f q g) a⟩
structure KDec (w:World) (N0 N7:Nat) (R:PRec) (I:Value) (pre:List Nat) (W:World):Prop where
 size:N7<=W.heap.size
 row:∃ (Bv:Value) (ls:List (Value×List UInt8)),Blk W N0 280 #[ii R.mount,ii R.lsn,ii R.prev,I,Bv]/\ls.map (·.2)=R.blocks.take pre.length/\ls.length=pre.length/\W.ownsRow N7 66 1 Bv ls.length (ls.map (·.1))/\∀ q∈ls,W.ownsRow w.heap.size 5 1 q.1 64 (bys q.2)
 its:W.ownsRow w.heap.size 178 4 I R.items.length (R.items.flatMap itc)
 keep:kz w W
theorem KDec.kept {A B:World} {R:PRec} (h:KDec w N0 N7 R I pre A) (a:kz A B):KDec w N0 N7 R I pre B:=by
 obtain⟨b,⟨c,ls,d,e,f,g,i⟩,j,k⟩:=h;exact⟨AB b a.size,⟨c,ls,d.kO a,e,f,QB g a,fun q l=>QB (i q l) a⟩,QB j a,k.tO a⟩
theorem ZAo (W:World) (k:Nat) (o:Obj):Keep [k] W (W.putObj k o):=
 ⟨(Keep.refl [] W).os,(Keep.refl [] W).tape,(Keep.refl [] W).output,by rw[World.putObj_size];exact AG _,fun i hi a=>World.putObj_heap_other (by simp at a;omega)⟩
theorem XM {base n q:Nat} {e:TypeId} {v:Value} {xs:List Value} {o:Obj} (c:Obj) (h:W.ownsRow base e q v n xs) (i:W.heap[l]? = some o) (j:o.isCells=false):(W.putObj l c).ownsRow base e q v n xs:=
 KA h (ZAo W l c) (fun g a d=>by
  simp at d;subst d;rcases h.2 with⟨b,_⟩ | ⟨k,cap,p,b,_,m,_⟩
  . rw[b] at a;simp[Value.ownBlock] at a
  rw[b] at a
  simp[Value.ownBlock] at a;subst a;have f:W.heap[k]? = _:=m;rw[i] at f;cases f;cases j)
theorem KDec.turned {R:PRec} {o a:Obj} (h:KDec w N0 N7 R I pre W) (d:w.heap.size<=l) (b:W.heap[l]? = some o) (c:o.isCells=false):KDec w N0 N7 R I pre (W.putObj l a):=by
 obtain⟨e,⟨f,ls,g,i,j,k,m⟩,n,p⟩:=h;exact⟨by rw[World.putObj_size];exact e,⟨f,ls,XH a g b c,i,j,XM a k b c,fun q r=>XM a (m q r) b c⟩,XM a n b c,p.putObj d a⟩
theorem KBa (g o c:Nat) {R:PRec} (i:R.May) (hg:g<w.heap.size) (ha:Rd w (some (aq g o)) (64*(1+R.blocks.length)) (bys R.bytes)) (hc:64*(1+R.blocks.length)<=c) :
 Calls prog 428 #[.slice (some (aq g o)) (64*(1+R.blocks.length)) c] w fun e w'=>∃ I b2,e=.returned (.tuple #[.agg #[ii R.mount,ii R.lsn,ii R.prev,I,b2],R.sum,zz])/\RecHold w' w.heap.size I b2 R/\kz w w':=by
 have dt:=i.few6;have h6:=i.few;obtain⟨t,a5⟩:=PRec.fields_is i;have bd:=PRec.length_bytes i;obtain⟨m,f⟩:=ex R.blocks.length;obtain⟨n,hn⟩:=ex (64*(1+m));obtain⟨bs,bf⟩:=ex R.bytes;rw[<- f,<- hn] at ha hc bd ⊢;rw[<- bf] at ha a5 bd;have c9:=fun W (hk:kz w W)=>AQ (n:=2).2 (QZ c bs (ha.keep hk) Z);have ca:=fun W B r v (h:RowAt W B r v bs 0)=>AQ (n:=2).2 (XAc (w:=W) (base:=B) (r:=r) (v:=v) (bs:=bs) (YQ R.items++t) R.mount R.lsn R.prev R.items.length m h (by rw[a5,f]) i.some h6 Z);have cb:16+7*R.items.length<=bs.length:=by rw[a5];simp[VBC,widths]
 have cc:(bs.drop 16).take (7*R.items.length)=YQ R.items:=by
  rw[a5,List.drop_left' (by simp[VBC,widths]),Dq sq]
 have bg:=fun W B r v (h:RowAt W B r v bs 16)=>AQ (n:=2).2 (XR (w:=W) (base:=B) (r:=r) (a:=16) (7*R.items.length) (v:=v) (bs:=bs) h cb);rw[cc] at bg;have ad:=fun W A k c (h:Rd W A k (bys (YQ R.items)))=>AQ (n:=2).2 (QBQ (A:=A) (n:=k) c R.items (w:=W) h i.items i.some h6);have cd:=fun W B r v (h:RowAt W B r v bs 0)=>AQ (n:=2).2 (XR (w:=W) (base:=B) (r:=r) (a:=0) 2 (v:=v) (bs:=bs) h Z);have du:bs=fields ([(1,75),(1,82)]++(4,R.mount) :: [(4,R.lsn),(4,R.prev),(1,R.items.length),(1,R.blocks.length)])++(YQ R.items++t):=a5;have ce:=fun W B r v (h:RowAt W B r v bs (0+2))=>AQ (n:=2).2 (YAR (k:=4) (n:=R.mount) (t:=YQ R.items++t) [(1,75),(1,82)] [(4,R.lsn),(4,R.prev),(1,R.items.length),(1,R.blocks.length)] h (by rw[a5];rfl) (by simp[widths]) Z (by have:=i.mount;omega));have cf:=fun W B r v (h:RowAt W B r v bs (0+2+4))=>AQ (n:=2).2 (YAR (k:=4) (n:=R.lsn) (t:=YQ R.items++t) [(1,75),(1,82),(4,R.mount)] [(4,R.prev),(1,R.items.length),(1,R.blocks.length)] h (by rw[a5];rfl) (by simp[widths]) Z (by have:=i.lsn;omega));have cg:=fun W B r v (h:RowAt W B r v bs (0+2+4+4))=>AQ (n:=2).2 (YAR (k:=4) (n:=R.prev) (t:=YQ R.items++t) [(1,75),(1,82),(4,R.mount),(4,R.lsn)] [(1,R.items.length),(1,R.blocks.length)] h (by rw[a5];rfl) (by simp[widths]) Z (by have:=i.prev;omega));have ch:=ZB c9;have dv:=ZB ca;have dw:=ZB bg;have dx:=ZB ad;have dy:=ZB cd;have dz:=ZB ce;have e0:=ZB cf;have e1:=ZB cg;have ci:=ZB bf;have cj:=ZB f;have ck:=ZB hn;have bh:=ZB ha;have cm:=ZB i;have ep:n<=448:=Z
 have eq:64*(1+((m:Nat):Int))=(n:Nat):=Z
 have e2:m<=6:=Z
 obtain⟨q,H⟩:=ex R.items.length;obtain⟨z,D⟩:=ex (7*q);have ae:IntKind.i64.wrap (7*((q:Nat):Int))=(z:Nat):=by rw[AI];omega
 have h7:7*((q:Nat):Int)=(z:Nat):=Z
 have e3:=ZB D;have af:=ZB H;have er:q<=6:=Z
 clear D c9 ca bg ad cd ce cf cg bf f hn ha a5 du cb cc bd dt h6 H i;refine(AQ (n:=3)).1 ?_;refine callsIn_of_wp_marks func428 rfl trivial ?_ rfl;simp only[ntmps428,PL,Nat.reduceAdd,Nat.reduceSub];have cn:=Blk.new w 280 #[zz,zz,zz,zn,zn];have k0:kz w (w.alloc (.cells #[zz,zz,zz,zn,zn] 280)):=kq.alloc _;gi_wp2_with (refine⟨trivial,?_⟩;refine(ZA ch _ k0).mono ?_;rintro e w1 ⟨r,v,rfl,b3,b4⟩);have y:=ZA dv _ _ _ _ b3;rw[<- ZA af] at y;gi_wp2_with (refine⟨trivial,?_⟩;refine y.mono ?_;clear y;rintro e w2 ⟨rfl,bi,N⟩);have y:=ZA dw _ _ _ _ bi;rw[<- ZA af,<- ZA e3] at y;gi_wp2_with (refine⟨trivial,?_⟩;refine y.mono ?_;clear y;rintro e w3 ⟨u,rfl,Q,e4,b5⟩);obtain⟨a7,uc,rfl,_⟩:=XB Q;have y:=ZA dx w3 a7 z uc (Rd.of_own Q);rw[<- ZA af] at y;have es:w.heap.size<=r:=AB k0.size b3.base;have co:kz w w3:=(((k0.tO b4).trans N iq).trans b5 iq);have cp:=Zj bi b5 (Zj b3 N (cn.kO b4) (by decide)) (by decide)
 gi_wp2_with (
  refine⟨trivial,?_⟩;refine y.mono ?_;clear y;rintro e w4 ⟨G,T,rfl,bj,bk⟩;have ag:=cp.kO bk;obtain⟨V,X,Y,x3,O⟩:=VD ag;have f3:=ag.frozen 3;have e5:=ag.lt)
 have bl:=ag.set 3 (.slice (some G) q T);simp only[PU] at bl;have bm:kz w (w4.setCell (aq w.heap.size 3) (.slice (some G) q T)):=(co.tO bk).setCell (p:=⟨w.heap.size,3,none⟩) (.inr (AG _)) _;have bn:=own_set bj (b:=w.heap.size) (o:=3) (fun f=>own_blk_ne bj ag (by decide) (uq f)) (.slice (some G) q T);clear V X Y x3 O f3 e5 cp cn ag bj b3 bi e4 Q;generalize w4.setCell (aq w.heap.size 3) (.slice (some G) q T)=v4 at *;gi_wp2_with (refine⟨trivial,?_⟩;refine(ZA ch _ bm).mono ?_;rintro e w5 ⟨U,v2,rfl,al,b6⟩);have y:=ZA dy _ _ _ _ al;have et:w.heap.size<=U:=AB bm.size al.base;have eu:v4.heap.size<=U:=al.base;gi_wp2_with (refine⟨trivial,?_⟩;refine y.mono ?_;clear y;rintro e L ⟨u6,rfl,-,bo,a6⟩);have ah:=Zj al a6 (bl.kO b6) (by decide);have cq:kz w L:=(bm.tO b6).trans a6 iq;have cr:Keep [U] v4 L:=(b6.zero).trans a6 (fun x d=>.inl d);clear al bl b6 a6;have y:=ZA dz _ _ _ _ bo
 gi_wp2_with (
  refine⟨trivial,?_⟩;refine y.mono ?_;clear y;rintro e E ⟨rfl,a8,M⟩;have F:=Zj bo M ah (by decide);obtain⟨V,X,Y,x3,O⟩:=VD F;have fq:=F.frozen 0;have am:=F.lt)
 have D:=Qx 0 (.int .i64 (R.mount:Nat)) a8 F (by decide) (by decide);have bp:=D.1;have ai:=D.2.1;have a9:=(cq.trans M iq).trans D.2.2 iq;have cs:Keep [U,w.heap.size] v4 (E.setCell w.heap.size (.int .i64 (R.mount:Nat))):=((cr.sub sq).trans (M.sub (m:=[U,w.heap.size]) sq) (fun x d=>.inl d)).trans (D.2.2.sub (m:=[U,w.heap.size]) sq) (fun x d=>.inl d);simp only[PU] at ai;clear V X Y x3 O fq am D F a8 M bo ah cq cr;generalize E.setCell w.heap.size (.int .i64 (R.mount:Nat))=v7 at *;have y:=ZA e0 _ _ _ _ bp
 gi_wp2_with (
  refine⟨trivial,?_⟩;refine y.mono ?_;clear y;rintro e w8 ⟨rfl,a8,M⟩;have F:=Zj bp M ai (by decide);obtain⟨V,X,Y,x3,O⟩:=VD F;have fq:=F.frozen 1;have am:=F.lt)
 have D:=Qx 1 (.int .i64 (R.lsn:Nat)) a8 F (by decide) (by decide);have bq:=D.1;have br:=D.2.1;have ct:=(a9.trans M iq).trans D.2.2 iq;have cu:Keep [U,w.heap.size] v4 (w8.setCell (aq w.heap.size 1) (.int .i64 (R.lsn:Nat))):=((cs.sub sq).trans (M.sub (m:=[U,w.heap.size]) sq) (fun x d=>.inl d)).trans (D.2.2.sub (m:=[U,w.heap.size]) sq) (fun x d=>.inl d);simp only[PU] at br;clear V X Y x3 O fq am D F a8 M bp ai a9 cs;generalize w8.setCell (aq w.heap.size 1) (.int .i64 (R.lsn:Nat))=v8 at *
 obtain⟨v,o2,c2,cv,cw,cx,e6⟩:∃ v o2 c2,v=Value.slice (some (aq g o2)) (64*m) c2/\64*m<=c2/\(0<m->o2=o+64)/\(c=64/\Value.slice (some (aq g o)) (n-64) 0=v\/¬ c=64/\Value.slice (some (aq g (o+64))) (n-64) (c-64)=v):=by
  have ev:=ZA ck;have cy:n-64=64*m:=Z
  by_cases b7:c=64
  . exact⟨_,o,0,rfl,Z,fun h=>Z,.inl ⟨b7,by rw[cy]⟩⟩
  exact⟨_,o+64,c-64,rfl,Z,fun _=>rfl,.inr ⟨b7,by rw[cy]⟩⟩
 have e7:=ZB cx;have e8:=ZB cw;have bt:=ZB cv;clear cx cw cv;rcases e6 with⟨b7,bu⟩ | ⟨b7,bu⟩
 all_goals
  have e9:=ZB bu;clear bu;have y:=ZA e1 _ _ _ _ bq
  gi_wp2_with (
   refine⟨trivial,?_⟩;refine y.mono ?_;clear y;rintro e w9 ⟨rfl,a8,M⟩;have F:=Zj bq M br (by decide);obtain⟨V,X,Y,x3,O⟩:=VD F;have fq:=F.frozen 2;have am:=F.lt)
  have D:=Qx 2 (.int .i64 (R.prev:Nat)) a8 F (by decide) (by decide);have ew:=D.1;have an:=D.2.1;have cz:=(ct.trans M iq).trans D.2.2 iq;have d0:Keep [U,w.heap.size] v4 (w9.setCell (aq w.heap.size 2) (.int .i64 (R.prev:Nat))):=((cu.sub sq).trans (M.sub (m:=[U,w.heap.size]) sq) (fun x d=>.inl d)).trans (D.2.2.sub (m:=[U,w.heap.size]) sq) (fun x d=>.inl d);simp only[PU] at an;clear V X Y x3 O fq am D F a8 M bq br ct cu;generalize w9.setCell (aq w.heap.size 2) (.int .i64 (R.prev:Nat))=v9 at *;have ey:w3.heap.size<=G/\G<v4.heap.size:=own_mem bn (g:=G) (by simp[Value.ownBlock]);have ez:w.heap.size<w3.heap.size:=by have:=an.lt;have h2:=b4.size;have h3:=N.size;have h4:=b5.size;simp only[AM] at h2;omega
  have d1:=VC (KA bn d0 (fun x d f=>by
   simp[Value.ownBlock] at d f;omega)) co.size
  clear bn d0 b4 N b5 bk;rw[ZA e9];gi_wp2_with (refine⟨trivial,?_⟩;refine(YAH 2 _ _ (by rw[ZA bt];rfl)).mono ?_;rintro e w' ⟨rfl,rfl⟩);obtain⟨L,ao⟩:=ex (v9.alloc (.cells #[v] 66));obtain⟨E,ae⟩:=ex (L.alloc (.cells #[ii 64] 3));rw[<- ao,<- ae];have s6:L.heap.size=v9.heap.size+1:=by rw[ao,AM]
  have k6:kz v9 L:=by rw[ao];exact kq.alloc _
  have k7:kz L E:=by rw[ae];exact kq.alloc _
  have b8:kz v9 E:=k6.tO k7;have a9:kz w E:=cz.tO b8;have d2:Boxed E v9.heap.size 66 v:=JA (by rw[ao];exact Boxed.new v9 _ _) k7 sq;have d3:Boxed E (v9.heap.size+1) 3 (.int .i64 64):=by rw[ae,show v9.heap.size+1=L.heap.size from Z];exact Boxed.new L _ _
  have ea:E.heap[g]? = w.heap[g]? := a9.block g hg sq;have eb:g<E.heap.size:=BP hg a9.size;have b9:=Yo 2 (b1:=v9.heap.size) g o2 m c2 (w:=E) Z (ZA e8) (by rw[<- ZA bt];exact d2) d3 eb;rw[<- ZA bt] at b9;have d4:E.ownsRow w.heap.size 178 4 (.slice (some G) q T) R.items.length (R.items.flatMap itc):=by rw[<- ZA af];exact QB d1 b8
  have d5:=an.kO b8;have h0:KDec w w.heap.size E.heap.size R (.slice (some G) q T) [] E:=⟨AG _,⟨.slice none 0 0,[],d5,rfl,rfl,AZ _ _ _ _,sq⟩,d4,a9⟩;have f0:=a9.size;have d6:=ZB (show v9.heap.size+2<=E.heap.size by rw[ae,AM];omega);have f1:w.heap.size<v9.heap.size:=an.lt;clear s6 k6 k7 b8 d2 d3 ao ae an cz d4 d1
  refine ZZ (n:=3) (gf:=390) (lb:=#[pq v9.heap.size,pq (v9.heap.size+1)]) 11 (fun x=>.slice (some (aq g (o2+64*x))) 64 64) rfl (enters_of func390 (by kernel_rfl) rfl)
   b9
   (fun A B C h k=>⟨k.1.trans h.1,fun J=>k.2.1 (h.2.1 J),fun J=>k.2.2 (h.2.2 J)⟩)
   (fun W l o ab hl ap ho=>⟨World.putObj_heap_other Z,fun J=>ZC ab J ap ho,fun J=>ZC ab J ap ho⟩)
   (KDec w w.heap.size E.heap.size R (.slice (some G) q T)) (fun s A B h hk=>h.kept hk) (fun s W l o ab h hl ap ho=>h.turned Z ap ho)
   (fun pre x W l o ab h hl ap ho=>⟨h.1,h.2.1,(World.putObj_heap_other Z).trans h.2.2⟩) h0 ?assign ?body ?done
  case assign=>
   rintro l x W K P;simp only[PU,BB] at P
   gi_wp2
   exact P
  case body=>
   rintro l pre x W ad ⟨d,d7,d8⟩;obtain⟨bv,⟨b2,ls,aa,a3,aj,a0,ac⟩,ar,au⟩:=ad;obtain⟨V,X,Y,x3,O⟩:=VD aa;obtain⟨a1,bc,rfl,_⟩:=XB a0;have d9:W.heap[g]? = w.heap[g]? := d8.trans ea;have i:=ZA cm;have av:=ZA cj;have da:x<R.blocks.length:=Z
   have aw:R.blocks[x].length=64:=i.full _ (AN _)
   have db:Rd W (some (aq g (o2+64*x))) 64 (bys R.blocks[x]):=by
    refine⟨by simp[aw],fun _=>⟨g,o2+64*x,rfl,by have:=au.size;omega,fun j u Q=>?_⟩⟩;have hj:j<64:=by have:=(BS.1 Q).1;simpa [aw] using this
    obtain⟨f2,ab,he,-,ec⟩:=(ZA bh).2 (by have:=ZA ck;omega);cases he;rw[ZA e7 Z]
    have h1:=ec (64*(1+x)+j) u (by
     rw[ZA ci];unfold PRec.bytes;rw[Zq,Bm (by simp[QV _ _ _ _ _ i.few];omega)];rw[show 64*(1+x)+j-(bys (YAn R.mount R.lsn R.prev R.items R.blocks)).length=64*x+j by simp[QV _ _ _ _ _ i.few];omega];rw[<- Q,<- XBL _ i.full x da,<- QAF,seg_get _ _ _ _ hj,CM])
    rw[show o+64+64*x+j=o+(64*(1+x)+j) from Z];exact(B9 (w:=w) d9).trans h1
   have y:=KV 64 R.blocks[x] (db.drew) Z
   have bw:R.blocks.take (pre.length+1)=R.blocks.take pre.length++[R.blocks[x]]:=by
    rw[List.take_add_one,AC Z];subst d;rfl
   obtain⟨xs,dc⟩:=ex (R.blocks[x]);rw[<- dc] at y bw aw;have ed:=ZB bw;have f5:=ZB aw;have f6:=ZB d;have f7:=ZB d7;have bx:=ZB a3;have ee:=ZB aj;have bz:=ZB ac;have f8:ls.length<=6:=Z
   clear d d7 d8 d9 b9 h0 bw aw db a3 aj ac dc da i av d5;simp only[PU]
   gi_wp2
   refine ZI (S:=(fun W'=>cl W' (aq w.heap.size 4) (.slice a1 ls.length bc))) 5 [[0,1,2],[3],[4]] O ?_;simp only[PI];iterate 3 refine wG ?_
   refine JB rq fun K P=>?_;go_wp2_with (refine y.mono ?_;clear y;rintro e w2 ⟨u,rfl,Q,N,_⟩);have dd:kz W w2:=kq.drew.tO N;obtain⟨a7,uc,rfl,_⟩:=XB Q;refine P _ _ ((VD (aa.kO dd)).2.2.2.2) ?_
   try simp only[Act.put,PU]
   refine JB rq fun K P=>?_;go_wp2_with fail;have ef:=XS w2 (Value.slice a7 64 uc) 66;have a2:kz W (w2.alloc (.cells #[Value.slice a7 64 uc] 66)):=dd.alloc _;have eg:=XE Q (.cells #[Value.slice a7 64 uc] 66);refine P _ _ ((VD (aa.kO a2)).2.2.2.2) ?_
   try simp only[Act.put,PU]
   refine VB ?_
   go_wp2_with (first
    | (at_builtin
       refine elemRows.wp_app rfl (.tmp 75) (.tmp 78) rq E.heap.size (.slice a1 ls.length bc) ls.length (ls.map (·.1)) rq (QB a0 a2) (some w2.heap.size) 1 1 [Value.slice a7 64 uc] rq ef (by simp[Value.oneCell']) Z Z (AB bv a2.size) ?_;intro f9 L ah a6 fa _;have de:=aa.kO a2;have ak:=de.keep a6 (fun f=>own_blk_ne (QB a0 a2) de (by decide) (uq f));obtain⟨y0,y1,y2,y3,y4⟩:=VD ak;have f4:=ak.frozen 4;obtain⟨ba,vc,rfl,_⟩:=XB ah))
   have c4:Keep [w.heap.size] L (L.setCell (aq w.heap.size 4) (.slice ba (ls.length+1) vc)):=kq.sc w.heap.size 4;have df:∀ x∈(Value.slice a1 ls.length bc).ownBlock.toList,E.heap.size<=x:=fun x d=>(own_mem a0 d).1;have P:Keep (w.heap.size :: (Value.slice a1 ls.length bc).ownBlock.toList) W (L.setCell (aq w.heap.size 4) (.slice ba (ls.length+1) vc)):=(a2.zero.trans (a6.sub (fun x d=>Ak _ d)) (fun x d=>.inl d)).trans (c4.sub sq) (fun x d=>.inl d)
   have c5:∀ b,b<E.heap.size->b≠w.heap.size->b∉w.heap.size :: (Value.slice a1 ls.length bc).ownBlock.toList:=fun b h1 h2 f=>by
    rcases AL.1 f with h | h
    . exact h2 h
    have:=df _ h;omega
   have dg:∀ {b:Nat} {q:Value} {n:Nat} {ys:List Value},(w2.alloc (.cells #[Value.slice a7 64 uc] 66)).ownsRow b 5 1 q n ys->(L.setCell (aq w.heap.size 4) (.slice ba (ls.length+1) vc)).ownsRow b 5 1 q n ys:=fun H=>
    have h1:=KA H a6 (fun x d f=>own_ne H (QB a0 a2) (by decide) d (uq f))
    KA h1 c4 (fun x d f=>by simp at f;subst f;exact own_blk_ne h1 ak (by decide) d)
   have fb:v9.heap.size+2<=E.heap.size:=by have:=ZA d6;omega
   have ai:=ak.set 4 (.slice ba (ls.length+1) vc);simp only[PU] at ai;have dh:=KA (QB ar a2) a6 (fun x d f=>own_ne (QB ar a2) (QB a0 a2) (by decide) d (uq f))
   refine⟨P.fromCells ?_ _,⟨P.block g Z (c5 _ Z Z),fun J=>JA J P (c5 _ Z Z),fun J=>JA J P (c5 _ Z Z)⟩,
    ⟨AB bv P.size,⟨_,ls++[(.slice a7 64 uc,xs)],ai,?_,by simp[ZA ee],?_,fun q H=>?_⟩,KA dh c4 (fun x d f=>by simp at f;subst f;exact own_blk_ne dh ak (by decide) d),au.trans P (fun x d=>.inr ?_)⟩⟩
   . intro b J ab c6
     rcases AL.1 J with rfl | J
     . rw[show W.heap[_]? = _ from aa] at c6;cases c6;rfl
     exact JT a0 b J ab c6
   . rw[AE,Af,ZA ed,Bf,ZA bx];rfl
   . rw[AE,Bf]
     exact own_set ah (by intro f;exact own_blk_ne ah ak (by decide) (uq f)) _
   . rcases AD.1 H with H | H
     . exact dg (QB (ZA bz q H) a2)
     simp at H;subst H
     exact dg (VC eg au.size)
   rcases AL.1 d with h | h
   . omega
   have:=df _ h;omega
  case done=>
   intro D' xs W fc eh ad c7;subst eh;obtain⟨bv,⟨b2,ls,aa,a3,aj,a0,ac⟩,ar,au⟩:=ad;rw[List.length_range] at a3 aj;have i:=ZA cm;have av:=ZA cj;rw[av,List.take_length] at a3;have ei:=c7;obtain⟨V,X,Y,x3,O⟩:=VD aa;obtain⟨a1,bc,rfl,_⟩:=XB a0;have bb:ls.length=m:=aj
   have di:Rws W a1 ls.length ls:=⟨Rd.of_own a0,fun q H=>by
    obtain⟨A,ej,he,h1,-,-,-⟩:=XB (ac q H);have h2:=ac q H;rw[he] at h2;exact⟨A,64,ej,he,h1,Z,Rd.of_own h2⟩⟩
   have dj:Rd W (some G) (R.items.length*4) (R.items.flatMap itc):=by
    have h1:=ar;rw[ZA af] at h1;exact Rd.of_ownN h1
   have dk:∀ p∈ls,p.2.length=64:=fun p hp=>i.full _ (by rw[<- a3];exact List.mem_map_of_mem hp);have ax:=AQ (n:=2).2 (KAw R.mount R.lsn R.prev i.mount i.lsn i.prev G R.items.length T R.items bc dj rfl i.items i.some i.few di dk (by rw[bb,av,i.many]));rw[a3,List.flatMap_def,a3,<- ZA af] at ax;have dl:YAn R.mount R.lsn R.prev R.items R.blocks++R.blocks.flatten=bs:=(ZA ci).symm;rw[dl,bb] at ax;rw[bb] at O;have ek:bs.length=n:=uq ((ZA bh).1)
   obtain⟨sm,c8⟩:=ex (Vd R.mount R.lsn R.prev R.items R.blocks);rw[<- c8] at ax;have el:=ZB c8;have bx:=ZB a3;have bz:=ZB ac;have em:=ZB c7;have fd:=e2;clear c7 ac a3 i av ei di dj dk dl aj bb c8 h0 b9 ek;gi_wp2_with (refine⟨trivial,?_⟩;refine ax.mono ?_;clear ax;rintro e ay ⟨u,rfl,Q,N⟩;obtain⟨fe,en,rfl,_⟩:=XB Q);have a4:=aa.kO N;have dm:kz w ay:=au.tO N;have dn:=fun eo=>AQ (n:=2).2 (QN en eo bs bs (Rd.of_own Q) ((ZA bh).keep dm));have dp:ay.heap[D']? = some (.deferred (some [])):=N.heap_same (ZA em);clear V X Y x3 O;obtain⟨V,X,Y,x3,O⟩:=VD a4;have ff:=a4.frozen 0;have fg:=a4.frozen 1;have fh:=a4.frozen 2;have f3:=a4.frozen 3;have f4:=a4.frozen 4;gi_wp2_with (refine⟨trivial,?_⟩;refine(dn _).mono ?_;clear dn;rintro e fi ⟨rfl,rfl⟩;simp only[decide_true]);have D:=((((a4.set 0 (.int .i64 (R.mount:Nat))).set 1 (.int .i64 (R.lsn:Nat))).set 2 (.int .i64 (R.prev:Nat))).set 3 (.slice (some G) q T)).set 4 (.slice a1 ls.length bc)
   have az:Keep [w.heap.size] ay (((((ay.setCell w.heap.size (.int .i64 (R.mount:Nat))).setCell (aq w.heap.size 1) (.int .i64 (R.lsn:Nat))).setCell (aq w.heap.size 2) (.int .i64 (R.prev:Nat))).setCell (aq w.heap.size 3) (.slice (some G) q T)).setCell (aq w.heap.size 4) (.slice a1 ls.length bc)):=
    ((((kq.sc w.heap.size 0).sc w.heap.size 1).sc w.heap.size 2).sc w.heap.size 3).sc w.heap.size 4
   simp only[PU] at D;generalize (((((ay.setCell w.heap.size (.int .i64 (R.mount:Nat))).setCell (aq w.heap.size 1) (.int .i64 (R.lsn:Nat))).setCell (aq w.heap.size 2) (.int .i64 (R.prev:Nat))).setCell (aq w.heap.size 3) (.slice (some G) q T)).setCell (aq w.heap.size 4) (.slice a1 ls.length bc))=Wz at *;have b0:Wz.heap[D']? = some (.deferred (some [])):=(az.block D' (AR.1 dp).1 (by have:=ZA d6;simp;omega)).trans dp;refine⟨sq,.inl ⟨_,_,rfl,run_takeDeferred b0,?_⟩⟩;obtain⟨y0,y1,y2,y3,y4⟩:=VD (XH (.deferred none) D b0 rfl);have dq:=QB ar N;have dr:=QB a0 N;refine⟨.tuple #[.agg #[R.mount,R.lsn,R.prev,.slice (some G) q T,.slice a1 ls.length bc],(sm:Nat),zz],by simp[results,results428,go_sem,y0,y1,y2,y3,y4],_,_,by rw[ZA el];rfl,⟨XM _ (KA dq az (fun x d f=>by simp at f;subst f;exact own_blk_ne dq a4 (by decide) d)) b0 rfl,ls,ZA bx,VC (XM _ (KA dr az (fun x d f=>by simp at f;subst f;exact own_blk_ne dr a4 (by decide) d)) b0 rfl) (AB a9.size (AG _)),fun p hp=>?_⟩,(dm.trans az iq).putObj Z _⟩;have ds:=QB (ZA bz p hp) N;exact XM _ (KA ds az (fun x d f=>by simp at f;subst f;exact own_blk_ne ds a4 (by decide) d)) b0 rfl