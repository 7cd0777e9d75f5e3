/- Lemmas of the proof, with their conditions. -/
import Derived.Test.YtfedaknhecbehaaGreatL21
namespace Go.Proofs.YtfedaknhecbehaaGreat
open Tryz Go.RowKit Go.Shelf
variable {w W:World} {B N0 N7 base l t g:Nat} {I L V:Value} {pre F lv:List Nat} {us:List (Nat×Nat)} {spare:Bool}
set_option linter.all false
set_option maxHeartbeats 4000000
set_option maxRecDepth 100000
section
open Go.RowKit Go.Shelf
attribute [local go_sem] AZ
structure PRec where
 mount:Nat
 lsn:Nat
 prev:Nat
 items:List PItem
 blocks:List (List UInt8)
structure PRec.May (R:PRec):Prop where
 mount:1<=R.mount/\R.mount<=2147483647
 lsn:1<=R.lsn/\R.lsn<=2147483647
 prev:R.prev<=4294967295
 some:1<=R.items.length
 few:R.items.length<=6
 items:∀ i∈R.items,i.May
 many:R.blocks.length=ZG R.items
 full:∀ b∈R.blocks,b.length=64
def PRec.sum (R:PRec):Nat:=Zg R.mount R.lsn R.prev R.items R.blocks
def PRec.bytes (R:PRec):List UInt8:=JAt R.mount R.lsn R.prev R.items R.blocks++R.blocks.flatten
theorem XBo (bs:List (List UInt8)) (h:∀ b∈bs,b.length=64):bs.flatten.length=64*bs.length:=by
 induction bs with
 | nil=>rfl
 | cons b bs ih=>rw[Dt,AE,h b sq,ih (fun x a=>h x (by simp[a]))];simp;omega
theorem YBR (bs:List (List UInt8)) (h:∀ b∈bs,b.length=64) (k:Nat) (a:k<bs.length):seg 64 bs.flatten k=bs[k]:=by
 induction bs generalizing k with
 | nil=>simp at a
 | cons b bs ih=>
   have c:=h b sq;unfold seg at ih ⊢
   cases k with
   | zero=>simp[c]
   | succ k=>
     rw[Dt,show (k+1)*64=b.length+k*64 from Z,CJ,Du Z,Ad,Nat.add_sub_cancel_left];have:=ih (fun x d=>h x (by simp[d])) k (uq a);simpa using this
theorem PRec.May.few6 {R:PRec} (h:R.May):R.blocks.length<=R.items.length:=by
 rw[h.many];exact ZL _
theorem PRec.length_bytes {R:PRec} (h:R.May):R.bytes.length=64*(1+R.blocks.length):=by
 unfold PRec.bytes;rw[AE,JV _ _ _ _ _ h.few,XBo _ h.full];omega
theorem PRec.fields_is {R:PRec} (h:R.May):∃ t,R.bytes=fields (VAy R.mount R.lsn R.prev R.items.length R.blocks.length)++(QR R.items++t):=by
 refine⟨List.replicate (60-(16+7*R.items.length)) 0++(le 4 (Zg R.mount R.lsn R.prev R.items R.blocks)++R.blocks.flatten),?_⟩;unfold PRec.bytes JAt XY;rw[length_recH];unfold ZAt VAy;simp only[BG]
structure RecHold (w:World) (B:Nat) (I Bv:Value) (R:PRec):Prop where
 its:w.ownsRow B 178 4 I R.items.length (R.items.flatMap itc)
 bls:∃ ls:List (Value×List UInt8),ls.map (·.2)=R.blocks/\w.ownsRow B 66 1 Bv ls.length (ls.map (·.1))/\∀ q∈ls,w.ownsRow B 5 1 q.1 64 (bys q.2)
theorem RecHold.kO {w':World} {b:Value} {R:PRec} (h:RecHold w B I b R) (a:kz w w'):RecHold w' B I b R:=by
 obtain⟨c,ls,d,e,f⟩:=h;exact⟨QB c a,ls,d,QB e a,fun q g=>QB (f q g) a⟩
structure KDec (w:World) (N0 N7:Nat) (R:PRec) (I:Value) (pre:List Nat) (W:World):Prop where
 size:N7<=W.heap.size
 row:∃ (Bv:Value) (ls:List (Value×List UInt8)),Blk W N0 280 #[ii R.mount,ii R.lsn,ii R.prev,I,Bv]/\ls.map (·.2)=R.blocks.take pre.length/\ls.length=pre.length/\W.ownsRow N7 66 1 Bv ls.length (ls.map (·.1))/\∀ q∈ls,W.ownsRow w.heap.size 5 1 q.1 64 (bys q.2)
 its:W.ownsRow w.heap.size 178 4 I R.items.length (R.items.flatMap itc)
 keep:kz w W
theorem KDec.kept {A B:World} {R:PRec} (h:KDec w N0 N7 R I pre A) (a:kz A B):KDec w N0 N7 R I pre B:=by
 obtain⟨b,⟨c,ls,d,e,f,g,i⟩,j,k⟩:=h;exact⟨AA b a.size,⟨c,ls,d.kO a,e,f,QB g a,fun q l=>QB (i q l) a⟩,QB j a,k.tO a⟩
theorem JAx (W:World) (k:Nat) (o:Obj):Keep [k] W (W.putObj k o):=
 ⟨(Keep.refl [] W).os,(Keep.refl [] W).tape,(Keep.refl [] W).output,by rw[World.putObj_size];exact AG _,fun i hi a=>World.putObj_heap_other (by simp at a;omega)⟩
theorem XM {n q:Nat} {e:TypeId} {v:Value} {xs:List Value} {o:Obj} (c:Obj) (h:W.ownsRow base e q v n xs) (i:W.heap[l]? = some o) (j:o.isCells=false):(W.putObj l c).ownsRow base e q v n xs:=
 XB h (JAx W l c) (fun g a d=>by
  simp at d;subst d;rcases h.2 with⟨b,_⟩ | ⟨k,cap,p,b,_,m,_⟩
  . rw[b] at a;simp[Value.ownBlock] at a
  rw[b] at a;simp[Value.ownBlock] at a;subst a;have f:W.heap[k]? = _:=m;rw[i] at f;cases f;cases j)
theorem KDec.turned {R:PRec} {o a:Obj} (h:KDec w N0 N7 R I pre W) (d:w.heap.size<=l) (b:W.heap[l]? = some o) (c:o.isCells=false):KDec w N0 N7 R I pre (W.putObj l a):=by
 obtain⟨e,⟨f,ls,g,i,j,k,m⟩,n,p⟩:=h;exact⟨by rw[World.putObj_size];exact e,⟨f,ls,YF a g b c,i,j,XM a k b c,fun q r=>XM a (m q r) b c⟩,XM a n b c,p.putObj d a⟩
theorem XBk (g o c:Nat) {R:PRec} (i:R.May) (hg:g<w.heap.size) (ha:Rd w (some (aq g o)) (64*(1+R.blocks.length)) (bys R.bytes)) (hc:64*(1+R.blocks.length)<=c) :
 Calls prog 428 #[.slice (some (aq g o)) (64*(1+R.blocks.length)) c] w fun e w'=>∃ I b0,e=.returned (.tuple #[.agg #[ii R.mount,ii R.lsn,ii R.prev,I,b0],R.sum,zz])/\RecHold w' w.heap.size I b0 R/\kz w w':=by
 have ds:=i.few6;have h6:=i.few;obtain⟨t,a4⟩:=PRec.fields_is i;have bb:=PRec.length_bytes i;obtain⟨m,f⟩:=ex R.blocks.length;obtain⟨n,hn⟩:=ex (64*(1+m));obtain⟨bs,bd⟩:=ex R.bytes;rw[<- f,<- hn] at ha hc bb ⊢;rw[<- bd] at ha a4 bb;have c8:=fun W (hk:kz w W)=>AR (n:=2).2 (XU c bs (ha.keep hk) Z);have c9:=fun W B r v (h:RowAt W B r v bs 0)=>AR (n:=2).2 (KAg (w:=W) (base:=B) (r:=r) (v:=v) (bs:=bs) (QR R.items++t) R.mount R.lsn R.prev R.items.length m h (by rw[a4,f]) i.some h6 Z);have ca:16+7*R.items.length<=bs.length:=by rw[a4];simp[VAy,widths]
 have cb:(bs.drop 16).take (7*R.items.length)=QR R.items:=by
  rw[a4,List.drop_left' (by simp[VAy,widths]),List.take_left' sq]
 have bf:=fun W B r v (h:RowAt W B r v bs 16)=>AR (n:=2).2 (ZP (w:=W) (base:=B) (r:=r) (a:=16) (7*R.items.length) (v:=v) (bs:=bs) h ca);rw[cb] at bf;have ac:=fun W A k c (h:Rd W A k (bys (QR R.items)))=>AR (n:=2).2 (QBT (A:=A) (n:=k) c R.items (w:=W) h i.items i.some h6);have cc:=fun W B r v (h:RowAt W B r v bs 0)=>AR (n:=2).2 (ZP (w:=W) (base:=B) (r:=r) (a:=0) 2 (v:=v) (bs:=bs) h Z);have dt:bs=fields ([(1,75),(1,82)]++(4,R.mount) :: [(4,R.lsn),(4,R.prev),(1,R.items.length),(1,R.blocks.length)])++(QR R.items++t):=a4;have cd:=fun W B r v (h:RowAt W B r v bs (0+2))=>AR (n:=2).2 (Vv (k:=4) (n:=R.mount) (t:=QR R.items++t) [(1,75),(1,82)] [(4,R.lsn),(4,R.prev),(1,R.items.length),(1,R.blocks.length)] h (by rw[a4];rfl) (by simp[widths]) Z (by have:=i.mount;omega));have ce:=fun W B r v (h:RowAt W B r v bs (0+2+4))=>AR (n:=2).2 (Vv (k:=4) (n:=R.lsn) (t:=QR R.items++t) [(1,75),(1,82),(4,R.mount)] [(4,R.prev),(1,R.items.length),(1,R.blocks.length)] h (by rw[a4];rfl) (by simp[widths]) Z (by have:=i.lsn;omega));have cf:=fun W B r v (h:RowAt W B r v bs (0+2+4+4))=>AR (n:=2).2 (Vv (k:=4) (n:=R.prev) (t:=QR R.items++t) [(1,75),(1,82),(4,R.mount),(4,R.lsn)] [(1,R.items.length),(1,R.blocks.length)] h (by rw[a4];rfl) (by simp[widths]) Z (by have:=i.prev;omega));have cg:=JB c8;have du:=JB c9;have dv:=JB bf;have dw:=JB ac;have dx:=JB cc;have dy:=JB cd;have dz:=JB ce;have e0:=JB cf;have ch:=JB bd;have ci:=JB f;have cj:=JB hn;have bg:=JB ha;have ck:=JB i;have eo:n<=448:=Z;have ep:64*(1+((m:Nat):Int))=(n:Nat):=Z;have e1:m<=6:=Z;obtain⟨q,H⟩:=ex R.items.length;obtain⟨z,D⟩:=ex (7*q);have ad:IntKind.i64.wrap (7*((q:Nat):Int))=(z:Nat):=by rw[AK];omega
 have h7:7*((q:Nat):Int)=(z:Nat):=Z;have e2:=JB D;have ae:=JB H;have eq:q<=6:=Z;clear D c8 c9 bf ac cc cd ce cf bd f hn ha a4 dt ca cb bb ds h6 H i;refine(AR (n:=3)).1 ?_;refine callsIn_of_wp_marks func428 rfl trivial ?_ rfl;simp only[ntmps428,PL,Nat.reduceAdd,Nat.reduceSub];have cm:=Blk.new w 280 #[zz,zz,zz,zn,zn];have k0:kz w (w.alloc (.cells #[zz,zz,zz,zn,zn] 280)):=kq.alloc _;gi_wp2_with (refine⟨trivial,?_⟩;refine(JA cg _ k0).mono ?_;rintro e w1 ⟨r,v,rfl,b2,b3⟩);have y:=JA du _ _ _ _ b2;rw[<- JA ae] at y;gi_wp2_with (refine⟨trivial,?_⟩;refine y.mono ?_;clear y;rintro e w2 ⟨rfl,bh,N⟩);have y:=JA dv _ _ _ _ bh;rw[<- JA ae,<- JA e2] at y;gi_wp2_with (refine⟨trivial,?_⟩;refine y.mono ?_;clear y;rintro e w3 ⟨u,rfl,Q,e3,b4⟩);obtain⟨a6,uc,rfl,_⟩:=ZB Q;have y:=JA dw w3 a6 z uc (Rd.of_own Q);rw[<- JA ae] at y;have er:w.heap.size<=r:=AA k0.size b2.base;have cn:kz w w3:=(((k0.tO b3).trans N iq).trans b4 iq);have co:=Xl bh b4 (Xl b2 N (cm.kO b3) (by decide)) (by decide)
 gi_wp2_with (
  refine⟨trivial,?_⟩;refine y.mono ?_;clear y;rintro e w4 ⟨G,T,rfl,bi,bj⟩;have af:=co.kO bj;obtain⟨V,X,Y,x3,O⟩:=VD af;have f3:=af.frozen 3;have e4:=af.lt)
 have bk:=af.set 3 (.slice (some G) q T);simp only[PU] at bk;have bl:kz w (w4.setCell (aq w.heap.size 3) (.slice (some G) q T)):=(cn.tO bj).setCell (p:=⟨w.heap.size,3,none⟩) (.inr (AG _)) _;have bm:=own_set bi (b:=w.heap.size) (o:=3) (fun f=>own_blk_ne bi af (by decide) (uq f)) (.slice (some G) q T);clear V X Y x3 O f3 e4 co cm af bi b2 bh e3 Q;generalize w4.setCell (aq w.heap.size 3) (.slice (some G) q T)=v4 at *;gi_wp2_with (refine⟨trivial,?_⟩;refine(JA cg _ bl).mono ?_;rintro e w5 ⟨U,v2,rfl,ak,b5⟩);have y:=JA dx _ _ _ _ ak;have es:w.heap.size<=U:=AA bl.size ak.base;have et:v4.heap.size<=U:=ak.base;gi_wp2_with (refine⟨trivial,?_⟩;refine y.mono ?_;clear y;rintro e L ⟨u6,rfl,-,bn,a5⟩);have ag:=Xl ak a5 (bk.kO b5) (by decide);have cp:kz w L:=(bl.tO b5).trans a5 iq;have cq:Keep [U] v4 L:=(b5.zero).trans a5 (fun x d=>.inl d);clear ak bk b5 a5;have y:=JA dy _ _ _ _ bn
 gi_wp2_with (
  refine⟨trivial,?_⟩;refine y.mono ?_;clear y;rintro e E ⟨rfl,a7,M⟩;have F:=Xl bn M ag (by decide);obtain⟨V,X,Y,x3,O⟩:=VD F;have fq:=F.frozen 0;have al:=F.lt)
 have D:=Yx 0 (.int .i64 (R.mount:Nat)) a7 F (by decide) (by decide);have bo:=D.1;have ah:=D.2.1;have a8:=(cp.trans M iq).trans D.2.2 iq;have cr:Keep [U,w.heap.size] v4 (E.setCell w.heap.size (.int .i64 (R.mount:Nat))):=((cq.sub sq).trans (M.sub (m:=[U,w.heap.size]) sq) (fun x d=>.inl d)).trans (D.2.2.sub (m:=[U,w.heap.size]) sq) (fun x d=>.inl d);simp only[PU] at ah;clear V X Y x3 O fq al D F a7 M bn ag cp cq;generalize E.setCell w.heap.size (.int .i64 (R.mount:Nat))=v7 at *;have y:=JA dz _ _ _ _ bo
 gi_wp2_with (
  refine⟨trivial,?_⟩;refine y.mono ?_;clear y;rintro e w8 ⟨rfl,a7,M⟩;have F:=Xl bo M ah (by decide);obtain⟨V,X,Y,x3,O⟩:=VD F;have fq:=F.frozen 1;have al:=F.lt)
 have D:=Yx 1 (.int .i64 (R.lsn:Nat)) a7 F (by decide) (by decide);have bp:=D.1;have bq:=D.2.1;have cs:=(a8.trans M iq).trans D.2.2 iq;have ct:Keep [U,w.heap.size] v4 (w8.setCell (aq w.heap.size 1) (.int .i64 (R.lsn:Nat))):=((cr.sub sq).trans (M.sub (m:=[U,w.heap.size]) sq) (fun x d=>.inl d)).trans (D.2.2.sub (m:=[U,w.heap.size]) sq) (fun x d=>.inl d);simp only[PU] at bq;clear V X Y x3 O fq al D F a7 M bo ah a8 cr;generalize w8.setCell (aq w.heap.size 1) (.int .i64 (R.lsn:Nat))=v8 at *
 obtain⟨v,o2,c2,cu,cv,cw,e5⟩:∃ v o2 c2,v=Value.slice (some (aq g o2)) (64*m) c2/\64*m<=c2/\(0<m->o2=o+64)/\(c=64/\Value.slice (some (aq g o)) (n-64) 0=v\/¬ c=64/\Value.slice (some (aq g (o+64))) (n-64) (c-64)=v):=by
  have eu:=JA cj;have cx:n-64=64*m:=Z;by_cases b6:c=64
  . exact⟨_,o,0,rfl,Z,fun h=>Z,.inl ⟨b6,by rw[cx]⟩⟩
  exact⟨_,o+64,c-64,rfl,Z,fun _=>rfl,.inr ⟨b6,by rw[cx]⟩⟩
 have e6:=JB cw;have e7:=JB cv;have br:=JB cu;clear cw cv cu;rcases e5 with⟨b6,bt⟩ | ⟨b6,bt⟩
 all_goals
  have e8:=JB bt;clear bt;have y:=JA e0 _ _ _ _ bp
  gi_wp2_with (
   refine⟨trivial,?_⟩;refine y.mono ?_;clear y;rintro e w9 ⟨rfl,a7,M⟩;have F:=Xl bp M bq (by decide);obtain⟨V,X,Y,x3,O⟩:=VD F;have fq:=F.frozen 2;have al:=F.lt)
  have D:=Yx 2 (.int .i64 (R.prev:Nat)) a7 F (by decide) (by decide);have ev:=D.1;have am:=D.2.1;have cy:=(cs.trans M iq).trans D.2.2 iq;have cz:Keep [U,w.heap.size] v4 (w9.setCell (aq w.heap.size 2) (.int .i64 (R.prev:Nat))):=((ct.sub sq).trans (M.sub (m:=[U,w.heap.size]) sq) (fun x d=>.inl d)).trans (D.2.2.sub (m:=[U,w.heap.size]) sq) (fun x d=>.inl d);simp only[PU] at am;clear V X Y x3 O fq al D F a7 M bp bq cs ct;generalize w9.setCell (aq w.heap.size 2) (.int .i64 (R.prev:Nat))=v9 at *;have ew:w3.heap.size<=G/\G<v4.heap.size:=own_mem bm (g:=G) (by simp[Value.ownBlock]);have ey:w.heap.size<w3.heap.size:=by have:=am.lt;have h2:=b3.size;have h3:=N.size;have h4:=b4.size;simp only[AN] at h2;omega
  have d0:=ZC (XB bm cz (fun x d f=>by
   simp[Value.ownBlock] at d f;omega)) cn.size
  clear bm cz b3 N b4 bj;rw[JA e8];gi_wp2_with (refine⟨trivial,?_⟩;refine(KAL 2 _ _ (by rw[JA br];rfl)).mono ?_;rintro e w' ⟨rfl,rfl⟩);obtain⟨L,an⟩:=ex (v9.alloc (.cells #[v] 66));obtain⟨E,ad⟩:=ex (L.alloc (.cells #[ii 64] 3));rw[<- an,<- ad];have s6:L.heap.size=v9.heap.size+1:=by rw[an,AN]
  have k6:kz v9 L:=by rw[an];exact kq.alloc _
  have k7:kz L E:=by rw[ad];exact kq.alloc _
  have b7:kz v9 E:=k6.tO k7;have a8:kz w E:=cy.tO b7;have d1:Boxed E v9.heap.size 66 v:=KA (by rw[an];exact Boxed.new v9 _ _) k7 sq;have d2:Boxed E (v9.heap.size+1) 3 (.int .i64 64):=by rw[ad,show v9.heap.size+1=L.heap.size from Z];exact Boxed.new L _ _
  have e9:E.heap[g]? = w.heap[g]? := a8.block g hg sq;have ea:g<E.heap.size:=BC hg a8.size;have b8:=Ys 2 (b1:=v9.heap.size) g o2 m c2 (w:=E) Z (JA e7) (by rw[<- JA br];exact d1) d2 ea;rw[<- JA br] at b8;have d3:E.ownsRow w.heap.size 178 4 (.slice (some G) q T) R.items.length (R.items.flatMap itc):=by rw[<- JA ae];exact QB d0 b7
  have d4:=am.kO b7;have h0:KDec w w.heap.size E.heap.size R (.slice (some G) q T) [] E:=⟨AG _,⟨.slice none 0 0,[],d4,rfl,rfl,Ab _ _ _ _,sq⟩,d3,a8⟩;have ez:=a8.size;have d5:=JB (show v9.heap.size+2<=E.heap.size by rw[ad,AN];omega);have f0:w.heap.size<v9.heap.size:=am.lt;clear s6 k6 k7 b7 d1 d2 an ad am cy d3 d0
  refine Jb (n:=3) (gf:=390) (lb:=#[pq v9.heap.size,pq (v9.heap.size+1)]) 11 (fun x=>.slice (some (aq g (o2+64*x))) 64 64) rfl (enters_of func390 (by kernel_rfl) rfl)
   b8
   (fun A B C h k=>⟨k.1.trans h.1,fun J=>k.2.1 (h.2.1 J),fun J=>k.2.2 (h.2.2 J)⟩)
   (fun W l o aa hl ao ho=>⟨World.putObj_heap_other Z,fun J=>JC aa J ao ho,fun J=>JC aa J ao ho⟩)
   (KDec w w.heap.size E.heap.size R (.slice (some G) q T)) (fun s A B h hk=>h.kept hk) (fun s W l o aa h hl ao ho=>h.turned Z ao ho)
   (fun pre x W l o aa h hl ao ho=>⟨h.1,h.2.1,(World.putObj_heap_other Z).trans h.2.2⟩) h0 ?assign ?body ?done
  case assign=>
   rintro l x W K P;simp only[PU,A6] at P
   gi_wp2
   exact P
  case body=>
   rintro l pre x W ac ⟨d,d6,d7⟩;obtain⟨bu,⟨b0,ls,a9,a2,ai,a0,ab⟩,ap,ar⟩:=ac;obtain⟨V,X,Y,x3,O⟩:=VD a9;obtain⟨BA,bc,rfl,_⟩:=ZB a0;have d8:W.heap[g]? = w.heap[g]? := d7.trans e9;have i:=JA ck;have au:=JA ci;have d9:x<R.blocks.length:=Z;have av:R.blocks[x].length=64:=i.full _ (AQ _)
   have da:Rd W (some (aq g (o2+64*x))) 64 (bys R.blocks[x]):=by
    refine⟨by simp[av],fun _=>⟨g,o2+64*x,rfl,by have:=ar.size;omega,fun j u Q=>?_⟩⟩;have hj:j<64:=by have:=(BL.1 Q).1;simpa [av] using this
    obtain⟨b',aa,he,-,eb⟩:=(JA bg).2 (by have:=JA cj;omega);cases he;rw[JA e6 Z]
    have h1:=eb (64*(1+x)+j) u (by
     rw[JA ch];unfold PRec.bytes;rw[Qj,Bc (by simp[JV _ _ _ _ _ i.few];omega)];rw[show 64*(1+x)+j-(bys (JAt R.mount R.lsn R.prev R.items R.blocks)).length=64*x+j by simp[JV _ _ _ _ _ i.few];omega];rw[<- Q,<- YBR _ i.full x d9,<- VAK,seg_get _ _ _ _ hj,Bq])
    rw[show o+64+64*x+j=o+(64*(1+x)+j) from Z];exact(B1 (w:=w) d8).trans h1
   have y:=JX 64 R.blocks[x] (da.drew) Z
   have bv:R.blocks.take (pre.length+1)=R.blocks.take pre.length++[R.blocks[x]]:=by
    rw[List.take_add_one,AC Z];subst d;rfl
   obtain⟨xs,db⟩:=ex (R.blocks[x]);rw[<- db] at y bv av;have ec:=JB bv;have f1:=JB av;have f2:=JB d;have f5:=JB d6;have bw:=JB a2;have ed:=JB ai;have bx:=JB ab;have f6:ls.length<=6:=Z;clear d d6 d7 d8 b8 h0 bv av da a2 ai ab db d9 i au d4;simp only[PU]
   gi_wp2
   refine ZI (S:=(fun W'=>cl W' (aq w.heap.size 4) (.slice BA ls.length bc))) 5 [[0,1,2],[3],[4]] O ?_;simp only[PI];iterate 3 refine wG ?_
   refine YB rq (fun K P=>?_);go_wp2_with (refine y.mono ?_;clear y;rintro e w2 ⟨u,rfl,Q,N,_⟩);have dc:kz W w2:=kq.drew.tO N;obtain⟨a6,uc,rfl,_⟩:=ZB Q;refine P _ _ ((VD (a9.kO dc)).2.2.2.2) ?_
   try simp only[Act.put,PU]
   refine YB rq (fun K P=>?_);go_wp2_with fail;have ee:=JT w2 (Value.slice a6 64 uc) 66;have a1:kz W (w2.alloc (.cells #[Value.slice a6 64 uc] 66)):=dc.alloc _;have ef:=KD Q (.cells #[Value.slice a6 64 uc] 66);refine P _ _ ((VD (a9.kO a1)).2.2.2.2) ?_
   try simp only[Act.put,PU]
   refine KB ?_
   go_wp2_with (first
    | (at_builtin
       refine elemRows.wp_app rfl (.tmp 75) (.tmp 78) rq E.heap.size (.slice BA ls.length bc) ls.length (ls.map (·.1)) rq (QB a0 a1) (some w2.heap.size) 1 1 [Value.slice a6 64 uc] rq ee (by simp[Value.oneCell']) Z Z (AA bu a1.size) ?_;intro f7 L ag a5 f8 _;have dd:=a9.kO a1;have aj:=dd.keep a5 (fun f=>own_blk_ne (QB a0 a1) dd (by decide) (uq f));obtain⟨y0,y1,y2,y3,y4⟩:=VD aj;have f4:=aj.frozen 4;obtain⟨b9,vc,rfl,_⟩:=ZB ag))
   have bz:Keep [w.heap.size] L (L.setCell (aq w.heap.size 4) (.slice b9 (ls.length+1) vc)):=kq.sc w.heap.size 4;have de:∀ x∈(Value.slice BA ls.length bc).ownBlock.toList,E.heap.size<=x:=fun x d=>(own_mem a0 d).1;have P:Keep (w.heap.size :: (Value.slice BA ls.length bc).ownBlock.toList) W (L.setCell (aq w.heap.size 4) (.slice b9 (ls.length+1) vc)):=(a1.zero.trans (a5.sub (fun x d=>Av _ d)) (fun x d=>.inl d)).trans (bz.sub sq) (fun x d=>.inl d)
   have c4:∀ b,b<E.heap.size->b≠w.heap.size->b∉w.heap.size :: (Value.slice BA ls.length bc).ownBlock.toList:=fun b h1 h2 f=>by
    rcases AM.1 f with h | h
    . exact h2 h
    have:=de _ h;omega
   have df:∀ {b:Nat} {q:Value} {n:Nat} {ys:List Value},(w2.alloc (.cells #[Value.slice a6 64 uc] 66)).ownsRow b 5 1 q n ys->(L.setCell (aq w.heap.size 4) (.slice b9 (ls.length+1) vc)).ownsRow b 5 1 q n ys:=fun H=>
    have h1:=XB H a5 (fun x d f=>own_ne H (QB a0 a1) (by decide) d (uq f))
    XB h1 bz (fun x d f=>by simp at f;subst f;exact own_blk_ne h1 aj (by decide) d)
   have f9:v9.heap.size+2<=E.heap.size:=by have:=JA d5;omega
   have ah:=aj.set 4 (.slice b9 (ls.length+1) vc);simp only[PU] at ah;have dg:=XB (QB ap a1) a5 (fun x d f=>own_ne (QB ap a1) (QB a0 a1) (by decide) d (uq f))
   refine⟨P.fromCells ?_ _,⟨P.block g Z (c4 _ Z Z),fun J=>KA J P (c4 _ Z Z),fun J=>KA J P (c4 _ Z Z)⟩,
    ⟨AA bu P.size,⟨_,ls++[(.slice a6 64 uc,xs)],ah,?_,by simp[JA ed],?_,fun q H=>?_⟩,XB dg bz (fun x d f=>by simp at f;subst f;exact own_blk_ne dg aj (by decide) d),ar.trans P (fun x d=>.inr ?_)⟩⟩
   . intro b J aa c5
     rcases AM.1 J with rfl | J
     . rw[show W.heap[_]? = _ from a9] at c5;cases c5;rfl
     exact KR a0 b J aa c5
   . rw[AE,Al,JA ec,BZ,JA bw];rfl
   . rw[AE,BZ]
     exact own_set ag (by intro f;exact own_blk_ne ag aj (by decide) (uq f)) _
   . rcases AD.1 H with H | H
     . exact df (QB (JA bx q H) a1)
     simp at H;subst H;exact df (ZC ef ar.size)
   rcases AM.1 d with h | h
   . omega
   have:=de _ h;omega
  case done=>
   intro D' xs W fa eg ac c6;subst eg;obtain⟨bu,⟨b0,ls,a9,a2,ai,a0,ab⟩,ap,ar⟩:=ac;rw[List.length_range] at a2 ai;have i:=JA ck;have au:=JA ci;rw[au,List.take_length] at a2;have eh:=c6;obtain⟨V,X,Y,x3,O⟩:=VD a9;obtain⟨BA,bc,rfl,_⟩:=ZB a0;have ba:ls.length=m:=ai
   have dh:Rws W BA ls.length ls:=⟨Rd.of_own a0,fun q H=>by
    obtain⟨A,ei,he,h1,-,-,-⟩:=ZB (ab q H);have h2:=ab q H;rw[he] at h2;exact⟨A,64,ei,he,h1,Z,Rd.of_own h2⟩⟩
   have di:Rd W (some G) (R.items.length*4) (R.items.flatMap itc):=by
    have h1:=ap;rw[JA ae] at h1;exact Rd.of_ownN h1
   have dj:∀ p∈ls,p.2.length=64:=fun p hp=>i.full _ (by rw[<- a2];exact List.mem_map_of_mem hp);have aw:=AR (n:=2).2 (ZAy R.mount R.lsn R.prev i.mount i.lsn i.prev G R.items.length T R.items bc di rfl i.items i.some i.few dh dj (by rw[ba,au,i.many]));rw[a2,List.flatMap_def,a2,<- JA ae] at aw;have dk:JAt R.mount R.lsn R.prev R.items R.blocks++R.blocks.flatten=bs:=(JA ch).symm;rw[dk,ba] at aw;rw[ba] at O;have ej:bs.length=n:=uq ((JA bg).1);obtain⟨sm,c7⟩:=ex (Zg R.mount R.lsn R.prev R.items R.blocks);rw[<- c7] at aw;have ek:=JB c7;have bw:=JB a2;have bx:=JB ab;have el:=JB c6;have fb:=e1;clear c6 ab a2 i au eh dh di dj dk ai ba c7 h0 b8 ej;gi_wp2_with (refine⟨trivial,?_⟩;refine aw.mono ?_;clear aw;rintro e ax ⟨u,rfl,Q,N⟩;obtain⟨fc,em,rfl,_⟩:=ZB Q);have a3:=a9.kO N;have dl:kz w ax:=ar.tO N;have dm:=fun en=>AR (n:=2).2 (JJ em en bs bs (Rd.of_own Q) ((JA bg).keep dl));have dn:ax.heap[D']? = some (.deferred (some [])):=N.heap_same (JA el);clear V X Y x3 O;obtain⟨V,X,Y,x3,O⟩:=VD a3;have fd:=a3.frozen 0;have fe:=a3.frozen 1;have ff:=a3.frozen 2;have f3:=a3.frozen 3;have f4:=a3.frozen 4;gi_wp2_with (refine⟨trivial,?_⟩;refine(dm _).mono ?_;clear dm;rintro e fg ⟨rfl,rfl⟩;simp only[decide_true]);have D:=((((a3.set 0 (.int .i64 (R.mount:Nat))).set 1 (.int .i64 (R.lsn:Nat))).set 2 (.int .i64 (R.prev:Nat))).set 3 (.slice (some G) q T)).set 4 (.slice BA ls.length bc)
   have ay:Keep [w.heap.size] ax (((((ax.setCell w.heap.size (.int .i64 (R.mount:Nat))).setCell (aq w.heap.size 1) (.int .i64 (R.lsn:Nat))).setCell (aq w.heap.size 2) (.int .i64 (R.prev:Nat))).setCell (aq w.heap.size 3) (.slice (some G) q T)).setCell (aq w.heap.size 4) (.slice BA ls.length bc)):=
    ((((kq.sc w.heap.size 0).sc w.heap.size 1).sc w.heap.size 2).sc w.heap.size 3).sc w.heap.size 4
   simp only[PU] at D;generalize (((((ax.setCell w.heap.size (.int .i64 (R.mount:Nat))).setCell (aq w.heap.size 1) (.int .i64 (R.lsn:Nat))).setCell (aq w.heap.size 2) (.int .i64 (R.prev:Nat))).setCell (aq w.heap.size 3) (.slice (some G) q T)).setCell (aq w.heap.size 4) (.slice BA ls.length bc))=Wz at *;have az:Wz.heap[D']? = some (.deferred (some [])):=(ay.block D' (AI.1 dn).1 (by have:=JA d5;simp;omega)).trans dn;refine⟨sq,.inl ⟨_,_,rfl,run_takeDeferred az,?_⟩⟩;obtain⟨y0,y1,y2,y3,y4⟩:=VD (YF (.deferred none) D az rfl);have dp:=QB ap N;have dq:=QB a0 N;refine⟨.tuple #[.agg #[R.mount,R.lsn,R.prev,.slice (some G) q T,.slice BA ls.length bc],(sm:Nat),zz],by simp[results,results428,go_sem,y0,y1,y2,y3,y4],_,_,by rw[JA ek];rfl,⟨XM _ (XB dp ay (fun x d f=>by simp at f;subst f;exact own_blk_ne dp a3 (by decide) d)) az rfl,ls,JA bw,ZC (XM _ (XB dq ay (fun x d f=>by simp at f;subst f;exact own_blk_ne dq a3 (by decide) d)) az rfl) (AA a8.size (AG _)),fun p hp=>?_⟩,(dl.trans ay iq).putObj Z _⟩;have dr:=QB (JA bx p hp) N;exact XM _ (XB dr ay (fun x d f=>by simp at f;subst f;exact own_blk_ne dr a3 (by decide) d)) az rfl
end
def Xq (us:List (Nat×Nat)) (spare:Bool):Prop:=(spare=false/\YD us<=2)\/YC us=8
theorem ZBP (h:TableIs w base t g L V F us lv) :
 cr 79 #[pq t,ii (-1)] w (.bool false):=by
 obtain⟨l,a,v,b,rfl,rfl,c,d,e⟩:=h.forms;obtain⟨f,i,j⟩:=h.cells;go_enter func79,ntmps79
 go_wp2
 go_ret;exact⟨rfl,kq⟩
theorem YAw (h:TableIs w base t g L V F us lv) :
 cr 399 #[pq t,ii (-1)] w (.bool false):=by
 have a:=ZBP h;go_enter func399,ntmps399;go_wp2_with (apply a.mono;rintro e w1 ⟨rfl,b⟩);go_ret;exact⟨rfl,b⟩
theorem QAp (l c v o:Nat) (h:TableIs w base t g (.slice (some l) 8 c) (.slice (some v) 8 o) F us lv) (d:YC us=8) :
 cr 397 #[.slice (some l) 8 c,.func (.func 398) #[] #[]] w (ii (-1)):=by
 have f:=h.ulen
 have r:∀ (a j:Nat) W,cr 398 #[.agg #[ii a,ii j]] W (.bool (decide (a=0))):=fun a j W=>by
  go_enter func398,ntmps398
  go_wp2
  go_ret;exact⟨VF (by rw[Bg];simp),kq.alloc _⟩
 have s:=JB f;have y:=JB d;clear f d;go_enter func397,ntmps397
 go_wp2
 go_loopw [5,8] (fun _ i wr=>∃ m:Nat,m<=8/\i=.int .i64 m/\kz w wr) (fun _ i _=>8-(intOf i).toNat)
 case atStart=>exact⟨0,AS _,rfl,kq⟩
 obtain⟨m,B,rfl,b⟩:=hrel;by_cases k:m<8
 . have C:m<us.length:=by rw[JA s];exact k
   obtain⟨D,E⟩:=(h.kO b).use m k
   have z:us[m].1≠0:=by
    have:=DK (p:=fun u:Nat×Nat=>u.1 == 0) (xs:=us) (i:=m) (by have:=JA y;unfold YC at this;omega);simpa using this
   have n:=r us[m].1 us[m].2;rw[AX z] at n;go_wp2_with (apply (n _).mono;rintro e w1 ⟨rfl,A⟩);go_roundw;case rel=>exact⟨m+1,Z,by go_num,b.tO A⟩
   case measure=>simp[intOf];omega
 obtain rfl:m=8:=Z
 go_wp2
 go_ret;exact⟨rfl,b⟩
theorem KBR (h:TableAt w base t g F us lv) (a:Xq us spare) :
 cr 347 #[pq t,.bool spare] w (.tuple #[zz,.bool false]):=by
 have b:=Qw h;obtain⟨L,V,h⟩:=h;obtain⟨l,k,v,n,rfl,rfl,z,A,B⟩:=h.forms;have C:=h.ulen;obtain⟨D,E,G⟩:=h.cells;cases spare
 . have H:((YD us:Nat):Int)<=2:=by
    rcases a with⟨_,a⟩ | a
    . omega
    have:YD us=0:=by
     unfold YD;rw[List.countP_eq_zero];intro u o;obtain⟨m,I,rfl⟩:=List.getElem_of_mem o;have:=DK (p:=fun u:Nat×Nat=>u.1 == 0) (xs:=us) (i:=m) (by unfold YC at a;omega);simpa using this
    omega
   clear a;generalize YD us=q at *;go_enter func347,ntmps347;go_wp2_with (refine b.mono ?_;rintro e w1 ⟨rfl,r⟩);go_ret2;exact⟨rfl,r⟩
 have c:YC us=8:=by
  rcases a with⟨a,_⟩ | a
  . cases a
  exact a
 have d:=QAp l k v n h c;have f:=fun W (s:kz w W)=>YAw (h.kO s);clear a c b;go_enter func347,ntmps347
 go_wp2_with (first
  | (go_at_call 397;refine d.mono ?_;clear d;rintro e J ⟨rfl,j⟩)
  | (go_at_call 399;refine(f _ j).mono ?_;clear f;rintro e K ⟨rfl,y⟩))
 go_ret2;exact⟨rfl,j.tO y⟩
theorem JBJ {d p:Nat} {Fd Ft Fw:List Nat} {D:PDisk} {W:PW} (h:LogIs w base d g t p Fd Ft Fw B D us lv W) (K:W.Ok) (m:Nat) (hm:m<=1)
 (u:¬ KP W.pos.off (W.items.length+1) (W.blocks.length+m)) (S:¬ KP (Qa W) 1 m) (T:Xq us spare) :
 cr 237 #[pq p,m,.bool spare] w (ii 6):=by
 have E:=fun a (r:kz w a)=>KBR (h.kO r).tab T;clear T;have a4:=h;obtain⟨I,a5,ls,F⟩:=h.wri;obtain⟨L,M,rfl,_⟩:=ZB F.its;obtain⟨BA,N,rfl,_⟩:=ZB F.bls;have v:=F.blk;have O:=F.len;have a0:W.blocks.length<=6:=by rw[K.many];exact AA (ZL _) K.few
 have a1:=K.few;have a2:=h.pos.2.1;have U:=h.geom;have V:W.items.length=0->W.items=[]:=Aw;have X:W.items=[]->W.items.length=0:=fun e=>by rw[e];rfl
 obtain⟨n,G⟩:=ex W.items.length;obtain⟨k,H⟩:=ex W.blocks.length;obtain⟨o,y⟩:=ex W.pos.off;obtain⟨s,J⟩:=ex (Qa W)
 have Y:(n=0/\s=o)\/(0<n/\s=XD o k):=by
  rw[J,G,y,H];unfold Qa;by_cases P:W.items.length=0
  . exact .inl ⟨P,by rw[AP (V P)]⟩
  exact .inr ⟨Z,by rw[AL (fun e=>P (X e))]⟩
 have a3:s<=100:=by rcases Y with⟨_,e⟩ | ⟨_,e⟩ <;> rw[e] <;> first | omega | (unfold XD;omega)
 rw[<- J] at S;rw[<- G] at v a1 u;rw[<- H] at O a0 u;rw[O,<- y] at v;rw[<- y] at a2 u;have z:=Ke (g:=g) (B:=B) v.drew sq (U.kO kq.drew) o (n+1) (k+m) Z Z Z;rw[AX (show ¬ (n+1<=6/\XD o (k+m)<24) from u),show ((n+1:Nat):Int)=(n:Int)+1 from Z,show ((k+m:Nat):Int)=(k:Int)+(m:Int) from Z] at z;have A:=fun a (r:kz w a)=>Ke (v.kO r) sq (U.kO r) s 1 m a3 Z Z;have Q:=fun a=>Xe o k Z Z a;rw[AX (show ¬ (1<=6/\XD s m<24) from S)] at A
 have C:∀ {a},kz w a->cl a (aq p 2) (pq t)/\cl a (aq p 4) (ii o)/\cl a (aq p 8) (.slice L n M)/\cl a (aq p 9) (.slice BA k N):=fun r=>by
  obtain⟨a6,a7,l,a8,f,c5,c6,c7,i,j⟩:=ZE (v.kO r);exact⟨l,f,i,j⟩
 obtain⟨l,f,i,j⟩:=C kq.drew;have a9:=JB y;have aa:=JB G;have ab:=JB H;have ac:=JB J;clear y G H O u V X J;rcases Y with⟨rfl,rfl⟩ | ⟨ad,rfl⟩
 . clear Q
   go_enter func237,ntmps237;go_wp2_with fail;refine ZT (fun w'=>cl w' (aq p 4) (ii s)/\cl w' (aq p 8) (.slice L (0:Nat) M)/\cl w' (aq p 9) (.slice BA k N)) 19 [[0,1,2,3,4,5,6,7,8,9,10,11,12,13,14,15,16,17,18]] ⟨f,i,j⟩ ?_;simp only[PI];iterate 19 refine wG ?_
   refine KB ?_;clear l f i j
   go_wp2_with (first
    | (go_at_call 346
       refine z.mono ?_;clear z;rintro e w2 ⟨rfl,b⟩;replace b:=(Keep.refl [] w).drew.tO b
       obtain⟨l,f,i,j⟩:=C b)
    | (go_at_call 346
       refine(A _ b).mono ?_;clear A;rintro e w3 ⟨rfl,c⟩;replace c:=b.tO c
       obtain⟨l,f,i,j⟩:=C c)
    | (go_at_call 347
       refine(E _ c).mono ?_;clear E;rintro e w4 ⟨rfl,R⟩))
   go_ret;exact⟨rfl,c.tO R⟩
 have ae:(0:Int)<(n:Nat):=Z;go_enter func237,ntmps237;go_wp2_with fail;refine ZT (fun w'=>cl w' (aq p 4) (ii o)/\cl w' (aq p 8) (.slice L n M)/\cl w' (aq p 9) (.slice BA k N)) 19 [[0,1,2,3,4,5,6,7,8,9,10,11,12,13,14,15,16,17,18]] ⟨f,i,j⟩ ?_;simp only[PI];iterate 19 refine wG ?_
 refine KB ?_;clear l f i j
 go_wp2_with (first
  | (go_at_call 346
     refine z.mono ?_;clear z;rintro e w2 ⟨rfl,b⟩;replace b:=(Keep.refl [] w).drew.tO b
     obtain⟨l,f,i,j⟩:=C b)
  | (go_at_call 333
     refine(Q _).mono ?_;clear Q
     rintro e w' ⟨rfl,rfl⟩)
  | (go_at_call 346
     refine(A _ b).mono ?_;clear A;rintro e w3 ⟨rfl,c⟩;replace c:=b.tO c
     obtain⟨l,f,i,j⟩:=C c)
  | (go_at_call 347
     refine(E _ c).mono ?_;clear E;rintro e w4 ⟨rfl,R⟩))
 go_ret;exact⟨rfl,c.tO R⟩