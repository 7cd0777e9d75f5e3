/- Lemmas of the proof, with their conditions. -/
import Derived.Test.YtfedaknhecbehaaGreatL15
import Derived.Test.YtfedaknhecbehaaGreatL19
namespace Go.Proofs.YtfedaknhecbehaaGreat
open Tryz Go.RowKit Go.Shelf
variable {D':PDisk} {us':List (Nat×Nat)} {lv' pre:List Nat} {W':PW} {n a k N b10 j m s:Nat} {P:Program} {Q:Exit->Act->World->Prop} {bs:List UInt8} {i:PItem}
set_option linter.all false
set_option maxHeartbeats 4000000
set_option maxRecDepth 100000
namespace TableAt
variable {w w':World} {base t g:Nat} {F l:List Nat} {us:List (Nat×Nat)} {lv:List Nat}
theorem keep (h:TableAt w base t g F us lv) (a:Keep l w w') (b:Apart F l):TableAt w' base t g F us lv:=by obtain⟨L,V,h⟩:=h;exact⟨L,V,h.keep a b⟩
theorem kO (h:TableAt w base t g F us lv) (a:kz w w'):TableAt w' base t g F us lv:=h.keep a Apart.nil_right
theorem lt (h:TableAt w base t g F us lv):∀ x∈F,x<w.heap.size:=by obtain⟨L,V,h⟩:=h;exact h.lt
theorem ge (h:TableAt w base t g F us lv):∀ x∈F,base<=x:=by obtain⟨L,V,h⟩:=h;exact h.ge
end TableAt
def PPos.Ok (p:PPos):Prop:=p.seg<=7/\p.off<=24/\(1<=p.lsn/\p.lsn<=2147483647)/\p.prev<=4294967295/\(1<=p.mount/\p.mount<=2147483647)
structure LogIs (w:World) (base d g t p:Nat) (Fd Ft Fw:List Nat) (B:Nat) (D:PDisk) (us:List (Nat×Nat)) (lv:List Nat) (W:PW):Prop where
 disk:DiskAt w base d Fd D
 geom:GeomAt w g B
 tab:TableAt w base t g Ft us lv
 wri:WriterAt w base p d g t Fw W
 dt:Apart Fd Ft
 dw:Apart Fd Fw
 tw:Apart Ft Fw
 gd:g∉Fd
 gt:g∉Ft
 gw:g∉Fw
 pos:W.pos.Ok
 off:D.off=false
 fuse:D.fuse = -1
 many:D.n=198+4*pgs B
 le:base<=w.heap.size
namespace LogIs
variable {w w':World} {base d g t p:Nat} {Fd Ft Fw l:List Nat} {B:Nat} {D:PDisk} {us:List (Nat×Nat)} {lv:List Nat} {W:PW}
theorem kO (h:LogIs w base d g t p Fd Ft Fw B D us lv W) (a:kz w w'):LogIs w' base d g t p Fd Ft Fw B D us lv W:=
 ⟨h.disk.kO a,h.geom.kO a,h.tab.kO a,h.wri.kO a,h.dt,h.dw,h.tw,h.gd,h.gt,h.gw,h.pos,h.off,h.fuse,h.many,AA h.le a.size⟩
theorem keep (h:LogIs w base d g t p Fd Ft Fw B D us lv W) (a:Keep l w w') (b:g∉l) (c:Apart Fd l) (e:Apart Ft l) (f:Apart Fw l):LogIs w' base d g t p Fd Ft Fw B D us lv W:=
 ⟨h.disk.keep a c,h.geom.keep a b,h.tab.keep a e,h.wri.keep a f,h.dt,h.dw,h.tw,h.gd,h.gt,h.gw,h.pos,h.off,h.fuse,h.many,AA h.le a.size⟩
theorem setDisk (h:LogIs w base d g t p Fd Ft Fw B D us lv W) {b:List Nat} (e:DiskAt w' base d b D') (a:Keep Fd w w') (c:Grow w Fd b) (f:D'.off=D.off) (i:D'.fuse=D.fuse) (j:D'.n=D.n):LogIs w' base d g t p b Ft Fw B D' us lv W:=
 ⟨e,h.geom.keep a h.gd,h.tab.keep a h.dt.symm,h.wri.keep a h.dw.symm,h.dt.grow c h.tab.lt,h.dw.grow c h.wri.lt,h.tw,fun k=>(c g k).elim h.gd (by have:=h.geom.lt;omega),h.gt,h.gw,h.pos,f.trans h.off,i.trans h.fuse,j.trans h.many,AA h.le a.size⟩
theorem setTab (h:LogIs w base d g t p Fd Ft Fw B D us lv W) (b:TableAt w' base t g Ft us' lv') (a:Keep Ft w w'):LogIs w' base d g t p Fd Ft Fw B D us' lv' W:=
 ⟨h.disk.keep a h.dt,h.geom.keep a h.gt,b,h.wri.keep a h.tw.symm,h.dt,h.dw,h.tw,h.gd,h.gt,h.gw,h.pos,h.off,h.fuse,h.many,AA h.le a.size⟩
theorem setWri (h:LogIs w base d g t p Fd Ft Fw B D us lv W) {Fw':List Nat} (c:WriterAt w' base p d g t Fw' W') (a:Keep Fw w w') (b:Grow w Fw Fw') (e:W'.pos.Ok):LogIs w' base d g t p Fd Ft Fw' B D us lv W':=
 ⟨h.disk.keep a h.dw,h.geom.keep a h.gw,h.tab.keep a h.tw,c,h.dt,h.dw.grow_r b h.disk.lt,h.tw.grow_r b h.tab.lt,h.gd,h.gt,fun f=>(b g f).elim h.gw (by have:=h.geom.lt;omega),e,h.off,h.fuse,h.many,AA h.le a.size⟩
end LogIs
def VC (B s:Nat):Nat:=6+4*pgs B+24*s
structure HeadAs (h:List UInt8) (seg mount lsn prev:Nat):Prop where
 len:h.length=64
 is:h=Zu 64 (YAO seg mount lsn prev)
def Begun (B:Nat) (D:PDisk) (W:PW) (D':PDisk) (W':PW):Prop:=
 (0<W.pos.off/\D'=D/\W'=W)\/(W.pos.off=0/\∃ h:List UInt8,HeadAs h W.pos.seg W.pos.mount W.pos.lsn W.pos.prev/\D'=D.write (VC B W.pos.seg) h/\W'={ W with pos:={ W.pos with off:=1 } })
theorem ZAe {w:World} {base d g t p:Nat} {Fd Ft Fw:List Nat} {B:Nat} {D:PDisk} {us:List (Nat×Nat)} {lv:List Nat} {W:PW} (h:LogIs w base d g t p Fd Ft Fw B D us lv W) (ha:D.acts<=1000000000) :
 Calls prog 217 #[pq p] w fun e w'=>e=.returned zz/\∃ C D' W',LogIs w' base d g t p C Ft Fw B D' us lv W'/\Begun B D W D' W'/\Keep (Fd++[p]) w w'/\Grow w Fd C:=by
 obtain⟨I,ag,ls,z⟩:=h.wri;obtain⟨⟨A,H,J,L,M⟩,ah,ai⟩:=W;have a5:=h.pos;obtain⟨b1,b2,N,O,P⟩:=a5;have l:=z.blk;have a6:=ZB z.its;have a7:=ZB z.bls;simp only at b1 b2 N O P l;obtain⟨aj,ic,Q,_⟩:=a6;obtain⟨BA,bc,R,_⟩:=a7;by_cases ho:0<H
 . obtain⟨c,f,n,b,o,i,j,k,r,s⟩:=ZE l
   have ak:(0:Int)<(H:Nat):=Z;go_enter func217,ntmps217;go_wp2_with fail;go_ret;exact⟨rfl,Fd,D,_,h,.inl ⟨ho,rfl,rfl⟩,kq,Grow.refl _ _⟩
 obtain rfl:H=0:=Z;rw[Q,R] at l;have al:=JB Q;have am:=JB R;clear Q R;obtain⟨c,f,n,b,o,i,j,k,r,s⟩:=ZE l;have Y:=fun W=>YAe A M J L Z P N O W;go_enter func217,ntmps217;go_wp2_with fail;clear c f n b o i j k r s;obtain⟨c,f,n,b,o,i,j,k,r,s⟩:=ZE l.drew;refine ZT (fun w'=>cl w' (aq p 3) (ii A)/\cl w' (aq p 5) (ii J)/\cl w' (aq p 6) (ii L)/\cl w' (aq p 7) (ii M)) 26 [[0,1,2,3,4,5,6,7,8,9,10,11,12,13,14,15,16,17,18,19,20],[21,22,23,24,25]] ⟨b,i,j,k⟩ ?_;simp only[PI];iterate 21 refine wG ?_
 refine YB rq (fun K S=>?_);go_wp2_with (apply (Y _).mono;clear Y;rintro e w2 ⟨u,rfl,T,a8⟩);clear c f n b o i j k r s;have E:kz w w2:=kq.drew.tO a8;obtain⟨c,f,n,b,o,i,j,k,r,s⟩:=ZE (l.kO E);refine S _ _ (⟨b,i,j,k⟩) ?_;iterate 4 refine wG ?_
 refine KB ?_;go_wp2_with fail;clear c f n b o i j k r s;obtain⟨c,f,n,b,o,i,j,k,r,s⟩:=ZE (l.kO E).drew;refine ZT (fun w'=>cl w' p (pq d)/\cl w' (aq p 1) (pq g)/\cl w' (aq p 3) (ii A)) 15 [[0,1,2,3,4,5,6,7,8,9,10,11,12,14],[13]] ⟨c,f,b⟩ ?_;simp only[PI];iterate 14 refine wG ?_
 refine YB rq (fun K S=>?_);go_wp2_with (apply (Yb _ g B (h.geom.kO E.drew) A Z).mono;rintro e w3 ⟨rfl,a0⟩);have v:kz w w3:=E.drew.tO a0;clear c f n b o i j k r s;obtain⟨c,f,n,b,o,i,j,k,r,s⟩:=ZE (l.kO v);refine S _ _ (⟨c,f,b⟩) ?_
 try simp only[Act.put,PU]
 refine KB ?_;obtain⟨U,uc,rfl,an⟩:=QN T Z;have a9:=QB (QB T kq.drew) a0;have aa:=own_mem T (g:=U) (by simp[Value.ownBlock]);have a1:=Kj (h.disk.kO v) h.off h.fuse ha (VC B A) (by rw[h.many];unfold VC;omega) uc _ (Rd.of_own a9) (fun a ab V=>by cases ab;have h2:U<w.heap.size:=h.disk.lt _ V;have h1:w.heap.size<=U:=aa.1;omega) (AA h.le v.size);unfold VC at a1;go_wp2_with (apply a1.mono;rintro e F ⟨rfl,C,ac,G,a2⟩;(have a3:=(l.kO v).keep G (fun V=>h.dw _ V z.inP));(obtain⟨e0,e1,e2,e3,e4,e5,e6,e7,e8,e9⟩:=ZE a3);(have f4:=a3.frozen 4));go_ret;have X:Keep [p] F (F.setCell (aq p 4) (.int .i64 1)):=kq.setCell (.inl sq) _;have a4:=(z.kO v).keep G h.dw.symm;have ad:=a4.blk.set 4 (.int .i64 1);have ae:=a4.setPos ⟨A,1,J,L,M⟩ (w':=F.setCell (aq p 4) (.int .i64 1)) (uq ad) X;have h4:=(h.kO v).setDisk ac G a2 rfl rfl rfl;have h5:=h4.setWri ⟨_,_,_,ae⟩ (X.sub (fun x y=>by simp at y;subst y;exact z.inP)) (Grow.refl _ _) ⟨b1,(show 1<=24 from Z),N,O,P⟩;have af:Keep (Fd++[p]) w (F.setCell (aq p 4) (.int .i64 1)):=((v.sub (m:=Fd++[p]) sq).trans G (fun x y=>.inl (BB _ y))).trans X (fun x y=>.inl (BQ _ y));exact⟨rfl,C,_,_,h5,.inr ⟨rfl,_,⟨VAM _ _ Z (by rw[Ka];omega),rfl⟩,rfl,rfl⟩,af,fun x y=>(a2 x y).imp id (fun h=>AA v.size h)⟩
section
open Go.RowKit Go.Shelf
attribute [local go_sem] AZ
def KBk (Q:Exit->Act->World->Prop):Exit->Act->World->Prop
 | .panic _,_,_=>False
 | e,a,w=>Q e a w
theorem KJ {F:Fence} {c:Code} {K:Act->World->Prop} {a:Act} {w:World} (h:c.wpIn F n P (Exit.then K (KBk Q)) a w):c.wpIn F n P (Exit.then K Q) a w:=
 Dv h (fun e a w h=>by cases e <;> first | exact h | exact h.elim)
theorem Jb {b:Type} {g:Operand} {d:Tmp} {h i:Code} {a:Act} {w:World} {gf:Nat} {lb:Array Value} (q:Nat) (f:b->Value)
 (k:a.eval g=.func (.func gf) #[] lb) (m:∀ j w,(callFunc gf j).run P w=.ok (.enter gf j) w)
 {e:List b->b->World->Prop} {c:World->World->Prop} {S:List b->Prop} (p:XBV (n-1) P gf lb (fun x=>#[f x]) e c S w)
 (r:∀ A B C,c A B->c B C->c A C) (t:∀ W l o u,w.heap.size<=l->W.heap[l]? = some o->o.isCells=false->c W (W.putObj l u))
 (I:List b->World->Prop) (v:∀ s A B,I s A->kz A B->I s B) (y:∀ s,Qo w.heap.size (I s)) (z:∀ pre x,Qo w.heap.size (e pre x)) (E:I [] w)
 (F:∀ (l:Nat) (x:b) (W:World) (K:Act->World->Prop),K { tmps:=(a.tmps.setIfInBounds d (f x)).setIfInBounds q (f x),defers:=[] } W ->
   h.wpIn (Fence.wide.inRound l) (n-1-1) P (Exit.then K (fun _ _ _=>False)) { tmps:=a.tmps.setIfInBounds d (f x),defers:=[] } W)
 (G:∀ (l:Nat) (pre:List b) (x:b) (W:World),I pre W->e pre x W->i.wpIn (Fence.wide.inRound l) (n-1-1) P (JAd w.heap.size c (I (pre++[x])) W) { tmps:=(a.tmps.setIfInBounds d (f x)).setIfInBounds q (f x),defers:=[] } W)
 (H:∀ (D:Nat) (xs:List b) (W:World),w.heap.size<=D->S xs->I xs W->W.heap[D]? = some (.deferred (some []))->Q .normal { a with defers:={ target:=.collected D,args:=#[] } :: a.defers } W) :
 (Code.rangeFunc g #[d] h i).wpIn Fence.wide n P Q a w:=
 ZV k m p r t (fun _=>rfl) I v y z E (fun x=>{ tmps:=(a.tmps.setIfInBounds d (f x)).setIfInBounds q (f x),defers:=[] })
  (fun l x W K J=>uq (F l x W K J)) G H
theorem WriterIs.setPosL {w w':World} {base p d g t:Nat} {I B:Value} {ls:List (Value×List UInt8)} {F l:List Nat} {W:PW} (h:WriterIs w base p d g t I B ls F W) (P:PPos)
 (i:Blk w' p 273 #[pq d,pq g,pq t,ii P.seg,ii P.off,ii P.lsn,ii P.prev,ii P.mount,I,B]) (b:Keep l w w') (c:∀ x∈F,x≠p->x∉l) :
 WriterIs w' base p d g t I B ls F { W with pos:=P }:=
 ⟨i,XB h.its b fun x a=>c x (h.inI x (uq a)) (fun e=>h.pI (by subst e;simpa using a)),XB h.bls b fun x a=>c x (h.inB x (uq a)) (fun e=>h.pB (by subst e;simpa using a)),
   fun q f=>XB (h.dat q f) b fun x a=>c x (h.inQ f x (uq a)) (fun e=>h.pQ f (by subst e;simpa using a)),h.snd,h.foot,h.base⟩
theorem TableAt.putObj {W:World} {base t g:Nat} {F:List Nat} {us:List (Nat×Nat)} {lv:List Nat} {o:Obj} (h:TableAt W base t g F us lv) (a:Obj) (b:W.heap[k]? = some o) (c:o.isCells=false):TableAt (W.putObj k a) base t g F us lv:=by
 obtain⟨L,V,h⟩:=h;exact⟨L,V,YF a h.blk b c,ownsRow_putObj h.l a b c,ownsRow_putObj h.live a b c,h.foot,h.base,h.ulen,h.uok,h.lok⟩
structure KWri (w:World) (base d p:Nat) (F:List Nat) (D:PDisk) (a:Nat) (bs:List UInt8) (N b10:Nat) (pre:List Nat) (W:World):Prop where
 disk:∃ F',DiskAt W base d F' (Ye D a bs pre.length)/\(∀ x∈F',x∈F\/N<=x)
 size:N<=W.heap.size
 b3:Boxed W w.heap.size 143 (.pointer (some p))
 b6:Boxed W (w.heap.size+1) 32 (.int .i64 0)
 b10:Boxed W b10 3 (.int .i64 ((a+pre.length:Nat)))
 keep:Keep F w W
theorem KWri.kept {w A B:World} {base d p:Nat} {F:List Nat} {D:PDisk} (h:KWri w base d p F D a bs N b10 pre A) (b:kz A B):KWri w base d p F D a bs N b10 pre B:=by
 obtain⟨F',c,e⟩:=h.disk;exact⟨⟨F',c.kO b,e⟩,AA h.size b.size,KA h.b3 b sq,KA h.b6 b sq,KA h.b10 b sq,h.keep.tO b⟩
theorem KWri.turned {w W:World} {base d p:Nat} {F:List Nat} {D:PDisk} {l:Nat} {o b:Obj} (h:KWri w base d p F D a bs N b10 pre W) (f:w.heap.size<=l) (c:W.heap[l]? = some o) (e:o.isCells=false):KWri w base d p F D a bs N b10 pre (W.putObj l b):=by
 obtain⟨F',g,i⟩:=h.disk;exact⟨⟨F',g.putObj b c e,i⟩,by rw[World.putObj_size];exact h.size,JC b h.b3 c e,JC b h.b6 c e,JC b h.b10 c e,h.keep.putObj f b⟩
theorem VAg {w:World} {base d g t p:Nat} {Fd Ft Fw:List Nat} {B:Nat} {D:PDisk} {us:List (Nat×Nat)} {lv:List Nat} {W:PW} (h:LogIs w base d g t p Fd Ft Fw B D us lv W) (ha:D.acts<=900000000)
 (ig n ic:Nat) (is:List PItem) (b3:Rd w (some ig) (n*4) (is.flatMap itc)) (hl:is.length=n) (c:∀ i∈is,i.May) (h1:1<=n) (h6:n<=6)
 (A:Option Addr) (m cr:Nat) (ls:List (Value×List UInt8)) (H:Rws w A m ls) (bl:∀ q∈ls,q.2.length=64) (bm:m=ZG is) (U:1<=W.pos.off) (dv:W.pos.off+1+m<=24) (dw:W.pos.lsn<2147483647) :
 Calls prog 218 #[pq p,.slice (some ig) n ic,.slice A m cr] w fun e w'=>e=.returned zz/\∃ cs s sum,RecAs W.pos.mount W.pos.lsn W.pos.prev is (ls.map (·.2)) s sum/\sum<=4294967295 /\
  LogIs w' base d g t p cs Ft Fw B (Ye D (VC B W.pos.seg+W.pos.off) (s++ls.flatMap (·.2)) (1+m)) (YH us W.pos.seg W.pos.lsn) lv { W with pos:=⟨W.pos.seg,W.pos.off+1+m,W.pos.lsn+1,sum,W.pos.mount⟩ }/\Keep (Fd++(Ft++[p])) w w'/\Grow w Fd cs:=by
 obtain⟨I,dx,ct,V⟩:=h.wri;obtain⟨⟨O,E,G,af,ab⟩,cu,dy⟩:=W;obtain⟨b1,dz,cv,cw,bn⟩:=h.pos;have au:=V.blk;obtain⟨e0,e1,z,_⟩:=ZB V.its;obtain⟨BA,e2,bo,_⟩:=ZB V.bls;simp only at b1 dz cv cw bn au U dv dw ⊢;rw[z,bo] at au;have e3:=JB z;have e4:=JB bo;clear z bo;have ez:m<=6:=by have:=ZL is;omega
 have cx:=fun W (R:kz w W)=>callsIn_wide (n:=2).2 (JAk ab G af bn cv cw ig n ic is cr (b3.keep R) hl c h1 h6 (H.keep R) bl bm);have f0:=JB bm;have f1:=JB hl;clear bm hl;refine(callsIn_wide (n:=3)).1 ?_;refine callsIn_of_wp_marks func218 rfl trivial ?_ rfl;simp only[ntmps218,PL,Nat.reduceAdd,Nat.reduceSub]
 gi_wp2
 obtain⟨w1,ag⟩:=ex (w.alloc (.cells #[pq p] 143));obtain⟨M,ah⟩:=ex (w1.alloc (.cells #[zz] 32));rw[<- ag,<- ah];have s1:w1.heap.size=w.heap.size+1:=by rw[ag,World.size_alloc]
 have s2:M.heap.size=w.heap.size+2:=by rw[ah,World.size_alloc,s1]
 have k1:kz w w1:=by rw[ag];exact kq.alloc _
 have k2:kz w1 M:=by rw[ah];exact kq.alloc _
 have ai:kz w M:=k1.tO k2;have bp:Boxed M w.heap.size 143 (.pointer (some p)):=KA (by rw[ag];exact Boxed.new w _ _) k2 sq;have cy:Boxed M (w.heap.size+1) 32 (.int .i64 0):=by rw[ah,<- s1];exact Boxed.new w1 _ _
 have f2:=JB ag;have f3:=JB ah;have cz:=JB s2;clear ag ah s1 s2 k1 k2
 have a2:∀ W,kz M W->cl W w.heap.size (pq p)/\cl W (aq p 3) (ii O)/\cl W (aq p 5) (ii G)/\cl W (aq p 6) (ii af)/\cl W (aq p 7) (ii ab)/\cl W (aq p 1) (pq g)/\cl W (aq p 4) (ii E):=fun W R=>by
  obtain⟨e5,aj,c2,bq,c4,c5,d0,d1,e6,e7⟩:=ZE (au.kO (ai.tO R));exact⟨(KA bp R sq).cell,bq,c5,d0,d1,aj,c4⟩
 refine KJ (wpIn_wide.2 ?_);refine ZT (fun W=>cl W w.heap.size (pq p)/\cl W (aq p 3) (ii O)/\cl W (aq p 5) (ii G)/\cl W (aq p 6) (ii af)/\cl W (aq p 7) (ii ab)/\cl W (aq p 1) (pq g)/\cl W (aq p 4) (ii E)) 25 [[0,1,2,3,4,5,6,7,8,9,10,11,12,13,14,15,16,17],[18,19,20,21,22,23,24]] (a2 _ kq.drew) ?_;simp only[PI];iterate 18 (refine ZH ?_;simp only[Act.put,PU])
 have d2:=callsIn_wide (n:=2).1 (cx M.drew ai.drew);clear cx;refine YB rq (fun K a=>?_);go_wp2_with (refine d2.mono ?_;clear d2;rintro e Y ⟨u,rs,sum,rfl,av,b4,hu,d3⟩);have T:kz M Y:=kq.drew.tO d3;refine a _ _ ((a2 _ T)) ?_;clear a K
 try simp only[Act.put,PU]
 iterate 6 (refine ZH ?_;simp only[Act.put,PU])
 refine KB ?_;go_wp2_with fail
 gi_wp2
 have b5:=fun W (R:kz w W)=>Yb W g B (h.geom.kO R) O Z;have f4:=(JD h.geom.pos h.geom.few).2;have d4:=h.many;obtain⟨sa,br⟩:=ex (6+4*pgs B+24*O);rw[<- br] at b5;have e8:sa+24<=D.n/\sa<=300:=Z
 have e9:=JB br;have f5:=JB d4;clear br d4;obtain⟨f6,f7⟩:=e8;refine KJ (wpIn_wide.2 ?_);refine ZR (fun W=>cl W w.heap.size (pq p)/\cl W (aq p 3) (ii O)/\cl W (aq p 5) (ii G)/\cl W (aq p 6) (ii af)/\cl W (aq p 7) (ii ab)/\cl W (aq p 1) (pq g)/\cl W (aq p 4) (ii E)) 17 (.held 0 (.held 1 (.held 2 (.held 3 (.held 4 (.held 5 (.held 6 (.held 7 (.held 8 (.held 10 (.held 11 (.held 12 (.held 13 (.held 14 (.two 9 (.held 15 (.loud 16 .nil)) 16 (.loud 9 (.held 15 .nil))))))))))))))))) (a2 _ T.drew) ?_;simp only[RT.pick,PJ];iterate 14 (refine ZK ?_;simp only[Act.put,PU])
 obtain⟨L,d5⟩:=ex (sa+E);have d6:((sa:Nat):Int)+(E:Nat)=(L:Nat):=Z
 have d7:=JB d6;have d8:IntKind.i64.wrap ((L:Nat):Int)=(L:Nat):=by rw[IntKind.wrap_i64];omega
 have d9:=JB d8;clear d8;have bt:=JB d5;clear d6 d5;refine wpR_two ?_ ?_
 focus
  refine wpR_loud rq (fun K a=>?_);go_wp2_with (refine(b5 _ (ai.tO T.drew)).mono ?_;rintro e X ⟨rfl,a4⟩);have ac:kz M X:=T.drew.tO a4;refine a _ _ ((a2 _ ac)) ?_;clear a K
  try simp only[Act.put,PU]
  iterate 1 (refine ZK ?_;simp only[Act.put,PU])
  refine wpR_loud rq (fun K a=>?_);go_wp2_with fail;refine a _ _ ((a2 _ (ac.alloc _))) ?_;clear a K
  try simp only[Act.put,PU]
  refine wpR_nil ?_;have a0:=Boxed.new X 3 (.int .i64 (L:Nat));have a5:kz Y (X.alloc (.cells #[(L:Nat)] 3)):=(kq.drew.tO a4).alloc _;have bu:M.heap.size<=X.heap.size:=ac.size;go_wp2_with fail;rw[JA d7]
  try rw[JA d9]
  generalize bv:X.alloc (.cells #[(L:Nat)] 3)=W5 at a0 a5 ⊢;generalize bw:X.heap.size=b10 at a0 bu ⊢;clear bv bw ac a4
 rotate_left
 focus
  refine wpR_loud rq (fun K a=>?_);go_wp2_with fail;refine a _ _ ((a2 _ (T.drew.alloc _))) ?_;clear a K
  try simp only[Act.put,PU]
  refine wpR_loud rq (fun K a=>?_);go_wp2_with (refine(b5 _ (ai.tO (T.drew.alloc _))).mono ?_;rintro e X ⟨rfl,a4⟩);have ac:kz M X:=(T.drew.alloc _).tO a4;refine a _ _ ((a2 _ ac)) ?_;clear a K
  try simp only[Act.put,PU]
  iterate 1 (refine ZK ?_;simp only[Act.put,PU])
  refine wpR_nil ?_;have q9:Boxed X Y.heap.size 3 (.int .i64 0):=KA (Boxed.new Y.drew 3 (.int .i64 0)) a4 sq;have qc:=q9.cell;have qf:=q9.frozen;have bu:M.heap.size<=Y.heap.size:=T.size;have a0:=q9.set (.int .i64 (L:Nat));have a5:kz Y (X.setCell Y.heap.size (.int .i64 (L:Nat))):=((kq.drew.alloc _).tO a4).trans ((Keep.refl [Y.heap.size] _).setCell (.inl sq) _) iq;go_wp2_with fail;rw[JA d7]
  try rw[JA d9]
  generalize bv:X.setCell Y.heap.size (.int .i64 (L:Nat))=W5 at a0 a5 ⊢;generalize bw:Y.heap.size=b10 at a0 bu ⊢;clear bv bw ac a4 q9 qc qf
 all_goals
  have bx:kz w W5:=(ai.tO T).tO a5;have bz:Boxed W5 w.heap.size 143 (.pointer (some p)):=KA bp (T.tO a5) sq;have c6:Boxed W5 (w.heap.size+1) 32 (.int .i64 0):=KA cy (T.tO a5) sq
  have c7:(rs++ls.flatMap (·.2)).length=64*(1+m):=by
   rw[List.length_append,av.len]
   have:(ls.flatMap (·.2)).length=64*ls.length:=by
    clear hu H a2 av
    induction ls with
    | nil=>rfl
    | cons q ls ih=>rw[List.flatMap_cons,List.length_append,bl q sq,ih (fun r hr=>bl r (by simp[hr]))];simp;omega
   rw[this,H.len];omega
  obtain⟨bs,c8⟩:=ex (rs++ls.flatMap (·.2));rw[<- c8] at c7 hu;obtain⟨q,hq⟩:=ex (1+m);rw[<- hq] at c7;rw[c7] at hu;have aw:=QB hu a5;obtain⟨N,uc,rfl,ea⟩:=QN aw Z;have eb:=JB c8;have ec:=JB hq;have da:1<=q/\q<=7:=Z
  obtain⟨f8,da⟩:=da;have f9:E+q<=24:=Z
  have fa:w.heap.size+2<=N:=by have:=(own_mem hu (g:=N) (by simp[Value.ownBlock])).1;have:=JA cz;have:M.drew.heap.size=M.heap.size:=rfl;omega
  have ed:=JBM aw;have fb:=a0.lt;have ee:=JA cz;have fc:w.heap.size+2<=b10:=Z
  have ef:N≠b10:=fun e=>by subst e;exact a0.not_row (by decide) aw (by simp[Value.ownBlock])
  have eg:=JB aw;clear c8 hq ee hu a2 b5 T a5 ai d3 bp cy;gi_wp2_with (refine⟨trivial,?_⟩;refine(KAL _ _ _ rfl).mono ?_;rintro e w' ⟨rfl,rfl⟩);obtain⟨v,hv⟩:=ex (Value.slice (some N) (64*q) uc);rw[<- hv];have db:=JB hv;obtain⟨w6,ak⟩:=ex (W5.alloc (.cells #[v] 66));obtain⟨P,al⟩:=ex (w6.alloc (.cells #[ii 64] 3));rw[<- ak,<- al];have s6:w6.heap.size=W5.heap.size+1:=by rw[ak,World.size_alloc]
  have s7:P.heap.size=W5.heap.size+2:=by rw[al,World.size_alloc,s6]
  have k6:kz W5 w6:=by rw[ak];exact kq.alloc _
  have k7:kz w6 P:=by rw[al];exact kq.alloc _
  have a6:kz W5 P:=k6.tO k7;have b6:kz w P:=bx.tO a6;have aj:Boxed P W5.heap.size 66 v:=KA (by rw[ak];exact Boxed.new W5 _ _) k7 sq;have c2:Boxed P (W5.heap.size+1) 3 (.int .i64 64):=by rw[al,show W5.heap.size+1=w6.heap.size from Z];exact Boxed.new w6 _ _
  have dc:=QB aw a6;have dd:=h.disk.lt;have fd:w.heap.size+2<=W5.heap.size:=Z
  have h0:KWri w base d p Fd D L bs P.heap.size b10 [] P:=⟨⟨Fd,h.disk.kO b6,fun x f=>.inl f⟩,Nat.le_refl _,KA bz a6 sq,KA c6 a6 sq,KA a0 a6 sq,b6.zero⟩;have b7:=Ys 2 (b1:=W5.heap.size) N 0 q uc (w:=P) Z ea (by rw[<- JA db];exact aj) c2 Z;have c9:P.heap[N]? = W5.heap[N]? := a6.block N ed sq;rw[<- JA db] at b7;have ca:p∉Fd:=fun c=>h.dw _ c V.inP;have de:=JB s7;have J:=JB h;have fe:=JB V;clear hv
  refine Jb (n:=3) (gf:=390) (lb:=#[pq W5.heap.size,pq (W5.heap.size+1)]) 11 (fun x=>.slice (some (aq N (0+64*x))) 64 64) rfl (enters_of func390 (by kernel_rfl) rfl)
   b7
   (fun A B C h k=>⟨k.1.trans h.1,fun H=>k.2.1 (h.2.1 H),fun H=>k.2.2 (h.2.2 H)⟩)
   (fun W l o b8 hl ax U=>⟨World.putObj_heap_other Z,fun H=>JC b8 H ax U,fun H=>JC b8 H ax U⟩)
   (KWri w base d p Fd D L bs P.heap.size b10) (fun s A B h R=>h.kept R) (fun s W l o b8 h hl ax U=>h.turned Z ax U)
   (fun pre x W l o b8 h hl ax U=>⟨h.1,h.2.1,(World.putObj_heap_other Z).trans h.2.2⟩) h0 ?assign ?body ?done
  case assign=>
   rintro l x W K a;simp only[PU,Nat.zero_add] at a
   gi_wp2
   exact a
  case body=>
   rintro l pre x W z ⟨f,ff,df⟩;obtain⟨F',a3,a1⟩:=z.disk;have a7:∀ B,w.heap.size<=B->B<P.heap.size->B∉F':=fun B h1 h2 c=>(a1 B c).elim (fun c=>by have:=dd B c;omega) Z;have eh:=a7 w.heap.size Z Z;have ei:=a7 (w.heap.size+1) Z Z;have dg:=a7 b10 Z Z;have ej:=a7 W5.heap.size Z Z;have ek:=a7 (W5.heap.size+1) Z Z;have dh:=a7 N Z Z;have el:=a3.cells;have di:=z.size;have ay:=YN D L bs pre.length;have dj:=z.keep.size;have cb:(Go.Proofs.YtfedaknhecbehaaGreat.seg 64 bs x).length=64:=length_seg 64 bs x Z
   have b3:Rd W (some (aq N (0+64*x))) 64 (bys (Go.Proofs.YtfedaknhecbehaaGreat.seg 64 bs x)):=by
    refine⟨by simp[cb],fun _=>⟨N,0+64*x,rfl,Z,fun j u hu=>?_⟩⟩;have hj:j<64:=by have:=(List.getElem?_eq_some_iff.1 hu).1;simpa [cb] using this
    have h1:=QJ (JA eg) (i:=64*x+j) (u:=u) (by rw[<- hu,<- VAK,seg_get _ _ _ _ hj,Nat.mul_comm]);rw[show 0+64*x+j=64*x+j from Z];exact(World.cell?_of_block (w:=W5) (df.trans c9)).trans h1
   have b9:=(Kj (w:=W.drew) (base:=base) (d:=d) (F:=F') (a3.kO kq.drew) (ay.2.1.trans (JA J).off) (ay.2.2.1.trans (JA J).fuse) (by rw[ay.2.2.2.1];omega) (L+x) (by rw[ay.1];have:=JA bt;omega) 64 _ b3 (fun fg em=>by cases em;exact dh) (Nat.le_trans (JA J).le dj));simp only[Nat.zero_add] at b9;have ba:=au.keep z.keep ca;have p0:=(ba.cell 0).trans (show _=some (Value.pointer (some d)) from rfl);have dk:=z.b3.cell;have bb:=z.b10.cell;rw[<- f] at bb;obtain⟨y,hy⟩:=ex (L+x);rw[<- hy] at b9 bb;have fh:((y:Nat):Int)<=4096:=by have:=JA bt;omega
   have fi:p≠b10:=fun e=>by have:=V.blk.lt;omega
   have cc:=JB hy;have bc:=JB f;have am:=JB z;have cd:=JB a3;clear hy f z a3 ay b7 h0 aj c2 k6 k7 a6 b6 ak al s6 s7 c9 df cb b3 bz c6 a0 dc bx;simp only[PU]
   gi_wp2
   refine ZI (S:=(fun W'=>cl W' w.heap.size (pq p)/\cl W' p (pq d)/\cl W' b10 (y:Nat))) 6 [[0,1,2,3,4,5]] ⟨dk,p0,bb⟩ ?_;simp only[PI];iterate 6 (refine ZH ?_;simp only[Act.put,PU])
   refine KB ?_;go_wp2_with (refine b9.mono ?_;clear b9;rintro e Q ⟨rfl,dl,dm,ce,dn⟩);have z:=JA am;have az:Keep F' W Q:=(Keep.refl [] W).drew.zero.trans ce (fun x f=>.inl f);have en:=KA z.b3 az eh;have eo:=KA z.b6 az ei;have bd:=KA z.b10 az dg;rw[<- JA bc,<- JA cc] at bd;have fj:=bd.cell;have fk:=bd.frozen;have am:=JB z;clear z dk p0 bb
   gi_wp2
   have z:=JA am;have a3:=JA cd;have s7:=JA de;have a:Keep (b10 :: F') W (Q.setCell b10 (.int .i64 ((y:Nat)+1))):=(az.sub (fun x f=>List.mem_cons_of_mem _ f)).setCell (p:=⟨b10,0,none⟩) (.inl List.mem_cons_self) _;have bf:Keep [b10] Q (Q.setCell b10 (.int .i64 ((y:Nat)+1))):=kq.setCell (.inl sq) _;have ep:b10∉dl:=fun c=>(dn _ c).elim dg (fun h=>by have ad:W.heap.size<=b10:=h;omega);have eq:N<W.heap.size:=Z
   refine⟨a.fromCells ?_ _,⟨?_,fun H=>KA H a (by simp only[List.mem_cons,not_or];exact⟨Z,ej⟩),fun H=>KA H a (by simp only[List.mem_cons,not_or];exact⟨Z,ek⟩)⟩,⟨⟨dl,?_,fun x f=>?_⟩,Nat.le_trans di a.size,?_,?_,?_,?_⟩⟩
   . intro b H o U
     rcases List.mem_cons.1 H with rfl | H
     . rw[show W.heap[_]? = _ from z.b10] at U;cases U;rfl
     . exact el b H o U
   . exact a.block N eq (by simp only[List.mem_cons,not_or];exact⟨ef,dh⟩)
   . rw[List.length_append,List.length_singleton,Vi,<- JA bc]
     rw[<- JA cc];rw[<- JA bc] at dm;exact dm.keep bf (fun x f c=>by simp at c;subst c;exact ep f)
   . rcases dn x f with f | f
     . exact a1 x f
     . exact .inr (Nat.le_trans di f)
   . exact KA en bf (by simp;omega)
   . exact KA eo bf (by simp;omega)
   . have:=bd.set (.int .i64 ((y:Nat)+1))
     rw[List.length_append,List.length_singleton,<- Nat.add_assoc,<- JA bc,<- JA cc];exact this
   . exact(z.keep.trans az (fun x f=>(a1 x f).imp id Z)).trans bf iq
  case done=>
   intro D' xs W fl er z bg;subst er;obtain⟨F',a3,a1⟩:=z.disk;rw[List.length_range] at a3;have s7:=JA de;have dj:=z.keep.size;have ba:=au.keep z.keep ca;have es:=(h.tab.keep z.keep h.dt.symm);have a7:∀ B,w.heap.size<=B->B<P.heap.size->B∉F':=fun B h1 h2 c=>(a1 B c).elim (fun c=>by have:=dd B c;omega) Z;have b0:=h.tab.lt;have cf:p∉Ft:=fun c=>h.tw _ c V.inP;have dp:Apart F' Ft:=fun x f c=>(a1 x f).elim (fun hd=>h.dt x hd c) (fun fm=>by have:=b0 x c;omega);have fn:=V.blk.lt;have et:p∉F':=fun c=>(a1 p c).elim ca Z;have fo:p≠w.heap.size:=Z
   have fp:¬ w.heap.size=p:=Z
   have bh:=fun W=>Xe E m Z Z W;rw[show XD E m=E+1+m by unfold XD;omega] at bh;have dq:=VAx (w:=W.drew) (base:=base) (t:=t) (g:=g) (F:=Ft) (us:=us) (lv:=lv) (es.kO kq.drew) O G Z Z
   have dr:∀ W',Keep Ft W W'->cl W' w.heap.size (pq p)/\cl W' (aq p 2) (pq t)/\cl W' (aq p 3) (ii O)/\cl W' (aq p 5) (ii G)/\cl W' (aq p 4) (ii E):=fun W' R=>by
    obtain⟨e5,aj,c2,bq,c4,c5,d0,d1,e6,e7⟩:=ZE (ba.keep R cf);exact⟨(KA z.b3 R (fun c=>by have:=b0 _ c;omega)).cell,c2,bq,c5,c4⟩
   have am:=JB z;have cd:=JB a3;have a8:=JB s7;clear h0 aj c2 k6 k7 a6 b6 ak al s6 s7 b7 c9 bz c6 a0 dc bx z a3
   gi_wp2
   refine KJ (wpIn_wide.2 ?_);refine ZT (fun W'=>cl W' w.heap.size (pq p)/\cl W' (aq p 2) (pq t)/\cl W' (aq p 3) (ii O)/\cl W' (aq p 5) (ii G)/\cl W' (aq p 4) (ii E)) 14 [[0,1,2,3,4,5,6,7,8,9,10,11,12,13]] (dr _ kq.drew) ?_;simp only[PI];iterate 14 (refine ZH ?_;simp only[Act.put,PU])
   refine KB ?_;go_wp2_with (refine dq.mono ?_;clear dq;rintro e Q ⟨rfl,eu,ce⟩);have a9:Keep Ft W Q:=(Keep.refl [] W).drew.zero.trans ce (fun x f=>.inl f);have an:=ba.keep a9 cf;obtain⟨q3,-,-,q5,q4⟩:=dr _ a9;have fq:=an.frozen 4;have fr:=an.frozen 5;have fs:=an.frozen 6;have ft:=(an.cell 6).trans (show _=some (Value.int .i64 af) from rfl);have fu:IntKind.i64.wrap (((G:Nat):Int)+1)=(G:Nat)+1:=by rw[IntKind.wrap_i64];omega
   have bi:(Q.setCell (aq p 4) (.int .i64 (E+1+m:Nat))).cell? w.heap.size=some (.pointer (some p)):=by rw[World.cell?_setCell_other _ _ _ _ sq];exact q3
   have cg:((Q.setCell (aq p 4) (.int .i64 (E+1+m:Nat))).setCell (aq p 5) (.int .i64 ((G:Nat)+1))).cell? w.heap.size=some (.pointer (some p)):=by rw[World.cell?_setCell_other _ _ _ _ sq];exact bi
   have ch:=an.set 4 (.int .i64 (E+1+m:Nat));have fv:=(ch.cell 5).trans (show _=some (Value.int .i64 G) from sq);have fw:=ch.frozen 5;have ci:=ch.set 5 (.int .i64 ((G:Nat)+1));have fx:=(ci.cell 6).trans (show _=some (Value.int .i64 af) from sq);have fy:=ci.frozen 6;have fz:=ci.set 6 (.int .i64 (sum:Nat));have x6:=KA (JA am).b6 a9 (fun c=>by have:=b0 _ c;omega);have g0:=x6.cell;have g1:=x6.frozen;obtain⟨ao,bj⟩:=ex (((((Q.setCell (aq p 4) (.int .i64 ((E:Nat)+1+(m:Nat)))).setCell (aq p 5) (.int .i64 ((G:Nat)+1))).setCell (aq p 6) (.int .i64 (sum:Nat))).setCell ⟨w.heap.size+1,0,none⟩ (.int .i64 0)).drew);have ae:Keep [p] Q (((Q.setCell (aq p 4) (.int .i64 ((E:Nat)+1+(m:Nat)))).setCell (aq p 5) (.int .i64 ((G:Nat)+1))).setCell (aq p 6) (.int .i64 (sum:Nat))):=(((Keep.refl [p] Q).sc p 4).sc p 5).sc p 6;have ap:Keep [w.heap.size+1] (((Q.setCell (aq p 4) (.int .i64 ((E:Nat)+1+(m:Nat)))).setCell (aq p 5) (.int .i64 ((G:Nat)+1))).setCell (aq p 6) (.int .i64 (sum:Nat))) ao:=by rw[bj];exact(kq.setCell (.inl sq) _).drew
   have ds:Blk ao p 273 #[pq d,pq g,pq t,ii O,ii ((E:Nat)+1+(m:Nat)),ii ((G:Nat)+1),(sum:Nat),ii ab,.slice e0 cu.length e1,.slice BA ct.length e2]:=by
    have h1:=((an.set 4 (.int .i64 ((E:Nat)+1+(m:Nat)))).set 5 (.int .i64 ((G:Nat)+1))).set 6 (.int .i64 (sum:Nat));have h2:=h1.keep ap (by simp;omega);simpa using h2
   have dt:Boxed ao (w.heap.size+1) 32 (.int .i64 0):=by
    have h1:=KA x6 ae (by simp;omega);rw[bj];exact KA (h1.set (.int .i64 0)) (Keep.refl [] _).drew sq
   have ar:ao.heap[D']? = some (.deferred (some [])):=(ap.block D' (Nat.lt_of_lt_of_le (Array.getElem?_eq_some_iff.1 bg).1 (Nat.le_trans a9.size ae.size)) (by simp;have:=JA a8;omega)).trans ((ae.block D' (Nat.lt_of_lt_of_le (Array.getElem?_eq_some_iff.1 bg).1 a9.size) (by simp;have:=JA a8;omega)).trans ((a9.block D' (Array.getElem?_eq_some_iff.1 bg).1 (fun c=>by have:=b0 _ c;have:=JA a8;omega)).trans bg));have aa:=(JC (.deferred none) dt ar rfl).cell
   have b2:Keep (Fd++(Ft++[p])) w (ao.putObj D' (.deferred none)):=
    (((((JA am).keep.sub (m:=Fd++(Ft++[p])) (fun x f=>List.mem_append_left _ f)).trans a9 (fun x f=>.inl (by simp[f]))).trans ae (fun x f=>.inl (by simp at f;simp[f]))).trans ap iq).putObj (g:=D') (by have:=JA a8;omega) (.deferred none)
   have bk:=YN D L bs q
   have cj:LogIs (ao.putObj D' (.deferred none)) base d g t p F' Ft Fw B (Ye D L bs q) (YH us O G) lv { pos:=⟨O,E+1+m,G+1,sum,ab⟩,items:=cu,blocks:=dy }:=by
    have ev:g≠p:=fun e=>(JA J).gw (by rw[e];exact V.inP)
    have ew:g∉Fd++(Ft++[p]):=by
     simp only[List.mem_append,List.mem_singleton,not_or];exact⟨(JA J).gd,(JA J).gt,ev⟩
    refine⟨(((((JA cd).keep a9 dp).keep ae (fun x f c=>et (by simp at c;subst c;exact f))).keep ap (fun x f c=>a7 (w.heap.size+1) Z (by have:=JA a8;omega) (by simp at c;subst c;exact f)))).putObj _ ar rfl,(JA J).geom.keep b2 ew,
     (((eu.keep ae (fun x f c=>cf (by simp at c;subst c;exact f))).keep ap (fun x f c=>by have:=b0 x f;simp at c;omega))).putObj _ ar rfl,⟨I,dx,ct,?_⟩,dp,?_,(JA J).tw,?_,(JA J).gt,(JA J).gw,?_,bk.2.1.trans (JA J).off,bk.2.2.1.trans (JA J).fuse,bk.1.trans (JA J).many,Nat.le_trans (JA J).le b2.size⟩
    . refine V.setPosL ⟨O,E+1+m,G+1,sum,ab⟩ ?_ b2 (fun x f ey c=>?_)
      . rw[JA e3,JA e4]
        exact YF _ ds ar rfl
      . simp only[List.mem_append,List.mem_singleton] at c
        rcases c with c | c | c
        . exact(JA J).dw x c f
        . exact(JA J).tw x c f
        . exact ey c
    . intro x f c
      rcases a1 x f with ad | ad
      . exact(JA J).dw x ad c
      . have:=V.lt x c;have:=JA a8;omega
    . intro c
      rcases a1 g c with ad | ad
      . exact(JA J).gd ad
      . have:=(JA J).geom.lt;have:=JA a8;omega
    . exact⟨b1,(show E+1+m<=24 from Z),(show 1<=G+1/\G+1<=2147483647 from Z),b4,bn⟩
   have du:L=VC B O+E:=by rw[JA bt,JA e9];rfl
   have ck:Grow w Fd F':=fun x f=>(a1 x f).imp id (fun ad=>by have:=JA a8;omega);rw[du,JA eb,JA ec] at cj;have cm:=JB cj;have cn:=JB b2;have co:=JB ar;have cp:=JB bj;have cq:=JB aa;clear cj b2 ar bj aa ae ap ds dt bk du
   gi_wp2
   refine KJ (wpIn_wide.2 ?_);refine ZR (fun W'=>cl W' w.heap.size (pq p)) 26 (.held 0 (.held 1 (.held 2 (.held 3 (.held 4 (.held 5 (.held 6 (.held 8 (.held 9 (.held 11 (.held 12 (.held 13 (.held 14 (.held 17 (.two 7 (.two 10 (.loud 15 (.held 16 (.held 18 (.held 19 (.held 20 (.loud 21 (.held 22 (.held 23 (.held 24 (.loud 25 .nil)))))))))) 15 (.held 16 (.loud 10 (.held 18 (.held 19 (.held 20 (.loud 21 (.held 22 (.held 23 (.held 24 (.loud 25 .nil))))))))))) 15 (.held 16 (.loud 7 (.loud 10 (.held 18 (.held 19 (.held 20 (.loud 21 (.held 22 (.held 23 (.held 24 (.loud 25 .nil)))))))))))))))))))))))))) q3 ?_;simp only[RT.pick,PJ];iterate 14 (refine ZK ?_;simp only[Act.put,PU])
   refine wpR_two ?_ ?_
   . refine wpR_loud rq (fun K a=>?_)
     go_wp2_with fail;refine a _ _ (q3) ?_;clear a K
     try simp only[Act.put,PU]
     refine wpR_two ?_ ?_
     . refine wpR_loud rq (fun K a=>?_)
       go_wp2_with (refine(bh _).mono ?_;rintro e w' ⟨rfl,rfl⟩);refine a _ _ (q3) ?_;clear a K
       try simp only[Act.put,PU]
       refine wpR_loud rq (fun K a=>?_);go_wp2_with fail;refine a _ _ (q3) ?_;clear a K
       try simp only[Act.put,PU]
       iterate 1 (refine ZK ?_;simp only[Act.put,PU])
       iterate 3 (refine ZK ?_;simp only[Act.put,PU])
       refine wpR_loud rq (fun K a=>?_);go_wp2_with fail;refine a _ _ (bi) ?_;clear a K
       try simp only[Act.put,PU]
       iterate 3 (refine ZK ?_;simp only[Act.put,PU])
       refine wpR_loud rq (fun K a=>?_);go_wp2_with fail;refine a _ _ (cg) ?_;clear a K
       try simp only[Act.put,PU]
       refine wpR_nil ?_;go_wp2_with fail
       gi_wp2
       rw[<- JA cp];refine⟨sq,.inl ⟨_,_,rfl,run_takeDeferred (JA co),?_⟩⟩;have aa:=JA cq;refine⟨.int .i64 0,?_,rfl,F',rs,sum,av,b4,JA cm,JA cn,ck⟩;simp[results,results218,go_sem,aa]
     . refine wpR_loud rq (fun K a=>?_)
       go_wp2_with fail;refine a _ _ (q3) ?_;clear a K
       try simp only[Act.put,PU]
       iterate 1 (refine ZK ?_;simp only[Act.put,PU])
       refine wpR_loud rq (fun K a=>?_);go_wp2_with (refine(bh _).mono ?_;rintro e w' ⟨rfl,rfl⟩);refine a _ _ (q3) ?_;clear a K
       try simp only[Act.put,PU]
       iterate 3 (refine ZK ?_;simp only[Act.put,PU])
       refine wpR_loud rq (fun K a=>?_);go_wp2_with fail;refine a _ _ (bi) ?_;clear a K
       try simp only[Act.put,PU]
       iterate 3 (refine ZK ?_;simp only[Act.put,PU])
       refine wpR_loud rq (fun K a=>?_);go_wp2_with fail;refine a _ _ (cg) ?_;clear a K
       try simp only[Act.put,PU]
       refine wpR_nil ?_;go_wp2_with fail
       gi_wp2
       rw[<- JA cp];refine⟨sq,.inl ⟨_,_,rfl,run_takeDeferred (JA co),?_⟩⟩;have aa:=JA cq;refine⟨.int .i64 0,?_,rfl,F',rs,sum,av,b4,JA cm,JA cn,ck⟩;simp[results,results218,go_sem,aa]
   . refine wpR_loud rq (fun K a=>?_)
     go_wp2_with fail;refine a _ _ (q3) ?_;clear a K
     try simp only[Act.put,PU]
     iterate 1 (refine ZK ?_;simp only[Act.put,PU])
     refine wpR_loud rq (fun K a=>?_);go_wp2_with fail;refine a _ _ (q3) ?_;clear a K
     try simp only[Act.put,PU]
     refine wpR_loud rq (fun K a=>?_);go_wp2_with (refine(bh _).mono ?_;rintro e w' ⟨rfl,rfl⟩);refine a _ _ (q3) ?_;clear a K
     try simp only[Act.put,PU]
     iterate 3 (refine ZK ?_;simp only[Act.put,PU])
     refine wpR_loud rq (fun K a=>?_);go_wp2_with fail;refine a _ _ (bi) ?_;clear a K
     try simp only[Act.put,PU]
     iterate 3 (refine ZK ?_;simp only[Act.put,PU])
     refine wpR_loud rq (fun K a=>?_);go_wp2_with fail;refine a _ _ (cg) ?_;clear a K
     try simp only[Act.put,PU]
     refine wpR_nil ?_;go_wp2_with fail
     gi_wp2
     rw[<- JA cp];refine⟨sq,.inl ⟨_,_,rfl,run_takeDeferred (JA co),?_⟩⟩;have aa:=JA cq;refine⟨.int .i64 0,?_,rfl,F',rs,sum,av,b4,JA cm,JA cn,ck⟩;simp[results,results218,go_sem,aa]
end
structure PW.Ok (W:PW):Prop where
 few:W.items.length<=6
 may:∀ i∈W.items,i.May
 full:∀ b∈W.blocks,b.length=64
 many:W.blocks.length=ZG W.items
 fit:W.items≠[]->XD W.pos.off W.blocks.length<=23
def Emitted (B:Nat) (D:PDisk) (us:List (Nat×Nat)) (W:PW) (D':PDisk) (us':List (Nat×Nat)) (W':PW):Prop:=
 (W.items=[]/\D'=D/\us'=us/\W'=W) \/
 (W.items≠[]/\∃ D1 W1 rs sum,Begun B D W D1 W1/\RecAs W.pos.mount W.pos.lsn W.pos.prev W.items W.blocks rs sum/\sum<=4294967295/\D'=Ye D1 (VC B W.pos.seg+W1.pos.off) (rs++W.blocks.flatten) (1+W.blocks.length)/\us'=YH us W.pos.seg W.pos.lsn /\
   W'=⟨⟨W.pos.seg,W1.pos.off+1+W.blocks.length,W.pos.lsn+1,sum,W.pos.mount⟩,[],[]⟩)
theorem Begun.same {B:Nat} {D:PDisk} {W:PW} (h:Begun B D W D' W'):W'.items=W.items/\W'.blocks=W.blocks/\W'.pos.seg=W.pos.seg/\W'.pos.off=max W.pos.off 1/\W'.pos.lsn=W.pos.lsn/\W'.pos.prev=W.pos.prev/\W'.pos.mount=W.pos.mount/\D'.acts<=D.acts+1:=by
 rcases h with⟨h,rfl,rfl⟩ | ⟨h,b,-,rfl,rfl⟩
 . exact⟨rfl,rfl,rfl,Z,rfl,rfl,rfl,Z⟩
 exact⟨rfl,rfl,rfl,by simp[h],rfl,rfl,rfl,by simp[PDisk.write]⟩
theorem JAJ {w:World} {base d g t p:Nat} {Fd Ft Fw:List Nat} {B:Nat} {D:PDisk} {us:List (Nat×Nat)} {lv:List Nat} {W:PW} (h:LogIs w base d g t p Fd Ft Fw B D us lv W) (u:W.Ok) (ha:D.acts<=8000000) (ax:W.pos.lsn<2147483647) :
 Calls prog 94 #[pq p] w fun e w'=>e=.returned zz/\∃ a2 Fw' D' us' W',LogIs w' base d g t p a2 Ft Fw' B D' us' lv W'/\Emitted B D us W D' us' W'/\Keep (Fd++(Ft++Fw)) w w'/\Grow w Fd a2/\Grow w Fw Fw':=by
 obtain⟨I,ay,ls,j⟩:=h.wri;obtain⟨az,ic,rfl,_⟩:=ZB j.its;obtain⟨BA,bc,rfl,_⟩:=ZB j.bls;have R:=Ku w base d Fd D h.disk;rw[h.off] at R;obtain⟨A,C,E,F,G,H,J,K,f,r⟩:=ZE j.blk;by_cases L:W.items.length=0
 . rw[L] at f
   go_enter func94,ntmps94;go_wp2_with (apply mq R);go_ret;exact⟨rfl,Fd,Fw,D,us,W,h,.inl ⟨Aw L,rfl,rfl,rfl⟩,kq,Grow.refl _ _,Grow.refl _ _⟩
 have hb:=ZAe (w:=w) (base:=base) (d:=d) (g:=g) (t:=t) (p:=p) (Fd:=Fd) (Ft:=Ft) (Fw:=Fw) (B:=B) (D:=D) (us:=us) (lv:=lv) (W:=W) h Z;obtain⟨n,S⟩:=ex W.items.length;rw[<- S] at f;have b0:¬ ((n:Nat):Int)=0:=Z;have T:=JB S;have a3:=JB L;clear S L;go_enter func94,ntmps94;go_wp2_with (first | (apply mq R) | (refine hb.mono ?_;clear hb;rintro e w1 ⟨rfl,aj,a4,v,h1,U,a5,a6⟩));clear A C E F G H J K f r;obtain⟨b1,b2,a7,b⟩:=h1.wri;obtain⟨b3,a8,rfl,_⟩:=ZB b.its;obtain⟨a9,aa,rfl,_⟩:=ZB b.bls;obtain⟨k,l,o,y,i,M,s,V⟩:=U.same;have z:v.items.length=n:=by rw[k,<- JA T]
 have N:a7.length=W.blocks.length:=by rw[b.len,l]
 have ab:W.items≠[]:=fun e=>JA a3 (by rw[e];rfl);have ac:=u.fit ab;have ak:1<=n:=by have:=JA a3;have:=JA T;omega
 have al:n<=6:=by have:=JA T;have:=u.few;omega
 rw[z] at b;have O:=b.its;have ad:=b.blk;rw[z] at O;obtain⟨ig,b4,am,_⟩:=JE O Z;cases am;obtain⟨m,P⟩:=ex W.blocks.length;rw[<- P] at N ac;have X:=b.rws rfl;rw[N] at X ad
 have ae:=VAg (w:=w1.drew) (base:=base) (d:=d) (g:=g) (t:=t) (p:=p) (Fd:=aj) (Ft:=Ft) (Fw:=Fw) (B:=B) (D:=a4) (us:=us) (lv:=lv) (W:=v) (h1.kO kq.drew) Z ig n a8 v.items (Rd.of_ownN (QB O kq.drew)) z (by rw[k];exact u.may) ak al a9 m aa a7 (X.keep kq.drew)
  (fun q hq=>u.full _ (by rw[<- l,<- b.snd];exact Cv.2 ⟨q,hq,rfl⟩)) (by rw[P,u.many,k]) (by rw[y];omega) (by rw[y];unfold XD at ac;omega) (by rw[i];omega)
 obtain⟨A,C,E,F,G,H,J,K,f,r⟩:=ZE ad;have af:=JB P;have b5:=JB N;have b6:=JB z;have an:=JB (And.intro k (And.intro l (And.intro o (And.intro y (And.intro i (And.intro M (And.intro s V)))))));have ao:=JB U;clear P N z k l o y i M s V O X U;refine ZT (fun w'=>cl w' (aq p 8) (.slice (some ig) n a8)/\cl w' (aq p 9) (.slice a9 m aa)) 9 [[0,1,2,3,4,5,6,7,8]] ⟨f,r⟩ ?_;simp only[PI];iterate 9 refine wG ?_
 refine KB ?_;clear A C E F G H J K f r;go_wp2_with (refine ae.mono ?_;clear ae;rintro e Q ⟨rfl,ap,rs,ag,ah,ar,Y,au,av⟩;(obtain⟨b7,b8,b9,c⟩:=Y.wri);(have f8:=c.blk.frozen 8);(have f9:=c.blk.frozen 9);(obtain⟨A,C,E,F,G,H,J,K,f,r⟩:=ZE c.blk);(obtain⟨ba,bb,a0,_⟩:=ZB c.its);(obtain⟨bd,bf,a1,_⟩:=ZB c.bls);rw[a0] at f;rw[a1] at r;(have bg:=JB a0);(have bh:=JB a1);clear a0 a1);go_ret;obtain⟨k,l,o,y,i,M,s,V⟩:=JA an;have ai:Keep [p] Q ((Q.setCell (aq p 8) (.slice none 0 0)).setCell (aq p 9) (.slice none 0 0)):=((Keep.refl [p] Q).sc p 8).sc p 9;have aw:=(c.blk.set 8 (.slice none 0 0)).set 9 (.slice none 0 0)
 have h3:=Y.setWri (w':=(Q.setCell (aq p 8) (.slice none 0 0)).setCell (aq p 9) (.slice none 0 0)) (Fw':=[p]) (W':=⟨⟨W.pos.seg,v.pos.off+1+m,W.pos.lsn+1,ag,W.pos.mount⟩,[],[]⟩)
  ⟨.slice none 0 0,.slice none 0 0,[],by rw[<- o,<- i,<- s];simpa using aw,Ab _ _ _ _,Ab _ _ _ _,sq,rfl,rfl,c.base⟩
  (ai.sub (fun x a=>by simp at a;subst a;exact c.inP)) (fun x a=>.inl (by simp at a;subst a;exact c.inP)) (by have:=Y.pos;rw[o,i,s] at this;exact this)
 refine⟨rfl,ap,[p],_,_,_,h3,.inr ⟨ab,a4,v,rs,ag,JA ao,by rw[s,i,M,k,b.snd,l] at ah;exact ah,ar,?_,?_,?_⟩,?_,?_,?_⟩
 . rw[o,<- JA af]
   congr 2
   rw[<- l,<- b.snd,List.flatMap_def]
 . rw[o,i]
 . rw[<- JA af]
 . refine((a5.sub (m:=Fd++(Ft++Fw)) ?_).drew.trans au ?_).trans ai ?_
   . intro x a
     rcases AD.1 a with a | a
     . simp[a]
     simp at a;subst a;simp[j.inP]
   . intro x a
     rcases AD.1 a with a | a
     . exact(a6 x a).imp (fun h=>by simp[h]) id
     rcases AD.1 a with a | a
     . exact .inl (by simp[a])
     simp at a;subst a;exact .inl (by simp[j.inP])
   intro x a;simp at a;subst a;exact .inl (by simp[j.inP])
 . intro x a
   rcases av x a with a | a
   . exact a6 x a
   exact .inr (AA a5.size a)
 intro x a;simp at a;subst a;exact .inl j.inP
def Turned (B:Nat) (D:PDisk) (us:List (Nat×Nat)) (W:PW) (s:Nat) (D':PDisk) (us':List (Nat×Nat)) (W':PW):Prop:=
 ∃ rs hd sum,RecAs W.pos.mount W.pos.lsn W.pos.prev [⟨7,0,0,s⟩] [] rs sum/\HeadAs hd s W.pos.mount (W.pos.lsn+1) sum/\sum<=4294967295/\D'=(Ye D (VC B W.pos.seg+W.pos.off) rs 1).write (VC B s) hd/\us'=VE (YH us W.pos.seg W.pos.lsn) W.pos.seg 2/\W'={ W with pos:=⟨s,1,W.pos.lsn+1,sum,W.pos.mount⟩ }
theorem YAE (us:List (Nat×Nat)) (s x:Nat) (a:s<us.length):((YH us s x).getD s (0,0)).1=(us.getD s (0,0)).1:=by
 unfold YH;rw[JI (uq a),List.getElem_set_self]
theorem KBl {w:World} {base d g t p:Nat} {Fd Ft Fw:List Nat} {B:Nat} {D:PDisk} {us:List (Nat×Nat)} {lv:List Nat} {W:PW} (h:LogIs w base d g t p Fd Ft Fw B D us lv W) (s:Nat) (Y:s<=7) (ho:1<=W.pos.off) (ah:W.pos.off<=23) (ha:D.acts<=8000000) (a0:W.pos.lsn<2147483647)
 (M:(us.getD W.pos.seg (0,0)).1=1) :
 Calls prog 348 #[pq p,s] w fun e w'=>e=.returned zz/\∃ N D' us' W',LogIs w' base d g t p N Ft Fw B D' us' lv W'/\Turned B D us W s D' us' W'/\Keep (Fd++(Ft++[p])) w w'/\Grow w Fd N:=by
 obtain⟨I,ai,ls,hw⟩:=h.wri;obtain⟨f,j,k,c,l,o,r,u,v,y⟩:=ZE hw.blk;have aj:us.length=8:=by obtain⟨L,ak,ht⟩:=h.tab;exact ht.ulen
 obtain⟨b1,b2,b3,b4,b5⟩:=h.pos;obtain⟨al,G⟩:=ex W.pos.seg;rw[<- G] at c b1 M;have H:=JB G;clear G;obtain⟨O,J⟩:=ex (w.alloc (.cells #[ii 7,zz,zz,ii s] 178));have z:kz w O:=by rw[J];exact kq.alloc _
 have a1:Rd O (some w.heap.size) (1*4) ([⟨7,0,0,s⟩].flatMap itc):=by
  have:=Rd.of_blk (n:=4) (Blk.new w 178 #[ii 7,zz,zz,ii s]) sq;rw[J];simpa [itc] using this
 have P:=VAg (h.kO z) Z w.heap.size 1 1 [⟨7,0,0,s⟩] a1 rfl (fun i hi=>by simp at hi;subst hi;exact .inr (.inr (.inr (.inr ⟨rfl,rfl,rfl,(show s<=31 from Z)⟩)))) Z Z
  none 0 0 [] ⟨by exact⟨rfl,fun h=>absurd h Z⟩,sq⟩ sq rfl ho Z a0
 go_enter func348,ntmps348
 go_wp2_with (first
  | (rw[<- J]
     refine P.mono ?_;clear P;rintro e w2 ⟨rfl,am,Q,R,a2,S,A,a3,T⟩;obtain⟨an,ao,ap,U⟩:=A.wri;have K:=JBT A.tab W.pos.seg (by have:=h.pos.1;omega) (by rw[YAE _ _ _ (by have:=h.pos.1;omega),<- JA H];exact M);rw[<- JA H] at K;clear f j k c l o r u v y
     obtain⟨f,j,k,c,l,o,r,u,v,y⟩:=ZE U.blk)
  | (refine K.mono ?_
     clear K;rintro e C ⟨rfl,a4,E⟩;have b:=U.keep E A.tw.symm;have f3:=b.blk.frozen 3;have f4:=b.blk.frozen 4;clear f j k c l o r u v y;obtain⟨f,j,k,c,l,o,r,u,v,y⟩:=ZE b.blk))
 have F:Keep [p] C ((C.setCell (aq p 3) (.int .i64 s)).setCell (aq p 4) (.int .i64 0)):=((Keep.refl [p] C).sc p 3).sc p 4;have a5:=(b.blk.set 3 (.int .i64 s)).set 4 (.int .i64 0);have a6:=b.setPos ⟨s,0,W.pos.lsn+1,R,W.pos.mount⟩ (uq a5) F;have h3:=A.setTab a4 E;have h4:=h3.setWri ⟨_,_,_,a6⟩ (F.sub (fun x a=>by simp at a;subst a;exact b.inP)) (Grow.refl _ _) ⟨Y,(show 0<=24 from Z),(show 1<=W.pos.lsn+1/\W.pos.lsn+1<=2147483647 from Z),S,b5⟩;have a7:=(YN D (VC B W.pos.seg+W.pos.off) (Q++([]:List (Value×List UInt8)).flatMap (·.2)) (1+0)).2.2.2.1;have V:=ZAe h4 (by rw[a7];omega);go_wp2_with (refine V.mono ?_;clear V;rintro e w5 ⟨rfl,a8,a9,aa,h5,ab,ac,ad⟩);go_ret;have X:Keep (Fd++(Ft++[p])) w w2:=z.zero.trans a3 (fun x a=>.inl a);have ae:Keep (Fd++(Ft++[p])) w C:=X.trans E (fun x a=>.inl (by simp[a]));have af:=ae.trans F (fun x a=>.inl (by simp at a;simp[a]));refine⟨rfl,a8,a9,_,aa,h5,?_,af.trans ac ?_,(T.keep z).trans X.size (ad.keep (E.sub (m:=Ft++[p]) (fun x a=>by simp[a]) |>.trans (F.sub (m:=Ft++[p]) (fun x a=>by simp at a;simp[a])) (fun x a=>.inl a)))⟩
 . rcases ab with⟨h0,_⟩ | ⟨_,hd,ag,rfl,rfl⟩
   . exact absurd h0 sq
   refine⟨Q,hd,R,a2,ag,S,?_,?_,rfl⟩
   . simp
   rw[JA H]
 intro x a;rcases AD.1 a with a | a
 . rcases T x a with a | a
   . exact .inl (by simp[a])
   exact .inr (AA z.size a)
 exact .inl (by simp at a;simp[a])
def Qa (W:PW):Nat:=if W.items=[] then W.pos.off else XD W.pos.off W.blocks.length
def KP (off n m:Nat):Prop:=n<=6/\XD off m<24
instance (off n m:Nat):Decidable (KP off n m):=by unfold KP;infer_instance
def Roomed (B:Nat) (D:PDisk) (us:List (Nat×Nat)) (lv:List Nat) (W:PW) (m:Nat) (D':PDisk) (us':List (Nat×Nat)) (lv':List Nat) (W':PW):Prop:=
 (KP W.pos.off (W.items.length+1) (W.blocks.length+m)/\D'=D/\us'=us/\lv'=lv/\W'=W) \/
 (¬ KP W.pos.off (W.items.length+1) (W.blocks.length+m)/\KP (Qa W) 1 m/\Emitted B D us W D' us' W'/\lv'=lv) \/
 (¬ KP W.pos.off (W.items.length+1) (W.blocks.length+m)/\¬ KP (Qa W) 1 m/\lv'=lv.set (YC us) 0 /\
   ∃ D1 us1 W1,Emitted B D (VE us (YC us) 1) W D1 us1 W1/\Turned B D1 us1 W1 (YC us) D' us' W')
def ZM (i:PItem):Nat:=if i.loaded then 1 else 0
def Added (B:Nat) (D:PDisk) (us:List (Nat×Nat)) (lv:List Nat) (W:PW) (i:PItem) (bs:List UInt8) (D':PDisk) (us':List (Nat×Nat)) (lv':List Nat) (W':PW) (a:Nat):Prop:=
 ∃ W1,Roomed B D us lv W (ZM i) D' us' lv' W1/\W'=⟨W1.pos,W1.items++[i],if i.loaded then W1.blocks++[bs] else W1.blocks⟩ /\
   a=if i.loaded then VC B W1.pos.seg+XD W1.pos.off 0+W1.blocks.length else 0
theorem Zq (us:List (Nat×Nat)) (s:Nat) (u:Nat×Nat) (a:s<us.length):YD (us.set s u)+(if us[s].1=0 then 1 else 0)=YD us+(if u.1=0 then 1 else 0):=by
 induction us generalizing s with
 | nil=>simp at a
 | cons v us ih=>
   cases s with
   | zero=>
     simp only[AT,YD,Bu,List.getElem_cons_zero,CO]
     omega
   | succ s=>
     have:=ih s (uq a);simp only[AU,YD,Bu,List.getElem_cons_succ] at this ⊢;omega
theorem Qi (us:List (Nat×Nat)) (s x:Nat) (a:s<us.length):YD (YH us s x)=YD us:=by
 have:=Zq us s ((us.getD s (0,0)).1,x) a;rw[JI a] at this;unfold YH;rw[JI a];simp only at this;omega
theorem JQ (us:List (Nat×Nat)) (s x:Nat) (a:s<us.length):YD (VE us s x)+(if (us.getD s (0,0)).1=0 then 1 else 0)=YD us+(if x=0 then 1 else 0):=by
 have:=Zq us s (x,(us.getD s (0,0)).2) a;unfold VE;rw[JI a] at this ⊢;simpa using this
theorem YW (us:List (Nat×Nat)) (h:0<YD us):YC us<us.length/\(us.getD (YC us) (0,0)).1=0:=by
 have a:YC us<us.length:=by
  unfold YC;rw[List.findIdx_lt_length];obtain⟨u,b,c⟩:=B7.1 h;exact⟨u,b,c⟩
 refine⟨a,?_⟩;rw[JI a];have:=Ck (p:=fun u:Nat×Nat=>u.1 == 0) (xs:=us) (w:=a);exact CO.1 this
@[simp] theorem length_setStamp (us:List (Nat×Nat)) (s x:Nat):(YH us s x).length=us.length:=by simp[YH]
@[simp] theorem length_setState (us:List (Nat×Nat)) (s x:Nat):(VE us s x).length=us.length:=by simp[VE]
theorem VI (us:List (Nat×Nat)) (s x k:Nat):((YH us s x).getD k (0,0)).1=(us.getD k (0,0)).1:=by
 unfold YH;rw[AB,BT]
 split
 . rename_i e
   subst e
   split
   . rfl
   rename_i h;rw[AB,BF Z]
 rw[<- AB]
theorem VH (us:List (Nat×Nat)) (s x k:Nat) (a:s<us.length):((VE us s x).getD k (0,0)).1=if k=s then x else (us.getD k (0,0)).1:=by
 unfold VE;rw[AB,BT]
 split
 . rename_i e
   subst e;simp[a]
 rename_i e;rw[AL (fun h=>e h.symm),<- AB]
theorem Emitted.facts {B:Nat} {D:PDisk} {us:List (Nat×Nat)} {W:PW} (h:Emitted B D us W D' us' W') (e:W.Ok) :
 W'.items=[]/\W'.blocks=[]/\W'.pos.seg=W.pos.seg/\W'.pos.mount=W.pos.mount/\W.pos.lsn<=W'.pos.lsn/\W'.pos.lsn<=W.pos.lsn+1/\(W.items=[]->W'.pos.off=W.pos.off)/\(W.items≠[]->W'.pos.off=Qa W)/\D'.acts<=D.acts+8/\(us'=us\/us'=YH us W.pos.seg W.pos.lsn)/\(W'.pos.prev=W.pos.prev\/W'.pos.prev<=4294967295) /\
 D'.n=D.n/\D'.off=D.off/\D'.fuse=D.fuse/\D'.faults=D.faults:=by
 rcases h with⟨a,rfl,rfl,rfl⟩ | ⟨a,b,i,j,m,g,n,k,rfl,rfl,rfl⟩
 . have f:=e.many
   rw[a] at f;exact⟨a,Aw f,rfl,rfl,AG _,Nat.le_succ _,fun _=>rfl,fun h=>absurd a h,Z,.inl rfl,.inl rfl,rfl,rfl,rfl,rfl⟩
 obtain⟨o,p,r,l,s,t,u,v⟩:=g.same;have c:=YN b (VC B W.pos.seg+i.pos.off) (j++W.blocks.flatten) (1+W.blocks.length);have f:W.blocks.length<=6:=by rw[e.many];exact AA (ZL _) e.few
 have d:b.n=D.n/\b.off=D.off/\b.fuse=D.fuse/\b.faults=D.faults:=by
  rcases g with⟨_,rfl,_⟩ | ⟨_,x,_,rfl,_⟩ <;> exact⟨rfl,rfl,rfl,rfl⟩
 refine⟨rfl,rfl,rfl,rfl,sq,sq,fun h=>absurd h a,fun _=>?_,?_,.inr rfl,.inr k,c.1.trans d.1,c.2.1.trans d.2.1,c.2.2.1.trans d.2.2.1,c.2.2.2.2.1.trans d.2.2.2⟩
 . unfold Qa;rw[AL a];unfold XD;simp[l]
 rw[c.2.2.2.1];omega
structure Cap (D:PDisk) (us:List (Nat×Nat)) (W:PW) (k j:Nat):Prop where
 ok:W.Ok
 ul:us.length=8
 seg:W.pos.seg<8
 off:W.pos.off<=23
 opn:(us.getD W.pos.seg (0,0)).1=1
 cs:∃ c s,11*s+c<=k/\max (Qa W) 1<=1+2*c/\7<=YD us+s
 acts:D.acts<=1000+40*j
 lsn:W.pos.lsn<=1+4*j
theorem Cap.free {D:PDisk} {us:List (Nat×Nat)} {W:PW} (h:Cap D us W k j) (b:k<=50) (d:m<=1) (a:¬ KP (Qa W) 1 m):2<YD us:=by
 obtain⟨c,s,e,f,g⟩:=h.cs
 have:22<=Qa W:=by
  unfold KP XD at a;omega
 omega
theorem Cap.mono {D:PDisk} {us:List (Nat×Nat)} {W:PW} {a b:Nat} (h:Cap D us W k j) (f:k<=a) (g:j<=b):Cap D us W a b:=by
 obtain⟨c,s,i,d,e⟩:=h.cs;exact⟨h.ok,h.ul,h.seg,h.off,h.opn,⟨c,s,Z,d,e⟩,by have:=h.acts;omega,by have:=h.lsn;omega⟩
theorem KBL (p:PPos):PW.Ok ⟨p,[],[]⟩:=⟨sq,sq,sq,rfl,fun h=>absurd rfl h⟩
theorem PW.Ok.snoc {W:PW} (h:W.Ok) (hi:i.May) (f:i.loaded=true->bs.length=64) (e:KP W.pos.off (W.items.length+1) (W.blocks.length+ZM i)) :
 PW.Ok ⟨W.pos,W.items++[i],if i.loaded then W.blocks++[bs] else W.blocks⟩:=by
 refine⟨by have:=e.1;simp;omega,?_,?_,?_,fun _=>?_⟩
 . intro j a
   rcases AD.1 a with a | a
   . exact h.may j a
   simp at a;subst a;exact hi
 . intro b c
   simp only at c
   split at c
   . rename_i d
     rcases AD.1 c with a | a
     . exact h.full b a
     simp at a;subst a;exact f d
   exact h.full b c
 . simp only
   rw[Qh,<- h.many]
   split <;> simp
 have:=e.2;unfold ZM at this;simp only
 split <;> rename_i d <;> simp[d] at this ⊢ <;> omega
theorem VAA (p:PPos) (is:List PItem) (i:PItem) (a:List (List UInt8)):Qa ⟨p,is++[i],a⟩=XD p.off a.length:=by
 unfold Qa;rw[AL sq]
theorem Cap.emitted {B:Nat} {D:PDisk} {us:List (Nat×Nat)} {W:PW} (h:Cap D us W k j) (g:Emitted B D us W D' us' W') :
 W'.Ok/\us'.length=8/\W'.pos.seg=W.pos.seg/\W'.pos.off<=23/\YD us'=YD us/\(us'.getD W'.pos.seg (0,0)).1=1/\max W'.pos.off 1=max (Qa W) 1/\W'.items=[]/\W'.blocks=[]/\D'.acts<=D.acts+8/\W'.pos.lsn<=W.pos.lsn+1:=by
 obtain⟨c,d,f,u,v,l,m,n,o,e,w,y⟩:=g.facts h.ok
 have r:W'.pos.off=Qa W:=by
  by_cases a:W.items=[]
  . rw[m a];unfold Qa;rw[AP a]
  exact n a
 have z:Qa W<=23:=by
  unfold Qa
  split
  . exact h.off
  rename_i a;exact h.ok.fit a
 have s:=h.ul;have A:=h.seg
 have t:W'=⟨W'.pos,[],[]⟩:=by
  obtain⟨p,i,b⟩:=W';simp only at c d;rw[c,d]
 refine⟨by rw[t];exact KBL _,?_,f,Z,?_,?_,by rw[r],c,d,o,l⟩
 . rcases e with rfl | rfl <;> simp[s]
 . rcases e with rfl | rfl
   . rfl
   exact Qi _ _ _ Z
 rw[f];rcases e with rfl | rfl
 . exact h.opn
 rw[VI];exact h.opn
theorem Cap.mark {B:Nat} {D:PDisk} {us:List (Nat×Nat)} {W:PW} (h:Cap D us W k j) (b:Emitted B D us W D' us' W') (n:Nat) (l:n<=20) (a:PDisk) (m:a.acts<=D'.acts+n):Cap a us' W' k (j+1):=by
 obtain⟨d,e,o,f,p,g,r,i,t,u,v⟩:=h.emitted b;obtain⟨c,s,w,y,z⟩:=h.cs;have A:=h.seg;refine⟨d,e,Z,f,g,⟨c,s,Z,?_,Z⟩,by have:=h.acts;omega,by have:=h.lsn;omega⟩;have:Qa W'=W'.pos.off:=by unfold Qa;rw[AP i]
 rw[this];omega
def KO (us:List (Nat×Nat)) (W:PW) (m:Nat):Prop:=¬ KP W.pos.off (W.items.length+1) (W.blocks.length+m)->¬ KP (Qa W) 1 m->0<YD us
theorem Cap.frees {D:PDisk} {us:List (Nat×Nat)} {W:PW} (h:Cap D us W k j) (a:k<=50) (b:m<=1):KO us W m:=fun _ c=>by have:=h.free a b c;omega
theorem Cap.any {D:PDisk} {us:List (Nat×Nat)} {W:PW} (h:Cap D us W k j):Cap D us W 100 j:=by
 refine⟨h.ok,h.ul,h.seg,h.off,h.opn,⟨11,7,Z,?_,Z⟩,h.acts,h.lsn⟩
 have:Qa W<=23:=by
  unfold Qa
  split
  . exact h.off
  rename_i a;exact h.ok.fit a
 omega
theorem Cap.addedG {B:Nat} {D:PDisk} {us:List (Nat×Nat)} {lv:List Nat} {W:PW} (h:Cap D us W k j) (P:KO us W (ZM i)) (hi:i.May) (u:i.loaded=true->bs.length=64)
 (Q:Added B D us lv W i bs D' us' lv' W' a):Cap D' us' W' (k+1) (j+1):=by
 obtain⟨m,R,rfl,ha⟩:=Q;have hm:ZM i<=1:=by unfold ZM;split <;> omega
 have v:∀ b:List (List UInt8),(if i.loaded then b++[bs] else b).length=b.length+ZM i:=by
  intro b;unfold ZM;split <;> simp
 obtain⟨c,s,h1,f,S⟩:=h.cs;have H:=h.ul;have w:=h.seg;rcases R with⟨g,rfl,rfl,rfl,rfl⟩ | ⟨I,g,o,rfl⟩ | ⟨I,g,rfl,p,J,d,o,T⟩
 . refine⟨h.ok.snoc hi u g,H,w,h.off,h.opn,⟨c+1,s,Z,?_,S⟩,by have:=h.acts;omega,by have:=h.lsn;simp only;omega⟩
   rw[VAA,v];by_cases y:m.items=[]
   . have K:=h.ok.many
     rw[y] at K;have U:m.blocks.length=0:=K;rw[U];unfold Qa at f;rw[AP y] at f;unfold XD;omega
   unfold Qa at f;rw[AL y] at f;unfold XD at f ⊢;omega
 . obtain⟨L,r,z,M,N,A,V,t,l,X,Y⟩:=h.emitted o
   have C:KP m.pos.off (m.items.length+1) (m.blocks.length+ZM i):=by
    rw[t,l];simp only[Au,A6];refine⟨Z,?_⟩;have:=g.2;unfold XD at this ⊢;omega
   refine⟨L.snoc hi u C,r,by simp only;omega,uq M,uq A,⟨c+1,s,Z,?_,Z⟩,by have:=h.acts;omega,by have:=h.lsn;simp only;omega⟩;rw[VAA,v,l];unfold XD;simp only[Au];omega
 have a4:=P I g;obtain⟨n,E⟩:=YW us Z
 have O:W.pos.seg≠YC us:=by
  intro e;have:=h.opn;rw[e,E] at this;omega
 have a0:Cap D (VE us (YC us) 1) W (k+11) j:=by
  refine⟨h.ok,uq H,w,h.off,?_,⟨c,s+1,Z,f,?_⟩,by have:=h.acts;omega,by have:=h.lsn;omega⟩
  . rw[VH _ _ _ _ n,AL O];exact h.opn
  have:=JQ us (YC us) 1 n;rw[E] at this;simp at this;omega
 obtain⟨L,r,z,M,N,A,V,t,l,X,Y⟩:=a0.emitted o;obtain⟨F,hd,sum,t1,t2,t3,rfl,rfl,rfl⟩:=T;have a1:=YN p (VC B d.pos.seg+d.pos.off) F 1;have a5:(Ye p (VC B d.pos.seg+d.pos.off) F 1).acts=p.acts+1:=a1.2.2.2.1;have a6:22<=Qa W:=by unfold KP XD at g;omega
 have C:KP 1 (d.items.length+1) (d.blocks.length+ZM i):=by
  rw[t,l];unfold KP XD;simp;omega
 have a2:PW.Ok { d with pos:=⟨YC us,1,d.pos.lsn+1,sum,d.pos.mount⟩ }:=by
  have:({ d with pos:=⟨YC us,1,d.pos.lsn+1,sum,d.pos.mount⟩ }:PW)=⟨⟨YC us,1,d.pos.lsn+1,sum,d.pos.mount⟩,[],[]⟩:=by
   rw[t,l]
  rw[this];exact KBL _
 have G:d.pos.seg<J.length:=by rw[r,z];exact w
 refine⟨a2.snoc hi u C,uq r,by simp only;omega,sq,?_,⟨1,s+1,Z,?_,?_⟩,?_,?_⟩
 . simp only
   rw[VH _ _ _ _ (uq G),z,AL (fun e=>O e.symm),VI];rcases o.facts h.ok with⟨_,_,_,_,_,_,_,_,_,a3,_⟩;rcases a3 with rfl | rfl
   . rw[VH _ _ _ _ n,AP rfl]
   rw[VI,VH _ _ _ _ n,AP rfl]
 . rw[VAA,v,l]
   unfold XD;simp only[Au];omega
 . have q:=JQ (YH J d.pos.seg d.pos.lsn) d.pos.seg 2 (uq G)
   rw[VI,A,Qi _ _ _ G,N] at q;have:=JQ us (YC us) 1 n;rw[E] at this;simp at this q;omega
 . have:=h.acts
   show (Ye p (VC B d.pos.seg+d.pos.off) F 1).acts+1<=_;omega
 have:=h.lsn;simp only;omega
theorem Cap.added {B:Nat} {D:PDisk} {us:List (Nat×Nat)} {lv:List Nat} {W:PW} (h:Cap D us W k j) (b:k<=50) (hi:i.May) (c:i.loaded=true->bs.length=64)
 (d:Added B D us lv W i bs D' us' lv' W' a):Cap D' us' W' (k+1) (j+1):=h.addedG (h.frees b (by unfold ZM;split <;> omega)) hi c d
def JK (B:Nat) (D:PDisk) (W:PW) (a:Nat):List UInt8:=
 if VC B W.pos.seg+XD W.pos.off 0<=a/\a<VC B W.pos.seg+XD W.pos.off 0+W.blocks.length then W.blocks.getD (a-(VC B W.pos.seg+XD W.pos.off 0)) [] else seg 64 D.now a
structure Lies (B:Nat) (us:List (Nat×Nat)) (W:PW) (a:Nat):Prop where
 lo:6+4*pgs B<=a
 hi:a<198+4*pgs B
 used:(us.getD ((a-(6+4*pgs B)) / 24) (0,0)).1≠0
 here:(a-(6+4*pgs B)) / 24=W.pos.seg->(VC B W.pos.seg+1<=a/\a<VC B W.pos.seg+W.pos.off)\/(VC B W.pos.seg+XD W.pos.off 0<=a/\a<VC B W.pos.seg+XD W.pos.off 0+W.blocks.length)
theorem JAA {B:Nat} (b:VC B s<=a) (c:a<VC B s+24):(a-(6+4*pgs B)) / 24=s:=by unfold VC at *;omega
theorem QX (D:PDisk) (k:Nat) (b:List UInt8) (d:D.now.length=D.n*64) (f:k<D.n) (a:b.length=64) (x:Nat):seg 64 (D.write k b).now x=if x=k then b else seg 64 D.now x:=by
 have c:(k+1)*64<=D.now.length:=by rw[d];omega
 show seg 64 (laid D.now (k*64) b) x=_
 split
 . rename_i e
   subst e;exact seg_laid_same 64 D.now b x c a
 rename_i e;exact seg_laid_other 64 D.now b k x c a e
theorem Xh (D:PDisk) (k:Nat) (b:List UInt8) (a:D.now.length=D.n*64) (c:k<D.n) (d:b.length=64):(D.write k b).now.length=(D.write k b).n*64:=by
 show (laid D.now (k*64) b).length=D.n*64;unfold laid;simp;omega
theorem Xk (D:PDisk) (a:Nat) (bs:List UInt8) (k:Nat) (g:D.now.length=D.n*64) (i:a+k<=D.n) (j:64*k<=bs.length) :
 (Ye D a bs k).now.length=(Ye D a bs k).n*64/\∀ x,seg 64 (Ye D a bs k).now x=if a<=x/\x<a+k then seg 64 bs (x-a) else seg 64 D.now x:=by
 induction k with
 | zero=>exact⟨g,fun x=>by rw[AL Z];rfl⟩
 | succ k ih=>
   obtain⟨b,h⟩:=ih Z Z;have c:=YN D a bs k;rw[Vi];have d:(seg 64 bs k).length=64:=length_seg 64 bs k Z;refine⟨Xh _ _ _ b (by rw[c.1];omega) d,fun x=>?_⟩;rw[QX _ _ _ b (by rw[c.1];omega) d,h];by_cases e:x=a+k
   . subst e
     rw[AP rfl,AP Z]
     congr 1;omega
   rw[AL e];by_cases f:a<=x/\x<a+k
   . rw[AP f,AP Z]
   rw[AL f,AL Z]
theorem Vz (a:List (List UInt8)) (h:∀ b∈a,b.length=64) (i:Nat) (hi:i<a.length):seg 64 a.flatten i=a[i]:=by
 induction a generalizing i with
 | nil=>simp at hi
 | cons b a ih=>
   have d:b.length=64:=h b sq
   cases i with
   | zero=>simp[seg,CK,d,AH]
   | succ i=>
     have:=ih (fun c e=>h c (by simp[e])) i (uq hi);simp only[List.getElem_cons_succ];rw[<- this];unfold seg;rw[Dt,CJ];rw[BM Z,Ad]
     congr 2
     omega
theorem Jl (a:List (List UInt8)) (h:∀ b∈a,b.length=64):a.flatten.length=64*a.length:=by
 induction a with
 | nil=>rfl
 | cons b a ih=>
   rw[Dt,AE,h b sq,ih (fun c d=>h c (by simp[d]))];simp;omega
theorem Emitted.reads {B:Nat} {D:PDisk} {us:List (Nat×Nat)} {W:PW} (h:Emitted B D us W D' us' W') (j:W.Ok) (i:D.now.length=D.n*64) (k:D.n=198+4*pgs B) (H:W.pos.seg<8) (I:W.pos.off<=23) :
 D'.now.length=D'.n*64/\∀ a,Lies B us W a->Lies B us' W' a/\JK B D' W' a=JK B D W a:=by
 rcases h with⟨l,rfl,rfl,rfl⟩ | ⟨l,f,d,s,J,m,n,K,rfl,rfl,rfl⟩
 . exact⟨i,fun a b=>⟨b,rfl⟩⟩
 obtain⟨L,M,N,t,O,P,Q,R⟩:=m.same;have S:=n.len;have u:=j.fit l;have v:=Jl W.blocks j.full;have T:d.pos.off=max W.pos.off 1:=t;have U:d.pos.off+1+W.blocks.length<=23:=by unfold XD at u;omega
 have w:f.now.length=f.n*64/\f.n=D.n/\∀ x,x≠VC B W.pos.seg\/0<W.pos.off->seg 64 f.now x=seg 64 D.now x:=by
  rcases m with⟨_,rfl,_⟩ | ⟨z,x,o,rfl,_⟩
  . exact⟨i,rfl,fun _ _=>rfl⟩
  have p:VC B W.pos.seg<D.n:=by rw[k];unfold VC;omega
  refine⟨Xh _ _ _ i p o.len,rfl,fun y V=>?_⟩;rw[QX _ _ _ i p o.len,AL Z]
 obtain⟨A,C,E⟩:=w;have r:=Xk f (VC B W.pos.seg+d.pos.off) (s++W.blocks.flatten) (1+W.blocks.length) A (by rw[C,k];unfold VC;omega) (by rw[AE,n.len,v];omega);refine⟨r.1,fun a b=>⟨⟨b.lo,b.hi,by rw[VI];exact b.used,fun e=>?_⟩,?_⟩⟩
 . simp only at e ⊢
   left;rcases b.here e with c | c <;> (try unfold XD at c) <;> omega
 unfold JK;simp only[Au];rw[AL Z,r.2];by_cases g:VC B W.pos.seg+XD W.pos.off 0<=a/\a<VC B W.pos.seg+XD W.pos.off 0+W.blocks.length
 . rw[AP g]
   obtain⟨w1,F⟩:=g;unfold XD at w1 F;rw[AP Z];have hi:a-(VC B W.pos.seg+XD W.pos.off 0)<W.blocks.length:=by unfold XD;omega
   rw[AB,AC hi];simp only[Co];rw[<- Vz W.blocks j.full _ hi];have:a-(VC B W.pos.seg+d.pos.off)=(a-(VC B W.pos.seg+XD W.pos.off 0))+1:=by unfold XD;omega
   rw[this];unfold seg;rw[CJ,BM Z,Ad]
   congr 2
   omega
 rw[AL g]
 have G:¬ (VC B W.pos.seg+d.pos.off<=a/\a<VC B W.pos.seg+d.pos.off+(1+W.blocks.length)):=by
  rintro⟨X,Y⟩;rcases b.here (JAA Z Z) with c | c
  . omega
  exact g c
 rw[AL G];refine E a ?_;by_cases z:W.pos.off=0
 . left
   intro e;rcases b.here (JAA Z Z) with c | c
   . omega
   exact g c
 right;omega
theorem Turned.reads {B:Nat} {D:PDisk} {us:List (Nat×Nat)} {W:PW} (h:Turned B D us W s D' us' W') (n:D.now.length=D.n*64) (i:D.n=198+4*pgs B) (p:W.pos.seg<8) (r:W.pos.off<=23) (t:1<=W.pos.off) (u:s<8) (v:W.pos.seg≠s) (w:us.length=8) (j:W.blocks=[]) :
 D'.now.length=D'.n*64/\∀ a,Lies B us W a->(a-(6+4*pgs B)) / 24≠s->Lies B us' W' a/\JK B D' W' a=JK B D W a:=by
 obtain⟨c,y,z,k,d,A,rfl,rfl,rfl⟩:=h;have C:=k.len;have E:=d.len;have f:=Xk D (VC B W.pos.seg+W.pos.off) c 1 n (by rw[i];unfold VC;omega) (by have:=k.len;omega);have o:=YN D (VC B W.pos.seg+W.pos.off) c 1;have l:VC B s<(Ye D (VC B W.pos.seg+W.pos.off) c 1).n:=by rw[o.1,i];unfold VC;omega
 refine⟨Xh _ _ _ f.1 l d.len,fun a b m=>⟨⟨b.lo,b.hi,?_,fun e=>absurd e m⟩,?_⟩⟩
 . rw[VH _ _ _ _ (by simp;omega),VI]
   split
   . omega
   exact b.used
 unfold JK;rw[j];simp only[Au];rw[AL Z,AL Z,QX _ _ _ f.1 l d.len,f.2];rw[AL (fun e=>m (by subst e;exact JAA (AG _) Z))];rw[AL];rintro⟨F,G⟩;rcases b.here (JAA Z Z) with g | g
 . omega
 rw[j] at g;simp at g;omega