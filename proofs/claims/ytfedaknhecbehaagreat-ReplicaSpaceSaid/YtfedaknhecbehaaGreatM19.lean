/- Lemmas of the proof, with their conditions. -/
import Derived.Test.YtfedaknhecbehaaGreatM14
import Derived.Test.YtfedaknhecbehaaGreatM18
namespace Go.Proofs.YtfedaknhecbehaaGreat
open Tryz Go.RowKit Go.Shelf
variable {D':PDisk} {us':List (Nat×Nat)} {lv' pre:List Nat} {W':PW} {n a k N b10 j m s:Nat} {P:Program} {Q:Exit->Act->World->Prop} {bs:List UInt8} {i:PItem}
set_option linter.all false
set_option maxHeartbeats 4000000
set_option maxRecDepth 100000
namespace TableAt
variable {w w':World} {base t g:Nat} {F l:List Nat} {us:List (Nat×Nat)} {lv:List Nat}
theorem keep (h:TableAt w base t g F us lv) (a:Keep l w w') (b:Apart F l):TableAt w' base t g F us lv:=by obtain⟨L,V,h⟩:=h;exact⟨L,V,h.keep a b⟩
theorem kO (h:TableAt w base t g F us lv) (a:kz w w'):TableAt w' base t g F us lv:=h.keep a Apart.nil_right
theorem lt (h:TableAt w base t g F us lv):∀ x∈F,x<w.heap.size:=by obtain⟨L,V,h⟩:=h;exact h.lt
theorem ge (h:TableAt w base t g F us lv):∀ x∈F,base<=x:=by obtain⟨L,V,h⟩:=h;exact h.ge
end TableAt
def PPos.Ok (p:PPos):Prop:=p.seg<=7/\p.off<=24/\(1<=p.lsn/\p.lsn<=2147483647)/\p.prev<=4294967295/\(1<=p.mount/\p.mount<=2147483647)
structure LogIs (w:World) (base d g t p:Nat) (Fd Ft Fw:List Nat) (B:Nat) (D:PDisk) (us:List (Nat×Nat)) (lv:List Nat) (W:PW):Prop where
 disk:DiskAt w base d Fd D
 geom:GeomAt w g B
 tab:TableAt w base t g Ft us lv
 wri:WriterAt w base p d g t Fw W
 dt:Apart Fd Ft
 dw:Apart Fd Fw
 tw:Apart Ft Fw
 gd:g∉Fd
 gt:g∉Ft
 gw:g∉Fw
 pos:W.pos.Ok
 off:D.off=false
 fuse:D.fuse = -1
 many:D.n=198+4*pgs B
 le:base<=w.heap.size
namespace LogIs
variable {w w':World} {base d g t p:Nat} {Fd Ft Fw l:List Nat} {B:Nat} {D:PDisk} {us:List (Nat×Nat)} {lv:List Nat} {W:PW}
theorem kO (h:LogIs w base d g t p Fd Ft Fw B D us lv W) (a:kz w w'):LogIs w' base d g t p Fd Ft Fw B D us lv W:=
 ⟨h.disk.kO a,h.geom.kO a,h.tab.kO a,h.wri.kO a,h.dt,h.dw,h.tw,h.gd,h.gt,h.gw,h.pos,h.off,h.fuse,h.many,AB h.le a.size⟩
theorem keep (h:LogIs w base d g t p Fd Ft Fw B D us lv W) (a:Keep l w w') (b:g∉l) (c:Apart Fd l) (e:Apart Ft l) (f:Apart Fw l):LogIs w' base d g t p Fd Ft Fw B D us lv W:=
 ⟨h.disk.keep a c,h.geom.keep a b,h.tab.keep a e,h.wri.keep a f,h.dt,h.dw,h.tw,h.gd,h.gt,h.gw,h.pos,h.off,h.fuse,h.many,AB h.le a.size⟩
theorem setDisk (h:LogIs w base d g t p Fd Ft Fw B D us lv W) {b:List Nat} (e:DiskAt w' base d b D') (a:Keep Fd w w') (c:Grow w Fd b) (f:D'.off=D.off) (i:D'.fuse=D.fuse) (j:D'.n=D.n):LogIs w' base d g t p b Ft Fw B D' us lv W:=
 ⟨e,h.geom.keep a h.gd,h.tab.keep a h.dt.symm,h.wri.keep a h.dw.symm,h.dt.grow c h.tab.lt,h.dw.grow c h.wri.lt,h.tw,fun k=>(c g k).elim h.gd (by have:=h.geom.lt;omega),h.gt,h.gw,h.pos,f.trans h.off,i.trans h.fuse,j.trans h.many,AB h.le a.size⟩
theorem setTab (h:LogIs w base d g t p Fd Ft Fw B D us lv W) (b:TableAt w' base t g Ft us' lv') (a:Keep Ft w w'):LogIs w' base d g t p Fd Ft Fw B D us' lv' W:=
 ⟨h.disk.keep a h.dt,h.geom.keep a h.gt,b,h.wri.keep a h.tw.symm,h.dt,h.dw,h.tw,h.gd,h.gt,h.gw,h.pos,h.off,h.fuse,h.many,AB h.le a.size⟩
theorem setWri (h:LogIs w base d g t p Fd Ft Fw B D us lv W) {Fw':List Nat} (c:WriterAt w' base p d g t Fw' W') (a:Keep Fw w w') (b:Grow w Fw Fw') (e:W'.pos.Ok):LogIs w' base d g t p Fd Ft Fw' B D us lv W':=
 ⟨h.disk.keep a h.dw,h.geom.keep a h.gw,h.tab.keep a h.tw,c,h.dt,h.dw.grow_r b h.disk.lt,h.tw.grow_r b h.tab.lt,h.gd,h.gt,fun f=>(b g f).elim h.gw (by have:=h.geom.lt;omega),e,h.off,h.fuse,h.many,AB h.le a.size⟩
end LogIs
def JC (B s:Nat):Nat:=6+4*pgs B+24*s
structure HeadAs (h:List UInt8) (seg mount lsn prev:Nat):Prop where
 len:h.length=64
 is:h=sealed 64 (QAP seg mount lsn prev)
def Begun (B:Nat) (D:PDisk) (W:PW) (D':PDisk) (W':PW):Prop:=
 (0<W.pos.off/\D'=D/\W'=W)\/(W.pos.off=0/\∃ h:List UInt8,HeadAs h W.pos.seg W.pos.mount W.pos.lsn W.pos.prev/\D'=D.write (JC B W.pos.seg) h/\W'={ W with pos:={ W.pos with off:=1 } })
theorem VAZ {w:World} {base d g t p:Nat} {Fd Ft Fw:List Nat} {B:Nat} {D:PDisk} {us:List (Nat×Nat)} {lv:List Nat} {W:PW} (h:LogIs w base d g t p Fd Ft Fw B D us lv W) (ha:D.acts<=1000000000) :
 Calls prog 217 #[pq p] w fun e w'=>e=.returned zz/\∃ A D' W',LogIs w' base d g t p A Ft Fw B D' us lv W'/\Begun B D W D' W'/\Keep (Fd++[p]) w w'/\Grow w Fd A:=by
 obtain⟨I,af,ls,y⟩:=h.wri;obtain⟨⟨z,G,H,J,L⟩,ag,ah⟩:=W;have a4:=h.pos;obtain⟨b1,b2,M,N,O⟩:=a4;have l:=y.blk;have a5:=XB y.its;have a6:=XB y.bls;simp only at b1 b2 M N O l;obtain⟨ai,ic,P,_⟩:=a5;obtain⟨aj,bc,Q,_⟩:=a6;by_cases ho:0<G
 . obtain⟨c,f,n,b,o,i,j,k,q,r⟩:=QE l
   have ak:(0:Int)<(G:Nat):=Z
   go_enter func217,ntmps217;go_wp2_with fail;go_ret;exact⟨rfl,Fd,D,_,h,.inl ⟨ho,rfl,rfl⟩,kq,Grow.refl _ _⟩
 obtain rfl:G=0:=Z
 rw[P,Q] at l;have al:=ZB P;have am:=ZB Q;clear P Q;obtain⟨c,f,n,b,o,i,j,k,q,r⟩:=QE l;have Y:=fun W=>YAa z L H J Z O M N W;go_enter func217,ntmps217;go_wp2_with fail;clear c f n b o i j k q r;obtain⟨c,f,n,b,o,i,j,k,q,r⟩:=QE l.drew;refine ZT (fun w'=>cl w' (aq p 3) (ii z)/\cl w' (aq p 5) (ii H)/\cl w' (aq p 6) (ii J)/\cl w' (aq p 7) (ii L)) 26 [[0,1,2,3,4,5,6,7,8,9,10,11,12,13,14,15,16,17,18,19,20],[21,22,23,24,25]] ⟨b,i,j,k⟩ ?_;simp only[PI];iterate 21 refine wG ?_
 refine JB rq fun K R=>?_;go_wp2_with (refine(Y _).mono ?_;clear Y;rintro e w2 ⟨u,rfl,S,a7⟩);clear c f n b o i j k q r;have C:kz w w2:=kq.drew.tO a7;obtain⟨c,f,n,b,o,i,j,k,q,r⟩:=QE (l.kO C);refine R _ _ (⟨b,i,j,k⟩) ?_
 iterate 4 refine wG ?_
 refine VB ?_;go_wp2_with fail;clear c f n b o i j k q r;obtain⟨c,f,n,b,o,i,j,k,q,r⟩:=QE (l.kO C).drew;refine ZT (fun w'=>cl w' p (pq d)/\cl w' (aq p 1) (pq g)/\cl w' (aq p 3) (ii z)) 15 [[0,1,2,3,4,5,6,7,8,9,10,11,12,14],[13]] ⟨c,f,b⟩ ?_;simp only[PI];iterate 14 refine wG ?_
 refine JB rq fun K R=>?_;go_wp2_with (refine(Zg _ g B (h.geom.kO C.drew) z Z).mono ?_;rintro e w3 ⟨rfl,a0⟩);have s:kz w w3:=C.drew.tO a0;clear c f n b o i j k q r;obtain⟨c,f,n,b,o,i,j,k,q,r⟩:=QE (l.kO s);refine R _ _ (⟨c,f,b⟩) ?_
 try simp only[Act.put,PU]
 refine VB ?_;obtain⟨T,uc,rfl,an⟩:=JI S Z;have a8:=QB (QB S kq.drew) a0;have a9:=own_mem S (g:=T) (by simp[Value.ownBlock]);have U:=Zt (h.disk.kO s) h.off h.fuse ha (JC B z) (by rw[h.many];unfold JC;omega) uc _ (Rd.of_own a8) (fun a aa V=>by cases aa;have h2:T<w.heap.size:=h.disk.lt _ V;have h1:w.heap.size<=T:=a9.1;omega) (AB h.le s.size);unfold JC at U;go_wp2_with (refine U.mono ?_;clear U;rintro e E ⟨rfl,A,ab,F,a1⟩;(have a2:=(l.kO s).keep F (fun V=>h.dw _ V y.inP));(obtain⟨e0,e1,e2,e3,e4,e5,e6,e7,e8,e9⟩:=QE a2);(have f4:=a2.frozen 4));go_ret;have X:Keep [p] E (E.setCell (aq p 4) (.int .i64 1)):=kq.setCell (.inl sq) _;have a3:=(y.kO s).keep F h.dw.symm;have ac:=a3.blk.set 4 (.int .i64 1);have ad:=a3.setPos ⟨z,1,H,J,L⟩ (w':=E.setCell (aq p 4) (.int .i64 1)) (uq ac) X;have h4:=(h.kO s).setDisk ab F a1 rfl rfl rfl;have h5:=h4.setWri ⟨_,_,_,ad⟩ (X.sub (fun x v=>by simp at v;subst v;exact y.inP)) (Grow.refl _ _) ⟨b1,(show 1<=24 from Z),M,N,O⟩;have ae:Keep (Fd++[p]) w (E.setCell (aq p 4) (.int .i64 1)):=((s.sub (m:=Fd++[p]) sq).trans F (fun x v=>.inl (At _ v))).trans X (fun x v=>.inl (A6 _ v));exact⟨rfl,A,_,_,h5,.inr ⟨rfl,_,⟨KAG _ _ Z (by rw[XZ];omega),rfl⟩,rfl,rfl⟩,ae,fun x v=>(a1 x v).imp id (fun h=>AB s.size h)⟩
section
open Go.RowKit Go.Shelf
attribute [local go_sem] AW
def YBm (Q:Exit->Act->World->Prop):Exit->Act->World->Prop
 | .panic _,_,_=>False
 | e,a,w=>Q e a w
theorem XU {F:Fence} {c:Code} {K:Act->World->Prop} {a:Act} {w:World} (h:c.wpIn F n P (Exit.then K (YBm Q)) a w):c.wpIn F n P (Exit.then K Q) a w:=
 wpIn_mono h (fun e a w h=>by cases e <;> first | exact h | exact h.elim)
theorem ZZ {b:Type} {g:Operand} {d:Tmp} {e h:Code} {a:Act} {w:World} {gf:Nat} {lb:Array Value} (q:Nat) (f:b->Value)
 (j:a.eval g=.func (.func gf) #[] lb) (k:∀ i w,(callFunc gf i).run P w=.ok (.enter gf i) w)
 {Fx:List b->b->World->Prop} {c:World->World->Prop} {S:List b->Prop} (m:ZBI (n-1) P gf lb (fun x=>#[f x]) Fx c S w)
 (p:∀ A B C,c A B->c B C->c A C) (r:∀ W l o t,w.heap.size<=l->W.heap[l]? = some o->o.isCells=false->c W (W.putObj l t))
 (I:List b->World->Prop) (u:∀ s A B,I s A->kz A B->I s B) (v:∀ s,Kn w.heap.size (I s)) (y:∀ pre x,Kn w.heap.size (Fx pre x)) (z:I [] w)
 (E:∀ (l:Nat) (x:b) (W:World) (K:Act->World->Prop),K { tmps:=(a.tmps.setIfInBounds d (f x)).setIfInBounds q (f x),defers:=[] } W ->
   e.wpIn (Fence.wide.inRound l) (n-1-1) P (Exit.then K (fun _ _ _=>False)) { tmps:=a.tmps.setIfInBounds d (f x),defers:=[] } W)
 (F:∀ (l:Nat) (pre:List b) (x:b) (W:World),I pre W->Fx pre x W->h.wpIn (Fence.wide.inRound l) (n-1-1) P (VAb w.heap.size c (I (pre++[x])) W) { tmps:=(a.tmps.setIfInBounds d (f x)).setIfInBounds q (f x),defers:=[] } W)
 (G:∀ (D:Nat) (xs:List b) (W:World),w.heap.size<=D->S xs->I xs W->W.heap[D]? = some (.deferred (some []))->Q .normal { a with defers:={ target:=.collected D,args:=#[] } :: a.defers } W) :
 (Code.rangeFunc g #[d] e h).wpIn Fence.wide n P Q a w:=
 ZU j k m p r (fun _=>rfl) I u v y z (fun x=>{ tmps:=(a.tmps.setIfInBounds d (f x)).setIfInBounds q (f x),defers:=[] })
  (fun l x W K H=>uq (E l x W K H)) F G
theorem WriterIs.setPosL {w w':World} {base p d g t:Nat} {I B:Value} {ls:List (Value×List UInt8)} {F l:List Nat} {W:PW} (h:WriterIs w base p d g t I B ls F W) (P:PPos)
 (i:Blk w' p 273 #[pq d,pq g,pq t,ii P.seg,ii P.off,ii P.lsn,ii P.prev,ii P.mount,I,B]) (b:Keep l w w') (c:∀ x∈F,x≠p->x∉l) :
 WriterIs w' base p d g t I B ls F { W with pos:=P }:=
 ⟨i,KA h.its b fun x a=>c x (h.inI x (uq a)) (fun e=>h.pI (by subst e;simpa using a)),KA h.bls b fun x a=>c x (h.inB x (uq a)) (fun e=>h.pB (by subst e;simpa using a)),
   fun q f=>KA (h.dat q f) b fun x a=>c x (h.inQ f x (uq a)) (fun e=>h.pQ f (by subst e;simpa using a)),h.snd,h.foot,h.base⟩
theorem TableAt.putObj {W:World} {base t g:Nat} {F:List Nat} {us:List (Nat×Nat)} {lv:List Nat} {o:Obj} (h:TableAt W base t g F us lv) (a:Obj) (b:W.heap[k]? = some o) (c:o.isCells=false):TableAt (W.putObj k a) base t g F us lv:=by
 obtain⟨L,V,h⟩:=h;exact⟨L,V,XH a h.blk b c,ownsRow_putObj h.l a b c,ownsRow_putObj h.live a b c,h.foot,h.base,h.ulen,h.uok,h.lok⟩
structure KWri (w:World) (base d p:Nat) (F:List Nat) (D:PDisk) (a:Nat) (bs:List UInt8) (N b10:Nat) (pre:List Nat) (W:World):Prop where
 disk:∃ F',DiskAt W base d F' (Qe D a bs pre.length)/\(∀ x∈F',x∈F\/N<=x)
 size:N<=W.heap.size
 b3:Boxed W w.heap.size 143 (.pointer (some p))
 b6:Boxed W (w.heap.size+1) 32 (.int .i64 0)
 b10:Boxed W b10 3 (.int .i64 ((a+pre.length:Nat)))
 keep:Keep F w W
theorem KWri.kept {w A B:World} {base d p:Nat} {F:List Nat} {D:PDisk} (h:KWri w base d p F D a bs N b10 pre A) (b:kz A B):KWri w base d p F D a bs N b10 pre B:=by
 obtain⟨c,e,f⟩:=h.disk;exact⟨⟨c,e.kO b,f⟩,AB h.size b.size,JA h.b3 b sq,JA h.b6 b sq,JA h.b10 b sq,h.keep.tO b⟩
theorem KWri.turned {w W:World} {base d p:Nat} {F:List Nat} {D:PDisk} {l:Nat} {o b:Obj} (h:KWri w base d p F D a bs N b10 pre W) (f:w.heap.size<=l) (c:W.heap[l]? = some o) (e:o.isCells=false):KWri w base d p F D a bs N b10 pre (W.putObj l b):=by
 obtain⟨g,i,j⟩:=h.disk;exact⟨⟨g,i.putObj b c e,j⟩,by rw[World.putObj_size];exact h.size,ZC b h.b3 c e,ZC b h.b6 c e,ZC b h.b10 c e,h.keep.putObj f b⟩
theorem KAb {w:World} {base d g t p:Nat} {Fd Ft Fw:List Nat} {B:Nat} {D:PDisk} {us:List (Nat×Nat)} {lv:List Nat} {W:PW} (h:LogIs w base d g t p Fd Ft Fw B D us lv W) (ha:D.acts<=900000000)
 (ig n ic:Nat) (is:List PItem) (hrd:Rd w (some ig) (n*4) (is.flatMap itc)) (hl:is.length=n) (hm:∀ i∈is,i.May) (h1:1<=n) (h6:n<=6)
 (A:Option Addr) (m bc:Nat) (ls:List (Value×List UInt8)) (hb:Rws w A m ls) (h64:∀ q∈ls,q.2.length=64) (hlo:m=ZG is) (ho:1<=W.pos.off) (ho2:W.pos.off+1+m<=24) (hlsn:W.pos.lsn<2147483647) :
 Calls prog 218 #[.pointer (some p),.slice (some ig) n ic,.slice A m bc] w fun e w'=>e=.returned (.int .i64 0)/\∃ Fd' s sum,RecAs W.pos.mount W.pos.lsn W.pos.prev is (ls.map (·.2)) s sum/\sum<=4294967295 /\
  LogIs w' base d g t p Fd' Ft Fw B (Qe D (JC B W.pos.seg+W.pos.off) (s++ls.flatMap (·.2)) (1+m)) (KG us W.pos.seg W.pos.lsn) lv { W with pos:=⟨W.pos.seg,W.pos.off+1+m,W.pos.lsn+1,sum,W.pos.mount⟩ }/\Keep (Fd++(Ft++[p])) w w'/\Grow w Fd Fd':=by
 obtain⟨I,Bv,ls0,hw⟩:=h.wri;obtain⟨⟨seg,off,lsn,prev,mount⟩,items,blocks⟩:=W;obtain⟨b1,b2,b3,b4,b5⟩:=h.pos;have hblk:=hw.blk;obtain⟨IA,icc,hI,_⟩:=XB hw.its;obtain⟨BA,bcc,hBB,_⟩:=XB hw.bls;simp only at b1 b2 b3 b4 b5 hblk ho ho2 hlsn ⊢;rw[hI,hBB] at hblk;have HI:=ZB hI;have HB:=ZB hBB;clear hI hBB;have hm6:m<=6:=by have:=YK is;omega
 have hE:=fun W (hk:Keep [] w W)=>callsIn_wide (n:=2).2 (XAd mount lsn prev b5 b3 b4 ig n ic is bc (hrd.keep hk) hl hm h1 h6 (hb.keep hk) h64 hlo);have HLO:=ZB hlo;have HLN:=ZB hl;clear hlo hl;refine(callsIn_wide (n:=3)).1 ?_;refine callsIn_of_wp_marks func218 rfl trivial ?_ rfl;simp only[ntmps218,List.size_toArray,List.length_cons,List.length_nil,Nat.reduceAdd,Nat.reduceSub,Array.replicate_succ,Array.replicate_zero,List.push_toArray,List.append_toArray,List.nil_append,List.cons_append]
 gi_wp2
 obtain⟨w1,hw1⟩:∃ w1,w1=w.alloc (.cells #[.pointer (some p)] 143):=⟨_,rfl⟩;obtain⟨w2,hw2⟩:∃ w2,w2=w1.alloc (.cells #[.int .i64 0] 32):=⟨_,rfl⟩;rw[<- hw1,<- hw2];have s1:w1.heap.size=w.heap.size+1:=by rw[hw1,World.size_alloc]
 have s2:w2.heap.size=w.heap.size+2:=by rw[hw2,World.size_alloc,s1]
 have k1:Keep [] w w1:=by rw[hw1];exact kq.alloc _
 have k2:Keep [] w1 w2:=by rw[hw2];exact kq.alloc _
 have kw2:Keep [] w w2:=k1.tO k2;have b3':Boxed w2 w.heap.size 143 (.pointer (some p)):=JA (by rw[hw1];exact Boxed.new w _ _) k2 sq;have b6':Boxed w2 (w.heap.size+1) 32 (.int .i64 0):=by rw[hw2,<- s1];exact Boxed.new w1 _ _
 have HW1:=ZB hw1;have HW2:=ZB hw2;have S2:=ZB s2;clear hw1 hw2 s1 s2 k1 k2
 have hcc:∀ W,Keep [] w2 W->W.cell? w.heap.size=some (.pointer (some p))/\W.cell? (aq p 3)=some (.int .i64 seg)/\W.cell? (aq p 5)=some (.int .i64 lsn)/\W.cell? (aq p 6)=some (.int .i64 prev)/\W.cell? (aq p 7)=some (.int .i64 mount)/\W.cell? (aq p 1)=some (.pointer (some g))/\W.cell? (aq p 4)=some (.int .i64 off):=fun W hk=>by
  obtain⟨c0,c1,c2,c3,c4,c5,c6,c7,c8,c9⟩:=QE (hblk.kO (kw2.tO hk));exact⟨(JA b3' hk sq).cell,c3,c5,c6,c7,c1,c4⟩
 refine XU (wpIn_wide.2 ?_);refine ZT (fun W=>W.cell? w.heap.size=some (.pointer (some p))/\W.cell? (aq p 3)=some (.int .i64 seg)/\W.cell? (aq p 5)=some (.int .i64 lsn)/\W.cell? (aq p 6)=some (.int .i64 prev)/\W.cell? (aq p 7)=some (.int .i64 mount)/\W.cell? (aq p 1)=some (.pointer (some g))/\W.cell? (aq p 4)=some (.int .i64 off)) 25 [[0,1,2,3,4,5,6,7,8,9,10,11,12,13,14,15,16,17],[18,19,20,21,22,23,24]] (hcc _ kq.drew) ?_;simp only[PI];iterate 18 (refine ZH ?_;simp only[Act.put,PU])
 have hE2:=callsIn_wide (n:=2).1 (hE w2.drew kw2.drew);clear hE;refine JB rq (fun K hK=>?_);go_wp2_with (refine hE2.mono ?_;clear hE2;rintro e w3 ⟨u,rs,sum,rfl,hrl,hsum,hu,hk3⟩);have kA:Keep [] w2 w3:=kq.drew.tO hk3;refine hK _ _ ((hcc _ kA)) ?_;clear hK K
 try simp only[Act.put,PU]
 iterate 6 (refine ZH ?_;simp only[Act.put,PU])
 refine VB ?_;go_wp2_with fail
 gi_wp2
 have hSg:=fun W (hk:Keep [] w W)=>Zg W g B (h.geom.kO hk) seg Z;have hpb:=(ZD h.geom.pos h.geom.few).2;have hmany:=h.many;obtain⟨sa,hsa⟩:∃ sa,sa=6+4*pgs B+24*seg:=⟨_,rfl⟩;rw[<- hsa] at hSg;have hsab:sa+24<=D.n/\sa<=300:=Z
 have HSA:=ZB hsa;have HMANY:=ZB hmany;clear hsa hmany;obtain⟨hsa1,hsa2⟩:=hsab;refine XU (wpIn_wide.2 ?_);refine ZR (fun W=>W.cell? w.heap.size=some (.pointer (some p))/\W.cell? (aq p 3)=some (.int .i64 seg)/\W.cell? (aq p 5)=some (.int .i64 lsn)/\W.cell? (aq p 6)=some (.int .i64 prev)/\W.cell? (aq p 7)=some (.int .i64 mount)/\W.cell? (aq p 1)=some (.pointer (some g))/\W.cell? (aq p 4)=some (.int .i64 off)) 17 (.held 0 (.held 1 (.held 2 (.held 3 (.held 4 (.held 5 (.held 6 (.held 7 (.held 8 (.held 10 (.held 11 (.held 12 (.held 13 (.held 14 (.two 9 (.held 15 (.loud 16 .nil)) 16 (.loud 9 (.held 15 .nil))))))))))))))))) (hcc _ kA.drew) ?_;simp only[RT.pick,PJ];iterate 14 (refine ZK ?_;simp only[Act.put,PU])
 obtain⟨aa,haa⟩:∃ aa,aa=sa+off:=⟨_,rfl⟩;have hcast:((sa:Nat):Int)+(off:Nat)=(aa:Nat):=Z
 have HCAST:=ZB hcast;have hwr:IntKind.i64.wrap ((aa:Nat):Int)=(aa:Nat):=by rw[IntKind.wrap_i64];omega
 have HWR:=ZB hwr;clear hwr;have HAA:=ZB haa;clear hcast haa;refine wpR_two ?_ ?_
 focus
  refine wpR_loud rq (fun K hK=>?_);go_wp2_with (refine(hSg _ (kw2.tO kA.drew)).mono ?_;rintro e w4 ⟨rfl,hk4⟩);have kB:Keep [] w2 w4:=kA.drew.tO hk4;refine hK _ _ ((hcc _ kB)) ?_;clear hK K
  try simp only[Act.put,PU]
  iterate 1 (refine ZK ?_;simp only[Act.put,PU])
  refine wpR_loud rq (fun K hK=>?_);go_wp2_with fail;refine hK _ _ ((hcc _ (kB.alloc _))) ?_;clear hK K
  try simp only[Act.put,PU]
  refine wpR_nil ?_;have q10':=Boxed.new w4 3 (.int .i64 (aa:Nat));have kC':Keep [] w3 (w4.alloc (.cells #[.int .i64 (aa:Nat)] 3)):=(kq.drew.tO hk4).alloc _;have hb10':w2.heap.size<=w4.heap.size:=kB.size;go_wp2_with fail;rw[ZA HCAST]
  try rw[ZA HWR]
  generalize hW5:w4.alloc (.cells #[.int .i64 (aa:Nat)] 3)=W5 at q10' kC' ⊢;generalize hB5:w4.heap.size=b10 at q10' hb10' ⊢;clear hW5 hB5 kB hk4
 rotate_left
 focus
  refine wpR_loud rq (fun K hK=>?_);go_wp2_with fail;refine hK _ _ ((hcc _ (kA.drew.alloc _))) ?_;clear hK K
  try simp only[Act.put,PU]
  refine wpR_loud rq (fun K hK=>?_);go_wp2_with (refine(hSg _ (kw2.tO (kA.drew.alloc _))).mono ?_;rintro e w4 ⟨rfl,hk4⟩);have kB:Keep [] w2 w4:=(kA.drew.alloc _).tO hk4;refine hK _ _ ((hcc _ kB)) ?_;clear hK K
  try simp only[Act.put,PU]
  iterate 1 (refine ZK ?_;simp only[Act.put,PU])
  refine wpR_nil ?_;have q9:Boxed w4 w3.heap.size 3 (.int .i64 0):=JA (Boxed.new w3.drew 3 (.int .i64 0)) hk4 sq;have qc:=q9.cell;have qf:=q9.frozen;have hb10':w2.heap.size<=w3.heap.size:=kA.size;have q10':=q9.set (.int .i64 (aa:Nat));have kC':Keep [] w3 (w4.setCell w3.heap.size (.int .i64 (aa:Nat))):=((kq.drew.alloc _).tO hk4).trans ((Keep.refl [w3.heap.size] _).setCell (.inl sq) _) (fun x hx=>.inr (by simp at hx;omega));go_wp2_with fail;rw[ZA HCAST]
  try rw[ZA HWR]
  generalize hW5:w4.setCell w3.heap.size (.int .i64 (aa:Nat))=W5 at q10' kC' ⊢;generalize hB5:w3.heap.size=b10 at q10' hb10' ⊢;clear hW5 hB5 kB hk4 q9 qc qf
 all_goals
  have kwC:Keep [] w W5:=(kw2.tO kA).tO kC';have b3C:Boxed W5 w.heap.size 143 (.pointer (some p)):=JA b3' (kA.tO kC') sq;have b6C:Boxed W5 (w.heap.size+1) 32 (.int .i64 0):=JA b6' (kA.tO kC') sq
  have hlen:(rs++ls.flatMap (·.2)).length=64*(1+m):=by
   rw[List.length_append,hrl.len]
   have:(ls.flatMap (·.2)).length=64*ls.length:=by
    clear hu hb hcc hrl
    induction ls with
    | nil=>rfl
    | cons q ls ih=>rw[List.flatMap_cons,List.length_append,h64 q sq,ih (fun r hr=>h64 r (by simp[hr]))];simp;omega
   rw[this,hb.len];omega
  obtain⟨bs,hbs⟩:∃ bs,bs=rs++ls.flatMap (·.2):=⟨_,rfl⟩;rw[<- hbs] at hlen hu;obtain⟨q,hq⟩:∃ q,q=1+m:=⟨_,rfl⟩;rw[<- hq] at hlen;rw[hlen] at hu;have hu5:=QB hu kC';obtain⟨gu,uc,rfl,huc⟩:=JI hu5 Z;have HBS:=ZB hbs;have HQ:=ZB hq;have hq7:1<=q/\q<=7:=Z
  obtain⟨hq1,hq7⟩:=hq7;have hoq:off+q<=24:=Z
  have hgu2:w.heap.size+2<=gu:=by have:=(own_mem hu (g:=gu) (by simp[Value.ownBlock])).1;have:=ZA S2;have:w2.drew.heap.size=w2.heap.size:=rfl;omega
  have hgul:=YAw hu5;have hb10l:=q10'.lt;have hS2:=ZA S2;have hb10w:w.heap.size+2<=b10:=Z
  have hgub:gu≠b10:=fun e=>by subst e;exact q10'.not_row (by decide) hu5 (by simp[Value.ownBlock])
  have HU5:=ZB hu5;clear hbs hq hS2 hu hcc hSg kA kC' kw2 hk3 b3' b6';gi_wp2_with (refine⟨trivial,?_⟩;refine(YAH _ _ _ rfl).mono ?_;rintro e w' ⟨rfl,rfl⟩);obtain⟨v,hv⟩:∃ v,v=Value.slice (some gu) (64*q) uc:=⟨_,rfl⟩;rw[<- hv];have HV:=ZB hv;obtain⟨w6,hw6⟩:∃ w6,w6=W5.alloc (.cells #[v] 66):=⟨_,rfl⟩;obtain⟨w7,hw7⟩:∃ w7,w7=w6.alloc (.cells #[.int .i64 64] 3):=⟨_,rfl⟩;rw[<- hw6,<- hw7];have s6:w6.heap.size=W5.heap.size+1:=by rw[hw6,World.size_alloc]
  have s7:w7.heap.size=W5.heap.size+2:=by rw[hw7,World.size_alloc,s6]
  have k6:Keep [] W5 w6:=by rw[hw6];exact kq.alloc _
  have k7:Keep [] w6 w7:=by rw[hw7];exact kq.alloc _
  have k57:Keep [] W5 w7:=k6.tO k7;have kw7:Keep [] w w7:=kwC.tO k57;have c1:Boxed w7 W5.heap.size 66 v:=JA (by rw[hw6];exact Boxed.new W5 _ _) k7 sq;have c2:Boxed w7 (W5.heap.size+1) 3 (.int .i64 64):=by rw[hw7,show W5.heap.size+1=w6.heap.size from Z];exact Boxed.new w6 _ _
  have hu7:=QB hu5 k57;have hFlt:=h.disk.lt;have hwsz:w.heap.size+2<=W5.heap.size:=Z
  have h0:KWri w base d p Fd D aa bs w7.heap.size b10 [] w7:=⟨⟨Fd,h.disk.kO kw7,fun x hx=>.inl hx⟩,Nat.le_refl _,JA b3C k57 sq,JA b6C k57 sq,JA q10' k57 sq,kw7.zero⟩;have hseq:=Yo 2 (b1:=W5.heap.size) gu 0 q uc (w:=w7) Z huc (by rw[<- ZA HV];exact c1) c2 Z;have hgw7:w7.heap[gu]? = W5.heap[gu]? := k57.block gu hgul sq;rw[<- ZA HV] at hseq;have hpF:p∉Fd:=fun hm=>h.dw _ hm hw.inP;have S7:=ZB s7;have HH:=ZB h;have HWI:=ZB hw;clear hv
  refine ZZ (n:=3) (gf:=390) (lb:=#[.pointer (some W5.heap.size),.pointer (some ⟨W5.heap.size+1,0,none⟩)]) 11 (fun x=>.slice (some (aq gu (0+64*x))) 64 64) rfl (enters_of func390 (by kernel_rfl) rfl)
   hseq
   (fun A B C h k=>⟨k.1.trans h.1,fun hb=>k.2.1 (h.2.1 hb),fun hb=>k.2.2 (h.2.2 hb)⟩)
   (fun W l o o' hl hg' ho=>⟨World.putObj_heap_other Z,fun hb=>ZC o' hb hg' ho,fun hb=>ZC o' hb hg' ho⟩)
   (KWri w base d p Fd D aa bs w7.heap.size b10) (fun s A B h hk=>h.kept hk) (fun s W l o o' h hl hg' ho=>h.turned Z hg' ho)
   (fun pre x W l o o' h hl hg' ho=>⟨h.1,h.2.1,(World.putObj_heap_other Z).trans h.2.2⟩) h0 ?assign ?body ?done
  case assign=>
   rintro l x W K hK;simp only[List.setIfInBounds_toArray,List.set_cons_zero,List.set_cons_succ,Nat.zero_add] at hK
   gi_wp2
   exact hK
  case body=>
   rintro l pre x W hI ⟨hx,hxq,hgW⟩;obtain⟨F',hD,hgr⟩:=hI.disk;have hnot:∀ B,w.heap.size<=B->B<w7.heap.size->B∉F':=fun B h1 h2 hm=>(hgr B hm).elim (fun hm=>by have:=hFlt B hm;omega) Z;have hB3:=hnot w.heap.size Z Z;have hB6:=hnot (w.heap.size+1) Z Z;have hB10:=hnot b10 Z Z;have hC1:=hnot W5.heap.size Z Z;have hC2:=hnot (W5.heap.size+1) Z Z;have hgF':=hnot gu Z Z;have hcl:=hD.cells;have hIsz:=hI.size;have hsame:=QP D aa bs pre.length;have hsz:=hI.keep.size;have hsl:(Go.Proofs.YtfedaknhecbehaaGreat.seg 64 bs x).length=64:=length_seg 64 bs x Z
   have hrd:Rd W (some (aq gu (0+64*x))) 64 (bys (Go.Proofs.YtfedaknhecbehaaGreat.seg 64 bs x)):=by
    refine⟨by simp[hsl],fun _=>⟨gu,0+64*x,rfl,Z,fun j u hu=>?_⟩⟩;have hj:j<64:=by have:=(List.getElem?_eq_some_iff.1 hu).1;simpa [hsl] using this
    have h1:=YI (ZA HU5) (i:=64*x+j) (u:=u) (by rw[<- hu,<- QAF,seg_get _ _ _ _ hj,Nat.mul_comm]);rw[show 0+64*x+j=64*x+j from Z];exact(World.cell?_of_block (w:=W5) (hgW.trans hgw7)).trans h1
   have hT:=(Zt (w:=W.drew) (base:=base) (d:=d) (F:=F') (hD.kO kq.drew) (hsame.2.1.trans (ZA HH).off) (hsame.2.2.1.trans (ZA HH).fuse) (by rw[hsame.2.2.2.1];omega) (aa+x) (by rw[hsame.1];have:=ZA HAA;omega) 64 _ hrd (fun a' ha'=>by cases ha';exact hgF') (Nat.le_trans (ZA HH).le hsz));simp only[Nat.zero_add] at hT;have hbp:=hblk.keep hI.keep hpF;have p0:=(hbp.cell 0).trans (show _=some (Value.pointer (some d)) from rfl);have hc3:=hI.b3.cell;have hc10:=hI.b10.cell;rw[<- hx] at hc10;obtain⟨y,hy⟩:∃ y,y=aa+x:=⟨_,rfl⟩;rw[<- hy] at hT hc10;have hyI:((y:Nat):Int)<=4096:=by have:=ZA HAA;omega
   have hpb10:p≠b10:=fun e=>by have:=hw.blk.lt;omega
   have HY:=ZB hy;have HX:=ZB hx;have HI':=ZB hI;have HD':=ZB hD;clear hy hx hI hD hsame hseq h0 c1 c2 k6 k7 k57 kw7 hw6 hw7 s6 s7 hgw7 hgW hsl hrd b3C b6C q10' hu7 kwC;simp only[List.setIfInBounds_toArray,List.set_cons_zero,List.set_cons_succ]
   gi_wp2
   refine ZI (S:=(fun W'=>W'.cell? w.heap.size=some (.pointer (some p))/\W'.cell? p=some (.pointer (some d))/\W'.cell? b10=some (.int .i64 (y:Nat)))) 6 [[0,1,2,3,4,5]] ⟨hc3,p0,hc10⟩ ?_;simp only[PI];iterate 6 (refine ZH ?_;simp only[Act.put,PU])
   refine VB ?_;go_wp2_with (refine hT.mono ?_;clear hT;rintro e W2 ⟨rfl,F2,hD2,hk2,hg2⟩);have hI:=ZA HI';have hk2':Keep F' W W2:=(Keep.refl [] W).drew.zero.trans hk2 (fun x hx=>.inl hx);have hx3:=JA hI.b3 hk2' hB3;have hx6:=JA hI.b6 hk2' hB6;have hx10:=JA hI.b10 hk2' hB10;rw[<- ZA HX,<- ZA HY] at hx10;have e10:=hx10.cell;have f10:=hx10.frozen;have HI':=ZB hI;clear hI hc3 p0 hc10
   gi_wp2
   have hI:=ZA HI';have hD:=ZA HD';have s7:=ZA S7;have hK:Keep (b10 :: F') W (W2.setCell b10 (.int .i64 ((y:Nat)+1))):=(hk2'.sub (fun x hx=>List.mem_cons_of_mem _ hx)).setCell (p:=⟨b10,0,none⟩) (.inl List.mem_cons_self) _;have hKs:Keep [b10] W2 (W2.setCell b10 (.int .i64 ((y:Nat)+1))):=kq.setCell (.inl sq) _;have hb10F2:b10∉F2:=fun hm=>(hg2 _ hm).elim hB10 (fun h=>by have h':W.heap.size<=b10:=h;omega);have hguW:gu<W.heap.size:=Z
   refine⟨hK.fromCells ?_ _,⟨?_,fun hb=>JA hb hK (by simp only[List.mem_cons,not_or];exact⟨Z,hC1⟩),fun hb=>JA hb hK (by simp only[List.mem_cons,not_or];exact⟨Z,hC2⟩)⟩,⟨⟨F2,?_,fun x hx=>?_⟩,Nat.le_trans hIsz hK.size,?_,?_,?_,?_⟩⟩
   . intro b hb o ho
     rcases List.mem_cons.1 hb with rfl | hb
     . rw[show W.heap[_]? = _ from hI.b10] at ho;cases ho;rfl
     . exact hcl b hb o ho
   . exact hK.block gu hguW (by simp only[List.mem_cons,not_or];exact⟨hgub,hgF'⟩)
   . rw[List.length_append,List.length_singleton,Vg,<- ZA HX]
     rw[<- ZA HY];rw[<- ZA HX] at hD2;exact hD2.keep hKs (fun x hx hm=>by simp at hm;subst hm;exact hb10F2 hx)
   . rcases hg2 x hx with hx | hx
     . exact hgr x hx
     . exact .inr (Nat.le_trans hIsz hx)
   . exact JA hx3 hKs (by simp;omega)
   . exact JA hx6 hKs (by simp;omega)
   . have:=hx10.set (.int .i64 ((y:Nat)+1))
     rw[List.length_append,List.length_singleton,<- Nat.add_assoc,<- ZA HX,<- ZA HY];exact this
   . exact(hI.keep.trans hk2' (fun x hx=>(hgr x hx).imp id Z)).trans hKs (fun x hx=>.inr (by simp at hx;omega))
  case done=>
   intro D' xs W hD' hS hI hdef;subst hS;obtain⟨F',hD,hgr⟩:=hI.disk;rw[List.length_range] at hD;have s7:=ZA S7;have hsz:=hI.keep.size;have hbp:=hblk.keep hI.keep hpF;have htb:=(h.tab.keep hI.keep h.dt.symm);have hnot:∀ B,w.heap.size<=B->B<w7.heap.size->B∉F':=fun B h1 h2 hm=>(hgr B hm).elim (fun hm=>by have:=hFlt B hm;omega) Z;have htl:=h.tab.lt;have hpFt:p∉Ft:=fun hm=>h.tw _ hm hw.inP;have hDFt:Apart F' Ft:=fun x hx hm=>(hgr x hx).elim (fun hd=>h.dt x hd hm) (fun hN=>by have:=htl x hm;omega);have hpl:=hw.blk.lt;have hpF':p∉F':=fun hm=>(hgr p hm).elim hpF Z;have hpN:p≠w.heap.size:=Z
   have hpN2:¬ w.heap.size=p:=Z
   have hbe:=fun W=>Za off m Z Z W;rw[show YC off m=off+1+m by unfold YC;omega] at hbe;have hTo:=YBD (w:=W.drew) (base:=base) (t:=t) (g:=g) (F:=Ft) (us:=us) (lv:=lv) (htb.kO kq.drew) seg lsn Z Z
   have hcc2:∀ W',Keep Ft W W'->W'.cell? w.heap.size=some (.pointer (some p))/\W'.cell? (aq p 2)=some (.pointer (some t))/\W'.cell? (aq p 3)=some (.int .i64 seg)/\W'.cell? (aq p 5)=some (.int .i64 lsn)/\W'.cell? (aq p 4)=some (.int .i64 off):=fun W' hk=>by
    obtain⟨c0,c1,c2,c3,c4,c5,c6,c7,c8,c9⟩:=QE (hbp.keep hk hpFt);exact⟨(JA hI.b3 hk (fun hm=>by have:=htl _ hm;omega)).cell,c2,c3,c5,c4⟩
   have HI':=ZB hI;have HD':=ZB hD;have S7':=ZB s7;clear h0 c1 c2 k6 k7 k57 kw7 hw6 hw7 s6 s7 hseq hgw7 b3C b6C q10' hu7 kwC hI hD
   gi_wp2
   refine XU (wpIn_wide.2 ?_);refine ZT (fun W'=>W'.cell? w.heap.size=some (.pointer (some p))/\W'.cell? (aq p 2)=some (.pointer (some t))/\W'.cell? (aq p 3)=some (.int .i64 seg)/\W'.cell? (aq p 5)=some (.int .i64 lsn)/\W'.cell? (aq p 4)=some (.int .i64 off)) 14 [[0,1,2,3,4,5,6,7,8,9,10,11,12,13]] (hcc2 _ kq.drew) ?_;simp only[PI];iterate 14 (refine ZH ?_;simp only[Act.put,PU])
   refine VB ?_;go_wp2_with (refine hTo.mono ?_;clear hTo;rintro e W2 ⟨rfl,ht2,hk2⟩);have hkT:Keep Ft W W2:=(Keep.refl [] W).drew.zero.trans hk2 (fun x hx=>.inl hx);have hb2:=hbp.keep hkT hpFt;obtain⟨q3,-,-,q5,q4⟩:=hcc2 _ hkT;have f4:=hb2.frozen 4;have f5:=hb2.frozen 5;have f6:=hb2.frozen 6;have e6:=(hb2.cell 6).trans (show _=some (Value.int .i64 prev) from rfl);have hwl:IntKind.i64.wrap (((lsn:Nat):Int)+1)=(lsn:Nat)+1:=by rw[IntKind.wrap_i64];omega
   have q3a:(W2.setCell (aq p 4) (.int .i64 (off+1+m:Nat))).cell? w.heap.size=some (.pointer (some p)):=by rw[World.cell?_setCell_other _ _ _ _ sq];exact q3
   have q3b:((W2.setCell (aq p 4) (.int .i64 (off+1+m:Nat))).setCell (aq p 5) (.int .i64 ((lsn:Nat)+1))).cell? w.heap.size=some (.pointer (some p)):=by rw[World.cell?_setCell_other _ _ _ _ sq];exact q3a
   have hba:=hb2.set 4 (.int .i64 (off+1+m:Nat));have q5a:=(hba.cell 5).trans (show _=some (Value.int .i64 lsn) from sq);have f5a:=hba.frozen 5;have hbb:=hba.set 5 (.int .i64 ((lsn:Nat)+1));have q6b:=(hbb.cell 6).trans (show _=some (Value.int .i64 prev) from sq);have f6b:=hbb.frozen 6;have hbc:=hbb.set 6 (.int .i64 (sum:Nat));have x6:=JA (ZA HI').b6 hkT (fun hm=>by have:=htl _ hm;omega);have e6b:=x6.cell;have f6b':=x6.frozen;obtain⟨Wz,hWz⟩:∃ Wz,Wz=((((W2.setCell (aq p 4) (.int .i64 ((off:Nat)+1+(m:Nat)))).setCell (aq p 5) (.int .i64 ((lsn:Nat)+1))).setCell (aq p 6) (.int .i64 (sum:Nat))).setCell ⟨w.heap.size+1,0,none⟩ (.int .i64 0)).drew:=⟨_,rfl⟩;have hkz0:Keep [p] W2 (((W2.setCell (aq p 4) (.int .i64 ((off:Nat)+1+(m:Nat)))).setCell (aq p 5) (.int .i64 ((lsn:Nat)+1))).setCell (aq p 6) (.int .i64 (sum:Nat))):=(((Keep.refl [p] W2).setCell (p:=⟨p,4,none⟩) (.inl sq) _).setCell (p:=⟨p,5,none⟩) (.inl sq) _).setCell (p:=⟨p,6,none⟩) (.inl sq) _;have hkz1:Keep [w.heap.size+1] (((W2.setCell (aq p 4) (.int .i64 ((off:Nat)+1+(m:Nat)))).setCell (aq p 5) (.int .i64 ((lsn:Nat)+1))).setCell (aq p 6) (.int .i64 (sum:Nat))) Wz:=by rw[hWz];exact(kq.setCell (.inl sq) _).drew
   have hbz:Blk Wz p 273 #[.pointer (some d),.pointer (some g),.pointer (some t),.int .i64 seg,.int .i64 ((off:Nat)+1+(m:Nat)),.int .i64 ((lsn:Nat)+1),.int .i64 (sum:Nat),.int .i64 mount,.slice IA items.length icc,.slice BA ls0.length bcc]:=by
    have h1:=((hb2.set 4 (.int .i64 ((off:Nat)+1+(m:Nat)))).set 5 (.int .i64 ((lsn:Nat)+1))).set 6 (.int .i64 (sum:Nat));have h2:=h1.keep hkz1 (by simp;omega);simpa using h2
   have b6z:Boxed Wz (w.heap.size+1) 32 (.int .i64 0):=by
    have h1:=JA x6 hkz0 (by simp;omega);rw[hWz];exact JA (h1.set (.int .i64 0)) (Keep.refl [] _).drew sq
   have hdWz:Wz.heap[D']? = some (.deferred (some [])):=(hkz1.block D' (Nat.lt_of_lt_of_le (Array.getElem?_eq_some_iff.1 hdef).1 (Nat.le_trans hkT.size hkz0.size)) (by simp;have:=ZA S7';omega)).trans ((hkz0.block D' (Nat.lt_of_lt_of_le (Array.getElem?_eq_some_iff.1 hdef).1 hkT.size) (by simp;have:=ZA S7';omega)).trans ((hkT.block D' (Array.getElem?_eq_some_iff.1 hdef).1 (fun hm=>by have:=htl _ hm;have:=ZA S7';omega)).trans hdef));have q6z:=(ZC (.deferred none) b6z hdWz rfl).cell
   have hkf:Keep (Fd++(Ft++[p])) w (Wz.putObj D' (.deferred none)):=
    (((((ZA HI').keep.sub (m:=Fd++(Ft++[p])) (fun x hx=>List.mem_append_left _ hx)).trans hkT (fun x hx=>.inl (by simp[hx]))).trans hkz0 (fun x hx=>.inl (by simp at hx;simp[hx]))).trans hkz1 (fun x hx=>.inr (by simp at hx;omega))).putObj (g:=D') (by have:=ZA S7';omega) (.deferred none)
   have hls:=QP D aa bs q
   have hfin:LogIs (Wz.putObj D' (.deferred none)) base d g t p F' Ft Fw B (Qe D aa bs q) (KG us seg lsn) lv { pos:=⟨seg,off+1+m,lsn+1,sum,mount⟩,items:=items,blocks:=blocks }:=by
    have hgp:g≠p:=fun e=>(ZA HH).gw (by rw[e];exact hw.inP)
    have hgF:g∉Fd++(Ft++[p]):=by
     simp only[List.mem_append,List.mem_singleton,not_or];exact⟨(ZA HH).gd,(ZA HH).gt,hgp⟩
    refine⟨(((((ZA HD').keep hkT hDFt).keep hkz0 (fun x hx hm=>hpF' (by simp at hm;subst hm;exact hx))).keep hkz1 (fun x hx hm=>hnot (w.heap.size+1) Z (by have:=ZA S7';omega) (by simp at hm;subst hm;exact hx)))).putObj _ hdWz rfl,(ZA HH).geom.keep hkf hgF,
     (((ht2.keep hkz0 (fun x hx hm=>hpFt (by simp at hm;subst hm;exact hx))).keep hkz1 (fun x hx hm=>by have:=htl x hx;simp at hm;omega))).putObj _ hdWz rfl,⟨I,Bv,ls0,?_⟩,hDFt,?_,(ZA HH).tw,?_,(ZA HH).gt,(ZA HH).gw,?_,hls.2.1.trans (ZA HH).off,hls.2.2.1.trans (ZA HH).fuse,hls.1.trans (ZA HH).many,Nat.le_trans (ZA HH).le hkf.size⟩
    . refine hw.setPosL ⟨seg,off+1+m,lsn+1,sum,mount⟩ ?_ hkf (fun x hx hne hm=>?_)
      . rw[ZA HI,ZA HB]
        exact XH _ hbz hdWz rfl
      . simp only[List.mem_append,List.mem_singleton] at hm
        rcases hm with hm | hm | hm
        . exact(ZA HH).dw x hm hx
        . exact(ZA HH).tw x hm hx
        . exact hne hm
    . intro x hx hm
      rcases hgr x hx with h' | h'
      . exact(ZA HH).dw x h' hm
      . have:=hw.lt x hm;have:=ZA S7';omega
    . intro hm
      rcases hgr g hm with h' | h'
      . exact(ZA HH).gd h'
      . have:=(ZA HH).geom.lt;have:=ZA S7';omega
    . exact⟨b1,(show off+1+m<=24 from Z),(show 1<=lsn+1/\lsn+1<=2147483647 from Z),hsum,b5⟩
   have hseg:aa=JC B seg+off:=by rw[ZA HAA,ZA HSA];rfl
   have hgrow:Grow w Fd F':=fun x hx=>(hgr x hx).imp id (fun h'=>by have:=ZA S7';omega);rw[hseg,ZA HBS,ZA HQ] at hfin;have HFIN:=ZB hfin;have HKF:=ZB hkf;have HDZ:=ZB hdWz;have HZ:=ZB hWz;have HQ6:=ZB q6z;clear hfin hkf hdWz hWz q6z hkz0 hkz1 hbz b6z hls hseg
   gi_wp2
   refine XU (wpIn_wide.2 ?_);refine ZR (fun W'=>W'.cell? w.heap.size=some (.pointer (some p))) 26 (.held 0 (.held 1 (.held 2 (.held 3 (.held 4 (.held 5 (.held 6 (.held 8 (.held 9 (.held 11 (.held 12 (.held 13 (.held 14 (.held 17 (.two 7 (.two 10 (.loud 15 (.held 16 (.held 18 (.held 19 (.held 20 (.loud 21 (.held 22 (.held 23 (.held 24 (.loud 25 .nil)))))))))) 15 (.held 16 (.loud 10 (.held 18 (.held 19 (.held 20 (.loud 21 (.held 22 (.held 23 (.held 24 (.loud 25 .nil))))))))))) 15 (.held 16 (.loud 7 (.loud 10 (.held 18 (.held 19 (.held 20 (.loud 21 (.held 22 (.held 23 (.held 24 (.loud 25 .nil)))))))))))))))))))))))))) q3 ?_;simp only[RT.pick,PJ];iterate 14 (refine ZK ?_;simp only[Act.put,PU])
   refine wpR_two ?_ ?_
   . refine wpR_loud rq (fun K hK=>?_)
     go_wp2_with fail;refine hK _ _ (q3) ?_;clear hK K
     try simp only[Act.put,PU]
     refine wpR_two ?_ ?_
     . refine wpR_loud rq (fun K hK=>?_)
       go_wp2_with (refine(hbe _).mono ?_;rintro e w' ⟨rfl,rfl⟩);refine hK _ _ (q3) ?_;clear hK K
       try simp only[Act.put,PU]
       refine wpR_loud rq (fun K hK=>?_);go_wp2_with fail;refine hK _ _ (q3) ?_;clear hK K
       try simp only[Act.put,PU]
       iterate 1 (refine ZK ?_;simp only[Act.put,PU])
       iterate 3 (refine ZK ?_;simp only[Act.put,PU])
       refine wpR_loud rq (fun K hK=>?_);go_wp2_with fail;refine hK _ _ (q3a) ?_;clear hK K
       try simp only[Act.put,PU]
       iterate 3 (refine ZK ?_;simp only[Act.put,PU])
       refine wpR_loud rq (fun K hK=>?_);go_wp2_with fail;refine hK _ _ (q3b) ?_;clear hK K
       try simp only[Act.put,PU]
       refine wpR_nil ?_;go_wp2_with fail
       gi_wp2
       rw[<- ZA HZ];refine⟨sq,.inl ⟨_,_,rfl,run_takeDeferred (ZA HDZ),?_⟩⟩;have q6z:=ZA HQ6;refine⟨.int .i64 0,?_,rfl,F',rs,sum,hrl,hsum,ZA HFIN,ZA HKF,hgrow⟩;simp[results,results218,go_sem,q6z]
     . refine wpR_loud rq (fun K hK=>?_)
       go_wp2_with fail;refine hK _ _ (q3) ?_;clear hK K
       try simp only[Act.put,PU]
       iterate 1 (refine ZK ?_;simp only[Act.put,PU])
       refine wpR_loud rq (fun K hK=>?_);go_wp2_with (refine(hbe _).mono ?_;rintro e w' ⟨rfl,rfl⟩);refine hK _ _ (q3) ?_;clear hK K
       try simp only[Act.put,PU]
       iterate 3 (refine ZK ?_;simp only[Act.put,PU])
       refine wpR_loud rq (fun K hK=>?_);go_wp2_with fail;refine hK _ _ (q3a) ?_;clear hK K
       try simp only[Act.put,PU]
       iterate 3 (refine ZK ?_;simp only[Act.put,PU])
       refine wpR_loud rq (fun K hK=>?_);go_wp2_with fail;refine hK _ _ (q3b) ?_;clear hK K
       try simp only[Act.put,PU]
       refine wpR_nil ?_;go_wp2_with fail
       gi_wp2
       rw[<- ZA HZ];refine⟨sq,.inl ⟨_,_,rfl,run_takeDeferred (ZA HDZ),?_⟩⟩;have q6z:=ZA HQ6;refine⟨.int .i64 0,?_,rfl,F',rs,sum,hrl,hsum,ZA HFIN,ZA HKF,hgrow⟩;simp[results,results218,go_sem,q6z]
   . refine wpR_loud rq (fun K hK=>?_)
     go_wp2_with fail;refine hK _ _ (q3) ?_;clear hK K
     try simp only[Act.put,PU]
     iterate 1 (refine ZK ?_;simp only[Act.put,PU])
     refine wpR_loud rq (fun K hK=>?_);go_wp2_with fail;refine hK _ _ (q3) ?_;clear hK K
     try simp only[Act.put,PU]
     refine wpR_loud rq (fun K hK=>?_);go_wp2_with (refine(hbe _).mono ?_;rintro e w' ⟨rfl,rfl⟩);refine hK _ _ (q3) ?_;clear hK K
     try simp only[Act.put,PU]
     iterate 3 (refine ZK ?_;simp only[Act.put,PU])
     refine wpR_loud rq (fun K hK=>?_);go_wp2_with fail;refine hK _ _ (q3a) ?_;clear hK K
     try simp only[Act.put,PU]
     iterate 3 (refine ZK ?_;simp only[Act.put,PU])
     refine wpR_loud rq (fun K hK=>?_);go_wp2_with fail;refine hK _ _ (q3b) ?_;clear hK K
     try simp only[Act.put,PU]
     refine wpR_nil ?_;go_wp2_with fail
     gi_wp2
     rw[<- ZA HZ];refine⟨sq,.inl ⟨_,_,rfl,run_takeDeferred (ZA HDZ),?_⟩⟩;have q6z:=ZA HQ6;refine⟨.int .i64 0,?_,rfl,F',rs,sum,hrl,hsum,ZA HFIN,ZA HKF,hgrow⟩;simp[results,results218,go_sem,q6z]
end
structure PW.Ok (W:PW):Prop where
 few:W.items.length<=6
 may:∀ i∈W.items,i.May
 full:∀ b∈W.blocks,b.length=64
 many:W.blocks.length=ZG W.items
 fit:W.items≠[]->YC W.pos.off W.blocks.length<=23
def Emitted (B:Nat) (D:PDisk) (us:List (Nat×Nat)) (W:PW) (D':PDisk) (us':List (Nat×Nat)) (W':PW):Prop:=
 (W.items=[]/\D'=D/\us'=us/\W'=W) \/
 (W.items≠[]/\∃ D1 W1 rs sum,Begun B D W D1 W1/\RecAs W.pos.mount W.pos.lsn W.pos.prev W.items W.blocks rs sum/\sum<=4294967295/\D'=Qe D1 (JC B W.pos.seg+W1.pos.off) (rs++W.blocks.flatten) (1+W.blocks.length)/\us'=KG us W.pos.seg W.pos.lsn /\
   W'=⟨⟨W.pos.seg,W1.pos.off+1+W.blocks.length,W.pos.lsn+1,sum,W.pos.mount⟩,[],[]⟩)
theorem Begun.same {B:Nat} {D:PDisk} {W:PW} (h:Begun B D W D' W'):W'.items=W.items/\W'.blocks=W.blocks/\W'.pos.seg=W.pos.seg/\W'.pos.off=max W.pos.off 1/\W'.pos.lsn=W.pos.lsn/\W'.pos.prev=W.pos.prev/\W'.pos.mount=W.pos.mount/\D'.acts<=D.acts+1:=by
 rcases h with⟨h,rfl,rfl⟩ | ⟨h,b,-,rfl,rfl⟩
 . exact⟨rfl,rfl,rfl,Z,rfl,rfl,rfl,Z⟩
 exact⟨rfl,rfl,rfl,by simp[h],rfl,rfl,rfl,by simp[PDisk.write]⟩
theorem YAG {w:World} {base d g t p:Nat} {Fd Ft Fw:List Nat} {B:Nat} {D:PDisk} {us:List (Nat×Nat)} {lv:List Nat} {W:PW} (h:LogIs w base d g t p Fd Ft Fw B D us lv W) (u:W.Ok) (ha:D.acts<=8000000) (ax:W.pos.lsn<2147483647) :
 Calls prog 94 #[pq p] w fun e w'=>e=.returned zz/\∃ a2 Fw' D' us' W',LogIs w' base d g t p a2 Ft Fw' B D' us' lv W'/\Emitted B D us W D' us' W'/\Keep (Fd++(Ft++Fw)) w w'/\Grow w Fd a2/\Grow w Fw Fw':=by
 obtain⟨I,ay,ls,j⟩:=h.wri;obtain⟨az,ic,rfl,_⟩:=XB j.its;obtain⟨b0,bc,rfl,_⟩:=XB j.bls;have v:=YAD w base d Fd D h.disk;rw[h.off] at v;obtain⟨C,E,F,G,H,J,K,L,f,r⟩:=QE j.blk;by_cases M:W.items.length=0
 . rw[M] at f
   go_enter func94,ntmps94;go_wp2_with (refine v.mono ?_;clear v;rintro e w' ⟨rfl,rfl⟩);go_ret;exact⟨rfl,Fd,Fw,D,us,W,h,.inl ⟨Aw M,rfl,rfl,rfl⟩,kq,Grow.refl _ _,Grow.refl _ _⟩
 have hb:=VAZ (w:=w) (base:=base) (d:=d) (g:=g) (t:=t) (p:=p) (Fd:=Fd) (Ft:=Ft) (Fw:=Fw) (B:=B) (D:=D) (us:=us) (lv:=lv) (W:=W) h Z
 obtain⟨n,S⟩:=ex W.items.length;rw[<- S] at f;have b1:¬ ((n:Nat):Int)=0:=Z
 have T:=ZB S;have a3:=ZB M;clear S M;go_enter func94,ntmps94;go_wp2_with (first | (refine v.mono ?_;clear v;rintro e w' ⟨rfl,rfl⟩) | (refine hb.mono ?_;clear hb;rintro e w1 ⟨rfl,aj,a4,y,h1,U,a5,a6⟩));clear C E F G H J K L f r;obtain⟨b2,b3,a7,b⟩:=h1.wri;obtain⟨b4,a8,rfl,_⟩:=XB b.its;obtain⟨a9,aa,rfl,_⟩:=XB b.bls;obtain⟨k,l,o,z,i,N,s,V⟩:=U.same;have A:y.items.length=n:=by rw[k,<- ZA T]
 have O:a7.length=W.blocks.length:=by rw[b.len,l]
 have ab:W.items≠[]:=fun e=>ZA a3 (by rw[e];rfl);have ac:=u.fit ab;have ak:1<=n:=by have:=ZA a3;have:=ZA T;omega
 have al:n<=6:=by have:=ZA T;have:=u.few;omega
 rw[A] at b;have P:=b.its;have ad:=b.blk;rw[A] at P;obtain⟨ig,b5,am,_⟩:=YD P Z;cases am;obtain⟨m,Q⟩:=ex W.blocks.length;rw[<- Q] at O ac;have X:=b.rws rfl;rw[O] at X ad
 have ae:=KAb (w:=w1.drew) (base:=base) (d:=d) (g:=g) (t:=t) (p:=p) (Fd:=aj) (Ft:=Ft) (Fw:=Fw) (B:=B) (D:=a4) (us:=us) (lv:=lv) (W:=y) (h1.kO kq.drew) Z ig n a8 y.items (Rd.of_ownN (QB P kq.drew)) A (by rw[k];exact u.may) ak al a9 m aa a7 (X.keep kq.drew)
  (fun q hq=>u.full _ (by rw[<- l,<- b.snd];exact C8.2 ⟨q,hq,rfl⟩)) (by rw[Q,u.many,k]) (by rw[z];omega) (by rw[z];unfold YC at ac;omega) (by rw[i];omega)
 obtain⟨C,E,F,G,H,J,K,L,f,r⟩:=QE ad;have af:=ZB Q;have b6:=ZB O;have b7:=ZB A;have an:=ZB (And.intro k (And.intro l (And.intro o (And.intro z (And.intro i (And.intro N (And.intro s V)))))));have ao:=ZB U;clear Q O A k l o z i N s V P X U;refine ZT (fun w'=>cl w' (aq p 8) (.slice (some ig) n a8)/\cl w' (aq p 9) (.slice a9 m aa)) 9 [[0,1,2,3,4,5,6,7,8]] ⟨f,r⟩ ?_;simp only[PI];iterate 9 refine wG ?_
 refine VB ?_;clear C E F G H J K L f r;go_wp2_with (refine ae.mono ?_;clear ae;rintro e R ⟨rfl,ap,rs,ag,ah,ar,Y,au,av⟩;(obtain⟨b8,b9,ba,c⟩:=Y.wri);(have f8:=c.blk.frozen 8);(have f9:=c.blk.frozen 9);(obtain⟨C,E,F,G,H,J,K,L,f,r⟩:=QE c.blk);(obtain⟨bb,bd,a0,_⟩:=XB c.its);(obtain⟨bf,bg,a1,_⟩:=XB c.bls);rw[a0] at f;rw[a1] at r;(have bh:=ZB a0);(have bi:=ZB a1);clear a0 a1);go_ret;obtain⟨k,l,o,z,i,N,s,V⟩:=ZA an;have ai:Keep [p] R ((R.setCell (aq p 8) (.slice none 0 0)).setCell (aq p 9) (.slice none 0 0)):=((Keep.refl [p] R).sc p 8).sc p 9;have aw:=(c.blk.set 8 (.slice none 0 0)).set 9 (.slice none 0 0)
 have h3:=Y.setWri (w':=(R.setCell (aq p 8) (.slice none 0 0)).setCell (aq p 9) (.slice none 0 0)) (Fw':=[p]) (W':=⟨⟨W.pos.seg,y.pos.off+1+m,W.pos.lsn+1,ag,W.pos.mount⟩,[],[]⟩)
  ⟨.slice none 0 0,.slice none 0 0,[],by rw[<- o,<- i,<- s];simpa using aw,AZ _ _ _ _,AZ _ _ _ _,sq,rfl,rfl,c.base⟩
  (ai.sub (fun x a=>by simp at a;subst a;exact c.inP)) (fun x a=>.inl (by simp at a;subst a;exact c.inP)) (by have:=Y.pos;rw[o,i,s] at this;exact this)
 refine⟨rfl,ap,[p],_,_,_,h3,.inr ⟨ab,a4,y,rs,ag,ZA ao,by rw[s,i,N,k,b.snd,l] at ah;exact ah,ar,?_,?_,?_⟩,?_,?_,?_⟩
 . rw[o,<- ZA af]
   congr 2
   rw[<- l,<- b.snd,List.flatMap_def]
 . rw[o,i]
 . rw[<- ZA af]
 . refine((a5.sub (m:=Fd++(Ft++Fw)) ?_).drew.trans au ?_).trans ai ?_
   . intro x a
     rcases AD.1 a with a | a
     . simp[a]
     simp at a;subst a;simp[j.inP]
   . intro x a
     rcases AD.1 a with a | a
     . exact(a6 x a).imp (fun h=>by simp[h]) id
     rcases AD.1 a with a | a
     . exact .inl (by simp[a])
     simp at a;subst a;exact .inl (by simp[j.inP])
   intro x a
   simp at a;subst a;exact .inl (by simp[j.inP])
 . intro x a
   rcases av x a with a | a
   . exact a6 x a
   exact .inr (AB a5.size a)
 intro x a
 simp at a;subst a;exact .inl j.inP
def Turned (B:Nat) (D:PDisk) (us:List (Nat×Nat)) (W:PW) (s:Nat) (D':PDisk) (us':List (Nat×Nat)) (W':PW):Prop:=
 ∃ rs hd sum,RecAs W.pos.mount W.pos.lsn W.pos.prev [⟨7,0,0,s⟩] [] rs sum/\HeadAs hd s W.pos.mount (W.pos.lsn+1) sum/\sum<=4294967295/\D'=(Qe D (JC B W.pos.seg+W.pos.off) rs 1).write (JC B s) hd/\us'=VE (KG us W.pos.seg W.pos.lsn) W.pos.seg 2/\W'={ W with pos:=⟨s,1,W.pos.lsn+1,sum,W.pos.mount⟩ }
theorem JAC (us:List (Nat×Nat)) (s x:Nat) (a:s<us.length):((KG us s x).getD s (0,0)).1=(us.getD s (0,0)).1:=by
 unfold KG;rw[XI (uq a),List.getElem_set_self]
theorem QBW {w:World} {base d g t p:Nat} {Fd Ft Fw:List Nat} {B:Nat} {D:PDisk} {us:List (Nat×Nat)} {lv:List Nat} {W:PW} (h:LogIs w base d g t p Fd Ft Fw B D us lv W) (s:Nat) (X:s<=7) (Y:1<=W.pos.off) (ah:W.pos.off<=23) (ha:D.acts<=8000000) (a0:W.pos.lsn<2147483647)
 (K:(us.getD W.pos.seg (0,0)).1=1) :
 Calls prog 348 #[pq p,s] w fun e w'=>e=.returned zz/\∃ M D' us' W',LogIs w' base d g t p M Ft Fw B D' us' lv W'/\Turned B D us W s D' us' W'/\Keep (Fd++(Ft++[p])) w w'/\Grow w Fd M:=by
 obtain⟨I,ai,ls,hw⟩:=h.wri;obtain⟨f,j,k,c,l,o,q,r,u,v⟩:=QE hw.blk;have aj:us.length=8:=by obtain⟨L,ak,ht⟩:=h.tab;exact ht.ulen
 obtain⟨b1,b2,b3,b4,b5⟩:=h.pos;obtain⟨al,F⟩:=ex W.pos.seg;rw[<- F] at c b1 K;have G:=ZB F;clear F;obtain⟨N,H⟩:=ex (w.alloc (.cells #[ii 7,zz,zz,ii s] 178));have y:kz w N:=by rw[H];exact kq.alloc _
 have a1:Rd N (some w.heap.size) (1*4) ([⟨7,0,0,s⟩].flatMap itc):=by
  have:=Rd.of_blk (n:=4) (Blk.new w 178 #[ii 7,zz,zz,ii s]) sq;rw[H];simpa [itc] using this
 have O:=KAb (h.kO y) Z w.heap.size 1 1 [⟨7,0,0,s⟩] a1 rfl (fun i hi=>by simp at hi;subst hi;exact .inr (.inr (.inr (.inr ⟨rfl,rfl,rfl,(show s<=31 from Z)⟩)))) Z Z
  none 0 0 [] ⟨by exact⟨rfl,fun h=>absurd h Z⟩,sq⟩ sq rfl Y Z a0
 go_enter func348,ntmps348
 go_wp2_with (first
  | (rw[<- H]
     refine O.mono ?_;clear O;rintro e w2 ⟨rfl,am,P,Q,a2,R,z,a3,S⟩;obtain⟨an,ao,ap,T⟩:=z.wri;have J:=QBK z.tab W.pos.seg (by have:=h.pos.1;omega) (by rw[JAC _ _ _ (by have:=h.pos.1;omega),<- ZA G];exact K);rw[<- ZA G] at J;clear f j k c l o q r u v
     obtain⟨f,j,k,c,l,o,q,r,u,v⟩:=QE T.blk)
  | (refine J.mono ?_
     clear J;rintro e A ⟨rfl,a4,C⟩;have b:=T.keep C z.tw.symm;have f3:=b.blk.frozen 3;have f4:=b.blk.frozen 4;clear f j k c l o q r u v;obtain⟨f,j,k,c,l,o,q,r,u,v⟩:=QE b.blk))
 have E:Keep [p] A ((A.setCell (aq p 3) (.int .i64 s)).setCell (aq p 4) (.int .i64 0)):=((Keep.refl [p] A).sc p 3).sc p 4;have a5:=(b.blk.set 3 (.int .i64 s)).set 4 (.int .i64 0);have a6:=b.setPos ⟨s,0,W.pos.lsn+1,Q,W.pos.mount⟩ (uq a5) E;have h3:=z.setTab a4 C;have h4:=h3.setWri ⟨_,_,_,a6⟩ (E.sub (fun x a=>by simp at a;subst a;exact b.inP)) (Grow.refl _ _) ⟨X,(show 0<=24 from Z),(show 1<=W.pos.lsn+1/\W.pos.lsn+1<=2147483647 from Z),R,b5⟩;have a7:=(QP D (JC B W.pos.seg+W.pos.off) (P++([]:List (Value×List UInt8)).flatMap (·.2)) (1+0)).2.2.2.1;have U:=VAZ h4 (by rw[a7];omega);go_wp2_with (refine U.mono ?_;clear U;rintro e w5 ⟨rfl,a8,a9,aa,h5,ab,ac,ad⟩);go_ret;have V:Keep (Fd++(Ft++[p])) w w2:=y.zero.trans a3 (fun x a=>.inl a);have ae:Keep (Fd++(Ft++[p])) w A:=V.trans C (fun x a=>.inl (by simp[a]));have af:=ae.trans E (fun x a=>.inl (by simp at a;simp[a]));refine⟨rfl,a8,a9,_,aa,h5,?_,af.trans ac ?_,(S.keep y).trans V.size (ad.keep (C.sub (m:=Ft++[p]) (fun x a=>by simp[a]) |>.trans (E.sub (m:=Ft++[p]) (fun x a=>by simp at a;simp[a])) (fun x a=>.inl a)))⟩
 . rcases ab with⟨h0,_⟩ | ⟨_,hd,ag,rfl,rfl⟩
   . exact absurd h0 sq
   refine⟨P,hd,Q,a2,ag,R,?_,?_,rfl⟩
   . simp
   rw[ZA G]
 intro x a
 rcases AD.1 a with a | a
 . rcases S x a with a | a
   . exact .inl (by simp[a])
   exact .inr (AB y.size a)
 exact .inl (by simp at a;simp[a])
def QT (W:PW):Nat:=if W.items=[] then W.pos.off else YC W.pos.off W.blocks.length
def KO (off n m:Nat):Prop:=n<=6/\YC off m<24
instance (off n m:Nat):Decidable (KO off n m):=by unfold KO;infer_instance
def Roomed (B:Nat) (D:PDisk) (us:List (Nat×Nat)) (lv:List Nat) (W:PW) (m:Nat) (D':PDisk) (us':List (Nat×Nat)) (lv':List Nat) (W':PW):Prop:=
 (KO W.pos.off (W.items.length+1) (W.blocks.length+m)/\D'=D/\us'=us/\lv'=lv/\W'=W) \/
 (¬ KO W.pos.off (W.items.length+1) (W.blocks.length+m)/\KO (QT W) 1 m/\Emitted B D us W D' us' W'/\lv'=lv) \/
 (¬ KO W.pos.off (W.items.length+1) (W.blocks.length+m)/\¬ KO (QT W) 1 m/\lv'=lv.set (XC us) 0 /\
   ∃ D1 us1 W1,Emitted B D (VE us (XC us) 1) W D1 us1 W1/\Turned B D1 us1 W1 (XC us) D' us' W')
def JM (i:PItem):Nat:=if i.loaded then 1 else 0
def Added (B:Nat) (D:PDisk) (us:List (Nat×Nat)) (lv:List Nat) (W:PW) (i:PItem) (bs:List UInt8) (D':PDisk) (us':List (Nat×Nat)) (lv':List Nat) (W':PW) (a:Nat):Prop:=
 ∃ W1,Roomed B D us lv W (JM i) D' us' lv' W1/\W'=⟨W1.pos,W1.items++[i],if i.loaded then W1.blocks++[bs] else W1.blocks⟩ /\
   a=if i.loaded then JC B W1.pos.seg+YC W1.pos.off 0+W1.blocks.length else 0
theorem Ql (us:List (Nat×Nat)) (s:Nat) (u:Nat×Nat) (a:s<us.length):YB (us.set s u)+(if us[s].1=0 then 1 else 0)=YB us+(if u.1=0 then 1 else 0):=by
 induction us generalizing s with
 | nil=>simp at a
 | cons v us ih=>
   cases s with
   | zero=>
     simp only[Ah,YB,Be,List.getElem_cons_zero,CK]
     omega
   | succ s=>
     have:=ih s (uq a);simp only[Aj,YB,Be,List.getElem_cons_succ] at this ⊢;omega
theorem YT (us:List (Nat×Nat)) (s x:Nat) (a:s<us.length):YB (KG us s x)=YB us:=by
 have:=Ql us s ((us.getD s (0,0)).1,x) a;rw[XI a] at this;unfold KG;rw[XI a];simp only at this;omega
theorem KI (us:List (Nat×Nat)) (s x:Nat) (a:s<us.length):YB (VE us s x)+(if (us.getD s (0,0)).1=0 then 1 else 0)=YB us+(if x=0 then 1 else 0):=by
 have:=Ql us s (x,(us.getD s (0,0)).2) a;unfold VE;rw[XI a] at this ⊢;simpa using this
theorem VL (us:List (Nat×Nat)) (h:0<YB us):XC us<us.length/\(us.getD (XC us) (0,0)).1=0:=by
 have a:XC us<us.length:=by
  unfold XC;rw[List.findIdx_lt_length];obtain⟨u,b,c⟩:=CC.1 h;exact⟨u,b,c⟩
 refine⟨a,?_⟩;rw[XI a];have:=Cj (p:=fun u:Nat×Nat=>u.1 == 0) (xs:=us) (w:=a);exact CK.1 this
@[simp] theorem length_setStamp (us:List (Nat×Nat)) (s x:Nat):(KG us s x).length=us.length:=by simp[KG]
@[simp] theorem length_setState (us:List (Nat×Nat)) (s x:Nat):(VE us s x).length=us.length:=by simp[VE]
theorem XG (us:List (Nat×Nat)) (s x k:Nat):((KG us s x).getD k (0,0)).1=(us.getD k (0,0)).1:=by
 unfold KG;rw[AA,BW]
 split
 . rename_i e
   subst e
   split
   . rfl
   rename_i h
   rw[AA,Bc Z]
 rw[<- AA]
theorem VF (us:List (Nat×Nat)) (s x k:Nat) (a:s<us.length):((VE us s x).getD k (0,0)).1=if k=s then x else (us.getD k (0,0)).1:=by
 unfold VE;rw[AA,BW]
 split
 . rename_i e
   subst e;simp[a]
 rename_i e
 rw[AF (fun h=>e h.symm),<- AA]
theorem Emitted.facts {B:Nat} {D:PDisk} {us:List (Nat×Nat)} {W:PW} (h:Emitted B D us W D' us' W') (e:W.Ok) :
 W'.items=[]/\W'.blocks=[]/\W'.pos.seg=W.pos.seg/\W'.pos.mount=W.pos.mount/\W.pos.lsn<=W'.pos.lsn/\W'.pos.lsn<=W.pos.lsn+1/\(W.items=[]->W'.pos.off=W.pos.off)/\(W.items≠[]->W'.pos.off=QT W)/\D'.acts<=D.acts+8/\(us'=us\/us'=KG us W.pos.seg W.pos.lsn)/\(W'.pos.prev=W.pos.prev\/W'.pos.prev<=4294967295) /\
 D'.n=D.n/\D'.off=D.off/\D'.fuse=D.fuse/\D'.faults=D.faults:=by
 rcases h with⟨a,rfl,rfl,rfl⟩ | ⟨a,b,i,j,m,g,n,k,rfl,rfl,rfl⟩
 . have f:=e.many
   rw[a] at f;exact⟨a,Aw f,rfl,rfl,AG _,Nat.le_succ _,fun _=>rfl,fun h=>absurd a h,Z,.inl rfl,.inl rfl,rfl,rfl,rfl,rfl⟩
 obtain⟨o,p,q,l,r,s,t,u⟩:=g.same
 have c:=QP b (JC B W.pos.seg+i.pos.off) (j++W.blocks.flatten) (1+W.blocks.length);have f:W.blocks.length<=6:=by rw[e.many];exact AB (YK _) e.few
 have d:b.n=D.n/\b.off=D.off/\b.fuse=D.fuse/\b.faults=D.faults:=by
  rcases g with⟨_,rfl,_⟩ | ⟨_,x,_,rfl,_⟩ <;> exact⟨rfl,rfl,rfl,rfl⟩
 refine⟨rfl,rfl,rfl,rfl,sq,sq,fun h=>absurd h a,fun _=>?_,?_,.inr rfl,.inr k,c.1.trans d.1,c.2.1.trans d.2.1,c.2.2.1.trans d.2.2.1,c.2.2.2.2.1.trans d.2.2.2⟩
 . unfold QT;rw[AF a];unfold YC;simp[l]
 rw[c.2.2.2.1];omega
structure Cap (D:PDisk) (us:List (Nat×Nat)) (W:PW) (k j:Nat):Prop where
 ok:W.Ok
 ul:us.length=8
 seg:W.pos.seg<8
 off:W.pos.off<=23
 opn:(us.getD W.pos.seg (0,0)).1=1
 cs:∃ c s,11*s+c<=k/\max (QT W) 1<=1+2*c/\7<=YB us+s
 acts:D.acts<=1000+40*j
 lsn:W.pos.lsn<=1+4*j
theorem Cap.free {D:PDisk} {us:List (Nat×Nat)} {W:PW} (h:Cap D us W k j) (b:k<=50) (d:m<=1) (a:¬ KO (QT W) 1 m):2<YB us:=by
 obtain⟨c,s,e,f,g⟩:=h.cs
 have:22<=QT W:=by
  unfold KO YC at a;omega
 omega
theorem Cap.mono {D:PDisk} {us:List (Nat×Nat)} {W:PW} {a b:Nat} (h:Cap D us W k j) (f:k<=a) (g:j<=b):Cap D us W a b:=by
 obtain⟨c,s,i,d,e⟩:=h.cs;exact⟨h.ok,h.ul,h.seg,h.off,h.opn,⟨c,s,Z,d,e⟩,by have:=h.acts;omega,by have:=h.lsn;omega⟩
theorem VBF (p:PPos):PW.Ok ⟨p,[],[]⟩:=⟨sq,sq,sq,rfl,fun h=>absurd rfl h⟩
theorem PW.Ok.snoc {W:PW} (h:W.Ok) (hi:i.May) (f:i.loaded=true->bs.length=64) (e:KO W.pos.off (W.items.length+1) (W.blocks.length+JM i)) :
 PW.Ok ⟨W.pos,W.items++[i],if i.loaded then W.blocks++[bs] else W.blocks⟩:=by
 refine⟨by have:=e.1;simp;omega,?_,?_,?_,fun _=>?_⟩
 . intro j a
   rcases AD.1 a with a | a
   . exact h.may j a
   simp at a;subst a;exact hi
 . intro b c
   simp only at c
   split at c
   . rename_i d
     rcases AD.1 c with a | a
     . exact h.full b a
     simp at a;subst a;exact f d
   exact h.full b c
 . simp only
   rw[Jf,<- h.many]
   split <;> simp
 have:=e.2
 unfold JM at this;simp only
 split <;> rename_i d <;> simp[d] at this ⊢ <;> omega
theorem Qn (p:PPos) (is:List PItem) (i:PItem) (a:List (List UInt8)):QT ⟨p,is++[i],a⟩=YC p.off a.length:=by
 unfold QT;rw[AF sq]
theorem Cap.emitted {B:Nat} {D:PDisk} {us:List (Nat×Nat)} {W:PW} (h:Cap D us W k j) (g:Emitted B D us W D' us' W') :
 W'.Ok/\us'.length=8/\W'.pos.seg=W.pos.seg/\W'.pos.off<=23/\YB us'=YB us/\(us'.getD W'.pos.seg (0,0)).1=1/\max W'.pos.off 1=max (QT W) 1/\W'.items=[]/\W'.blocks=[]/\D'.acts<=D.acts+8/\W'.pos.lsn<=W.pos.lsn+1:=by
 obtain⟨c,d,f,t,u,l,m,n,o,e,v,w⟩:=g.facts h.ok
 have q:W'.pos.off=QT W:=by
  by_cases a:W.items=[]
  . rw[m a];unfold QT;rw[AJ a]
  exact n a
 have y:QT W<=23:=by
  unfold QT
  split
  . exact h.off
  rename_i a;exact h.ok.fit a
 have r:=h.ul;have z:=h.seg
 have s:W'=⟨W'.pos,[],[]⟩:=by
  obtain⟨p,i,b⟩:=W';simp only at c d;rw[c,d]
 refine⟨by rw[s];exact VBF _,?_,f,Z,?_,?_,by rw[q],c,d,o,l⟩
 . rcases e with rfl | rfl <;> simp[r]
 . rcases e with rfl | rfl
   . rfl
   exact YT _ _ _ Z
 rw[f]
 rcases e with rfl | rfl
 . exact h.opn
 rw[XG];exact h.opn
theorem Cap.mark {B:Nat} {D:PDisk} {us:List (Nat×Nat)} {W:PW} (h:Cap D us W k j) (b:Emitted B D us W D' us' W') (n:Nat) (l:n<=20) (a:PDisk) (m:a.acts<=D'.acts+n):Cap a us' W' k (j+1):=by
 obtain⟨d,e,o,f,p,g,q,i,r,t,u⟩:=h.emitted b;obtain⟨c,s,v,w,y⟩:=h.cs;have z:=h.seg;refine⟨d,e,Z,f,g,⟨c,s,Z,?_,Z⟩,by have:=h.acts;omega,by have:=h.lsn;omega⟩;have:QT W'=W'.pos.off:=by unfold QT;rw[AJ i]
 rw[this];omega
def XO (us:List (Nat×Nat)) (W:PW) (m:Nat):Prop:=¬ KO W.pos.off (W.items.length+1) (W.blocks.length+m)->¬ KO (QT W) 1 m->0<YB us
theorem Cap.frees {D:PDisk} {us:List (Nat×Nat)} {W:PW} (h:Cap D us W k j) (a:k<=50) (b:m<=1):XO us W m:=fun _ c=>by have:=h.free a b c;omega
theorem Cap.any {D:PDisk} {us:List (Nat×Nat)} {W:PW} (h:Cap D us W k j):Cap D us W 100 j:=by
 refine⟨h.ok,h.ul,h.seg,h.off,h.opn,⟨11,7,Z,?_,Z⟩,h.acts,h.lsn⟩
 have:QT W<=23:=by
  unfold QT
  split
  . exact h.off
  rename_i a;exact h.ok.fit a
 omega
theorem Cap.addedG {B:Nat} {D:PDisk} {us:List (Nat×Nat)} {lv:List Nat} {W:PW} (h:Cap D us W k j) (P:XO us W (JM i)) (hi:i.May) (u:i.loaded=true->bs.length=64)
 (Q:Added B D us lv W i bs D' us' lv' W' a):Cap D' us' W' (k+1) (j+1):=by
 obtain⟨m,R,rfl,ha⟩:=Q;have hm:JM i<=1:=by unfold JM;split <;> omega
 have v:∀ b:List (List UInt8),(if i.loaded then b++[bs] else b).length=b.length+JM i:=by
  intro b;unfold JM;split <;> simp
 obtain⟨c,s,h1,f,S⟩:=h.cs;have H:=h.ul;have w:=h.seg;rcases R with⟨g,rfl,rfl,rfl,rfl⟩ | ⟨I,g,o,rfl⟩ | ⟨I,g,rfl,p,J,d,o,T⟩
 . refine⟨h.ok.snoc hi u g,H,w,h.off,h.opn,⟨c+1,s,Z,?_,S⟩,by have:=h.acts;omega,by have:=h.lsn;simp only;omega⟩
   rw[Qn,v];by_cases y:m.items=[]
   . have K:=h.ok.many
     rw[y] at K;have U:m.blocks.length=0:=K;rw[U];unfold QT at f;rw[AJ y] at f;unfold YC;omega
   unfold QT at f
   rw[AF y] at f;unfold YC at f ⊢;omega
 . obtain⟨L,r,z,M,N,A,V,t,l,X,Y⟩:=h.emitted o
   have C:KO m.pos.off (m.items.length+1) (m.blocks.length+JM i):=by
    rw[t,l];simp only[Ai,BB];refine⟨Z,?_⟩;have:=g.2;unfold YC at this ⊢;omega
   refine⟨L.snoc hi u C,r,by simp only;omega,uq M,uq A,⟨c+1,s,Z,?_,Z⟩,by have:=h.acts;omega,by have:=h.lsn;simp only;omega⟩;rw[Qn,v,l];unfold YC;simp only[Ai];omega
 have a4:=P I g
 obtain⟨n,E⟩:=VL us Z
 have O:W.pos.seg≠XC us:=by
  intro e;have:=h.opn;rw[e,E] at this;omega
 have a0:Cap D (VE us (XC us) 1) W (k+11) j:=by
  refine⟨h.ok,uq H,w,h.off,?_,⟨c,s+1,Z,f,?_⟩,by have:=h.acts;omega,by have:=h.lsn;omega⟩
  . rw[VF _ _ _ _ n,AF O];exact h.opn
  have:=KI us (XC us) 1 n
  rw[E] at this;simp at this;omega
 obtain⟨L,r,z,M,N,A,V,t,l,X,Y⟩:=a0.emitted o;obtain⟨F,hd,sum,t1,t2,t3,rfl,rfl,rfl⟩:=T;have a1:=QP p (JC B d.pos.seg+d.pos.off) F 1;have a5:(Qe p (JC B d.pos.seg+d.pos.off) F 1).acts=p.acts+1:=a1.2.2.2.1;have a6:22<=QT W:=by unfold KO YC at g;omega
 have C:KO 1 (d.items.length+1) (d.blocks.length+JM i):=by
  rw[t,l];unfold KO YC;simp;omega
 have a2:PW.Ok { d with pos:=⟨XC us,1,d.pos.lsn+1,sum,d.pos.mount⟩ }:=by
  have:({ d with pos:=⟨XC us,1,d.pos.lsn+1,sum,d.pos.mount⟩ }:PW)=⟨⟨XC us,1,d.pos.lsn+1,sum,d.pos.mount⟩,[],[]⟩:=by
   rw[t,l]
  rw[this];exact VBF _
 have G:d.pos.seg<J.length:=by rw[r,z];exact w
 refine⟨a2.snoc hi u C,uq r,by simp only;omega,sq,?_,⟨1,s+1,Z,?_,?_⟩,?_,?_⟩
 . simp only
   rw[VF _ _ _ _ (uq G),z,AF (fun e=>O e.symm),XG];rcases o.facts h.ok with⟨_,_,_,_,_,_,_,_,_,a3,_⟩;rcases a3 with rfl | rfl
   . rw[VF _ _ _ _ n,AJ rfl]
   rw[XG,VF _ _ _ _ n,AJ rfl]
 . rw[Qn,v,l]
   unfold YC;simp only[Ai];omega
 . have q:=KI (KG J d.pos.seg d.pos.lsn) d.pos.seg 2 (uq G)
   rw[XG,A,YT _ _ _ G,N] at q;have:=KI us (XC us) 1 n;rw[E] at this;simp at this q;omega
 . have:=h.acts
   show (Qe p (JC B d.pos.seg+d.pos.off) F 1).acts+1<=_;omega
 have:=h.lsn
 simp only;omega
theorem Cap.added {B:Nat} {D:PDisk} {us:List (Nat×Nat)} {lv:List Nat} {W:PW} (h:Cap D us W k j) (b:k<=50) (hi:i.May) (c:i.loaded=true->bs.length=64)
 (d:Added B D us lv W i bs D' us' lv' W' a):Cap D' us' W' (k+1) (j+1):=h.addedG (h.frees b (by unfold JM;split <;> omega)) hi c d
def KJ (B:Nat) (D:PDisk) (W:PW) (a:Nat):List UInt8:=
 if JC B W.pos.seg+YC W.pos.off 0<=a/\a<JC B W.pos.seg+YC W.pos.off 0+W.blocks.length then W.blocks.getD (a-(JC B W.pos.seg+YC W.pos.off 0)) [] else seg 64 D.now a
structure Lies (B:Nat) (us:List (Nat×Nat)) (W:PW) (a:Nat):Prop where
 lo:6+4*pgs B<=a
 hi:a<198+4*pgs B
 used:(us.getD ((a-(6+4*pgs B)) / 24) (0,0)).1≠0
 here:(a-(6+4*pgs B)) / 24=W.pos.seg->(JC B W.pos.seg+1<=a/\a<JC B W.pos.seg+W.pos.off)\/(JC B W.pos.seg+YC W.pos.off 0<=a/\a<JC B W.pos.seg+YC W.pos.off 0+W.blocks.length)
theorem Vi {B:Nat} (b:JC B s<=a) (c:a<JC B s+24):(a-(6+4*pgs B)) / 24=s:=by unfold JC at *;omega
theorem QBk {B:Nat} (b:6+4*pgs B<=a) (h:(a-(6+4*pgs B)) / 24=s):JC B s<=a/\a<JC B s+24:=by unfold JC;omega
theorem Ka (D:PDisk) (k:Nat) (b:List UInt8) (d:D.now.length=D.n*64) (f:k<D.n) (a:b.length=64) (x:Nat):seg 64 (D.write k b).now x=if x=k then b else seg 64 D.now x:=by
 have c:(k+1)*64<=D.now.length:=by rw[d];omega
 show seg 64 (laid D.now (k*64) b) x=_
 split
 . rename_i e
   subst e;exact seg_laid_same 64 D.now b x c a
 rename_i e
 exact seg_laid_other 64 D.now b k x c a e
theorem Jm (D:PDisk) (k:Nat) (b:List UInt8) (a:D.now.length=D.n*64) (c:k<D.n) (d:b.length=64):(D.write k b).now.length=(D.write k b).n*64:=by
 show (laid D.now (k*64) b).length=D.n*64;unfold laid;simp;omega
theorem Yk (D:PDisk) (a:Nat) (bs:List UInt8) (k:Nat) (g:D.now.length=D.n*64) (i:a+k<=D.n) (j:64*k<=bs.length) :
 (Qe D a bs k).now.length=(Qe D a bs k).n*64/\∀ x,seg 64 (Qe D a bs k).now x=if a<=x/\x<a+k then seg 64 bs (x-a) else seg 64 D.now x:=by
 induction k with
 | zero=>exact⟨g,fun x=>by rw[AF Z];rfl⟩
 | succ k ih=>
   obtain⟨b,h⟩:=ih Z Z;have c:=QP D a bs k;rw[Vg];have d:(seg 64 bs k).length=64:=length_seg 64 bs k Z;refine⟨Jm _ _ _ b (by rw[c.1];omega) d,fun x=>?_⟩;rw[Ka _ _ _ b (by rw[c.1];omega) d,h];by_cases e:x=a+k
   . subst e
     rw[AJ rfl,AJ Z]
     congr 1;omega
   rw[AF e]
   by_cases f:a<=x/\x<a+k
   . rw[AJ f,AJ Z]
   rw[AF f,AF Z]
theorem Vv (a:List (List UInt8)) (h:∀ b∈a,b.length=64) (i:Nat) (hi:i<a.length):seg 64 a.flatten i=a[i]:=by
 induction a generalizing i with
 | nil=>simp at hi
 | cons b a ih=>
   have d:b.length=64:=h b sq
   cases i with
   | zero=>simp[seg,CI,d,AK]
   | succ i=>
     have:=ih (fun c e=>h c (by simp[e])) i (uq hi);simp only[List.getElem_cons_succ];rw[<- this];unfold seg;rw[Dx,CH];rw[BL Z,Am]
     congr 2
     omega
theorem Ki (a:List (List UInt8)) (h:∀ b∈a,b.length=64):a.flatten.length=64*a.length:=by
 induction a with
 | nil=>rfl
 | cons b a ih=>
   rw[Dx,AE,h b sq,ih (fun c d=>h c (by simp[d]))];simp;omega
theorem Emitted.reads {B:Nat} {D:PDisk} {us:List (Nat×Nat)} {W:PW} (h:Emitted B D us W D' us' W') (j:W.Ok) (i:D.now.length=D.n*64) (k:D.n=198+4*pgs B) (G:W.pos.seg<8) (H:W.pos.off<=23) :
 D'.now.length=D'.n*64/\∀ a,Lies B us W a->Lies B us' W' a/\KJ B D' W' a=KJ B D W a:=by
 rcases h with⟨l,rfl,rfl,rfl⟩ | ⟨l,f,d,r,I,m,n,J,rfl,rfl,rfl⟩
 . exact⟨i,fun a b=>⟨b,rfl⟩⟩
 obtain⟨K,L,M,s,N,O,P,Q⟩:=m.same
 have R:=n.len;have t:=j.fit l;have u:=Ki W.blocks j.full;have S:d.pos.off=max W.pos.off 1:=s;have T:d.pos.off+1+W.blocks.length<=23:=by unfold YC at t;omega
 have v:f.now.length=f.n*64/\f.n=D.n/\∀ x,x≠JC B W.pos.seg\/0<W.pos.off->seg 64 f.now x=seg 64 D.now x:=by
  rcases m with⟨_,rfl,_⟩ | ⟨w,x,o,rfl,_⟩
  . exact⟨i,rfl,fun _ _=>rfl⟩
  have p:JC B W.pos.seg<D.n:=by rw[k];unfold JC;omega
  refine⟨Jm _ _ _ i p o.len,rfl,fun y U=>?_⟩;rw[Ka _ _ _ i p o.len,AF Z]
 obtain⟨z,A,C⟩:=v;have q:=Yk f (JC B W.pos.seg+d.pos.off) (r++W.blocks.flatten) (1+W.blocks.length) z (by rw[A,k];unfold JC;omega) (by rw[AE,n.len,u];omega);refine⟨q.1,fun a b=>⟨⟨b.lo,b.hi,by rw[XG];exact b.used,fun e=>?_⟩,?_⟩⟩
 . simp only at e ⊢
   left;rcases b.here e with c | c <;> (try unfold YC at c) <;> omega
 unfold KJ
 simp only[Ai];rw[AF Z,q.2];by_cases g:JC B W.pos.seg+YC W.pos.off 0<=a/\a<JC B W.pos.seg+YC W.pos.off 0+W.blocks.length
 . rw[AJ g]
   obtain⟨w1,E⟩:=g;unfold YC at w1 E;rw[AJ Z];have hi:a-(JC B W.pos.seg+YC W.pos.off 0)<W.blocks.length:=by unfold YC;omega
   rw[AA,AC hi];simp only[Cp];rw[<- Vv W.blocks j.full _ hi];have:a-(JC B W.pos.seg+d.pos.off)=(a-(JC B W.pos.seg+YC W.pos.off 0))+1:=by unfold YC;omega
   rw[this];unfold seg;rw[CH,BL Z,Am]
   congr 2
   omega
 rw[AF g]
 have F:¬ (JC B W.pos.seg+d.pos.off<=a/\a<JC B W.pos.seg+d.pos.off+(1+W.blocks.length)):=by
  rintro⟨V,X⟩;rcases b.here (Vi Z Z) with c | c
  . omega
  exact g c
 rw[AF F];refine C a ?_;by_cases w:W.pos.off=0
 . left
   intro e;rcases b.here (Vi Z Z) with c | c
   . omega
   exact g c
 right;omega
theorem Turned.reads {B:Nat} {D:PDisk} {us:List (Nat×Nat)} {W:PW} (h:Turned B D us W s D' us' W') (n:D.now.length=D.n*64) (i:D.n=198+4*pgs B) (p:W.pos.seg<8) (q:W.pos.off<=23) (r:1<=W.pos.off) (t:s<8) (u:W.pos.seg≠s) (v:us.length=8) (j:W.blocks=[]) :
 D'.now.length=D'.n*64/\∀ a,Lies B us W a->(a-(6+4*pgs B)) / 24≠s->Lies B us' W' a/\KJ B D' W' a=KJ B D W a:=by
 obtain⟨c,w,y,k,d,z,rfl,rfl,rfl⟩:=h;have A:=k.len;have C:=d.len;have f:=Yk D (JC B W.pos.seg+W.pos.off) c 1 n (by rw[i];unfold JC;omega) (by have:=k.len;omega);have o:=QP D (JC B W.pos.seg+W.pos.off) c 1;have l:JC B s<(Qe D (JC B W.pos.seg+W.pos.off) c 1).n:=by rw[o.1,i];unfold JC;omega
 refine⟨Jm _ _ _ f.1 l d.len,fun a b m=>⟨⟨b.lo,b.hi,?_,fun e=>absurd e m⟩,?_⟩⟩
 . rw[VF _ _ _ _ (by simp;omega),XG]
   split
   . omega
   exact b.used
 unfold KJ
 rw[j];simp only[Ai];rw[AF Z,AF Z,Ka _ _ _ f.1 l d.len,f.2];rw[AF (fun e=>m (by subst e;exact Vi (AG _) Z))];rw[AF];rintro⟨E,F⟩;rcases b.here (Vi Z Z) with g | g
 . omega
 rw[j] at g;simp at g;omega