/- Lemmas of the proof, with their conditions. -/
import Derived.Test.YtkonbpfbjiepfaaGreatT15
import Derived.Test.YtkonbpfbjiepfaaGreatT19
namespace Go.Proofs.YtkonbpfbjiepfaaGreat
set_option linter.unusedSimpArgs false
set_option linter.unusedVariables false
set_option maxHeartbeats 4000000
set_option maxRecDepth 100000
section
open Go.RowKit Go.Shelf
namespace TableAt
variable {w w':World} {base t g:Nat} {F l:List Nat} {us:List (Nat×Nat)} {lv:List Nat}
theorem keep (h:TableAt w base t g F us lv) (hk:Keep l w w') (ha:Apart F l):TableAt w' base t g F us lv:=by obtain⟨L,V,h⟩:=h;exact⟨L,V,h.keep hk ha⟩
theorem keep0 (h:TableAt w base t g F us lv) (hk:Keep [] w w'):TableAt w' base t g F us lv:=h.keep hk Apart.nil_right
theorem lt (h:TableAt w base t g F us lv):∀ x∈F,x<w.heap.size:=by obtain⟨L,V,h⟩:=h;exact h.lt
theorem ge (h:TableAt w base t g F us lv):∀ x∈F,base≤x:=by obtain⟨L,V,h⟩:=h;exact h.ge
end TableAt
def PPos.Ok (p:PPos):Prop:=p.seg≤7∧p.off≤24∧(1≤p.lsn∧p.lsn≤2147483647)∧p.prev≤4294967295∧(1≤p.mount∧p.mount≤2147483647)
structure LogIs (w:World) (base d g t p:Nat) (Fd Ft Fw:List Nat) (B:Nat) (D:PDisk) (us:List (Nat×Nat)) (lv:List Nat) (W:PW):Prop where
 disk:DiskAt w base d Fd D
 geom:GeomAt w g B
 tab:TableAt w base t g Ft us lv
 wri:WriterAt w base p d g t Fw W
 dt:Apart Fd Ft
 dw:Apart Fd Fw
 tw:Apart Ft Fw
 gd:g∉Fd
 gt:g∉Ft
 gw:g∉Fw
 pos:W.pos.Ok
 off:D.off=false
 fuse:D.fuse = -1
 many:D.n=198+4*pgs B
 le:base≤w.heap.size
namespace LogIs
variable {w w':World} {base d g t p:Nat} {Fd Ft Fw l:List Nat} {B:Nat} {D:PDisk} {us:List (Nat×Nat)} {lv:List Nat} {W:PW}
theorem keep0 (h:LogIs w base d g t p Fd Ft Fw B D us lv W) (hk:Keep [] w w'):LogIs w' base d g t p Fd Ft Fw B D us lv W:=
 ⟨h.disk.keep0 hk,h.geom.keep0 hk,h.tab.keep0 hk,h.wri.keep0 hk,h.dt,h.dw,h.tw,h.gd,h.gt,h.gw,h.pos,h.off,h.fuse,h.many,Nat.le_trans h.le hk.size⟩
theorem keep (h:LogIs w base d g t p Fd Ft Fw B D us lv W) (hk:Keep l w w') (hg:g∉l) (h1:Apart Fd l) (h2:Apart Ft l) (h3:Apart Fw l):LogIs w' base d g t p Fd Ft Fw B D us lv W:=
 ⟨h.disk.keep hk h1,h.geom.keep hk hg,h.tab.keep hk h2,h.wri.keep hk h3,h.dt,h.dw,h.tw,h.gd,h.gt,h.gw,h.pos,h.off,h.fuse,h.many,Nat.le_trans h.le hk.size⟩
theorem setDisk (h:LogIs w base d g t p Fd Ft Fw B D us lv W) {Fd':List Nat} {D':PDisk} (hd:DiskAt w' base d Fd' D') (hk:Keep Fd w w') (hg:Grow w Fd Fd') (h1:D'.off=D.off) (h2:D'.fuse=D.fuse) (h3:D'.n=D.n):LogIs w' base d g t p Fd' Ft Fw B D' us lv W:=
 ⟨hd,h.geom.keep hk h.gd,h.tab.keep hk h.dt.symm,h.wri.keep hk h.dw.symm,h.dt.grow hg h.tab.lt,h.dw.grow hg h.wri.lt,h.tw,fun hm=>(hg g hm).elim h.gd (by have:=h.geom.lt;omega),h.gt,h.gw,h.pos,h1.trans h.off,h2.trans h.fuse,h3.trans h.many,Nat.le_trans h.le hk.size⟩
theorem setTab (h:LogIs w base d g t p Fd Ft Fw B D us lv W) {us':List (Nat×Nat)} {lv':List Nat} (ht:TableAt w' base t g Ft us' lv') (hk:Keep Ft w w'):LogIs w' base d g t p Fd Ft Fw B D us' lv' W:=
 ⟨h.disk.keep hk h.dt,h.geom.keep hk h.gt,ht,h.wri.keep hk h.tw.symm,h.dt,h.dw,h.tw,h.gd,h.gt,h.gw,h.pos,h.off,h.fuse,h.many,Nat.le_trans h.le hk.size⟩
theorem setWri (h:LogIs w base d g t p Fd Ft Fw B D us lv W) {Fw':List Nat} {W':PW} (hw:WriterAt w' base p d g t Fw' W') (hk:Keep Fw w w') (hg:Grow w Fw Fw') (hp:W'.pos.Ok):LogIs w' base d g t p Fd Ft Fw' B D us lv W':=
 ⟨h.disk.keep hk h.dw,h.geom.keep hk h.gw,h.tab.keep hk h.tw,hw,h.dt,h.dw.grow_r hg h.disk.lt,h.tw.grow_r hg h.tab.lt,h.gd,h.gt,fun hm=>(hg g hm).elim h.gw (by have:=h.geom.lt;omega),hp,h.off,h.fuse,h.many,Nat.le_trans h.le hk.size⟩
end LogIs
def JF (B s:Nat):Nat:=6+4*pgs B+24*s
def Begun (B:Nat) (D:PDisk) (W:PW) (D':PDisk) (W':PW):Prop:=
 (0<W.pos.off∧D'=D∧W'=W)∨(W.pos.off=0∧∃ h:List UInt8,h.length=64∧D'=D.write (JF B W.pos.seg) h∧W'={ W with pos:={ W.pos with off:=1 } })
theorem ZAn (w:World) (base d g t p:Nat) (Fd Ft Fw:List Nat) (B:Nat) (D:PDisk) (us:List (Nat×Nat)) (lv:List Nat) (W:PW) (h:LogIs w base d g t p Fd Ft Fw B D us lv W) (ha:D.acts≤1000000000) :
 Calls Tryz.prog 205 #[.pointer (some ⟨p,0,none⟩)] w fun e w'=>e=.returned (.int .i64 0)∧∃ Fd' D' W',LogIs w' base d g t p Fd' Ft Fw B D' us lv W'∧Begun B D W D' W'∧Keep (Fd++[p]) w w'∧Grow w Fd Fd':=by
 obtain⟨I,Bv,ls,hw⟩:=h.wri;obtain⟨⟨seg,off,lsn,prev,mount⟩,items,blocks⟩:=W;have hpos:=h.pos;obtain⟨b1,b2,b3,b4,b5⟩:=hpos;have hblk:=hw.blk;have hIp:=JB hw.its;have hBp:=JB hw.bls;simp only at b1 b2 b3 b4 b5 hblk;obtain⟨IA,ic,hI,_⟩:=hIp;obtain⟨BA,bc,hB,_⟩:=hBp
 by_cases ho:0<off
 · obtain⟨c0,c1,c2,c3,c4,c5,c6,c7,c8,c9⟩:=QI hblk
   have hoI:(0:Int)<(off:Nat):=by omega
   go_enter Tryz.func205,Tryz.ntmps205
   go_wp2_with fail
   go_ret;exact⟨rfl,Fd,D,_,h,.inl ⟨ho,rfl,rfl⟩,Keep.refl _ _,Grow.refl _ _⟩
 · obtain rfl:off=0:=by omega
   rw[hI,hB] at hblk;have HI:=XC hI;have HB:=XC hB;clear hI hB;obtain⟨c0,c1,c2,c3,c4,c5,c6,c7,c8,c9⟩:=QI hblk;have hE:=fun W=>QAo seg mount lsn prev (by omega) b5 b3 b4 W
   go_enter Tryz.func205,Tryz.ntmps205
   go_wp2_with fail
   clear c0 c1 c2 c3 c4 c5 c6 c7 c8 c9;obtain⟨c0,c1,c2,c3,c4,c5,c6,c7,c8,c9⟩:=QI hblk.drew;refine ZT (fun w'=>w'.cell? ⟨p,3,none⟩=some (.int .i64 seg)∧w'.cell? ⟨p,5,none⟩=some (.int .i64 lsn)∧w'.cell? ⟨p,6,none⟩=some (.int .i64 prev)∧w'.cell? ⟨p,7,none⟩=some (.int .i64 mount)) 26 [[0,1,2,3,4,5,6,7,8,9,10,11,12,13,14,15,16,17,18,19,20],[21,22,23,24,25]] ⟨c3,c5,c6,c7⟩ ?_;simp only[PI]
   iterate 21 (refine ZH ?_;simp only[Act.put,PU])
   refine ZB (by rfl) (fun K hK=>?_)
   go_wp2_with (refine(hE _).mono ?_;clear hE;rintro e w2 ⟨u,rfl,hu,hk2⟩)
   clear c0 c1 c2 c3 c4 c5 c6 c7 c8 c9;have hkA:Keep [] w w2:=(Keep.refl _ _).drew.trans0 hk2;obtain⟨c0,c1,c2,c3,c4,c5,c6,c7,c8,c9⟩:=QI (hblk.keep0 hkA);refine hK _ _ (⟨c3,c5,c6,c7⟩) ?_;clear hK K
   try simp only[Act.put,PU]
   iterate 4 (refine ZH ?_;simp only[Act.put,PU])
   refine QC ?_
   go_wp2_with fail
   clear c0 c1 c2 c3 c4 c5 c6 c7 c8 c9;obtain⟨c0,c1,c2,c3,c4,c5,c6,c7,c8,c9⟩:=QI (hblk.keep0 hkA).drew;refine ZT (fun w'=>w'.cell? ⟨p,0,none⟩=some (.pointer (some ⟨d,0,none⟩))∧w'.cell? ⟨p,1,none⟩=some (.pointer (some ⟨g,0,none⟩))∧w'.cell? ⟨p,3,none⟩=some (.int .i64 seg)) 15 [[0,1,2,3,4,5,6,7,8,9,10,11,12,14],[13]] ⟨c0,c1,c3⟩ ?_;simp only[PI]
   iterate 14 (refine ZH ?_;simp only[Act.put,PU])
   refine ZB (by rfl) (fun K hK=>?_)
   go_wp2_with (refine(Xm _ g B (h.geom.keep0 hkA.drew) seg (by omega)).mono ?_;rintro e w3 ⟨rfl,hk3⟩)
   have hkB:Keep [] w w3:=hkA.drew.trans0 hk3;clear c0 c1 c2 c3 c4 c5 c6 c7 c8 c9;obtain⟨c0,c1,c2,c3,c4,c5,c6,c7,c8,c9⟩:=QI (hblk.keep0 hkB);refine hK _ _ (⟨c0,c1,c3⟩) ?_;clear hK K
   try simp only[Act.put,PU]
   refine QC ?_;obtain⟨g2,uc,rfl,huc⟩:=KF hu (by omega);have hu3:=QB (QB hu (Keep.refl _ _).drew) hk3;have hg2:=own_mem hu (g:=g2) (by simp[Value.ownBlock]);have hWr:=KX w3 base d Fd D (h.disk.keep0 hkB) h.off h.fuse ha (JF B seg) (by rw[h.many];unfold JF;omega) (some ⟨g2,0,none⟩) uc _ (Rd.of_own hu3) (fun a ha' hm=>by cases ha';have h2:g2<w.heap.size:=h.disk.lt _ hm;have h1:w.heap.size≤g2:=hg2.1;omega) (Nat.le_trans h.le hkB.size);unfold JF at hWr
   go_wp2_with (refine hWr.mono ?_;clear hWr;rintro e w4 ⟨rfl,Fd',hD,hk4,hg4⟩;(have hb4:=(hblk.keep0 hkB).keep hk4 (fun hm=>h.dw _ hm hw.inP));(obtain⟨e0,e1,e2,e3,e4,e5,e6,e7,e8,e9⟩:=QI hb4);(have f4:=hb4.frozen 4))
   go_ret;have hkp:Keep [p] w4 (w4.setCell ⟨p,4,none⟩ (.int .i64 1)):=(Keep.refl _ _).setCell (.inl (by simp)) _;have hw4:=(hw.keep0 hkB).keep hk4 h.dw.symm;have hbs:=hw4.blk.set 4 (.int .i64 1);have hw5:=hw4.setPos ⟨seg,1,lsn,prev,mount⟩ (w':=w4.setCell ⟨p,4,none⟩ (.int .i64 1)) (by simpa using hbs) hkp;have h4:=(h.keep0 hkB).setDisk hD hk4 hg4 rfl rfl rfl;have h5:=h4.setWri ⟨_,_,_,hw5⟩ (hkp.sub (fun x hx=>by simp at hx;subst hx;exact hw.inP)) (Grow.refl _ _) ⟨b1,(show 1≤24 by omega),b3,b4,b5⟩;have hKK:Keep (Fd++[p]) w (w4.setCell ⟨p,4,none⟩ (.int .i64 1)):=((hkB.sub (m:=Fd++[p]) (by simp)).trans hk4 (fun x hx=>.inl (List.mem_append_left _ hx))).trans hkp (fun x hx=>.inl (List.mem_append_right _ hx));exact⟨rfl,Fd',_,_,h5,.inr ⟨rfl,_,Yr _ _ (by omega) (by rw[XV];omega),rfl,rfl⟩,hKK,fun x hx=>(hg4 x hx).imp id (fun h=>Nat.le_trans hkB.size h)⟩
end
section
open Go.RowKit Go.Shelf
attribute [local go_sem] Oper.semAt_some
def XAw (Q:Exit→Act→World→Prop):Exit→Act→World→Prop
 | .panic _,_,_=>False
 | e,a,w=>Q e a w
theorem XF {F:Fence} {n:Nat} {P:Program} {c:Code} {K:Act→World→Prop} {Q:Exit→Act→World→Prop} {a:Act} {w:World} (h:c.wpIn F n P (Exit.then K (XAw Q)) a w):c.wpIn F n P (Exit.then K Q) a w:=
 wpIn_mono h (fun e a w h=>by cases e <;> first | exact h | exact h.elim)
theorem Vg {P:Program} {α:Type} {n:Nat} {g:Operand} {p1:Tmp} {assign body:Code} {Q:Exit→Act→World→Prop} {a:Act} {w:World} {gf:Nat} {lb:Array Value} (q:Nat) (f:α→Value)
 (hg:a.eval g=.func (.func gf) #[] lb) (eg:∀ args w,(callFunc gf args).run P w=.ok (.enter gf args) w)
 {Fx:List α→α→World→Prop} {Kp:World→World→Prop} {S:List α→Prop} (hseq:KAx (n-1) P gf lb (fun x=>#[f x]) Fx Kp S w)
 (hKt:∀ A B C,Kp A B→Kp B C→Kp A C) (hKb:∀ W l o o',w.heap.size≤l→W.heap[l]? = some o→o.isCells=false→Kp W (W.putObj l o'))
 (I:List α→World→Prop) (hIk:∀ s A B,I s A→Keep [] A B→I s B) (hIb:∀ s,Ju w.heap.size (I s)) (hFb:∀ pre x,Ju w.heap.size (Fx pre x)) (h0:I [] w)
 (hassign:∀ (l:Nat) (x:α) (W:World) (K:Act→World→Prop),K { tmps:=(a.tmps.setIfInBounds p1 (f x)).setIfInBounds q (f x),defers:=[] } W →
   assign.wpIn (Fence.wide.inRound l) (n-1-1) P (Exit.then K (fun _ _ _=>False)) { tmps:=a.tmps.setIfInBounds p1 (f x),defers:=[] } W)
 (hbody:∀ (l:Nat) (pre:List α) (x:α) (W:World),I pre W→Fx pre x W→body.wpIn (Fence.wide.inRound l) (n-1-1) P (Qz w.heap.size Kp (I (pre++[x])) W) { tmps:=(a.tmps.setIfInBounds p1 (f x)).setIfInBounds q (f x),defers:=[] } W)
 (hdone:∀ (D:Nat) (xs:List α) (W:World),w.heap.size≤D→S xs→I xs W→W.heap[D]? = some (.deferred (some []))→Q .normal { a with defers:={ target:=.collected D,args:=#[] } :: a.defers } W) :
 (Code.rangeFunc g #[p1] assign body).wpIn Fence.wide n P Q a w:=
 QO hg eg hseq hKt hKb (fun _=>rfl) I hIk hIb hFb h0 (fun x=>{ tmps:=(a.tmps.setIfInBounds p1 (f x)).setIfInBounds q (f x),defers:=[] })
  (fun l x W K hK=>by simpa using hassign l x W K hK) hbody hdone
theorem WriterIs.setPosL {w w':World} {base p d g t:Nat} {I B:Value} {ls:List (Value×List UInt8)} {F l:List Nat} {W:PW} (h:WriterIs w base p d g t I B ls F W) (P:PPos)
 (hb:Blk w' p 196 #[.pointer (some ⟨d,0,none⟩),.pointer (some ⟨g,0,none⟩),.pointer (some ⟨t,0,none⟩),.int .i64 P.seg,.int .i64 P.off,.int .i64 P.lsn,.int .i64 P.prev,.int .i64 P.mount,I,B]) (hk:Keep l w w') (ha:∀ x∈F,x≠p→x∉l) :
 WriterIs w' base p d g t I B ls F { W with pos:=P }:=
 ⟨hb,XB h.its hk fun x hx=>ha x (h.inI x (by simpa using hx)) (fun e=>h.pI (by subst e;simpa using hx)),XB h.bls hk fun x hx=>ha x (h.inB x (by simpa using hx)) (fun e=>h.pB (by subst e;simpa using hx)),
   fun q hq=>XB (h.dat q hq) hk fun x hx=>ha x (h.inQ hq x (by simpa using hx)) (fun e=>h.pQ hq (by subst e;simpa using hx)),h.snd,h.foot,h.base⟩
theorem TableAt.putObj {W:World} {base t g k:Nat} {F:List Nat} {us:List (Nat×Nat)} {lv:List Nat} {o:Obj} (h:TableAt W base t g F us lv) (o':Obj) (hl:W.heap[k]? = some o) (ho:o.isCells=false):TableAt (W.putObj k o') base t g F us lv:=by
 obtain⟨L,V,h⟩:=h;exact⟨L,V,XH o' h.blk hl ho,ownsRow_putObj h.l o' hl ho,ownsRow_putObj h.live o' hl ho,h.foot,h.base,h.ulen,h.uok,h.lok⟩
structure KWri (w:World) (base d p:Nat) (F:List Nat) (D:PDisk) (a:Nat) (bs:List UInt8) (N b10:Nat) (pre:List Nat) (W:World):Prop where
 disk:∃ F',DiskAt W base d F' (Ka D a bs pre.length)∧(∀ x∈F',x∈F∨N≤x)
 size:N≤W.heap.size
 b3:Boxed W w.heap.size 105 (.pointer (some ⟨p,0,none⟩))
 b6:Boxed W (w.heap.size+1) 31 (.int .i64 0)
 b10:Boxed W b10 3 (.int .i64 ((a+pre.length:Nat)))
 keep:Keep F w W
theorem KWri.kept {w A B:World} {base d p:Nat} {F:List Nat} {D:PDisk} {a:Nat} {bs:List UInt8} {N b10:Nat} {pre:List Nat} (h:KWri w base d p F D a bs N b10 pre A) (hk:Keep [] A B):KWri w base d p F D a bs N b10 pre B:=by
 obtain⟨F',h1,h2⟩:=h.disk;exact⟨⟨F',h1.keep0 hk,h2⟩,Nat.le_trans h.size hk.size,KA h.b3 hk (by simp),KA h.b6 hk (by simp),KA h.b10 hk (by simp),h.keep.trans0 hk⟩
theorem KWri.turned {w W:World} {base d p:Nat} {F:List Nat} {D:PDisk} {a:Nat} {bs:List UInt8} {N b10 l:Nat} {pre:List Nat} {o o':Obj} (h:KWri w base d p F D a bs N b10 pre W) (hl:w.heap.size≤l) (hg:W.heap[l]? = some o) (ho:o.isCells=false):KWri w base d p F D a bs N b10 pre (W.putObj l o'):=by
 obtain⟨F',h1,h2⟩:=h.disk;exact⟨⟨F',h1.putObj o' hg ho,h2⟩,by rw[World.putObj_size];exact h.size,ZC o' h.b3 hg ho,ZC o' h.b6 hg ho,ZC o' h.b10 hg ho,h.keep.putObj hl o'⟩
theorem KAj (w:World) (base d g t p:Nat) (Fd Ft Fw:List Nat) (B:Nat) (D:PDisk) (us:List (Nat×Nat)) (lv:List Nat) (W:PW) (h:LogIs w base d g t p Fd Ft Fw B D us lv W) (ha:D.acts≤900000000)
 (ig n ic:Nat) (is:List PItem) (hrd:Rd w (some ⟨ig,0,none⟩) (n*4) (is.flatMap itc)) (hl:is.length=n) (hm:∀ i∈is,i.May) (h1:1≤n) (h6:n≤6)
 (A:Option Addr) (m bc:Nat) (ls:List (Value×List UInt8)) (hb:Rws w A m ls) (h64:∀ q∈ls,q.2.length=64) (hlo:m=JR is) (ho:1≤W.pos.off) (ho2:W.pos.off+1+m≤24) (hlsn:W.pos.lsn<2147483647) :
 Calls Tryz.prog 206 #[.pointer (some ⟨p,0,none⟩),.slice (some ⟨ig,0,none⟩) n ic,.slice A m bc] w fun e w'=>e=.returned (.int .i64 0)∧∃ Fd' s sum,s.length=64∧sum≤4294967295 ∧
  LogIs w' base d g t p Fd' Ft Fw B (Ka D (JF B W.pos.seg+W.pos.off) (s++ls.flatMap (·.2)) (1+m)) (KE us W.pos.seg W.pos.lsn) lv { W with pos:=⟨W.pos.seg,W.pos.off+1+m,W.pos.lsn+1,sum,W.pos.mount⟩ }∧Keep (Fd++(Ft++[p])) w w'∧Grow w Fd Fd':=by
 obtain⟨I,Bv,ls0,hw⟩:=h.wri;obtain⟨⟨seg,off,lsn,prev,mount⟩,items,blocks⟩:=W;obtain⟨b1,b2,b3,b4,b5⟩:=h.pos;have hblk:=hw.blk;obtain⟨IA,icc,hI,_⟩:=JB hw.its;obtain⟨BA,bcc,hBB,_⟩:=JB hw.bls;simp only at b1 b2 b3 b4 b5 hblk ho ho2 hlsn ⊢;rw[hI,hBB] at hblk;have HI:=XC hI;have HB:=XC hBB;clear hI hBB;have hm6:m≤6:=by have:=XO is;omega
 have hE:=fun W (hk:Keep [] w W)=>callsIn_wide (n:=2).2 (YAx mount lsn prev b5 b3 b4 ig n ic is A m bc ls W (hrd.keep hk) hl hm h1 h6 (hb.keep hk) h64 hlo);have HLO:=XC hlo;have HLN:=XC hl;clear hlo hl;refine(callsIn_wide (n:=3)).1 ?_;refine callsIn_of_wp_marks Tryz.func206 rfl trivial ?_ rfl;simp only[Tryz.ntmps206,List.size_toArray,List.length_cons,List.length_nil,Nat.reduceAdd,Nat.reduceSub,Array.replicate_succ,Array.replicate_zero,List.push_toArray,List.append_toArray,List.nil_append,List.cons_append]
 gi_wp2
 obtain⟨w1,hw1⟩:∃ w1,w1=w.alloc (.cells #[.pointer (some ⟨p,0,none⟩)] 105):=⟨_,rfl⟩;obtain⟨w2,hw2⟩:∃ w2,w2=w1.alloc (.cells #[.int .i64 0] 31):=⟨_,rfl⟩;rw[← hw1,← hw2];have s1:w1.heap.size=w.heap.size+1:=by rw[hw1,World.size_alloc]
 have s2:w2.heap.size=w.heap.size+2:=by rw[hw2,World.size_alloc,s1]
 have k1:Keep [] w w1:=by rw[hw1];exact(Keep.refl _ _).alloc _
 have k2:Keep [] w1 w2:=by rw[hw2];exact(Keep.refl _ _).alloc _
 have kw2:Keep [] w w2:=k1.trans0 k2;have b3':Boxed w2 w.heap.size 105 (.pointer (some ⟨p,0,none⟩)):=KA (by rw[hw1];exact Boxed.new w _ _) k2 (by simp);have b6':Boxed w2 (w.heap.size+1) 31 (.int .i64 0):=by rw[hw2,← s1];exact Boxed.new w1 _ _
 have HW1:=XC hw1;have HW2:=XC hw2;have S2:=XC s2;clear hw1 hw2 s1 s2 k1 k2
 have hcc:∀ W,Keep [] w2 W→W.cell? ⟨w.heap.size,0,none⟩=some (.pointer (some ⟨p,0,none⟩))∧W.cell? ⟨p,3,none⟩=some (.int .i64 seg)∧W.cell? ⟨p,5,none⟩=some (.int .i64 lsn)∧W.cell? ⟨p,6,none⟩=some (.int .i64 prev)∧W.cell? ⟨p,7,none⟩=some (.int .i64 mount)∧W.cell? ⟨p,1,none⟩=some (.pointer (some ⟨g,0,none⟩))∧W.cell? ⟨p,4,none⟩=some (.int .i64 off):=fun W hk=>by
  obtain⟨c0,c1,c2,c3,c4,c5,c6,c7,c8,c9⟩:=QI (hblk.keep0 (kw2.trans0 hk));exact⟨(KA b3' hk (by simp)).cell,c3,c5,c6,c7,c1,c4⟩
 refine XF (wpIn_wide.2 ?_);refine ZT (fun W=>W.cell? ⟨w.heap.size,0,none⟩=some (.pointer (some ⟨p,0,none⟩))∧W.cell? ⟨p,3,none⟩=some (.int .i64 seg)∧W.cell? ⟨p,5,none⟩=some (.int .i64 lsn)∧W.cell? ⟨p,6,none⟩=some (.int .i64 prev)∧W.cell? ⟨p,7,none⟩=some (.int .i64 mount)∧W.cell? ⟨p,1,none⟩=some (.pointer (some ⟨g,0,none⟩))∧W.cell? ⟨p,4,none⟩=some (.int .i64 off)) 25 [[0,1,2,3,4,5,6,7,8,9,10,11,12,13,14,15,16,17],[18,19,20,21,22,23,24]] (hcc _ (Keep.refl _ _).drew) ?_;simp only[PI]
 iterate 18 (refine ZH ?_;simp only[Act.put,PU])
 have hE2:=callsIn_wide (n:=2).1 (hE w2.drew kw2.drew);clear hE;refine ZB (by rfl) (fun K hK=>?_)
 go_wp2_with (refine hE2.mono ?_;clear hE2;rintro e w3 ⟨u,rs,sum,rfl,hrl,hsum,hu,hk3⟩)
 have kA:Keep [] w2 w3:=(Keep.refl _ _).drew.trans0 hk3;refine hK _ _ ((hcc _ kA)) ?_;clear hK K
 try simp only[Act.put,PU]
 iterate 6 (refine ZH ?_;simp only[Act.put,PU])
 refine QC ?_
 go_wp2_with fail
 gi_wp2
 have hSg:=fun W (hk:Keep [] w W)=>Xm W g B (h.geom.keep0 hk) seg (by omega);have hpb:=(YC h.geom.pos h.geom.few).2;have hmany:=h.many;obtain⟨sa,hsa⟩:∃ sa,sa=6+4*pgs B+24*seg:=⟨_,rfl⟩;rw[← hsa] at hSg;have hsab:sa+24≤D.n∧sa≤300:=by omega
 have HSA:=XC hsa;have HMANY:=XC hmany;clear hsa hmany;obtain⟨hsa1,hsa2⟩:=hsab;refine XF (wpIn_wide.2 ?_);refine ZR (fun W=>W.cell? ⟨w.heap.size,0,none⟩=some (.pointer (some ⟨p,0,none⟩))∧W.cell? ⟨p,3,none⟩=some (.int .i64 seg)∧W.cell? ⟨p,5,none⟩=some (.int .i64 lsn)∧W.cell? ⟨p,6,none⟩=some (.int .i64 prev)∧W.cell? ⟨p,7,none⟩=some (.int .i64 mount)∧W.cell? ⟨p,1,none⟩=some (.pointer (some ⟨g,0,none⟩))∧W.cell? ⟨p,4,none⟩=some (.int .i64 off)) 17 (.held 0 (.held 1 (.held 2 (.held 3 (.held 4 (.held 5 (.held 6 (.held 7 (.held 8 (.held 10 (.held 11 (.held 12 (.held 13 (.held 14 (.two 9 (.held 15 (.loud 16 .nil)) 16 (.loud 9 (.held 15 .nil))))))))))))))))) (hcc _ kA.drew) ?_;simp only[RT.pick,PJ]
 iterate 14 (refine ZK ?_;simp only[Act.put,PU])
 obtain⟨aa,haa⟩:∃ aa,aa=sa+off:=⟨_,rfl⟩;have hcast:((sa:Nat):Int)+(off:Nat)=(aa:Nat):=by omega
 have HCAST:=XC hcast;have hwr:IntKind.i64.wrap ((aa:Nat):Int)=(aa:Nat):=by rw[IntKind.wrap_i64];omega
 have HWR:=XC hwr;clear hwr;have HAA:=XC haa;clear hcast haa;refine wpR_two ?_ ?_
 focus
  refine wpR_loud (by rfl) (fun K hK=>?_)
  go_wp2_with (refine(hSg _ (kw2.trans0 kA.drew)).mono ?_;rintro e w4 ⟨rfl,hk4⟩)
  have kB:Keep [] w2 w4:=kA.drew.trans0 hk4;refine hK _ _ ((hcc _ kB)) ?_;clear hK K
  try simp only[Act.put,PU]
  iterate 1 (refine ZK ?_;simp only[Act.put,PU])
  refine wpR_loud (by rfl) (fun K hK=>?_)
  go_wp2_with fail
  refine hK _ _ ((hcc _ (kB.alloc _))) ?_;clear hK K
  try simp only[Act.put,PU]
  refine wpR_nil ?_;have q10':=Boxed.new w4 3 (.int .i64 (aa:Nat));have kC':Keep [] w3 (w4.alloc (.cells #[.int .i64 (aa:Nat)] 3)):=((Keep.refl _ _).drew.trans0 hk4).alloc _;have hb10':w2.heap.size≤w4.heap.size:=kB.size
  go_wp2_with fail
  rw[JA HCAST]
  try rw[JA HWR]
  generalize hW5:w4.alloc (.cells #[.int .i64 (aa:Nat)] 3)=W5 at q10' kC' ⊢;generalize hB5:w4.heap.size=b10 at q10' hb10' ⊢;clear hW5 hB5 kB hk4
 rotate_left
 focus
  refine wpR_loud (by rfl) (fun K hK=>?_)
  go_wp2_with fail
  refine hK _ _ ((hcc _ (kA.drew.alloc _))) ?_;clear hK K
  try simp only[Act.put,PU]
  refine wpR_loud (by rfl) (fun K hK=>?_)
  go_wp2_with (refine(hSg _ (kw2.trans0 (kA.drew.alloc _))).mono ?_;rintro e w4 ⟨rfl,hk4⟩)
  have kB:Keep [] w2 w4:=(kA.drew.alloc _).trans0 hk4;refine hK _ _ ((hcc _ kB)) ?_;clear hK K
  try simp only[Act.put,PU]
  iterate 1 (refine ZK ?_;simp only[Act.put,PU])
  refine wpR_nil ?_;have q9:Boxed w4 w3.heap.size 3 (.int .i64 0):=KA (Boxed.new w3.drew 3 (.int .i64 0)) hk4 (by simp);have qc:=q9.cell;have qf:=q9.frozen;have hb10':w2.heap.size≤w3.heap.size:=kA.size;have q10':=q9.set (.int .i64 (aa:Nat));have kC':Keep [] w3 (w4.setCell ⟨w3.heap.size,0,none⟩ (.int .i64 (aa:Nat))):=(((Keep.refl _ _).drew.alloc _).trans0 hk4).trans ((Keep.refl [w3.heap.size] _).setCell (.inl (by simp)) _) (fun x hx=>.inr (by simp at hx;omega))
  go_wp2_with fail
  rw[JA HCAST]
  try rw[JA HWR]
  generalize hW5:w4.setCell ⟨w3.heap.size,0,none⟩ (.int .i64 (aa:Nat))=W5 at q10' kC' ⊢;generalize hB5:w3.heap.size=b10 at q10' hb10' ⊢;clear hW5 hB5 kB hk4 q9 qc qf
 all_goals
  have kwC:Keep [] w W5:=(kw2.trans0 kA).trans0 kC';have b3C:Boxed W5 w.heap.size 105 (.pointer (some ⟨p,0,none⟩)):=KA b3' (kA.trans0 kC') (by simp);have b6C:Boxed W5 (w.heap.size+1) 31 (.int .i64 0):=KA b6' (kA.trans0 kC') (by simp)
  have hlen:(rs++ls.flatMap (·.2)).length=64*(1+m):=by
   rw[List.length_append,hrl]
   have:(ls.flatMap (·.2)).length=64*ls.length:=by
    clear hu hb hcc
    induction ls with
    | nil=>rfl
    | cons q ls ih=>rw[List.flatMap_cons,List.length_append,h64 q (by simp),ih (fun r hr=>h64 r (by simp[hr]))];simp;omega
   rw[this,hb.len];omega
  obtain⟨bs,hbs⟩:∃ bs,bs=rs++ls.flatMap (·.2):=⟨_,rfl⟩;rw[← hbs] at hlen hu;obtain⟨q,hq⟩:∃ q,q=1+m:=⟨_,rfl⟩;rw[← hq] at hlen;rw[hlen] at hu;have hu5:=QB hu kC';obtain⟨gu,uc,rfl,huc⟩:=KF hu5 (by omega);have HBS:=XC hbs;have HQ:=XC hq;have hq7:1≤q∧q≤7:=by omega
  obtain⟨hq1,hq7⟩:=hq7;have hoq:off+q≤24:=by omega
  have hgu2:w.heap.size+2≤gu:=by have:=(own_mem hu (g:=gu) (by simp[Value.ownBlock])).1;have:=JA S2;have:w2.drew.heap.size=w2.heap.size:=rfl;omega
  have hgul:=ZAq hu5;have hb10l:=q10'.lt;have hS2:=JA S2;have hb10w:w.heap.size+2≤b10:=by omega
  have hgub:gu≠b10:=fun e=>by subst e;exact q10'.not_row (by decide) hu5 (by simp[Value.ownBlock])
  have HU5:=XC hu5;clear hbs hq hS2 hu hcc hSg kA kC' kw2 hk3 b3' b6'
  gi_wp2_with (refine⟨trivial,?_⟩;refine(VAL _ _ _ rfl).mono ?_;rintro e w' ⟨rfl,rfl⟩)
  obtain⟨v,hv⟩:∃ v,v=Value.slice (some ⟨gu,0,none⟩) (64*q) uc:=⟨_,rfl⟩;rw[← hv];have HV:=XC hv;obtain⟨w6,hw6⟩:∃ w6,w6=W5.alloc (.cells #[v] 39):=⟨_,rfl⟩;obtain⟨w7,hw7⟩:∃ w7,w7=w6.alloc (.cells #[.int .i64 64] 3):=⟨_,rfl⟩;rw[← hw6,← hw7];have s6:w6.heap.size=W5.heap.size+1:=by rw[hw6,World.size_alloc]
  have s7:w7.heap.size=W5.heap.size+2:=by rw[hw7,World.size_alloc,s6]
  have k6:Keep [] W5 w6:=by rw[hw6];exact(Keep.refl _ _).alloc _
  have k7:Keep [] w6 w7:=by rw[hw7];exact(Keep.refl _ _).alloc _
  have k57:Keep [] W5 w7:=k6.trans0 k7;have kw7:Keep [] w w7:=kwC.trans0 k57;have c1:Boxed w7 W5.heap.size 39 v:=KA (by rw[hw6];exact Boxed.new W5 _ _) k7 (by simp);have c2:Boxed w7 (W5.heap.size+1) 3 (.int .i64 64):=by rw[hw7,show W5.heap.size+1=w6.heap.size by omega];exact Boxed.new w6 _ _
  have hu7:=QB hu5 k57;have hFlt:=h.disk.lt;have hwsz:w.heap.size+2≤W5.heap.size:=by omega
  have h0:KWri w base d p Fd D aa bs w7.heap.size b10 [] w7:=⟨⟨Fd,h.disk.keep0 kw7,fun x hx=>.inl hx⟩,Nat.le_refl _,KA b3C k57 (by simp),KA b6C k57 (by simp),KA q10' k57 (by simp),kw7.zero⟩;have hseq:=Vq 2 W5.heap.size (W5.heap.size+1) gu 0 q uc w7 (by omega) huc (by rw[← JA HV];exact c1) c2 (by omega);have hgw7:w7.heap[gu]? = W5.heap[gu]? := k57.block gu hgul (by simp);rw[← JA HV] at hseq;have hpF:p∉Fd:=fun hm=>h.dw _ hm hw.inP;have S7:=XC s7;have HH:=XC h;have HWI:=XC hw;clear hv
  refine Vg (n:=3) (gf:=333) (lb:=#[.pointer (some ⟨W5.heap.size,0,none⟩),.pointer (some ⟨W5.heap.size+1,0,none⟩)]) 11 (fun x=>.slice (some ⟨gu,0+64*x,none⟩) 64 64) rfl (enters_of Tryz.func333 (by kernel_rfl) rfl)
   hseq
   (fun A B C h k=>⟨k.1.trans h.1,fun hb=>k.2.1 (h.2.1 hb),fun hb=>k.2.2 (h.2.2 hb)⟩)
   (fun W l o o' hl hg' ho=>⟨World.putObj_heap_other (by omega),fun hb=>ZC o' hb hg' ho,fun hb=>ZC o' hb hg' ho⟩)
   (KWri w base d p Fd D aa bs w7.heap.size b10) (fun s A B h hk=>h.kept hk) (fun s W l o o' h hl hg' ho=>h.turned (by omega) hg' ho)
   (fun pre x W l o o' h hl hg' ho=>⟨h.1,h.2.1,(World.putObj_heap_other (by omega)).trans h.2.2⟩) h0 ?assign ?body ?done
  case assign=>
   rintro l x W K hK;simp only[List.setIfInBounds_toArray,List.set_cons_zero,List.set_cons_succ,Nat.zero_add] at hK
   gi_wp2
   exact hK
  case body=>
   rintro l pre x W hI ⟨hx,hxq,hgW⟩;obtain⟨F',hD,hgr⟩:=hI.disk;have hnot:∀ B,w.heap.size≤B→B<w7.heap.size→B∉F':=fun B h1 h2 hm=>(hgr B hm).elim (fun hm=>by have:=hFlt B hm;omega) (by omega);have hB3:=hnot w.heap.size (by omega) (by omega);have hB6:=hnot (w.heap.size+1) (by omega) (by omega);have hB10:=hnot b10 (by omega) (by omega);have hC1:=hnot W5.heap.size (by omega) (by omega);have hC2:=hnot (W5.heap.size+1) (by omega) (by omega);have hgF':=hnot gu (by omega) (by omega);have hcl:=hD.cells;have hIsz:=hI.size;have hsame:=QK D aa bs pre.length;have hsz:=hI.keep.size;have hsl:(Go.Proofs.YtkonbpfbjiepfaaGreat.seg 64 bs x).length=64:=length_seg 64 bs x (by omega)
   have hrd:Rd W (some ⟨gu,0+64*x,none⟩) 64 (bys (Go.Proofs.YtkonbpfbjiepfaaGreat.seg 64 bs x)):=by
    refine⟨by simp[hsl],fun _=>⟨gu,0+64*x,rfl,by omega,fun j u hu=>?_⟩⟩;have hj:j<64:=by have:=(List.getElem?_eq_some_iff.1 hu).1;simpa [hsl] using this
    have h1:=JI (JA HU5) (i:=64*x+j) (u:=u) (by rw[← hu,← JAE,seg_get _ _ _ _ hj,Nat.mul_comm]);rw[show 0+64*x+j=64*x+j by omega];exact(World.cell?_of_block (w:=W5) (hgW.trans hgw7)).trans h1
   have hT:=(KX W.drew base d F' _ (hD.keep0 (Keep.refl _ _).drew) (hsame.2.1.trans (JA HH).off) (hsame.2.2.1.trans (JA HH).fuse) (by rw[hsame.2.2.2.1];omega) (aa+x) (by rw[hsame.1];have:=JA HAA;omega) (some ⟨gu,0+64*x,none⟩) 64 _ hrd (fun a' ha'=>by cases ha';exact hgF') (Nat.le_trans (JA HH).le hsz));simp only[Nat.zero_add] at hT;have hbp:=hblk.keep hI.keep hpF;have p0:=(hbp.cell 0).trans (show _=some (Value.pointer (some ⟨d,0,none⟩)) from rfl);have hc3:=hI.b3.cell;have hc10:=hI.b10.cell;rw[← hx] at hc10;obtain⟨y,hy⟩:∃ y,y=aa+x:=⟨_,rfl⟩;rw[← hy] at hT hc10;have hyI:((y:Nat):Int)≤4096:=by have:=JA HAA;omega
   have hpb10:p≠b10:=fun e=>by have:=hw.blk.lt;omega
   have HY:=XC hy;have HX:=XC hx;have HI':=XC hI;have HD':=XC hD;clear hy hx hI hD hsame hseq h0 c1 c2 k6 k7 k57 kw7 hw6 hw7 s6 s7 hgw7 hgW hsl hrd b3C b6C q10' hu7 kwC;simp only[List.setIfInBounds_toArray,List.set_cons_zero,List.set_cons_succ]
   gi_wp2
   refine ZI (fun W'=>W'.cell? ⟨w.heap.size,0,none⟩=some (.pointer (some ⟨p,0,none⟩))∧W'.cell? ⟨p,0,none⟩=some (.pointer (some ⟨d,0,none⟩))∧W'.cell? ⟨b10,0,none⟩=some (.int .i64 (y:Nat))) 6 [[0,1,2,3,4,5]] ⟨hc3,p0,hc10⟩ ?_;simp only[PI]
   iterate 6 (refine ZH ?_;simp only[Act.put,PU])
   refine QC ?_
   go_wp2_with (refine hT.mono ?_;clear hT;rintro e W2 ⟨rfl,F2,hD2,hk2,hg2⟩)
   have hI:=JA HI';have hk2':Keep F' W W2:=(Keep.refl [] W).drew.zero.trans hk2 (fun x hx=>.inl hx);have hx3:=KA hI.b3 hk2' hB3;have hx6:=KA hI.b6 hk2' hB6;have hx10:=KA hI.b10 hk2' hB10;rw[← JA HX,← JA HY] at hx10;have e10:=hx10.cell;have f10:=hx10.frozen;have HI':=XC hI;clear hI hc3 p0 hc10
   gi_wp2
   have hI:=JA HI';have hD:=JA HD';have s7:=JA S7;have hK:Keep (b10 :: F') W (W2.setCell ⟨b10,0,none⟩ (.int .i64 ((y:Nat)+1))):=(hk2'.sub (fun x hx=>List.mem_cons_of_mem _ hx)).setCell (p:=⟨b10,0,none⟩) (.inl List.mem_cons_self) _;have hKs:Keep [b10] W2 (W2.setCell ⟨b10,0,none⟩ (.int .i64 ((y:Nat)+1))):=(Keep.refl _ _).setCell (.inl (by simp)) _;have hb10F2:b10∉F2:=fun hm=>(hg2 _ hm).elim hB10 (fun h=>by have h':W.heap.size≤b10:=h;omega);have hguW:gu<W.heap.size:=by omega
   refine⟨hK.fromCells ?_ _,⟨?_,fun hb=>KA hb hK (by simp only[List.mem_cons,not_or];exact⟨by omega,hC1⟩),fun hb=>KA hb hK (by simp only[List.mem_cons,not_or];exact⟨by omega,hC2⟩)⟩,⟨⟨F2,?_,fun x hx=>?_⟩,Nat.le_trans hIsz hK.size,?_,?_,?_,?_⟩⟩
   · intro b hb o ho
     rcases List.mem_cons.1 hb with rfl | hb
     · rw[show W.heap[_]? = _ from hI.b10] at ho;cases ho;rfl
     · exact hcl b hb o ho
   · exact hK.block gu hguW (by simp only[List.mem_cons,not_or];exact⟨hgub,hgF'⟩)
   · rw[List.length_append,List.length_singleton,ZW,← JA HX]
     rw[← JA HY];rw[← JA HX] at hD2;exact hD2.keep hKs (fun x hx hm=>by simp at hm;subst hm;exact hb10F2 hx)
   · rcases hg2 x hx with hx | hx
     · exact hgr x hx
     · exact .inr (Nat.le_trans hIsz hx)
   · exact KA hx3 hKs (by simp;omega)
   · exact KA hx6 hKs (by simp;omega)
   · have:=hx10.set (.int .i64 ((y:Nat)+1))
     rw[List.length_append,List.length_singleton,← Nat.add_assoc,← JA HX,← JA HY];exact this
   · exact(hI.keep.trans hk2' (fun x hx=>(hgr x hx).imp id (by omega))).trans hKs (fun x hx=>.inr (by simp at hx;omega))
  case done=>
   intro D' xs W hD' hS hI hdef;subst hS;obtain⟨F',hD,hgr⟩:=hI.disk;rw[List.length_range] at hD;have s7:=JA S7;have hsz:=hI.keep.size;have hbp:=hblk.keep hI.keep hpF;have htb:=(h.tab.keep hI.keep h.dt.symm);have hnot:∀ B,w.heap.size≤B→B<w7.heap.size→B∉F':=fun B h1 h2 hm=>(hgr B hm).elim (fun hm=>by have:=hFlt B hm;omega) (by omega);have htl:=h.tab.lt;have hpFt:p∉Ft:=fun hm=>h.tw _ hm hw.inP;have hDFt:Apart F' Ft:=fun x hx hm=>(hgr x hx).elim (fun hd=>h.dt x hd hm) (fun hN=>by have:=htl x hm;omega);have hpl:=hw.blk.lt;have hpF':p∉F':=fun hm=>(hgr p hm).elim hpF (by omega);have hpN:p≠w.heap.size:=by omega
   have hpN2:¬ w.heap.size=p:=by omega
   have hbe:=fun W=>Zx off m (by omega) (by omega) W;rw[show KC off m=off+1+m by unfold KC;omega] at hbe;have hTo:=YAi W.drew base t g Ft us lv (htb.keep0 (Keep.refl _ _).drew) seg lsn (by omega) (by omega)
   have hcc2:∀ W',Keep Ft W W'→W'.cell? ⟨w.heap.size,0,none⟩=some (.pointer (some ⟨p,0,none⟩))∧W'.cell? ⟨p,2,none⟩=some (.pointer (some ⟨t,0,none⟩))∧W'.cell? ⟨p,3,none⟩=some (.int .i64 seg)∧W'.cell? ⟨p,5,none⟩=some (.int .i64 lsn)∧W'.cell? ⟨p,4,none⟩=some (.int .i64 off):=fun W' hk=>by
    obtain⟨c0,c1,c2,c3,c4,c5,c6,c7,c8,c9⟩:=QI (hbp.keep hk hpFt);exact⟨(KA hI.b3 hk (fun hm=>by have:=htl _ hm;omega)).cell,c2,c3,c5,c4⟩
   have HI':=XC hI;have HD':=XC hD;have S7':=XC s7;clear h0 c1 c2 k6 k7 k57 kw7 hw6 hw7 s6 s7 hseq hgw7 b3C b6C q10' hu7 kwC hI hD
   gi_wp2
   refine XF (wpIn_wide.2 ?_);refine ZT (fun W'=>W'.cell? ⟨w.heap.size,0,none⟩=some (.pointer (some ⟨p,0,none⟩))∧W'.cell? ⟨p,2,none⟩=some (.pointer (some ⟨t,0,none⟩))∧W'.cell? ⟨p,3,none⟩=some (.int .i64 seg)∧W'.cell? ⟨p,5,none⟩=some (.int .i64 lsn)∧W'.cell? ⟨p,4,none⟩=some (.int .i64 off)) 14 [[0,1,2,3,4,5,6,7,8,9,10,11,12,13]] (hcc2 _ (Keep.refl _ _).drew) ?_;simp only[PI]
   iterate 14 (refine ZH ?_;simp only[Act.put,PU])
   refine QC ?_
   go_wp2_with (refine hTo.mono ?_;clear hTo;rintro e W2 ⟨rfl,ht2,hk2⟩)
   have hkT:Keep Ft W W2:=(Keep.refl [] W).drew.zero.trans hk2 (fun x hx=>.inl hx);have hb2:=hbp.keep hkT hpFt;obtain⟨q3,-,-,q5,q4⟩:=hcc2 _ hkT;have f4:=hb2.frozen 4;have f5:=hb2.frozen 5;have f6:=hb2.frozen 6;have e6:=(hb2.cell 6).trans (show _=some (Value.int .i64 prev) from rfl);have hwl:IntKind.i64.wrap (((lsn:Nat):Int)+1)=(lsn:Nat)+1:=by rw[IntKind.wrap_i64];omega
   have q3a:(W2.setCell ⟨p,4,none⟩ (.int .i64 (off+1+m:Nat))).cell? ⟨w.heap.size,0,none⟩=some (.pointer (some ⟨p,0,none⟩)):=by rw[World.cell?_setCell_other _ _ _ _ (by simp)];exact q3
   have q3b:((W2.setCell ⟨p,4,none⟩ (.int .i64 (off+1+m:Nat))).setCell ⟨p,5,none⟩ (.int .i64 ((lsn:Nat)+1))).cell? ⟨w.heap.size,0,none⟩=some (.pointer (some ⟨p,0,none⟩)):=by rw[World.cell?_setCell_other _ _ _ _ (by simp)];exact q3a
   have hba:=hb2.set 4 (.int .i64 (off+1+m:Nat));have q5a:=(hba.cell 5).trans (show _=some (Value.int .i64 lsn) from by simp);have f5a:=hba.frozen 5;have hbb:=hba.set 5 (.int .i64 ((lsn:Nat)+1));have q6b:=(hbb.cell 6).trans (show _=some (Value.int .i64 prev) from by simp);have f6b:=hbb.frozen 6;have hbc:=hbb.set 6 (.int .i64 (sum:Nat));have x6:=KA (JA HI').b6 hkT (fun hm=>by have:=htl _ hm;omega);have e6b:=x6.cell;have f6b':=x6.frozen;obtain⟨Wz,hWz⟩:∃ Wz,Wz=((((W2.setCell ⟨p,4,none⟩ (.int .i64 ((off:Nat)+1+(m:Nat)))).setCell ⟨p,5,none⟩ (.int .i64 ((lsn:Nat)+1))).setCell ⟨p,6,none⟩ (.int .i64 (sum:Nat))).setCell ⟨w.heap.size+1,0,none⟩ (.int .i64 0)).drew:=⟨_,rfl⟩;have hkz0:Keep [p] W2 (((W2.setCell ⟨p,4,none⟩ (.int .i64 ((off:Nat)+1+(m:Nat)))).setCell ⟨p,5,none⟩ (.int .i64 ((lsn:Nat)+1))).setCell ⟨p,6,none⟩ (.int .i64 (sum:Nat))):=(((Keep.refl [p] W2).setCell (p:=⟨p,4,none⟩) (.inl (by simp)) _).setCell (p:=⟨p,5,none⟩) (.inl (by simp)) _).setCell (p:=⟨p,6,none⟩) (.inl (by simp)) _;have hkz1:Keep [w.heap.size+1] (((W2.setCell ⟨p,4,none⟩ (.int .i64 ((off:Nat)+1+(m:Nat)))).setCell ⟨p,5,none⟩ (.int .i64 ((lsn:Nat)+1))).setCell ⟨p,6,none⟩ (.int .i64 (sum:Nat))) Wz:=by rw[hWz];exact((Keep.refl _ _).setCell (.inl (by simp)) _).drew
   have hbz:Blk Wz p 196 #[.pointer (some ⟨d,0,none⟩),.pointer (some ⟨g,0,none⟩),.pointer (some ⟨t,0,none⟩),.int .i64 seg,.int .i64 ((off:Nat)+1+(m:Nat)),.int .i64 ((lsn:Nat)+1),.int .i64 (sum:Nat),.int .i64 mount,.slice IA items.length icc,.slice BA ls0.length bcc]:=by
    have h1:=((hb2.set 4 (.int .i64 ((off:Nat)+1+(m:Nat)))).set 5 (.int .i64 ((lsn:Nat)+1))).set 6 (.int .i64 (sum:Nat));have h2:=h1.keep hkz1 (by simp;omega);simpa using h2
   have b6z:Boxed Wz (w.heap.size+1) 31 (.int .i64 0):=by
    have h1:=KA x6 hkz0 (by simp;omega);rw[hWz];exact KA (h1.set (.int .i64 0)) (Keep.refl [] _).drew (by simp)
   have hdWz:Wz.heap[D']? = some (.deferred (some [])):=(hkz1.block D' (Nat.lt_of_lt_of_le (Array.getElem?_eq_some_iff.1 hdef).1 (Nat.le_trans hkT.size hkz0.size)) (by simp;have:=JA S7';omega)).trans ((hkz0.block D' (Nat.lt_of_lt_of_le (Array.getElem?_eq_some_iff.1 hdef).1 hkT.size) (by simp;have:=JA S7';omega)).trans ((hkT.block D' (Array.getElem?_eq_some_iff.1 hdef).1 (fun hm=>by have:=htl _ hm;have:=JA S7';omega)).trans hdef));have q6z:=(ZC (.deferred none) b6z hdWz rfl).cell
   have hkf:Keep (Fd++(Ft++[p])) w (Wz.putObj D' (.deferred none)):=
    (((((JA HI').keep.sub (m:=Fd++(Ft++[p])) (fun x hx=>List.mem_append_left _ hx)).trans hkT (fun x hx=>.inl (by simp[hx]))).trans hkz0 (fun x hx=>.inl (by simp at hx;simp[hx]))).trans hkz1 (fun x hx=>.inr (by simp at hx;omega))).putObj (g:=D') (by have:=JA S7';omega) (.deferred none)
   have hls:=QK D aa bs q
   have hfin:LogIs (Wz.putObj D' (.deferred none)) base d g t p F' Ft Fw B (Ka D aa bs q) (KE us seg lsn) lv { pos:=⟨seg,off+1+m,lsn+1,sum,mount⟩,items:=items,blocks:=blocks }:=by
    have hgp:g≠p:=fun e=>(JA HH).gw (by rw[e];exact hw.inP)
    have hgF:g∉Fd++(Ft++[p]):=by
     simp only[List.mem_append,List.mem_singleton,not_or];exact⟨(JA HH).gd,(JA HH).gt,hgp⟩
    refine⟨(((((JA HD').keep hkT hDFt).keep hkz0 (fun x hx hm=>hpF' (by simp at hm;subst hm;exact hx))).keep hkz1 (fun x hx hm=>hnot (w.heap.size+1) (by omega) (by have:=JA S7';omega) (by simp at hm;subst hm;exact hx)))).putObj _ hdWz rfl,(JA HH).geom.keep hkf hgF,
     (((ht2.keep hkz0 (fun x hx hm=>hpFt (by simp at hm;subst hm;exact hx))).keep hkz1 (fun x hx hm=>by have:=htl x hx;simp at hm;omega))).putObj _ hdWz rfl,⟨I,Bv,ls0,?_⟩,hDFt,?_,(JA HH).tw,?_,(JA HH).gt,(JA HH).gw,?_,hls.2.1.trans (JA HH).off,hls.2.2.1.trans (JA HH).fuse,hls.1.trans (JA HH).many,Nat.le_trans (JA HH).le hkf.size⟩
    · refine hw.setPosL ⟨seg,off+1+m,lsn+1,sum,mount⟩ ?_ hkf (fun x hx hne hm=>?_)
      · rw[JA HI,JA HB]
        exact XH _ hbz hdWz rfl
      · simp only[List.mem_append,List.mem_singleton] at hm
        rcases hm with hm | hm | hm
        · exact(JA HH).dw x hm hx
        · exact(JA HH).tw x hm hx
        · exact hne hm
    · intro x hx hm
      rcases hgr x hx with h' | h'
      · exact(JA HH).dw x h' hm
      · have:=hw.lt x hm;have:=JA S7';omega
    · intro hm
      rcases hgr g hm with h' | h'
      · exact(JA HH).gd h'
      · have:=(JA HH).geom.lt;have:=JA S7';omega
    · exact⟨b1,(show off+1+m≤24 by omega),(show 1≤lsn+1∧lsn+1≤2147483647 by omega),hsum,b5⟩
   have hseg:aa=JF B seg+off:=by rw[JA HAA,JA HSA];rfl
   have hgrow:Grow w Fd F':=fun x hx=>(hgr x hx).imp id (fun h'=>by have:=JA S7';omega);rw[hseg,JA HBS,JA HQ] at hfin;have HFIN:=XC hfin;have HKF:=XC hkf;have HDZ:=XC hdWz;have HZ:=XC hWz;have HQ6:=XC q6z;clear hfin hkf hdWz hWz q6z hkz0 hkz1 hbz b6z hls hseg
   gi_wp2
   refine XF (wpIn_wide.2 ?_);refine ZR (fun W'=>W'.cell? ⟨w.heap.size,0,none⟩=some (.pointer (some ⟨p,0,none⟩))) 26 (.held 0 (.held 1 (.held 2 (.held 3 (.held 4 (.held 5 (.held 6 (.held 8 (.held 9 (.held 11 (.held 12 (.held 13 (.held 14 (.held 17 (.two 7 (.two 10 (.loud 15 (.held 16 (.held 18 (.held 19 (.held 20 (.loud 21 (.held 22 (.held 23 (.held 24 (.loud 25 .nil)))))))))) 15 (.held 16 (.loud 10 (.held 18 (.held 19 (.held 20 (.loud 21 (.held 22 (.held 23 (.held 24 (.loud 25 .nil))))))))))) 15 (.held 16 (.loud 7 (.loud 10 (.held 18 (.held 19 (.held 20 (.loud 21 (.held 22 (.held 23 (.held 24 (.loud 25 .nil)))))))))))))))))))))))))) q3 ?_;simp only[RT.pick,PJ]
   iterate 14 (refine ZK ?_;simp only[Act.put,PU])
   refine wpR_two ?_ ?_
   · refine wpR_loud (by rfl) (fun K hK=>?_)
     go_wp2_with fail
     refine hK _ _ (q3) ?_;clear hK K
     try simp only[Act.put,PU]
     refine wpR_two ?_ ?_
     · refine wpR_loud (by rfl) (fun K hK=>?_)
       go_wp2_with (refine(hbe _).mono ?_;rintro e w' ⟨rfl,rfl⟩)
       refine hK _ _ (q3) ?_;clear hK K
       try simp only[Act.put,PU]
       refine wpR_loud (by rfl) (fun K hK=>?_)
       go_wp2_with fail
       refine hK _ _ (q3) ?_;clear hK K
       try simp only[Act.put,PU]
       iterate 1 (refine ZK ?_;simp only[Act.put,PU])
       iterate 3 (refine ZK ?_;simp only[Act.put,PU])
       refine wpR_loud (by rfl) (fun K hK=>?_)
       go_wp2_with fail
       refine hK _ _ (q3a) ?_;clear hK K
       try simp only[Act.put,PU]
       iterate 3 (refine ZK ?_;simp only[Act.put,PU])
       refine wpR_loud (by rfl) (fun K hK=>?_)
       go_wp2_with fail
       refine hK _ _ (q3b) ?_;clear hK K
       try simp only[Act.put,PU]
       refine wpR_nil ?_
       go_wp2_with fail
       gi_wp2
       rw[← JA HZ];refine⟨by simp,.inl ⟨_,_,rfl,run_takeDeferred (JA HDZ),?_⟩⟩;have q6z:=JA HQ6;refine⟨.int .i64 0,?_,rfl,F',rs,sum,hrl,hsum,JA HFIN,JA HKF,hgrow⟩;simp[results,Tryz.results206,go_sem,q6z]
     · refine wpR_loud (by rfl) (fun K hK=>?_)
       go_wp2_with fail
       refine hK _ _ (q3) ?_;clear hK K
       try simp only[Act.put,PU]
       iterate 1 (refine ZK ?_;simp only[Act.put,PU])
       refine wpR_loud (by rfl) (fun K hK=>?_)
       go_wp2_with (refine(hbe _).mono ?_;rintro e w' ⟨rfl,rfl⟩)
       refine hK _ _ (q3) ?_;clear hK K
       try simp only[Act.put,PU]
       iterate 3 (refine ZK ?_;simp only[Act.put,PU])
       refine wpR_loud (by rfl) (fun K hK=>?_)
       go_wp2_with fail
       refine hK _ _ (q3a) ?_;clear hK K
       try simp only[Act.put,PU]
       iterate 3 (refine ZK ?_;simp only[Act.put,PU])
       refine wpR_loud (by rfl) (fun K hK=>?_)
       go_wp2_with fail
       refine hK _ _ (q3b) ?_;clear hK K
       try simp only[Act.put,PU]
       refine wpR_nil ?_
       go_wp2_with fail
       gi_wp2
       rw[← JA HZ];refine⟨by simp,.inl ⟨_,_,rfl,run_takeDeferred (JA HDZ),?_⟩⟩;have q6z:=JA HQ6;refine⟨.int .i64 0,?_,rfl,F',rs,sum,hrl,hsum,JA HFIN,JA HKF,hgrow⟩;simp[results,Tryz.results206,go_sem,q6z]
   · refine wpR_loud (by rfl) (fun K hK=>?_)
     go_wp2_with fail
     refine hK _ _ (q3) ?_;clear hK K
     try simp only[Act.put,PU]
     iterate 1 (refine ZK ?_;simp only[Act.put,PU])
     refine wpR_loud (by rfl) (fun K hK=>?_)
     go_wp2_with fail
     refine hK _ _ (q3) ?_;clear hK K
     try simp only[Act.put,PU]
     refine wpR_loud (by rfl) (fun K hK=>?_)
     go_wp2_with (refine(hbe _).mono ?_;rintro e w' ⟨rfl,rfl⟩)
     refine hK _ _ (q3) ?_;clear hK K
     try simp only[Act.put,PU]
     iterate 3 (refine ZK ?_;simp only[Act.put,PU])
     refine wpR_loud (by rfl) (fun K hK=>?_)
     go_wp2_with fail
     refine hK _ _ (q3a) ?_;clear hK K
     try simp only[Act.put,PU]
     iterate 3 (refine ZK ?_;simp only[Act.put,PU])
     refine wpR_loud (by rfl) (fun K hK=>?_)
     go_wp2_with fail
     refine hK _ _ (q3b) ?_;clear hK K
     try simp only[Act.put,PU]
     refine wpR_nil ?_
     go_wp2_with fail
     gi_wp2
     rw[← JA HZ];refine⟨by simp,.inl ⟨_,_,rfl,run_takeDeferred (JA HDZ),?_⟩⟩;have q6z:=JA HQ6;refine⟨.int .i64 0,?_,rfl,F',rs,sum,hrl,hsum,JA HFIN,JA HKF,hgrow⟩;simp[results,Tryz.results206,go_sem,q6z]
end
section
open Go.RowKit Go.Shelf
structure PW.Ok (W:PW):Prop where
 few:W.items.length≤6
 may:∀ i∈W.items,i.May
 full:∀ b∈W.blocks,b.length=64
 many:W.blocks.length=JR W.items
 fit:W.items≠[]→KC W.pos.off W.blocks.length≤23
def Emitted (B:Nat) (D:PDisk) (us:List (Nat×Nat)) (W:PW) (D':PDisk) (us':List (Nat×Nat)) (W':PW):Prop:=
 (W.items=[]∧D'=D∧us'=us∧W'=W) ∨
 (W.items≠[]∧∃ D1 W1 rs sum,Begun B D W D1 W1∧rs.length=64∧sum≤4294967295∧D'=Ka D1 (JF B W.pos.seg+W1.pos.off) (rs++W.blocks.flatten) (1+W.blocks.length)∧us'=KE us W.pos.seg W.pos.lsn ∧
   W'=⟨⟨W.pos.seg,W1.pos.off+1+W.blocks.length,W.pos.lsn+1,sum,W.pos.mount⟩,[],[]⟩)
theorem Begun.same {B:Nat} {D D':PDisk} {W W':PW} (h:Begun B D W D' W'):W'.items=W.items∧W'.blocks=W.blocks∧W'.pos.seg=W.pos.seg∧W'.pos.off=max W.pos.off 1∧W'.pos.lsn=W.pos.lsn∧W'.pos.prev=W.pos.prev∧W'.pos.mount=W.pos.mount∧D'.acts≤D.acts+1:=by
 rcases h with⟨h,rfl,rfl⟩ | ⟨h,b,-,rfl,rfl⟩
 · exact⟨rfl,rfl,rfl,by omega,rfl,rfl,rfl,by omega⟩
 · exact⟨rfl,rfl,rfl,by simp[h],rfl,rfl,rfl,by simp[PDisk.write]⟩
theorem VAs (w:World) (base d g t p:Nat) (Fd Ft Fw:List Nat) (B:Nat) (D:PDisk) (us:List (Nat×Nat)) (lv:List Nat) (W:PW) (h:LogIs w base d g t p Fd Ft Fw B D us lv W) (ho:W.Ok) (ha:D.acts≤1000000) (hlsn:W.pos.lsn<2147483647) :
 Calls Tryz.prog 117 #[.pointer (some ⟨p,0,none⟩)] w fun e w'=>e=.returned (.int .i64 0)∧∃ Fd' Fw' D' us' W',LogIs w' base d g t p Fd' Ft Fw' B D' us' lv W'∧Emitted B D us W D' us' W'∧Keep (Fd++(Ft++Fw)) w w'∧Grow w Fd Fd'∧Grow w Fw Fw':=by
 obtain⟨I,Bv,ls,hw⟩:=h.wri;obtain⟨IA,ic,rfl,_⟩:=JB hw.its;obtain⟨BA,bc,rfl,_⟩:=JB hw.bls;have hOf:=KAe w base d Fd D h.disk;rw[h.off] at hOf;obtain⟨c0,c1,c2,c3,c4,c5,c6,c7,c8,c9⟩:=QI hw.blk
 by_cases hn:W.items.length=0
 · rw[hn] at c8
   go_enter Tryz.func117,Tryz.ntmps117
   go_wp2_with (refine hOf.mono ?_;clear hOf;rintro e w' ⟨rfl,rfl⟩)
   go_ret;exact⟨rfl,Fd,Fw,D,us,W,h,.inl ⟨List.eq_nil_of_length_eq_zero hn,rfl,rfl,rfl⟩,Keep.refl _ _,Grow.refl _ _,Grow.refl _ _⟩
 · have hb:=ZAn w base d g t p Fd Ft Fw B D us lv W h (by omega)
   obtain⟨n,hnn⟩:∃ n,n=W.items.length:=⟨_,rfl⟩;rw[← hnn] at c8;have hnI:¬ ((n:Nat):Int)=0:=by omega
   have HN:=XC hnn;have HN0:=XC hn;clear hnn hn
   go_enter Tryz.func117,Tryz.ntmps117
   go_wp2_with (first | (refine hOf.mono ?_;clear hOf;rintro e w' ⟨rfl,rfl⟩) | (refine hb.mono ?_;clear hb;rintro e w1 ⟨rfl,Fd1,D1,W1,h1,hbg,hk1,hg1⟩))
   clear c0 c1 c2 c3 c4 c5 c6 c7 c8 c9;obtain⟨I1,Bv1,ls1,hw1⟩:=h1.wri;obtain⟨IA1,ic1,rfl,_⟩:=JB hw1.its;obtain⟨BA1,bc1,rfl,_⟩:=JB hw1.bls;obtain⟨e1,e2,e3,e4,e5,e6,e7,e8⟩:=hbg.same;have hn1:W1.items.length=n:=by rw[e1,← JA HN]
   have hm1:ls1.length=W.blocks.length:=by rw[hw1.len,e2]
   have hne:W.items≠[]:=fun e=>JA HN0 (by rw[e];rfl);have hfit:=ho.fit hne;have hn0:1≤n:=by have:=JA HN0;have:=JA HN;omega
   have hn6:n≤6:=by have:=JA HN;have:=ho.few;omega
   rw[hn1] at hw1;have hIw:=hw1.its;have hblk1:=hw1.blk;rw[hn1] at hIw;obtain⟨ig,ic1',hig,_⟩:=QD hIw (by omega);cases hig;obtain⟨m,hm⟩:∃ m,m=W.blocks.length:=⟨_,rfl⟩;rw[← hm] at hm1 hfit;have hR1:=hw1.rws rfl;rw[hm1] at hR1 hblk1
   have hWr:=KAj w1.drew base d g t p Fd1 Ft Fw B D1 us lv W1 (h1.keep0 (Keep.refl _ _).drew) (by omega) ig n ic1 W1.items (Rd.of_ownN (QB hIw (Keep.refl _ _).drew)) hn1 (by rw[e1];exact ho.may) hn0 hn6 BA1 m bc1 ls1 (hR1.keep (Keep.refl _ _).drew)
    (fun q hq=>ho.full _ (by rw[← e2,← hw1.snd];exact List.mem_map.2 ⟨q,hq,rfl⟩)) (by rw[hm,ho.many,e1]) (by rw[e4];omega) (by rw[e4];unfold KC at hfit;omega) (by rw[e5];omega)
   obtain⟨c0,c1,c2,c3,c4,c5,c6,c7,c8,c9⟩:=QI hblk1;have HM:=XC hm;have HM1:=XC hm1;have HN1:=XC hn1;have HE:=XC (And.intro e1 (And.intro e2 (And.intro e3 (And.intro e4 (And.intro e5 (And.intro e6 (And.intro e7 e8)))))));have HB:=XC hbg;clear hm hm1 hn1 e1 e2 e3 e4 e5 e6 e7 e8 hIw hR1 hbg;refine ZT (fun w'=>w'.cell? ⟨p,8,none⟩=some (.slice (some ⟨ig,0,none⟩) n ic1)∧w'.cell? ⟨p,9,none⟩=some (.slice BA1 m bc1)) 9 [[0,1,2,3,4,5,6,7,8]] ⟨c8,c9⟩ ?_;simp only[PI]
   iterate 9 (refine ZH ?_;simp only[Act.put,PU])
   refine QC ?_;clear c0 c1 c2 c3 c4 c5 c6 c7 c8 c9
   go_wp2_with (refine hWr.mono ?_;clear hWr;rintro e w2 ⟨rfl,Fd2,rs,sum,hrl,hsum,h2,hk2,hg2⟩;(obtain⟨I2,Bv2,ls2,hw2⟩:=h2.wri);(have f8:=hw2.blk.frozen 8);(have f9:=hw2.blk.frozen 9);(obtain⟨c0,c1,c2,c3,c4,c5,c6,c7,c8,c9⟩:=QI hw2.blk);(obtain⟨IA2,ic2,hI2,_⟩:=JB hw2.its);(obtain⟨BA2,bc2,hB2,_⟩:=JB hw2.bls);rw[hI2] at c8;rw[hB2] at c9;(have HI2:=XC hI2);(have HB2:=XC hB2);clear hI2 hB2)
   go_ret;obtain⟨e1,e2,e3,e4,e5,e6,e7,e8⟩:=JA HE;have hkp:Keep [p] w2 ((w2.setCell ⟨p,8,none⟩ (.slice none 0 0)).setCell ⟨p,9,none⟩ (.slice none 0 0)):=((Keep.refl [p] w2).setCell (p:=⟨p,8,none⟩) (.inl (by simp)) _).setCell (p:=⟨p,9,none⟩) (.inl (by simp)) _;have hbz:=(hw2.blk.set 8 (.slice none 0 0)).set 9 (.slice none 0 0)
   have h3:=h2.setWri (w':=(w2.setCell ⟨p,8,none⟩ (.slice none 0 0)).setCell ⟨p,9,none⟩ (.slice none 0 0)) (Fw':=[p]) (W':=⟨⟨W.pos.seg,W1.pos.off+1+m,W.pos.lsn+1,sum,W.pos.mount⟩,[],[]⟩)
    ⟨.slice none 0 0,.slice none 0 0,[],by rw[← e3,← e5,← e7];simpa using hbz,World.ownsRow_nil _ _ _ _,World.ownsRow_nil _ _ _ _,by simp,rfl,rfl,hw2.base⟩
    (hkp.sub (fun x hx=>by simp at hx;subst hx;exact hw2.inP)) (fun x hx=>.inl (by simp at hx;subst hx;exact hw2.inP)) (by have:=h2.pos;rw[e3,e5,e7] at this;exact this)
   refine⟨rfl,Fd2,[p],_,_,_,h3,.inr ⟨hne,D1,W1,rs,sum,JA HB,hrl,hsum,?_,?_,?_⟩,?_,?_,?_⟩
   · rw[e3,← JA HM]
     congr 2
     rw[← e2,← hw1.snd,List.flatMap_def]
   · rw[e3,e5]
   · rw[← JA HM]
   · refine((hk1.sub (m:=Fd++(Ft++Fw)) ?_).drew.trans hk2 ?_).trans hkp ?_
     · intro x hx
       rcases List.mem_append.1 hx with hx | hx
       · simp[hx]
       · simp at hx;subst hx;simp[hw.inP]
     · intro x hx
       rcases List.mem_append.1 hx with hx | hx
       · exact(hg1 x hx).imp (fun h=>by simp[h]) id
       · rcases List.mem_append.1 hx with hx | hx
         · exact .inl (by simp[hx])
         · simp at hx;subst hx;exact .inl (by simp[hw.inP])
     · intro x hx
       simp at hx;subst hx;exact .inl (by simp[hw.inP])
   · intro x hx
     rcases hg2 x hx with hx | hx
     · exact hg1 x hx
     · exact .inr (Nat.le_trans hk1.size hx)
   · intro x hx
     simp at hx;subst hx;exact .inl hw.inP
end
section
open Go.RowKit Go.Shelf
def Turned (B:Nat) (D:PDisk) (us:List (Nat×Nat)) (W:PW) (s:Nat) (D':PDisk) (us':List (Nat×Nat)) (W':PW):Prop:=
 ∃ rs hd sum,rs.length=64∧hd.length=64∧sum≤4294967295∧D'=(Ka D (JF B W.pos.seg+W.pos.off) rs 1).write (JF B s) hd∧us'=XE (KE us W.pos.seg W.pos.lsn) W.pos.seg 2∧W'={ W with pos:=⟨s,1,W.pos.lsn+1,sum,W.pos.mount⟩ }
end
end Go.Proofs.YtkonbpfbjiepfaaGreat
