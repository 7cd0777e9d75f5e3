/- Lemmas of the proof, with their conditions. -/
import Derived.Test.YthgphmfipnjllaaGreatV23
import Derived.Test.YthgphmfipnjllaaGreatV20
namespace Go.Proofs.YthgphmfipnjllaaGreat
set_option linter.unusedSimpArgs false
set_option linter.unusedVariables false
set_option maxHeartbeats 4000000
set_option maxRecDepth 20000
section
open Go.RowKit Go.Shelf
namespace TableAt
variable {w w':World} {base t g:Nat} {F l:List Nat} {us:List (Nat×Nat)} {lv:List Nat}
theorem keep (h:TableAt w base t g F us lv) (hk:Keep l w w') (ha:Apart F l):TableAt w' base t g F us lv:=by obtain⟨L,V,h⟩:=h;exact⟨L,V,h.keep hk ha⟩
theorem keep0 (h:TableAt w base t g F us lv) (hk:Keep [] w w'):TableAt w' base t g F us lv:=h.keep hk Apart.nil_right
theorem lt (h:TableAt w base t g F us lv):∀ x∈F,x<w.heap.size:=by obtain⟨L,V,h⟩:=h;exact h.lt
theorem ge (h:TableAt w base t g F us lv):∀ x∈F,base≤x:=by obtain⟨L,V,h⟩:=h;exact h.ge
end TableAt
def PPos.Ok (p:PPos):Prop:=p.seg≤7∧p.off≤24∧(1≤p.lsn∧p.lsn≤2147483647)∧p.prev≤4294967295∧(1≤p.mount∧p.mount≤2147483647)
structure LogIs (w:World) (base d g t p:Nat) (Fd Ft Fw:List Nat) (B:Nat) (D:PDisk) (us:List (Nat×Nat)) (lv:List Nat) (W:PW):Prop where
 disk:DiskAt w base d Fd D
 geom:GeomAt w g B
 tab:TableAt w base t g Ft us lv
 wri:WriterAt w base p d g t Fw W
 dt:Apart Fd Ft
 dw:Apart Fd Fw
 tw:Apart Ft Fw
 gd:g∉Fd
 gt:g∉Ft
 gw:g∉Fw
 pos:W.pos.Ok
 off:D.off=false
 fuse:D.fuse = -1
 many:D.n=198+4*pgs B
 le:base≤w.heap.size
namespace LogIs
variable {w w':World} {base d g t p:Nat} {Fd Ft Fw l:List Nat} {B:Nat} {D:PDisk} {us:List (Nat×Nat)} {lv:List Nat} {W:PW}
theorem keep0 (h:LogIs w base d g t p Fd Ft Fw B D us lv W) (hk:Keep [] w w'):LogIs w' base d g t p Fd Ft Fw B D us lv W:=
 ⟨h.disk.keep0 hk,h.geom.keep0 hk,h.tab.keep0 hk,h.wri.keep0 hk,h.dt,h.dw,h.tw,h.gd,h.gt,h.gw,h.pos,h.off,h.fuse,h.many,Nat.le_trans h.le hk.size⟩
theorem keep (h:LogIs w base d g t p Fd Ft Fw B D us lv W) (hk:Keep l w w') (hg:g∉l) (h1:Apart Fd l) (h2:Apart Ft l) (h3:Apart Fw l):LogIs w' base d g t p Fd Ft Fw B D us lv W:=
 ⟨h.disk.keep hk h1,h.geom.keep hk hg,h.tab.keep hk h2,h.wri.keep hk h3,h.dt,h.dw,h.tw,h.gd,h.gt,h.gw,h.pos,h.off,h.fuse,h.many,Nat.le_trans h.le hk.size⟩
theorem setDisk (h:LogIs w base d g t p Fd Ft Fw B D us lv W) {Fd':List Nat} {D':PDisk} (hd:DiskAt w' base d Fd' D') (hk:Keep Fd w w') (hg:Grow w Fd Fd') (h1:D'.off=D.off) (h2:D'.fuse=D.fuse) (h3:D'.n=D.n):LogIs w' base d g t p Fd' Ft Fw B D' us lv W:=
 ⟨hd,h.geom.keep hk h.gd,h.tab.keep hk h.dt.symm,h.wri.keep hk h.dw.symm,h.dt.grow hg h.tab.lt,h.dw.grow hg h.wri.lt,h.tw,fun hm=>(hg g hm).elim h.gd (by have:=h.geom.lt;omega),h.gt,h.gw,h.pos,h1.trans h.off,h2.trans h.fuse,h3.trans h.many,Nat.le_trans h.le hk.size⟩
theorem setTab (h:LogIs w base d g t p Fd Ft Fw B D us lv W) {us':List (Nat×Nat)} {lv':List Nat} (ht:TableAt w' base t g Ft us' lv') (hk:Keep Ft w w'):LogIs w' base d g t p Fd Ft Fw B D us' lv' W:=
 ⟨h.disk.keep hk h.dt,h.geom.keep hk h.gt,ht,h.wri.keep hk h.tw.symm,h.dt,h.dw,h.tw,h.gd,h.gt,h.gw,h.pos,h.off,h.fuse,h.many,Nat.le_trans h.le hk.size⟩
theorem setWri (h:LogIs w base d g t p Fd Ft Fw B D us lv W) {Fw':List Nat} {W':PW} (hw:WriterAt w' base p d g t Fw' W') (hk:Keep Fw w w') (hg:Grow w Fw Fw') (hp:W'.pos.Ok):LogIs w' base d g t p Fd Ft Fw' B D us lv W':=
 ⟨h.disk.keep hk h.dw,h.geom.keep hk h.gw,h.tab.keep hk h.tw,hw,h.dt,h.dw.grow_r hg h.disk.lt,h.tw.grow_r hg h.tab.lt,h.gd,h.gt,fun hm=>(hg g hm).elim h.gw (by have:=h.geom.lt;omega),hp,h.off,h.fuse,h.many,Nat.le_trans h.le hk.size⟩
end LogIs
def YB (B s:Nat):Nat:=6+4*pgs B+24*s
structure HeadAs (h:List UInt8) (seg mount lsn prev:Nat):Prop where
 len:h.length=64
 is:h=Qi 64 (Jz seg mount lsn prev)
def Begun (B:Nat) (D:PDisk) (W:PW) (D':PDisk) (W':PW):Prop:=
 (0<W.pos.off∧D'=D∧W'=W)∨(W.pos.off=0∧∃ h:List UInt8,HeadAs h W.pos.seg W.pos.mount W.pos.lsn W.pos.prev∧D'=D.write (YB B W.pos.seg) h∧W'={ W with pos:={ W.pos with off:=1 } })
theorem ZAJ (w:World) (base d g t p:Nat) (Fd Ft Fw:List Nat) (B:Nat) (D:PDisk) (us:List (Nat×Nat)) (lv:List Nat) (W:PW) (h:LogIs w base d g t p Fd Ft Fw B D us lv W) (ha:D.acts≤1000000000) :
 Calls Tryz.prog 179 #[.pointer (some ⟨p,0,none⟩)] w fun e w'=>e=.returned (.int .i64 0)∧∃ Fd' D' W',LogIs w' base d g t p Fd' Ft Fw B D' us lv W'∧Begun B D W D' W'∧Keep (Fd++[p]) w w'∧Grow w Fd Fd':=by
 obtain⟨I,Bv,ls,hw⟩:=h.wri
 obtain⟨⟨seg,off,lsn,prev,mount⟩,items,blocks⟩:=W
 have hpos:=h.pos
 obtain⟨b1,b2,b3,b4,b5⟩:=hpos
 have hblk:=hw.blk
 have hIp:=QB hw.its
 have hBp:=QB hw.bls
 simp only at b1 b2 b3 b4 b5 hblk
 obtain⟨IA,ic,hI,_⟩:=hIp
 obtain⟨BA,bc,hB,_⟩:=hBp
 by_cases ho:0<off
 · obtain⟨c0,c1,c2,c3,c4,c5,c6,c7,c8,c9⟩:=JD hblk
   have hoI:(0:Int)<(off:Nat):=by omega
   go_enter Tryz.func179,Tryz.ntmps179
   go_wp2_with fail
   go_ret
   exact⟨rfl,Fd,D,_,h,.inl ⟨ho,rfl,rfl⟩,Keep.refl _ _,Grow.refl _ _⟩
 · obtain rfl:off=0:=by omega
   rw[hI,hB] at hblk
   have HI:=ZB hI
   have HB:=ZB hB
   clear hI hB
   obtain⟨c0,c1,c2,c3,c4,c5,c6,c7,c8,c9⟩:=JD hblk
   have hE:=fun W=>YAJ seg mount lsn prev (by omega) b5 b3 b4 W
   go_enter Tryz.func179,Tryz.ntmps179
   go_wp2_with fail
   clear c0 c1 c2 c3 c4 c5 c6 c7 c8 c9
   obtain⟨c0,c1,c2,c3,c4,c5,c6,c7,c8,c9⟩:=JD hblk.drew
   refine ZT (fun w'=>w'.cell? ⟨p,3,none⟩=some (.int .i64 seg)∧w'.cell? ⟨p,5,none⟩=some (.int .i64 lsn)∧w'.cell? ⟨p,6,none⟩=some (.int .i64 prev)∧w'.cell? ⟨p,7,none⟩=some (.int .i64 mount)) 26 [[0,1,2,3,4,5,6,7,8,9,10,11,12,13,14,15,16,17,18,19,20],[21,22,23,24,25]] ⟨c3,c5,c6,c7⟩ ?_
   simp only[PI]
   iterate 21 (refine ZH ?_;simp only[Act.put,PU])
   refine XB (by rfl) (fun K hK=>?_)
   go_wp2_with (refine(hE _).mono ?_;clear hE;rintro e w2 ⟨u,rfl,hu,hk2⟩)
   clear c0 c1 c2 c3 c4 c5 c6 c7 c8 c9
   have hkA:Keep [] w w2:=(Keep.refl _ _).drew.trans0 hk2
   obtain⟨c0,c1,c2,c3,c4,c5,c6,c7,c8,c9⟩:=JD (hblk.keep0 hkA)
   refine hK _ _ (⟨c3,c5,c6,c7⟩) ?_
   clear hK K
   try simp only[Act.put,PU]
   iterate 4 (refine ZH ?_;simp only[Act.put,PU])
   refine JB ?_
   go_wp2_with fail
   clear c0 c1 c2 c3 c4 c5 c6 c7 c8 c9
   obtain⟨c0,c1,c2,c3,c4,c5,c6,c7,c8,c9⟩:=JD (hblk.keep0 hkA).drew
   refine ZT (fun w'=>w'.cell? ⟨p,0,none⟩=some (.pointer (some ⟨d,0,none⟩))∧w'.cell? ⟨p,1,none⟩=some (.pointer (some ⟨g,0,none⟩))∧w'.cell? ⟨p,3,none⟩=some (.int .i64 seg)) 15 [[0,1,2,3,4,5,6,7,8,9,10,11,12,14],[13]] ⟨c0,c1,c3⟩ ?_
   simp only[PI]
   iterate 14 (refine ZH ?_;simp only[Act.put,PU])
   refine XB (by rfl) (fun K hK=>?_)
   go_wp2_with (refine(VQ _ g B (h.geom.keep0 hkA.drew) seg (by omega)).mono ?_;rintro e w3 ⟨rfl,hk3⟩)
   have hkB:Keep [] w w3:=hkA.drew.trans0 hk3
   clear c0 c1 c2 c3 c4 c5 c6 c7 c8 c9
   obtain⟨c0,c1,c2,c3,c4,c5,c6,c7,c8,c9⟩:=JD (hblk.keep0 hkB)
   refine hK _ _ (⟨c0,c1,c3⟩) ?_
   clear hK K
   try simp only[Act.put,PU]
   refine JB ?_
   obtain⟨g2,uc,rfl,huc⟩:=ZG hu (by omega)
   have hu3:=ZA (ZA hu (Keep.refl _ _).drew) hk3
   have hg2:=own_mem hu (g:=g2) (by simp[Value.ownBlock])
   have hWr:=Qu w3 base d Fd D (h.disk.keep0 hkB) h.off h.fuse ha (YB B seg) (by rw[h.many];unfold YB;omega) (some ⟨g2,0,none⟩) uc _ (Rd.of_own hu3) (fun a ha' hm=>by cases ha';have h2:g2<w.heap.size:=h.disk.lt _ hm;have h1:w.heap.size≤g2:=hg2.1;omega) (Nat.le_trans h.le hkB.size)
   unfold YB at hWr
   go_wp2_with (refine hWr.mono ?_;clear hWr;rintro e w4 ⟨rfl,Fd',hD,hk4,hg4⟩;(have hb4:=(hblk.keep0 hkB).keep hk4 (fun hm=>h.dw _ hm hw.inP));(obtain⟨e0,e1,e2,e3,e4,e5,e6,e7,e8,e9⟩:=JD hb4);(have f4:=hb4.frozen 4))
   go_ret
   have hkp:Keep [p] w4 (w4.setCell ⟨p,4,none⟩ (.int .i64 1)):=(Keep.refl _ _).setCell (.inl (by simp)) _
   have hw4:=(hw.keep0 hkB).keep hk4 h.dw.symm
   have hbs:=hw4.blk.set 4 (.int .i64 1)
   have hw5:=hw4.setPos ⟨seg,1,lsn,prev,mount⟩ (w':=w4.setCell ⟨p,4,none⟩ (.int .i64 1)) (by simpa using hbs) hkp
   have h4:=(h.keep0 hkB).setDisk hD hk4 hg4 rfl rfl rfl
   have h5:=h4.setWri ⟨_,_,_,hw5⟩ (hkp.sub (fun x hx=>by simp at hx;subst hx;exact hw.inP)) (Grow.refl _ _) ⟨b1,(show 1≤24 by omega),b3,b4,b5⟩
   have hKK:Keep (Fd++[p]) w (w4.setCell ⟨p,4,none⟩ (.int .i64 1)):=((hkB.sub (m:=Fd++[p]) (by simp)).trans hk4 (fun x hx=>.inl (List.mem_append_left _ hx))).trans hkp (fun x hx=>.inl (List.mem_append_right _ hx))
   exact⟨rfl,Fd',_,_,h5,.inr ⟨rfl,_,⟨Xu _ _ (by omega) (by rw[XQ];omega),rfl⟩,rfl,rfl⟩,hKK,fun x hx=>(hg4 x hx).imp id (fun h=>Nat.le_trans hkB.size h)⟩
end
section
open Go.RowKit Go.Shelf
attribute [local go_sem] Oper.semAt_some
theorem KAJ {W:World} {b:Nat} {t:TypeId} {x0 x1 x2 x3 x4:Value} (h:Blk W b t #[x0,x1,x2,x3,x4]) (v0 v1 v2 v3 v4:Value) :
 Blk (((((W.setCell ⟨b,0,none⟩ v0).setCell ⟨b,1,none⟩ v1).setCell ⟨b,2,none⟩ v2).setCell ⟨b,3,none⟩ v3).setCell ⟨b,4,none⟩ v4) b t #[v0,v1,v2,v3,v4] ∧
 Keep [b] W (((((W.setCell ⟨b,0,none⟩ v0).setCell ⟨b,1,none⟩ v1).setCell ⟨b,2,none⟩ v2).setCell ⟨b,3,none⟩ v3).setCell ⟨b,4,none⟩ v4):=by
 have hz:=((((h.set 0 v0).set 1 v1).set 2 v2).set 3 v3).set 4 v4
 simp only[List.setIfInBounds_toArray,List.set_cons_zero,List.set_cons_succ] at hz
 exact⟨hz,(((((Keep.refl [b] W).setCell (p:=⟨b,0,none⟩) (.inl (by simp)) _).setCell (p:=⟨b,1,none⟩) (.inl (by simp)) _).setCell (p:=⟨b,2,none⟩) (.inl (by simp)) _).setCell (p:=⟨b,3,none⟩) (.inl (by simp)) _).setCell (p:=⟨b,4,none⟩) (.inl (by simp)) _⟩
def XI (W:World) (s d g sg:Nat) (q:PPos):Prop:=Blk W s 333 #[.pointer (some ⟨d,0,none⟩),.pointer (some ⟨g,0,none⟩),.int .i64 (sg:Nat),.int .i64 0,.int .i64 0,.int .i64 0,.int .i64 0,.bool true,.int .i64 (q.seg:Nat),.int .i64 (q.off:Nat),.int .i64 (q.lsn:Nat),.int .i64 (q.prev:Nat),.int .i64 (q.mount:Nat),.int .i64 0]
theorem ZAO (w:World) (d g B sg:Nat) (hg:GeomAt w g B) (hs:sg≤7) :
 Calls Tryz.prog 173 #[.pointer (some ⟨d,0,none⟩),.pointer (some ⟨g,0,none⟩),.int .i64 (sg:Nat)] w fun e w'=>∃ s,e=.returned (.pointer (some ⟨s,0,none⟩))∧XI w' s d g sg ⟨sg,0,0,0,0⟩∧w.heap.size≤s∧Keep [] w w':=by
 have hN:Calls Tryz.prog 282 #[.pointer (some ⟨d,0,none⟩),.pointer (some ⟨g,0,none⟩),.agg #[.int .i64 (sg:Nat),.int .i64 0,.int .i64 0,.int .i64 0,.int .i64 0]] w fun e w'=>∃ s,e=.returned (.pointer (some ⟨s,0,none⟩))∧Blk w' s 333 #[.pointer (some ⟨d,0,none⟩),.pointer (some ⟨g,0,none⟩),.int .i64 (sg:Nat),.int .i64 0,.int .i64 0,.int .i64 0,.int .i64 0,.bool false,.int .i64 (sg:Nat),.int .i64 0,.int .i64 0,.int .i64 0,.int .i64 0,.int .i64 0]∧w.heap.size≤s∧Keep [] w w':=by
  go_enter Tryz.func282,Tryz.ntmps282
  go_wp2
  go_ret
  exact⟨_,rfl,Blk.new1 _ _ _ _,by simp,((Keep.refl _ _).alloc _).alloc _⟩
 have hH:=fun W (hk:Keep [] w W)=>Ym W g B (hg.keep0 hk) (sg:Nat)
 rw[decide_eq_true (by omega)] at hH
 go_enter Tryz.func173,Tryz.ntmps173
 go_wp2_with (first
  | (refine hN.mono ?_
     clear hN
     rintro e w1 ⟨s,rfl,hb,hsz,hk⟩
     have c7:=(cells14 hb).2.2.2.2.2.2.2.1
     have f7:=hb.frozen 7)
  | (refine(hH _ hk).mono ?_;clear hH;rintro e w2 ⟨rfl,rfl⟩))
 have hb2:=hb.set 7 (.bool true)
 simp only[List.setIfInBounds_toArray,List.set_cons_zero,List.set_cons_succ] at hb2
 go_ret
 exact⟨s,rfl,hb2,hsz,hk.setCell (p:=⟨s,7,none⟩) (.inr hsz) _⟩
theorem VW (w:World) (s d g sg base:Nat) (q:PPos) (F:List Nat) (D:PDisk) (hs:XI w s d g sg q) (h:DiskAt w base d F D) (hoff:D.off=false) (k:Nat) (hk:k<D.n) (hf:D.faults[k]? = some false) :
 Calls Tryz.prog 367 #[.pointer (some ⟨s,0,none⟩),.int .i64 (k:Nat)] w fun e w'=>∃ u,e=.returned (.tuple #[u,.bool true])∧w'.ownsRow w.heap.size 5 1 u 64 (bys (Go.Proofs.YthgphmfipnjllaaGreat.seg 64 D.now k))∧XI w' s d g sg q∧Keep [s] w w':=by
 have hR:=YAK w base d F D h hoff k hk hf
 unfold XI at *
 obtain⟨c0,c1,c2,c3,c4,c5,c6,c7,c8,c9,c10,c11,c12,c13⟩:=cells14 hs
 go_enter Tryz.func367,Tryz.ntmps367
 go_wp2_with (
  refine hR.mono ?_
  clear hR c0 c1 c2 c3 c4 c5 c6 c7 c8 c9 c10 c11 c12 c13
  rintro e w2 ⟨u,rfl,hu,hk2⟩
  obtain⟨UA,uc,rfl,_⟩:=QB hu
  have hs2:=hs.keep0 hk2
  obtain⟨c0,c1,c2,c3,c4,c5,c6,c7,c8,c9,c10,c11,c12,c13⟩:=cells14 hs2
  have f13:=hs2.frozen 13
  have hlt:=hs2.lt)
 have hs3:=hs2.set 13 (.int .i64 0)
 have hk3:Keep [s] w2 (w2.setCell ⟨s,13,none⟩ (.int .i64 0)):=(Keep.refl _ _).setCell (p:=⟨s,13,none⟩) (.inl (by simp)) _
 have hu3:=KA hu hk3 (fun x hx hm=>by simp at hm;subst hm;exact own_blk_ne hu hs2 (by decide) hx)
 simp only[List.setIfInBounds_toArray,List.set_cons_zero,List.set_cons_succ] at hs3
 have hd3:=hs3.drew
 have q:=(cells14 hd3).2.2.2.2.2.2.2.2.2.2.2.2.2
 refine ZT (fun W=>W.cell? ⟨s,13,none⟩=some (.int .i64 0)) 7 [[0,1,2,3,4,5,6]] q ?_
 simp only[PI]
 iterate 7 (refine ZH ?_;simp only[Act.put,PU])
 refine JB ?_
 go_wp2
 go_ret2
 exact⟨_,rfl,ZA hu3 (Keep.refl _ _).drew,hd3,(hk2.zero.trans hk3 (fun x hx=>.inl hx)).drew⟩
theorem JAM (w:World) (s d g B base sg mount lsn prev:Nat) (q:PPos) (F:List Nat) (D:PDisk) (hs:XI w s d g sg q) (hg:GeomAt w g B) (h:DiskAt w base d F D) (hoff:D.off=false) (hn:D.n=198+4*pgs B) (hsg7:sg≤7) (hf:D.faults[YB B sg]? = some false)
 (h2:1≤mount∧mount≤2147483647) (h3:1≤lsn∧lsn≤2147483647) (h4:prev≤4294967295) (hz:Go.Proofs.YthgphmfipnjllaaGreat.seg 64 D.now (YB B sg)=Yp sg mount lsn prev) (hsF:s∉F) (hsg:s≠g) :
 Calls Tryz.prog 339 #[.pointer (some ⟨s,0,none⟩)] w fun e w'=>e=.returned (.tuple #[.agg #[.int .i64 sg,.int .i64 1,.int .i64 lsn,.int .i64 prev,.int .i64 mount],.bool true])∧XI w' s d g sg q∧Keep [s] w w':=by
 have hH:=fun W (hk:Keep [s] w W)=>Ym W g B (hg.keep hk (by simpa using fun e=>hsg e.symm)) (sg:Nat)
 rw[decide_eq_true (by omega)] at hH
 have hC:=fun W (hk:Keep [s] w W)=>ConfigG_is W g B (hg.keep hk (by simpa using fun e=>hsg e.symm))
 have hSg:∀ W,Keep [s] w W→Calls Tryz.prog 40 #[.pointer (some ⟨g,0,none⟩),.int .i64 sg] W fun e w'=>e=.returned (.int .i64 ((YB B sg:Nat)))∧Keep [] W w':=fun W hk=>VQ W g B (hg.keep hk (by simpa using fun e=>hsg e.symm)) sg hsg7
 have hR:=fun W (hk:Keep [s] w W) (hS:XI W s d g sg q)=>VW W s d g sg base q F D hS (h.keep hk (fun x hx hm=>by simp at hm;subst hm;exact hsF hx)) hoff (YB B sg) (by unfold YB;omega) hf
 rw[hz] at hR
 generalize YB B sg=K at *
 have hHd:=fun W A c (ha:Rd W A 64 (bys (Yp sg mount lsn prev)))=>VAm sg mount lsn prev (by omega) h2 h3 h4 A c W ha
 generalize Yp sg mount lsn prev=hb at *
 clear hz hf hn
 have hS:=hs
 have hfd:=fun W=>VF (P:=Tryz.prog) Tryz.underlying27 2 rfl Tryz.isAgg3 #[.int .i64 B,.int .i64 8,.int .i64 24] rfl W
 unfold XI at hs
 obtain⟨c0,c1,c2,c3,c4,c5,c6,c7,c8,c9,c10,c11,c12,c13⟩:=cells14 hs
 have f13:=hs.frozen 13
 have hlt:=hs.lt
 have hs1:=hs.set 13 (.int .i64 0)
 have hk1:Keep [s] w (w.setCell ⟨s,13,none⟩ (.int .i64 0)):=(Keep.refl _ _).setCell (p:=⟨s,13,none⟩) (.inl (by simp)) _
 have hne:s≠w.heap.size:=by omega
 simp only[List.setIfInBounds_toArray,List.set_cons_zero,List.set_cons_succ] at hs1
 go_enter Tryz.func339,Tryz.ntmps339
 go_wp2_with fail
 have hbp:=Blk.new (w.setCell ⟨s,13,none⟩ (.int .i64 0)) 72 #[.int .i64 sg,.int .i64 0,.int .i64 0,.int .i64 0,.int .i64 0]
 rw[World.size_setCell] at hbp
 have hka:=hk1.alloc (.cells #[.int .i64 sg,.int .i64 0,.int .i64 0,.int .i64 0,.int .i64 0] 72)
 have hsa:=hs1.keep0 ((Keep.refl [] _).alloc (.cells #[.int .i64 sg,.int .i64 0,.int .i64 0,.int .i64 0,.int .i64 0] 72))
 clear hs1 hk1 f13 hlt c0 c1 c2 c3 c4 c5 c6 c7 c8 c9 c10 c11 c12 c13 hs
 generalize ((w.setCell ⟨s,13,none⟩ (.int .i64 0)).alloc (.cells #[.int .i64 sg,.int .i64 0,.int .i64 0,.int .i64 0,.int .i64 0] 72))=w1 at *
 have hbd:=hbp.drew
 have hsd:=hsa.drew
 have hkd:=hka.drew
 obtain⟨p0,p1,p2,p3,p4⟩:=cells5 hbd
 have c1:=(cells14 hsd).2.1
 refine ZT (fun W=>W.cell? ⟨s,1,none⟩=some (.pointer (some ⟨g,0,none⟩))∧W.cell? ⟨w.heap.size,0,none⟩=some (.int .i64 sg)∧W.cell? ⟨w.heap.size,1,none⟩=some (.int .i64 0)) 22 [[0,1,2,3,4,5],[6,7,8,9,10,11,12,13,14,15,16,17,18,19],[20,21]] ⟨c1,p0,p1⟩ ?_
 simp only[PI]
 iterate 6 (refine ZH ?_;simp only[Act.put,PU])
 refine XB (by rfl) (fun K hK=>?_)
 go_wp2_with (refine(hH _ hkd).mono ?_;rintro e w2 ⟨rfl,rfl⟩)
 refine hK _ _ (⟨c1,p0,p1⟩) ?_
 clear hK K
 try simp only[Act.put,PU]
 iterate 13 (refine ZH ?_;simp only[Act.put,PU])
 refine XB (by rfl) (fun K hK=>?_)
 go_wp2_with (refine(hC _ hkd).mono ?_;rintro e w2 ⟨rfl,hk2⟩)
 have hb2:=hbd.keep0 hk2
 have hs2:=hsd.keep0 hk2
 have hkw2:=hkd.trans0 hk2
 obtain⟨p0',p1',p2',p3',p4'⟩:=cells5 hb2
 have c1':=(cells14 hs2).2.1
 refine hK _ _ (⟨c1',p0',p1'⟩) ?_
 clear hK K
 try simp only[Act.put,PU]
 iterate 1 (refine ZH ?_;simp only[Act.put,PU])
 refine JB ?_
 clear p0 p1 p2 p3 p4 c1 hbd hsd hkd hbp hka hsa
 have hltp:=hb2.lt
 go_wp2_with fail
 have hbd:=hb2.drew
 have hsd:=hs2.drew
 have hkd:=hkw2.drew
 obtain⟨p0,p1,p2,p3,p4⟩:=cells5 hbd
 have c1:=(cells14 hsd).2.1
 refine ZT (fun W=>W.cell? ⟨s,1,none⟩=some (.pointer (some ⟨g,0,none⟩))∧W.cell? ⟨w.heap.size,0,none⟩=some (.int .i64 sg)) 13 [[0,1,2,3,4,5,6],[7],[8,9,10,11,12]] ⟨c1,p0⟩ ?_
 simp only[PI]
 iterate 7 (refine ZH ?_;simp only[Act.put,PU])
 refine XB (by rfl) (fun K hK=>?_)
 go_wp2_with (refine(hSg _ hkd).mono ?_;rintro e w3 ⟨rfl,hk3⟩)
 have hb3:=hbd.keep0 hk3
 have hs3:=hsd.keep0 hk3
 have hkw3:=hkd.trans0 hk3
 clear p0 p1 p2 p3 p4 c1 hsd hkd hk3 p0' p1' p2' p3' p4' c1' hb2 hs2 hkw2 hk2
 refine hK _ _ (⟨(cells14 hs3).2.1,(cells5 hb3).1⟩) ?_
 clear hK K
 try simp only[Act.put,PU]
 refine XB (by rfl) (fun K hK=>?_)
 go_wp2_with (refine(hR _ hkw3 hs3).mono ?_;rintro e w4 ⟨u,rfl,hu,hs4,hk4⟩;obtain⟨UA,uc,rfl,_⟩:=QB hu)
 have hb4:=hb3.keep hk4 (by simpa using fun e=>hne e.symm)
 have hkw4:=hkw3.trans hk4 (fun x hx=>.inl hx)
 clear hs3 hkw3 hk4 hb3 hR hSg hbd
 refine hK _ _ (⟨(cells14 hs4).2.1,(cells5 hb4).1⟩) ?_
 clear hK K
 try simp only[Act.put,PU]
 iterate 4 (refine ZH ?_;simp only[Act.put,PU])
 refine JB ?_
 replace hHd:=hHd w4 UA uc (Rd.of_own hu)
 go_wp2_with (
  refine hHd.mono ?_
  clear hHd
  rintro e w5 ⟨rfl,hk5⟩
  have hb5:=hb4.keep0 (hk5.alloc (.cells #[.int .i64 sg,.int .i64 mount,.int .i64 lsn,.int .i64 prev] 260))
  have hs5:=hs4.keep0 (hk5.alloc (.cells #[.int .i64 sg,.int .i64 mount,.int .i64 lsn,.int .i64 prev] 260))
  obtain⟨p0,p1,p2,p3,p4⟩:=cells5 hb5
  have c7:=(cells14 hs5).2.2.2.2.2.2.2.1
  have g0:=hb5.frozen 0
  have g1:=hb5.frozen 1
  have g2:=hb5.frozen 2
  have g3:=hb5.frozen 3
  have g4:=hb5.frozen 4
  have hltp:=hb5.lt)
 have hkw5:=hkw4.trans0 (hk5.alloc (.cells #[.int .i64 sg,.int .i64 mount,.int .i64 lsn,.int .i64 prev] 260))
 obtain⟨hz1,kz1⟩:=KAJ hb5 (.int .i64 sg) (.int .i64 1) (.int .i64 lsn) (.int .i64 prev) (.int .i64 mount)
 obtain⟨hz2,kz2⟩:=KAJ hz1 (.int .i64 sg) (.int .i64 1) (.int .i64 lsn) (.int .i64 prev) (.int .i64 mount)
 have hkz:=kz1.trans kz2 (fun x hx=>.inl hx)
 obtain⟨y0,y1,y2,y3,y4⟩:=cells5 hz2
 exact bodyPost_ret (v:=.tuple #[.agg #[.int .i64 sg,.int .i64 1,.int .i64 lsn,.int .i64 prev,.int .i64 mount],.bool true]) (by simp[results,Tryz.results339,go_sem,y0,y1,y2,y3,y4]) rfl ⟨rfl,hs5.keep hkz (by simpa using hne),hkw5.trans hkz (fun x hx=>.inr (by simp at hx;omega))⟩
end
end Go.Proofs.YthgphmfipnjllaaGreat
