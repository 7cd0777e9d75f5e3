/- Lemmas of the proof, with their conditions. -/
import Derived.Test.YtkonbpfbjiepfaaGreatT47
import Derived.Test.YtkonbpfbjiepfaaGreatT43
import Derived.Test.YtkonbpfbjiepfaaGreatT41
import Derived.Test.YtkonbpfbjiepfaaGreatT25
namespace Go.Proofs.YtkonbpfbjiepfaaGreat
set_option linter.unusedSimpArgs false
set_option linter.unusedVariables false
set_option maxHeartbeats 8000000
set_option maxRecDepth 20000
section
open Go.RowKit Go.Shelf
theorem DiskAt.rebase {w:World} {b b' d:Nat} {F:List Nat} {D:PDisk} (h:DiskAt w b d F D) (hb:b'≤b):DiskAt w b' d F D:=by
 obtain⟨S,N,H,U,h⟩:=h;exact⟨S,N,H,U,h.blk,KB h.safe hb,KB h.now hb,KB h.held hb,KB h.flt hb,h.ne,h.foot,Nat.le_trans hb h.base,h.pos,h.few,h.ats,h.acts⟩
theorem RDkNew.keepLt {w w':World} {base d n:Nat} {F l:List Nat} (h:RDkNew w base d F n) (hk:Keep l w w') (hl:∀ x∈l,x<base):RDkNew w' base d F n:=by
 obtain⟨S,U,R,h1,h2,h3,h4,h5,h6⟩:=h;exact⟨S,U,R,h1.keep hk (fun x hx hm=>by have:=h1.ge x hx;have:=hl x hm;omega),h2,h3,h4,h5,fun v hv=>XB (h6 v hv) hk (fun g hg hm=>by have:=(own_mem (h6 v hv) (g:=g) (by simpa using hg)).1;have:=hl g hm;omega)⟩
theorem QAz (n:Nat) (h0:0<n) (hn:n≤4096) (w:World):Calls Tryz.prog 47 #[.int .i64 (n:Nat)] w fun e w'=>∃ d F m Fm b1,e=.returned (.tuple #[.pointer (some ⟨d,0,none⟩),.pointer (some ⟨m,0,none⟩),.bool true])∧DiskAt w' w.heap.size d F (PDisk.new n)∧RDkNew w' b1 m Fm n∧Keep [] w w'∧w.heap.size≤b1∧(∀ x∈F,x<b1)∧(∀ x∈Fm,b1≤x)∧b1≤w'.heap.size:=by
 have hD:=YAf n h0 hn w;have hM:=fun W=>KAD n h0 hn W
 go_enter Tryz.func47,Tryz.ntmps47
 go_wp2_with (first
  | (go_at_call 80;refine hD.mono ?_;clear hD;rintro e w1 ⟨d,F,rfl,hd,hk1⟩)
  | (go_at_call 98;refine(hM _).mono ?_;clear hM;rintro e w2 ⟨m,Fm,rfl,hm,hk2⟩))
 have hge:∀ x∈Fm,w1.heap.size≤x:=by
  obtain⟨R,hR,_⟩:=hm.at_;exact hR.ge
 have hlt:=hd.lt;have hs:=hk1.size;exact bodyPost_ret (v:=.tuple #[.pointer (some ⟨d,0,none⟩),.pointer (some ⟨m,0,none⟩),.bool true]) (by simp[results,Tryz.results47,go_sem]) rfl ⟨d,F,m,Fm,_,rfl,hd.keep0 hk2,hm,hk1.trans0 hk2,hs,hlt,hge,hk2.size⟩
section
variable (w:World) (base s d g t p m:Nat) (Fd Ft Fw Fm:List Nat) (L0 L1:Value) (B:Nat) (S:PS) (h:StoreIs w base s d g t p m Fd Ft Fw Fm L0 L1 B S)
include h
theorem GeomS_is:Calls Tryz.prog 18 #[.pointer (some ⟨s,0,none⟩)] w fun e w'=>e=.returned (.pointer (some ⟨g,0,none⟩))∧w=w':=by
 obtain⟨c0,c1,c2,c3,c4,c5,c6,c7,c8,c9,c10,c11,c12,c13,c14,c15,c16,c17⟩:=ZD h.blk
 go_enter Tryz.func18,Tryz.ntmps18
 go_wp2
 go_ret;exact⟨rfl,rfl⟩
theorem TableS_is:Calls Tryz.prog 43 #[.pointer (some ⟨s,0,none⟩)] w fun e w'=>e=.returned (.pointer (some ⟨t,0,none⟩))∧w=w':=by
 obtain⟨c0,c1,c2,c3,c4,c5,c6,c7,c8,c9,c10,c11,c12,c13,c14,c15,c16,c17⟩:=ZD h.blk
 go_enter Tryz.func43,Tryz.ntmps43
 go_wp2
 go_ret;exact⟨rfl,rfl⟩
end
def YAs (w w':World) (B t d s:Nat) (F:List Nat) (D:PDisk):Prop:=
 ∃ m x:Nat,Blk w' t 37 #[.pointer (some ⟨d,0,none⟩),.pointer (some ⟨m,0,none⟩),.pointer (some ⟨s,0,none⟩),.pointer (some ⟨x,0,none⟩)]∧StoreAt w' w.heap.size s d F B (PS.fresh B D)∧Good B (PS.fresh B D) 0 0∧t∉F∧w.heap.size≤t∧Keep [] w w'
theorem VAS (w:World) (B:Nat) (hB1:1≤B) (hB2:B≤64):Calls Tryz.prog 9 #[.agg #[.int .i64 B,.int .i64 8,.int .i64 24]] w fun e w'=>∃ t d s F D,e=.returned (.tuple #[.pointer (some ⟨t,0,none⟩),.bool true])∧YAs w w' B t d s F D:=by
 have hSe:=fun W=>SectorsR_is W B hB1 hB2;have hpb:=YC hB1 hB2;have hT:=fun W=>QAz (198+4*pgs B) (by omega) (by omega) W;have hS:=fun W base d F (h:DiskAt W base d F (PDisk.new (198+4*pgs B))) hb=>YAn W base d _ B F hB1 hB2 rfl h hb;have hR:∀ W base d F,RDkNew W base d F (198+4*pgs B)→base≤W.heap.size→Calls Tryz.prog 50 #[.pointer (some ⟨d,0,none⟩),KU B,.int .i64 1] W fun e w'=>∃ x,e=.returned (.tuple #[.pointer (some ⟨x,0,none⟩),.int .i64 0])∧Keep F W w':=fun W base d F h hb=>XAz W base d _ B F hB1 hB2 rfl h hb;obtain⟨n,hn⟩:∃ n,n=198+4*pgs B:=⟨_,rfl⟩;rw[← hn] at hSe hT hS hR;have hbc:=Blk.new w 27 #[.int .i64 B,.int .i64 8,.int .i64 24];have hkA:Keep [] w (w.alloc (.cells #[.int .i64 B,.int .i64 8,.int .i64 24] 27)):=(Keep.refl _ _).alloc _;obtain⟨c0,c1,c2⟩:=JC hbc;unfold KU at *;clear hn hpb
 go_enter Tryz.func9,Tryz.ntmps9
 go_wp2_with (first
  | (go_at_call 48
     refine(hSe _).mono ?_;clear hSe;rintro e w1 ⟨rfl,hk1⟩;replace hkA:=hkA.trans0 hk1
     replace hbc:=hbc.keep0 hk1)
  | (go_at_call 47
     refine(hT _).mono ?_;clear hT;rintro e w2 ⟨d,F,m,Fm,b1,rfl,hd,hm,hk2,hs2,hFlt,hFm,hs2'⟩;have hw1:=hkA.size;have hw1l:=hbc.lt;have hFge:=hd.ge;have hFmlt:=hm.lt;replace hkA:=hkA.trans0 hk2;replace hbc:=hbc.keep0 hk2;clear c0 c1 c2;obtain⟨c0,c1,c2⟩:=JC hbc
     have hS2:=hS w2 w.heap.size d F (hd.rebase hw1) hkA.size)
  | (go_at_call 49
     refine hS2.mono ?_;clear hS2 hS;rintro e w3 ⟨s,rfl,F',D,hst,hgood,hk3,hg3⟩;have hbc3:=hbc.keep hk3 (fun hm=>by have:=hFge _ hm;omega);clear c0 c1 c2;obtain⟨c0,c1,c2⟩:=JC hbc3
     have hR3:=hR w3 _ m Fm (hm.keepLt hk3 hFlt) (by have:=hk3.size;omega))
  | (go_at_call 50
     refine hR3.mono ?_;clear hR3 hR;rintro e w4 ⟨x,rfl,hk4⟩
     have hst4:=hst.keep hk4 (fun y hy hmem=>by
      rcases hg3 y hy with h1 | h1
      · have:=hFlt y h1;have:=hFm y hmem;omega
      · have:=hFmlt y hmem;omega)
     have hFge':∀ y∈F',w.heap.size≤y:=hst.ge;have hFlt':=hst.lt;have hs4:=hk4.size;have hkW:Keep [] w w4:=(hkA.trans hk3 (fun y hy=>.inr (by have:=hFge y hy;omega))).trans hk4 (fun y hy=>.inr (by have:=hFm y hy;omega));have hkY:Keep [] w4 (w4.alloc (.cells #[.pointer (some ⟨d,0,none⟩),.pointer (some ⟨m,0,none⟩),.pointer (some ⟨s,0,none⟩),.pointer (some ⟨x,0,none⟩)] 37)):=(Keep.refl _ _).alloc _;have hbY:=Blk.new w4 37 #[.pointer (some ⟨d,0,none⟩),.pointer (some ⟨m,0,none⟩),.pointer (some ⟨s,0,none⟩),.pointer (some ⟨x,0,none⟩)];have hst5:=hst4.keep0 hkY;obtain⟨g,t,p,mm,Fd,Ft,Fw,Fm',L0,L1,hs5,hfoot⟩:=hst5;have hG:=fun W (hk:Keep [] (w4.alloc (.cells #[.pointer (some ⟨d,0,none⟩),.pointer (some ⟨m,0,none⟩),.pointer (some ⟨s,0,none⟩),.pointer (some ⟨x,0,none⟩)] 37)) W)=>GeomS_is W _ s d g t p mm Fd Ft Fw Fm' L0 L1 B _ (hs5.keep0 hk);have hTb:=fun W (hk:Keep [] (w4.alloc (.cells #[.pointer (some ⟨d,0,none⟩),.pointer (some ⟨m,0,none⟩),.pointer (some ⟨s,0,none⟩),.pointer (some ⟨x,0,none⟩)] 37)) W)=>TableS_is W _ s d g t p mm Fd Ft Fw Fm' L0 L1 B _ (hs5.keep0 hk)
     have hIm:=fun W (hk:Keep [] (w4.alloc (.cells #[.pointer (some ⟨d,0,none⟩),.pointer (some ⟨m,0,none⟩),.pointer (some ⟨s,0,none⟩),.pointer (some ⟨x,0,none⟩)] 37)) W)=>ImageS_is W _ s d g t p mm Fd Ft Fw Fm' L0 L1 B _ (hs5.keep0 hk))
  | (go_at_call 18
     refine(hG _ (Keep.refl _ _)).mono ?_;clear hG
     rintro e w' ⟨rfl,rfl⟩)
  | (go_at_call 43
     refine(hTb _ (Keep.refl _ _)).mono ?_;clear hTb
     rintro e w' ⟨rfl,rfl⟩)
  | (go_at_call 15
     refine(hIm _ (Keep.refl _ _)).mono ?_;clear hIm;rintro e w' ⟨rfl,rfl⟩))
 go_ret2;exact⟨w4.heap.size,d,s,F',D,rfl,m,x,hbY,⟨g,t,p,mm,Fd,Ft,Fw,Fm',L0,L1,hs5,hfoot⟩,hgood,fun hm=>by have:=hFlt' _ hm;omega,hkW.size,hkW.alloc _⟩
end
section
open Go.RowKit Go.Shelf
def NoSeal (us:List (Nat×Nat)):Prop:=∀ s,s<8→(us.getD s (0,0)).1≠2
theorem NoSeal.checked {B:Nat} {S S':PS} (h:Checked B S S') (hn:NoSeal S.us) (hi:S.W.items=[]) (hl:S.us.length=8):NoSeal S'.us:=by
 obtain⟨D1,us1,W1,D',l0,l1,hE,_,_,_,rfl⟩:=h;rcases hE with⟨_,rfl,rfl,rfl⟩ | ⟨h1,_⟩
 · intro s hs
   simp only;rw[Kb _ _ _ _ (by omega)]
   split
   · simp
   · exact hn s hs
 · exact absurd hi h1
section
variable (w:World) (base s d g t p m:Nat) (Fd Ft Fw Fm:List Nat) (L0 L1:Value) (B:Nat) (S:PS) (h:StoreIs w base s d g t p m Fd Ft Fw Fm L0 L1 B S)
include h
theorem offC_is:Calls Tryz.prog 369 #[.pointer (some ⟨s,0,none⟩)] w fun e w'=>e=.returned (.bool false)∧w=w':=by
 have hD:=DiskS_is w base s d g t p m Fd Ft Fw Fm L0 L1 B S h;have hO:=KAe w base d Fd S.D h.log.disk;rw[h.log.off] at hO
 go_enter Tryz.func369,Tryz.ntmps369
 go_wp2_with (first
  | (go_at_call 60;refine hD.mono ?_;clear hD;rintro e w' ⟨rfl,rfl⟩)
  | (go_at_call 61;refine hO.mono ?_;clear hO;rintro e w' ⟨rfl,rfl⟩))
 go_ret;exact⟨rfl,rfl⟩
theorem PosS_is:Calls Tryz.prog 131 #[.pointer (some ⟨s,0,none⟩)] w fun e w'=>e=.returned (.agg #[.int .i64 S.W.pos.seg,.int .i64 S.W.pos.off,.int .i64 S.W.pos.lsn,.int .i64 S.W.pos.prev,.int .i64 S.W.pos.mount])∧Keep [] w w':=by
 obtain⟨I0,B0,ls0,hwi⟩:=h.log.wri;have hP:=fun W (hk:Keep [] w W)=>JAX W p _ _ _ _ _ S.W.pos (hwi.blk.keep0 hk);obtain⟨c0,c1,c2,c3,c4,c5,c6,c7,c8,c9,c10,c11,c12,c13,c14,c15,c16,c17⟩:=ZD h.blk;clear c0 c1 c2 c3 c5 c6 c7 c8 c9 c10 c11 c12 c13 c14 c15 c16 c17;have hlt:=h.blk.lt;have hb:=Blk.new w 175 #[.int .i64 0,.int .i64 0,.int .i64 0,.int .i64 0,.int .i64 0];simp only[PPos.cs] at hP;generalize S.W.pos=P at *;obtain⟨seg,off,lsn,prev,mount⟩:=P;simp only at *
 go_enter Tryz.func131,Tryz.ntmps131
 go_wp2_with (go_at_call 214;refine(hP _ ((Keep.refl _ _).alloc _)).mono ?_;clear hP;rintro e w1 ⟨rfl,hk1⟩;(have hb1:=hb.keep0 hk1);(have hlt1:=hb1.lt);(have c0:w1.cell? ⟨w.heap.size,0,none⟩=some (.int .i64 0):=by simpa using hb1.cell 0);(have f0:=hb1.frozen 0);(have c1:w1.cell? ⟨w.heap.size,1,none⟩=some (.int .i64 0):=by simpa using hb1.cell 1);(have f1:=hb1.frozen 1);(have c2:w1.cell? ⟨w.heap.size,2,none⟩=some (.int .i64 0):=by simpa using hb1.cell 2);(have f2:=hb1.frozen 2);(have c3:w1.cell? ⟨w.heap.size,3,none⟩=some (.int .i64 0):=by simpa using hb1.cell 3);(have f3:=hb1.frozen 3);(have c4:w1.cell? ⟨w.heap.size,4,none⟩=some (.int .i64 0):=by simpa using hb1.cell 4);(have f4:=hb1.frozen 4))
 have hz:=((((hb1.set 0 (.int .i64 (seg:Nat))).set 1 (.int .i64 (off:Nat))).set 2 (.int .i64 (lsn:Nat))).set 3 (.int .i64 (prev:Nat))).set 4 (.int .i64 (mount:Nat));have hkz:=(((((Keep.refl [w.heap.size] w1).setCell (p:=⟨w.heap.size,0,none⟩) (.inl (by simp)) (.int .i64 (seg:Nat))).setCell (p:=⟨w.heap.size,1,none⟩) (.inl (by simp)) (.int .i64 (off:Nat))).setCell (p:=⟨w.heap.size,2,none⟩) (.inl (by simp)) (.int .i64 (lsn:Nat))).setCell (p:=⟨w.heap.size,3,none⟩) (.inl (by simp)) (.int .i64 (prev:Nat))).setCell (p:=⟨w.heap.size,4,none⟩) (.inl (by simp)) (.int .i64 (mount:Nat));simp only[List.setIfInBounds_toArray,List.set_cons_zero,List.set_cons_succ] at hz;have y0:=hz.cell 0;have y1:=hz.cell 1;have y2:=hz.cell 2;have y3:=hz.cell 3;have y4:=hz.cell 4;simp at y0 y1 y2 y3 y4;have hk0:Keep [] w (w.alloc (.cells #[.int .i64 0,.int .i64 0,.int .i64 0,.int .i64 0,.int .i64 0] 175)):=(Keep.refl _ _).alloc _;refine bodyPost_ret (v:=.agg #[.int .i64 (seg:Nat),.int .i64 (off:Nat),.int .i64 (lsn:Nat),.int .i64 (prev:Nat),.int .i64 (mount:Nat)]) (by simp[results,Tryz.results131,go_sem,y0,y1,y2,y3,y4]) rfl ⟨rfl,(hk0.trans0 hk1).trans hkz (fun y hy=>.inr (by simp at hy;omega))⟩
theorem YAH (hno:NoSeal S.us):Calls Tryz.prog 323 #[.pointer (some ⟨s,0,none⟩)] w fun e w'=>e=.returned (.tuple #[.int .i64 0,.int .i64 0,.int .i64 5])∧Keep [] w w':=by
 have hO:=offC_is w base s d g t p m Fd Ft Fw Fm L0 L1 B S h;have hG:=GeomS_is w base s d g t p m Fd Ft Fw Fm L0 L1 B S h;have hT:=TableS_is w base s d g t p m Fd Ft Fw Fm L0 L1 B S h;have hP:=PosS_is w base s d g t p m Fd Ft Fw Fm L0 L1 B S h;have hPk:=fun W (hk:Keep [] w W) now=>Yy W t g base now Ft S.us S.lv (h.log.tab.keep0 hk) hno;have hfd:=fun(a0 a1 a2 a3 a4:Value) W=>VE (P:=Tryz.prog) Tryz.underlying175 2 rfl Tryz.isAgg3 #[a0,a1,a2,a3,a4] rfl W;generalize S.W.pos=P at *;obtain⟨seg,off,lsn,prev,mount⟩:=P;simp only at *;clear h
 go_enter Tryz.func323,Tryz.ntmps323
 go_wp2_with (first
  | (go_at_call 369;refine hO.mono ?_;clear hO;rintro e w' ⟨rfl,rfl⟩)
  | (go_at_call 18;refine hG.mono ?_;clear hG;rintro e w' ⟨rfl,rfl⟩)
  | (go_at_call 43;refine hT.mono ?_;clear hT;rintro e w' ⟨rfl,rfl⟩)
  | (go_at_call 131;refine hP.mono ?_;clear hP;rintro e w1 ⟨rfl,hk1⟩)
  | (go_at_call 370;refine(hPk _ hk1 _).mono ?_;clear hPk;rintro e w2 ⟨rfl,hk2⟩))
 go_ret3
 exact⟨rfl,hk1.trans0 hk2⟩
theorem YAl (hno:NoSeal S.us):Calls Tryz.prog 372 #[.pointer (some ⟨s,0,none⟩)] w fun e w'=>e=.returned (.bool false)∧Keep [] w w':=by
 have hG:=GeomS_is w base s d g t p m Fd Ft Fw Fm L0 L1 B S h;have hT:=TableS_is w base s d g t p m Fd Ft Fw Fm L0 L1 B S h;have hP:=PosS_is w base s d g t p m Fd Ft Fw Fm L0 L1 B S h;have hPk:=fun W (hk:Keep [] w W) now=>Yy W t g base now Ft S.us S.lv (h.log.tab.keep0 hk) hno;have hfd:=fun(a0 a1 a2 a3 a4:Value) W=>VE (P:=Tryz.prog) Tryz.underlying175 2 rfl Tryz.isAgg3 #[a0,a1,a2,a3,a4] rfl W;generalize S.W.pos=P at *;obtain⟨seg,off,lsn,prev,mount⟩:=P;simp only at *;clear h
 go_enter Tryz.func372,Tryz.ntmps372
 go_wp2_with (first
  | (go_at_call 18;refine hG.mono ?_;clear hG;rintro e w' ⟨rfl,rfl⟩)
  | (go_at_call 43;refine hT.mono ?_;clear hT;rintro e w' ⟨rfl,rfl⟩)
  | (go_at_call 131;refine hP.mono ?_;clear hP;rintro e w1 ⟨rfl,hk1⟩)
  | (go_at_call 370;refine(hPk _ hk1 _).mono ?_;clear hPk;rintro e w2 ⟨rfl,hk2⟩))
 go_ret;exact⟨rfl,hk1.trans0 hk2⟩
end
theorem JAI (w:World) (base s d:Nat) (F:List Nat) (B:Nat) (S:PS) (h:StoreAt w base s d F B S) (j:Nat) (hj:j≤1000) (hg:Good B S 0 j) (hx:Ext B S) (hp:S.W.pos.Ok) (hgen:S.st.gen≤100000) (hv:1≤S.st.view∧S.st.view≤2147483647) (hm:S.st.mode=1∨S.st.mode=2)
 (hno:NoSeal S.us) (hi:S.W.items=[]) (hl:S.us.length=8) (hbase:base≤w.heap.size) :
 Calls Tryz.prog 324 #[.pointer (some ⟨s,0,none⟩)] w fun e w'=>∃ (n:Int) (F':List Nat) (S':PS),e=.returned (.tuple #[.int .i64 n,.int .i64 0])∧StoreAt w' base s d F' B S'∧Checked B S S'∧Keep F w w'∧Grow w F F':=by
 obtain⟨g,t,p,m,Fd,Ft,Fw,Fm,L0,L1,h,rfl⟩:=h;have hO:=offC_is w base s d g t p m Fd Ft Fw Fm L0 L1 B S h;have hC:=Qv w base s d g t p m Fd Ft Fw Fm L0 L1 B S h hg.cap.ok (by have:=hg.cap.lsn;omega) (by have:=hg.cap.acts;omega) hx.slot hx.lie0 hx.lie1 (VAN hp hg hx (by omega) hgen hv hm);have hl':=h.l0
 go_enter Tryz.func324,Tryz.ntmps324
 go_wp2_with (first
  | (go_at_call 369;refine hO.mono ?_;clear hO;rintro e w' ⟨rfl,rfl⟩)
  | (go_at_call 157
     refine hC.mono ?_;clear hC;rintro e w1 ⟨u,n,ns,Fd',Fw',L0',L1',D1,us1,W1,D',l0,l1,rfl,hu,hE,hM,hl0,hl1,hs1,hk1,hg1⟩;have hch:Checked B S _:=⟨D1,us1,W1,D',l0,l1,hE,hM,hl0,hl1,rfl⟩;have hno1:=NoSeal.checked hch hno hi hl;have hWt:=YAl w1 base s d g t p m Fd' Ft Fw' Fm L0' L1' B _ hs1 hno1;obtain⟨UA,uc,rfl,hnc,hcm,_⟩:=JB hu))
 go_loopw [2,3,4,5] (fun a b c i wr=>a=.int .i64 0∧b=.int .i64 0∧c=.slice UA n uc∧i=.int .i64 0∧wr=w1) (fun _ _ _ _ _=>0)
 case atStart=>exact⟨rfl,rfl,rfl,rfl,rfl⟩
 case round=>
  obtain⟨rfl,rfl,rfl,rfl,rfl⟩:=hrel
  go_wp2_with (go_at_call 372;refine hWt.mono ?_;clear hWt;rintro e w2 ⟨rfl,hk2⟩)
  go_ret2;exact⟨_,_,_,rfl,⟨g,t,p,m,Fd',Ft,Fw',Fm,L0',L1',hs1.keep0 hk2,rfl⟩,hch,hk1.trans0 hk2,hg1⟩
end
section
open Go.RowKit Go.Shelf
theorem NoSeal.us0:NoSeal us0:=by
 intro s hs;have:s=0∨s=1∨s=2∨s=3∨s=4∨s=5∨s=6∨s=7:=by omega
 rcases this with rfl | rfl | rfl | rfl | rfl | rfl | rfl | rfl <;> decide
theorem MSt.keepA {w0 w w':World} {B M f r s d:Nat} {Fs l:List Nat} {S:PS} (h:MSt w0 w B M f r s d Fs S) (hk:Keep l w w') (h1:M∉l) (h2:f∉l) (h3:r∉l) (h4:Apart Fs l):MSt w0 w' B M f r s d Fs S:=by
 obtain⟨⟨v0,v1,v3,v4,v5,mb⟩,fb,⟨x,rb⟩,st,nm,nf,nr,gm,gf,gr⟩:=h;exact⟨⟨v0,v1,v3,v4,v5,mb.keep hk h1⟩,fb.keep hk h2,⟨x,rb.keep hk h3⟩,st.keep hk h4,nm,nf,nr,gm,gf,gr⟩
theorem VBC (w:World) (n:Int):Calls Tryz.prog 250 #[.int .i64 n,.int .i64 0] w fun r w'=>r=.returned (.agg #[.int .i64 0,.int .i64 n])∧Keep [] w w':=by
 go_enter Tryz.func250,Tryz.ntmps250
 go_wp2
 exact bodyPost_ret (v:=.agg #[.int .i64 0,.int .i64 n]) (by simp[results,Tryz.results250,go_sem]) rfl ⟨rfl,(Keep.refl _ _).alloc _⟩
theorem KBB (w:World) (n:Int):Calls Tryz.prog 250 #[.int .i64 n,.int .i64 5] w fun r w'=>r=.returned (.agg #[.int .i64 5,.int .i64 0])∧Keep [] w w':=by
 go_enter Tryz.func250,Tryz.ntmps250
 go_wp2
 exact bodyPost_ret (v:=.agg #[.int .i64 5,.int .i64 0]) (by simp[results,Tryz.results250,go_sem]) rfl ⟨rfl,(Keep.refl _ _).alloc _⟩
theorem Vy (w:World) (M:Nat) (k:Int) (hk:k=10∨k=12) (a b y:Int) (v:Value):Calls Tryz.prog 248 #[.pointer (some ⟨M,0,none⟩),.agg #[.int .i64 k,.int .i64 a,.int .i64 b,.int .i64 y,v]] w fun e w'=>e=.returned (.tuple #[.agg #[.int .i64 0,.int .i64 0],.bool false])∧Keep [] w w':=by
 rcases hk with rfl | rfl
 all_goals
  go_enter Tryz.func248,Tryz.ntmps248
  go_wp2
  exact bodyPost_ret (v:=.tuple #[.agg #[.int .i64 0,.int .i64 0],.bool false]) (by simp[results,Tryz.results248,go_sem]) rfl ⟨rfl,((Keep.refl _ _).alloc _).alloc _⟩
theorem QAC (w:World) (M f:Nat) (v0 v1 v3 v4 v5:Value) (h:Blk w M 340 #[v0,v1,.pointer (some ⟨f,0,none⟩),v3,v4,v5]):Calls Tryz.prog 166 #[.pointer (some ⟨M,0,none⟩)] w fun e w'=>e=.returned (.pointer (some ⟨f,0,none⟩))∧w=w':=by
 have c2:w.cell? ⟨M,2,none⟩=some (.pointer (some ⟨f,0,none⟩)):=by simpa using h.cell 2
 go_enter Tryz.func166,Tryz.ntmps166
 go_wp2
 go_ret;exact⟨rfl,rfl⟩
theorem YAD (w w0:World) (B M f r s d:Nat) (Fs:List Nat) (S:PS) (h:MSt w0 w B M f r s d Fs S) (hno:NoSeal S.us):Calls Tryz.prog 249 #[.pointer (some ⟨f,0,none⟩)] w fun e w'=>e=.returned (.tuple #[.int .i64 0,.int .i64 0,.int .i64 5])∧Keep [] w w':=by
 obtain⟨x,hr⟩:=h.rb;have hS:=Qb w f r s x h.fb hr;obtain⟨g,t,p,m,Fd,Ft,Fw,Fm,L0,L1,hs,_⟩:=h.st;have hC:=YAH w w0.heap.size s d g t p m Fd Ft Fw Fm L0 L1 B S hs hno;clear h hs hr
 go_enter Tryz.func249,Tryz.ntmps249
 go_wp2_with (first
  | (go_at_call 79;refine hS.mono ?_;clear hS;rintro e w' ⟨rfl,rfl⟩)
  | (go_at_call 323;refine hC.mono ?_;clear hC;rintro e w1 ⟨rfl,hk1⟩))
 go_ret3
 exact⟨rfl,hk1⟩
theorem XAD (w w0:World) (B M f r s d:Nat) (Fs:List Nat) (S:PS) (h:MSt w0 w B M f r s d Fs S) (j:Nat) (hj:j≤1000) (hg:Good B S 0 j) (hx:Ext B S) (hp:S.W.pos.Ok) (hgen:S.st.gen≤100000) (hv:1≤S.st.view∧S.st.view≤2147483647) (hm:S.st.mode=1∨S.st.mode=2)
 (hno:NoSeal S.us) (hi:S.W.items=[]) (hl:S.us.length=8) (hbase:w0.heap.size≤w.heap.size) :
 Calls Tryz.prog 252 #[.pointer (some ⟨f,0,none⟩)] w fun e w'=>∃ (n:Int) (Fs':List Nat) (S':PS),e=.returned (.tuple #[.int .i64 n,.int .i64 0])∧MSt w0 w' B M f r s d Fs' S'∧Checked B S S'∧Keep Fs w w'∧Grow w Fs Fs':=by
 obtain⟨x,hr⟩:=h.rb;have hS:=Qb w f r s x h.fb hr;have hC:=JAI w w0.heap.size s d Fs B S h.st j hj hg hx hp hgen hv hm hno hi hl hbase;clear hr
 go_enter Tryz.func252,Tryz.ntmps252
 go_wp2_with (first
  | (go_at_call 79;refine hS.mono ?_;clear hS;rintro e w' ⟨rfl,rfl⟩)
  | (go_at_call 324;refine hC.mono ?_;clear hC;rintro e w1 ⟨n,F',S',rfl,hs1,hc1,hk1,hg1⟩))
 go_ret2;exact⟨n,F',S',rfl,h.turn hs1 hk1 hg1,hc1,hk1,hg1⟩
theorem JAV (w w0:World) (B M f r s d:Nat) (Fs:List Nat) (S:PS) (h:MSt w0 w B M f r s d Fs S) (hno:NoSeal S.us) (a b y:Int) (v:Value) :
 Calls Tryz.prog 165 #[.pointer (some ⟨M,0,none⟩),.agg #[.int .i64 10,.int .i64 a,.int .i64 b,.int .i64 y,v]] w fun e w'=>e=.returned (.agg #[.int .i64 5,.int .i64 0])∧Keep [] w w':=by
 have hS:=fun W=>Vy W M 10 (by omega) a b y v;have hC:=fun W (hk:Keep [] w W)=>YAD W w0 B M f r s d Fs S (h.keep0 hk) hno;obtain⟨v0,v1,v3,v4,v5,hm⟩:=h.mb;have hbe:=Blk.new w 88 #[.int .i64 10,.int .i64 a,.int .i64 b,.int .i64 y,v]
 go_enter Tryz.func165,Tryz.ntmps165
 go_wp2_with (first
  | (go_at_call 248
     refine(hS _).mono ?_;clear hS;rintro e w1 ⟨rfl,hk1⟩;have hbe1:=(hbe.alloc (.cells #[.int .i64 0,.int .i64 0] 246)).keep0 hk1;have a0:w1.cell? ⟨w.heap.size,0,none⟩=some (.int .i64 10):=by simpa using hbe1.cell 0
     have hbR1:Blk w1 (w.heap.size+1) 246 #[.int .i64 0,.int .i64 0]:=(Blk.new1 w _ _ _).keep0 hk1;have hkw1:Keep [] w w1:=(((Keep.refl _ _).alloc _).alloc _).trans0 hk1;have hl1:=hbe1.lt;have m2:w1.cell? ⟨M,2,none⟩=some (.pointer (some ⟨f,0,none⟩)):=by simpa using(hm.keep0 hkw1).cell 2
     have hml:=(hm.keep0 hkw1).lt)
  | (go_at_call 249
     refine(hC _ (hkw1.alloc _)).mono ?_;clear hC;rintro e w2 ⟨rfl,hk2⟩
     have hbR2:=(hbR1.alloc _).keep0 hk2)
  | (go_at_call 250
     refine(KBB _ 0).mono ?_;rintro e w3 ⟨rfl,hk3⟩;have hbR3:=hbR2.keep0 hk3;have r0:w3.cell? ⟨w.heap.size+1,0,none⟩=some (.int .i64 0):=by simpa using hbR3.cell 0
     have r1:w3.cell? ⟨w.heap.size+1,1,none⟩=some (.int .i64 0):=by simpa using hbR3.cell 1
     have g0:=hbR3.frozen 0;have g1:=hbR3.frozen 1;have hl3:=hbR3.lt))
 have hz:=(hbR3.set 0 (.int .i64 5)).set 1 (.int .i64 0);have hkz:=((Keep.refl [w.heap.size+1] w3).setCell (p:=⟨w.heap.size+1,0,none⟩) (.inl (by simp)) (.int .i64 5)).setCell (p:=⟨w.heap.size+1,1,none⟩) (.inl (by simp)) (.int .i64 0);simp only[List.setIfInBounds_toArray,List.set_cons_zero,List.set_cons_succ] at hz;have y0:=hz.cell 0;have y1:=hz.cell 1;simp at y0 y1;exact bodyPost_ret (v:=.agg #[.int .i64 5,.int .i64 0]) (by simp[results,Tryz.results165,go_sem,y0,y1]) rfl ⟨rfl,(((hkw1.alloc _).trans0 hk2).trans0 hk3).trans hkz (fun y hy=>.inr (by simp at hy;omega))⟩
theorem QAa (w w0:World) (B M f r s d:Nat) (Fs:List Nat) (S:PS) (h:MSt w0 w B M f r s d Fs S) (j:Nat) (hj:j≤1000) (hg:Good B S 0 j) (hx:Ext B S) (hp:S.W.pos.Ok) (hgen:S.st.gen≤100000) (hv:1≤S.st.view∧S.st.view≤2147483647) (hmo:S.st.mode=1∨S.st.mode=2) (hno:NoSeal S.us) (hi:S.W.items=[]) (hl:S.us.length=8) (hbase:w0.heap.size≤w.heap.size) (a b y:Int) (v:Value) :
 Calls Tryz.prog 165 #[.pointer (some ⟨M,0,none⟩),.agg #[.int .i64 12,.int .i64 a,.int .i64 b,.int .i64 y,v]] w fun e w'=>∃ (n:Int) (Fs':List Nat) (S':PS),e=.returned (.agg #[.int .i64 0,.int .i64 n])∧MSt w0 w' B M f r s d Fs' S'∧Checked B S S'∧Keep Fs w w'∧Grow w Fs Fs':=by
 have hS:=fun W=>Vy W M 12 (by omega) a b y v;have hC:=fun W (hk:Keep [] w W)=>XAD W w0 B M f r s d Fs S (h.keep0 hk) j hj hg hx hp hgen hv hmo hno hi hl (Nat.le_trans hbase hk.size);obtain⟨v0,v1,v3,v4,v5,hm⟩:=h.mb;have hbe:=Blk.new w 88 #[.int .i64 12,.int .i64 a,.int .i64 b,.int .i64 y,v]
 go_enter Tryz.func165,Tryz.ntmps165
 go_wp2_with (first
  | (go_at_call 248
     refine(hS _).mono ?_;clear hS;rintro e w1 ⟨rfl,hk1⟩;have hbe1:=(hbe.alloc (.cells #[.int .i64 0,.int .i64 0] 246)).keep0 hk1;have a0:w1.cell? ⟨w.heap.size,0,none⟩=some (.int .i64 12):=by simpa using hbe1.cell 0
     have hbR1:Blk w1 (w.heap.size+1) 246 #[.int .i64 0,.int .i64 0]:=(Blk.new1 w _ _ _).keep0 hk1;have hkw1:Keep [] w w1:=(((Keep.refl _ _).alloc _).alloc _).trans0 hk1;have hl1:=hbe1.lt;have m2:w1.cell? ⟨M,2,none⟩=some (.pointer (some ⟨f,0,none⟩)):=by simpa using(hm.keep0 hkw1).cell 2
     have hml:=(hm.keep0 hkw1).lt)
  | (go_at_call 252
     refine(hC _ (hkw1.alloc _)).mono ?_;clear hC;rintro e w2 ⟨n,Fs',S',rfl,hM2,hch,hk2,hgr⟩;have hnR:w.heap.size+1∉Fs:=fun hm=>by have:=h.lt _ hm;omega
     have hbR2:=(hbR1.alloc _).keep hk2 hnR)
  | (go_at_call 250
     refine(VBC _ n).mono ?_;rintro e w3 ⟨rfl,hk3⟩;have hbR3:=hbR2.keep0 hk3;have r0:w3.cell? ⟨w.heap.size+1,0,none⟩=some (.int .i64 0):=by simpa using hbR3.cell 0
     have r1:w3.cell? ⟨w.heap.size+1,1,none⟩=some (.int .i64 0):=by simpa using hbR3.cell 1
     have g0:=hbR3.frozen 0;have g1:=hbR3.frozen 1;have hl3:=hbR3.lt))
 have hz:=(hbR3.set 0 (.int .i64 0)).set 1 (.int .i64 n);have hkz:=((Keep.refl [w.heap.size+1] w3).setCell (p:=⟨w.heap.size+1,0,none⟩) (.inl (by simp)) (.int .i64 0)).setCell (p:=⟨w.heap.size+1,1,none⟩) (.inl (by simp)) (.int .i64 n);simp only[List.setIfInBounds_toArray,List.set_cons_zero,List.set_cons_succ] at hz;have y0:=hz.cell 0;have y1:=hz.cell 1;simp at y0 y1;have hkA:=(((hkw1.alloc _).zero (l:=Fs)).trans hk2 (fun x hx=>.inl hx)).trans0 hk3;refine bodyPost_ret (v:=.agg #[.int .i64 0,.int .i64 n]) (by simp[results,Tryz.results165,go_sem,y0,y1]) rfl ⟨n,Fs',S',rfl,?_,hch,hkA.trans hkz (fun y hy=>.inr (by simp at hy;omega)),?_⟩
 · have hMl:=hm.lt
   have hfl:=h.fb.lt;have hrl:r<w.heap.size:=by obtain⟨x,hr⟩:=h.rb;exact hr.lt
   have hR1:=hbR1.lt
   exact(hM2.keep0 hk3).keepA hkz (by simp;omega) (by simp;omega) (by simp;omega) (fun x hx hm=>by
    simp at hm;subst hm;rcases hgr _ hx with h1 | h1
    · exact hnR h1
    · simp at h1;omega)
 · exact fun x hx=>(hgr x hx).imp id (fun h1=>Nat.le_trans (hkw1.alloc _).size h1)
end
section
open Go.RowKit Go.Shelf
theorem Vp (B:Nat) (D:PDisk) (od:List Bool):KI B (PS.mounted B D od)=List.replicate B zeros64∧XK B (PS.mounted B D od)=List.replicate B none:=by
 unfold KI XK PS.mounted;simp only[List.map_replicate];exact⟨by unfold QG;simp,by simp⟩
theorem Tells.mounted (B:Nat) (D D':PDisk) (od od':List Bool):TellsS B (PS.mounted B D od) (PS.mounted B D' od'):=by
 have h:=Vp B D od;have h':=Vp B D' od';exact⟨rfl,rfl,rfl,rfl,rfl,rfl,rfl,h.1.trans h'.1.symm,h.2.trans h'.2.symm⟩
theorem TellsS.checked {B k j:Nat} {S S1 S2:PS} (h:Checked B S S1) (hg:Good B S k j) (hx:Ext B S) (hj:j≤100000) (ht:TellsS B S S2):TellsS B S1 S2:=by
 obtain⟨_,_,hb,ho,hst⟩:=h.good hg hx hj;obtain⟨D1,us1,W1,D',l0,l1,hE,hM,hl0,hl1,rfl⟩:=h;exact⟨ht.mode,ht.view,ht.epoch,ht.seq,ht.done,ht.live,ht.pend,hb.trans ht.base,ho.trans ht.over⟩
structure Fine (B:Nat) (S:PS) (j:Nat):Prop where
 good:Good B S 0 j
 ext:Ext B S
 pos:S.W.pos.Ok
 gen:S.st.gen≤1+j
 view:1≤S.st.view∧S.st.view≤2147483647
 mode:S.st.mode=1∨S.st.mode=2
 nos:NoSeal S.us
 items:S.W.items=[]
 tell:∀ D od,TellsS B S (PS.mounted B D od)
theorem Fine.mounted {B:Nat} {D:PDisk} {od:List Bool} (hg:Good B (PS.mounted B D od) 0 0):Fine B (PS.mounted B D od) 0:=
 ⟨hg,PS.mounted_ext B D od,by simp[PS.mounted,PPos.Ok],by simp[PS.mounted],by simp[PS.mounted],.inl rfl,NoSeal.us0,rfl,fun D' od'=>Tells.mounted B D D' od od'⟩
theorem Fine.checked {B j:Nat} {S S':PS} (h:Fine B S j) (hj:j≤1000) (hc:Checked B S S'):Fine B S' (j+1):=by
 obtain⟨hg,hx,_,_,hst⟩:=hc.good h.good h.ext (by omega);have hns:=NoSeal.checked hc h.nos h.items h.good.cap.ul;have ht:∀ D od,TellsS B S' (PS.mounted B D od):=fun D od=>TellsS.checked hc h.good h.ext (by omega) (h.tell D od);have hgen:=h.gen
 have hW:S'.W=S.W:=by
  obtain⟨D1,us1,W1,D',l0,l1,hE,_,_,_,rfl⟩:=hc;rcases hE with⟨_,rfl,rfl,rfl⟩ | ⟨h1,_⟩
  · rfl
  · exact absurd h.items h1
 exact⟨hg,hx,by rw[hW];exact h.pos,by rw[hst];show _+1≤_;omega,by rw[hst];exact h.view,by rw[hst];exact h.mode,hns,by rw[hW];exact h.items,ht⟩
theorem QAt (w w0:World) (B M f r s d:Nat) (Fs:List Nat) (S:PS) (h:MSt w0 w B M f r s d Fs S) (j:Nat) (hj:j≤1000) (hf:Fine B S j) (hbase:w0.heap.size≤w.heap.size) (k:Int) (hk:k=10∨k=12) (a b y:Int) (v:Value) :
 Calls Tryz.prog 165 #[.pointer (some ⟨M,0,none⟩),.agg #[.int .i64 k,.int .i64 a,.int .i64 b,.int .i64 y,v]] w fun e w'=>∃ (c n:Int) (Fs':List Nat) (S':PS),e=.returned (.agg #[.int .i64 c,.int .i64 n])∧(c=0∨c=5)∧MSt w0 w' B M f r s d Fs' S'∧Fine B S' (j+1)∧Keep Fs w w'∧Grow w Fs Fs':=by
 rcases hk with rfl | rfl
 · refine(JAV w w0 B M f r s d Fs S h hf.nos a b y v).mono ?_
   rintro e w' ⟨rfl,hk⟩;exact⟨5,0,Fs,S,rfl,.inr rfl,h.keep0 hk,⟨hf.good.mono (Nat.le_refl _) (Nat.le_succ _),hf.ext,hf.pos,by have:=hf.gen;omega,hf.view,hf.mode,hf.nos,hf.items,hf.tell⟩,hk.zero,Grow.refl _ _⟩
 · refine(QAa w w0 B M f r s d Fs S h j hj hf.good hf.ext hf.pos (by have:=hf.gen;omega) hf.view hf.mode hf.nos hf.items hf.good.cap.ul hbase a b y v).mono ?_
   rintro e w' ⟨n,Fs',S',rfl,hm,hc,hk,hg⟩;exact⟨0,n,Fs',S',rfl,.inl rfl,hm,hf.checked hj hc,hk,hg⟩
theorem JAN (w:World):Calls Tryz.prog 93 #[.agg #[.int .i64 0,.int .i64 0,.int .i64 0],.int .i64 4,.slice none 0 0] w fun e w'=>e=.returned (.tuple #[.int .i64 0,.int .i64 1])∧Keep [] w w':=by
 have hN:=fun W=>QAb W 4 (by omega) (by omega);have hbc:=Blk.new w 27 #[.int .i64 0,.int .i64 0,.int .i64 0];have hkA:Keep [] w (w.alloc (.cells #[.int .i64 0,.int .i64 0,.int .i64 0] 27)):=(Keep.refl _ _).alloc _;have c0:=hbc.cell 0;have c1:=hbc.cell 1;have c2:=hbc.cell 2;simp at c0 c1 c2
 go_enter Tryz.func93,Tryz.ntmps93
 go_wp2_with (go_at_call 164;refine(hN _).mono ?_;clear hN;rintro e w1 ⟨rfl,hk1⟩)
 go_ret2;exact⟨rfl,hkA.trans0 hk1⟩
end
section
open Go.RowKit Go.Shelf
theorem ZAf (w:World) (L c:Nat) (hL:Blk w L 88 #[.int .i64 10,.int .i64 0,.int .i64 0,.int .i64 0,.slice none 0 0,.int .i64 12,.int .i64 0,.int .i64 0,.int .i64 0,.slice none 0 0]) :
 Calls Tryz.prog 93 #[.agg #[.int .i64 ((4:Nat):Int),.int .i64 8,.int .i64 24],.int .i64 4,.slice (some ⟨L,0,none⟩) 2 c] w fun e w'=>e=.returned (.tuple #[.int .i64 (-1),.int .i64 0])∧Keep [] w w':=by
 have hN:∀ W,Calls Tryz.prog 164 #[.agg #[.int .i64 4,.int .i64 8,.int .i64 24],.int .i64 4] W _:=fun W=>KAv W 4 4 (by omega) (by omega) (by omega) (by omega);have hbc:=Blk.new w 27 #[.int .i64 4,.int .i64 8,.int .i64 24];have hkA:Keep [] w (w.alloc (.cells #[.int .i64 4,.int .i64 8,.int .i64 24] 27)):=(Keep.refl _ _).alloc _;have c0:=hbc.cell 0;have c1:=hbc.cell 1;have c2:=hbc.cell 2;simp at c0 c1 c2;have hLl:=hL.lt;rw[show ((4:Nat):Int)=4 from rfl]
 go_enter Tryz.func93,Tryz.ntmps93
 have h1st:True:=trivial
 go_wp2_with (first
  | (go_at_call 164
     clear h1st;refine(hN _).mono ?_;rintro e w1 ⟨Ma,fa,ra,sa,da,Fa,Da,oda,rfl,ha,hga,hk1⟩;have hb1:=hbc.keep0 hk1;have e0:w1.cell? ⟨w.heap.size,0,none⟩=some (.int .i64 4):=by simpa using hb1.cell 0
     have e1:w1.cell? ⟨w.heap.size,1,none⟩=some (.int .i64 8):=by simpa using hb1.cell 1
     have e2:w1.cell? ⟨w.heap.size,2,none⟩=some (.int .i64 24):=by simpa using hb1.cell 2)
  | (go_at_call 164
     refine(hN _).mono ?_;clear hN;rintro e w2 ⟨Mb,fb,rb,sb,db,Fb,Db,odb,rfl,hb,hgb,hk2⟩))
 have hFa:=ha.lt;have ha2:=ha.keep0 hk2;have hkw:=(hkA.trans0 hk1).trans0 hk2;have hs12:=hk2.size;have hgM:=hb.gm;have hgf:=hb.gf;have hgr:=hb.gr;have hlM:Mb<w2.heap.size:=by obtain⟨v0,v1,v3,v4,v5,h⟩:=hb.mb;exact h.lt
 have hlf:=hb.fb.lt;have hlr:rb<w2.heap.size:=by obtain⟨x,h⟩:=hb.rb;exact h.lt
 have hlF:=hb.lt;have hgF:=hb.st.ge;have hbase:=hk1.size;clear e0 e1 e2 c0 c1 c2 hb1 hbc hkA ha hk2
 go_loopw [33] (fun i wr=>∃ (k:Nat) (Fs:List Nat) (S:PS),k≤2∧i=.int .i64 k∧Keep [] w wr∧w2.heap.size≤wr.heap.size∧MSt (w.alloc (.cells #[.int .i64 4,.int .i64 8,.int .i64 24] 27)) wr 4 Ma fa ra sa da Fs S∧Fine 4 S k∧MSt w1 wr 4 Mb fb rb sb db Fb (PS.mounted 4 Db odb)∧(∀ x∈Fs,x<w1.heap.size∨w2.heap.size≤x)) (fun i _=>2-(intOf i).toNat)
 case atStart=>exact⟨0,Fa,_,by omega,rfl,hkw,Nat.le_refl _,ha2,Fine.mounted hga,hb,fun x hx=>.inl (hFa x hx)⟩
 case round=>
  obtain⟨k,Fs,S,hk,rfl,hkr,hsr,hMa,hfi,hMb,hFs⟩:=hrel
  by_cases hlt:k<2
  · have hev:∃ kk:Int,(kk=10∨kk=12)∧wr.cell? ⟨L,k*5,none⟩=some (.int .i64 kk)∧wr.cell? ⟨L,k*5+1,none⟩=some (.int .i64 0)∧wr.cell? ⟨L,k*5+2,none⟩=some (.int .i64 0)∧wr.cell? ⟨L,k*5+3,none⟩=some (.int .i64 0)∧wr.cell? ⟨L,k*5+4,none⟩=some (.slice none 0 0):=by
     have hLr:=hL.keep0 hkr;rcases(show k=0∨k=1 by omega) with rfl | rfl
     · exact⟨10,.inl rfl,by simpa using hLr.cell 0,by simpa using hLr.cell 1,by simpa using hLr.cell 2,by simpa using hLr.cell 3,by simpa using hLr.cell 4⟩
     · exact⟨12,.inr rfl,by simpa using hLr.cell 5,by simpa using hLr.cell 6,by simpa using hLr.cell 7,by simpa using hLr.cell 8,by simpa using hLr.cell 9⟩
    obtain⟨kk,hkk,l0,l1,l2,l3,l4⟩:=hev;have hLr:=(hL.keep0 hkr).lt;have q17:(kk == 17)=false:=by rcases hkk with rfl | rfl <;> rfl
    have q18:(kk == 18)=false:=by rcases hkk with rfl | rfl <;> rfl
    have p17:¬ kk=17:=by rcases hkk with rfl | rfl <;> decide
    have p18:¬ kk=18:=by rcases hkk with rfl | rfl <;> decide
    have hKp:=fun W=>XQ W kk 0 0 0 (.slice none 0 0);rw[show YY kk=true by rcases hkk with rfl | rfl <;> rfl] at hKp;have hbE:=Blk.new wr 88 #[.int .i64 kk,.int .i64 0,.int .i64 0,.int .i64 0,.slice none 0 0];have hkE:Keep [] wr (wr.alloc (.cells #[.int .i64 kk,.int .i64 0,.int .i64 0,.int .i64 0,.slice none 0 0] 88)):=(Keep.refl _ _).alloc _;have hD:=QAt _ _ 4 Ma fa ra sa da Fs S (hMa.keep0 hkE) k (by omega) hfi (Nat.le_trans hbase (Nat.le_trans hs12 (Nat.le_trans hsr hkE.size))) kk hkk 0 0 0 (.slice none 0 0);have hNF:wr.heap.size∉Fs:=fun hm=>by have:=hMa.lt _ hm;omega
    have hSb:=hMb.st;have hgR:=hMb.gr;clear hk hFa hga
    go_wp2_with (first
     | (go_at_call 165
        refine hD.mono ?_;clear hD;rintro e w3 ⟨ac,an,Fs',S',rfl,hac,hM3,hf3,hk3,hg3⟩;have hE3:=(hbE.keep hk3 hNF);have z6:(ac == 6)=false:=by rcases hac with rfl | rfl <;> rfl
        have p6:¬ ac=6:=by rcases hac with rfl | rfl <;> decide
        have hEl:=hE3.lt;have x0:w3.cell? ⟨wr.heap.size,0,none⟩=some (.int .i64 kk):=by simpa using hE3.cell 0
        have x1:w3.cell? ⟨wr.heap.size,1,none⟩=some (.int .i64 0):=by simpa using hE3.cell 1
        have x2:w3.cell? ⟨wr.heap.size,2,none⟩=some (.int .i64 0):=by simpa using hE3.cell 2
        have x3:w3.cell? ⟨wr.heap.size,3,none⟩=some (.int .i64 0):=by simpa using hE3.cell 3
        have x4:w3.cell? ⟨wr.heap.size,4,none⟩=some (.slice none 0 0):=by simpa using hE3.cell 4)
     | (go_at_call 40
        refine(hKp _).mono ?_;clear hKp;rintro e w4 ⟨rfl,hk4⟩;have hT4:=((Blk.new w3 246 #[.int .i64 ac,.int .i64 an]).alloc (.cells #[.int .i64 ac,.int .i64 an] 246)).keep0 hk4;have hT5:=(Blk.new1 w3 (.cells #[.int .i64 ac,.int .i64 an] 246) 246 #[.int .i64 ac,.int .i64 an]).keep0 hk4;have y0:w4.cell? ⟨w3.heap.size,0,none⟩=some (.int .i64 ac):=by simpa using hT4.cell 0
        have y1:w4.cell? ⟨w3.heap.size,1,none⟩=some (.int .i64 an):=by simpa using hT4.cell 1
        have y2:w4.cell? ⟨w3.heap.size+1,0,none⟩=some (.int .i64 ac):=by simpa using hT5.cell 0
        have y3:w4.cell? ⟨w3.heap.size+1,1,none⟩=some (.int .i64 an):=by simpa using hT5.cell 1
        have hkX:Keep [] w3 w4:=(((Keep.refl _ _).alloc _).alloc _).trans0 hk4;have hM4:=hM3.keep0 hkX;have hMb4:=((hMb.keep0 hkE).keepA hk3 (fun hm=>(hFs _ hm).elim (by omega) (by omega)) (fun hm=>(hFs _ hm).elim (by omega) (by omega)) (fun hm=>(hFs _ hm).elim (by omega) (by omega)) (fun x hx hm=>(hFs x hm).elim (by have:=hgF x hx;omega) (by have:=hlF x hx;omega))).keep0 hkX;obtain⟨va0,va1,va3,va4,va5,hma⟩:=hM4.mb;obtain⟨vb0,vb1,vb3,vb4,vb5,hmb⟩:=hMb4.mb;obtain⟨xa,hra⟩:=hM4.rb;obtain⟨xb,hrb⟩:=hMb4.rb;have hF1:=QAC w4 Ma fa _ _ _ _ _ hma;have hF2:=QAC w4 Mb fb _ _ _ _ _ hmb;have hS1:=Qb w4 fa ra sa xa hM4.fb hra;have hS2:=Qb w4 fb rb sb xb hMb4.fb hrb;have hSm:=ZAL w4 _ sa da _ sb db Fs' Fb 4 S' _ hM4.st hMb4.st 0 (k+1) 0 0 hf3.good hgb (hf3.tell _ _)
        clear x0 x1 x2 x3 x4 l0 l1 l2 l3 l4 q17 q18 p17 p18)
     | (go_at_call 166;refine hF1.mono ?_;clear hF1;rintro e w' ⟨rfl,rfl⟩)
     | (go_at_call 166;refine hF2.mono ?_;clear hF2;rintro e w' ⟨rfl,rfl⟩)
     | (go_at_call 79;refine hS1.mono ?_;clear hS1;rintro e w' ⟨rfl,rfl⟩)
     | (go_at_call 79;refine hS2.mono ?_;clear hS2;rintro e w' ⟨rfl,rfl⟩)
     | (go_at_call 95;refine hSm.mono ?_;clear hSm;rintro e w5 ⟨rfl,hk5⟩))
    go_roundw
    case rel=>
     refine⟨k+1,Fs',S',by omega,by go_num,(((hkr.trans0 hkE).trans hk3 (fun x hx=>.inr ?_)).trans0 hkX).trans0 hk5,?_,hM4.keep0 hk5,hf3,hMb4.keep0 hk5,fun x hx=>?_⟩
     · have:=hMa.st.ge x hx
       simp at this;omega
     · have:=hk3.size;have:=hkX.size;have:=hk5.size;have:=hkE.size;omega
     · rcases hg3 x hx with h1 | h1
       · exact hFs x h1
       · have:=hkE.size;exact .inr (by omega)
    case measure=>simp[intOf];omega
  · obtain rfl:k=2:=by omega
    go_wp2
    go_ret2;exact⟨rfl,hkr⟩
end
section
open Go.RowKit Go.Shelf
theorem ZAN (w:World):Calls Tryz.prog 94 #[.int .i64 3] w fun r w'=>r=.returned (.agg #[.int .i64 ((4:Nat):Int),.int .i64 8,.int .i64 24])∧Keep [] w w':=by
 have hR:=fun W=>ZAd 3 20 W (by omega) (by omega)
 go_enter Tryz.func94,Tryz.ntmps94
 go_wp2_with (refine(hR _).mono ?_;clear hR;rintro r w' ⟨rfl,rfl⟩)
 have hb:=Blk.new w 27 #[.int .i64 4,.int .i64 8,.int .i64 24];have g0:=hb.cell 0;have g1:=hb.cell 1;have g2:=hb.cell 2;refine bodyPost_ret (v:=.agg #[.int .i64 4,.int .i64 8,.int .i64 24]) (by simp[results,Tryz.results94,go_sem]) rfl ⟨rfl,(Keep.refl _ _).alloc _⟩
theorem KAz {w:World} {g:Nat} {cs:List Value} {n:Nat} {es:List (Value×PEv)} (h:Blk w g 88 cs.toArray) (hc:(es.map evo).flatMap opc=cs) (hl:es.length=n) (hn:cs.length=n*5) (hp:∀ p∈es,p.1=.slice none 0 0∧p.2.p=[]):EvsRd w (some ⟨g,0,none⟩) n es:=by
 refine⟨⟨?_,by simpa using hl⟩,fun p h'=>?_⟩
 · have:=Rd.of_blk (n:=n*5) h (by simp[hn])
   rw[hc];simpa [← hn] using this
 · obtain⟨h1,h2⟩:=hp p h'
   rw[h1,h2];exact⟨none,0,0,rfl,by omega,Rd.nil _ _⟩
theorem YAP (w:World):Calls Tryz.prog 38 #[] w fun e w'=>e=.returned (.bool true)∧Keep [] w w':=by
 have hSm:=fun W=>ZAN W;have hNA:=fun W=>JAN W;have hY:=fun W=>VAS W 4 (by omega) (by omega);have hK12:=fun W=>XQ W 12 0 0 0 (.slice none 0 0);have hK16:=fun W=>XQ W 16 0 0 0 (.slice none 0 0);rw[show YY 12=true from rfl] at hK12;rw[show YY 16=false from rfl] at hK16;have h1st:True:=trivial
 go_enter Tryz.func38,Tryz.ntmps38
 go_wp2_with (first
  | (go_at_call 94
     clear h1st;refine(hSm _).mono ?_;rintro e w1 ⟨rfl,hk1⟩;have hAl:=ZAf (w1.alloc (.cells #[.int .i64 10,.int .i64 0,.int .i64 0,.int .i64 0,.slice none 0 0,.int .i64 12,.int .i64 0,.int .i64 0,.int .i64 0,.slice none 0 0] 88)) w1.heap.size 2 (Blk.new _ _ _)
     have hkw:Keep [] w (w1.alloc (.cells #[.int .i64 10,.int .i64 0,.int .i64 0,.int .i64 0,.slice none 0 0,.int .i64 12,.int .i64 0,.int .i64 0,.int .i64 0,.slice none 0 0] 88)):=hk1.alloc _)
  | (go_at_call 93
     refine hAl.mono ?_;clear hAl;rintro e w2 ⟨rfl,hk2⟩
     replace hkw:=hkw.trans0 hk2)
  | (go_at_call 93
     refine(hNA _).mono ?_;clear hNA;rintro e w3 ⟨rfl,hk3⟩;replace hkw:=(hkw.trans0 hk3).alloc (.cells #[.int .i64 11,.int .i64 0,.int .i64 0,.int .i64 0,.slice none 0 0,.int .i64 3,.int .i64 0,.int .i64 0,.int .i64 0,.slice none 0 0,.int .i64 10,.int .i64 0,.int .i64 0,.int .i64 0,.slice none 0 0] 88);have hSt:=Ku (w3.alloc (.cells #[.int .i64 11,.int .i64 0,.int .i64 0,.int .i64 0,.slice none 0 0,.int .i64 3,.int .i64 0,.int .i64 0,.int .i64 0,.slice none 0 0,.int .i64 10,.int .i64 0,.int .i64 0,.int .i64 0,.slice none 0 0] 88)) (some ⟨w3.heap.size,0,none⟩) 3 3 [(.slice none 0 0,⟨11,0,0,0,[]⟩),(.slice none 0 0,⟨3,0,0,0,[]⟩),(.slice none 0 0,⟨10,0,0,0,[]⟩)] (KAz (Blk.new _ _ _) rfl rfl rfl (by simp)) (by omega) (by simp)))
 go_at_call 39
 refine hSt.mono ?_;clear hSt;rintro e w4 ⟨OA,oc,oz,rfl,hoz,hE,hk4⟩;replace hkw:=hkw.trans0 hk4;rw[show VP _=[⟨3,0,0,0,[]⟩] from rfl] at hoz;rcases oz with _ | ⟨⟨pv,pe⟩,_ | ⟨q,oz⟩⟩
 · simp at hoz
 rotate_left
 · simp at hoz
 simp only[List.map_cons,List.map_nil,List.cons.injEq,and_true] at hoz;subst hoz;obtain⟨g,gc,hv,_⟩:=QD hE.row (by simp);simp only[List.length_cons,List.length_nil,Nat.zero_add,Value.slice.injEq,true_and] at hv;obtain⟨rfl,rfl⟩:=hv;have hEv:EvsRd w4 (some ⟨g,0,none⟩) 1 _:=hE.rd (by simp) rfl rfl
 have hgl:g<w4.heap.size∧w4.cell? ⟨g,0,none⟩=some (.int .i64 3):=by
  obtain⟨b,o,hbo,hgl,z0,_⟩:=hEv.at_ (i:=0) (by omega) (by simp);simp only[Option.some.injEq,Addr.mk.injEq] at hbo;obtain⟨rfl,rfl,_⟩:=hbo;exact⟨hgl,by simpa using z0⟩
 clear hEv hE
 go_wp2_with (first
  | (go_at_call 94
     refine(hSm _).mono ?_;clear hSm;rintro e w5 ⟨rfl,hk5⟩
     replace hkw:=hkw.trans0 hk5)
  | (go_at_call 9
     refine(hY _).mono ?_;clear hY;rintro e w6 ⟨t,d,s,F,D,rfl,m,x,hbY,hst,hgood,htF,htb,hk6⟩))
 have hkd:Keep [] w6 w6.drew:=(Keep.refl _ _).drew
 have hz6:∀ X,Keep [] w6 X→X.cell? ⟨g,0,none⟩=some (.int .i64 3)∧X.cell? ⟨t,2,none⟩=some (.pointer (some ⟨s,0,none⟩)):=fun X hX=>
  ⟨((hk5.trans0 (hk6.trans0 hX)).cell hgl.1 (by simp) _).trans hgl.2,by simpa using(hbY.keep0 hX).cell 2⟩
 have hzd:=hz6 _ hkd;refine ZT (fun X=>X.cell? ⟨g,0,none⟩=some (.int .i64 3)∧X.cell? ⟨t,2,none⟩=some (.pointer (some ⟨s,0,none⟩))) 43 [[0,1,2,3,4,5,6,7,8,9,10,11,12,13,14,15,16,17,18,19,20,21,22,23],[24,25,26,27],[28,29,30,31],[32,33,34,35,36,37,38,39,40,41,42]] hzd ?_;simp only[PI]
 iterate 24 (refine ZH ?_;simp only[Act.put,PU])
 refine ZB (by rfl) (fun K hK=>?_)
 go_wp2_with (refine(hK12 _).mono ?_;rintro e X1 ⟨rfl,hx1⟩)
 have hkX1:=hkd.trans0 hx1;refine hK _ _ ((hz6 _ hkX1)) ?_;clear hK K
 try simp only[Act.put,PU]
 iterate 3 (refine ZH ?_;simp only[Act.put,PU])
 refine ZB (by rfl) (fun K hK=>?_)
 go_wp2_with (refine(hK16 _).mono ?_;rintro e X2 ⟨rfl,hx2⟩)
 have hkX2:=hkX1.trans0 hx2;refine hK _ _ ((hz6 _ hkX2)) ?_;clear hK K
 try simp only[Act.put,PU]
 iterate 3 (refine ZH ?_;simp only[Act.put,PU])
 refine ZB (by rfl) (fun K hK=>?_)
 go_wp2_with (refine(JAe _).mono ?_;rintro e w' ⟨rfl,rfl⟩)
 refine hK _ _ ((hz6 _ hkX2)) ?_;clear hK K
 try simp only[Act.put,PU]
 iterate 10 (refine ZH ?_;simp only[Act.put,PU])
 refine QC ?_;have hst2:=hst.keep0 hkX2;have hSs:=ZAL X2 _ s d _ s d F F 4 _ _ hst2 hst2 0 0 0 0 hgood hgood (TellsS.refl _ _);have hSn:=fun W=>KAl W s
 go_wp2_with (first
  | (go_at_call 95;refine hSs.mono ?_;clear hSs;rintro e X3 ⟨rfl,hx3⟩;(have z3:=(hz6 _ (hkX2.trans0 hx3)).2))
  | (go_at_call 95;refine(hSn _).mono ?_;clear hSn;rintro e w' ⟨rfl,rfl⟩))
 go_ret;exact⟨rfl,((hkw.trans0 hk6).trans0 hkX2).trans0 hx3⟩
end
section
open Go.RowKit Go.Shelf
theorem JAn (E:List PEv) (j:Nat) (hj:j<E.length):VP (E.take (j+1))=VP (E.take j)++(if YY E[j].k then [] else [E[j]])∧VP E=VP (E.take j)++VP (E.drop j):=by
 refine⟨?_,?_⟩
 · rw[List.take_succ_eq_append_getElem hj]
   unfold VP;rw[List.filter_append];cases h:YY E[j].k <;> simp[h]
 · unfold VP
   rw[← List.filter_append,List.take_append_drop]
theorem KAa (E:List PEv):(VP E).length≤E.length:=List.length_filter_le _ _
theorem Km (A:Option Addr) (n c:Nat) (es:List (Value×PEv)) (w:World) (h:EvsRd w A n es) (hc:n≤c) (hn:n≤9223372036854775807) :
 Calls Tryz.prog 6 #[.slice A n c] w fun e w'=>e=.returned (.bool true)∧Keep [] w w':=by
 have hFe:=JBC w A n c es h hn;have hAw:=fun W=>YAP W
 go_enter Tryz.func6,Tryz.ntmps6
 go_wp2_with (refine hFe.mono ?_;clear hFe;rintro e w1 ⟨b,rfl,hk1,hb⟩)
 · refine(hAw _).mono ?_
   rintro e w2 ⟨rfl,hk2⟩
   go_wp2
   go_ret;exact⟨rfl,hk1.trans0 hk2⟩
 · obtain⟨h60,hps⟩:=hb (by cases b <;> simp_all)
   clear hb;refine(Ku w1 A n c es (h.keep0 hk1) h60 hps).mono ?_;rintro e w2 ⟨OA,oc,oz,rfl,hoz,hE,hk2⟩
   go_wp2
   have HL:=XC h.len
   have hol:oz.length≤60:=by
    have h1:=congrArg List.length hoz;have h2:=KAa (es.map (·.2));simp only[List.length_map] at h1 h2;have:=JA HL;omega
   have hop:∀ p∈oz,p.2.p.length≤150:=by
    intro p hp;have h1:p.2∈oz.map (·.2):=List.mem_map_of_mem hp;rw[hoz] at h1;obtain⟨h1,_⟩:=List.mem_filter.1 h1;obtain⟨q,hq,h2⟩:=List.mem_map.1 h1;rw[← h2];exact hps q hq
   have hkw:=hk1.trans0 hk2;have hRd:=hE.rd hop rfl rfl;obtain⟨_,_,hv,hcc,hcm,_⟩:=JB hE.row;simp only[Value.slice.injEq,true_and] at hv;obtain⟨rfl,rfl⟩:=hv;have HOZ:=XC hoz;clear hoz hE hk1 hk2 hps
   go_loopw [4,5] (fun q i wr=>∃ j:Nat,j≤n∧i=.int .i64 j∧q=.int .i64 ((VP ((es.map (·.2)).take j)).length:Nat)∧Keep [] w2 wr) (fun _ i _=>n-(intOf i).toNat)
   case atStart=>exact⟨0,Nat.zero_le _,rfl,by simp[VP],Keep.refl _ _⟩
   case round=>
    obtain⟨j,hj,rfl,rfl,hkr⟩:=hrel
    by_cases hlt:j<n
    · have hl:j<es.length:=by rw[JA HL];exact hlt
      obtain⟨hs1,hs2⟩:=JAn (es.map (·.2)) j (by simpa using hl);obtain⟨b,o,rfl,hb,c0,c1,c2,c3,c4,hpk⟩:=(h.keep0 (hkw.trans0 hkr)).at_ hlt hl;simp only[List.getElem_map] at hs1;obtain⟨q,hq⟩:∃ q,q=(VP ((es.map (·.2)).take j)).length:=⟨_,rfl⟩;rw[← hq]
      by_cases hkp:YY es[j].2.k=true
      · rw[if_pos hkp,List.append_nil] at hs1
        have HS1:=XC hs1;have HQ:=XC hq;have hKp:=fun W=>XQ W es[j].2.k es[j].2.a es[j].2.b es[j].2.y es[j].1;rw[hkp] at hKp;clear hs1 hs2 hpk hq;generalize es[j].2.k=k at *;generalize es[j].2.a=a at *;generalize es[j].2.b=b' at *;generalize es[j].2.y=y at *;generalize es[j].1=v at *;have hk3:k=10∨k=11∨k=12:=by simpa [YY,or_assoc] using hkp
        clear hkp;rcases hk3 with rfl | rfl | rfl
        all_goals
         go_wp2_with (refine(hKp _).mono ?_;clear hKp;rintro e w3 ⟨rfl,hk3⟩)
         go_roundw
         case rel=>exact⟨j+1,by omega,by go_num,by rw[JA HS1,← JA HQ],hkr.trans0 hk3⟩
         case measure=>simp[intOf];omega
      · have hkf:YY es[j].2.k=false:=by simpa using hkp
        rw[if_neg hkp] at hs1
        have hdr:VP ((es.map (·.2)).drop j)=es[j].2 :: VP ((es.map (·.2)).drop (j+1)):=by
         rw[List.drop_eq_getElem_cons (by simpa using hl)];simp[VP,hkf]
        have hoz:=JA HOZ;rw[hs2,hdr] at hoz
        have hql:q<oz.length:=by
         have:=congrArg List.length hoz;simp only[List.length_map,List.length_append,List.length_cons] at this;omega
        have hq2:oz[q].2=es[j].2:=by
         have:=congrArg (fun l=>l[q]?) hoz;simp only[List.getElem?_map,List.getElem?_eq_getElem hql,Option.map_some] at this;rw[List.getElem?_append_right (by omega),← hq,Nat.sub_self,List.getElem?_cons_zero] at this;simpa using this
        have hEq:∀ W,Keep [] wr W→Calls Tryz.prog 41 #[.slice (Go.Proofs.YtkonbpfbjiepfaaGreat.cutN 5 OA q oc) 1 (oc-q),.slice (Go.Proofs.YtkonbpfbjiepfaaGreat.cutN 5 (some ⟨b,o,none⟩) j c) 1 (c-j)] W fun e w'=>e=.returned (.bool true)∧Keep [] W w':=fun W hW=>
         Jl _ _ 1 _ _ [oz[q]] [es[j]] W (((hRd.keep0 hkr).keep0 hW).cut1 hql hcc hql) ((((h.keep0 hkw).keep0 hkr).keep0 hW).cut1 hlt hc hl) (by simp[hq2]) (by omega)
        have hsl1:∀ W,(Instr.sliceAt 84 (.slice OA oz.length oc) (some (.int .i64 (q:Nat))) (some (.int .i64 (IntKind.i64.wrap ((q:Nat)+1)))) none).run Tryz.prog W=.ok (.slice (Go.Proofs.YtkonbpfbjiepfaaGreat.cutN 5 OA q oc) 1 (oc-q)) W:=fun W=>by
         have:=elemEvs.run_lh OA oz.length oc .i64 .i64 (q:Nat) ((q:Nat)+1) (by omega) (by omega) (by omega) W;rw[show IntKind.i64.wrap (((q:Nat):Int)+1)=(q:Nat)+1 by rw[IntKind.wrap_i64];omega]
         rwa [Int.toNat_natCast,show (((q:Nat):Int)+1).toNat-q=1 by omega] at this
        have hsl2:∀ W,(Instr.sliceAt 84 (.slice (some ⟨b,o,none⟩) n c) (some (.int .i64 (j:Nat))) (some (.int .i64 (IntKind.i64.wrap ((j:Nat)+1)))) none).run Tryz.prog W=.ok (.slice (Go.Proofs.YtkonbpfbjiepfaaGreat.cutN 5 (some ⟨b,o,none⟩) j c) 1 (c-j)) W:=fun W=>by
         have:=elemEvs.run_lh (some ⟨b,o,none⟩) n c .i64 .i64 (j:Nat) ((j:Nat)+1) (by omega) (by omega) (by omega) W;rw[show IntKind.i64.wrap (((j:Nat):Int)+1)=(j:Nat)+1 by rw[IntKind.wrap_i64];omega]
         rwa [Int.toNat_natCast,show (((j:Nat):Int)+1).toNat-j=1 by omega] at this
        have hKp:=fun W=>XQ W es[j].2.k es[j].2.a es[j].2.b es[j].2.y es[j].1;rw[hkf] at hKp;have HS1:=XC hs1;have HQ:=XC hq;clear hs1 hs2 hpk hq hdr hoz hq2;generalize es[j].2.k=k at *;generalize es[j].2.a=a at *;generalize es[j].2.b=b' at *;generalize es[j].2.y=y at *;generalize es[j].1=v at *;have e10:(k == 10)=false:=by simp[YY] at hkf;simpa using hkf.1.1
        have e11:(k == 11)=false:=by simp[YY] at hkf;simpa using hkf.1.2
        have e12:(k == 12)=false:=by simp[YY] at hkf;simpa using hkf.2
        have n10:¬ k=10:=by simpa using e10
        have n11:¬ k=11:=by simpa using e11
        have n12:¬ k=12:=by simpa using e12
        clear hkf hkp;have hqI:((q:Nat):Int)<(oz.length:Nat):=by omega
        have hqn:decide (((oz.length:Nat):Int)≤(q:Nat))=false:=by simp;omega
        have hqN:decide (oz.length≤q)=false:=by simp;omega
        have hqm:¬ oz.length≤q:=by omega
        go_wp2_with (go_at_call 40;refine(hKp _).mono ?_;clear hKp;rintro e w3 ⟨rfl,hk3⟩)
        refine ZT (fun _=>True) 15 [[0,1,2,3,4,5,6,7,8,9,10,11,12,13,14]] trivial ?_;simp only[PI]
        iterate 9 (refine ZH ?_;simp only[Act.put,PU])
        refine QM _ (by rfl) (fun W hW=>(Jc (.tmp 54) (some (.tmp 55)) (some (.tmp 57)) rfl _ (hsl1 W))) ?_
        try simp only[Act.put,PU]
        iterate 4 (refine ZH ?_;simp only[Act.put,PU])
        refine QM _ (by rfl) (fun W hW=>(Jc (.tmp 59) (some (.tmp 60)) (some (.tmp 62)) rfl _ (hsl2 W))) ?_
        try simp only[Act.put,PU]
        refine QC ?_;have hT:=hEq _ (hk3.drew)
        go_wp2_with (refine hT.mono ?_;clear hT;rintro e w4 ⟨rfl,hk4⟩)
        go_roundw
        case rel=>exact⟨j+1,by omega,by go_num,by rw[JA HS1,List.length_append,← JA HQ];go_num,hkr.trans0 (hk3.drew.trans0 hk4)⟩
        case measure=>simp[intOf];omega
    · obtain rfl:j=n:=by omega
      have hqe:(VP ((es.map (·.2)).take j)).length=oz.length:=by
       rw[List.take_of_length_le (by simp[JA HL]),← JA HOZ];simp
      rw[hqe];have hSt2:=Ku wr OA oz.length oc oz (hRd.keep0 hkr) hol hop;rw[JA HOZ,XAI,← JA HOZ] at hSt2;clear hqe
      go_wp2_with (first
       | (go_at_call 39
          refine hSt2.mono ?_;clear hSt2;rintro e w3 ⟨PA,pc,pz,rfl,hpz,hPE,hk3⟩;have hpl:pz.length=oz.length:=by simpa using congrArg List.length hpz
          have hpp:∀ p∈pz,p.2.p.length≤150:=fun p hp=>by
           have h1:p.2∈pz.map (·.2):=List.mem_map_of_mem hp;rw[hpz] at h1;obtain⟨q,hq,h2⟩:=List.mem_map.1 h1;rw[← h2];exact hop q hq
          have hPr:=hPE.rd hpp rfl rfl;rw[hpl] at hPr ⊢
          have hEv:=Jl PA OA oz.length pc oc pz oz w3 hPr ((hRd.keep0 hkr).keep0 hk3) hpz (by omega))
       | (go_at_call 41
          refine hEv.mono ?_;clear hEv
          rintro e w4 ⟨rfl,hk4⟩)
       | (go_at_call 38
          refine(hAw _).mono ?_;rintro e w5 ⟨rfl,hk5⟩))
      go_ret;exact⟨rfl,(((hkw.trans0 hkr).trans0 hk3).trans0 hk4).trans0 hk5⟩
theorem Ys (A:Option Addr) (n c:Nat) (es:List (Value×PEv)) (w:World) (h:EvsRd w A n es∧n≤c) (hn:n≤9223372036854775807) :
 Calls Tryz.prog 6 #[.slice A n c] w fun e w'=>e=.returned (.bool true)∧Keep [] w w':=Km A n c es w h.1 h.2 hn
end
end Go.Proofs.YtkonbpfbjiepfaaGreat
