/- Lemmas of the proof, with their conditions. -/
import Derived.Test.YtkonbpfbjiepfaaGreatT40
import Derived.Test.YtkonbpfbjiepfaaGreatT38
namespace Go.Proofs.YtkonbpfbjiepfaaGreat
set_option linter.unusedSimpArgs false
set_option linter.unusedVariables false
set_option maxHeartbeats 8000000
set_option maxRecDepth 20000
section
open Go.RowKit Go.Shelf
section
variable (w:World) (b1 s1 d1 b2 s2 d2:Nat) (F1 F2:List Nat) (B:Nat) (S1 S2:PS) (h1:StoreAt w b1 s1 d1 F1 B S1) (h2:StoreAt w b2 s2 d2 F2 B S2) (k1 j1 k2 j2:Nat) (hg1:Good B S1 k1 j1) (hg2:Good B S2 k2 j2)
include h1
theorem standsT_is:Calls Tryz.prog 167 #[.pointer (some ⟨s1,0,none⟩)] w fun e w'=>e=.returned (.agg #[.int .i64 S1.st.mode,.int .i64 S1.st.view,.int .i64 S1.st.epoch,.int .i64 S1.st.seq,.int .i64 S1.st.done,.int .i64 0,.int .i64 0,.int .i64 0,.int .i64 (XAT S1:Nat),.int .i64 (ZG S1.I.ol:Nat)])∧Keep [] w w':=by
 obtain⟨g,t,p,m,Fd,Ft,Fw,Fm,L0,L1,h,rfl⟩:=h1;have hS:=fun W (hk:Keep [] w W)=>Xp W b1 s1 d1 g t p m Fd Ft Fw Fm L0 L1 B S1 (h.keep0 hk);unfold ZBD at hS;generalize S1.st.mode=mo at *;generalize S1.st.view=vi at *;generalize S1.st.epoch=ep at *;generalize S1.st.seq=sq at *;generalize S1.st.done=dn at *;generalize S1.st.mount=mt at *;generalize S1.st.gen=gn at *;generalize JD S1.us=fc at *;generalize XAT S1=lv at *;generalize ZG S1.I.ol=pc at *;have hb0:=Blk.new w 72 #[.int .i64 0,.int .i64 0,.int .i64 0,.int .i64 0,.int .i64 0,.int .i64 0,.int .i64 0,.int .i64 0,.int .i64 0,.int .i64 0];have hkA:Keep [] w (w.alloc (.cells #[.int .i64 0,.int .i64 0,.int .i64 0,.int .i64 0,.int .i64 0,.int .i64 0,.int .i64 0,.int .i64 0,.int .i64 0,.int .i64 0] 72)):=(Keep.refl _ _).alloc _;clear h
 go_enter Tryz.func167,Tryz.ntmps167
 go_wp2_with (go_at_call 85
              refine(hS _ hkA).mono ?_;clear hS;rintro e w1 ⟨rfl,hk1⟩;have hb1:=hb0.keep0 hk1;have hb2:=hb1.alloc (.cells #[.int .i64 mo,.int .i64 vi,.int .i64 ep,.int .i64 sq,.int .i64 dn,.int .i64 mt,.int .i64 gn,.int .i64 (fc:Nat),.int .i64 (lv:Nat),.int .i64 (pc:Nat)] 72);have hb3:=Blk.new w1 72 #[.int .i64 mo,.int .i64 vi,.int .i64 ep,.int .i64 sq,.int .i64 dn,.int .i64 mt,.int .i64 gn,.int .i64 (fc:Nat),.int .i64 (lv:Nat),.int .i64 (pc:Nat)];have hlt1:=hb1.lt;have c0:w1.cell? ⟨w.heap.size,0,none⟩=some (.int .i64 0):=by simpa using hb1.cell 0
              have f0:=hb1.frozen 0;have c1:w1.cell? ⟨w.heap.size,1,none⟩=some (.int .i64 0):=by simpa using hb1.cell 1
              have f1:=hb1.frozen 1;have c2:w1.cell? ⟨w.heap.size,2,none⟩=some (.int .i64 0):=by simpa using hb1.cell 2
              have f2:=hb1.frozen 2;have c3:w1.cell? ⟨w.heap.size,3,none⟩=some (.int .i64 0):=by simpa using hb1.cell 3
              have f3:=hb1.frozen 3;have c4:w1.cell? ⟨w.heap.size,4,none⟩=some (.int .i64 0):=by simpa using hb1.cell 4
              have f4:=hb1.frozen 4;have c5:w1.cell? ⟨w.heap.size,5,none⟩=some (.int .i64 0):=by simpa using hb1.cell 5
              have f5:=hb1.frozen 5;have c6:w1.cell? ⟨w.heap.size,6,none⟩=some (.int .i64 0):=by simpa using hb1.cell 6
              have f6:=hb1.frozen 6;have c7:w1.cell? ⟨w.heap.size,7,none⟩=some (.int .i64 0):=by simpa using hb1.cell 7
              have f7:=hb1.frozen 7;have c8:w1.cell? ⟨w.heap.size,8,none⟩=some (.int .i64 0):=by simpa using hb1.cell 8
              have f8:=hb1.frozen 8;have c9:w1.cell? ⟨w.heap.size,9,none⟩=some (.int .i64 0):=by simpa using hb1.cell 9
              have f9:=hb1.frozen 9)
 have hz:=(((((((((((hb1.set 0 (.int .i64 (mo:Nat))).set 1 (.int .i64 (vi:Nat))).set 2 (.int .i64 (ep:Nat))).set 3 (.int .i64 (sq:Nat))).set 4 (.int .i64 (dn:Nat))).set 5 (.int .i64 0)).set 6 (.int .i64 0)).set 7 (.int .i64 0)).set 8 (.int .i64 (lv:Nat))).set 9 (.int .i64 (pc:Nat)))).alloc (.cells #[.int .i64 mo,.int .i64 vi,.int .i64 ep,.int .i64 sq,.int .i64 dn,.int .i64 mt,.int .i64 gn,.int .i64 (fc:Nat),.int .i64 (lv:Nat),.int .i64 (pc:Nat)] 72);have hkz:=((((((((((((Keep.refl [w.heap.size] w1).setCell (p:=⟨w.heap.size,0,none⟩) (.inl (by simp)) (.int .i64 (mo:Nat))).setCell (p:=⟨w.heap.size,1,none⟩) (.inl (by simp)) (.int .i64 (vi:Nat))).setCell (p:=⟨w.heap.size,2,none⟩) (.inl (by simp)) (.int .i64 (ep:Nat))).setCell (p:=⟨w.heap.size,3,none⟩) (.inl (by simp)) (.int .i64 (sq:Nat))).setCell (p:=⟨w.heap.size,4,none⟩) (.inl (by simp)) (.int .i64 (dn:Nat))).setCell (p:=⟨w.heap.size,5,none⟩) (.inl (by simp)) (.int .i64 0)).setCell (p:=⟨w.heap.size,6,none⟩) (.inl (by simp)) (.int .i64 0)).setCell (p:=⟨w.heap.size,7,none⟩) (.inl (by simp)) (.int .i64 0)).setCell (p:=⟨w.heap.size,8,none⟩) (.inl (by simp)) (.int .i64 (lv:Nat))).setCell (p:=⟨w.heap.size,9,none⟩) (.inl (by simp)) (.int .i64 (pc:Nat)))).alloc (.cells #[.int .i64 mo,.int .i64 vi,.int .i64 ep,.int .i64 sq,.int .i64 dn,.int .i64 mt,.int .i64 gn,.int .i64 (fc:Nat),.int .i64 (lv:Nat),.int .i64 (pc:Nat)] 72);simp only[List.setIfInBounds_toArray,List.set_cons_zero,List.set_cons_succ] at hz;have y0:=hz.cell 0;have y1:=hz.cell 1;have y2:=hz.cell 2;have y3:=hz.cell 3;have y4:=hz.cell 4;have y5:=hz.cell 5;have y6:=hz.cell 6;have y7:=hz.cell 7;have y8:=hz.cell 8;have y9:=hz.cell 9;simp at y0 y1 y2 y3 y4 y5 y6 y7 y8 y9;refine bodyPost_ret (v:=.agg #[.int .i64 mo,.int .i64 vi,.int .i64 ep,.int .i64 sq,.int .i64 dn,.int .i64 0,.int .i64 0,.int .i64 0,.int .i64 (lv:Nat),.int .i64 (pc:Nat)]) (by simp[results,Tryz.results167,go_sem,y0,y1,y2,y3,y4,y5,y6,y7,y8,y9]) rfl ⟨rfl,(hkA.trans0 hk1).trans hkz (fun y hy=>.inr (by simp at hy;omega))⟩
include h2 hg1 hg2
theorem XAj (hb:KI B S1=KI B S2) (ho:XK B S1=XK B S2) (i:Nat) (hi:i<B):Calls Tryz.prog 168 #[.pointer (some ⟨s1,0,none⟩),.pointer (some ⟨s2,0,none⟩),.int .i64 (i:Nat)] w fun e w'=>e=.returned (.bool true)∧Keep [] w w':=by
 have hR1:=YAJ w b1 s1 d1 F1 B S1 h1 k1 j1 hg1 i hi;have hR2:=fun W (hk:Keep [] w W)=>YAJ W b2 s2 d2 F2 B S2 (h2.keep0 hk) k2 j2 hg2 i hi;have hL1:=fun W (hk:Keep [] w W)=>QAK W b1 s1 d1 F1 B S1 (h1.keep0 hk) k1 j1 hg1 i hi;have hL2:=fun W (hk:Keep [] w W)=>QAK W b2 s2 d2 F2 B S2 (h2.keep0 hk) k2 j2 hg2 i hi;rw[← hb] at hR2 hL2;rw[← ho] at hL2;generalize ((XK B S1).getD i none).getD ((KI B S1).getD i [])=lk at *;generalize (KI B S1).getD i []=rd at *;clear h1 h2 hg1 hg2 hb ho
 go_enter Tryz.func168,Tryz.ntmps168
 go_wp2_with (first
  | (go_at_call 89
     refine hR1.mono ?_;clear hR1
     rintro e w1 ⟨UA,uc,rfl,hu1,hk1⟩)
  | (go_at_call 89
     refine(hR2 _ hk1).mono ?_;clear hR2
     rintro e w2 ⟨VA,vc,rfl,hu2,hk2⟩)
  | (go_at_call 256
     refine(hL1 _ (hk1.trans0 hk2)).mono ?_;clear hL1
     rintro e w3 ⟨XA,xc,rfl,hu3,hk3⟩)
  | (go_at_call 256
     refine(hL2 _ ((hk1.trans0 hk2).trans0 hk3)).mono ?_;clear hL2;rintro e w4 ⟨YA,yc,rfl,hu4,hk4⟩;have hE1:=KL UA VA 64 64 uc vc rd rd w4 (Rd.of_own (QB (QB (QB hu1 hk2) hk3) hk4)) (Rd.of_own (QB (QB hu2 hk3) hk4));have hE2:=KL XA YA 64 64 xc yc lk lk w4 (Rd.of_own (QB hu3 hk4)) (Rd.of_own hu4)
     rw[decide_eq_true rfl] at hE1 hE2)
  | (go_at_call 229
     refine hE1.mono ?_;clear hE1
     rintro e w' ⟨rfl,rfl⟩)
  | (go_at_call 229
     refine hE2.mono ?_;clear hE2;rintro e w' ⟨rfl,rfl⟩))
 go_ret;exact⟨rfl,((hk1.trans0 hk2).trans0 hk3).trans0 hk4⟩
end
structure TellsS (B:Nat) (S1 S2:PS):Prop where
 mode:S1.st.mode=S2.st.mode
 view:S1.st.view=S2.st.view
 epoch:S1.st.epoch=S2.st.epoch
 seq:S1.st.seq=S2.st.seq
 done:S1.st.done=S2.st.done
 live:XAT S1=XAT S2
 pend:ZG S1.I.ol=ZG S2.I.ol
 base:KI B S1=KI B S2
 over:XK B S1=XK B S2
theorem TellsS.refl (B:Nat) (S:PS):TellsS B S S:=⟨rfl,rfl,rfl,rfl,rfl,rfl,rfl,rfl,rfl⟩
section
variable (w:World) (b1 s1 d1 b2 s2 d2:Nat) (F1 F2:List Nat) (B:Nat) (S1 S2:PS) (h1:StoreAt w b1 s1 d1 F1 B S1) (h2:StoreAt w b2 s2 d2 F2 B S2) (k1 j1 k2 j2:Nat) (hg1:Good B S1 k1 j1) (hg2:Good B S2 k2 j2)
include h1 h2 hg1 hg2
theorem ZAL (ht:TellsS B S1 S2):Calls Tryz.prog 95 #[.pointer (some ⟨s1,0,none⟩),.pointer (some ⟨s2,0,none⟩)] w fun e w'=>e=.returned (.bool true)∧Keep [] w w':=by
 have hBl:=fun W (hk:Keep [] w W) i (hi:i<B)=>XAj W b1 s1 d1 b2 s2 d2 F1 F2 B S1 S2 (h1.keep0 hk) (h2.keep0 hk) k1 j1 k2 j2 hg1 hg2 ht.base ht.over i hi;have hS1:=fun W (hk:Keep [] w W)=>standsT_is W b1 s1 d1 F1 B S1 (h1.keep0 hk);have hS2:=fun W (hk:Keep [] w W)=>standsT_is W b2 s2 d2 F2 B S2 (h2.keep0 hk);obtain⟨e1,e2,e3,e4,e5,e6,e7,_,_⟩:=ht;rw[← e1,← e2,← e3,← e4,← e5,← e6,← e7] at hS2;have hB64:=hg1.b64;obtain⟨g,t,p,m,Fd,Ft,Fw,Fm,L0,L1,h,rfl⟩:=h1;obtain⟨g',t',p',m',Fd',Ft',Fw',Fm',L0',L1',h',rfl⟩:=h2;have hI1:=fun W (hk:Keep [] w W)=>ImageS_is W b1 s1 d1 g t p m Fd Ft Fw Fm L0 L1 B S1 (h.keep0 hk);have hI2:=fun W (hk:Keep [] w W)=>ImageS_is W b2 s2 d2 g' t' p' m' Fd' Ft' Fw' Fm' L0' L1' B S2 (h'.keep0 hk);have hN1:=fun W (hk:Keep [] w W)=>BlocksS_is W b1 s1 d1 g t p m Fd Ft Fw Fm L0 L1 B S1 (h.keep0 hk);have hN2:=fun W (hk:Keep [] w W)=>BlocksS_is W b2 s2 d2 g' t' p' m' Fd' Ft' Fw' Fm' L0' L1' B S2 (h'.keep0 hk);have kr:=Keep.refl [] w;clear h h' e1 e2 e3 e4 e5 e6 e7 hg1 hg2
 go_enter Tryz.func95,Tryz.ntmps95
 go_wp2_with (first
  | (go_at_call 15;refine(hI1 _ kr).mono ?_;clear hI1;rintro e w' ⟨rfl,rfl⟩)
  | (go_at_call 15;refine(hI2 _ kr).mono ?_;clear hI2;rintro e w' ⟨rfl,rfl⟩)
  | (go_at_call 111;refine(hN1 _ kr).mono ?_;clear hN1;rintro e w' ⟨rfl,rfl⟩)
  | (go_at_call 111;refine(hN2 _ kr).mono ?_;clear hN2;rintro e w' ⟨rfl,rfl⟩)
  | (go_at_call 167;refine(hS1 _ kr).mono ?_;clear hS1;rintro e w1 ⟨rfl,hk1⟩)
  | (go_at_call 167;refine(hS2 _ hk1).mono ?_;clear hS2;rintro e w2 ⟨rfl,hk2⟩))
 have hkw:=hk1.trans0 hk2;clear hk1 hk2 kr
 go_loopw [32] (fun i wr=>∃ k:Nat,k≤B∧i=.int .i64 k∧Keep [] w wr) (fun i _=>B-(intOf i).toNat)
 case atStart=>exact⟨0,Nat.zero_le _,rfl,hkw⟩
 case round=>
  obtain⟨k,hk,rfl,hkp⟩:=hrel
  by_cases hlt:k<B
  · have hT:=hBl _ hkp k hlt
    go_wp2_with (refine hT.mono ?_;clear hT;rintro e w' ⟨rfl,hk'⟩)
    go_roundw
    case rel=>exact⟨k+1,by omega,by go_num,hkp.trans0 hk'⟩
    case measure=>simp[intOf];omega
  · go_wp2
    go_ret;exact⟨rfl,hkp⟩
end
theorem JAe (w:World):Calls Tryz.prog 95 #[.pointer none,.pointer none] w fun e w'=>e=.returned (.bool true)∧w=w':=by
 go_enter Tryz.func95,Tryz.ntmps95
 go_wp2
 go_ret;exact⟨rfl,rfl⟩
theorem KAl (w:World) (s:Nat):Calls Tryz.prog 95 #[.pointer (some ⟨s,0,none⟩),.pointer none] w fun e w'=>e=.returned (.bool false)∧w=w':=by
 go_enter Tryz.func95,Tryz.ntmps95
 go_wp2
 go_ret;exact⟨rfl,rfl⟩
end
end Go.Proofs.YtkonbpfbjiepfaaGreat
