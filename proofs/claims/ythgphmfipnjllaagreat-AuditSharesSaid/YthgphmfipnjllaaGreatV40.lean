/- Lemmas of the proof, with their conditions. -/
import Derived.Test.YthgphmfipnjllaaGreatV39
import Derived.Test.YthgphmfipnjllaaGreatV16
namespace Go.Proofs.YthgphmfipnjllaaGreat
set_option linter.unusedSimpArgs false
set_option linter.unusedVariables false
set_option maxHeartbeats 4000000
set_option maxRecDepth 20000
section
open Go.RowKit
def VAK (w:World) (N:Nat) (u:Value) (w':World):Prop:=∃ bs:List UInt8,bs.length=N∧w'.ownsRow w.heap.size 5 1 u N (bys bs)
theorem cells5 {w:World} {g:Nat} {t:TypeId} {x0 x1 x2 x3 x4:Value} (h:Blk w g t #[x0,x1,x2,x3,x4]) :
 w.cell? ⟨g,0,none⟩=some x0∧w.cell? ⟨g,1,none⟩=some x1∧w.cell? ⟨g,2,none⟩=some x2∧w.cell? ⟨g,3,none⟩=some x3∧w.cell? ⟨g,4,none⟩=some x4:=
 ⟨by simpa using h.cell 0,by simpa using h.cell 1,by simpa using h.cell 2,by simpa using h.cell 3,by simpa using h.cell 4⟩
theorem JAt (N:Nat) (a b:UInt8) (h2:2≤N) (hN:N≤65536) (w:World):Calls Tryz.prog 269 #[.int .i64 (N:Nat),.int .u8 a.toNat,.int .u8 b.toNat] w fun e w'=>∃ g u,e=.returned (.pointer (some ⟨g,0,none⟩))∧RowN w w' g u N 2:=by
 have hN1:=YBG N hN w
 go_enter Tryz.func269,Tryz.ntmps269
 go_wp2_with (refine hN1.mono ?_;clear hN1;rintro e w1 ⟨g,u,rfl,hR⟩)
 have hR1:=hR.keep0 ((Keep.refl _ _).alloc (.cells #[.int .u8 a.toNat,.int .u8 b.toNat] 5))
 have hrd:Rd (w1.alloc (.cells #[.int .u8 a.toNat,.int .u8 b.toNat] 5)) (some ⟨w1.heap.size,0,none⟩) 2 (bys [a,b]):=by
  have:=Rd.of_blk (n:=2) (Blk.new w1 5 #[.int .u8 a.toNat,.int .u8 b.toNat]) (by simp)
  exact this
 have hL:=KBG hR1 _ 2 2 _ hrd (by omega)
 go_wp2_with (refine hL.mono ?_;clear hL;rintro e w2 ⟨rfl,hR2⟩)
 go_ret
 exact⟨g,u,rfl,hR2⟩
theorem XAd {w1 w:World} {g a:Nat} {u:Value} (h:RowN w1 w g u 64 a):Calls Tryz.prog 323 #[.pointer (some ⟨g,0,none⟩)] w fun e w'=>e=.returned u∧Keep [] w1 w'∧VAK w1 64 u w':=by
 obtain⟨b,c,rfl,hc⟩:=h.form (by omega)
 have h60:(60:Int)≤(c:Nat):=by omega
 have h1:RowN w1 (w.setCell ⟨g,1,none⟩ (.int .i64 60)) g (.slice (some ⟨b,0,none⟩) 64 c) 64 60:=h.setAt 60 (by omega)
 obtain⟨a0,a1⟩:=h.cells
 obtain⟨c0,c1⟩:=h1.cells
 have f1:=h.froz
 obtain⟨bs,hl,ho⟩:=h1.own
 have hrd:=(Rd.of_own ho).take (k:=60) (by omega)
 rw[YO] at hrd
 have hS:=VBG (some ⟨b,0,none⟩) 60 c (bs.take 60) _ hrd (by omega)
 have hO:=ZBA h1 4 (ZQ (bs.take 60)) (by omega) (KX _) (by omega)
 go_enter Tryz.func323,Tryz.ntmps323
 go_wp2_with (first
  | (go_at_call 273;refine hS.mono ?_;clear hS;rintro e w' ⟨rfl,rfl⟩)
  | (go_at_call 271;refine hO.mono ?_;clear hO;rintro e w2 ⟨rfl,h2⟩;obtain⟨d0,d1⟩:=h2.cells))
 go_ret
 exact⟨rfl,h2.1,h2.own⟩
def VBD (B i m:Nat):Value:=.agg #[.int .i64 B,.int .i64 8,.int .i64 24,.int .i64 i,.int .i64 m]
section
variable (w:World) (B:Nat) (h1:1≤B) (h2:B≤64)
include h1 h2
theorem SuperMayR:Calls Tryz.prog 325 #[VBD B 1 1] w fun e w'=>e=.returned (.bool true)∧Keep [] w w':=by
 have hC:=fun W=>ConfigMayR_is W B h1 h2
 have hW1:∀ W,Calls Tryz.prog 226 #[.int .i64 ((1:Nat):Int),.int .i64 0,.int .i64 2147483647] W fun e w'=>e=.returned (.bool true)∧W=w':=fun W=>ZE _ 0 2147483647 true (by simp) W
 have hW2:∀ W,Calls Tryz.prog 226 #[.int .i64 ((1:Nat):Int),.int .i64 1,.int .i64 2147483647] W fun e w'=>e=.returned (.bool true)∧W=w':=fun W=>ZE _ 1 2147483647 true (by simp) W
 have hb:=Blk.new w 183 #[.int .i64 B,.int .i64 8,.int .i64 24,.int .i64 ((1:Nat):Int),.int .i64 ((1:Nat):Int)]
 have hkA:Keep [] w (w.alloc (.cells #[.int .i64 B,.int .i64 8,.int .i64 24,.int .i64 ((1:Nat):Int),.int .i64 ((1:Nat):Int)] 183)):=(Keep.refl _ _).alloc _
 obtain⟨c0,c1,c2,c3,c4⟩:=cells5 hb
 unfold VBD
 unfold VV at hC
 go_enter Tryz.func325,Tryz.ntmps325
 go_wp2_with (first
  | (go_at_call 232;refine(hC _).mono ?_;clear hC;rintro e w1 ⟨rfl,hk1⟩;obtain⟨c0,c1,c2,c3,c4⟩:=cells5 (hb.keep0 hk1))
  | (go_at_call 226;first | (refine(hW1 _).mono ?_;clear hW1;rintro e w' ⟨rfl,rfl⟩) | (refine(hW2 _).mono ?_;clear hW2;rintro e w' ⟨rfl,rfl⟩)))
 go_ret
 exact⟨rfl,hkA.trans0 hk1⟩
theorem SuperBytesR:Calls Tryz.prog 239 #[VBD B 1 1] w fun e w'=>∃ u,e=.returned (.tuple #[u,.int .i64 0])∧Keep [] w w'∧VAK w 64 u w':=by
 have hM:=fun W=>SuperMayR W B h1 h2
 have hBg:=fun W=>JAt 64 75 83 (by omega) (by omega) W
 have hb:=Blk.new w 183 #[.int .i64 B,.int .i64 8,.int .i64 24,.int .i64 ((1:Nat):Int),.int .i64 ((1:Nat):Int)]
 have hkA:Keep [] w (w.alloc (.cells #[.int .i64 B,.int .i64 8,.int .i64 24,.int .i64 ((1:Nat):Int),.int .i64 ((1:Nat):Int)] 183)):=(Keep.refl _ _).alloc _
 obtain⟨c0,c1,c2,c3,c4⟩:=cells5 hb
 unfold VBD at hM ⊢
 go_enter Tryz.func239,Tryz.ntmps239
 go_wp2_with (first
  | (go_at_call 325;refine(hM _).mono ?_;clear hM;rintro e w1 ⟨rfl,hk1⟩)
  | (go_at_call 269;refine(hBg _).mono ?_;clear hBg;rintro e w2 ⟨g,u,rfl,hR⟩;have hb1:=hb.keep0 hk1;clear c0 c1 c2 c3 c4;obtain⟨c0,c1,c2,c3,c4⟩:=cells5 (hb1.keep0 hR.1)))
 have hP:=XAw (k:=1) hR (by omega) [B,8,24] (by simp;omega) (by simp) (by simp) #[.int .i64 B,.int .i64 8,.int .i64 24] rfl 3 rfl
 go_wp2_with (refine hP.mono ?_;clear hP;rintro e w3 ⟨rfl,hR3⟩;clear c0 c1 c2 c3 c4;obtain⟨c0,c1,c2,c3,c4⟩:=cells5 (hb1.keep0 hR3.1))
 have hP:=XAw (k:=4) hR3 (by omega) [1,1] (by simp) (by simp) (by simp) #[.int .i64 ((1:Nat):Int),.int .i64 ((1:Nat):Int)] rfl 2 rfl
 go_wp2_with (refine hP.mono ?_;clear hP;rintro e w4 ⟨rfl,hR4⟩)
 have hC:=XAd hR4
 go_wp2_with (refine hC.mono ?_;clear hC;rintro e w5 ⟨rfl,hk5,bs,hl,hu⟩)
 go_ret2
 have hk1w:=hkA.trans0 hk1
 exact⟨u,rfl,hk1w.trans0 hk5,bs,hl,VC hu hk1w.size⟩
end
theorem QAQ (A:Option Addr) (n c:Nat) (a b:UInt8) (ha:a≠0) (hn:1≤n) (w:World) (h:Rd w A n (bys (List.replicate n 0))):Calls Tryz.prog 296 #[.slice A n c,.int .i64 (n:Nat),.int .u8 a.toNat,.int .u8 b.toNat] w fun e w'=>e=.returned (.bool false)∧w=w':=by
 obtain⟨g,o,v,rfl,hx,hg,hc⟩:=h.at_ (j:=0) (by omega)
 have hv:v=.int .u8 0:=by
  simp only[bys,by8,List.map_replicate,List.getElem?_replicate] at hx
  rw[if_pos (by omega)] at hx
  exact(Option.some.inj hx).symm
 subst hv
 have hne:¬ (0:Int)=(a.toNat:Nat):=by
  intro h
  exact ha (UInt8.toNat_inj.1 (by simpa using h.symm))
 have hneb:((0:Int) == (a.toNat:Nat))=false:=by simpa using hne
 have hn0:¬ ((n:Nat):Int)≤0:=by omega
 have hn1:(0:Int)<(n:Nat):=by omega
 have hn2:0<n:=by omega
 go_enter Tryz.func296,Tryz.ntmps296
 rw[Nat.add_zero] at hc
 go_wp2
 go_ret
 exact⟨rfl,rfl⟩
def supz:Value:=.agg #[.int .i64 0,.int .i64 0,.int .i64 0,.int .i64 0,.int .i64 0]
theorem Xk (A:Option Addr) (c:Nat) (w:World) (h:Rd w A 64 (bys (List.replicate 64 0))):Calls Tryz.prog 195 #[.slice A 64 c] w fun e w'=>e=.returned (.tuple #[supz,.int .i64 2])∧Keep [] w w':=by
 have hS:∀ W,Keep [] w W→Calls Tryz.prog 296 #[.slice A 64 c,.int .i64 64,.int .u8 75,.int .u8 83] W fun e w'=>e=.returned (.bool false)∧W=w':=fun W hk=>QAQ A 64 c 75 83 (by decide) (by omega) W (h.keep hk)
 unfold supz
 have hk2:Keep [] w ((w.alloc (.cells #[.int .i64 0,.int .i64 0,.int .i64 0,.int .i64 0,.int .i64 0] 183)).alloc (.cells #[.int .i64 0,.int .i64 0,.int .i64 0,.int .i64 0,.int .i64 0] 183)):=((Keep.refl _ _).alloc _).alloc _
 go_enter Tryz.func195,Tryz.ntmps195
 go_wp2_with (refine(hS _ hk2).mono ?_;clear hS;rintro e w' ⟨rfl,rfl⟩)
 exact bodyPost_ret (v:=.tuple #[.agg #[.int .i64 0,.int .i64 0,.int .i64 0,.int .i64 0,.int .i64 0],.int .i64 2]) (by simp[results,Tryz.results195,go_sem]) rfl ⟨rfl,hk2⟩
theorem Vl (A A':Option Addr) (c c':Nat) (w:World) (h:Rd w A 64 (bys (List.replicate 64 0))) (h':Rd w A' 64 (bys (List.replicate 64 0))):Calls Tryz.prog 234 #[.slice A 64 c,.slice A' 64 c'] w fun e w'=>e=.returned (.tuple #[supz,.int .i64 0,.int .i64 2])∧Keep [] w w':=by
 have hS:=fun W (hk:Keep [] w W)=>Xk A c W (h.keep hk)
 have hS':=fun W (hk:Keep [] w W)=>Xk A' c' W (h'.keep hk)
 have hk1:Keep [] w (w.alloc (.cells #[.int .i64 0,.int .i64 0,.int .i64 0,.int .i64 0,.int .i64 0] 183)):=(Keep.refl _ _).alloc _
 have hb:=Blk.new w 183 #[.int .i64 0,.int .i64 0,.int .i64 0,.int .i64 0,.int .i64 0]
 unfold supz at hS hS' ⊢
 go_enter Tryz.func234,Tryz.ntmps234
 go_wp2_with (refine(hS _ hk1).mono ?_;clear hS;rintro e w1 ⟨rfl,hk2⟩;have hkA:=(hk1.trans0 hk2).alloc (.cells #[.int .i64 0,.int .i64 0,.int .i64 0,.int .i64 0,.int .i64 0] 183))
 go_wp2_with (refine(hS' _ hkA).mono ?_;clear hS';rintro e w2 ⟨rfl,hk3⟩;have hb2:=(hb.keep0 hk2).keep0 (((Keep.refl _ _).alloc (.cells #[.int .i64 0,.int .i64 0,.int .i64 0,.int .i64 0,.int .i64 0] 183)).trans0 hk3);obtain⟨c0,c1,c2,c3,c4⟩:=cells5 hb2;have hlt:=hb2.lt;have f0:=hb2.frozen 0;have f1:=hb2.frozen 1;have f2:=hb2.frozen 2;have f3:=hb2.frozen 3;have f4:=hb2.frozen 4)
 have h5:=(hb2.put5 (.int .i64 0) (.int .i64 0) (.int .i64 0) (.int .i64 0) (.int .i64 0)).keep0 ((Keep.refl _ _).alloc (.cells #[.int .i64 0,.int .i64 0,.int .i64 0,.int .i64 0,.int .i64 0] 183))
 have hk5:=Keep.put5 w2 w.heap.size (.int .i64 0) (.int .i64 0) (.int .i64 0) (.int .i64 0) (.int .i64 0)
 unfold put5 at h5 hk5
 obtain⟨d0,d1,d2,d3,d4⟩:=cells5 h5
 refine bodyPost_ret (v:=.tuple #[.agg #[.int .i64 0,.int .i64 0,.int .i64 0,.int .i64 0,.int .i64 0],.int .i64 0,.int .i64 2]) (by simp[results,Tryz.results234,go_sem,d0,d1,d2,d3,d4]) rfl ⟨rfl,?_⟩
 refine((hkA.trans0 hk3).trans hk5 (fun x hx=>.inr ?_)).alloc _
 simp at hx
 omega
end
section
open Go.RowKit
def zv (P:Nat):List Value:=List.replicate P (.int .i64 0)
theorem ZBB {w:World} {A:Option Addr} {P:Nat} (h:Rd w A P (zv P)) {k:Nat} (hk:k<P):∃ b o,A=some ⟨b,o,none⟩∧b<w.heap.size∧w.cell? ⟨b,o+k,none⟩=some (.int .i64 0):=by
 obtain⟨b,o,u,rfl,hx,hb,hc⟩:=h.at_ hk
 simp only[zv,List.getElem?_replicate] at hx
 rw[if_pos hk] at hx
 cases hx
 exact⟨b,o,rfl,hb,hc⟩
theorem QAt (w:World) (B:Nat) (h1:1≤B) (h2:B≤64) (A:Option Addr) (c:Nat) (h:Rd w A (pgs B) (zv (pgs B))):Calls Tryz.prog 333 #[VV B,.slice A (pgs B) c] w fun e w'=>e=.returned (.bool true)∧Keep [] w w':=by
 have hP:=fun W=>PagesR_is W B h1 h2
 have hpb:=(KC h1 h2).2
 have hW:∀ W,Calls Tryz.prog 226 #[.int .i64 0,.int .i64 0,.int .i64 1] W fun e w'=>e=.returned (.bool true)∧W=w':=fun W=>ZE 0 0 1 true (by simp) W
 obtain⟨P,hPg⟩:∃ P,P=pgs B:=⟨_,rfl⟩
 rw[← hPg] at hP hpb h ⊢
 have hkA:Keep [] w (w.alloc (.cells #[.int .i64 B,.int .i64 8,.int .i64 24] 27)):=(Keep.refl _ _).alloc _
 obtain⟨c0,c1,c2⟩:=Zf w B
 have HP:=ZB hPg
 clear hPg
 unfold VV at hP ⊢
 go_enter Tryz.func333,Tryz.ntmps333
 go_wp2_with (refine(hP _).mono ?_;clear hP;rintro e w1 ⟨rfl,hk1⟩)
 have hr:=h.keep (hkA.trans0 hk1)
 go_loop [5] (fun i=>∃ k:Nat,k≤P∧i=.int .i64 k) (fun i=>P-(intOf i).toNat)
 case atStart=>exact⟨0,Nat.zero_le _,rfl⟩
 case round=>
  obtain⟨k,hk,rfl⟩:=hrel
  by_cases hlt:k<P
  · obtain⟨b,o,rfl,hb,hc⟩:=ZBB hr hlt
    go_wp2_with (refine(hW _).mono ?_;clear hW;rintro e w' ⟨rfl,rfl⟩)
    go_round
    case rel=>exact⟨k+1,by omega,by go_num⟩
    case measure=>simp[intOf];omega
  · obtain rfl:k=P:=by omega
    go_wp2
    go_ret
    exact⟨rfl,hkA.trans0 hk1⟩
theorem YBD (w:World) (P:Nat) (hp:P≤60) (A:Option Addr) (c:Nat) (h:Rd w A P (zv P)):Calls Tryz.prog 272 #[.slice A P c] w fun e w'=>e=.returned (.int .i64 0)∧w=w':=by
 go_enter Tryz.func272,Tryz.ntmps272
 go_wp2
 go_loop [3,4] (fun n i=>∃ k:Nat,k≤P∧i=.int .i64 k∧n=.int .i64 0) (fun _ i=>P-(intOf i).toNat)
 case atStart=>exact⟨0,Nat.zero_le _,rfl,rfl⟩
 case round=>
  obtain⟨k,hk,rfl,rfl⟩:=hrel
  by_cases hlt:k<P
  · obtain⟨b,o,rfl,hb,hc⟩:=ZBB h hlt
    go_wp2
    go_round
    case rel=>exact⟨k+1,by omega,by go_num,by go_num⟩
    case measure=>simp[intOf];omega
  · obtain rfl:k=P:=by omega
    go_wp2
    go_ret
    exact⟨rfl,rfl⟩
def pos0:Value:=.agg #[.int .i64 0,.int .i64 0,.int .i64 1,.int .i64 0,.int .i64 1]
theorem QAe (w:World) (B:Nat):Calls Tryz.prog 241 #[VV B,pos0] w fun e w'=>e=.returned (.bool true)∧Keep [] w w':=by
 have hW:=fun n lo hi W=>ZE n lo hi _ rfl W
 have hbc:=Blk.new w 27 #[.int .i64 B,.int .i64 8,.int .i64 24]
 have hbp:=Blk.new (w.alloc (.cells #[.int .i64 B,.int .i64 8,.int .i64 24] 27)) 72 #[.int .i64 0,.int .i64 0,.int .i64 1,.int .i64 0,.int .i64 1]
 replace hbc:=hbc.keep0 ((Keep.refl _ _).alloc (.cells #[.int .i64 0,.int .i64 0,.int .i64 1,.int .i64 0,.int .i64 1] 72))
 obtain⟨c0,c1,c2⟩:=QC hbc
 obtain⟨p0,p1,p2,p3,p4⟩:=cells5 hbp
 unfold VV pos0
 go_enter Tryz.func241,Tryz.ntmps241
 go_wp2_with (refine(hW _ _ _ _).mono ?_;rintro e w' ⟨rfl,rfl⟩)
 go_ret
 exact⟨by simp,((Keep.refl _ _).alloc _).alloc _⟩
end
section
open Go.RowKit
theorem cells14 {w:World} {g:Nat} {t:TypeId} {x0 x1 x2 x3 x4 x5 x6 x7 x8 x9 x10 x11 x12 x13:Value} (h:Blk w g t #[x0,x1,x2,x3,x4,x5,x6,x7,x8,x9,x10,x11,x12,x13]) :
 w.cell? ⟨g,0,none⟩=some x0∧w.cell? ⟨g,1,none⟩=some x1∧w.cell? ⟨g,2,none⟩=some x2∧w.cell? ⟨g,3,none⟩=some x3∧w.cell? ⟨g,4,none⟩=some x4∧w.cell? ⟨g,5,none⟩=some x5∧w.cell? ⟨g,6,none⟩=some x6∧w.cell? ⟨g,7,none⟩=some x7∧w.cell? ⟨g,8,none⟩=some x8∧w.cell? ⟨g,9,none⟩=some x9∧w.cell? ⟨g,10,none⟩=some x10∧w.cell? ⟨g,11,none⟩=some x11∧w.cell? ⟨g,12,none⟩=some x12∧w.cell? ⟨g,13,none⟩=some x13:=
 ⟨by simpa using h.cell 0,by simpa using h.cell 1,by simpa using h.cell 2,by simpa using h.cell 3,by simpa using h.cell 4,by simpa using h.cell 5,by simpa using h.cell 6,by simpa using h.cell 7,by simpa using h.cell 8,by simpa using h.cell 9,by simpa using h.cell 10,by simpa using h.cell 11,by simpa using h.cell 12,by simpa using h.cell 13⟩
def SegsR (w:World) (G:Nat):Prop:=Rd w (some ⟨G,0,none⟩) 16 (.int .i64 1 :: List.replicate 15 (.int .i64 0))
theorem Jt {w:World} {G:Nat} (h:SegsR w G) {k:Nat} (hk:k<8):w.cell? ⟨G,k*2,none⟩=some (.int .i64 (if k=0 then 1 else 0))∧w.cell? ⟨G,k*2+1,none⟩=some (.int .i64 0):=by
 obtain⟨b,o,e,hb,hc⟩:=h.2 (by omega)
 cases e
 have h0:=hc (k*2)
 have h1:=hc (k*2+1)
 simp only[Nat.zero_add] at h0 h1
 refine⟨h0 _ ?_,h1 _ ?_⟩
 · rcases k with _ | k
   · rfl
   · rw[if_neg (by omega),show (k+1)*2=(2*k+1)+1 by omega,List.getElem?_cons_succ,List.getElem?_replicate,if_pos (by omega)]
 · rw[List.getElem?_cons_succ,List.getElem?_replicate,if_pos (by omega)]
theorem SegsR.keep0 {w w':World} {G:Nat} (h:SegsR w G) (hk:Keep [] w w'):SegsR w' G:=Rd.keep h hk
def KAt (B:Nat) (A1:Option Addr) (q1:Nat) (A2:Option Addr) (q2:Nat) (G:Nat):Value:=.agg #[.int .i64 1,.int .i64 1,.int .i64 1,.int .i64 0,.int .i64 0,.int .i64 0,.int .i64 0,.int .i64 0,.int .i64 1,.int .i64 0,.int .i64 1,.slice A1 (pgs B) q1,.slice A2 (pgs B) q2,.slice (some ⟨G,0,none⟩) 8 8]
theorem ZAT (w:World) (B:Nat) (h1:1≤B) (h2:B≤64) (A1:Option Addr) (q1:Nat) (A2:Option Addr) (q2:Nat) (G:Nat) (r1:Rd w A1 (pgs B) (zv (pgs B))) (r2:Rd w A2 (pgs B) (zv (pgs B))) (r3:SegsR w G) :
 Calls Tryz.prog 268 #[VV B,KAt B A1 q1 A2 q2 G] w fun e w'=>e=.returned (.bool true)∧Keep [] w w':=by
 have hWs:=fun n lo hi W=>ZE n lo hi _ rfl W
 have hPo:=fun W=>QAe W B
 have hS1:=fun W (hk:Keep [] w W)=>QAt W B h1 h2 A1 q1 (r1.keep hk)
 have hS2:=fun W (hk:Keep [] w W)=>QAt W B h1 h2 A2 q2 (r2.keep hk)
 obtain⟨P,hPg⟩:∃ P,P=pgs B:=⟨_,rfl⟩
 have hsw:∀ W,Keep [] w W→Keep [] w W:=fun _ h=>h
 unfold KAt pos0 at *
 unfold VV at *
 rw[← hPg] at hS1 hS2 r1 r2 ⊢
 have HP:=ZB hPg
 clear hPg
 obtain⟨CB,hCB⟩:∃ n,n=w.heap.size:=⟨_,rfl⟩
 have hbc:=Blk.new w 27 #[.int .i64 B,.int .i64 8,.int .i64 24]
 have hbr:=Blk.new (w.alloc (.cells #[.int .i64 B,.int .i64 8,.int .i64 24] 27)) 185 #[.int .i64 1,.int .i64 1,.int .i64 1,.int .i64 0,.int .i64 0,.int .i64 0,.int .i64 0,.int .i64 0,.int .i64 1,.int .i64 0,.int .i64 1,.slice A1 P q1,.slice A2 P q2,.slice (some ⟨G,0,none⟩) 8 8]
 rw[show (w.alloc (.cells #[.int .i64 B,.int .i64 8,.int .i64 24] 27)).heap.size=w.heap.size+1 by simp] at hbr
 have hk0:Keep [] w ((w.alloc (.cells #[.int .i64 B,.int .i64 8,.int .i64 24] 27)).alloc (.cells #[.int .i64 1,.int .i64 1,.int .i64 1,.int .i64 0,.int .i64 0,.int .i64 0,.int .i64 0,.int .i64 0,.int .i64 1,.int .i64 0,.int .i64 1,.slice A1 P q1,.slice A2 P q2,.slice (some ⟨G,0,none⟩) 8 8] 185)):=((Keep.refl _ _).alloc _).alloc _
 replace hbc:=hbc.keep0 ((Keep.refl _ _).alloc (.cells #[.int .i64 1,.int .i64 1,.int .i64 1,.int .i64 0,.int .i64 0,.int .i64 0,.int .i64 0,.int .i64 0,.int .i64 1,.int .i64 0,.int .i64 1,.slice A1 P q1,.slice A2 P q2,.slice (some ⟨G,0,none⟩) 8 8] 185))
 obtain⟨d0,d1,d2⟩:=QC hbc
 obtain⟨c0,c1,c2,c3,c4,c5,c6,c7,c8,c9,c10,c11,c12,c13⟩:=cells14 hbr
 go_enter Tryz.func268,Tryz.ntmps268
 go_wp2_with (first
  | (go_at_call 226;refine(hWs _ _ _ _).mono ?_;rintro e w' ⟨rfl,rfl⟩)
  | (go_at_call 241;refine(hPo _).mono ?_;clear hPo;rintro e w1 ⟨rfl,hk1⟩;replace hk0:=hk0.trans0 hk1;replace hbc:=hbc.keep0 hk1;replace hbr:=hbr.keep0 hk1;clear d0 d1 d2 c0 c1 c2 c3 c4 c5 c6 c7 c8 c9 c10 c11 c12 c13;obtain⟨d0,d1,d2⟩:=QC hbc;obtain⟨c0,c1,c2,c3,c4,c5,c6,c7,c8,c9,c10,c11,c12,c13⟩:=cells14 hbr)
  | (go_at_call 333;first
      | (refine(hS1 _ hk0).mono ?_;clear hS1;rintro e w1 ⟨rfl,hk1⟩;replace hk0:=hk0.trans0 hk1;replace hbc:=hbc.keep0 hk1;replace hbr:=hbr.keep0 hk1;clear d0 d1 d2 c0 c1 c2 c3 c4 c5 c6 c7 c8 c9 c10 c11 c12 c13;obtain⟨d0,d1,d2⟩:=QC hbc;obtain⟨c0,c1,c2,c3,c4,c5,c6,c7,c8,c9,c10,c11,c12,c13⟩:=cells14 hbr)
      | (refine(hS2 _ hk0).mono ?_;clear hS2;rintro e w1 ⟨rfl,hk1⟩;replace hk0:=hk0.trans0 hk1;replace hbc:=hbc.keep0 hk1;replace hbr:=hbr.keep0 hk1;clear d0 d1 d2 c0 c1 c2 c3 c4 c5 c6 c7 c8 c9 c10 c11 c12 c13;obtain⟨d0,d1,d2⟩:=QC hbc;obtain⟨c0,c1,c2,c3,c4,c5,c6,c7,c8,c9,c10,c11,c12,c13⟩:=cells14 hbr)))
 have hsg:=r3.keep0 hk0
 clear d0 d1 d2 hbc r1 r2 hsw
 clear c0 c1 c2 c3 c4 c5 c6 c7 c8 c9 c10 c11 c12 c13
 go_loopw [5] (fun i wr=>∃ k:Nat,k≤8∧i=.int .i64 k∧Keep [] w wr∧Blk wr (w.heap.size+1) 185 #[.int .i64 1,.int .i64 1,.int .i64 1,.int .i64 0,.int .i64 0,.int .i64 0,.int .i64 0,.int .i64 0,.int .i64 1,.int .i64 0,.int .i64 1,.slice A1 P q1,.slice A2 P q2,.slice (some ⟨G,0,none⟩) 8 8]∧SegsR wr G) (fun i _=>8-(intOf i).toNat)
 case atStart=>exact⟨0,by omega,rfl,hk0,hbr,hsg⟩
 case round=>
  clear hk0 hbr hsg
  obtain⟨k,hk,rfl,hk0,hbr,hsg⟩:=hrel
  obtain⟨c0,c1,c2,c3,c4,c5,c6,c7,c8,c9,c10,c11,c12,c13⟩:=cells14 hbr
  by_cases hlt:k<8
  · obtain⟨s0,s1⟩:=Jt hsg hlt
    rcases Nat.eq_zero_or_pos k with rfl | hkp
    · simp only[Nat.zero_mul,Nat.zero_add,if_true] at s0 s1
      go_wp2_with fail
      refine ZT (fun w'=>w'.cell? ⟨w.heap.size+1,13,none⟩=some (.slice (some ⟨G,0,none⟩) 8 8)∧w'.cell? ⟨w.heap.size+1,6,none⟩=some (.int .i64 0)∧w'.cell? ⟨G,0,none⟩=some (.int .i64 1)∧w'.cell? ⟨G,1,none⟩=some (.int .i64 0)) 31 [[0,1,2,3,4,5],[6,7,8,9,10,11,12,13,14],[15,16,17,18,19,20,21,22,23,24,25,26,27,28,29,30]] ⟨c13,c6,s0,s1⟩ ?_
      simp only[PI]
      iterate 6 (refine ZH ?_;simp only[Act.put,PU])
      refine XB (by rfl) (fun K hK=>?_)
      go_wp2_with (refine(hWs _ _ _ _).mono ?_;rintro e w' ⟨rfl,rfl⟩)
      refine hK _ _ (⟨c13,c6,s0,s1⟩) ?_
      clear hK K
      try simp only[Act.put,PU]
      iterate 8 (refine ZH ?_;simp only[Act.put,PU])
      refine XB (by rfl) (fun K hK=>?_)
      go_wp2_with (refine(hWs _ _ _ _).mono ?_;rintro e w' ⟨rfl,rfl⟩)
      refine hK _ _ (⟨c13,c6,s0,s1⟩) ?_
      clear hK K
      try simp only[Act.put,PU]
      iterate 15 (refine ZH ?_;simp only[Act.put,PU])
      refine JB ?_
      go_wp2_with fail
      go_round
      case rel=>exact⟨0+1,by omega,by go_num,hk0.drew,hbr.drew,hsg.keep0 (Keep.refl _ _).drew⟩
      case measure=>simp[intOf]
    · rw[if_neg (by omega)] at s0
      have hkn:¬ ((k:Nat):Int)=0:=by omega
      have hkb:(((k:Nat):Int) == 0)=false:=by simpa using hkn
      go_wp2_with fail
      refine ZT (fun w'=>w'.cell? ⟨w.heap.size+1,13,none⟩=some (.slice (some ⟨G,0,none⟩) 8 8)∧w'.cell? ⟨w.heap.size+1,6,none⟩=some (.int .i64 0)∧w'.cell? ⟨G,k*2,none⟩=some (.int .i64 0)∧w'.cell? ⟨G,k*2+1,none⟩=some (.int .i64 0)) 31 [[0,1,2,3,4,5],[6,7,8,9,10,11,12,13,14],[15,16,17,18,19,20,21,22,23,24,25,26,27,28,29,30]] ⟨c13,c6,s0,s1⟩ ?_
      simp only[PI]
      iterate 6 (refine ZH ?_;simp only[Act.put,PU])
      refine XB (by rfl) (fun K hK=>?_)
      go_wp2_with (refine(hWs _ _ _ _).mono ?_;rintro e w' ⟨rfl,rfl⟩)
      refine hK _ _ (⟨c13,c6,s0,s1⟩) ?_
      clear hK K
      try simp only[Act.put,PU]
      iterate 8 (refine ZH ?_;simp only[Act.put,PU])
      refine XB (by rfl) (fun K hK=>?_)
      go_wp2_with (refine(hWs _ _ _ _).mono ?_;rintro e w' ⟨rfl,rfl⟩)
      refine hK _ _ (⟨c13,c6,s0,s1⟩) ?_
      clear hK K
      try simp only[Act.put,PU]
      iterate 15 (refine ZH ?_;simp only[Act.put,PU])
      refine JB ?_
      go_wp2_with fail
      go_round
      case rel=>exact⟨k+1,by omega,by go_num,hk0.drew,hbr.drew,hsg.keep0 (Keep.refl _ _).drew⟩
      case measure=>simp[intOf];omega
  · obtain rfl:k=8:=by omega
    go_wp2
    go_ret
    exact⟨rfl,hk0⟩
end
section
open Go.RowKit
theorem KAA (w:World) (B:Nat) (h1:1≤B) (h2:B≤64) (A1:Option Addr) (q1:Nat) (A2:Option Addr) (q2:Nat) (G:Nat) (r1:Rd w A1 (pgs B) (zv (pgs B))) (r2:Rd w A2 (pgs B) (zv (pgs B))) (r3:SegsR w G) :
 Calls Tryz.prog 161 #[VV B,KAt B A1 q1 A2 q2 G] w fun e w'=>∃ u,e=.returned (.tuple #[u,.int .i64 0])∧Keep [] w w'∧VAK w 128 u w':=by
 have hM:=fun W (hk:Keep [] w W)=>ZAT W B h1 h2 A1 q1 A2 q2 G (r1.keep hk) (r2.keep hk) (r3.keep0 hk)
 have hL:=fun W=>RegionLenR_is W B
 have hBg:=fun W=>JAt 128 75 67 (by omega) (by omega) W
 have hpb:=(KC h1 h2).2
 have hB1:=fun W (hk:Keep [] w W)=>YBD W (pgs B) (by omega) A1 q1 (r1.keep hk)
 have hB2:=fun W (hk:Keep [] w W)=>YBD W (pgs B) (by omega) A2 q2 (r2.keep hk)
 obtain⟨P,hPg⟩:∃ P,P=pgs B:=⟨_,rfl⟩
 unfold KAt at *
 unfold VV at *
 rw[← hPg] at hM hB1 hB2 r1 r2 ⊢
 have HP:=ZB hPg
 clear hPg
 have hbc:=Blk.new w 27 #[.int .i64 B,.int .i64 8,.int .i64 24]
 have hbr:=Blk.new (w.alloc (.cells #[.int .i64 B,.int .i64 8,.int .i64 24] 27)) 185 #[.int .i64 1,.int .i64 1,.int .i64 1,.int .i64 0,.int .i64 0,.int .i64 0,.int .i64 0,.int .i64 0,.int .i64 1,.int .i64 0,.int .i64 1,.slice A1 P q1,.slice A2 P q2,.slice (some ⟨G,0,none⟩) 8 8]
 rw[show (w.alloc (.cells #[.int .i64 B,.int .i64 8,.int .i64 24] 27)).heap.size=w.heap.size+1 by simp] at hbr
 have hk0:Keep [] w ((w.alloc (.cells #[.int .i64 B,.int .i64 8,.int .i64 24] 27)).alloc (.cells #[.int .i64 1,.int .i64 1,.int .i64 1,.int .i64 0,.int .i64 0,.int .i64 0,.int .i64 0,.int .i64 0,.int .i64 1,.int .i64 0,.int .i64 1,.slice A1 P q1,.slice A2 P q2,.slice (some ⟨G,0,none⟩) 8 8] 185)):=((Keep.refl _ _).alloc _).alloc _
 replace hbc:=hbc.keep0 ((Keep.refl _ _).alloc (.cells #[.int .i64 1,.int .i64 1,.int .i64 1,.int .i64 0,.int .i64 0,.int .i64 0,.int .i64 0,.int .i64 0,.int .i64 1,.int .i64 0,.int .i64 1,.slice A1 P q1,.slice A2 P q2,.slice (some ⟨G,0,none⟩) 8 8] 185))
 obtain⟨d0,d1,d2⟩:=QC hbc
 obtain⟨c0,c1,c2,c3,c4,c5,c6,c7,c8,c9,c10,c11,c12,c13⟩:=cells14 hbr
 go_enter Tryz.func161,Tryz.ntmps161
 go_wp2_with (first
  | (go_at_call 268;refine(hM _ hk0).mono ?_;clear hM;rintro e w1 ⟨rfl,hk1⟩;replace hk0:=hk0.trans0 hk1;replace hbc:=hbc.keep0 hk1;replace hbr:=hbr.keep0 hk1;clear d0 d1 d2 c0 c1 c2 c3 c4 c5 c6 c7 c8 c9 c10 c11 c12 c13;obtain⟨d0,d1,d2⟩:=QC hbc)
  | (go_at_call 202;refine(hL _).mono ?_;clear hL;rintro e w2 ⟨rfl,hk1⟩;replace hk0:=hk0.trans0 hk1;replace hbr:=hbr.keep0 hk1;clear d0 d1 d2)
  | (go_at_call 269;refine(hBg _).mono ?_;clear hBg;rintro e w3 ⟨g,u,rfl,hR⟩;obtain⟨ub,uc,rfl,huc⟩:=hR.form (by omega);obtain⟨c0,c1,c2,c3,c4,c5,c6,c7,c8,c9,c10,c11,c12,c13⟩:=cells14 (hbr.keep0 hR.1)))
 have hP:=XAw (k:=4) hR (by omega) [1,1] (by simp) (by simp) (by simp) #[.int .i64 1,.int .i64 1] rfl 2 rfl
 go_wp2_with (refine hP.mono ?_;clear hP hR;rintro e w3 ⟨rfl,hR⟩;clear c0 c1 c2 c3 c4 c5 c6 c7 c8 c9 c10 c11 c12 c13;obtain⟨c0,c1,c2,c3,c4,c5,c6,c7,c8,c9,c10,c11,c12,c13⟩:=cells14 (hbr.keep0 hR.1))
 have hP:=ZBA hR 1 1 (by omega) (by simp) (by simp)
 go_wp2_with (refine hP.mono ?_;clear hP hR;rintro e w3 ⟨rfl,hR⟩;clear c0 c1 c2 c3 c4 c5 c6 c7 c8 c9 c10 c11 c12 c13;obtain⟨c0,c1,c2,c3,c4,c5,c6,c7,c8,c9,c10,c11,c12,c13⟩:=cells14 (hbr.keep0 hR.1))
 have hP:=XAw (k:=4) hR (by omega) [0,0,0] (by simp) (by simp) (by simp) #[.int .i64 0,.int .i64 0,.int .i64 0] rfl 3 rfl
 go_wp2_with (refine hP.mono ?_;clear hP hR;rintro e w3 ⟨rfl,hR⟩;clear c0 c1 c2 c3 c4 c5 c6 c7 c8 c9 c10 c11 c12 c13;obtain⟨c0,c1,c2,c3,c4,c5,c6,c7,c8,c9,c10,c11,c12,c13⟩:=cells14 (hbr.keep0 hR.1))
 have hP:=XAw (k:=1) hR (by omega) [0,0] (by simp) (by simp) (by simp) #[.int .i64 0,.int .i64 0] rfl 2 rfl
 go_wp2_with (refine hP.mono ?_;clear hP hR;rintro e w3 ⟨rfl,hR⟩;clear c0 c1 c2 c3 c4 c5 c6 c7 c8 c9 c10 c11 c12 c13;obtain⟨c0,c1,c2,c3,c4,c5,c6,c7,c8,c9,c10,c11,c12,c13⟩:=cells14 (hbr.keep0 hR.1))
 have hP:=XAw (k:=4) hR (by omega) [1,0,1] (by simp) (by simp) (by simp) #[.int .i64 1,.int .i64 0,.int .i64 1] rfl 3 rfl
 go_wp2_with (refine hP.mono ?_;clear hP hR;rintro e w3 ⟨rfl,hR⟩;clear c0 c1 c2 c3 c4 c5 c6 c7 c8 c9 c10 c11 c12 c13;obtain⟨c0,c1,c2,c3,c4,c5,c6,c7,c8,c9,c10,c11,c12,c13⟩:=cells14 (hbr.keep0 hR.1))
 have hkk:=hk0.trans0 hR.1
 refine ZT (fun w'=>w'.cell? ⟨w.heap.size+1,11,none⟩=some (.slice A1 P q1)∧w'.cell? ⟨w.heap.size+1,12,none⟩=some (.slice A2 P q2)) 8 [[0,1,2,4,5],[3],[6],[7]] ⟨c11,c12⟩ ?_
 simp only[PI]
 iterate 5 (refine ZH ?_;simp only[Act.put,PU])
 refine XB (by rfl) (fun K hK=>?_)
 go_wp2_with (refine(hB1 _ hkk.drew).mono ?_;clear hB1;rintro e w' ⟨rfl,rfl⟩)
 refine hK _ _ (⟨c11,c12⟩) ?_
 clear hK K
 try simp only[Act.put,PU]
 refine XB (by rfl) (fun K hK=>?_)
 go_wp2_with (refine(hB2 _ hkk.drew).mono ?_;clear hB2;rintro e w' ⟨rfl,rfl⟩)
 refine hK _ _ (⟨c11,c12⟩) ?_
 clear hK K
 try simp only[Act.put,PU]
 obtain⟨e0,e1,e2,e3,e4,e5,e6,e7,e8,e9,e10,e11,e12,e13⟩:=cells14 (hbr.keep0 (hR.1.alloc (.cells #[.int .i64 0,.int .i64 0] 3)))
 refine XB (by rfl) (fun K hK=>?_)
 go_wp2_with fail
 refine hK _ _ (⟨e11,e12⟩) ?_
 clear hK K
 try simp only[Act.put,PU]
 refine JB ?_
 have hP:=XAw (k:=1) (hR.keep0 (Keep.refl _ _).drew) (by omega) [0,0] (by simp) (by simp) (by simp) #[.int .i64 0,.int .i64 0] rfl 2 rfl
 clear c0 c1 c2 c3 c4 c5 c6 c7 c8 c9 c10 c11 c12 c13 e0 e1 e2 e3 e4 e5 e6 e7 e8 e9 e10 e11 e12 e13 hkk
 go_wp2_with (refine hP.mono ?_;clear hP hR;rintro e w3 ⟨rfl,hR⟩)
 go_loopw [7] (fun i wr=>∃ k:Nat,k≤8∧i=.int .i64 k∧RowN w2 wr g (.slice (some ⟨ub,0,none⟩) 128 uc) 128 (39+5*k)) (fun i _=>8-(intOf i).toNat)
 case atStart=>exact⟨0,by omega,rfl,hR⟩
 case round=>
  clear hR
  obtain⟨k,hk,rfl,hR⟩:=hrel
  obtain⟨c0,c1,c2,c3,c4,c5,c6,c7,c8,c9,c10,c11,c12,c13⟩:=cells14 (hbr.keep0 hR.1)
  by_cases hlt:k<8
  · obtain⟨z,hz,s0⟩:∃ z:Nat,z≤1∧wr.cell? ⟨G,k*2,none⟩=some (Value.int .i64 (z:Nat)):=by
     obtain⟨s0,s1⟩:=Jt (r3.keep0 (hk0.trans0 hR.1)) hlt
     by_cases hk0:k=0
     · rw[if_pos hk0] at s0
       exact⟨1,by omega,s0⟩
     · rw[if_neg hk0] at s0
       exact⟨0,by omega,s0⟩
    have hP:=ZBA hR 1 z (by omega) (by simp;omega) (by omega)
    go_wp2_with (refine hP.mono ?_;clear hP;rintro e w4 ⟨rfl,hR4⟩;clear c0 c1 c2 c3 c4 c5 c6 c7 c8 c9 c10 c11 c12 c13;obtain⟨c0,c1,c2,c3,c4,c5,c6,c7,c8,c9,c10,c11,c12,c13⟩:=cells14 (hbr.keep0 hR4.1);obtain⟨_,s1⟩:=Jt (r3.keep0 (hk0.trans0 hR4.1)) hlt)
    have hP:=ZBA hR4 4 0 (by omega) (by simp) (by omega)
    go_wp2_with (refine hP.mono ?_;clear hP;rintro e w5 ⟨rfl,hR5⟩)
    go_round
    case rel=>exact⟨k+1,by omega,by go_num,hR5⟩
    case measure=>simp[intOf];omega
  · obtain rfl:k=8:=by omega
    have hA:RowN w2 (wr.setCell ⟨g,1,none⟩ (.int .i64 124)) g (.slice (some ⟨ub,0,none⟩) 128 uc) 128 124:=hR.setAt 124 (by omega)
    obtain⟨a0,a1⟩:=hR.cells
    have f1:=hR.froz
    obtain⟨b0,b1⟩:=hA.cells
    obtain⟨bs,hl,ho⟩:=hA.own
    have hrd:=(Rd.of_own ho).take (k:=124) (by omega)
    rw[YO] at hrd
    have hS:=VBG (some ⟨ub,0,none⟩) 124 uc (bs.take 124) _ hrd.drew (by omega)
    have hO:=ZBA (hA.keep0 (Keep.refl _ _).drew) 4 (ZQ (bs.take 124)) (by omega) (KX _) (by omega)
    have h124:(124:Int)≤(uc:Nat):=by omega
    have hw124:IntKind.i64.wrap 124=124:=rfl
    go_wp2_with fail
    refine ZT (fun w'=>w'.cell? ⟨g,0,none⟩=some (.slice (some ⟨ub,0,none⟩) 128 uc)) 13 [[0,1,2,3,4,5,6,7,8,9,10,11],[12]] b0 ?_
    simp only[PI]
    iterate 12 (refine ZH ?_;simp only[Act.put,PU])
    refine XB (by rfl) (fun K hK=>?_)
    go_wp2_with (refine hS.mono ?_;clear hS;rintro e w' ⟨rfl,rfl⟩)
    refine hK _ _ (b0) ?_
    clear hK K
    try simp only[Act.put,PU]
    refine JB ?_
    go_wp2_with (refine hO.mono ?_;clear hO;rintro e w6 ⟨rfl,hR6⟩;obtain⟨n0,n1⟩:=hR6.cells)
    go_ret2
    obtain⟨bs6,hl6,ho6⟩:=hR6.own
    exact⟨_,rfl,hk0.trans0 hR6.1,bs6,hl6,VC ho6 hk0.size⟩
end
end Go.Proofs.YthgphmfipnjllaaGreat
