/- Lemmas of the proof, with their conditions. -/
import Derived.Test.YtkonbpfbjiepfaaGreatT09
namespace Go.Proofs.YtkonbpfbjiepfaaGreat
set_option linter.unusedSimpArgs false
set_option linter.unusedVariables false
set_option maxHeartbeats 2000000
set_option maxRecDepth 20000
section
open Go.RowKit
theorem XAU {W0:World} {base r a k n:Nat} {v:Value} {bs t:List UInt8} (l m:List (Nat×Nat)) (hR:RowAt W0 base r v bs a) (hbs:bs=fields (l++(k,n) :: m)++t) (ha:a=widths l) (hk:k=1∨k=2∨k=4) (hn:n<256 ^ k) :
 Calls Tryz.prog 226 #[.pointer (some ⟨r,0,none⟩),.int .i64 (k:Nat)] W0 fun e w'=>e=.returned (.tuple #[.int .i64 (n:Nat),.bool true])∧RowAt w' base r v bs (a+k)∧Keep [r] W0 w':=by
 have hg:=KAS l k n m t hn;rw[← hbs,← ha] at hg;have hl:a+k≤bs.length:=by rw[hbs,YE,ha];simp[fields]
 refine(QAc W0 base r a k v bs hR hk hl).mono ?_;rw[hg];exact fun _ _ h=>h
theorem JT {w4:World} {base r a N:Nat} {v:Value} {bs:List UInt8} {ty:TypeId} {cs:Array Value} (j:Nat) (x:Value) (hR:RowAt w4 base r v bs a) (hN:N<base) (hB:Blk w4 N ty cs) :
 RowAt (w4.setCell ⟨N,j,none⟩ x) base r v bs a∧Blk (w4.setCell ⟨N,j,none⟩ x) N ty (cs.setIfInBounds j x)∧Keep [N] w4 (w4.setCell ⟨N,j,none⟩ x):=
 ⟨⟨hR.blk.far (p:=⟨N,j,none⟩) (by have:=hR.base;simp;omega) x,own_set hR.own (fun hm=>by have:=(own_mem hR.own hm).1;omega) x,hR.base,hR.le,hR.few⟩,hB.set j x,(Keep.refl [N] _).setCell (p:=⟨N,j,none⟩) (.inl (by simp)) _⟩
theorem Yj {w3 w4:World} {base r a N:Nat} {v:Value} {bs:List UInt8} {l:List Nat} {ty:TypeId} {cs:Array Value} (hR:RowAt w3 base r v bs a) (hk:Keep l w3 w4) (hl:∀ x∈l,x∈r :: v.ownBlock.toList) (hN:N<base) (hB:Blk w3 N ty cs):Blk w4 N ty cs:=
 hB.keep hk (fun hm=>by have:=hR.fresh N (hl N hm);omega)
def QAG (B id mount:Nat):List UInt8:=Ye 64 (fields [(1,75),(1,83),(1,B),(1,8),(1,24),(4,id),(4,mount)])
@[simp] theorem length_supB (B id mount:Nat):(QAG B id mount).length=64:=JW (by omega) (by simp[widths])
theorem KAF (B id mount:Nat) (h1:1≤B) (h2:B≤64) (h3:id≤2147483647) (h4:1≤mount∧mount≤2147483647) (w:World) :
 Calls Tryz.prog 174 #[.agg #[.int .i64 B,.int .i64 8,.int .i64 24,.int .i64 id,.int .i64 mount]] w fun e w'=>∃ u,e=.returned (.tuple #[u,.int .i64 0])∧w'.ownsRow w.heap.size 5 1 u 64 (bys (QAG B id mount))∧Keep [] w w':=by
 have hM:=fun W=>Qp B id mount h1 h2 h3 h4 W;have hBk:=Blk.new w 258 #[.int .i64 B,.int .i64 8,.int .i64 24,.int .i64 id,.int .i64 mount]
 go_enter Tryz.func174,Tryz.ntmps174
 go_wp2_with (
  (refine(hM _).mono ?_)
  clear hM;rintro e w2 ⟨rfl,hk2⟩;have hB2:=hBk.keep0 hk2;clear hBk)
 have hkw:Keep [] w w2:=((Keep.refl _ _).alloc _).trans0 hk2;have hN:=ZBE 64 (by omega) w2
 go_wp2_with (
  (refine hN.mono ?_)
  clear hN;rintro e w4 ⟨r,rv,rfl,hR,hK4⟩;have hB4:=hB2.keep0 hK4;obtain⟨c0,c1,c2,c3,c4⟩:=YD hB4;have hlt:=hB4.lt)
 have hP:=ZAT (k:=1) hR (by omega) [75,83,B,8,24] (by simp;omega) (by simp) (by simp) #[.int .i64 75,.int .i64 83,.int .i64 B,.int .i64 8,.int .i64 24] rfl 5 rfl
 go_wp2_with (
  (refine hP.mono ?_)
  clear hP;rintro e w5 ⟨rfl,hR5,hK5⟩;have hK5':=hK4.trans hK5 (fun x hx=>.inr (hR.fresh x hx));clear c0 c1 c2 c3 c4 hlt hB4;have hB5:=hB2.keep0 hK5';obtain⟨c0,c1,c2,c3,c4⟩:=YD hB5;have hlt:=hB5.lt;clear hR hK5 hK4)
 have hP:=ZAT (k:=4) hR5 (by omega) [id,mount] (by simp;omega) (by simp) (by simp) #[.int .i64 id,.int .i64 mount] rfl 2 rfl
 go_wp2_with (
  (refine hP.mono ?_)
  clear hP;rintro e w6 ⟨rfl,hR6,hK6⟩;have hK6':=hK5'.trans hK6 (fun x hx=>.inr (hR5.fresh x hx));clear c0 c1 c2 c3 c4 hlt)
 rw[List.nil_append,ZJ,ZJ,← YE] at hR6;have hB:=XAX hR6
 go_wp2_with (refine hB.mono ?_;clear hB;rintro e w12 ⟨u,rfl,hu,hk7⟩)
 have hS:=YAv hu (by omega) (by simp[widths]) (by omega)
 go_wp2_with (refine hS.mono ?_;clear hS;rintro e w13 ⟨rfl,hu3,hk3⟩)
 go_ret2;have hKw:=hkw.trans0 hK6';exact⟨u,rfl,KB hu3 hKw.size,(hKw.trans0 hk7).trans hk3 (fun x hx=>.inr (Nat.le_trans hKw.size (own_mem hu hx).1))⟩
theorem JAx (B id mount:Nat) (h1:1≤B) (h2:B≤64) (h3:id≤2147483647) (h4:1≤mount∧mount≤2147483647) (A:Option Addr) (c:Nat) (w:World) (ha:Rd w A 64 (bys (QAG B id mount))) :
 Calls Tryz.prog 258 #[.slice A 64 c] w fun e w'=>e=.returned (.tuple #[.agg #[.int .i64 B,.int .i64 8,.int .i64 24,.int .i64 id,.int .i64 mount],.int .i64 0])∧Keep [] w w':=by
 have hlen:=length_supB B id mount;obtain⟨t,hbs⟩:∃ t,QAG B id mount=fields [(1,75),(1,83),(1,B),(1,8),(1,24),(4,id),(4,mount)]++t:=ZV 64 _;have hE:=fun W=>KAF B id mount h1 h2 h3 h4 W;generalize QAG B id mount=bs at *;have hF:=fun W (hk:Keep [] w W)=>ZX A 64 c bs W (ha.keep hk) (by omega);have hBk:=Blk.new w 258 #[.int .i64 0,.int .i64 0,.int .i64 0,.int .i64 0,.int .i64 0];have HLEN:=XC hlen;have HBS:=XC hbs;clear hlen hbs
 go_enter Tryz.func258,Tryz.ntmps258
 go_wp2_with (
  (refine(hF _ ((Keep.refl _ _).alloc _)).mono ?_)
  clear hF;rintro e w2 ⟨r,v,rfl,hR,hk2⟩;have hB2:=hBk.keep0 hk2;clear hBk)
 have hkw:Keep [] w w2:=((Keep.refl _ _).alloc _).trans0 hk2;have hbase:w.heap.size<(w.alloc (.cells #[.int .i64 0,.int .i64 0,.int .i64 0,.int .i64 0,.int .i64 0] 258)).heap.size:=by simp
 generalize (w.alloc (.cells #[.int .i64 0,.int .i64 0,.int .i64 0,.int .i64 0,.int .i64 0] 258)).heap.size=base at *;have hT:=JX w2 _ r 0 2 v _ hR (by rw[JA HLEN];omega)
 go_wp2_with (
  (refine hT.mono ?_)
  clear hT;rintro e w3 ⟨ut,rfl,-,hR3,hk3⟩)
 have hB3:=Yj hR hk3 (by simp) hbase hB2;have hK3:Keep [] w w3:=hkw.trans hk3 (fun x hx=>.inr (by have:=hR.fresh x (by simp at hx;simp[hx]);omega));clear hR hB2 hkw hk2 hk3;have hT:=XAU (k:=1) (n:=B) [(1,75),(1,83)] [(1,8),(1,24),(4,id),(4,mount)] hR3 (JA HBS) rfl (by omega) (by omega)
 go_wp2_with (
  (refine hT.mono ?_)
  clear hT;rintro e w4 ⟨rfl,hR4,hk4⟩;have hB4:=Yj hR3 hk4 (by simp) hbase hB3;have q4:=hB4.frozen 0;obtain⟨x0,x1,x2,x3,x4⟩:=YD hB4;have hlt4:=hB4.lt;have hz4:=JT 0 (.int .i64 (B:Nat)) hR4 hbase hB4;have hK4':=(hK3.trans hk4 (fun x hx=>.inr (by have:=hR3.fresh x (by simp at hx;simp[hx]);omega))).trans hz4.2.2 (fun x hx=>.inr (by simp at hx;omega));have hB4':Blk (w4.setCell ⟨w.heap.size,0,none⟩ (.int .i64 (B:Nat))) w.heap.size 258 #[.int .i64 B,.int .i64 0,.int .i64 0,.int .i64 0,.int .i64 0]:=hz4.2.1;have hR4':=hz4.1;obtain⟨y0,y1,y2,y3,y4⟩:=YD hB4')
 clear q4 x0 x1 x2 x3 x4 hR3 hB3 hK3 hR4 hB4 hz4 y0 y1 y2 y3 y4;have hT:=XAU (k:=1) (n:=8) [(1,75),(1,83),(1,B)] [(1,24),(4,id),(4,mount)] hR4' (JA HBS) rfl (by omega) (by omega)
 go_wp2_with (
  (refine hT.mono ?_)
  clear hT;rintro e w5 ⟨rfl,hR5,hk5⟩;have hB5:=Yj hR4' hk5 (by simp) hbase hB4';have q5:=hB5.frozen 1;obtain⟨x0,x1,x2,x3,x4⟩:=YD hB5;have hlt5:=hB5.lt;have hz5:=JT 1 (.int .i64 (8:Nat)) hR5 hbase hB5;have hK5':=(hK4'.trans hk5 (fun x hx=>.inr (by have:=hR4'.fresh x (by simp at hx;simp[hx]);omega))).trans hz5.2.2 (fun x hx=>.inr (by simp at hx;omega));have hB5':Blk (w5.setCell ⟨w.heap.size,1,none⟩ (.int .i64 (8:Nat))) w.heap.size 258 #[.int .i64 B,.int .i64 8,.int .i64 0,.int .i64 0,.int .i64 0]:=hz5.2.1;have hR5':=hz5.1;obtain⟨y0,y1,y2,y3,y4⟩:=YD hB5')
 clear q5 x0 x1 x2 x3 x4 hR4' hB4' hK4' hR5 hB5 hz5 y0 y1 y2 y3 y4;have hT:=XAU (k:=1) (n:=24) [(1,75),(1,83),(1,B),(1,8)] [(4,id),(4,mount)] hR5' (JA HBS) rfl (by omega) (by omega)
 go_wp2_with (
  (refine hT.mono ?_)
  clear hT;rintro e w6 ⟨rfl,hR6,hk6⟩;have hB6:=Yj hR5' hk6 (by simp) hbase hB5';have q6:=hB6.frozen 2;obtain⟨x0,x1,x2,x3,x4⟩:=YD hB6;have hlt6:=hB6.lt;have hz6:=JT 2 (.int .i64 (24:Nat)) hR6 hbase hB6;have hK6':=(hK5'.trans hk6 (fun x hx=>.inr (by have:=hR5'.fresh x (by simp at hx;simp[hx]);omega))).trans hz6.2.2 (fun x hx=>.inr (by simp at hx;omega));have hB6':Blk (w6.setCell ⟨w.heap.size,2,none⟩ (.int .i64 (24:Nat))) w.heap.size 258 #[.int .i64 B,.int .i64 8,.int .i64 24,.int .i64 0,.int .i64 0]:=hz6.2.1;have hR6':=hz6.1;obtain⟨y0,y1,y2,y3,y4⟩:=YD hB6')
 clear q6 x0 x1 x2 x3 x4 hR5' hB5' hK5' hR6 hB6 hz6 y0 y1 y2 y3 y4;have hT:=XAU (k:=4) (n:=id) [(1,75),(1,83),(1,B),(1,8),(1,24)] [(4,mount)] hR6' (JA HBS) rfl (by omega) (by omega)
 go_wp2_with (
  (refine hT.mono ?_)
  clear hT;rintro e w7 ⟨rfl,hR7,hk7⟩;have hB7:=Yj hR6' hk7 (by simp) hbase hB6';have q7:=hB7.frozen 3;obtain⟨x0,x1,x2,x3,x4⟩:=YD hB7;have hlt7:=hB7.lt;have hz7:=JT 3 (.int .i64 (id:Nat)) hR7 hbase hB7;have hK7':=(hK6'.trans hk7 (fun x hx=>.inr (by have:=hR6'.fresh x (by simp at hx;simp[hx]);omega))).trans hz7.2.2 (fun x hx=>.inr (by simp at hx;omega));have hB7':Blk (w7.setCell ⟨w.heap.size,3,none⟩ (.int .i64 (id:Nat))) w.heap.size 258 #[.int .i64 B,.int .i64 8,.int .i64 24,.int .i64 id,.int .i64 0]:=hz7.2.1;have hR7':=hz7.1;obtain⟨y0,y1,y2,y3,y4⟩:=YD hB7')
 clear q7 x0 x1 x2 x3 x4 hR6' hB6' hK6' hR7 hB7 hz7 y0 y1 y2 y3 y4;have hT:=XAU (k:=4) (n:=mount) [(1,75),(1,83),(1,B),(1,8),(1,24),(4,id)] [] hR7' (JA HBS) rfl (by omega) (by omega)
 go_wp2_with (
  (refine hT.mono ?_)
  clear hT;rintro e w8 ⟨rfl,hR8,hk8⟩;have hB8:=Yj hR7' hk8 (by simp) hbase hB7';have q8:=hB8.frozen 4;obtain⟨x0,x1,x2,x3,x4⟩:=YD hB8;have hlt8:=hB8.lt;have hz8:=JT 4 (.int .i64 (mount:Nat)) hR8 hbase hB8;have hK8':=(hK7'.trans hk8 (fun x hx=>.inr (by have:=hR7'.fresh x (by simp at hx;simp[hx]);omega))).trans hz8.2.2 (fun x hx=>.inr (by simp at hx;omega));have hB8':Blk (w8.setCell ⟨w.heap.size,4,none⟩ (.int .i64 (mount:Nat))) w.heap.size 258 #[.int .i64 B,.int .i64 8,.int .i64 24,.int .i64 id,.int .i64 mount]:=hz8.2.1;have hR8':=hz8.1;obtain⟨y0,y1,y2,y3,y4⟩:=YD hB8')
 clear q8 x0 x1 x2 x3 x4 hR7' hB7' hK7' hR8 hB8 hz8
 go_wp2_with (
  (refine(hE _).mono ?_)
  clear hE;rintro e w9 ⟨u,rfl,hu,hk9⟩;obtain⟨UA,uc,rfl,_⟩:=JB hu;have hK9:=hK8'.trans0 hk9;have hB9:=hB8'.keep0 hk9;obtain⟨x0,x1,x2,x3,x4⟩:=YD hB9;have f0:=hB9.frozen 0;have f1:=hB9.frozen 1;have f2:=hB9.frozen 2;have f3:=hB9.frozen 3;have f4:=hB9.frozen 4;have hlt9:=hB9.lt;have hEq:=KL UA A 64 64 uc c bs bs w9 (Rd.of_own hu) (ha.keep hK9))
 go_wp2_with (refine hEq.mono ?_;clear hEq;rintro e w' ⟨rfl,rfl⟩)
 have z0:=JT 0 (.int .i64 (B:Nat)) (hR8'.keep0 hk9) hbase hB9;have z1:=JT 1 (.int .i64 (8:Nat)) z0.1 hbase z0.2.1;have z2:=JT 2 (.int .i64 (24:Nat)) z1.1 hbase z1.2.1;have z3:=JT 3 (.int .i64 (id:Nat)) z2.1 hbase z2.2.1;have z4:=JT 4 (.int .i64 (mount:Nat)) z3.1 hbase z3.2.1;have hK:=(((((hK8'.trans0 hk9).trans z0.2.2 (fun x hx=>.inr (by simp at hx;omega))).trans z1.2.2 (fun x hx=>.inr (by simp at hx;omega))).trans z2.2.2 (fun x hx=>.inr (by simp at hx;omega))).trans z3.2.2 (fun x hx=>.inr (by simp at hx;omega))).trans z4.2.2 (fun x hx=>.inr (by simp at hx;omega));have y0:=z0.2.1.cell 0;have y1:=z1.2.1.cell 1;have y2:=z2.2.1.cell 2;have y3:=z3.2.1.cell 3;have y4:=z4.2.1.cell 4;simp at y0 y1 y2 y3 y4;refine bodyPost_ret (v:=.tuple #[.agg #[.int .i64 B,.int .i64 8,.int .i64 24,.int .i64 id,.int .i64 mount],.int .i64 0]) (by simp[results,Tryz.results258,go_sem,y0,y1,y2,y3,y4]) rfl ?_;exact⟨rfl,hK⟩
end
section
open Go.RowKit
theorem VAm (B id mount:Nat) (h1:1≤B) (h2:B≤64) (h3:id≤2147483647) (h4:1≤mount∧mount≤2147483647) (A A':Option Addr) (c d:Nat) (w:World) (ha:Rd w A 64 (bys (List.replicate 64 0))) (hb:Rd w A' 64 (bys (QAG B id mount))) :
 Calls Tryz.prog 173 #[.slice A 64 c,.slice A' 64 d] w fun e w'=>e=.returned (.tuple #[.agg #[.int .i64 B,.int .i64 8,.int .i64 24,.int .i64 id,.int .i64 mount],.int .i64 1,.int .i64 0])∧Keep [] w w':=by
 have hD:=fun W (hk:Keep [] w W)=>Ke A c W (ha.keep hk);have hE:=fun W (hk:Keep [] w W)=>JAx B id mount h1 h2 h3 h4 A' d W (hb.keep hk);have hBk:=Blk.new w 258 #[.int .i64 0,.int .i64 0,.int .i64 0,.int .i64 0,.int .i64 0]
 go_enter Tryz.func173,Tryz.ntmps173
 go_wp2_with (
  (refine(hD _ ((Keep.refl _ _).alloc _)).mono ?_)
  clear hD;rintro e w2 ⟨rfl,hk2⟩)
 have hk12:Keep [] w w2:=((Keep.refl _ _).alloc _).trans0 hk2;have hE':=hE _ (hk12.alloc (.cells #[.int .i64 0,.int .i64 0,.int .i64 0,.int .i64 0,.int .i64 0] 258));clear hE;have hBx:=hBk.keep0 hk2
 go_wp2_with (
  (refine hE'.mono ?_)
  clear hE';rintro e w3 ⟨rfl,hk3⟩;have hB3:=(hBx.keep0 ((Keep.refl _ _).alloc (.cells #[.int .i64 0,.int .i64 0,.int .i64 0,.int .i64 0,.int .i64 0] 258))).keep0 hk3;have hB4:=hB3.keep0 ((Keep.refl _ _).alloc (.cells #[.int .i64 B,.int .i64 8,.int .i64 24,.int .i64 id,.int .i64 mount] 258));have hY4:=Blk.new w3 258 #[.int .i64 B,.int .i64 8,.int .i64 24,.int .i64 id,.int .i64 mount];obtain⟨y0,y1,y2,y3,y4⟩:=YD hY4;have hltY:=hY4.lt;obtain⟨x0,x1,x2,x3,x4⟩:=YD hB4;have f0:=hB4.frozen 0;have f1:=hB4.frozen 1;have f2:=hB4.frozen 2;have f3:=hB4.frozen 3;have f4:=hB4.frozen 4;have hlt4:=hB4.lt)
 have hst:=fun {W:World} {cs:Array Value} (j:Nat) (x:Value) (h:Blk W w.heap.size 258 cs)=>(⟨h.set j x,(Keep.refl [w.heap.size] W).setCell (p:=⟨w.heap.size,j,none⟩) (.inl (by simp)) _⟩:Blk (W.setCell ⟨w.heap.size,j,none⟩ x) w.heap.size 258 (cs.setIfInBounds j x)∧Keep [w.heap.size] W (W.setCell ⟨w.heap.size,j,none⟩ x));have z0:=hst 0 (.int .i64 (B:Nat)) hB4;have z1:=hst 1 (.int .i64 8) z0.1;have z2:=hst 2 (.int .i64 24) z1.1;have z3:=hst 3 (.int .i64 (id:Nat)) z2.1;have z4:=hst 4 (.int .i64 (mount:Nat)) z3.1;have hK:=((((((((hk12.alloc _).trans0 hk3).alloc _)).trans z0.2 (fun x hx=>.inr (by simp at hx;omega))).trans z1.2 (fun x hx=>.inr (by simp at hx;omega))).trans z2.2 (fun x hx=>.inr (by simp at hx;omega))).trans z3.2 (fun x hx=>.inr (by simp at hx;omega))).trans z4.2 (fun x hx=>.inr (by simp at hx;omega));have u0:=z0.1.cell 0;have u1:=z1.1.cell 1;have u2:=z2.1.cell 2;have u3:=z3.1.cell 3;have u4:=z4.1.cell 4;simp at u0 u1 u2 u3 u4;refine bodyPost_ret (v:=.tuple #[.agg #[.int .i64 B,.int .i64 8,.int .i64 24,.int .i64 id,.int .i64 mount],.int .i64 1,.int .i64 0]) (by simp[results,Tryz.results173,go_sem,u0,u1,u2,u3,u4]) rfl ?_;exact⟨rfl,hK⟩
end
section
open Go.RowKit
structure POp where
 k:Int
 b:Int
 c:Int
 e:Int
 d:List UInt8
def opc (p:Value×POp):List Value:=[.int .i64 p.2.k,.int .i64 p.2.b,.int .i64 p.2.c,.int .i64 p.2.e,p.1]
@[simp] theorem length_opc (p:Value×POp):(opc p).length=5:=rfl
theorem Xj (os:List (Value×POp)):(os.flatMap opc).length=os.length*5:=by
 induction os with
 | nil=>rfl
 | cons p os ih=>rw[List.flatMap_cons,List.length_append,ih,length_opc,List.length_cons,Nat.succ_mul];omega
theorem ZAA (os:List (Value×POp)) (k:Nat):(os.flatMap opc).drop (k*5)=(os.drop k).flatMap opc:=by
 induction k generalizing os with
 | zero=>simp
 | succ k ih=>
   cases os with
   | nil=>simp
   | cons p os=>rw[List.flatMap_cons,List.drop_succ_cons,← ih,Nat.succ_mul,List.drop_append,List.drop_of_length_le (by simp)];simp
theorem JAK (os:List (Value×POp)) (i j:Nat) (hi:i<os.length) (hj:j<5):(os.flatMap opc)[i*5+j]? = (opc os[i])[j]? := by
 have h1:=ZAA os i;have h2:((os.flatMap opc).drop (i*5))[j]? = (os.flatMap opc)[i*5+j]? := List.getElem?_drop;rw[← h2,h1,List.drop_eq_getElem_cons hi,List.flatMap_cons,List.getElem?_append_left (by simpa using hj)]
theorem VAt (p:Value×POp) (h:p.1.oneCell'=true):∀ u∈opc p,u.oneCell'=true:=by
 intro u hu;simp only[opc,List.mem_cons,List.not_mem_nil,or_false] at hu;rcases hu with rfl | rfl | rfl | rfl | rfl <;> first | rfl | exact h
def OpsRd (w:World) (A:Option Addr) (n:Nat) (os:List (Value×POp)):Prop:=Rd w A (n*5) (os.flatMap opc)∧os.length=n
theorem OpsRd.at_ {w:World} {A:Option Addr} {n:Nat} {os:List (Value×POp)} (h:OpsRd w A n os) {i:Nat} (hi:i<n) (hl:i<os.length) :
 ∃ b o,A=some ⟨b,o,none⟩∧b<w.heap.size∧w.cell? ⟨b,o+i*5,none⟩=some (.int .i64 os[i].2.k)∧w.cell? ⟨b,o+i*5+1,none⟩=some (.int .i64 os[i].2.b)∧w.cell? ⟨b,o+i*5+2,none⟩=some (.int .i64 os[i].2.c) ∧
   w.cell? ⟨b,o+i*5+3,none⟩=some (.int .i64 os[i].2.e)∧w.cell? ⟨b,o+i*5+4,none⟩=some os[i].1:=by
 obtain⟨b,o,rfl,hb,hc⟩:=h.1.2 (by omega);have hg:=fun j hj=>JAK os i j hl hj;refine⟨b,o,rfl,hb,?_,?_,?_,?_,?_⟩
 · have:=hc (i*5+0) _ ((hg 0 (by omega)).trans rfl);simpa [Nat.add_assoc] using this
 · have:=hc (i*5+1) _ ((hg 1 (by omega)).trans rfl);simpa [Nat.add_assoc] using this
 · have:=hc (i*5+2) _ ((hg 2 (by omega)).trans rfl);simpa [Nat.add_assoc] using this
 · have:=hc (i*5+3) _ ((hg 3 (by omega)).trans rfl);simpa [Nat.add_assoc] using this
 · have:=hc (i*5+4) _ ((hg 4 (by omega)).trans rfl);simpa [Nat.add_assoc] using this
theorem OpsRd.keepIf {w w':World} {A:Option Addr} {n:Nat} {os:List (Value×POp)} {l:List Nat} (h:OpsRd w A n os) (hk:Keep l w w') (hg:∀ a,A=some a→a.block∉l):OpsRd w' A n os:=⟨h.1.keepIf hk hg,h.2⟩
theorem OpsRd.keep {w w':World} {A:Option Addr} {n:Nat} {os:List (Value×POp)} (h:OpsRd w A n os) (hk:Keep [] w w'):OpsRd w' A n os:=⟨h.1.keep hk,h.2⟩
theorem OpsRd.of_own {w:World} {A:Option Addr} {n c base:Nat} {os:List (Value×POp)} (h:w.ownsRow base 137 5 (.slice A n c) n (os.flatMap opc)) (hl:os.length=n):OpsRd w A n os:=⟨Rd.of_ownN h,hl⟩
end
section
open Go.RowKit
structure PSlot where
 v:Value
 o:POp
 is:Bool
def POp.zero:POp:=⟨0,0,0,0,[]⟩
def PSlot.none_:PSlot:=⟨.slice none 0 0,POp.zero,false⟩
def slc (q:PSlot):List Value:=[.int .i64 q.o.k,.int .i64 q.o.b,.int .i64 q.o.c,.int .i64 q.o.e,q.v,.bool q.is]
theorem YL (q:PSlot):(slc q).length=6:=rfl
structure WinIs (w:World) (base x:Nat) (L:Value) (F:List Nat) (next:Nat) (sl:List PSlot):Prop where
 blk:Blk w x 324 #[L,.int .i64 next]
 row:w.ownsRow base 326 6 L sl.length (sl.flatMap slc)
 dat:∀ q∈sl,w.ownsRow base 5 1 q.v q.o.d.length (bys q.o.d)
 foot:F=x :: (L.ownBlock.toList++sl.flatMap (fun q=>q.v.ownBlock.toList))
 base:base≤x
 pos:1≤sl.length
 few:sl.length≤16
 zero:∀ q∈sl,q.is=false→q=PSlot.none_
 nb:1≤next∧next≤2000000000
def WinAt (w:World) (base x:Nat) (F:List Nat) (next:Nat) (sl:List PSlot):Prop:=∃ L,WinIs w base x L F next sl
namespace WinIs
variable {w w':World} {base x:Nat} {L:Value} {F l:List Nat} {next:Nat} {sl:List PSlot}
theorem mem (h:WinIs w base x L F next sl) {y:Nat} (hy:y∈F):y=x∨y∈L.ownBlock.toList∨∃ q∈sl,y∈q.v.ownBlock.toList:=by
 rw[h.foot] at hy;simpa only[List.mem_cons,List.mem_append,List.mem_flatMap] using hy
theorem inX (h:WinIs w base x L F next sl):x∈F:=by rw[h.foot];simp
theorem inL (h:WinIs w base x L F next sl):∀ y∈L.ownBlock.toList,y∈F:=fun y hy=>by rw[h.foot];exact List.mem_cons_of_mem _ (List.mem_append_left _ hy)
theorem inQ (h:WinIs w base x L F next sl) {q:PSlot} (hq:q∈sl):∀ y∈q.v.ownBlock.toList,y∈F:=fun y hy=>by
 rw[h.foot];exact List.mem_cons_of_mem _ (List.mem_append_right _ (List.mem_flatMap.2 ⟨q,hq,hy⟩))
theorem keep (h:WinIs w base x L F next sl) (hk:Keep l w w') (ha:Apart F l):WinIs w' base x L F next sl:=
 ⟨h.blk.keep hk (ha _ h.inX),XB h.row hk fun y hy=>ha _ (h.inL y (by simpa using hy)),fun q hq=>XB (h.dat q hq) hk fun y hy=>ha _ (h.inQ hq y (by simpa using hy)),h.foot,h.base,h.pos,h.few,h.zero,h.nb⟩
theorem keep0 (h:WinIs w base x L F next sl) (hk:Keep [] w w'):WinIs w' base x L F next sl:=h.keep hk Apart.nil_right
theorem lt (h:WinIs w base x L F next sl):∀ y∈F,y<w.heap.size:=by
 intro y hy;rcases h.mem hy with rfl | hy | ⟨q,hq,hy⟩
 · exact h.blk.lt
 · exact(own_mem h.row hy).2
 · exact(own_mem (h.dat q hq) hy).2
theorem ge (h:WinIs w base x L F next sl):∀ y∈F,base≤y:=by
 intro y hy;rcases h.mem hy with rfl | hy | ⟨q,hq,hy⟩
 · exact h.base
 · exact(own_mem h.row hy).1
 · exact(own_mem (h.dat q hq) hy).1
theorem form (h:WinIs w base x L F next sl):∃ g c,L=.slice (some ⟨g,0,none⟩) sl.length c∧sl.length≤c:=by
 obtain⟨g,c,e,hc,_⟩:=QD h.row (by have:=h.pos;omega);exact⟨g,c,e,hc⟩
theorem cells (h:WinIs w base x L F next sl):w.cell? ⟨x,0,none⟩=some L∧w.cell? ⟨x,1,none⟩=some (.int .i64 next):=⟨by simpa using h.blk.cell 0,by simpa using h.blk.cell 1⟩
end WinIs
namespace WinAt
variable {w w':World} {base x:Nat} {F l:List Nat} {next:Nat} {sl:List PSlot}
theorem keep (h:WinAt w base x F next sl) (hk:Keep l w w') (ha:Apart F l):WinAt w' base x F next sl:=by obtain⟨L,h⟩:=h;exact⟨L,h.keep hk ha⟩
theorem keep0 (h:WinAt w base x F next sl) (hk:Keep [] w w'):WinAt w' base x F next sl:=h.keep hk Apart.nil_right
theorem lt (h:WinAt w base x F next sl):∀ y∈F,y<w.heap.size:=by obtain⟨L,h⟩:=h;exact h.lt
theorem ge (h:WinAt w base x F next sl):∀ y∈F,base≤y:=by obtain⟨L,h⟩:=h;exact h.ge
end WinAt
end
section
open Go.RowKit
theorem QAN (n lo hi:Int) (w:World) (h:n<lo):Calls Tryz.prog 380 #[.int .i64 n,.int .i64 lo,.int .i64 hi] w fun e w'=>e=.returned (.bool false)∧w=w':=by
 have h1:¬ lo≤n:=by omega
 go_enter Tryz.func380,Tryz.ntmps380
 go_wp2
 go_ret;exact⟨rfl,rfl⟩
theorem KAs (w:World) :
 Calls Tryz.prog 338 #[.agg #[.int .i64 0,.int .i64 0,.int .i64 0,.int .i64 0]] w fun e w'=>e=.returned (.bool false)∧Keep [] w w':=by
 have hT1:=fun W=>VR 0 0 31 W ⟨by omega,by omega⟩;have hT2:=fun W=>QAN 0 1 2147483647 W (by omega)
 go_enter Tryz.func338,Tryz.ntmps338
 go_wp2_with (first | (refine(hT1 _).mono ?_;clear hT1;rintro e w' ⟨rfl,rfl⟩) | (refine(hT2 _).mono ?_;clear hT2;rintro e w' ⟨rfl,rfl⟩))
 go_ret;exact⟨rfl,(Keep.refl _ _).alloc _⟩
theorem VAl (w:World) :
 Calls Tryz.prog 284 #[.agg #[.int .i64 0,.int .i64 0,.int .i64 0,.int .i64 0]] w fun e w'=>e=.returned (.tuple #[.slice none 0 0,.int .i64 1])∧Keep [] w w':=by
 have hM:=fun W=>KAs W
 go_enter Tryz.func284,Tryz.ntmps284
 go_wp2_with (
  (refine(hM _).mono ?_)
  clear hM;rintro e w2 ⟨rfl,hk2⟩)
 go_ret2;exact⟨rfl,((Keep.refl _ _).alloc _).trans0 hk2⟩
theorem JAF (A:Option Addr) (c:Nat) (w:World) (ha:Rd w A 64 (bys (List.replicate 64 0))) :
 Calls Tryz.prog 386 #[.slice A 64 c] w fun e w'=>e=.returned (.tuple #[.agg #[.int .i64 0,.int .i64 0,.int .i64 0,.int .i64 0],.int .i64 2])∧Keep [] w w':=by
 obtain⟨bs,hbe⟩:∃ bs:List UInt8,bs=List.replicate 64 0:=⟨_,rfl⟩;have hlen:bs.length=64:=by rw[hbe];rfl
 obtain⟨t,hbs⟩:∃ t,bs=fields [(1,0),(1,0),(1,0),(4,0),(4,0),(4,0)]++t:=⟨List.replicate 49 0,by rw[hbe];rfl⟩;have hE:=fun W=>VAl W;rw[← hbe] at ha;clear hbe;have hF:=fun W (hk:Keep [] w W)=>ZX A 64 c bs W (ha.keep hk) (by omega);have hBk:=Blk.new w 376 #[.int .i64 0,.int .i64 0,.int .i64 0,.int .i64 0];have HLEN:=XC hlen;have HBS:=XC hbs;clear hlen hbs
 go_enter Tryz.func386,Tryz.ntmps386
 go_wp2_with (
  (refine(hF _ ((Keep.refl _ _).alloc _)).mono ?_)
  clear hF;rintro e w2 ⟨r,v,rfl,hR,hk2⟩;have hB2:=hBk.keep0 hk2;clear hBk)
 have hkw:Keep [] w w2:=((Keep.refl _ _).alloc _).trans0 hk2;have hbase:w.heap.size<(w.alloc (.cells #[.int .i64 0,.int .i64 0,.int .i64 0,.int .i64 0] 376)).heap.size:=by simp
 generalize (w.alloc (.cells #[.int .i64 0,.int .i64 0,.int .i64 0,.int .i64 0] 376)).heap.size=base at *;have hT:=JX w2 _ r 0 2 v _ hR (by rw[JA HLEN];omega)
 go_wp2_with (
  (refine hT.mono ?_)
  clear hT;rintro e w3 ⟨ut,rfl,-,hR3,hk3⟩)
 have hB3:=Yj hR hk3 (by simp) hbase hB2;have hK3:Keep [] w w3:=hkw.trans hk3 (fun x hx=>.inr (by have:=hR.fresh x (by simp at hx;simp[hx]);omega));clear hR hB2 hkw hk2 hk3;have hT:=XAU (k:=1) (n:=0) [(1,0),(1,0)] [(4,0),(4,0),(4,0)] hR3 (JA HBS) rfl (by omega) (by omega)
 go_wp2_with (
  (refine hT.mono ?_)
  clear hT;rintro e w4 ⟨rfl,hR4,hk4⟩;have hB4:=Yj hR3 hk4 (by simp) hbase hB3;have q4:=hB4.frozen 0;obtain⟨x0,x1,x2,x3⟩:=YF hB4;have hlt4:=hB4.lt;have hz4:=JT 0 (.int .i64 (0:Nat)) hR4 hbase hB4;have hK4':=(hK3.trans hk4 (fun x hx=>.inr (by have:=hR3.fresh x (by simp at hx;simp[hx]);omega))).trans hz4.2.2 (fun x hx=>.inr (by simp at hx;omega));have hB4':Blk (w4.setCell ⟨w.heap.size,0,none⟩ (.int .i64 (0:Nat))) w.heap.size 376 #[.int .i64 0,.int .i64 0,.int .i64 0,.int .i64 0]:=hz4.2.1;have hR4':=hz4.1;obtain⟨y0,y1,y2,y3⟩:=YF hB4')
 clear q4 x0 x1 x2 x3 hR3 hB3 hK3 hR4 hB4 hz4 y0 y1 y2 y3;have hT:=XAU (k:=4) (n:=0) [(1,0),(1,0),(1,0)] [(4,0),(4,0)] hR4' (JA HBS) rfl (by omega) (by omega)
 go_wp2_with (
  (refine hT.mono ?_)
  clear hT;rintro e w5 ⟨rfl,hR5,hk5⟩;have hB5:=Yj hR4' hk5 (by simp) hbase hB4';have q5:=hB5.frozen 1;obtain⟨x0,x1,x2,x3⟩:=YF hB5;have hlt5:=hB5.lt;have hz5:=JT 1 (.int .i64 (0:Nat)) hR5 hbase hB5;have hK5':=(hK4'.trans hk5 (fun x hx=>.inr (by have:=hR4'.fresh x (by simp at hx;simp[hx]);omega))).trans hz5.2.2 (fun x hx=>.inr (by simp at hx;omega));have hB5':Blk (w5.setCell ⟨w.heap.size,1,none⟩ (.int .i64 (0:Nat))) w.heap.size 376 #[.int .i64 0,.int .i64 0,.int .i64 0,.int .i64 0]:=hz5.2.1;have hR5':=hz5.1;obtain⟨y0,y1,y2,y3⟩:=YF hB5')
 clear q5 x0 x1 x2 x3 hR4' hB4' hK4' hR5 hB5 hz5 y0 y1 y2 y3;have hT:=XAU (k:=4) (n:=0) [(1,0),(1,0),(1,0),(4,0)] [(4,0)] hR5' (JA HBS) rfl (by omega) (by omega)
 go_wp2_with (
  (refine hT.mono ?_)
  clear hT;rintro e w6 ⟨rfl,hR6,hk6⟩;have hB6:=Yj hR5' hk6 (by simp) hbase hB5';have q6:=hB6.frozen 2;obtain⟨x0,x1,x2,x3⟩:=YF hB6;have hlt6:=hB6.lt;have hz6:=JT 2 (.int .i64 (0:Nat)) hR6 hbase hB6;have hK6':=(hK5'.trans hk6 (fun x hx=>.inr (by have:=hR5'.fresh x (by simp at hx;simp[hx]);omega))).trans hz6.2.2 (fun x hx=>.inr (by simp at hx;omega));have hB6':Blk (w6.setCell ⟨w.heap.size,2,none⟩ (.int .i64 (0:Nat))) w.heap.size 376 #[.int .i64 0,.int .i64 0,.int .i64 0,.int .i64 0]:=hz6.2.1;have hR6':=hz6.1;obtain⟨y0,y1,y2,y3⟩:=YF hB6')
 clear q6 x0 x1 x2 x3 hR5' hB5' hK5' hR6 hB6 hz6 y0 y1 y2 y3;have hT:=XAU (k:=4) (n:=0) [(1,0),(1,0),(1,0),(4,0),(4,0)] [] hR6' (JA HBS) rfl (by omega) (by omega)
 go_wp2_with (
  (refine hT.mono ?_)
  clear hT;rintro e w7 ⟨rfl,hR7,hk7⟩;have hB7:=Yj hR6' hk7 (by simp) hbase hB6';have q7:=hB7.frozen 3;obtain⟨x0,x1,x2,x3⟩:=YF hB7;have hlt7:=hB7.lt;have hz7:=JT 3 (.int .i64 (0:Nat)) hR7 hbase hB7;have hK7':=(hK6'.trans hk7 (fun x hx=>.inr (by have:=hR6'.fresh x (by simp at hx;simp[hx]);omega))).trans hz7.2.2 (fun x hx=>.inr (by simp at hx;omega));have hB7':Blk (w7.setCell ⟨w.heap.size,3,none⟩ (.int .i64 (0:Nat))) w.heap.size 376 #[.int .i64 0,.int .i64 0,.int .i64 0,.int .i64 0]:=hz7.2.1;have hR7':=hz7.1;obtain⟨y0,y1,y2,y3⟩:=YF hB7')
 clear q7 x0 x1 x2 x3 hR6' hB6' hK6' hR7 hB7 hz7
 go_wp2_with (
  (refine(hE _).mono ?_)
  clear hE;rintro e w9 ⟨rfl,hk9⟩;have hK9:=hK7'.trans0 hk9;have hB9:=hB7'.keep0 hk9;obtain⟨x0,x1,x2,x3⟩:=YF hB9;have f0:=hB9.frozen 0;have f1:=hB9.frozen 1;have f2:=hB9.frozen 2;have f3:=hB9.frozen 3;have hlt9:=hB9.lt)
 have z0:=JT 0 (.int .i64 0) (hR7'.keep0 hk9) hbase hB9;have z1:=JT 1 (.int .i64 0) z0.1 hbase z0.2.1;have z2:=JT 2 (.int .i64 0) z1.1 hbase z1.2.1;have z3:=JT 3 (.int .i64 0) z2.1 hbase z2.2.1;have hK:=(((hK9.trans z0.2.2 (fun x hx=>.inr (by simp at hx;omega))).trans z1.2.2 (fun x hx=>.inr (by simp at hx;omega))).trans z2.2.2 (fun x hx=>.inr (by simp at hx;omega))).trans z3.2.2 (fun x hx=>.inr (by simp at hx;omega));have y0:=z0.2.1.cell 0;have y1:=z1.2.1.cell 1;have y2:=z2.2.1.cell 2;have y3:=z3.2.1.cell 3;simp at y0 y1 y2 y3;refine bodyPost_ret (v:=.tuple #[.agg #[.int .i64 0,.int .i64 0,.int .i64 0,.int .i64 0],.int .i64 2]) (by simp[results,Tryz.results386,go_sem,y0,y1,y2,y3]) rfl ?_;exact⟨rfl,hK⟩
end
section
open Go.RowKit
def put5 (w:World) (g:Nat) (x0 x1 x2 x3 x4:Value):World:=
 ((((w.setCell ⟨g,0,none⟩ x0).setCell ⟨g,1,none⟩ x1).setCell ⟨g,2,none⟩ x2).setCell ⟨g,3,none⟩ x3).setCell ⟨g,4,none⟩ x4
theorem Blk.put5 {w:World} {g:Nat} {t:TypeId} {y0 y1 y2 y3 y4:Value} (h:Blk w g t #[y0,y1,y2,y3,y4]) (x0 x1 x2 x3 x4:Value):Blk (Go.Proofs.YtkonbpfbjiepfaaGreat.put5 w g x0 x1 x2 x3 x4) g t #[x0,x1,x2,x3,x4]:=by
 have:=((((h.set 0 x0).set 1 x1).set 2 x2).set 3 x3).set 4 x4;simpa [Go.Proofs.YtkonbpfbjiepfaaGreat.put5] using this
theorem Keep.put5 (w:World) (g:Nat) (x0 x1 x2 x3 x4:Value):Keep [g] w (Go.Proofs.YtkonbpfbjiepfaaGreat.put5 w g x0 x1 x2 x3 x4):=
 ((((((Keep.refl [g] w).setCell (p:=⟨g,0,none⟩) (.inl (by simp)) _).setCell (p:=⟨g,1,none⟩) (.inl (by simp)) _).setCell (p:=⟨g,2,none⟩) (.inl (by simp)) _).setCell (p:=⟨g,3,none⟩) (.inl (by simp)) _).setCell (p:=⟨g,4,none⟩) (.inl (by simp)) _)
end
end Go.Proofs.YtkonbpfbjiepfaaGreat
