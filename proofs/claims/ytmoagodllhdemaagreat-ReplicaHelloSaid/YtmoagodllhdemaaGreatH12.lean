/-
  A part of the proof: lemmas, and contracts of functions; their conditions stand in them.
-/
import Derived.Test.YtmoagodllhdemaaGreatH11
import Derived.Test.YtmoagodllhdemaaGreatH10
import Derived.Test.YtmoagodllhdemaaGreatH01
import Derived.Test.YtmoagodllhdemaaGreatH02
namespace Go.Proofs.YtmoagodllhdemaaGreat
set_option linter.unusedSimpArgs false
set_option linter.unusedVariables false
set_option maxHeartbeats 2000000
set_option maxRecDepth 20000
section
open Go.RowKit
theorem YAf (w:World):Calls Tryz.prog 101 #[.agg #[.int .i64 0,.int .i64 0,.int .i64 0]] w fun e w'=>e = .returned (.tuple #[.pointer none,.int .i64 1])∧Keep [] w w':=by
 have hT1:=fun W=>KH 0 1 64 W
 rw [decide_eq_false (by omega)] at hT1
 go_enter Tryz.func101,Tryz.ntmps101
 go_wp2_with (first | (refine (hT1 _).mono ?_;clear hT1;rintro e w' ⟨rfl,rfl⟩))
 go_ret2
 exact ⟨rfl,(Keep.refl _ _).alloc _⟩
theorem JK {w:World} {g:Nat} {t:TypeId} {x0 x1 x2 x3 x4:Value} (h:Blk w g t #[x0,x1,x2,x3,x4]) :
 w.cell? ⟨g,0,none⟩=some x0∧w.cell? ⟨g,1,none⟩=some x1∧w.cell? ⟨g,2,none⟩=some x2∧w.cell? ⟨g,3,none⟩=some x3∧w.cell? ⟨g,4,none⟩=some x4:=
 ⟨by simpa using h.cell 0,by simpa using h.cell 1,by simpa using h.cell 2,by simpa using h.cell 3,by simpa using h.cell 4⟩
theorem VAQ (B id mount:Nat) (h1:1≤B) (h2:B≤64) (h3:id≤2147483647) (h4:1≤mount∧mount≤2147483647) (w:World) :
 Calls Tryz.prog 240 #[.agg #[.int .i64 B,.int .i64 8,.int .i64 24,.int .i64 id,.int .i64 mount]] w fun e w'=>e = .returned (.bool true)∧Keep [] w w':=by
 have hG:=fun W=>VAD W B h1 h2
 have hBk:=Blk.new w 242 #[.int .i64 B,.int .i64 8,.int .i64 24,.int .i64 id,.int .i64 mount]
 obtain ⟨h5,h6⟩:=h4
 have i1:((id:Nat):Int)≤2147483647:=by omega
 have i2:(1:Int)≤(mount:Nat):=by omega
 have i3:((mount:Nat):Int)≤2147483647:=by omega
 go_enter Tryz.func240,Tryz.ntmps240
 go_wp2_with (
  (refine (hG _).mono ?_)
  clear hG
  rintro e w2 ⟨g,rfl,-,-,hk2⟩
  have hB2:=hBk.keep0 hk2
  obtain ⟨c0,c1,c2,c3,c4⟩:=JK hB2
  have hlt:=hB2.lt
  clear hBk hB2)
 go_ret
 exact ⟨rfl,((Keep.refl _ _).alloc _).trans0 hk2⟩
theorem KAZ (w:World) :
 Calls Tryz.prog 240 #[.agg #[.int .i64 0,.int .i64 0,.int .i64 0,.int .i64 0,.int .i64 0]] w fun e w'=>e = .returned (.bool false)∧Keep [] w w':=by
 have hG:=fun W=>YAf W
 go_enter Tryz.func240,Tryz.ntmps240
 go_wp2_with (
  (refine (hG _).mono ?_)
  clear hG
  rintro e w2 ⟨rfl,hk2⟩)
 go_ret
 exact ⟨rfl,((Keep.refl _ _).alloc _).trans0 hk2⟩
theorem JBA (B id mount:Nat) (h1:1≤B) (h2:B≤64) (h3:id≤2147483647) (h4:1≤mount∧mount≤2147483647) (w:World) :
 Calls Tryz.prog 169 #[.agg #[.int .i64 B,.int .i64 8,.int .i64 24,.int .i64 id,.int .i64 mount]] w fun e w'=>∃ u bs,e = .returned (.tuple #[u,.int .i64 0])∧bs.length=64∧w'.ownsRow w.heap.size 5 1 u 64 (bys bs)∧Keep [] w w':=by
 have hM:=fun W=>VAQ B id mount h1 h2 h3 h4 W
 have hBk:=Blk.new w 242 #[.int .i64 B,.int .i64 8,.int .i64 24,.int .i64 id,.int .i64 mount]
 go_enter Tryz.func169,Tryz.ntmps169
 go_wp2_with (
  (refine (hM _).mono ?_)
  clear hM
  rintro e w2 ⟨rfl,hk2⟩
  have hB2:=hBk.keep0 hk2
  clear hBk)
 have hkw:Keep [] w w2:=((Keep.refl _ _).alloc _).trans0 hk2
 have hN:=QBD 64 (by omega) w2
 go_wp2_with (
  (refine hN.mono ?_)
  clear hN
  rintro e w4 ⟨r,rv,rfl,hR,hK4⟩
  have hB4:=hB2.keep0 hK4
  obtain ⟨c0,c1,c2,c3,c4⟩:=JK hB4
  have hlt:=hB4.lt)
 have hP:=Jv (k:=1) hR (by omega) [75,83,B,8,24] (by simp;omega) (by simp) (by simp) #[.int .i64 75,.int .i64 83,.int .i64 B,.int .i64 8,.int .i64 24] rfl 5 rfl
 go_wp2_with (
  (refine hP.mono ?_)
  clear hP
  rintro e w5 ⟨rfl,hR5,hK5⟩
  have hK5':=hK4.trans hK5 (fun x hx => .inr (hR.fresh x hx))
  clear c0 c1 c2 c3 c4 hlt hB4
  have hB5:=hB2.keep0 hK5'
  obtain ⟨c0,c1,c2,c3,c4⟩:=JK hB5
  have hlt:=hB5.lt
  clear hR hK5 hK4)
 have hP:=Jv (k:=4) hR5 (by omega) [id,mount] (by simp;omega) (by simp) (by simp) #[.int .i64 id,.int .i64 mount] rfl 2 rfl
 go_wp2_with (
  (refine hP.mono ?_)
  clear hP
  rintro e w6 ⟨rfl,hR6,hK6⟩
  have hK6':=hK5'.trans hK6 (fun x hx => .inr (hR5.fresh x hx))
  clear c0 c1 c2 c3 c4 hlt)
 have hB:=Vo hR6
 go_wp2_with (refine hB.mono ?_;clear hB;rintro e w12 ⟨u,bs,rfl,hl2,hu,hk7⟩)
 have hS:=ZAs hl2 hu (by omega) (by omega)
 go_wp2_with (refine hS.mono ?_;clear hS;rintro e w13 ⟨cs,rfl,hl3,hu3,hk3⟩)
 go_ret2
 have hKw:=hkw.trans0 hK6'
 exact ⟨u,cs,rfl,hl3,KC hu3 hKw.size,(hKw.trans0 hk7).trans hk3 (fun x hx => .inr (Nat.le_trans hKw.size (own_mem hu hx).1))⟩
theorem VAw (w:World) :
 Calls Tryz.prog 169 #[.agg #[.int .i64 0,.int .i64 0,.int .i64 0,.int .i64 0,.int .i64 0]] w fun e w'=>e = .returned (.tuple #[.slice none 0 0,.int .i64 1])∧Keep [] w w':=by
 have hM:=fun W=>KAZ W
 go_enter Tryz.func169,Tryz.ntmps169
 go_wp2_with (
  (refine (hM _).mono ?_)
  clear hM
  rintro e w2 ⟨rfl,hk2⟩)
 go_ret2
 exact ⟨rfl,((Keep.refl _ _).alloc _).trans0 hk2⟩
theorem KBC {W0:World} {base r a k:Nat} {v:Value} (h:RowAt W0 base r v (List.replicate 64 0) a) (hk:k=1∨k=2∨k=4) (hm:a+k≤64) :
 Calls Tryz.prog 94 #[.pointer (some ⟨r,0,none⟩),.int .i64 (k:Nat)] W0 fun e w'=>e = .returned (.tuple #[.int .i64 0,.bool true])∧RowAt w' base r v (List.replicate 64 0) (a+k)∧Keep [r] W0 w':=by
 have:=ZY W0 base r a k v _ h hk (by simpa using hm)
 rw [List.drop_replicate,List.take_replicate,show min k (64-a)=k by omega] at this
 have hz:num (List.replicate k (0:UInt8))=0:=by rcases hk with rfl | rfl | rfl <;> rfl
 rw [hz] at this
 exact this
theorem Xo {w4:World} {base r a N:Nat} {v:Value} {bs:List UInt8} (j:Nat) (hj:j<5) (hR:RowAt w4 base r v bs a) (hB:Blk w4 N 242 #[.int .i64 0,.int .i64 0,.int .i64 0,.int .i64 0,.int .i64 0]) :
 RowAt (w4.setCell ⟨N,j,none⟩ (.int .i64 0)) base r v bs a∧Blk (w4.setCell ⟨N,j,none⟩ (.int .i64 0)) N 242 #[.int .i64 0,.int .i64 0,.int .i64 0,.int .i64 0,.int .i64 0]∧Keep [N] w4 (w4.setCell ⟨N,j,none⟩ (.int .i64 0)):=by
 have hk:Keep [N] w4 (w4.setCell ⟨N,j,none⟩ (.int .i64 0)):=(Keep.refl _ _).setCell (.inl (by simp)) _
 have h1:r≠N:=fun e=>by subst e;exact Blk.ne_ (t:=242) hB hR.blk (by decide) rfl
 have h2:∀ x∈v.ownBlock.toList,x≠N:=fun x hx e=>by subst e;exact own_blk_ne hR.own hB (by decide) (by simpa using hx)
 refine ⟨⟨hR.blk.keep hk (by simpa using h1),JB hR.own hk (fun x hx=>by simpa using h2 x (by simpa using hx)),hR.base,hR.le,hR.few⟩,?_,hk⟩
 have:=hB.set j (.int .i64 0)
 obtain rfl | rfl | rfl | rfl | rfl:j=0∨j=1∨j=2∨j=3∨j=4:=by omega
 all_goals simpa using this
theorem ZAN {w3 w4:World} {base r a N:Nat} {v:Value} {bs:List UInt8} {l:List Nat} (hR:RowAt w3 base r v bs a) (hk:Keep l w3 w4) (hl:∀ x∈l,x∈r :: v.ownBlock.toList) (hB:Blk w3 N 242 #[.int .i64 0,.int .i64 0,.int .i64 0,.int .i64 0,.int .i64 0]) :
 Blk w4 N 242 #[.int .i64 0,.int .i64 0,.int .i64 0,.int .i64 0,.int .i64 0]:=by
 refine hB.keep hk (fun hm=>?_)
 rcases List.mem_cons.1 (hl _ hm) with rfl | hx
 · exact Blk.ne_ (t:=242) hB hR.blk (by decide) rfl
 · exact own_blk_ne hR.own hB (by decide) (by simpa using hx)
theorem Zp (A:Option Addr) (c:Nat) (w:World) (ha:Rd w A 64 (bys (List.replicate 64 0))) :
 Calls Tryz.prog 239 #[.slice A 64 c] w fun e w'=>e = .returned (.tuple #[.agg #[.int .i64 0,.int .i64 0,.int .i64 0,.int .i64 0,.int .i64 0],.int .i64 2])∧Keep [] w w':=by
 have hF:=fun W (hk:Keep [] w W)=>YAH A 64 c _ W (ha.keep hk) (by omega)
 have hE:=fun W=>VAw W
 have hBk:=Blk.new w 242 #[.int .i64 0,.int .i64 0,.int .i64 0,.int .i64 0,.int .i64 0]
 go_enter Tryz.func239,Tryz.ntmps239
 go_wp2_with (
  (refine (hF _ ((Keep.refl _ _).alloc _)).mono ?_)
  clear hF
  rintro e w2 ⟨r,v,rfl,hR,hk2⟩
  have hB2:=hBk.keep0 hk2
  clear hBk)
 have hkw:Keep [] w w2:=((Keep.refl _ _).alloc _).trans0 hk2
 have hT:=Vh w2 _ r 0 2 v _ hR (by simp)
 go_wp2_with (
  (refine hT.mono ?_)
  clear hT
  rintro e w3 ⟨ut,rfl,-,hR3,hk3⟩)
 have hB3:=ZAN hR hk3 (by simp) hB2
 have hK3:Keep [] w w3:=hkw.trans hk3 (fun x hx => .inr (Nat.le_trans (by simp) (hR.fresh x (by simp at hx;simp [hx]))))
 clear hR hB2 hkw hk2 hk3
 have hT:=KBC (a:=2) (k:=1) hR3 (by omega) (by omega)
 go_wp2_with (
  (refine hT.mono ?_)
  clear hT
  rintro e w4 ⟨rfl,hR4,hk4⟩
  have hB4:=ZAN hR3 hk4 (by simp) hB3
  have q4:=hB4.frozen 0
  obtain ⟨x0,x1,x2,x3,x4⟩:=JK hB4
  have hlt4:=hB4.lt
  obtain ⟨hR4',hB4',hk4'⟩:=Xo 0 (by omega) hR4 hB4
  have hK4':=(hK3.trans hk4 (fun x hx => .inr (Nat.le_trans (by simp) (hR3.fresh x (by simp at hx;simp [hx]))))).trans hk4' (fun x hx => .inr (by simp at hx;omega))
  skip)
 clear q4 x0 x1 x2 x3 x4 hR3 hB3 hK3 hR4 hB4
 have hT:=KBC (a:=3) (k:=1) hR4' (by omega) (by omega)
 go_wp2_with (
  (refine hT.mono ?_)
  clear hT
  rintro e w5 ⟨rfl,hR5,hk5⟩
  have hB5:=ZAN hR4' hk5 (by simp) hB4'
  have q5:=hB5.frozen 1
  obtain ⟨x0,x1,x2,x3,x4⟩:=JK hB5
  have hlt5:=hB5.lt
  obtain ⟨hR5',hB5',hk5'⟩:=Xo 1 (by omega) hR5 hB5
  have hK5':=(hK4'.trans hk5 (fun x hx => .inr (Nat.le_trans (by simp) (hR4'.fresh x (by simp at hx;simp [hx]))))).trans hk5' (fun x hx => .inr (by simp at hx;omega))
  skip)
 clear q5 x0 x1 x2 x3 x4 hR4' hB4' hK4' hR5 hB5
 have hT:=KBC (a:=4) (k:=1) hR5' (by omega) (by omega)
 go_wp2_with (
  (refine hT.mono ?_)
  clear hT
  rintro e w6 ⟨rfl,hR6,hk6⟩
  have hB6:=ZAN hR5' hk6 (by simp) hB5'
  have q6:=hB6.frozen 2
  obtain ⟨x0,x1,x2,x3,x4⟩:=JK hB6
  have hlt6:=hB6.lt
  obtain ⟨hR6',hB6',hk6'⟩:=Xo 2 (by omega) hR6 hB6
  have hK6':=(hK5'.trans hk6 (fun x hx => .inr (Nat.le_trans (by simp) (hR5'.fresh x (by simp at hx;simp [hx]))))).trans hk6' (fun x hx => .inr (by simp at hx;omega))
  skip)
 clear q6 x0 x1 x2 x3 x4 hR5' hB5' hK5' hR6 hB6
 have hT:=KBC (a:=5) (k:=4) hR6' (by omega) (by omega)
 go_wp2_with (
  (refine hT.mono ?_)
  clear hT
  rintro e w7 ⟨rfl,hR7,hk7⟩
  have hB7:=ZAN hR6' hk7 (by simp) hB6'
  have q7:=hB7.frozen 3
  obtain ⟨x0,x1,x2,x3,x4⟩:=JK hB7
  have hlt7:=hB7.lt
  obtain ⟨hR7',hB7',hk7'⟩:=Xo 3 (by omega) hR7 hB7
  have hK7':=(hK6'.trans hk7 (fun x hx => .inr (Nat.le_trans (by simp) (hR6'.fresh x (by simp at hx;simp [hx]))))).trans hk7' (fun x hx => .inr (by simp at hx;omega))
  skip)
 clear q7 x0 x1 x2 x3 x4 hR6' hB6' hK6' hR7 hB7
 have hT:=KBC (a:=9) (k:=4) hR7' (by omega) (by omega)
 go_wp2_with (
  (refine hT.mono ?_)
  clear hT
  rintro e w8 ⟨rfl,hR8,hk8⟩
  have hB8:=ZAN hR7' hk8 (by simp) hB7'
  have q8:=hB8.frozen 4
  obtain ⟨x0,x1,x2,x3,x4⟩:=JK hB8
  have hlt8:=hB8.lt
  obtain ⟨hR8',hB8',hk8'⟩:=Xo 4 (by omega) hR8 hB8
  have hK8':=(hK7'.trans hk8 (fun x hx => .inr (Nat.le_trans (by simp) (hR7'.fresh x (by simp at hx;simp [hx]))))).trans hk8' (fun x hx => .inr (by simp at hx;omega))
  obtain ⟨y0,y1,y2,y3,y4⟩:=JK hB8')
 clear q8 x0 x1 x2 x3 x4 hR7' hB7' hK7' hR8 hB8
 go_wp2_with (
  (refine (hE _).mono ?_)
  clear hE
  rintro e w9 ⟨rfl,hk9⟩
  have hB9:=hB8'.keep0 hk9
  obtain ⟨x0,x1,x2,x3,x4⟩:=JK hB9
  have f0:=hB9.frozen 0
  have f1:=hB9.frozen 1
  have f2:=hB9.frozen 2
  have f3:=hB9.frozen 3
  have f4:=hB9.frozen 4
  have hlt9:=hB9.lt)
 have z0:=Xo 0 (by omega) (hR8'.keep0 hk9) hB9
 have z1:=Xo 1 (by omega) z0.1 z0.2.1
 have z2:=Xo 2 (by omega) z1.1 z1.2.1
 have z3:=Xo 3 (by omega) z2.1 z2.2.1
 have z4:=Xo 4 (by omega) z3.1 z3.2.1
 have hK:=(((((hK8'.trans0 hk9).trans z0.2.2 (fun x hx => .inr (by simp at hx;omega))).trans z1.2.2 (fun x hx => .inr (by simp at hx;omega))).trans z2.2.2 (fun x hx => .inr (by simp at hx;omega))).trans z3.2.2 (fun x hx => .inr (by simp at hx;omega))).trans z4.2.2 (fun x hx => .inr (by simp at hx;omega))
 obtain ⟨y0,y1,y2,y3,y4⟩:=JK z4.2.1
 refine bodyPost_ret (v := .tuple #[.agg #[.int .i64 0,.int .i64 0,.int .i64 0,.int .i64 0,.int .i64 0],.int .i64 2]) (by simp [results,Tryz.results239,go_sem,y0,y1,y2,y3,y4]) rfl ?_
 exact ⟨rfl,hK⟩
end
section
open Go.RowKit
theorem VBC {w4:World} {N:Nat} (j:Nat) (hj:j<5) (hB:Blk w4 N 242 #[.int .i64 0,.int .i64 0,.int .i64 0,.int .i64 0,.int .i64 0]) :
 Blk (w4.setCell ⟨N,j,none⟩ (.int .i64 0)) N 242 #[.int .i64 0,.int .i64 0,.int .i64 0,.int .i64 0,.int .i64 0]∧Keep [N] w4 (w4.setCell ⟨N,j,none⟩ (.int .i64 0)):=by
 refine ⟨?_,(Keep.refl _ _).setCell (.inl (by simp)) _⟩
 have:=hB.set j (.int .i64 0)
 obtain rfl | rfl | rfl | rfl | rfl:j=0∨j=1∨j=2∨j=3∨j=4:=by omega
 all_goals simpa using this
theorem ZAR (A B:Option Addr) (c d:Nat) (w:World) (ha:Rd w A 64 (bys (List.replicate 64 0))) (hb:Rd w B 64 (bys (List.replicate 64 0))) :
 Calls Tryz.prog 168 #[.slice A 64 c,.slice B 64 d] w fun e w'=>e = .returned (.tuple #[.agg #[.int .i64 0,.int .i64 0,.int .i64 0,.int .i64 0,.int .i64 0],.int .i64 0,.int .i64 2])∧Keep [] w w':=by
 have hD:=fun W (hk:Keep [] w W)=>Zp A c W (ha.keep hk)
 have hE:=fun W (hk:Keep [] w W)=>Zp B d W (hb.keep hk)
 have hBk:=Blk.new w 242 #[.int .i64 0,.int .i64 0,.int .i64 0,.int .i64 0,.int .i64 0]
 go_enter Tryz.func168,Tryz.ntmps168
 go_wp2_with (
  (refine (hD _ ((Keep.refl _ _).alloc _)).mono ?_)
  clear hD
  rintro e w2 ⟨rfl,hk2⟩)
 have hk12:Keep [] w w2:=((Keep.refl _ _).alloc _).trans0 hk2
 have hE':=hE _ (hk12.alloc (.cells #[.int .i64 0,.int .i64 0,.int .i64 0,.int .i64 0,.int .i64 0] 242))
 clear hE
 have hBx:=hBk.keep0 hk2
 go_wp2_with (
  (refine hE'.mono ?_)
  clear hE'
  rintro e w3 ⟨rfl,hk3⟩
  have hB3:=(hBx.keep0 ((Keep.refl _ _).alloc (.cells #[.int .i64 0,.int .i64 0,.int .i64 0,.int .i64 0,.int .i64 0] 242))).keep0 hk3
  have hB4:=hB3.keep0 ((Keep.refl _ _).alloc (.cells #[.int .i64 0,.int .i64 0,.int .i64 0,.int .i64 0,.int .i64 0] 242))
  obtain ⟨x0,x1,x2,x3,x4⟩:=JK hB4
  have f0:=hB4.frozen 0
  have f1:=hB4.frozen 1
  have f2:=hB4.frozen 2
  have f3:=hB4.frozen 3
  have f4:=hB4.frozen 4
  have hlt4:=hB4.lt)
 have z0:=VBC 0 (by omega) hB4
 have z1:=VBC 1 (by omega) z0.1
 have z2:=VBC 2 (by omega) z1.1
 have z3:=VBC 3 (by omega) z2.1
 have z4:=VBC 4 (by omega) z3.1
 have hK:=((((((((hk12.alloc _).trans0 hk3).alloc _)).trans z0.2 (fun x hx => .inr (by simp at hx;omega))).trans z1.2 (fun x hx => .inr (by simp at hx;omega))).trans z2.2 (fun x hx => .inr (by simp at hx;omega))).trans z3.2 (fun x hx => .inr (by simp at hx;omega))).trans z4.2 (fun x hx => .inr (by simp at hx;omega))
 obtain ⟨y0,y1,y2,y3,y4⟩:=JK z4.1
 refine bodyPost_ret (v := .tuple #[.agg #[.int .i64 0,.int .i64 0,.int .i64 0,.int .i64 0,.int .i64 0],.int .i64 0,.int .i64 2]) (by simp [results,Tryz.results168,go_sem,y0,y1,y2,y3,y4]) rfl ?_
 exact ⟨rfl,hK⟩
end
section
open Go.RowKit
structure OHold (w:World) (B:Nat) (F:List Nat) (v:Value) (os:List (Value×POp)):Prop where
 row:w.ownsRow B 46 5 v os.length (os.flatMap opc)
 data:∀ p∈os,w.ownsRow B 5 1 p.1 p.2.d.length (bys p.2.d)
 small:∀ p∈os,p.2.d.length≤64
 off:∀ g∈v.ownBlock.toList,g∉F
 offs:∀ p∈os,∀ g∈p.1.ownBlock.toList,g∉F
namespace OHold
variable {w w':World} {B:Nat} {F F':List Nat} {v:Value} {os:List (Value×POp)}
theorem keep0 (h:OHold w B F v os) (hk:Keep [] w w'):OHold w' B F v os:=⟨YB h.row hk,fun p hp=>YB (h.data p hp) hk,h.small,h.off,h.offs⟩
theorem turn (h:OHold w B F v os) {l:List Nat} (hk:Keep l w w') (hl:∀ x∈l,x∈F) (hg:Grow w F F'):OHold w' B F' v os:=by
 have hoff:∀ {e:TypeId} {u:Value} {n q:Nat} {xs:List Value},w.ownsRow B e q u n xs→(∀ g∈u.ownBlock.toList,g∉F)→∀ g∈u.ownBlock.toList,g∉F':=by
  intro e u n q xs hu ho g hg' hm
  rcases hg g hm with h1 | h1
  · exact ho g hg' h1
  · have:=(own_mem hu hg').2;omega
 exact ⟨JB h.row hk (fun g hg' hm=>h.off g (by simpa using hg') (hl g hm)),fun p hp=>JB (h.data p hp) hk (fun g hg' hm=>h.offs p hp g (by simpa using hg') (hl g hm)),h.small,hoff h.row h.off,fun p hp=>hoff (h.data p hp) (h.offs p hp)⟩
theorem rd (h:OHold w B F v os) {A:Option Addr} {c:Nat} (hv:v = .slice A os.length c):OpsRd w A os.length os:=by
 have h1:=h.row
 rw [hv] at h1
 exact OpsRd.of_own h1 rfl
theorem nil (w:World) (B:Nat) (F:List Nat):OHold w B F (.slice none 0 0) []:=⟨World.ownsRow_nil _ _ _ _,by simp,by simp,by simp [Value.ownBlock],by simp⟩
end OHold
theorem OHold.snoc {w w':World} {B:Nat} {v v':Value} {os:List (Value×POp)} (h:OHold w B [] v os) (p:Value×POp) (hp:w.ownsRow B 5 1 p.1 p.2.d.length (bys p.2.d)) (hl:p.2.d.length≤64)
 (hv:w'.ownsRow B 46 5 v' (os.length+1) (os.flatMap opc++opc p)) (hk:Keep v.ownBlock.toList w w'):OHold w' B [] v' (os++[p]):=by
 refine ⟨?_,?_,?_,by simp,by simp⟩
 · rw [List.length_append,List.flatMap_append,List.flatMap_singleton];exact hv
 · intro q hq
   rcases List.mem_append.1 hq with hq | hq
   · exact JB (h.data q hq) hk (fun g hg hm=>own_ne (h.data q hq) h.row (by decide) hg (by simpa using hm))
   · obtain rfl:=List.mem_singleton.1 hq
     exact JB hp hk (fun g hg hm=>own_ne hp h.row (by decide) hg (by simpa using hm))
 · intro q hq
   rcases List.mem_append.1 hq with hq | hq
   · exact h.small q hq
   · obtain rfl:=List.mem_singleton.1 hq
     exact hl
theorem OHold.apart {w:World} {B:Nat} {v:Value} {os:List (Value×POp)} (h:OHold w B [] v os) {F:List Nat} (hF:∀ x∈F,x<B):OHold w B F v os:=
 ⟨h.row,h.data,h.small,fun g hg hm=>by have:=(own_mem h.row hg).1;have:=hF g hm;omega,fun p hp g hg hm=>by have:=(own_mem (h.data p hp) hg).1;have:=hF g hm;omega⟩
end
end Go.Proofs.YtmoagodllhdemaaGreat
