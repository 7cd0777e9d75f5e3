/-
  A part of the proof: lemmas, and contracts of functions; their conditions stand in them.
-/
import Derived.Test.YtkonbpfbjiepfaaGreatB08
import Derived.Test.YtkonbpfbjiepfaaGreatB05
namespace Go.Proofs.YtkonbpfbjiepfaaGreat
set_option linter.unusedSimpArgs false
set_option linter.unusedVariables false
set_option maxHeartbeats 8000000
set_option maxRecDepth 20000
section
open Go.RowKit
theorem JAU (A:Option Addr) (n c:Nat) (bs:List UInt8) (w:World) (ha:Rd w A n (bys bs)) (hn:25≤n) (hn2:n≤65536) :
 Calls Tryz.prog 140 #[.slice A n c] w (DecPost w bs):=by
 have hl:bs.length=n:=by simpa using ha.1
 have hFr:=ZW A n c bs (w.alloc (.cells #[.int .i64 0,.int .i64 0,.int .i64 0,.int .i64 0,.int .i64 0,.int .i64 0,.int .i64 0,.slice none 0 0] 152)) (ha.keep ((Keep.refl _ _).alloc _)) hn2
 have hF0:=Blk.new w 152 #[.int .i64 0,.int .i64 0,.int .i64 0,.int .i64 0,.int .i64 0,.int .i64 0,.int .i64 0,.slice none 0 0]
 obtain ⟨p0,hp0⟩:∃ q,q=(ZQ bs).k:=⟨_,rfl⟩
 obtain ⟨p1,hp1⟩:∃ q,q=(ZQ bs).v:=⟨_,rfl⟩
 obtain ⟨p2,hp2⟩:∃ q,q=(ZQ bs).s:=⟨_,rfl⟩
 obtain ⟨p3,hp3⟩:∃ q,q=(ZQ bs).b:=⟨_,rfl⟩
 obtain ⟨p4,hp4⟩:∃ q,q=(ZQ bs).c:=⟨_,rfl⟩
 obtain ⟨p5,hp5⟩:∃ q,q=(ZQ bs).e:=⟨_,rfl⟩
 obtain ⟨p6,hp6⟩:∃ q,q=(ZQ bs).d:=⟨_,rfl⟩
 obtain ⟨p7,hp7⟩:∃ q,q=(ZQ bs).data:=⟨_,rfl⟩
 have HP0:=KB hp0
 have HP1:=KB hp1
 have HP2:=KB hp2
 have HP3:=KB hp3
 have HP4:=KB hp4
 have HP5:=KB hp5
 have HP6:=KB hp6
 have HP7:=KB hp7
 have HL:=KB hl
 clear hp0 hp1 hp2 hp3 hp4 hp5 hp6 hp7 hl
 go_enter Tryz.func140,Tryz.ntmps140
 go_wp2_with (
  (refine hFr.mono ?_)
  clear hFr
  rintro x W ⟨r,v,rfl,hR,hkW⟩
  have hF:=hF0.keep0 hkW
  have hkw:Keep [] w W:=((Keep.refl _ _).alloc _).trans0 hkW
  have hFl:=hF.lt)
 have hb1:w.heap.size<(w.alloc (.cells #[.int .i64 0,.int .i64 0,.int .i64 0,.int .i64 0,.int .i64 0,.int .i64 0,.int .i64 0,.slice none 0 0] 152)).heap.size:=by simp
 generalize (w.alloc (.cells #[.int .i64 0,.int .i64 0,.int .i64 0,.int .i64 0,.int .i64 0,.int .i64 0,.int .i64 0,.slice none 0 0] 152)).heap.size=base at *
 have hFr:w.heap.size≠r:=by have:=hR.base;omega
 have hFr':w.heap.size∉[r]:=by simpa using hFr
 have hrn:∀ x∈[r],x∈([]:List Nat)∨w.heap.size≤x:=fun x hx => .inr (by have:=hR.base;simp at hx;omega)
 clear hF0 hkW
 have hT:=QU W base r 0 2 v bs hR (by have:=XA HL;omega)
 go_wp2_with (
  (refine hT.mono ?_)
  clear hT
  rintro x W2 ⟨u,rfl,_,hR2,hk2⟩
  have hF2:=hF.keep hk2 hFr'
  have hkw2:=hkw.trans hk2 hrn
  have hFl2:=hF2.lt)
 clear hR hF hkw hFl
 have hT:=JW _ base r 2 1 v bs hR2 (by omega) (by have:=XA HL;omega)
 rw [show num ((bs.drop 2).take 1)=p0 from (XA HP0).symm] at hT
 go_wp2_with (
  (refine hT.mono ?_)
  clear hT
  rintro x W3 ⟨rfl,hR,hk2⟩
  have hF:=hF2.keep hk2 hFr'
  have hkw:=hkw2.trans hk2 hrn
  have hFl:=hF.lt
  have hfz:=hF.frozen 0
  have hcc:=hF.cell 0)
 have hR3:=hR.far (F:=w.heap.size) (i:=0) hb1 (.int .i64 (p0:Nat))
 have hF3:=hF.set 0 (.int .i64 (p0:Nat))
 have hkw3:=hkw.setCell (p:=⟨w.heap.size,0,none⟩) (.inr (Nat.le_refl _)) (.int .i64 (p0:Nat))
 have hFl3:=hF3.lt
 clear hR hk2 hF hkw hFl hfz hcc hR2 hF2 hkw2 hFl2
 have hT:=JW _ base r 3 4 v bs hR3 (by omega) (by have:=XA HL;omega)
 rw [show num ((bs.drop 3).take 4)=p1 from (XA HP1).symm] at hT
 go_wp2_with (
  (refine hT.mono ?_)
  clear hT
  rintro x W4 ⟨rfl,hR,hk2⟩
  have hF:=hF3.keep hk2 hFr'
  have hkw:=hkw3.trans hk2 hrn
  have hFl:=hF.lt
  have hfz:=hF.frozen 1
  have hcc:=hF.cell 1)
 have hR4:=hR.far (F:=w.heap.size) (i:=1) hb1 (.int .i64 (p1:Nat))
 have hF4:=hF.set 1 (.int .i64 (p1:Nat))
 have hkw4:=hkw.setCell (p:=⟨w.heap.size,1,none⟩) (.inr (Nat.le_refl _)) (.int .i64 (p1:Nat))
 have hFl4:=hF4.lt
 clear hR hk2 hF hkw hFl hfz hcc hR3 hF3 hkw3 hFl3
 have hT:=JW _ base r 7 4 v bs hR4 (by omega) (by have:=XA HL;omega)
 rw [show num ((bs.drop 7).take 4)=p2 from (XA HP2).symm] at hT
 go_wp2_with (
  (refine hT.mono ?_)
  clear hT
  rintro x W5 ⟨rfl,hR,hk2⟩
  have hF:=hF4.keep hk2 hFr'
  have hkw:=hkw4.trans hk2 hrn
  have hFl:=hF.lt
  have hfz:=hF.frozen 2
  have hcc:=hF.cell 2)
 have hR5:=hR.far (F:=w.heap.size) (i:=2) hb1 (.int .i64 (p2:Nat))
 have hF5:=hF.set 2 (.int .i64 (p2:Nat))
 have hkw5:=hkw.setCell (p:=⟨w.heap.size,2,none⟩) (.inr (Nat.le_refl _)) (.int .i64 (p2:Nat))
 have hFl5:=hF5.lt
 clear hR hk2 hF hkw hFl hfz hcc hR4 hF4 hkw4 hFl4
 have hT:=JW _ base r 11 1 v bs hR5 (by omega) (by have:=XA HL;omega)
 rw [show num ((bs.drop 11).take 1)=p3 from (XA HP3).symm] at hT
 go_wp2_with (
  (refine hT.mono ?_)
  clear hT
  rintro x W6 ⟨rfl,hR,hk2⟩
  have hF:=hF5.keep hk2 hFr'
  have hkw:=hkw5.trans hk2 hrn
  have hFl:=hF.lt
  have hfz:=hF.frozen 3
  have hcc:=hF.cell 3)
 have hR6:=hR.far (F:=w.heap.size) (i:=3) hb1 (.int .i64 (p3:Nat))
 have hF6:=hF.set 3 (.int .i64 (p3:Nat))
 have hkw6:=hkw.setCell (p:=⟨w.heap.size,3,none⟩) (.inr (Nat.le_refl _)) (.int .i64 (p3:Nat))
 have hFl6:=hF6.lt
 clear hR hk2 hF hkw hFl hfz hcc hR5 hF5 hkw5 hFl5
 have hT:=JW _ base r 12 1 v bs hR6 (by omega) (by have:=XA HL;omega)
 rw [show num ((bs.drop 12).take 1)=p4 from (XA HP4).symm] at hT
 go_wp2_with (
  (refine hT.mono ?_)
  clear hT
  rintro x W7 ⟨rfl,hR,hk2⟩
  have hF:=hF6.keep hk2 hFr'
  have hkw:=hkw6.trans hk2 hrn
  have hFl:=hF.lt
  have hfz:=hF.frozen 4
  have hcc:=hF.cell 4)
 have hR7:=hR.far (F:=w.heap.size) (i:=4) hb1 (.int .i64 (p4:Nat))
 have hF7:=hF.set 4 (.int .i64 (p4:Nat))
 have hkw7:=hkw.setCell (p:=⟨w.heap.size,4,none⟩) (.inr (Nat.le_refl _)) (.int .i64 (p4:Nat))
 have hFl7:=hF7.lt
 clear hR hk2 hF hkw hFl hfz hcc hR6 hF6 hkw6 hFl6
 have hT:=JW _ base r 13 4 v bs hR7 (by omega) (by have:=XA HL;omega)
 rw [show num ((bs.drop 13).take 4)=p5 from (XA HP5).symm] at hT
 go_wp2_with (
  (refine hT.mono ?_)
  clear hT
  rintro x W8 ⟨rfl,hR,hk2⟩
  have hF:=hF7.keep hk2 hFr'
  have hkw:=hkw7.trans hk2 hrn
  have hFl:=hF.lt
  have hfz:=hF.frozen 5
  have hcc:=hF.cell 5)
 have hR8:=hR.far (F:=w.heap.size) (i:=5) hb1 (.int .i64 (p5:Nat))
 have hF8:=hF.set 5 (.int .i64 (p5:Nat))
 have hkw8:=hkw.setCell (p:=⟨w.heap.size,5,none⟩) (.inr (Nat.le_refl _)) (.int .i64 (p5:Nat))
 have hFl8:=hF8.lt
 clear hR hk2 hF hkw hFl hfz hcc hR7 hF7 hkw7 hFl7
 have hT:=JW _ base r 17 4 v bs hR8 (by omega) (by have:=XA HL;omega)
 rw [show num ((bs.drop 17).take 4)=p6 from (XA HP6).symm] at hT
 go_wp2_with (
  (refine hT.mono ?_)
  clear hT
  rintro x W9 ⟨rfl,hR,hk2⟩
  have hF:=hF8.keep hk2 hFr'
  have hkw:=hkw8.trans hk2 hrn
  have hFl:=hF.lt
  have hfz:=hF.frozen 6
  have hcc:=hF.cell 6)
 have hR9:=hR.far (F:=w.heap.size) (i:=6) hb1 (.int .i64 (p6:Nat))
 have hF9:=hF.set 6 (.int .i64 (p6:Nat))
 have hkw9:=hkw.setCell (p:=⟨w.heap.size,6,none⟩) (.inr (Nat.le_refl _)) (.int .i64 (p6:Nat))
 have hFl9:=hF9.lt
 clear hR hk2 hF hkw hFl hfz hcc hR8 hF8 hkw8 hFl8
 obtain ⟨m,hm⟩:∃ m,n=m+25:=⟨n-25,by omega⟩
 have hmb:m≤65536:=by omega
 have HMM:=KB hm
 clear hm
 have hT:=Vd _ base r 21 v bs hR9
 rw [show (((bs.length:Nat):Int)-((21:Nat):Int))=(m:Nat)+4 by have:=XA HL;have:=XA HMM;omega] at hT
 go_wp2_with (refine hT.mono ?_;clear hT;rintro x w' ⟨rfl,rfl⟩)
 have hT:=QU _ base r 21 m v bs hR9.drew (by have:=XA HL;have:=XA HMM;omega)
 have hd:(bs.drop 21).take m=p7:=by rw [XA HP7];show _=(bs.drop 21).take (bs.length-25);congr 1;have:=XA HL;have:=XA HMM;omega
 rw [hd] at hT
 have HD:=KB hd
 clear hd
 go_wp2_with (
  (refine hT.mono ?_)
  clear hT
  rintro x W10 ⟨u,rfl,hu,hR,hk2⟩
  obtain ⟨UA,uc,rfl,_⟩:=YB hu
  have hF:=hF9.drew.keep hk2 hFr'
  have hkw:=hkw9.drew.trans hk2 hrn
  have hFl:=hF.lt
  have hfz:=hF.frozen 7
  have hcc:=hF.cell 7
  have hF10:Blk (W10.setCell ⟨w.heap.size,7,none⟩ (.slice UA m uc)) w.heap.size 152 #[.int .i64 p0,.int .i64 p1,.int .i64 p2,.int .i64 p3,.int .i64 p4,.int .i64 p5,.int .i64 p6,.slice UA m uc]:=(by simpa using hF.set 7 (.slice UA m uc))
  obtain ⟨e0,e1,e2,e3,e4,e5,e6,e7⟩:=ZC hF10)
 have hkw10:=hkw.setCell (p:=⟨w.heap.size,7,none⟩) (.inr (Nat.le_refl _)) (.slice UA m uc)
 have hu10:(W10.setCell ⟨w.heap.size,7,none⟩ (.slice UA m uc)).ownsRow w.heap.size 5 1 (.slice UA m uc) m (bys p7):=own_set (YC hu hkw9.size) (fun hm=>own_blk_ne hu hF (by decide) (by simpa using hm)) _
 have hl10:=hF10.lt
 have hparse:ZQ bs=⟨p0,p1,p2,p3,p4,p5,p6,p7⟩:=by rw [XA HP0,XA HP1,XA HP2,XA HP3,XA HP4,XA HP5,XA HP6,XA HP7]
 have hpl:p7.length=m:=by simpa using hu.1
 have HPA:=KB hparse
 have HPL:=KB hpl
 clear hparse hpl hF hkw hFl hfz hcc hk2 hR hR9 hF9 hkw9 hFl9
 by_cases hmay:FrMay p0 p1 p2 p3 p4 p5 p6 p7
 · have hE:=Ys p0 p1 p2 p3 p4 p5 p6 UA m uc p7 _ (Rd.of_own hu10) hmay
   unfold frv at hE
   have HMAY:=KB hmay
   clear hmay hFr hFr' hrn hb1
   by_cases heq:VH p0 p1 p2 p3 p4 p5 p6 p7=bs
   · have HEQ:=KB heq
     clear heq
     go_wp2_with (
      (refine hE.mono ?_)
      clear hE
      rintro x W11 ⟨y,rfl,hy,hk11⟩
      obtain ⟨YA,yc,rfl,_⟩:=YB hy
      have hF11:=hF10.keep0 hk11
      have hl11:=hF11.lt
      clear e0 e1 e2 e3 e4 e5 e6 e7
      obtain ⟨e0,e1,e2,e3,e4,e5,e6,e7⟩:=ZC hF11
      have hB:=QM YA A (25+m) n yc c _ bs W11 (Rd.of_own hy) (ha.keep (hkw10.trans0 hk11))
      rw [decide_eq_true (XA HEQ)] at hB
      have q0:=hF11.frozen 0
      have q1:=hF11.frozen 1
      have q2:=hF11.frozen 2
      have q3:=hF11.frozen 3
      have q4:=hF11.frozen 4
      have q5:=hF11.frozen 5
      have q6:=hF11.frozen 6
      have q7:=hF11.frozen 7)
     go_wp2_with (refine hB.mono ?_;clear hB;rintro x w' ⟨rfl,rfl⟩)
     have h8:=hF11.put8 (.int .i64 p0) (.int .i64 p1) (.int .i64 p2) (.int .i64 p3) (.int .i64 p4) (.int .i64 p5) (.int .i64 p6) (.slice UA m uc)
     have hk8':=Keep.put8 W11 w.heap.size (.int .i64 p0) (.int .i64 p1) (.int .i64 p2) (.int .i64 p3) (.int .i64 p4) (.int .i64 p5) (.int .i64 p6) (.slice UA m uc)
     unfold put8 at h8 hk8'
     obtain ⟨g0,g1,g2,g3,g4,g5,g6,g7⟩:=ZC h8
     have hfin:Keep [] w _:=(hkw10.trans0 hk11).trans hk8' (fun x hx => .inr (by simp at hx;omega))
     have hou:=ZB (QB hu10 hk11) hk8' (fun g hg hm=>by
      have h1:=(own_mem hu (g:=g) (by simpa using hg)).1
      simp at hm
      subst hm
      exact own_blk_ne hu10 hF10 (by decide) hg)
     refine bodyPost_ret (v := .tuple #[.agg #[.int .i64 p0,.int .i64 p1,.int .i64 p2,.int .i64 p3,.int .i64 p4,.int .i64 p5,.int .i64 p6,.slice UA m uc],.int .i64 0]) ?_ rfl ?_
     · simp [results,Tryz.results140,go_sem,g0,g1,g2,g3,g4,g5,g6,g7]
     · exact DecPost.ok hfin (XA HPA) (XA HMAY) (XA HEQ) (by have:=XA HL;have:=XA HMM;omega) hou
   · have HEQ:=KB heq
     clear heq
     go_wp2_with (
      (refine hE.mono ?_)
      clear hE
      rintro x W11 ⟨y,rfl,hy,hk11⟩
      obtain ⟨YA,yc,rfl,_⟩:=YB hy
      have hF11:=hF10.keep0 hk11
      have hl11:=hF11.lt
      clear e0 e1 e2 e3 e4 e5 e6 e7
      obtain ⟨e0,e1,e2,e3,e4,e5,e6,e7⟩:=ZC hF11
      have hB:=QM YA A (25+m) n yc c _ bs W11 (Rd.of_own hy) (ha.keep (hkw10.trans0 hk11))
      rw [decide_eq_false (XA HEQ)] at hB
      have q0:=hF11.frozen 0
      have q1:=hF11.frozen 1
      have q2:=hF11.frozen 2
      have q3:=hF11.frozen 3
      have q4:=hF11.frozen 4
      have q5:=hF11.frozen 5
      have q6:=hF11.frozen 6
      have q7:=hF11.frozen 7)
     go_wp2_with (refine hB.mono ?_;clear hB;rintro x w' ⟨rfl,rfl⟩)
     have h8:=hF11.put8 (.int .i64 0) (.int .i64 0) (.int .i64 0) (.int .i64 0) (.int .i64 0) (.int .i64 0) (.int .i64 0) (.slice none 0 0)
     have hk8':=Keep.put8 W11 w.heap.size (.int .i64 0) (.int .i64 0) (.int .i64 0) (.int .i64 0) (.int .i64 0) (.int .i64 0) (.int .i64 0) (.slice none 0 0)
     unfold put8 at h8 hk8'
     obtain ⟨g0,g1,g2,g3,g4,g5,g6,g7⟩:=ZC h8
     have hfin:Keep [] w _:=(hkw10.trans0 hk11).trans hk8' (fun x hx => .inr (by simp at hx;omega))
     refine bodyPost_ret (v := .tuple #[.agg #[.int .i64 0,.int .i64 0,.int .i64 0,.int .i64 0,.int .i64 0,.int .i64 0,.int .i64 0,.slice none 0 0],.int .i64 2]) ?_ rfl ?_
     · simp [results,Tryz.results140,go_sem,g0,g1,g2,g3,g4,g5,g6,g7]
     · refine DecPost.bad hfin ?_
       rw [XA HPA]
       exact fun h=>XA HEQ h.2
 · have hE:=QAW p0 p1 p2 p3 p4 p5 p6 UA m uc p7 _ (Rd.of_own hu10) hmay
   unfold frv at hE
   go_wp2_with (
    (refine hE.mono ?_)
    clear hE
    rintro x W11 ⟨rfl,hk11⟩
    have hF11:=hF10.keep0 hk11
    have hl11:=hF11.lt
    clear e0 e1 e2 e3 e4 e5 e6 e7
    obtain ⟨e0,e1,e2,e3,e4,e5,e6,e7⟩:=ZC hF11
    have q0:=hF11.frozen 0
    have q1:=hF11.frozen 1
    have q2:=hF11.frozen 2
    have q3:=hF11.frozen 3
    have q4:=hF11.frozen 4
    have q5:=hF11.frozen 5
    have q6:=hF11.frozen 6
    have q7:=hF11.frozen 7)
   have h8:=hF11.put8 (.int .i64 0) (.int .i64 0) (.int .i64 0) (.int .i64 0) (.int .i64 0) (.int .i64 0) (.int .i64 0) (.slice none 0 0)
   have hk8':=Keep.put8 W11 w.heap.size (.int .i64 0) (.int .i64 0) (.int .i64 0) (.int .i64 0) (.int .i64 0) (.int .i64 0) (.int .i64 0) (.slice none 0 0)
   unfold put8 at h8 hk8'
   obtain ⟨g0,g1,g2,g3,g4,g5,g6,g7⟩:=ZC h8
   have hfin:Keep [] w _:=(hkw10.trans0 hk11).trans hk8' (fun x hx => .inr (by simp at hx;omega))
   refine bodyPost_ret (v := .tuple #[.agg #[.int .i64 0,.int .i64 0,.int .i64 0,.int .i64 0,.int .i64 0,.int .i64 0,.int .i64 0,.slice none 0 0],.int .i64 2]) ?_ rfl ?_
   · simp [results,Tryz.results140,go_sem,g0,g1,g2,g3,g4,g5,g6,g7]
   · refine DecPost.bad hfin ?_
     rw [XA HPA]
     exact fun h=>hmay h.1
end
section
open Go.RowKit
@[simp] theorem length_turn1 (bs:List UInt8) (f:Nat):(VBK bs f).length=bs.length:=by simp [VBK]
end
section
open Go.RowKit
theorem XAa (v s k b c e n m:Nat) (A:Option Addr) (xs:List UInt8) (hv:1≤v∧v≤2147483647) (hs:1≤s∧s≤2147483647) (h:OpMay k b c e n) (w:World) (ha:Rd w A n (bys xs)) (hm:n≤m) :
 Calls Tryz.prog 76 #[.int .i64 (v:Nat),.int .i64 (s:Nat),.agg #[.int .i64 k,.int .i64 b,.int .i64 c,.int .i64 e,.slice A n m]] w fun r w'=>∃ u,r = .returned u∧w'.ownsRow w.heap.size 5 1 u (25+n) (bys (VH k v s b c e 0 xs))∧Keep [] w w':=by
 have hF:=VAH v s k b c e n m A xs hv hs h (w.alloc (.cells #[.int .i64 k,.int .i64 b,.int .i64 c,.int .i64 e,.slice A n m] 137)) (ha.keep ((Keep.refl _ _).alloc _)) hm
 have hn:n≤64:=by rcases h with ⟨_,_,_,_,h⟩ | ⟨_,_,_,_,_,h⟩ | ⟨_,_,_,_,_,h⟩ <;> omega
 have hbd:k≤9∧b≤63∧c≤64∧e≤2147483647:=by rcases h with ⟨_,_,_,_,h⟩ | ⟨_,_,_,_,_,h⟩ | ⟨_,_,_,_,_,h⟩ <;> omega
 have hB:=fun A m W (hr:Rd W A n (bys xs))=>Ye k v s b c e 0 A n m xs W hr hbd.1 hv.2 hs.2 hbd.2.1 hbd.2.2.1 hbd.2.2.2 (by omega) hn (fun W=>Xj v s k b c e n m A hv hs h W)
 unfold frv at hF hB
 clear h hv hs hbd
 go_enter Tryz.func76,Tryz.ntmps76
 go_wp2_with (first
  | (go_at_call 135
     refine hF.mono ?_
     clear hF
     rintro r w1 ⟨A',m',rfl,hr1,hm1,hk1⟩
     have hB1:=hB A' m' _ (hr1.keep ((Keep.refl _ _).alloc (.cells #[.int .i64 k,.int .i64 v,.int .i64 s,.int .i64 b,.int .i64 c,.int .i64 e,.int .i64 0,.slice A' n m'] 152)))
     clear hB)
  | (go_at_call 84
     refine hB1.mono ?_
     clear hB1
     rintro r w2 ⟨u,rfl,hu,hk2⟩))
 go_ret
 have hkA:Keep [] w (w1.alloc (.cells #[.int .i64 k,.int .i64 v,.int .i64 s,.int .i64 b,.int .i64 c,.int .i64 e,.int .i64 0,.slice A' n m'] 152)):=(((Keep.refl _ _).alloc _).trans0 hk1).alloc _
 exact ⟨u,rfl,YC hu hkA.size,hkA.trans0 hk2⟩
theorem VAP (x:Int) (w:World):Calls Tryz.prog 21 #[.int .i64 x] w fun r w'=>∃ B:Nat,r = .returned (.agg #[.int .i64 (B:Nat),.int .i64 8,.int .i64 24])∧(B:Int)=1+x % 20∧1≤B∧B≤20∧Keep [] w w':=by
 have hR:=fun W=>Xa x 20 W (by omega) (by omega)
 have h1:=Int.emod_nonneg x (show (20:Int)≠0 by omega)
 have h2:=Int.emod_lt_of_pos x (show (0:Int)<20 by omega)
 obtain ⟨B,hB⟩:∃ B:Nat,(B:Int)=x % 20:=⟨(x % 20).toNat,by omega⟩
 rw [← hB] at hR
 have HB:=KB hB
 have hB20:B<20:=by omega
 clear hB h1 h2
 go_enter Tryz.func21,Tryz.ntmps21
 go_wp2_with (refine (hR _).mono ?_;clear hR;rintro r w' ⟨rfl,rfl⟩)
 have hb:=Blk.new w 27 #[.int .i64 (1+(B:Nat)),.int .i64 8,.int .i64 24]
 have g0:=hb.cell 0
 have g1:=hb.cell 1
 have g2:=hb.cell 2
 refine bodyPost_ret (v := .agg #[.int .i64 (1+(B:Nat)),.int .i64 8,.int .i64 24]) (by simp [results,Tryz.results21,go_sem]) rfl ⟨1+B,by simp,by rw [← XA HB];simp,by omega,by omega,(Keep.refl _ _).alloc _⟩
end
section
open Go.RowKit
theorem YAd (v:Nat) (hv:1≤v∧v≤2147483647):FrMay 9 v 0 0 0 0 0 []:=⟨by omega,.inr (.inr (.inr (.inr ⟨rfl,rfl,rfl,rfl,rfl,rfl,rfl⟩)))⟩
theorem Vo (v:Nat) (A:Option Addr) (m:Nat) (hv:1≤v∧v≤2147483647) (w:World) :
 Calls Tryz.prog 148 #[frv (9:Nat) v (0:Nat) (0:Nat) (0:Nat) (0:Nat) (0:Nat) (.slice A 0 m)] w fun r w'=>r = .returned (.bool true)∧Keep [] w w':=by
 have T1:=fun W=>VF (v:Nat) 1 2147483647 true (by simp;omega) W
 have T2:=fun W=>VF 0 1 2147483647 false (by simp) W
 have T3:=fun W=>VF 0 0 63 true (by simp) W
 unfold frv
 go_enter Tryz.func148,Tryz.ntmps148
 go_wp2_with (first
  | (refine (T1 _).mono ?_;clear T1;rintro r w' ⟨rfl,rfl⟩)
  | (refine (T2 _).mono ?_;clear T2;rintro r w' ⟨rfl,rfl⟩)
  | (refine (T3 _).mono ?_;clear T3;rintro r w' ⟨rfl,rfl⟩))
 go_ret
 exact ⟨rfl,(Keep.refl _ _).alloc _⟩
theorem KAs (v:Nat) (hv:1≤v∧v≤2147483647) (w:World) :
 Calls Tryz.prog 26 #[.int .i64 (v:Nat)] w fun r w'=>∃ u,r = .returned u∧w'.ownsRow w.heap.size 5 1 u 25 (bys (VH 9 v 0 0 0 0 0 []))∧Keep [] w w':=by
 have hB:=fun W=>Ye 9 v 0 0 0 0 0 none 0 0 [] W (Rd.nil _ _) (by omega) hv.2 (by omega) (by omega) (by omega) (by omega) (by omega) (by omega) (fun W=>Vo v none 0 hv W)
 unfold frv at hB
 clear hv
 go_enter Tryz.func26,Tryz.ntmps26
 go_wp2_with (
  (refine (hB _).mono ?_)
  clear hB
  rintro r w2 ⟨u,rfl,hu,hk2⟩)
 go_ret
 exact ⟨u,rfl,hu,hk2⟩
end
end Go.Proofs.YtkonbpfbjiepfaaGreat
