/-
  A part of the proof: lemmas, and contracts of functions; their conditions stand in them.
-/
import Derived.Test.YtmoagodllhdemaaGreatE08
import Derived.Test.YtmoagodllhdemaaGreatE05
namespace Go.Proofs.YtmoagodllhdemaaGreat
set_option linter.unusedSimpArgs false
set_option linter.unusedVariables false
set_option maxHeartbeats 8000000
set_option maxRecDepth 20000
section
open Go.RowKit
theorem Vm (A:Option Addr) (n c:Nat) (bs:List UInt8) (w:World) (ha:Rd w A n (bys bs)) (hn:25≤n) (hn2:n≤65536) :
 Calls Tryz.prog 43 #[.slice A n c] w (DecPost w bs):=by
 have hl:bs.length=n:=by simpa using ha.1
 have hFr:=QAE A n c bs (w.alloc (.cells #[.int .i64 0,.int .i64 0,.int .i64 0,.int .i64 0,.int .i64 0,.int .i64 0,.int .i64 0,.slice none 0 0] 85)) (ha.keep ((Keep.refl _ _).alloc _)) hn2
 have hF0:=Blk.new w 85 #[.int .i64 0,.int .i64 0,.int .i64 0,.int .i64 0,.int .i64 0,.int .i64 0,.int .i64 0,.slice none 0 0]
 obtain ⟨p0,hp0⟩:∃ q,q=(QN bs).k:=⟨_,rfl⟩
 obtain ⟨p1,hp1⟩:∃ q,q=(QN bs).v:=⟨_,rfl⟩
 obtain ⟨p2,hp2⟩:∃ q,q=(QN bs).s:=⟨_,rfl⟩
 obtain ⟨p3,hp3⟩:∃ q,q=(QN bs).b:=⟨_,rfl⟩
 obtain ⟨p4,hp4⟩:∃ q,q=(QN bs).c:=⟨_,rfl⟩
 obtain ⟨p5,hp5⟩:∃ q,q=(QN bs).e:=⟨_,rfl⟩
 obtain ⟨p6,hp6⟩:∃ q,q=(QN bs).d:=⟨_,rfl⟩
 obtain ⟨p7,hp7⟩:∃ q,q=(QN bs).data:=⟨_,rfl⟩
 have HP0:=JC hp0
 have HP1:=JC hp1
 have HP2:=JC hp2
 have HP3:=JC hp3
 have HP4:=JC hp4
 have HP5:=JC hp5
 have HP6:=JC hp6
 have HP7:=JC hp7
 have HL:=JC hl
 clear hp0 hp1 hp2 hp3 hp4 hp5 hp6 hp7 hl
 go_enter Tryz.func43,Tryz.ntmps43
 go_wp2_with (
  (refine hFr.mono ?_)
  clear hFr
  rintro x W ⟨r,v,rfl,hR,hkW⟩
  have hF:=hF0.keep0 hkW
  have hkw:Keep [] w W:=((Keep.refl _ _).alloc _).trans0 hkW
  have hFl:=hF.lt)
 have hb1:w.heap.size<(w.alloc (.cells #[.int .i64 0,.int .i64 0,.int .i64 0,.int .i64 0,.int .i64 0,.int .i64 0,.int .i64 0,.slice none 0 0] 85)).heap.size:=by simp
 generalize (w.alloc (.cells #[.int .i64 0,.int .i64 0,.int .i64 0,.int .i64 0,.int .i64 0,.int .i64 0,.int .i64 0,.slice none 0 0] 85)).heap.size=base at *
 have hFr:w.heap.size≠r:=by have:=hR.base;omega
 have hFr':w.heap.size∉[r]:=by simpa using hFr
 have hrn:∀ x∈[r],x∈([]:List Nat)∨w.heap.size≤x:=fun x hx => .inr (by have:=hR.base;simp at hx;omega)
 clear hF0 hkW
 have hT:=Vd W base r 0 2 v bs hR (by have:=JA HL;omega)
 go_wp2_with (
  (refine hT.mono ?_)
  clear hT
  rintro x W2 ⟨u,rfl,_,hR2,hk2⟩
  have hF2:=hF.keep hk2 hFr'
  have hkw2:=hkw.trans hk2 hrn
  have hFl2:=hF2.lt)
 clear hR hF hkw hFl
 have hT:=KU _ base r 2 1 v bs hR2 (by omega) (by have:=JA HL;omega)
 rw [show num ((bs.drop 2).take 1)=p0 from (JA HP0).symm] at hT
 go_wp2_with (
  (refine hT.mono ?_)
  clear hT
  rintro x W3 ⟨rfl,hR,hk2⟩
  have hF:=hF2.keep hk2 hFr'
  have hkw:=hkw2.trans hk2 hrn
  have hFl:=hF.lt
  have hfz:=hF.frozen 0
  have hcc:=hF.cell 0)
 have hR3:=hR.far (F:=w.heap.size) (i:=0) hb1 (.int .i64 (p0:Nat))
 have hF3:=hF.set 0 (.int .i64 (p0:Nat))
 have hkw3:=hkw.setCell (p:=⟨w.heap.size,0,none⟩) (.inr (Nat.le_refl _)) (.int .i64 (p0:Nat))
 have hFl3:=hF3.lt
 clear hR hk2 hF hkw hFl hfz hcc hR2 hF2 hkw2 hFl2
 have hT:=KU _ base r 3 4 v bs hR3 (by omega) (by have:=JA HL;omega)
 rw [show num ((bs.drop 3).take 4)=p1 from (JA HP1).symm] at hT
 go_wp2_with (
  (refine hT.mono ?_)
  clear hT
  rintro x W4 ⟨rfl,hR,hk2⟩
  have hF:=hF3.keep hk2 hFr'
  have hkw:=hkw3.trans hk2 hrn
  have hFl:=hF.lt
  have hfz:=hF.frozen 1
  have hcc:=hF.cell 1)
 have hR4:=hR.far (F:=w.heap.size) (i:=1) hb1 (.int .i64 (p1:Nat))
 have hF4:=hF.set 1 (.int .i64 (p1:Nat))
 have hkw4:=hkw.setCell (p:=⟨w.heap.size,1,none⟩) (.inr (Nat.le_refl _)) (.int .i64 (p1:Nat))
 have hFl4:=hF4.lt
 clear hR hk2 hF hkw hFl hfz hcc hR3 hF3 hkw3 hFl3
 have hT:=KU _ base r 7 4 v bs hR4 (by omega) (by have:=JA HL;omega)
 rw [show num ((bs.drop 7).take 4)=p2 from (JA HP2).symm] at hT
 go_wp2_with (
  (refine hT.mono ?_)
  clear hT
  rintro x W5 ⟨rfl,hR,hk2⟩
  have hF:=hF4.keep hk2 hFr'
  have hkw:=hkw4.trans hk2 hrn
  have hFl:=hF.lt
  have hfz:=hF.frozen 2
  have hcc:=hF.cell 2)
 have hR5:=hR.far (F:=w.heap.size) (i:=2) hb1 (.int .i64 (p2:Nat))
 have hF5:=hF.set 2 (.int .i64 (p2:Nat))
 have hkw5:=hkw.setCell (p:=⟨w.heap.size,2,none⟩) (.inr (Nat.le_refl _)) (.int .i64 (p2:Nat))
 have hFl5:=hF5.lt
 clear hR hk2 hF hkw hFl hfz hcc hR4 hF4 hkw4 hFl4
 have hT:=KU _ base r 11 1 v bs hR5 (by omega) (by have:=JA HL;omega)
 rw [show num ((bs.drop 11).take 1)=p3 from (JA HP3).symm] at hT
 go_wp2_with (
  (refine hT.mono ?_)
  clear hT
  rintro x W6 ⟨rfl,hR,hk2⟩
  have hF:=hF5.keep hk2 hFr'
  have hkw:=hkw5.trans hk2 hrn
  have hFl:=hF.lt
  have hfz:=hF.frozen 3
  have hcc:=hF.cell 3)
 have hR6:=hR.far (F:=w.heap.size) (i:=3) hb1 (.int .i64 (p3:Nat))
 have hF6:=hF.set 3 (.int .i64 (p3:Nat))
 have hkw6:=hkw.setCell (p:=⟨w.heap.size,3,none⟩) (.inr (Nat.le_refl _)) (.int .i64 (p3:Nat))
 have hFl6:=hF6.lt
 clear hR hk2 hF hkw hFl hfz hcc hR5 hF5 hkw5 hFl5
 have hT:=KU _ base r 12 1 v bs hR6 (by omega) (by have:=JA HL;omega)
 rw [show num ((bs.drop 12).take 1)=p4 from (JA HP4).symm] at hT
 go_wp2_with (
  (refine hT.mono ?_)
  clear hT
  rintro x W7 ⟨rfl,hR,hk2⟩
  have hF:=hF6.keep hk2 hFr'
  have hkw:=hkw6.trans hk2 hrn
  have hFl:=hF.lt
  have hfz:=hF.frozen 4
  have hcc:=hF.cell 4)
 have hR7:=hR.far (F:=w.heap.size) (i:=4) hb1 (.int .i64 (p4:Nat))
 have hF7:=hF.set 4 (.int .i64 (p4:Nat))
 have hkw7:=hkw.setCell (p:=⟨w.heap.size,4,none⟩) (.inr (Nat.le_refl _)) (.int .i64 (p4:Nat))
 have hFl7:=hF7.lt
 clear hR hk2 hF hkw hFl hfz hcc hR6 hF6 hkw6 hFl6
 have hT:=KU _ base r 13 4 v bs hR7 (by omega) (by have:=JA HL;omega)
 rw [show num ((bs.drop 13).take 4)=p5 from (JA HP5).symm] at hT
 go_wp2_with (
  (refine hT.mono ?_)
  clear hT
  rintro x W8 ⟨rfl,hR,hk2⟩
  have hF:=hF7.keep hk2 hFr'
  have hkw:=hkw7.trans hk2 hrn
  have hFl:=hF.lt
  have hfz:=hF.frozen 5
  have hcc:=hF.cell 5)
 have hR8:=hR.far (F:=w.heap.size) (i:=5) hb1 (.int .i64 (p5:Nat))
 have hF8:=hF.set 5 (.int .i64 (p5:Nat))
 have hkw8:=hkw.setCell (p:=⟨w.heap.size,5,none⟩) (.inr (Nat.le_refl _)) (.int .i64 (p5:Nat))
 have hFl8:=hF8.lt
 clear hR hk2 hF hkw hFl hfz hcc hR7 hF7 hkw7 hFl7
 have hT:=KU _ base r 17 4 v bs hR8 (by omega) (by have:=JA HL;omega)
 rw [show num ((bs.drop 17).take 4)=p6 from (JA HP6).symm] at hT
 go_wp2_with (
  (refine hT.mono ?_)
  clear hT
  rintro x W9 ⟨rfl,hR,hk2⟩
  have hF:=hF8.keep hk2 hFr'
  have hkw:=hkw8.trans hk2 hrn
  have hFl:=hF.lt
  have hfz:=hF.frozen 6
  have hcc:=hF.cell 6)
 have hR9:=hR.far (F:=w.heap.size) (i:=6) hb1 (.int .i64 (p6:Nat))
 have hF9:=hF.set 6 (.int .i64 (p6:Nat))
 have hkw9:=hkw.setCell (p:=⟨w.heap.size,6,none⟩) (.inr (Nat.le_refl _)) (.int .i64 (p6:Nat))
 have hFl9:=hF9.lt
 clear hR hk2 hF hkw hFl hfz hcc hR8 hF8 hkw8 hFl8
 obtain ⟨m,hm⟩:∃ m,n=m+25:=⟨n-25,by omega⟩
 have hmb:m≤65536:=by omega
 have HMM:=JC hm
 clear hm
 have hT:=KX _ base r 21 v bs hR9
 rw [show (((bs.length:Nat):Int)-((21:Nat):Int))=(m:Nat)+4 by have:=JA HL;have:=JA HMM;omega] at hT
 go_wp2_with (refine hT.mono ?_;clear hT;rintro x w' ⟨rfl,rfl⟩)
 have hT:=Vd _ base r 21 m v bs hR9.drew (by have:=JA HL;have:=JA HMM;omega)
 have hd:(bs.drop 21).take m=p7:=by rw [JA HP7];show _=(bs.drop 21).take (bs.length-25);congr 1;have:=JA HL;have:=JA HMM;omega
 rw [hd] at hT
 have HD:=JC hd
 clear hd
 go_wp2_with (
  (refine hT.mono ?_)
  clear hT
  rintro x W10 ⟨u,rfl,hu,hR,hk2⟩
  obtain ⟨UA,uc,rfl,_⟩:=JB hu
  have hF:=hF9.drew.keep hk2 hFr'
  have hkw:=hkw9.drew.trans hk2 hrn
  have hFl:=hF.lt
  have hfz:=hF.frozen 7
  have hcc:=hF.cell 7
  have hF10:Blk (W10.setCell ⟨w.heap.size,7,none⟩ (.slice UA m uc)) w.heap.size 85 #[.int .i64 p0,.int .i64 p1,.int .i64 p2,.int .i64 p3,.int .i64 p4,.int .i64 p5,.int .i64 p6,.slice UA m uc]:=(by simpa using hF.set 7 (.slice UA m uc))
  obtain ⟨e0,e1,e2,e3,e4,e5,e6,e7⟩:=YB hF10)
 have hkw10:=hkw.setCell (p:=⟨w.heap.size,7,none⟩) (.inr (Nat.le_refl _)) (.slice UA m uc)
 have hu10:(W10.setCell ⟨w.heap.size,7,none⟩ (.slice UA m uc)).ownsRow w.heap.size 5 1 (.slice UA m uc) m (bys p7):=own_set (YC hu hkw9.size) (fun hm=>own_blk_ne hu hF (by decide) (by simpa using hm)) _
 have hl10:=hF10.lt
 have hparse:QN bs=⟨p0,p1,p2,p3,p4,p5,p6,p7⟩:=by rw [JA HP0,JA HP1,JA HP2,JA HP3,JA HP4,JA HP5,JA HP6,JA HP7]
 have hpl:p7.length=m:=by simpa using hu.1
 have HPA:=JC hparse
 have HPL:=JC hpl
 clear hparse hpl hF hkw hFl hfz hcc hk2 hR hR9 hF9 hkw9 hFl9
 by_cases hmay:FrMay p0 p1 p2 p3 p4 p5 p6 p7
 · have hE:=QR p0 p1 p2 p3 p4 p5 p6 UA m uc p7 _ (Rd.of_own hu10) hmay
   unfold frv at hE
   have HMAY:=JC hmay
   clear hmay hFr hFr' hrn hb1
   by_cases heq:QF p0 p1 p2 p3 p4 p5 p6 p7=bs
   · have HEQ:=JC heq
     clear heq
     go_wp2_with (
      (refine hE.mono ?_)
      clear hE
      rintro x W11 ⟨y,rfl,hy,hk11⟩
      obtain ⟨YA,yc,rfl,_⟩:=JB hy
      have hF11:=hF10.keep0 hk11
      have hl11:=hF11.lt
      clear e0 e1 e2 e3 e4 e5 e6 e7
      obtain ⟨e0,e1,e2,e3,e4,e5,e6,e7⟩:=YB hF11
      have hB:=ZQ YA A (25+m) n yc c _ bs W11 (Rd.of_own hy) (ha.keep (hkw10.trans0 hk11))
      rw [decide_eq_true (JA HEQ)] at hB
      have q0:=hF11.frozen 0
      have q1:=hF11.frozen 1
      have q2:=hF11.frozen 2
      have q3:=hF11.frozen 3
      have q4:=hF11.frozen 4
      have q5:=hF11.frozen 5
      have q6:=hF11.frozen 6
      have q7:=hF11.frozen 7)
     go_wp2_with (refine hB.mono ?_;clear hB;rintro x w' ⟨rfl,rfl⟩)
     have h8:=hF11.put8 (.int .i64 p0) (.int .i64 p1) (.int .i64 p2) (.int .i64 p3) (.int .i64 p4) (.int .i64 p5) (.int .i64 p6) (.slice UA m uc)
     have hk8':=Keep.put8 W11 w.heap.size (.int .i64 p0) (.int .i64 p1) (.int .i64 p2) (.int .i64 p3) (.int .i64 p4) (.int .i64 p5) (.int .i64 p6) (.slice UA m uc)
     unfold put8 at h8 hk8'
     obtain ⟨g0,g1,g2,g3,g4,g5,g6,g7⟩:=YB h8
     have hfin:Keep [] w _:=(hkw10.trans0 hk11).trans hk8' (fun x hx => .inr (by simp at hx;omega))
     have hou:=QB (XB hu10 hk11) hk8' (fun g hg hm=>by
      have h1:=(own_mem hu (g:=g) (by simpa using hg)).1
      simp at hm
      subst hm
      exact own_blk_ne hu10 hF10 (by decide) hg)
     refine bodyPost_ret (v := .tuple #[.agg #[.int .i64 p0,.int .i64 p1,.int .i64 p2,.int .i64 p3,.int .i64 p4,.int .i64 p5,.int .i64 p6,.slice UA m uc],.int .i64 0]) ?_ rfl ?_
     · simp [results,Tryz.results43,go_sem,g0,g1,g2,g3,g4,g5,g6,g7]
     · exact DecPost.ok hfin (JA HPA) (JA HMAY) (JA HEQ) (by have:=JA HL;have:=JA HMM;omega) hou
   · have HEQ:=JC heq
     clear heq
     go_wp2_with (
      (refine hE.mono ?_)
      clear hE
      rintro x W11 ⟨y,rfl,hy,hk11⟩
      obtain ⟨YA,yc,rfl,_⟩:=JB hy
      have hF11:=hF10.keep0 hk11
      have hl11:=hF11.lt
      clear e0 e1 e2 e3 e4 e5 e6 e7
      obtain ⟨e0,e1,e2,e3,e4,e5,e6,e7⟩:=YB hF11
      have hB:=ZQ YA A (25+m) n yc c _ bs W11 (Rd.of_own hy) (ha.keep (hkw10.trans0 hk11))
      rw [decide_eq_false (JA HEQ)] at hB
      have q0:=hF11.frozen 0
      have q1:=hF11.frozen 1
      have q2:=hF11.frozen 2
      have q3:=hF11.frozen 3
      have q4:=hF11.frozen 4
      have q5:=hF11.frozen 5
      have q6:=hF11.frozen 6
      have q7:=hF11.frozen 7)
     go_wp2_with (refine hB.mono ?_;clear hB;rintro x w' ⟨rfl,rfl⟩)
     have h8:=hF11.put8 (.int .i64 0) (.int .i64 0) (.int .i64 0) (.int .i64 0) (.int .i64 0) (.int .i64 0) (.int .i64 0) (.slice none 0 0)
     have hk8':=Keep.put8 W11 w.heap.size (.int .i64 0) (.int .i64 0) (.int .i64 0) (.int .i64 0) (.int .i64 0) (.int .i64 0) (.int .i64 0) (.slice none 0 0)
     unfold put8 at h8 hk8'
     obtain ⟨g0,g1,g2,g3,g4,g5,g6,g7⟩:=YB h8
     have hfin:Keep [] w _:=(hkw10.trans0 hk11).trans hk8' (fun x hx => .inr (by simp at hx;omega))
     refine bodyPost_ret (v := .tuple #[.agg #[.int .i64 0,.int .i64 0,.int .i64 0,.int .i64 0,.int .i64 0,.int .i64 0,.int .i64 0,.slice none 0 0],.int .i64 2]) ?_ rfl ?_
     · simp [results,Tryz.results43,go_sem,g0,g1,g2,g3,g4,g5,g6,g7]
     · refine DecPost.bad hfin ?_
       rw [JA HPA]
       exact fun h=>JA HEQ h.2
 · have hE:=VAH p0 p1 p2 p3 p4 p5 p6 UA m uc p7 _ (Rd.of_own hu10) hmay
   unfold frv at hE
   go_wp2_with (
    (refine hE.mono ?_)
    clear hE
    rintro x W11 ⟨rfl,hk11⟩
    have hF11:=hF10.keep0 hk11
    have hl11:=hF11.lt
    clear e0 e1 e2 e3 e4 e5 e6 e7
    obtain ⟨e0,e1,e2,e3,e4,e5,e6,e7⟩:=YB hF11
    have q0:=hF11.frozen 0
    have q1:=hF11.frozen 1
    have q2:=hF11.frozen 2
    have q3:=hF11.frozen 3
    have q4:=hF11.frozen 4
    have q5:=hF11.frozen 5
    have q6:=hF11.frozen 6
    have q7:=hF11.frozen 7)
   have h8:=hF11.put8 (.int .i64 0) (.int .i64 0) (.int .i64 0) (.int .i64 0) (.int .i64 0) (.int .i64 0) (.int .i64 0) (.slice none 0 0)
   have hk8':=Keep.put8 W11 w.heap.size (.int .i64 0) (.int .i64 0) (.int .i64 0) (.int .i64 0) (.int .i64 0) (.int .i64 0) (.int .i64 0) (.slice none 0 0)
   unfold put8 at h8 hk8'
   obtain ⟨g0,g1,g2,g3,g4,g5,g6,g7⟩:=YB h8
   have hfin:Keep [] w _:=(hkw10.trans0 hk11).trans hk8' (fun x hx => .inr (by simp at hx;omega))
   refine bodyPost_ret (v := .tuple #[.agg #[.int .i64 0,.int .i64 0,.int .i64 0,.int .i64 0,.int .i64 0,.int .i64 0,.int .i64 0,.slice none 0 0],.int .i64 2]) ?_ rfl ?_
   · simp [results,Tryz.results43,go_sem,g0,g1,g2,g3,g4,g5,g6,g7]
   · refine DecPost.bad hfin ?_
     rw [JA HPA]
     exact fun h=>hmay h.1
theorem decodeWord:DecodeWord:=fun A n c bs w ha hn hn2=>Vm A n c bs w ha hn hn2
end
section
open Go.RowKit
@[simp] theorem length_turn1 (bs:List UInt8) (f:Nat):(YAs bs f).length=bs.length:=by simp [YAs]
end
end Go.Proofs.YtmoagodllhdemaaGreat
