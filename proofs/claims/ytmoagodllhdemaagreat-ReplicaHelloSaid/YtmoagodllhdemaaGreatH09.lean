/-
  A part of the proof: lemmas, and contracts of functions; their conditions stand in them.
-/
import Derived.Test.YtmoagodllhdemaaGreatH08
import Derived.Test.YtmoagodllhdemaaGreatH05
namespace Go.Proofs.YtmoagodllhdemaaGreat
set_option linter.unusedSimpArgs false
set_option linter.unusedVariables false
set_option maxHeartbeats 8000000
set_option maxRecDepth 20000
section
open Go.RowKit
theorem Qq (A:Option Addr) (n c:Nat) (bs:List UInt8) (w:World) (ha:Rd w A n (bys bs)) (hn:25≤n) (hn2:n≤65536) :
 Calls Tryz.prog 43 #[.slice A n c] w (DecPost w bs):=by
 have hl:bs.length=n:=by simpa using ha.1
 have hFr:=YAH A n c bs (w.alloc (.cells #[.int .i64 0,.int .i64 0,.int .i64 0,.int .i64 0,.int .i64 0,.int .i64 0,.int .i64 0,.slice none 0 0] 85)) (ha.keep ((Keep.refl _ _).alloc _)) hn2
 have hF0:=Blk.new w 85 #[.int .i64 0,.int .i64 0,.int .i64 0,.int .i64 0,.int .i64 0,.int .i64 0,.int .i64 0,.slice none 0 0]
 obtain ⟨p0,hp0⟩:∃ q,q=(QJ bs).k:=⟨_,rfl⟩
 obtain ⟨p1,hp1⟩:∃ q,q=(QJ bs).v:=⟨_,rfl⟩
 obtain ⟨p2,hp2⟩:∃ q,q=(QJ bs).s:=⟨_,rfl⟩
 obtain ⟨p3,hp3⟩:∃ q,q=(QJ bs).b:=⟨_,rfl⟩
 obtain ⟨p4,hp4⟩:∃ q,q=(QJ bs).c:=⟨_,rfl⟩
 obtain ⟨p5,hp5⟩:∃ q,q=(QJ bs).e:=⟨_,rfl⟩
 obtain ⟨p6,hp6⟩:∃ q,q=(QJ bs).d:=⟨_,rfl⟩
 obtain ⟨p7,hp7⟩:∃ q,q=(QJ bs).data:=⟨_,rfl⟩
 have HP0:=JC hp0
 have HP1:=JC hp1
 have HP2:=JC hp2
 have HP3:=JC hp3
 have HP4:=JC hp4
 have HP5:=JC hp5
 have HP6:=JC hp6
 have HP7:=JC hp7
 have HL:=JC hl
 clear hp0 hp1 hp2 hp3 hp4 hp5 hp6 hp7 hl
 go_enter Tryz.func43,Tryz.ntmps43
 go_wp2_with (
  (refine hFr.mono ?_)
  clear hFr
  rintro x W ⟨r,v,rfl,hR,hkW⟩
  have hF:=hF0.keep0 hkW
  have hkw:Keep [] w W:=((Keep.refl _ _).alloc _).trans0 hkW
  have hFl:=hF.lt)
 have hb1:w.heap.size<(w.alloc (.cells #[.int .i64 0,.int .i64 0,.int .i64 0,.int .i64 0,.int .i64 0,.int .i64 0,.int .i64 0,.slice none 0 0] 85)).heap.size:=by simp
 generalize (w.alloc (.cells #[.int .i64 0,.int .i64 0,.int .i64 0,.int .i64 0,.int .i64 0,.int .i64 0,.int .i64 0,.slice none 0 0] 85)).heap.size=base at *
 have hFr:w.heap.size≠r:=by have:=hR.base;omega
 have hFr':w.heap.size∉[r]:=by simpa using hFr
 have hrn:∀ x∈[r],x∈([]:List Nat)∨w.heap.size≤x:=fun x hx => .inr (by have:=hR.base;simp at hx;omega)
 clear hF0 hkW
 have hT:=Vh W base r 0 2 v bs hR (by have:=JA HL;omega)
 go_wp2_with (
  (refine hT.mono ?_)
  clear hT
  rintro x W2 ⟨u,rfl,_,hR2,hk2⟩
  have hF2:=hF.keep hk2 hFr'
  have hkw2:=hkw.trans hk2 hrn
  have hFl2:=hF2.lt)
 clear hR hF hkw hFl
 have hT:=ZY _ base r 2 1 v bs hR2 (by omega) (by have:=JA HL;omega)
 rw [show num ((bs.drop 2).take 1)=p0 from (JA HP0).symm] at hT
 go_wp2_with (
  (refine hT.mono ?_)
  clear hT
  rintro x W3 ⟨rfl,hR,hk2⟩
  have hF:=hF2.keep hk2 hFr'
  have hkw:=hkw2.trans hk2 hrn
  have hFl:=hF.lt
  have hfz:=hF.frozen 0
  have hcc:=hF.cell 0)
 have hR3:=hR.far (F:=w.heap.size) (i:=0) hb1 (.int .i64 (p0:Nat))
 have hF3:=hF.set 0 (.int .i64 (p0:Nat))
 have hkw3:=hkw.setCell (p:=⟨w.heap.size,0,none⟩) (.inr (Nat.le_refl _)) (.int .i64 (p0:Nat))
 have hFl3:=hF3.lt
 clear hR hk2 hF hkw hFl hfz hcc hR2 hF2 hkw2 hFl2
 have hT:=ZY _ base r 3 4 v bs hR3 (by omega) (by have:=JA HL;omega)
 rw [show num ((bs.drop 3).take 4)=p1 from (JA HP1).symm] at hT
 go_wp2_with (
  (refine hT.mono ?_)
  clear hT
  rintro x W4 ⟨rfl,hR,hk2⟩
  have hF:=hF3.keep hk2 hFr'
  have hkw:=hkw3.trans hk2 hrn
  have hFl:=hF.lt
  have hfz:=hF.frozen 1
  have hcc:=hF.cell 1)
 have hR4:=hR.far (F:=w.heap.size) (i:=1) hb1 (.int .i64 (p1:Nat))
 have hF4:=hF.set 1 (.int .i64 (p1:Nat))
 have hkw4:=hkw.setCell (p:=⟨w.heap.size,1,none⟩) (.inr (Nat.le_refl _)) (.int .i64 (p1:Nat))
 have hFl4:=hF4.lt
 clear hR hk2 hF hkw hFl hfz hcc hR3 hF3 hkw3 hFl3
 have hT:=ZY _ base r 7 4 v bs hR4 (by omega) (by have:=JA HL;omega)
 rw [show num ((bs.drop 7).take 4)=p2 from (JA HP2).symm] at hT
 go_wp2_with (
  (refine hT.mono ?_)
  clear hT
  rintro x W5 ⟨rfl,hR,hk2⟩
  have hF:=hF4.keep hk2 hFr'
  have hkw:=hkw4.trans hk2 hrn
  have hFl:=hF.lt
  have hfz:=hF.frozen 2
  have hcc:=hF.cell 2)
 have hR5:=hR.far (F:=w.heap.size) (i:=2) hb1 (.int .i64 (p2:Nat))
 have hF5:=hF.set 2 (.int .i64 (p2:Nat))
 have hkw5:=hkw.setCell (p:=⟨w.heap.size,2,none⟩) (.inr (Nat.le_refl _)) (.int .i64 (p2:Nat))
 have hFl5:=hF5.lt
 clear hR hk2 hF hkw hFl hfz hcc hR4 hF4 hkw4 hFl4
 have hT:=ZY _ base r 11 1 v bs hR5 (by omega) (by have:=JA HL;omega)
 rw [show num ((bs.drop 11).take 1)=p3 from (JA HP3).symm] at hT
 go_wp2_with (
  (refine hT.mono ?_)
  clear hT
  rintro x W6 ⟨rfl,hR,hk2⟩
  have hF:=hF5.keep hk2 hFr'
  have hkw:=hkw5.trans hk2 hrn
  have hFl:=hF.lt
  have hfz:=hF.frozen 3
  have hcc:=hF.cell 3)
 have hR6:=hR.far (F:=w.heap.size) (i:=3) hb1 (.int .i64 (p3:Nat))
 have hF6:=hF.set 3 (.int .i64 (p3:Nat))
 have hkw6:=hkw.setCell (p:=⟨w.heap.size,3,none⟩) (.inr (Nat.le_refl _)) (.int .i64 (p3:Nat))
 have hFl6:=hF6.lt
 clear hR hk2 hF hkw hFl hfz hcc hR5 hF5 hkw5 hFl5
 have hT:=ZY _ base r 12 1 v bs hR6 (by omega) (by have:=JA HL;omega)
 rw [show num ((bs.drop 12).take 1)=p4 from (JA HP4).symm] at hT
 go_wp2_with (
  (refine hT.mono ?_)
  clear hT
  rintro x W7 ⟨rfl,hR,hk2⟩
  have hF:=hF6.keep hk2 hFr'
  have hkw:=hkw6.trans hk2 hrn
  have hFl:=hF.lt
  have hfz:=hF.frozen 4
  have hcc:=hF.cell 4)
 have hR7:=hR.far (F:=w.heap.size) (i:=4) hb1 (.int .i64 (p4:Nat))
 have hF7:=hF.set 4 (.int .i64 (p4:Nat))
 have hkw7:=hkw.setCell (p:=⟨w.heap.size,4,none⟩) (.inr (Nat.le_refl _)) (.int .i64 (p4:Nat))
 have hFl7:=hF7.lt
 clear hR hk2 hF hkw hFl hfz hcc hR6 hF6 hkw6 hFl6
 have hT:=ZY _ base r 13 4 v bs hR7 (by omega) (by have:=JA HL;omega)
 rw [show num ((bs.drop 13).take 4)=p5 from (JA HP5).symm] at hT
 go_wp2_with (
  (refine hT.mono ?_)
  clear hT
  rintro x W8 ⟨rfl,hR,hk2⟩
  have hF:=hF7.keep hk2 hFr'
  have hkw:=hkw7.trans hk2 hrn
  have hFl:=hF.lt
  have hfz:=hF.frozen 5
  have hcc:=hF.cell 5)
 have hR8:=hR.far (F:=w.heap.size) (i:=5) hb1 (.int .i64 (p5:Nat))
 have hF8:=hF.set 5 (.int .i64 (p5:Nat))
 have hkw8:=hkw.setCell (p:=⟨w.heap.size,5,none⟩) (.inr (Nat.le_refl _)) (.int .i64 (p5:Nat))
 have hFl8:=hF8.lt
 clear hR hk2 hF hkw hFl hfz hcc hR7 hF7 hkw7 hFl7
 have hT:=ZY _ base r 17 4 v bs hR8 (by omega) (by have:=JA HL;omega)
 rw [show num ((bs.drop 17).take 4)=p6 from (JA HP6).symm] at hT
 go_wp2_with (
  (refine hT.mono ?_)
  clear hT
  rintro x W9 ⟨rfl,hR,hk2⟩
  have hF:=hF8.keep hk2 hFr'
  have hkw:=hkw8.trans hk2 hrn
  have hFl:=hF.lt
  have hfz:=hF.frozen 6
  have hcc:=hF.cell 6)
 have hR9:=hR.far (F:=w.heap.size) (i:=6) hb1 (.int .i64 (p6:Nat))
 have hF9:=hF.set 6 (.int .i64 (p6:Nat))
 have hkw9:=hkw.setCell (p:=⟨w.heap.size,6,none⟩) (.inr (Nat.le_refl _)) (.int .i64 (p6:Nat))
 have hFl9:=hF9.lt
 clear hR hk2 hF hkw hFl hfz hcc hR8 hF8 hkw8 hFl8
 obtain ⟨m,hm⟩:∃ m,n=m+25:=⟨n-25,by omega⟩
 have hmb:m≤65536:=by omega
 have HMM:=JC hm
 clear hm
 have hT:=Vb _ base r 21 v bs hR9
 rw [show (((bs.length:Nat):Int)-((21:Nat):Int))=(m:Nat)+4 by have:=JA HL;have:=JA HMM;omega] at hT
 go_wp2_with (refine hT.mono ?_;clear hT;rintro x w' ⟨rfl,rfl⟩)
 have hT:=Vh _ base r 21 m v bs hR9.drew (by have:=JA HL;have:=JA HMM;omega)
 have hd:(bs.drop 21).take m=p7:=by rw [JA HP7];show _=(bs.drop 21).take (bs.length-25);congr 1;have:=JA HL;have:=JA HMM;omega
 rw [hd] at hT
 have HD:=JC hd
 clear hd
 go_wp2_with (
  (refine hT.mono ?_)
  clear hT
  rintro x W10 ⟨u,rfl,hu,hR,hk2⟩
  obtain ⟨UA,uc,rfl,_⟩:=KB hu
  have hF:=hF9.drew.keep hk2 hFr'
  have hkw:=hkw9.drew.trans hk2 hrn
  have hFl:=hF.lt
  have hfz:=hF.frozen 7
  have hcc:=hF.cell 7
  have hF10:Blk (W10.setCell ⟨w.heap.size,7,none⟩ (.slice UA m uc)) w.heap.size 85 #[.int .i64 p0,.int .i64 p1,.int .i64 p2,.int .i64 p3,.int .i64 p4,.int .i64 p5,.int .i64 p6,.slice UA m uc]:=(by simpa using hF.set 7 (.slice UA m uc))
  obtain ⟨e0,e1,e2,e3,e4,e5,e6,e7⟩:=XC hF10)
 have hkw10:=hkw.setCell (p:=⟨w.heap.size,7,none⟩) (.inr (Nat.le_refl _)) (.slice UA m uc)
 have hu10:(W10.setCell ⟨w.heap.size,7,none⟩ (.slice UA m uc)).ownsRow w.heap.size 5 1 (.slice UA m uc) m (bys p7):=own_set (KC hu hkw9.size) (fun hm=>own_blk_ne hu hF (by decide) (by simpa using hm)) _
 have hl10:=hF10.lt
 have hparse:QJ bs=⟨p0,p1,p2,p3,p4,p5,p6,p7⟩:=by rw [JA HP0,JA HP1,JA HP2,JA HP3,JA HP4,JA HP5,JA HP6,JA HP7]
 have hpl:p7.length=m:=by simpa using hu.1
 have HPA:=JC hparse
 have HPL:=JC hpl
 clear hparse hpl hF hkw hFl hfz hcc hk2 hR hR9 hF9 hkw9 hFl9
 by_cases hmay:FrMay p0 p1 p2 p3 p4 p5 p6 p7
 · have hE:=Xr p0 p1 p2 p3 p4 p5 p6 UA m uc p7 _ (Rd.of_own hu10) hmay
   unfold frv at hE
   have HMAY:=JC hmay
   clear hmay hFr hFr' hrn hb1
   by_cases heq:KE p0 p1 p2 p3 p4 p5 p6 p7=bs
   · have HEQ:=JC heq
     clear heq
     go_wp2_with (
      (refine hE.mono ?_)
      clear hE
      rintro x W11 ⟨y,rfl,hy,hk11⟩
      obtain ⟨YA,yc,rfl,_⟩:=KB hy
      have hF11:=hF10.keep0 hk11
      have hl11:=hF11.lt
      clear e0 e1 e2 e3 e4 e5 e6 e7
      obtain ⟨e0,e1,e2,e3,e4,e5,e6,e7⟩:=XC hF11
      have hB:=KT YA A (25+m) n yc c _ bs W11 (Rd.of_own hy) (ha.keep (hkw10.trans0 hk11))
      rw [decide_eq_true (JA HEQ)] at hB
      have q0:=hF11.frozen 0
      have q1:=hF11.frozen 1
      have q2:=hF11.frozen 2
      have q3:=hF11.frozen 3
      have q4:=hF11.frozen 4
      have q5:=hF11.frozen 5
      have q6:=hF11.frozen 6
      have q7:=hF11.frozen 7)
     go_wp2_with (refine hB.mono ?_;clear hB;rintro x w' ⟨rfl,rfl⟩)
     have h8:=hF11.put8 (.int .i64 p0) (.int .i64 p1) (.int .i64 p2) (.int .i64 p3) (.int .i64 p4) (.int .i64 p5) (.int .i64 p6) (.slice UA m uc)
     have hk8':=Keep.put8 W11 w.heap.size (.int .i64 p0) (.int .i64 p1) (.int .i64 p2) (.int .i64 p3) (.int .i64 p4) (.int .i64 p5) (.int .i64 p6) (.slice UA m uc)
     unfold put8 at h8 hk8'
     obtain ⟨g0,g1,g2,g3,g4,g5,g6,g7⟩:=XC h8
     have hfin:Keep [] w _:=(hkw10.trans0 hk11).trans hk8' (fun x hx => .inr (by simp at hx;omega))
     have hou:=JB (YB hu10 hk11) hk8' (fun g hg hm=>by
      have h1:=(own_mem hu (g:=g) (by simpa using hg)).1
      simp at hm
      subst hm
      exact own_blk_ne hu10 hF10 (by decide) hg)
     refine bodyPost_ret (v := .tuple #[.agg #[.int .i64 p0,.int .i64 p1,.int .i64 p2,.int .i64 p3,.int .i64 p4,.int .i64 p5,.int .i64 p6,.slice UA m uc],.int .i64 0]) ?_ rfl ?_
     · simp [results,Tryz.results43,go_sem,g0,g1,g2,g3,g4,g5,g6,g7]
     · exact DecPost.ok hfin (JA HPA) (JA HMAY) (JA HEQ) (by have:=JA HL;have:=JA HMM;omega) hou
   · have HEQ:=JC heq
     clear heq
     go_wp2_with (
      (refine hE.mono ?_)
      clear hE
      rintro x W11 ⟨y,rfl,hy,hk11⟩
      obtain ⟨YA,yc,rfl,_⟩:=KB hy
      have hF11:=hF10.keep0 hk11
      have hl11:=hF11.lt
      clear e0 e1 e2 e3 e4 e5 e6 e7
      obtain ⟨e0,e1,e2,e3,e4,e5,e6,e7⟩:=XC hF11
      have hB:=KT YA A (25+m) n yc c _ bs W11 (Rd.of_own hy) (ha.keep (hkw10.trans0 hk11))
      rw [decide_eq_false (JA HEQ)] at hB
      have q0:=hF11.frozen 0
      have q1:=hF11.frozen 1
      have q2:=hF11.frozen 2
      have q3:=hF11.frozen 3
      have q4:=hF11.frozen 4
      have q5:=hF11.frozen 5
      have q6:=hF11.frozen 6
      have q7:=hF11.frozen 7)
     go_wp2_with (refine hB.mono ?_;clear hB;rintro x w' ⟨rfl,rfl⟩)
     have h8:=hF11.put8 (.int .i64 0) (.int .i64 0) (.int .i64 0) (.int .i64 0) (.int .i64 0) (.int .i64 0) (.int .i64 0) (.slice none 0 0)
     have hk8':=Keep.put8 W11 w.heap.size (.int .i64 0) (.int .i64 0) (.int .i64 0) (.int .i64 0) (.int .i64 0) (.int .i64 0) (.int .i64 0) (.slice none 0 0)
     unfold put8 at h8 hk8'
     obtain ⟨g0,g1,g2,g3,g4,g5,g6,g7⟩:=XC h8
     have hfin:Keep [] w _:=(hkw10.trans0 hk11).trans hk8' (fun x hx => .inr (by simp at hx;omega))
     refine bodyPost_ret (v := .tuple #[.agg #[.int .i64 0,.int .i64 0,.int .i64 0,.int .i64 0,.int .i64 0,.int .i64 0,.int .i64 0,.slice none 0 0],.int .i64 2]) ?_ rfl ?_
     · simp [results,Tryz.results43,go_sem,g0,g1,g2,g3,g4,g5,g6,g7]
     · refine DecPost.bad hfin ?_
       rw [JA HPA]
       exact fun h=>JA HEQ h.2
 · have hE:=KAO p0 p1 p2 p3 p4 p5 p6 UA m uc p7 _ (Rd.of_own hu10) hmay
   unfold frv at hE
   go_wp2_with (
    (refine hE.mono ?_)
    clear hE
    rintro x W11 ⟨rfl,hk11⟩
    have hF11:=hF10.keep0 hk11
    have hl11:=hF11.lt
    clear e0 e1 e2 e3 e4 e5 e6 e7
    obtain ⟨e0,e1,e2,e3,e4,e5,e6,e7⟩:=XC hF11
    have q0:=hF11.frozen 0
    have q1:=hF11.frozen 1
    have q2:=hF11.frozen 2
    have q3:=hF11.frozen 3
    have q4:=hF11.frozen 4
    have q5:=hF11.frozen 5
    have q6:=hF11.frozen 6
    have q7:=hF11.frozen 7)
   have h8:=hF11.put8 (.int .i64 0) (.int .i64 0) (.int .i64 0) (.int .i64 0) (.int .i64 0) (.int .i64 0) (.int .i64 0) (.slice none 0 0)
   have hk8':=Keep.put8 W11 w.heap.size (.int .i64 0) (.int .i64 0) (.int .i64 0) (.int .i64 0) (.int .i64 0) (.int .i64 0) (.int .i64 0) (.slice none 0 0)
   unfold put8 at h8 hk8'
   obtain ⟨g0,g1,g2,g3,g4,g5,g6,g7⟩:=XC h8
   have hfin:Keep [] w _:=(hkw10.trans0 hk11).trans hk8' (fun x hx => .inr (by simp at hx;omega))
   refine bodyPost_ret (v := .tuple #[.agg #[.int .i64 0,.int .i64 0,.int .i64 0,.int .i64 0,.int .i64 0,.int .i64 0,.int .i64 0,.slice none 0 0],.int .i64 2]) ?_ rfl ?_
   · simp [results,Tryz.results43,go_sem,g0,g1,g2,g3,g4,g5,g6,g7]
   · refine DecPost.bad hfin ?_
     rw [JA HPA]
     exact fun h=>hmay h.1
end
section
open Go.RowKit
theorem ZAC (c:UInt8) (j:Nat) (hj:j<8) (q:Nat):(c ^^^ UInt8.ofNat (2 ^ j)).toNat.testBit q=(c.toNat.testBit q ^^ decide (j=q)):=by
 rw [UInt8.toNat_xor,Nat.testBit_xor]
 have h:(UInt8.ofNat (2 ^ j)).toNat=2 ^ j:=by
  have:2 ^ j<256:=by
   have:=Nat.pow_lt_pow_right (a:=2) (by omega) hj
   simpa using this
  simp [Nat.mod_eq_of_lt this]
 rw [h,Nat.testBit_two_pow]
@[simp] theorem length_turn1 (bs:List UInt8) (f:Nat):(Jm bs f).length=bs.length:=by simp [Jm]
theorem XAQ (k v s b c e d f:Nat) (data:List UInt8) (M:Nat) (hM:M=21+data.length) (hf:f<8*(M+4)) :
 ¬ ((QJ (Jm (KE k v s b c e d data) f)).May∧(QJ (Jm (KE k v s b c e d data) f)).bytes=Jm (KE k v s b c e d data) f):=by
 rintro ⟨_,h⟩
 obtain ⟨y,hy⟩:∃ y,y=KE k v s b c e d data:=⟨_,rfl⟩
 have hyl:y.length=M+4:=by rw [hy];simp;omega
 have hy2:y=y.take M++le 4 (VK (y.take M)):=by
  rw [hy,KE,List.take_left' (by simp;omega)]
 rw [← hy] at h
 have hi:f / 8<M+4:=by omega
 have hj:f % 8<8:=by omega
 obtain ⟨x,hx⟩:∃ x,x=Jm y f:=⟨_,rfl⟩
 have hxl:x.length=M+4:=by rw [hx,length_turn1,hyl]
 rw [← hx] at h
 have hx2:x=x.take M++le 4 (VK (x.take M)):=by
  have hd:(QJ x).data.length=data.length:=by simp [QJ,hxl];omega
  rw [Fr.bytes,KE] at h
  have hB:(VU (QJ x).k (QJ x).v (QJ x).s (QJ x).b (QJ x).c (QJ x).e (QJ x).d (QJ x).data).length=M:=by simp [hd];omega
  generalize VU (QJ x).k (QJ x).v (QJ x).s (QJ x).b (QJ x).c (QJ x).e (QJ x).d (QJ x).data=B at h hB
  rw [← h,List.take_left' hB]
 have hc:y.getD (f / 8) 0=y[f / 8]'(by omega):=by simp [List.getD_eq_getElem?_getD,hyl,hi]
 rw [Jm,hc] at hx
 rcases Nat.lt_or_ge (f / 8) M with h1 | h1
 · have e1:x.drop M=y.drop M:=(congrArg (List.drop M) hx).trans (List.drop_set_of_lt (by omega))
   have e2:x.take M=(y.take M).set (f / 8) (y[f / 8]'(by omega) ^^^ UInt8.ofNat (2 ^ (f % 8))):=(congrArg (List.take M) hx).trans List.take_set
   have e3:le 4 (VK (x.take M))=le 4 (VK (y.take M)):=by
    have a1:x.drop M=le 4 (VK (x.take M)):=by
     conv=>lhs;rw [hx2]
     rw [List.drop_left' (by simp;omega)]
    have a2:y.drop M=le 4 (VK (y.take M)):=by
     conv=>lhs;rw [hy2]
     rw [List.drop_left' (by simp;omega)]
    rw [← a1,← a2,e1]
   have e4:VK (x.take M)=VK (y.take M):=by
    have:=congrArg num e3
    rwa [ZAK _ _ (JS _),ZAK _ _ (JS _)] at this
   rw [e2] at e4
   refine Kt (y.take M) (f / 8) (f % 8) (by simp;omega) hj _ ?_ ?_ e4
   · intro q hq
     rw [ZAC _ _ hj,List.getElem_take,decide_eq_false (fun h=>hq h.symm),Bool.xor_false]
   · rw [ZAC _ _ hj,List.getElem_take,decide_eq_true rfl,Bool.xor_true]
     simp
 · have e1:x.take M=y.take M:=((congrArg (List.take M) hx).trans List.take_set).trans (List.set_eq_of_length_le (by simp;omega))
   have e2:x=y:=by rw [hx2,hy2,e1]
   have e3:x[f / 8]? = y[f / 8]? := by rw [e2]
   rw [hx,List.getElem?_set_self (by omega),List.getElem?_eq_getElem (by omega),Option.some.injEq] at e3
   have e4:=congrArg (fun c:UInt8=>c.toNat.testBit (f % 8)) e3
   simp only [ZAC _ _ hj] at e4
   simp at e4
end
section
open Go.RowKit
theorem Xf (v s k b c e n m:Nat) (A:Option Addr) (xs:List UInt8) (hv:1≤v∧v≤2147483647) (hs:1≤s∧s≤2147483647) (h:OpMay k b c e n) (w:World) (ha:Rd w A n (bys xs)) (hm:n≤m) :
 Calls Tryz.prog 13 #[.int .i64 (v:Nat),.int .i64 (s:Nat),.agg #[.int .i64 k,.int .i64 b,.int .i64 c,.int .i64 e,.slice A n m]] w fun r w'=>∃ u,r = .returned u∧w'.ownsRow w.heap.size 5 1 u (25+n) (bys (KE k v s b c e 0 xs))∧Keep [] w w':=by
 have hF:=KAC v s k b c e n m A xs hv hs h (w.alloc (.cells #[.int .i64 k,.int .i64 b,.int .i64 c,.int .i64 e,.slice A n m] 46)) (ha.keep ((Keep.refl _ _).alloc _)) hm
 have hn:n≤64:=by rcases h with ⟨_,_,_,_,h⟩ | ⟨_,_,_,_,_,h⟩ | ⟨_,_,_,_,_,h⟩ <;> omega
 have hbd:k≤9∧b≤63∧c≤64∧e≤2147483647:=by rcases h with ⟨_,_,_,_,h⟩ | ⟨_,_,_,_,_,h⟩ | ⟨_,_,_,_,_,h⟩ <;> omega
 have hB:=fun A m W (hr:Rd W A n (bys xs))=>Qd k v s b c e 0 A n m xs W hr hbd.1 hv.2 hs.2 hbd.2.1 hbd.2.2.1 hbd.2.2.2 (by omega) hn (fun W=>Vg v s k b c e n m A hv hs h W)
 unfold frv at hF hB
 clear h hv hs hbd
 go_enter Tryz.func13,Tryz.ntmps13
 go_wp2_with (first
  | (go_at_call 59
     refine hF.mono ?_
     clear hF
     rintro r w1 ⟨A',m',rfl,hr1,hm1,hk1⟩
     have hB1:=hB A' m' _ (hr1.keep ((Keep.refl _ _).alloc (.cells #[.int .i64 k,.int .i64 v,.int .i64 s,.int .i64 b,.int .i64 c,.int .i64 e,.int .i64 0,.slice A' n m'] 85)))
     clear hB)
  | (go_at_call 60
     refine hB1.mono ?_
     clear hB1
     rintro r w2 ⟨u,rfl,hu,hk2⟩))
 go_ret
 have hkA:Keep [] w (w1.alloc (.cells #[.int .i64 k,.int .i64 v,.int .i64 s,.int .i64 b,.int .i64 c,.int .i64 e,.int .i64 0,.slice A' n m'] 85)):=(((Keep.refl _ _).alloc _).trans0 hk1).alloc _
 exact ⟨u,rfl,KC hu hkA.size,hkA.trans0 hk2⟩
theorem YAh (A:Option Addr) (n c:Nat) (bs:List UInt8) (x:Int) (w:World) (ha:Rd w A n (bys bs)) (hn:1≤n) (hn2:n≤1000) (hnc:n≤c) :
 Calls Tryz.prog 29 #[.slice A n c,.int .i64 x] w fun r w'=>∃ u,r = .returned u∧w'.ownsRow w.heap.size 5 1 u n (bys (Jm bs (x % (8*n)).toNat))∧Keep [] w w':=by
 have hT:=VAO A n c bs x w ha hn hn2 hnc
 go_enter Tryz.func29,Tryz.ntmps29
 go_wp2_with (refine hT.mono ?_;clear hT;rintro r w1 ⟨u,rfl,hu,hk1⟩)
 go_ret
 exact ⟨u,rfl,hu,hk1⟩
theorem YAK (x:Int) (w:World):Calls Tryz.prog 9 #[.int .i64 x] w fun r w'=>∃ B:Nat,r = .returned (.agg #[.int .i64 (B:Nat),.int .i64 8,.int .i64 24])∧(B:Int)=1+x % 20∧1≤B∧B≤20∧Keep [] w w':=by
 have hR:=fun W=>QR x 20 W (by omega) (by omega)
 have h1:=Int.emod_nonneg x (show (20:Int)≠0 by omega)
 have h2:=Int.emod_lt_of_pos x (show (0:Int)<20 by omega)
 obtain ⟨B,hB⟩:∃ B:Nat,(B:Int)=x % 20:=⟨(x % 20).toNat,by omega⟩
 rw [← hB] at hR
 have HB:=JC hB
 have hB20:B<20:=by omega
 clear hB h1 h2
 go_enter Tryz.func9,Tryz.ntmps9
 go_wp2_with (refine (hR _).mono ?_;clear hR;rintro r w' ⟨rfl,rfl⟩)
 have hb:=Blk.new w 28 #[.int .i64 (1+(B:Nat)),.int .i64 8,.int .i64 24]
 have g0:=hb.cell 0
 have g1:=hb.cell 1
 have g2:=hb.cell 2
 refine bodyPost_ret (v := .agg #[.int .i64 (1+(B:Nat)),.int .i64 8,.int .i64 24]) (by simp [results,Tryz.results9,go_sem]) rfl ⟨1+B,by simp,by rw [← JA HB];simp,by omega,by omega,(Keep.refl _ _).alloc _⟩
end
section
open Go.RowKit
theorem Zk (v:Nat) (A:Option Addr) (m:Nat) (hv:1≤v∧v≤2147483647) (w:World) :
 Calls Tryz.prog 122 #[frv (9:Nat) v (0:Nat) (0:Nat) (0:Nat) (0:Nat) (0:Nat) (.slice A 0 m)] w fun r w'=>r = .returned (.bool true)∧Keep [] w w':=by
 have T1:=fun W=>KD (v:Nat) 1 2147483647 true (by simp;omega) W
 have T2:=fun W=>KD 0 1 2147483647 false (by simp) W
 have T3:=fun W=>KD 0 0 63 true (by simp) W
 unfold frv
 go_enter Tryz.func122,Tryz.ntmps122
 go_wp2_with (first
  | (refine (T1 _).mono ?_;clear T1;rintro r w' ⟨rfl,rfl⟩)
  | (refine (T2 _).mono ?_;clear T2;rintro r w' ⟨rfl,rfl⟩)
  | (refine (T3 _).mono ?_;clear T3;rintro r w' ⟨rfl,rfl⟩))
 go_ret
 exact ⟨rfl,(Keep.refl _ _).alloc _⟩
theorem YAJ (v:Nat) (hv:1≤v∧v≤2147483647) (w:World) :
 Calls Tryz.prog 20 #[.int .i64 (v:Nat)] w fun r w'=>∃ u,r = .returned u∧w'.ownsRow w.heap.size 5 1 u 25 (bys (KE 9 v 0 0 0 0 0 []))∧Keep [] w w':=by
 have hB:=fun W=>Qd 9 v 0 0 0 0 0 none 0 0 [] W (Rd.nil _ _) (by omega) hv.2 (by omega) (by omega) (by omega) (by omega) (by omega) (by omega) (fun W=>Zk v none 0 hv W)
 unfold frv at hB
 clear hv
 go_enter Tryz.func20,Tryz.ntmps20
 go_wp2_with (
  (refine (hB _).mono ?_)
  clear hB
  rintro r w2 ⟨u,rfl,hu,hk2⟩)
 go_ret
 exact ⟨u,rfl,hu,hk2⟩
end
end Go.Proofs.YtmoagodllhdemaaGreat
