/-
  A part of the proof: lemmas, and contracts of functions; their conditions stand in them.
-/
import Derived.Test.YtmoagodllhdemaaGreatH37
import Derived.Test.YtmoagodllhdemaaGreatH30
import Derived.Test.YtmoagodllhdemaaGreatH32
import Derived.Test.YtmoagodllhdemaaGreatH33
import Derived.Test.YtmoagodllhdemaaGreatH29
namespace Go.Proofs.YtmoagodllhdemaaGreat
set_option linter.unusedSimpArgs false
set_option linter.unusedVariables false
set_option maxHeartbeats 8000000
set_option maxRecDepth 100000
section
open Go.RowKit Go.Shelf
theorem StoreIs.setLie {w w':World} {base s d g t p m:Nat} {Fd Ft Fw Fm:List Nat} {L0 L1:Value} {B:Nat} {S:PS} (h:StoreIs w base s d g t p m Fd Ft Fw Fm L0 L1 B S) (gen' slot':Nat) (V0 V1:Value) (l0 l1:List Nat)
 (hb:Blk w' s 119 #[.pointer (some ⟨d,0,none⟩),.pointer (some ⟨g,0,none⟩),.pointer (some ⟨t,0,none⟩),.pointer (some ⟨m,0,none⟩),.pointer (some ⟨p,0,none⟩),
 .int .i64 S.st.mode,.int .i64 S.st.view,.int .i64 S.st.epoch,.int .i64 S.st.seq,.int .i64 S.st.done,.int .i64 S.st.mount,.int .i64 gen',.int .i64 0,.int .i64 0,.int .i64 0,.int .i64 slot',V0,V1]) (hk:Keep [s] w w')
 (h0:w.ownsRow base 3 1 V0 (pgs B) (KM l0)) (h1:w.ownsRow base 3 1 V1 (pgs B) (KM l1)) (ha:Apart (V0.ownBlock.toList++V1.ownBlock.toList) (s :: g :: (Fd++(Ft++(Fw++Fm))))) :
 StoreIs w' base s d g t p m Fd Ft Fw Fm V0 V1 B { S with st:={ S.st with gen:=gen' },slot:=slot',lie0:=l0,lie1:=l1 }:=by
 have hx:∀ x,x∈g :: (Fd++(Ft++(Fw++Fm)))→x∉[s]:=fun x hx hm=>by
  simp at hm;subst hm;exact h.aps hx
 have hl:∀ x∈V0.ownBlock.toList++V1.ownBlock.toList,x∉[s]:=fun x hx hm=>ha x hx (by simp at hm;simp [hm])
 exact ⟨hb,h.log.keep hk (hx _ (by simp)) (fun x hy=>hx x (by simp [hy])) (fun x hy=>hx x (by simp [hy])) (fun x hy=>hx x (by simp [hy])),h.img.keep hk (fun x hy=>hx x (by simp [hy])),h.blen,
  JB h0 hk (fun x hy=>hl x (List.mem_append_left _ (by simpa using hy))),JB h1 hk (fun x hy=>hl x (List.mem_append_right _ (by simpa using hy))),h.sbase,h.gbase,h.apm,h.aps,ha⟩
def LieAt (W:World) (N B:Nat) (F:List Nat) (V:Value) (l:List Nat):Prop:=∃ A c,V = .slice A (pgs B) c∧W.ownsRow N 3 1 V (pgs B) (KM l)∧(∀ x∈l,x≤1)∧Apart F V.ownBlock.toList
theorem LieAt.keep {W W':World} {N B:Nat} {F F' k:List Nat} {V:Value} {l:List Nat} (h:LieAt W N B F V l) (hk:Keep k W W') (ha:Apart k V.ownBlock.toList) (hg:Grow W F F'):LieAt W' N B F' V l:=by
 obtain ⟨A,c,h1,h2,h3,h4⟩:=h
 refine ⟨A,c,h1,JB h2 hk (fun g hg hm=>ha g hm (by simp [hg])),h3,fun x hx hm=>(hg x hx).elim (fun hx=>h4 x hx hm) (fun hx=>?_)⟩
 have:=(own_mem h2 hm).2
 omega
theorem Xu (w:World) (base s d g t p m:Nat) (Fd Ft Fw Fm:List Nat) (L0 L1:Value) (B:Nat) (S:PS) (h:StoreIs w base s d g t p m Fd Ft Fw Fm L0 L1 B S)
 (ho:S.W.Ok) (hlsn:S.W.pos.lsn<2147483647) (ha:S.D.acts≤1000000) (hs:S.slot≤1) (hl0:∀ x∈S.lie0,x≤1) (hl1:∀ x∈S.lie1,x≤1)
 (hE:∀ D2 us2 W2,Emitted B S.D S.us S.W D2 us2 W2→PReg.May ⟨S.st.gen+1,S.st.view,S.st.mode,S.st.epoch,S.st.seq,S.st.done,W2.pos⟩∧YT (XR us2 S.lv 8) W2.pos.seg∧D2.acts≤1000100) :
 Calls Tryz.prog 64 #[.pointer (some ⟨s,0,none⟩)] w fun e w'=>∃ u n ns Fd' Fw' L0' L1' D1 us1 W1 D' l0 l1,e = .returned (.tuple #[u,.int .i64 0])∧w'.ownsRow w.heap.size 3 1 u n (KM ns) ∧
  Emitted B S.D S.us S.W D1 us1 W1∧MetaD (6+4*pgs B) D1 D' (2*pgs B+4)∧(∀ x∈l0,x≤1)∧(∀ x∈l1,x≤1) ∧
  StoreIs w' base s d g t p m Fd' Ft Fw' Fm L0' L1' B ⟨D',XR us1 S.lv 8,S.lv,W1,⟨S.I.bl,List.replicate S.I.bd.length false,S.I.ol,List.replicate S.I.od.length false⟩,{ S.st with gen:=S.st.gen+1 },1-S.slot,l0,l1⟩ ∧
  Keep (VL s g Fd Ft Fw Fm L0 L1) w w'∧Grow w (VL s g Fd Ft Fw Fm L0 L1) (VL s g Fd' Ft Fw' Fm L0' L1'):=by
 have hA:=Xc w base s d g t p m Fd Ft Fw Fm L0 L1 B S h 0 (.inl rfl)
 have hEm:=Xv w base d g t p Fd Ft Fw B S.D S.us S.lv S.W h.log ho ha hlsn
 have hblk:=h.blk
 have hsn:s∉Fd++(Ft++Fw):=fun hm=>h.aps (by simp only [List.mem_cons,List.mem_append] at hm ⊢;rcases hm with hm | hm | hm <;> simp [hm])
 obtain ⟨c0,c1,c2,c3,c4,c5,c6,c7,c8,c9,c10,c11,c12,c13,c14,c15,c16,c17⟩:=VD hblk
 clear c0 c1 c2 c3 c5 c6 c7 c8 c9 c10 c11 c12 c13 c14 c15 c16 c17
 rw [show ((0:Nat):Int)=0 from rfl] at hA
 go_enter Tryz.func64,Tryz.ntmps64
 go_wp2_with (first
  | (go_at_call 132;refine hA.mono ?_;clear hA;rintro e w' ⟨rfl,rfl⟩)
  | (go_at_call 133;refine hEm.mono ?_;clear hEm c4;rintro e w1 ⟨rfl,Fd1,Fw1,D1,us1,W1,h1,hE1,hk1,hg1,hgw1⟩))
 obtain ⟨hmay,hus,hac⟩:=hE D1 us1 W1 hE1
 obtain ⟨hS1,hG1⟩:=h.setLog h1 hk1 hg1 hgw1
 have hk1w:=hk1
 have hb0:=Blk.new w1 117 #[.slice none 0 0,.slice none 0 0]
 have hk0:Keep [] w1 (w1.alloc (.cells #[.slice none 0 0,.slice none 0 0] 117)):=(Keep.refl _ _).alloc _
 have hsA:(w1.alloc (.cells #[.slice none 0 0,.slice none 0 0] 117)).heap.size=w1.heap.size+1:=by rw [World.size_alloc]
 have hFd1:∀ x∈VL s g Fd1 Ft Fw1 Fm L0 L1,x<w1.heap.size:=hS1.lt
 have hS0:=hS1.keep0 hk0
 have hbxl:=hb0.lt
 generalize w1.alloc (.cells #[.slice none 0 0,.slice none 0 0] 117)=wA at *
 generalize hbx:w1.heap.size=bx at *
 have hmem:∀ x,x=s∨x=g∨x∈Fd1∨x∈Ft∨x∈Fw1∨x∈Fm∨x∈L0.ownBlock.toList∨x∈L1.ownBlock.toList→x<bx:=fun x hx=>hFd1 x (by simpa only [VL,List.mem_cons,List.mem_append] using hx)
 have hpb:=JE h.log.geom.pos h.log.geom.few
 have H1:=JC h1
 have HS1:=JC hS1
 have HE1:=JC hE1
 have HMAY:=JC hmay
 have HUS:=JC hus
 clear h1 hS1 hE1 hmay hus hE hFd1 hblk
 go_loopw [3,5,19] (fun _ _ i wr=>∃ (k:Nat) (S0 V1:Value) (Fdk:List Nat) (Dk:PDisk) (la lb:List Nat),k≤2∧i = .int .i64 (k:Nat)∧Blk wr bx 117 #[S0,V1]∧(0<k→LieAt wr wA.heap.size B Fdk S0 la)∧(1<k→LieAt wr wA.heap.size B Fdk V1 lb) ∧
  StoreIs wr base s d g t p m Fdk Ft Fw1 Fm L0 L1 B { S with D:=Dk,us:=us1,lv:=S.lv,W:=W1 }∧MetaD (6+4*pgs B) D1 Dk (k*pgs B)∧Keep Fd1 w1 wr∧Grow wA Fd1 Fdk) (fun _ _ i _=>2-(intOf i).toNat)
 case atStart=>exact ⟨0,_,_,Fd1,D1,[],[],by omega,rfl,hb0,by omega,by omega,hS0,by simpa using MetaD.refl (6+4*pgs B) D1,hk0.zero,fun x hx => .inl hx⟩
 case round=>
  clear hb0 hk0 hS0
  obtain ⟨k,S0,V1,Fdk,Dk,la,lb,hk,rfl,hb,hL0,hL1,hSk,hMk,hkk,hgk⟩:=hrel
  have hbxF:bx∉Fdk:=fun hm=>(hgk bx hm).elim (fun hm=>by have:=hmem bx (by simp [hm]);omega) (fun hm=>by omega)
  have hszk:wA.heap.size≤wr.heap.size:=by have:=hb.lt;omega
  by_cases hk0:k=0
  · subst hk0
    have hMa:=hMk.acts
    have hP:=XAI wr base s d g t p m Fdk Ft Fw1 Fm L0 L1 B _ hSk hl0 hl1 (by simp only;omega) false
    go_wp2_with (
     (refine hP.mono ?_)
     clear hP
     rintro e w2 ⟨u,lie,Fd2,D2,rfl,hu,hli,hS2,hM2,hk2,hg2,hap⟩
     obtain ⟨UA,uc,rfl,_⟩:=KB hu
     have hb2:=hb.keep hk2 hbxF
     have q0:w2.cell? ⟨bx,0,none⟩=some S0:=by simpa using hb2.cell 0
     have f0:=hb2.frozen 0)
    have huB:=KC hu (base':=wA.heap.size) hszk
    have hkS:Keep [bx] w2 (w2.setCell ⟨bx,0,none⟩ (.slice UA (pgs B) uc)):=(Keep.refl _ _).setCell (p:=⟨bx,0,none⟩) (.inl (by simp)) _
    have hbs:=hb2.set 0 (.slice UA (pgs B) uc)
    have hg2':Grow wA Fd1 Fd2:=fun x hx=>(hg2 x hx).elim (fun hx=>hgk x hx) (fun h' => .inr (Nat.le_trans hszk h'))
    have hb2F:bx∉Fd2:=fun hm=>(hg2' bx hm).elim (fun hm=>by have:=hmem bx (by simp [hm]);omega) (fun hm=>by omega)
    have hfb:Apart (VL s g Fd2 Ft Fw1 Fm L0 L1) [bx]:=fun x hx hm=>by
     simp only [List.mem_singleton] at hm
     subst hm
     simp only [VL,List.mem_cons,List.mem_append] at hx
     rcases hx with hx | hx | hx | hx | hx | hx | hx | hx
     · have:=hmem x (by simp [hx]);omega
     · have:=hmem x (by simp [hx]);omega
     · exact hb2F hx
     · have:=hmem x (by simp [hx]);omega
     · have:=hmem x (by simp [hx]);omega
     · have:=hmem x (by simp [hx]);omega
     · have:=hmem x (by simp [hx]);omega
     · have:=hmem x (by simp [hx]);omega
    have hnb:∀ {q:Value} {n:Nat} {ys:List Value},w2.ownsRow wA.heap.size 3 1 q n ys→∀ x,q.ownBlock=some x→x∉[bx]:=fun hq x hx hm=>by
     simp at hm;subst hm
     exact own_blk_ne hq hb2 (by decide) hx
    have hkk2:Keep Fd1 w1 (w2.setCell ⟨bx,0,none⟩ (.slice UA (pgs B) uc)):=(hkk.trans hk2 (fun x hx=>(hgk x hx).imp id (by omega))).trans hkS (fun x hx => .inr (by simp at hx;omega))
    go_roundw
    case rel=>exact ⟨1,.slice UA (pgs B) uc,V1,Fd2,D2,lie,lb,by omega,rfl,by simpa using hbs,fun _=>⟨UA,uc,rfl,JB huB hkS (hnb huB),hli,hap⟩,by omega,hS2.keep hkS hfb,(hMk.trans hM2).mono (by omega),hkk2,hg2'⟩
    case measure=>simp [intOf]
  · by_cases hk1:k=1
    · subst hk1
      have hMa:=hMk.acts
      have hP:=XAI wr base s d g t p m Fdk Ft Fw1 Fm L0 L1 B _ hSk hl0 hl1 (by simp only;omega) true
      go_wp2_with (
       (refine hP.mono ?_)
       clear hP
       rintro e w2 ⟨u,lie,Fd2,D2,rfl,hu,hli,hS2,hM2,hk2,hg2,hap⟩
       obtain ⟨UA,uc,rfl,_⟩:=KB hu
       have hb2:=hb.keep hk2 hbxF
       have q1:w2.cell? ⟨bx,1,none⟩=some V1:=by simpa using hb2.cell 1
       have f1:=hb2.frozen 1)
      have huB:=KC hu (base':=wA.heap.size) hszk
      have hkS:Keep [bx] w2 (w2.setCell ⟨bx,1,none⟩ (.slice UA (pgs B) uc)):=(Keep.refl _ _).setCell (p:=⟨bx,1,none⟩) (.inl (by simp)) _
      have hbs:=hb2.set 1 (.slice UA (pgs B) uc)
      have hg2':Grow wA Fd1 Fd2:=fun x hx=>(hg2 x hx).elim (fun hx=>hgk x hx) (fun h' => .inr (Nat.le_trans hszk h'))
      have hb2F:bx∉Fd2:=fun hm=>(hg2' bx hm).elim (fun hm=>by have:=hmem bx (by simp [hm]);omega) (fun hm=>by omega)
      have hfb:Apart (VL s g Fd2 Ft Fw1 Fm L0 L1) [bx]:=fun x hx hm=>by
       simp only [List.mem_singleton] at hm
       subst hm
       simp only [VL,List.mem_cons,List.mem_append] at hx
       rcases hx with hx | hx | hx | hx | hx | hx | hx | hx
       · have:=hmem x (by simp [hx]);omega
       · have:=hmem x (by simp [hx]);omega
       · exact hb2F hx
       · have:=hmem x (by simp [hx]);omega
       · have:=hmem x (by simp [hx]);omega
       · have:=hmem x (by simp [hx]);omega
       · have:=hmem x (by simp [hx]);omega
       · have:=hmem x (by simp [hx]);omega
      have hnb:∀ {q:Value} {n:Nat} {ys:List Value},w2.ownsRow wA.heap.size 3 1 q n ys→∀ x,q.ownBlock=some x→x∉[bx]:=fun hq x hx hm=>by
       simp at hm;subst hm
       exact own_blk_ne hq hb2 (by decide) hx
      have hkk2:Keep Fd1 w1 (w2.setCell ⟨bx,1,none⟩ (.slice UA (pgs B) uc)):=(hkk.trans hk2 (fun x hx=>(hgk x hx).imp id (by omega))).trans hkS (fun x hx => .inr (by simp at hx;omega))
      have hL0b:=(hL0 (by omega)).keep hk2 (fun x hx hm=>by obtain ⟨_,_,_,_,_,hz⟩:=hL0 (by omega);exact hz x hx hm) hg2
      have hL0c:LieAt (w2.setCell ⟨bx,1,none⟩ (.slice UA (pgs B) uc)) wA.heap.size B Fd2 S0 la:=hL0b.keep hkS (fun x hx hm=>by obtain ⟨_,_,_,hz,_⟩:=hL0b;exact hnb hz x (by simpa using hm) hx) (fun x hx => .inl hx)
      go_roundw
      case rel=>exact ⟨2,S0,.slice UA (pgs B) uc,Fd2,D2,la,lie,by omega,rfl,by simpa using hbs,fun _=>hL0c,fun _=>⟨UA,uc,rfl,JB huB hkS (hnb huB),hli,hap⟩,hS2.keep hkS hfb,(hMk.trans hM2).mono (by omega),hkk2,hg2'⟩
      case measure=>simp [intOf]

    · obtain rfl:k=2:=by omega
      have hL0:=hL0 (by omega)
      have hL1:=hL1 (by omega)
      obtain ⟨A0,q0,rfl,ho0,hx0,hy0⟩:=hL0
      obtain ⟨A1,q1,rfl,ho1,hx1,hy1⟩:=hL1
      obtain ⟨x0,_,_,_,_,_,_,_,_,_,_,_,_,_,_,_,_,_⟩:=VD hSk.blk
      have hMa:=hMk.acts
      have hlogk:=hSk.log
      have hFl:=Yh wr base d Fdk Dk hlogk.disk hlogk.off hlogk.fuse (by omega) hlogk.le
      go_wp2_with (
       (refine hFl.mono ?_)
       clear hFl
       rintro e w3 ⟨rfl,Fd3,hD3,hk3,hg3⟩
       have hb3:=hb.keep hk3 hbxF
       have e0:w3.cell? ⟨bx,0,none⟩=some (.slice A0 (pgs B) q0):=by simpa using hb3.cell 0
       have e1:w3.cell? ⟨bx,1,none⟩=some (.slice A1 (pgs B) q1):=by simpa using hb3.cell 1)
      have hg3':Grow wA Fd1 Fd3:=fun x hx=>(hg3 x hx).elim (fun hx=>hgk x hx) (fun h' => .inr (Nat.le_trans hszk h'))
      have hM3:=hMk.trans (MetaD.flush (6+4*pgs B) Dk)
      have hlog3:=hlogk.setDisk hD3 hk3 hg3 rfl rfl rfl
      have hS3:=(hSk.setLog hlog3 (hk3.sub (fun x hx=>by simp [hx])) hg3 (fun x hx => .inl hx)).1
      have ho0':=JB ho0 hk3 (fun x hx hm=>hy0 x hm (by simp [hx]))
      have ho1':=JB ho1 hk3 (fun x hx hm=>hy1 x hm (by simp [hx]))
      have hM3a:=hM3.acts
      have hR:=VAS w3 base s d g t p m Fd3 Ft Fw1 Fm L0 L1 B _ hS3 (JA HMAY) (JA HUS) hs (by simp only;omega) A0 A1 q0 q1 la lb (Rd.of_own ho0') (Rd.of_own ho1') hx0 hx1
      have hbF3:bx∉Fd3:=fun hm=>(hg3' bx hm).elim (fun hm=>by have:=hmem bx (by simp [hm]);omega) (fun hm=>by omega)
      have hz3:=hk3.size
      go_wp2_with (
       (refine hR.mono ?_)
       clear hR e0 e1 x0
       rintro e w4 ⟨rfl,Fd4,D4,hS4,hM4,hk4,hg4⟩
       have hb4:=hb3.keep hk4 hbF3
       have e0:w4.cell? ⟨bx,0,none⟩=some (.slice A0 (pgs B) q0):=by simpa using hb4.cell 0
       have e1:w4.cell? ⟨bx,1,none⟩=some (.slice A1 (pgs B) q1):=by simpa using hb4.cell 1)
      have hblk4:=hS4.blk
      obtain ⟨c0,c1,c2,c3,c4,c5,c6,c7,c8,c9,c10,c11,c12,c13,c14,c15,c16,c17⟩:=VD hblk4
      obtain ⟨⟨hg1,hg2⟩,_⟩:=JA HMAY
      have hgw:IntKind.i64.wrap (((S.st.gen:Nat):Int)+1)=((S.st.gen:Nat):Int)+1:=by rw [IntKind.wrap_i64];simp only at hg2;omega
      have hsw:IntKind.i64.wrap (1-((S.slot:Nat):Int))=1-((S.slot:Nat):Int):=by rw [IntKind.wrap_i64];omega
      have hsb:bx≠s:=fun e=>by have:=hmem s (by simp);omega
      have f11:=hblk4.frozen 11
      have f15:=hblk4.frozen 15
      have f16:=hblk4.frozen 16
      have f17:=hblk4.frozen 17
      have hsb:bx≠s:=fun e=>by have:=hmem s (by simp);omega
      have hbxs:∀ W,Keep [s] w4 W→W.cell? ⟨bx,0,none⟩=some (.slice A0 (pgs B) q0)∧W.cell? ⟨bx,1,none⟩=some (.slice A1 (pgs B) q1):=fun W hk=>⟨by simpa using (hb4.keep hk (by simpa using hsb)).cell 0,by simpa using (hb4.keep hk (by simpa using hsb)).cell 1⟩
      have hka:Keep [s] w4 (w4.setCell ⟨s,11,none⟩ (.int .i64 (((S.st.gen:Nat):Int)+1))):=(Keep.refl [s] w4).setCell (p:=⟨s,11,none⟩) (.inl (by simp)) _
      have hkb:Keep [s] w4 ((w4.setCell ⟨s,11,none⟩ (.int .i64 (((S.st.gen:Nat):Int)+1))).setCell ⟨s,15,none⟩ (.int .i64 (1-((S.slot:Nat):Int)))):=hka.setCell (p:=⟨s,15,none⟩) (.inl (by simp)) _
      refine wp_region_rt (fun w'=>w'.cell? ⟨bx,0,none⟩=some (.slice A0 (pgs B) q0)∧w'.cell? ⟨bx,1,none⟩=some (.slice A1 (pgs B) q1)) 22 (.held 0 (.held 1 (.held 2 (.held 3 (.held 4 (.held 5 (.held 6 (.held 9 (.held 10 (.held 11 (.held 14 (.two 7 (.held 8 (.loud 12 (.held 13 (.held 15 (.held 16 (.held 17 (.loud 18 (.held 19 (.held 20 (.loud 21 .nil)))))))))) 12 (.held 13 (.loud 7 (.held 8 (.held 15 (.held 16 (.held 17 (.loud 18 (.held 19 (.held 20 (.loud 21 .nil))))))))))))))))))))))
       (by kernel_rfl) (by kernel_rfl) (fun _ _ d _ _ h=>by cases d <;> exact h) ⟨e0,e1⟩ ?_
      simp only [RT.pick,PJ]
      iterate 11 (refine wpR_held ?_ (by rfl) ?_ ?_;rotate_left;(focus (rintro W ⟨hW1,hW2⟩;go_simp;try with_reducible rfl));simp only [Act.put,PU])
      refine wpR_two ?_ ?_
      all_goals
       refine wpR_loud (by rfl) (fun K hK=>?_)
       go_wp2_with fail
       refine hK _ _ (hbxs _ (Keep.refl _ _).drew) ?_
       clear hK K
       try simp only [Act.put,PU]
       iterate 1 (refine wpR_held ?_ (by rfl) ?_ ?_;rotate_left;(focus (rintro W ⟨hW1,hW2⟩;go_simp;try with_reducible rfl));simp only [Act.put,PU])
       refine wpR_loud (by rfl) (fun K hK=>?_)
       go_wp2_with fail
       refine hK _ _ (hbxs _ (Keep.refl _ _).drew) ?_
       clear hK K
       try simp only [Act.put,PU]
       iterate 4 (refine wpR_held ?_ (by rfl) ?_ ?_;rotate_left;(focus (rintro W ⟨hW1,hW2⟩;go_simp;try with_reducible rfl));simp only [Act.put,PU])
       refine wpR_loud (by rfl) (fun K hK=>?_)
       go_wp2_with fail
       refine hK _ _ (hbxs _ hka.drew) ?_
       clear hK K
       try simp only [Act.put,PU]
       iterate 2 (refine wpR_held ?_ (by rfl) ?_ ?_;rotate_left;(focus (rintro W ⟨hW1,hW2⟩;go_simp;try with_reducible rfl));simp only [Act.put,PU])
       refine wpR_loud (by rfl) (fun K hK=>?_)
       go_wp2_with fail
       refine hK _ _ (hbxs _ hkb.drew) ?_
       clear hK K
       try simp only [Act.put,PU]
       refine wpR_nil ?_
       have hq1:((S.st.gen+1:Nat):Int)=(S.st.gen:Nat)+1:=by simp
       have hq2:((1-S.slot:Nat):Int)=1-(S.slot:Nat):=by omega
       have hbz:=(((hblk4.set 11 (.int .i64 (((S.st.gen:Nat):Int)+1))).set 15 (.int .i64 (1-((S.slot:Nat):Int)))).set 16 (.slice A0 (pgs B) q0)).set 17 (.slice A1 (pgs B) q1)
       have hks:Keep [s] w4 ((((w4.setCell ⟨s,11,none⟩ (.int .i64 (((S.st.gen:Nat):Int)+1))).setCell ⟨s,15,none⟩ (.int .i64 (1-((S.slot:Nat):Int)))).setCell ⟨s,16,none⟩ (.slice A0 (pgs B) q0)).setCell ⟨s,17,none⟩ (.slice A1 (pgs B) q1)):=
        ((((Keep.refl [s] w4).setCell (p:=⟨s,11,none⟩) (.inl (by simp)) _).setCell (p:=⟨s,15,none⟩) (.inl (by simp)) _).setCell (p:=⟨s,16,none⟩) (.inl (by simp)) _).setCell (p:=⟨s,17,none⟩) (.inl (by simp)) _
       have hbase:base≤wA.heap.size:=by have:=hSk.sbase;have:=hmem s (by simp);omega
       have hnew:∀ x,x∈(Value.slice A0 (pgs B) q0).ownBlock.toList∨x∈(Value.slice A1 (pgs B) q1).ownBlock.toList→wA.heap.size≤x∧x∉Fd3∧x∉Fd4:=fun x hx=>by
        have h0:wA.heap.size≤x∧x<wr.heap.size∧x∉Fdk:=by
         rcases hx with hx | hx
         · exact ⟨(own_mem ho0 hx).1,(own_mem ho0 hx).2,fun hm=>hy0 x hm hx⟩
         · exact ⟨(own_mem ho1 hx).1,(own_mem ho1 hx).2,fun hm=>hy1 x hm hx⟩
        have h3:x∉Fd3:=fun hm=>(hg3 x hm).elim h0.2.2 (by omega)
        exact ⟨h0.1,h3,fun hm=>(hg4 x hm).elim h3 (by omega)⟩
       have ho0w:=KC (JB ho0' hk4 (fun x hx=>(hnew x (.inl (by simp [hx]))).2.1)) hbase
       have ho1w:=KC (JB ho1' hk4 (fun x hx=>(hnew x (.inr (by simp [hx]))).2.1)) hbase
       have hS5:=hS4.setLie (S.st.gen+1) (1-S.slot) (.slice A0 (pgs B) q0) (.slice A1 (pgs B) q1) la lb (by rw [hq1,hq2];simpa using hbz) hks ho0w ho1w (fun x hx hm=>by
        have h0:=hnew x (by simpa only [List.mem_append] using hx)
        simp only [List.mem_cons,List.mem_append] at hm
        rcases hm with hm | hm | hm | hm | hm | hm
        · have:=hmem s (by simp);omega
        · have:=hmem g (by simp);omega
        · exact h0.2.2 hm
        · have:=hmem x (by simp [hm]);omega
        · have:=hmem x (by simp [hm]);omega
        · have:=hmem x (by simp [hm]);omega)
       clear hbz hq1 hq2
       have hkd:=hks.drew
       replace hS5:=hS5.keep0 (Keep.refl _ _).drew
       have hblk5:=hS5.blk
       have hCl:=KAd _ base m Fm S.I hS5.img
       obtain ⟨z0,z1,z2,z3,z4,z5,z6,z7,z8,z9,z10,z11,z12,z13,z14,z15,z16,z17⟩:=VD hblk5
       clear z0 z1 z4 z5 z6 z7 z8 z9 z10 z11 z12 z13 z14 z15 z16 z17
       have hmF:s∉Fm:=fun hm=>hS4.aps (by simp [hm])
       go_wp2_with (first
        | (go_at_call 136
           refine hCl.mono ?_
           clear hCl
           rintro e w6 ⟨rfl,hi6,hk6⟩
           have hS6:=hS5.setImg hi6 rfl hk6
           have hRe:=JAF w6 base t g Ft us1 S.lv hS6.log.tab
           obtain ⟨z0,z1,z2,z3,z4,z5,z6,z7,z8,z9,z10,z11,z12,z13,z14,z15,z16,z17⟩:=VD hS6.blk)
        | (go_at_call 137
           refine hRe.mono ?_
           clear hRe
           rintro e w7 ⟨u,rfl,hu7,ht7,hk7⟩
           obtain ⟨UA,uc,rfl,_⟩:=KB hu7))
       go_ret2
       have hS7:=(hS6.setLog (hS6.log.setTab ht7 hk7) (hk7.sub (fun x hx=>by simp [hx])) (Grow.refl _ _) (Grow.refl _ _)).1
       have hsub:∀ {l:List Nat} {u v:World},(∀ x∈l,x=s∨x∈Fd∨x∈Ft∨x∈Fw∨x∈Fm)→Keep l u v→Keep (VL s g Fd Ft Fw Fm L0 L1) u v:=fun hl hk=>hk.sub (JAu hl)
       have hFd1:∀ x∈Fd1,x∈VL s g Fd Ft Fw Fm L0 L1∨w.heap.size≤x:=fun x hx=>hG1 x (by simp [VL,hx])
       have hz1:w.heap.size≤w1.heap.size:=hk1w.size
       have hFdk:∀ x∈Fdk,x∈VL s g Fd Ft Fw Fm L0 L1∨w.heap.size≤x:=fun x hx=>(hgk x hx).elim (hFd1 x) (fun h' => .inr (by omega))
       have hFd3:∀ x∈Fd3,x∈VL s g Fd Ft Fw Fm L0 L1∨w.heap.size≤x:=fun x hx=>(hg3' x hx).elim (hFd1 x) (fun h' => .inr (by omega))
       have hFd4:∀ x∈Fd4,x∈VL s g Fd Ft Fw Fm L0 L1∨w.heap.size≤x:=fun x hx=>(hg4 x hx).elim (hFd3 x) (fun h' => .inr (by omega))
       have K1:=hsub (by intro x hx;simp only [List.mem_append] at hx;rcases hx with h | h | h <;> simp [h]) hk1w
       have K2:=K1.trans hkk hFd1
       have K3:=K2.trans hk3 hFdk
       have K4:=K3.trans hk4 hFd3
       have K5:=K4.trans (hsub (by intro x hx;simp at hx;simp [hx]) hkd) (fun x hx => .inl hx)
       have K6:=K5.trans (hsub (by intro x hx;simp [hx]) hk6) (fun x hx => .inl hx)
       have K7:=K6.trans (hsub (by intro x hx;simp [hx]) hk7) (fun x hx => .inl hx)
       refine ⟨_,_,_,Fd4,Fw1,.slice A0 (pgs B) q0,.slice A1 (pgs B) q1,D1,us1,W1,D4,la,lb,rfl,KC hu7 K6.size,JA HE1,(hM3.trans hM4).mono (by omega),hx0,hx1,hS7,K7,fun x hx=>?_⟩
       simp only [VL,List.mem_cons,List.mem_append] at hx
       rcases hx with hx | hx | hx | hx | hx | hx | hx | hx
       · exact .inl (by simp [VL,hx])
       · exact .inl (by simp [VL,hx])
       · exact hFd4 x hx
       · exact .inl (by simp [VL,hx])
       · exact hG1 x (by simp [VL,hx])
       · exact .inl (by simp [VL,hx])
       · exact .inr (by have:=(hnew x (.inl hx)).1;omega)
       · exact .inr (by have:=(hnew x (.inr hx)).1;omega)
end
section
open Go.RowKit
def QL (B s:Nat) (a:Int):Bool:=decide (0<a) && ((a.toNat-(6+4*pgs B)) / 24 == s)
theorem XAh {B s:Nat} {a:Int} (h:QL B s a=true):0<a∧(a.toNat-(6+4*pgs B)) / 24=s:=by
 simpa [QL] using h
theorem JI {B s:Nat} {a:Int} (h:a≤0):QL B s a=false:=by
 unfold QL
 rw [decide_eq_false (by omega)];rfl
def ZX (B:Nat) (I:PImage) (s:Nat):Nat:=I.bl.countP (QL B s)+I.ol.countP (QL B s)
structure LiveOk (B:Nat) (lv:List Nat) (I:PImage):Prop where
 len:lv.length=8
 live:∀ s<8,lv.getD s 0=ZX B I s
 diff:∀ i,0<I.ol.getD i 0→I.ol.getD i 0≠I.bl.getD i 0
structure Ext (B:Nat) (S:PS):Prop where
 segs:YT S.us S.W.pos.seg
 liv:LiveOk B S.lv S.I
 slot:S.slot≤1
 lie0:∀ x∈S.lie0,x≤1
 lie1:∀ x∈S.lie1,x≤1
theorem Zb (lv:List Nat) (s:Nat) (z:Int):(KK lv s z).length=lv.length:=by simp [KK]
theorem ZAS (lv:List Nat) (s k:Nat) (hl:lv.getD s 0≤1000000) (hs:s<lv.length):(KK lv s 1).getD k 0=lv.getD k 0+if k=s then 1 else 0:=by
 unfold KK
 rw [List.getD_eq_getElem?_getD,List.getElem?_set]
 by_cases h:k=s
 · subst h
   rw [if_pos rfl,if_pos hs,if_pos rfl,if_neg (by omega)]
   simp only [Option.getD_some]
   omega
 · rw [if_neg (by omega),if_neg h,← List.getD_eq_getElem?_getD];rfl
theorem Jz (lv:List Nat) (s k:Nat) (hk:k<lv.length) (hl:lv.getD s 0≤1000000):(KK lv s (-1)).getD k 0=lv.getD k 0-if s=k then 1 else 0:=by
 unfold KK
 rw [List.getD_eq_getElem?_getD,List.getElem?_set]
 by_cases h:s=k
 · subst h
   rw [if_pos rfl,if_pos hk,if_pos rfl,if_neg (by omega)]
   simp only [Option.getD_some]
   omega
 · rw [if_neg (by omega),if_neg h,← List.getD_eq_getElem?_getD];rfl
theorem Yv {B:Nat} (zs:List Int) (lv:List Nat) (h8:lv.length=8) (hm:∀ k,lv.getD k 0≤1000000) :
 (zs.foldl (fun lv x=>if 0<x then KK lv ((x.toNat-(6+4*pgs B)) / 24) (-1) else lv) lv).length=8∧∀ k<8,(zs.foldl (fun lv x=>if 0<x then KK lv ((x.toNat-(6+4*pgs B)) / 24) (-1) else lv) lv).getD k 0=lv.getD k 0-zs.countP (QL B k):=by
 induction zs generalizing lv with
 | nil=>exact ⟨h8,fun k hk=>by simp⟩
 | cons z zs ih=>
   simp only [List.foldl_cons]
   by_cases hz:0<z
   · rw [if_pos hz]
     have hd:=Jz lv ((z.toNat-(6+4*pgs B)) / 24)
     obtain ⟨i1,i2⟩:=ih (KK lv ((z.toNat-(6+4*pgs B)) / 24) (-1)) (by rw [Zb];exact h8) (fun k=>by
      by_cases hk:k<lv.length
      · rw [hd k hk (hm _)];have:=hm k;omega
      · rw [List.getD_eq_getElem?_getD,List.getElem?_eq_none (by rw [Zb];omega)];simp)
     refine ⟨i1,fun k hk=>?_⟩
     rw [i2 k hk,hd k (by omega) (hm _),List.countP_cons]
     unfold QL
     rw [decide_eq_true hz]
     simp only [Bool.true_and,beq_iff_eq]
     split <;> omega
   · rw [if_neg hz]
     obtain ⟨i1,i2⟩:=ih lv h8 hm
     refine ⟨i1,fun k hk=>?_⟩
     rw [i2 k hk,List.countP_cons,JI (by omega)]
     simp
theorem Kc {B:Nat} {lv:List Nat} {a:Nat} {zs:List Int} (h8:lv.length=8) (hm:∀ k,lv.getD k 0≤1000) (ha:(a-(6+4*pgs B)) / 24<8) :
 (Xb B lv a zs).length=8∧∀ k<8,(Xb B lv a zs).getD k 0=lv.getD k 0+(if QL B k (a:Nat) then 1 else 0)-zs.countP (QL B k):=by
 unfold Xb
 by_cases h0:a=0
 · subst h0
   rw [if_pos rfl]
   obtain ⟨i1,i2⟩:=Yv (B:=B) zs lv h8 (fun k=>by have:=hm k;omega)
   refine ⟨i1,fun k hk=>?_⟩
   rw [i2 k hk,JI (by omega)]
   simp
 · rw [if_neg h0]
   have hu:=fun k=>ZAS lv ((a-(6+4*pgs B)) / 24) k (by have:=hm ((a-(6+4*pgs B)) / 24);omega) (by omega)
   obtain ⟨i1,i2⟩:=Yv (B:=B) zs (KK lv ((a-(6+4*pgs B)) / 24) 1) (by rw [Zb];exact h8) (fun k=>by rw [hu];have:=hm k;split <;> omega)
   refine ⟨i1,fun k hk=>?_⟩
   rw [i2 k hk,hu]
   unfold QL
   rw [decide_eq_true (by omega)]
   simp only [Bool.true_and,beq_iff_eq,Int.toNat_natCast]
   congr 2
   by_cases e:k=(a-(6+4*pgs B)) / 24
   · rw [if_pos e,if_pos e.symm]
   · rw [if_neg e,if_neg (fun h=>e h.symm)]
theorem JAn {B:Nat} {S:PS} {k j s:Nat} (hg:Good B S k j) (hs:(S.us.getD s (0,0)).1=0):ZX B S.I s=0:=by
 have key:∀ x:Int,x = -1∨RefOk B S x→QL B s x=false:=by
  intro x hx
  by_cases h:QL B s x=true
  · obtain ⟨h1,h2⟩:=XAh h
    rcases hx with rfl | rfl | ⟨_,hl⟩
    · omega
    · omega
    · have:=hl.used
      rw [h2] at this
      exact absurd hs this
  · simpa using h
 unfold ZX
 rw [List.countP_eq_zero.2 (fun x hx=>by rw [key x (.inr (hg.brefs x hx))];simp),List.countP_eq_zero.2 (fun x hx=>by rw [key x (hg.orefs x hx)];simp)]
theorem ZAv {B:Nat} {I:PImage} {a:Int} (ha:a∈I.bl∨a∈I.ol) (h0:0<a):0<ZX B I ((a.toNat-(6+4*pgs B)) / 24):=by
 have hin:QL B ((a.toNat-(6+4*pgs B)) / 24) a=true:=by simp [QL,h0]
 unfold ZX
 rcases ha with ha | ha
 · have:=List.countP_pos_iff.2 ⟨a,ha,hin⟩;omega
 · have:=List.countP_pos_iff.2 ⟨a,ha,hin⟩;omega
theorem ZAx {B:Nat} {S:PS} {k j:Nat} (hg:Good B S k j) (s:Nat):ZX B S.I s≤128:=by
 unfold ZX
 have h1:=List.countP_le_length (p:=QL B s) (l:=S.I.bl)
 have h2:=List.countP_le_length (p:=QL B s) (l:=S.I.ol)
 have:=hg.bl;have:=hg.ol;have:=hg.b64
 omega
theorem LiveOk.small {B:Nat} {S:PS} {k j:Nat} (h:LiveOk B S.lv S.I) (hg:Good B S k j) (s:Nat):S.lv.getD s 0≤1000:=by
 by_cases hs:s<8
 · rw [h.live s hs];have:=ZAx hg s;omega
 · rw [List.getD_eq_getElem?_getD,List.getElem?_eq_none (by have:=h.len;omega)];simp
theorem ZAA {us:List (Nat×Nat)} {s t x:Nat} (h:YT us s) (hx:x≤2147483647):YT (XG us t x) s:=by
 obtain ⟨h1,h2,h3⟩:=h
 unfold XG
 refine ⟨by simpa using h1,fun u hu=>?_,fun k hk=>?_⟩
 · rcases List.mem_or_eq_of_mem_set hu with hu | rfl
   · exact h2 u hu
   · refine ⟨?_,hx⟩
     simp only
     by_cases ht:t<us.length
     · rw [VH ht];exact (h2 _ (List.getElem_mem _)).1
     · rw [List.getD_eq_getElem?_getD,List.getElem?_eq_none (by omega)];simp
 · rw [List.getElem_set]
   split
   · rename_i e
     subst e
     simp only [List.length_set] at hk
     rw [VH hk]
     exact h3 t hk
   · exact h3 k (by simpa using hk)
theorem Emitted.segs {B:Nat} {D D':PDisk} {us us':List (Nat×Nat)} {W W':PW} {s:Nat} (hE:Emitted B D us W D' us' W') (h:YT us s) (hl:W.pos.lsn≤2147483647):YT us' s:=by
 rcases hE with ⟨_,_,rfl,_⟩ | ⟨_,D1,W1,rs,sum,_,_,_,_,rfl,_⟩
 · exact h
 · exact ZAA h hl
theorem Added.ext {B:Nat} {S:PS} {D':PDisk} {us':List (Nat×Nat)} {lv':List Nat} {W':PW} {k j a:Nat} {i:PItem} {bs:List UInt8} (hA:Added B S.D S.us S.lv S.W i bs D' us' lv' W' a) (hg:Good B S k j) (hk:k≤50) (hj:j≤100000) (hx:Ext B S) :
 YT us' W'.pos.seg∧LiveOk B lv' S.I:=by
 obtain ⟨W1,hR,rfl,ha⟩:=hA
 have hlsn:=hg.cap.lsn
 have hm:QX i≤1:=by unfold QX;split <;> omega
 rcases hR with ⟨hf,rfl,rfl,rfl,rfl⟩ | ⟨hnf,hf,hE,rfl⟩ | ⟨hnf,hf,rfl,D1,us1,W2,hE,hT⟩
 · exact ⟨hx.segs,hx.liv⟩
 · refine ⟨?_,hx.liv⟩
   have hs:=hE.segs hx.segs (by omega)
   obtain ⟨_,_,e3,_⟩:=hg.cap.emitted hE
   simp only
   rw [e3];exact hs
 · have hfree:=hg.cap.free hk hm hf
   obtain ⟨g1,g2⟩:=VS S.us (by omega)
   have hul:=hg.cap.ul
   have hsg:=hg.cap.seg
   have hl:=hx.liv.len
   refine ⟨?_,⟨by simpa using hl,fun s hs=>?_,hx.liv.diff⟩⟩
   · obtain ⟨rs,hd,sum,t1,t2,t3,rfl,rfl,rfl⟩:=hT
     obtain ⟨f1,f2,f3,f4,f5,f6,f7,f8,f9,f10,f11,f12⟩:=hE.facts hg.cap.ok
     simp only
     obtain ⟨h1,h2,h3⟩:=hx.segs
     have hul1:us1.length=8:=by rcases f10 with rfl | rfl <;> simpa using hul
     have hlsn2:W2.pos.lsn≤S.W.pos.lsn+1:=f6
     have hst:∀ q<8,(us1.getD q (0,0)).1=((VE S.us (ZD S.us) 1).getD q (0,0)).1:=by
      intro q hq
      rcases f10 with rfl | rfl
      · rfl
      · rw [YJ]
     have hne:S.W.pos.seg≠ZD S.us:=by
      intro e
      have:=hg.cap.opn
      rw [e,g2] at this
      omega
     have hstp:∀ u∈us1,u.1≤2∧u.2≤2147483647:=by
      have h0:∀ u∈VE S.us (ZD S.us) 1,u.1≤2∧u.2≤2147483647:=by
       intro u hu
       unfold VE at hu
       rcases List.mem_or_eq_of_mem_set hu with hu | rfl
       · exact h2 u hu
       · refine ⟨by simp,?_⟩
         simp only
         rw [VH g1];exact (h2 _ (List.getElem_mem _)).2
      rcases f10 with rfl | rfl
      · exact h0
      · intro u hu
        unfold XG at hu
        rcases List.mem_or_eq_of_mem_set hu with hu | rfl
        · exact h0 u hu
        · refine ⟨?_,by simp only;omega⟩
          simp only
          rw [VH (by simp [VE];omega)]
          exact (h0 _ (List.getElem_mem _)).1
     refine ⟨by simp [VE,XG];exact hul1,?_,?_⟩
     · intro u hu
       unfold VE at hu
       rcases List.mem_or_eq_of_mem_set hu with hu | rfl
       · unfold XG at hu
         rcases List.mem_or_eq_of_mem_set hu with hu | rfl
         · exact hstp u hu
         · refine ⟨?_,by simp only;omega⟩
           simp only
           rw [VH (by omega)]
           exact (hstp _ (List.getElem_mem _)).1
       · refine ⟨by simp,?_⟩
         simp only
         rw [VH (by simp [XG];omega)]
         unfold XG
         rw [List.getElem_set_self]
         simp only
         omega
     · intro q hq
       have hq8:q<8:=by simpa [VE,XG,hul1] using hq
       rw [← VH hq,XH _ _ _ _ (by simp [XG];omega),YJ,hst q hq8,XH _ _ _ _ g1]
       rw [f3]
       by_cases e:q=S.W.pos.seg
       · rw [if_pos e]
         subst e
         constructor
         · intro h;omega
         · intro h;exact absurd h hne
       · rw [if_neg e]
         by_cases e2:q=ZD S.us
         · rw [if_pos e2];simp [e2]
         · rw [if_neg e2]
           rw [VH (by omega),h3 q (by omega)]
           constructor
           · intro h;exact absurd h e
           · intro h;exact absurd h e2
   · rw [List.getD_eq_getElem?_getD,List.getElem?_set]
     split
     · rename_i e
       subst e
       rw [if_pos (by omega)]
       exact (JAn hg g2).symm
     · rw [← List.getD_eq_getElem?_getD]
       exact hx.liv.live s hs
theorem Vj {p:Int→Bool} {l:List Int} {i:Nat} {a:Int} (hi:i<l.length):(l.set i a).countP p+(if p l[i] then 1 else 0)=l.countP p+if p a then 1 else 0:=by
 have:=List.countP_set (p:=p) (l:=l) (i:=i) (a:=a) hi
 have h2:(if p l[i] then 1 else 0)≤l.countP p:=by
  split
  · exact List.countP_pos_iff.2 ⟨l[i],List.getElem_mem _,by assumption⟩
  · omega
 omega
theorem Yb {B s:Nat} {x z:Int} (h:0<x→x≠z):QL B s (ZF x z)=QL B s x:=by
 unfold ZF
 by_cases hx:0<x
 · rw [if_neg (h hx),show max x 0=x by omega]
 · rw [JI (a:=x) (by omega)]
   split
   · exact JI (by omega)
   · exact JI (by omega)
theorem Wrote.ext {B:Nat} {S S':PS} {b:Nat} {bs:List UInt8} {k j:Nat} (h:Wrote B S b bs S') (hg:Good B S k j) (hk:k≤50) (hj:j≤100000) (hb:b<B) (hx:Ext B S):Ext B S':=by
 obtain ⟨D',us',lv1,W',a,hA,rfl⟩:=h
 obtain ⟨hs,hl⟩:=hA.ext hg hk hj hx
 obtain ⟨r1,r2,r3,r4,r5⟩:=hA.reads hg.cap hk hg.now hg.many
 obtain ⟨ra,rb⟩:=r5 rfl
 have ha0:0<a:=by have:=ra.lo;omega
 have ha8:(a-(6+4*pgs B)) / 24<8:=by have:=ra.hi;omega
 have hol:=hg.ol
 have hne:∀ x:Int,x = -1∨RefOk B S x→0<x→x≠(a:Nat):=by
  intro x hx h0
  rcases hx with rfl | rfl | ⟨_,hy⟩
  · omega
  · omega
  · have:=(r4 _ hy).2.2 rfl
    omega
 have hm:=fun s=>LiveOk.small (S:={ S with lv:=lv1 }) hl ⟨hg.cap,hg.now,hg.many,hg.flt,hg.flen,hg.b1,hg.b64,hg.bl,hg.ol,hg.brefs,hg.orefs,hg.seq,hg.epoch,hg.done⟩ s
 obtain ⟨l1,l2⟩:=Kc (B:=B) (zs:=[ZF (S.I.ol.getD b 0) a]) hl.len hm ha8
 refine ⟨hs,⟨l1,fun s hs=>?_,fun i hi=>?_⟩,hx.slot,hx.lie0,hx.lie1⟩
 · rw [l2 s hs,hl.live s hs]
   unfold ZX
   simp only
   have hc:=Vj (p:=QL B s) (l:=S.I.ol) (i:=b) (a:=(a:Nat)) (by omega)
   have hbo:S.I.ol.getD b 0=S.I.ol[b]:=Vz (by omega)
   rw [List.countP_cons,List.countP_nil,hbo,Yb (fun h0=>hne _ (hg.orefs _ (List.getElem_mem _)) h0)]
   have h2:(if QL B s S.I.ol[b] then 1 else 0)≤S.I.ol.countP (QL B s):=by
    split
    · exact List.countP_pos_iff.2 ⟨S.I.ol[b],List.getElem_mem _,by assumption⟩
    · omega
   omega
 · simp only at hi ⊢
   rw [List.getD_eq_getElem?_getD,List.getElem?_set] at hi ⊢
   split
   · rename_i e
     subst e
     rw [if_pos (by omega)]
     simp only [Option.getD_some]
     intro he
     have hbl:=hg.bl
     rw [Vz (by omega)] at he
     exact hne _ (.inr (hg.brefs _ (List.getElem_mem _))) (by rw [← he];omega) he.symm
   · rename_i e
     rw [if_neg e,← List.getD_eq_getElem?_getD] at hi
     rw [← List.getD_eq_getElem?_getD]
     exact hx.liv.diff i hi
theorem JAQ (B s b n:Nat) (l:List Int) (ds:List Bool) (hb:b+n≤l.length):(ZG b n l ds).2.1.countP (QL B s)+(ZG b n l ds).1.countP (QL B s)=l.countP (QL B s):=by
 induction n with
 | zero=>simp [ZG]
 | succ n ih=>
   rw [ZQ]
   unfold QO
   simp only
   have hlen:=(QK b n l ds).1
   have hlt:b+n<(ZG b n l ds).2.1.length:=by omega
   have hc:=Vj (p:=QL B s) (a:=0) hlt
   rw [List.countP_append,Vz hlt]
   have hz:QL B s 0=false:=JI (by omega)
   rw [hz] at hc
   have h2:(if 0<ZF (ZG b n l ds).2.1[b+n] 0 then [ZF (ZG b n l ds).2.1[b+n] 0] else []).countP (QL B s)=if QL B s (ZG b n l ds).2.1[b+n] then 1 else 0:=by
    rw [← Yb (z:=0) (fun h=>by omega)]
    generalize ZF (ZG b n l ds).2.1[b+n] 0=g
    by_cases hg:0<g
    · rw [if_pos hg];simp [List.countP_cons]
    · rw [if_neg hg,JI (by omega)];simp
   have:=ih (by omega)
   rw [h2]
   simp at hc
   omega
theorem Trimmed.ext {B:Nat} {S S':PS} {b n:Nat} {k j:Nat} (h:Trimmed B S b n S') (hg:Good B S k j) (hk:k≤50) (hj:j≤100000) (hb:b+n≤B) (hx:Ext B S):Ext B S':=by
 obtain ⟨D',us',lv1,W',a,hA,rfl⟩:=h
 obtain ⟨hs,hl⟩:=hA.ext hg hk hj hx
 have hol:=hg.ol
 have hm:=fun s=>LiveOk.small (S:={ S with lv:=lv1 }) hl ⟨hg.cap,hg.now,hg.many,hg.flt,hg.flen,hg.b1,hg.b64,hg.bl,hg.ol,hg.brefs,hg.orefs,hg.seq,hg.epoch,hg.done⟩ s
 obtain ⟨l1,l2⟩:=Kc (B:=B) (a:=0) (zs:=(ZG b n S.I.ol S.I.od).1) hl.len hm (by omega)
 refine ⟨hs,⟨l1,fun s hs=>?_,fun i hi=>?_⟩,hx.slot,hx.lie0,hx.lie1⟩
 · rw [l2 s hs,hl.live s hs]
   unfold ZX
   simp only
   have hc:=JAQ B s b n S.I.ol S.I.od (by omega)
   rw [JI (a:=((0:Nat):Int)) (by omega)]
   simp only [Bool.false_eq_true,if_false]
   omega
 · simp only at hi ⊢
   rw [List.getD_eq_getElem?_getD,Qe] at hi ⊢
   split
   · rename_i e
     rw [if_pos e] at hi
     simp at hi
   · rename_i e
     rw [if_neg e,← List.getD_eq_getElem?_getD] at hi
     rw [← List.getD_eq_getElem?_getD]
     exact hx.liv.diff i hi
theorem XAx (B s:Nat) (bl ol:List Int) (hl:bl.length=ol.length) (hd:∀ i,0<ol.getD i 0→ol.getD i 0≠bl.getD i 0) (hr:∀ x∈ol,-1≤x) :
 (List.zipWith (fun b o=>if o = -1 then b else o) bl ol).countP (QL B s)+((bl.zip ol).flatMap (fun p=>if p.2 = -1 then [] else if 0<ZF p.1 p.2 then [ZF p.1 p.2] else [])).countP (QL B s)=bl.countP (QL B s)+ol.countP (QL B s):=by
 induction bl generalizing ol with
 | nil=>
   cases ol with
   | nil=>rfl
   | cons o ol=>simp at hl
 | cons b bl ih=>
   cases ol with
   | nil=>simp at hl
   | cons o ol=>
     have hi:=ih ol (by simpa using hl) (fun i hi=>by simpa using hd (i+1) (by simpa using hi)) (fun x hx=>hr x (by simp [hx]))
     have h0:=hd 0
     simp only [List.getD_cons_zero] at h0
     have hro:=hr o (by simp)
     rw [List.zipWith_cons_cons,List.zip_cons_cons,List.flatMap_cons,List.countP_cons,List.countP_cons,List.countP_cons,List.countP_append]
     by_cases ho:o = -1
     · subst ho
       rw [if_pos rfl,JI (a := -1) (by omega)]
       simp
       omega
     · rw [if_neg ho]
       simp only [if_neg ho]
       have hg:QL B s (ZF b o)=QL B s b:=Yb (fun hb e=>by subst e;exact h0 hb rfl)
       rw [← hg]
       generalize ZF b o=g
       by_cases hgp:0<g
       · rw [if_pos hgp,List.countP_cons,List.countP_nil];omega
       · rw [if_neg hgp,JI (a:=g) (by omega)];simp;omega
theorem Marked.ext {B:Nat} {S S':PS} {e:Nat} {k j:Nat} (h:Marked B S e S') (hg:Good B S k j) (hk:k≤50) (hj:j≤100000) (he:1≤e∧e≤j+1) (hx:Ext B S):Ext B S':=by
 obtain ⟨D1,us1,lv1,W1,a,D2,us2,W2,bd,od,hA,hE,rfl⟩:=h
 have hmay:PItem.May ⟨3,0,0,e⟩ := .inr (.inr (.inl ⟨rfl,rfl,rfl,he.1,by simp only;omega⟩))
 have hc:=hg.cap.added hk hmay (fun h=>by cases h) hA
 obtain ⟨hs,hl⟩:=hA.ext hg hk hj hx
 obtain ⟨_,_,e3,_⟩:=hc.emitted hE
 have hlsn:=hc.lsn
 have hs2:=hE.segs hs (by omega)
 have hol:=hg.ol
 have hbl:=hg.bl
 have hlen:S.I.bl.length=S.I.ol.length:=by omega
 have hm:=fun s=>LiveOk.small (S:={ S with lv:=lv1 }) hl ⟨hg.cap,hg.now,hg.many,hg.flt,hg.flen,hg.b1,hg.b64,hg.bl,hg.ol,hg.brefs,hg.orefs,hg.seq,hg.epoch,hg.done⟩ s
 obtain ⟨l1,l2⟩:=Kc (B:=B) (a:=0) (zs:=Xn S.I.bl S.I.ol S.I.ol.length) hl.len hm (by omega)
 refine ⟨by simp only;rw [e3];exact hs2,⟨l1,fun s hs=>?_,fun i hi=>?_⟩,hx.slot,hx.lie0,hx.lie1⟩
 · rw [l2 s hs,hl.live s hs]
   unfold ZX
   simp only
   have hc:=XAx B s S.I.bl S.I.ol hlen hl.diff (fun x hx=>by
    rcases hg.orefs x hx with rfl | rfl | ⟨h,_⟩ <;> omega)
   rw [Vi hlen,YO,JI (a:=((0:Nat):Int)) (by omega)]
   unfold Xn
   rw [List.take_of_length_le (by simp;omega),List.countP_replicate,JI (a := -1) (by omega)]
   simp only [Bool.false_eq_true,if_false]
   omega
 · simp only at hi ⊢
   rw [YO,List.getD_eq_getElem?_getD,List.getElem?_replicate] at hi
   split at hi <;> simp at hi
theorem Does.ext {B:Nat} {S S':PS} {o:POp} {k j:Nat} (h:Does B S o S') (ho:VT B o) (hg:Good B S k j) (hk:k≤50) (hj:j≤100000) (hx:Ext B S):Ext B S':=by
 rcases h with ⟨h1,h2⟩ | ⟨h1,h2⟩ | ⟨h1,h2,h3⟩
 · rcases ho with ⟨_,o1,o2,o3⟩ | ⟨o0,_⟩ | ⟨o0,_⟩
   · exact h2.ext hg hk hj (by omega) hx
   · omega
   · omega
 · rcases ho with ⟨o0,_⟩ | ⟨_,o1,o2,o3⟩ | ⟨o0,_⟩
   · omega
   · exact h2.ext hg hk hj (by omega) hx
   · omega
 · have he:=hg.epoch
   exact h3.ext hg hk hj (by omega) hx
end
end Go.Proofs.YtmoagodllhdemaaGreat
