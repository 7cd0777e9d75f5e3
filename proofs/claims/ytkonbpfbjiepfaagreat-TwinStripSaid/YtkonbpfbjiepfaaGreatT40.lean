/- Lemmas of the proof, with their conditions. -/
import Derived.Test.YtkonbpfbjiepfaaGreatT39
namespace Go.Proofs.YtkonbpfbjiepfaaGreat
set_option linter.unusedSimpArgs false
set_option linter.unusedVariables false
set_option maxHeartbeats 8000000
set_option maxRecDepth 100000
section
open Go.RowKit Go.Shelf
theorem StoreIs.setLie {w w':World} {base s d g t p m:Nat} {Fd Ft Fw Fm:List Nat} {L0 L1:Value} {B:Nat} {S:PS} (h:StoreIs w base s d g t p m Fd Ft Fw Fm L0 L1 B S) (gen' slot':Nat) (V0 V1:Value) (l0 l1:List Nat)
 (hb:Blk w' s 108 #[.pointer (some ⟨d,0,none⟩),.pointer (some ⟨g,0,none⟩),.pointer (some ⟨t,0,none⟩),.pointer (some ⟨m,0,none⟩),.pointer (some ⟨p,0,none⟩),
 .int .i64 S.st.mode,.int .i64 S.st.view,.int .i64 S.st.epoch,.int .i64 S.st.seq,.int .i64 S.st.done,.int .i64 S.st.mount,.int .i64 gen',.int .i64 0,.int .i64 0,.int .i64 0,.int .i64 slot',V0,V1]) (hk:Keep [s] w w')
 (h0:w.ownsRow base 3 1 V0 (pgs B) (QH l0)) (h1:w.ownsRow base 3 1 V1 (pgs B) (QH l1)) (ha:Apart (V0.ownBlock.toList++V1.ownBlock.toList) (s :: g :: (Fd++(Ft++(Fw++Fm))))) :
 StoreIs w' base s d g t p m Fd Ft Fw Fm V0 V1 B { S with st:={ S.st with gen:=gen' },slot:=slot',lie0:=l0,lie1:=l1 }:=by
 have hx:∀ x,x∈g :: (Fd++(Ft++(Fw++Fm)))→x∉[s]:=fun x hx hm=>by
  simp at hm;subst hm;exact h.aps hx
 have hl:∀ x∈V0.ownBlock.toList++V1.ownBlock.toList,x∉[s]:=fun x hx hm=>ha x hx (by simp at hm;simp[hm])
 exact⟨hb,h.log.keep hk (hx _ (by simp)) (fun x hy=>hx x (by simp[hy])) (fun x hy=>hx x (by simp[hy])) (fun x hy=>hx x (by simp[hy])),h.img.keep hk (fun x hy=>hx x (by simp[hy])),h.blen,
  XB h0 hk (fun x hy=>hl x (List.mem_append_left _ (by simpa using hy))),XB h1 hk (fun x hy=>hl x (List.mem_append_right _ (by simpa using hy))),h.sbase,h.gbase,h.apm,h.aps,ha⟩
def LieAt (W:World) (N B:Nat) (F:List Nat) (V:Value) (l:List Nat):Prop:=∃ A c,V=.slice A (pgs B) c∧W.ownsRow N 3 1 V (pgs B) (QH l)∧(∀ x∈l,x≤1)∧Apart F V.ownBlock.toList
theorem LieAt.keep {W W':World} {N B:Nat} {F F' k:List Nat} {V:Value} {l:List Nat} (h:LieAt W N B F V l) (hk:Keep k W W') (ha:Apart k V.ownBlock.toList) (hg:Grow W F F'):LieAt W' N B F' V l:=by
 obtain⟨A,c,h1,h2,h3,h4⟩:=h;refine⟨A,c,h1,XB h2 hk (fun g hg hm=>ha g hm (by simp[hg])),h3,fun x hx hm=>(hg x hx).elim (fun hx=>h4 x hx hm) (fun hx=>?_)⟩;have:=(own_mem h2 hm).2;omega
theorem Qv (w:World) (base s d g t p m:Nat) (Fd Ft Fw Fm:List Nat) (L0 L1:Value) (B:Nat) (S:PS) (h:StoreIs w base s d g t p m Fd Ft Fw Fm L0 L1 B S)
 (ho:S.W.Ok) (hlsn:S.W.pos.lsn<2147483647) (ha:S.D.acts≤1000000) (hs:S.slot≤1) (hl0:∀ x∈S.lie0,x≤1) (hl1:∀ x∈S.lie1,x≤1)
 (hE:∀ D2 us2 W2,Emitted B S.D S.us S.W D2 us2 W2→PReg.May ⟨S.st.gen+1,S.st.view,S.st.mode,S.st.epoch,S.st.seq,S.st.done,W2.pos⟩∧ZN (ZP us2 S.lv 8) W2.pos.seg∧D2.acts≤1000100) :
 Calls Tryz.prog 157 #[.pointer (some ⟨s,0,none⟩)] w fun e w'=>∃ u n ns Fd' Fw' L0' L1' D1 us1 W1 D' l0 l1,e=.returned (.tuple #[u,.int .i64 0])∧w'.ownsRow w.heap.size 3 1 u n (QH ns) ∧
  Emitted B S.D S.us S.W D1 us1 W1∧MetaD (6+4*pgs B) D1 D' (2*pgs B+4)∧(∀ x∈l0,x≤1)∧(∀ x∈l1,x≤1) ∧
  StoreIs w' base s d g t p m Fd' Ft Fw' Fm L0' L1' B ⟨D',ZP us1 S.lv 8,S.lv,W1,⟨S.I.bl,List.replicate S.I.bd.length false,S.I.ol,List.replicate S.I.od.length false⟩,{ S.st with gen:=S.st.gen+1 },1-S.slot,l0,l1⟩ ∧
  Keep (QL s g Fd Ft Fw Fm L0 L1) w w'∧Grow w (QL s g Fd Ft Fw Fm L0 L1) (QL s g Fd' Ft Fw' Fm L0' L1'):=by
 have hA:=Kr w base s d g t p m Fd Ft Fw Fm L0 L1 B S h 0 (.inl rfl);have hEm:=VAs w base d g t p Fd Ft Fw B S.D S.us S.lv S.W h.log ho ha hlsn;have hblk:=h.blk;have hsn:s∉Fd++(Ft++Fw):=fun hm=>h.aps (by simp only[List.mem_cons,List.mem_append] at hm ⊢;rcases hm with hm | hm | hm <;> simp[hm]);obtain⟨c0,c1,c2,c3,c4,c5,c6,c7,c8,c9,c10,c11,c12,c13,c14,c15,c16,c17⟩:=ZD hblk;clear c0 c1 c2 c3 c5 c6 c7 c8 c9 c10 c11 c12 c13 c14 c15 c16 c17;rw[show ((0:Nat):Int)=0 from rfl] at hA
 go_enter Tryz.func157,Tryz.ntmps157
 go_wp2_with (first
  | (go_at_call 51;refine hA.mono ?_;clear hA;rintro e w' ⟨rfl,rfl⟩)
  | (go_at_call 117;refine hEm.mono ?_;clear hEm c4;rintro e w1 ⟨rfl,Fd1,Fw1,D1,us1,W1,h1,hE1,hk1,hg1,hgw1⟩))
 obtain⟨hmay,hus,hac⟩:=hE D1 us1 W1 hE1;obtain⟨hS1,hG1⟩:=h.setLog h1 hk1 hg1 hgw1;have hk1w:=hk1;have hb0:=Blk.new w1 106 #[.slice none 0 0,.slice none 0 0];have hk0:Keep [] w1 (w1.alloc (.cells #[.slice none 0 0,.slice none 0 0] 106)):=(Keep.refl _ _).alloc _;have hsA:(w1.alloc (.cells #[.slice none 0 0,.slice none 0 0] 106)).heap.size=w1.heap.size+1:=by rw[World.size_alloc]
 have hFd1:∀ x∈QL s g Fd1 Ft Fw1 Fm L0 L1,x<w1.heap.size:=hS1.lt;have hS0:=hS1.keep0 hk0;have hbxl:=hb0.lt;generalize w1.alloc (.cells #[.slice none 0 0,.slice none 0 0] 106)=wA at *;generalize hbx:w1.heap.size=bx at *;have hmem:∀ x,x=s∨x=g∨x∈Fd1∨x∈Ft∨x∈Fw1∨x∈Fm∨x∈L0.ownBlock.toList∨x∈L1.ownBlock.toList→x<bx:=fun x hx=>hFd1 x (by simpa only[QL,List.mem_cons,List.mem_append] using hx);have hpb:=YC h.log.geom.pos h.log.geom.few;have H1:=XC h1;have HS1:=XC hS1;have HE1:=XC hE1;have HMAY:=XC hmay;have HUS:=XC hus;clear h1 hS1 hE1 hmay hus hE hFd1 hblk
 go_loopw [3,5,19] (fun _ _ i wr=>∃ (k:Nat) (S0 V1:Value) (Fdk:List Nat) (Dk:PDisk) (la lb:List Nat),k≤2∧i=.int .i64 (k:Nat)∧Blk wr bx 106 #[S0,V1]∧(0<k→LieAt wr wA.heap.size B Fdk S0 la)∧(1<k→LieAt wr wA.heap.size B Fdk V1 lb) ∧
  StoreIs wr base s d g t p m Fdk Ft Fw1 Fm L0 L1 B { S with D:=Dk,us:=us1,lv:=S.lv,W:=W1 }∧MetaD (6+4*pgs B) D1 Dk (k*pgs B)∧Keep Fd1 w1 wr∧Grow wA Fd1 Fdk) (fun _ _ i _=>2-(intOf i).toNat)
 case atStart=>exact⟨0,_,_,Fd1,D1,[],[],by omega,rfl,hb0,by omega,by omega,hS0,by simpa using MetaD.refl (6+4*pgs B) D1,hk0.zero,fun x hx=>.inl hx⟩
 case round=>
  clear hb0 hk0 hS0;obtain⟨k,S0,V1,Fdk,Dk,la,lb,hk,rfl,hb,hL0,hL1,hSk,hMk,hkk,hgk⟩:=hrel;have hbxF:bx∉Fdk:=fun hm=>(hgk bx hm).elim (fun hm=>by have:=hmem bx (by simp[hm]);omega) (fun hm=>by omega);have hszk:wA.heap.size≤wr.heap.size:=by have:=hb.lt;omega
  by_cases hk0:k=0
  · subst hk0
    have hMa:=hMk.acts;have hP:=XAK wr base s d g t p m Fdk Ft Fw1 Fm L0 L1 B _ hSk hl0 hl1 (by simp only;omega) false
    go_wp2_with (
     (refine hP.mono ?_)
     clear hP;rintro e w2 ⟨u,lie,Fd2,D2,rfl,hu,hli,hS2,hM2,hk2,hg2,hap⟩;obtain⟨UA,uc,rfl,_⟩:=JB hu;have hb2:=hb.keep hk2 hbxF;have q0:w2.cell? ⟨bx,0,none⟩=some S0:=by simpa using hb2.cell 0
     have f0:=hb2.frozen 0)
    have huB:=KB hu (base':=wA.heap.size) hszk;have hkS:Keep [bx] w2 (w2.setCell ⟨bx,0,none⟩ (.slice UA (pgs B) uc)):=(Keep.refl _ _).setCell (p:=⟨bx,0,none⟩) (.inl (by simp)) _;have hbs:=hb2.set 0 (.slice UA (pgs B) uc);have hg2':Grow wA Fd1 Fd2:=fun x hx=>(hg2 x hx).elim (fun hx=>hgk x hx) (fun h'=>.inr (Nat.le_trans hszk h'));have hb2F:bx∉Fd2:=fun hm=>(hg2' bx hm).elim (fun hm=>by have:=hmem bx (by simp[hm]);omega) (fun hm=>by omega)
    have hfb:Apart (QL s g Fd2 Ft Fw1 Fm L0 L1) [bx]:=fun x hx hm=>by
     simp only[List.mem_singleton] at hm;subst hm;simp only[QL,List.mem_cons,List.mem_append] at hx;rcases hx with hx | hx | hx | hx | hx | hx | hx | hx
     · have:=hmem x (by simp[hx]);omega
     · have:=hmem x (by simp[hx]);omega
     · exact hb2F hx
     · have:=hmem x (by simp[hx]);omega
     · have:=hmem x (by simp[hx]);omega
     · have:=hmem x (by simp[hx]);omega
     · have:=hmem x (by simp[hx]);omega
     · have:=hmem x (by simp[hx]);omega
    have hnb:∀ {q:Value} {n:Nat} {ys:List Value},w2.ownsRow wA.heap.size 3 1 q n ys→∀ x,q.ownBlock=some x→x∉[bx]:=fun hq x hx hm=>by
     simp at hm;subst hm;exact own_blk_ne hq hb2 (by decide) hx
    have hkk2:Keep Fd1 w1 (w2.setCell ⟨bx,0,none⟩ (.slice UA (pgs B) uc)):=(hkk.trans hk2 (fun x hx=>(hgk x hx).imp id (by omega))).trans hkS (fun x hx=>.inr (by simp at hx;omega))
    go_roundw
    case rel=>exact⟨1,.slice UA (pgs B) uc,V1,Fd2,D2,lie,lb,by omega,rfl,by simpa using hbs,fun _=>⟨UA,uc,rfl,XB huB hkS (hnb huB),hli,hap⟩,by omega,hS2.keep hkS hfb,(hMk.trans hM2).mono (by omega),hkk2,hg2'⟩
    case measure=>simp[intOf]
  · by_cases hk1:k=1
    · subst hk1
      have hMa:=hMk.acts;have hP:=XAK wr base s d g t p m Fdk Ft Fw1 Fm L0 L1 B _ hSk hl0 hl1 (by simp only;omega) true
      go_wp2_with (
       (refine hP.mono ?_)
       clear hP;rintro e w2 ⟨u,lie,Fd2,D2,rfl,hu,hli,hS2,hM2,hk2,hg2,hap⟩;obtain⟨UA,uc,rfl,_⟩:=JB hu;have hb2:=hb.keep hk2 hbxF;have q1:w2.cell? ⟨bx,1,none⟩=some V1:=by simpa using hb2.cell 1
       have f1:=hb2.frozen 1)
      have huB:=KB hu (base':=wA.heap.size) hszk;have hkS:Keep [bx] w2 (w2.setCell ⟨bx,1,none⟩ (.slice UA (pgs B) uc)):=(Keep.refl _ _).setCell (p:=⟨bx,1,none⟩) (.inl (by simp)) _;have hbs:=hb2.set 1 (.slice UA (pgs B) uc);have hg2':Grow wA Fd1 Fd2:=fun x hx=>(hg2 x hx).elim (fun hx=>hgk x hx) (fun h'=>.inr (Nat.le_trans hszk h'));have hb2F:bx∉Fd2:=fun hm=>(hg2' bx hm).elim (fun hm=>by have:=hmem bx (by simp[hm]);omega) (fun hm=>by omega)
      have hfb:Apart (QL s g Fd2 Ft Fw1 Fm L0 L1) [bx]:=fun x hx hm=>by
       simp only[List.mem_singleton] at hm;subst hm;simp only[QL,List.mem_cons,List.mem_append] at hx;rcases hx with hx | hx | hx | hx | hx | hx | hx | hx
       · have:=hmem x (by simp[hx]);omega
       · have:=hmem x (by simp[hx]);omega
       · exact hb2F hx
       · have:=hmem x (by simp[hx]);omega
       · have:=hmem x (by simp[hx]);omega
       · have:=hmem x (by simp[hx]);omega
       · have:=hmem x (by simp[hx]);omega
       · have:=hmem x (by simp[hx]);omega
      have hnb:∀ {q:Value} {n:Nat} {ys:List Value},w2.ownsRow wA.heap.size 3 1 q n ys→∀ x,q.ownBlock=some x→x∉[bx]:=fun hq x hx hm=>by
       simp at hm;subst hm;exact own_blk_ne hq hb2 (by decide) hx
      have hkk2:Keep Fd1 w1 (w2.setCell ⟨bx,1,none⟩ (.slice UA (pgs B) uc)):=(hkk.trans hk2 (fun x hx=>(hgk x hx).imp id (by omega))).trans hkS (fun x hx=>.inr (by simp at hx;omega));have hL0b:=(hL0 (by omega)).keep hk2 (fun x hx hm=>by obtain⟨_,_,_,_,_,hz⟩:=hL0 (by omega);exact hz x hx hm) hg2;have hL0c:LieAt (w2.setCell ⟨bx,1,none⟩ (.slice UA (pgs B) uc)) wA.heap.size B Fd2 S0 la:=hL0b.keep hkS (fun x hx hm=>by obtain⟨_,_,_,hz,_⟩:=hL0b;exact hnb hz x (by simpa using hm) hx) (fun x hx=>.inl hx)
      go_roundw
      case rel=>exact⟨2,S0,.slice UA (pgs B) uc,Fd2,D2,la,lie,by omega,rfl,by simpa using hbs,fun _=>hL0c,fun _=>⟨UA,uc,rfl,XB huB hkS (hnb huB),hli,hap⟩,hS2.keep hkS hfb,(hMk.trans hM2).mono (by omega),hkk2,hg2'⟩
      case measure=>simp[intOf]

    · obtain rfl:k=2:=by omega
      have hL0:=hL0 (by omega);have hL1:=hL1 (by omega);obtain⟨A0,q0,rfl,ho0,hx0,hy0⟩:=hL0;obtain⟨A1,q1,rfl,ho1,hx1,hy1⟩:=hL1;obtain⟨x0,_,_,_,_,_,_,_,_,_,_,_,_,_,_,_,_,_⟩:=ZD hSk.blk;have hMa:=hMk.acts;have hlogk:=hSk.log;have hFl:=Qc wr base d Fdk Dk hlogk.disk hlogk.off hlogk.fuse (by omega) hlogk.le
      go_wp2_with (
       (refine hFl.mono ?_)
       clear hFl;rintro e w3 ⟨rfl,Fd3,hD3,hk3,hg3⟩;have hb3:=hb.keep hk3 hbxF;have e0:w3.cell? ⟨bx,0,none⟩=some (.slice A0 (pgs B) q0):=by simpa using hb3.cell 0
       have e1:w3.cell? ⟨bx,1,none⟩=some (.slice A1 (pgs B) q1):=by simpa using hb3.cell 1)
      have hg3':Grow wA Fd1 Fd3:=fun x hx=>(hg3 x hx).elim (fun hx=>hgk x hx) (fun h'=>.inr (Nat.le_trans hszk h'));have hM3:=hMk.trans (MetaD.flush (6+4*pgs B) Dk);have hlog3:=hlogk.setDisk hD3 hk3 hg3 rfl rfl rfl;have hS3:=(hSk.setLog hlog3 (hk3.sub (fun x hx=>by simp[hx])) hg3 (fun x hx=>.inl hx)).1;have ho0':=XB ho0 hk3 (fun x hx hm=>hy0 x hm (by simp[hx]));have ho1':=XB ho1 hk3 (fun x hx hm=>hy1 x hm (by simp[hx]));have hM3a:=hM3.acts;have hR:=JAi w3 base s d g t p m Fd3 Ft Fw1 Fm L0 L1 B _ hS3 (JA HMAY) (JA HUS) hs (by simp only;omega) A0 A1 q0 q1 la lb (Rd.of_own ho0') (Rd.of_own ho1') hx0 hx1;have hbF3:bx∉Fd3:=fun hm=>(hg3' bx hm).elim (fun hm=>by have:=hmem bx (by simp[hm]);omega) (fun hm=>by omega);have hz3:=hk3.size
      go_wp2_with (
       (refine hR.mono ?_)
       clear hR e0 e1 x0;rintro e w4 ⟨rfl,Fd4,D4,hS4,hM4,hk4,hg4⟩;have hb4:=hb3.keep hk4 hbF3;have e0:w4.cell? ⟨bx,0,none⟩=some (.slice A0 (pgs B) q0):=by simpa using hb4.cell 0
       have e1:w4.cell? ⟨bx,1,none⟩=some (.slice A1 (pgs B) q1):=by simpa using hb4.cell 1)
      have hblk4:=hS4.blk;obtain⟨c0,c1,c2,c3,c4,c5,c6,c7,c8,c9,c10,c11,c12,c13,c14,c15,c16,c17⟩:=ZD hblk4;obtain⟨⟨hg1,hg2⟩,_⟩:=JA HMAY;have hgw:IntKind.i64.wrap (((S.st.gen:Nat):Int)+1)=((S.st.gen:Nat):Int)+1:=by rw[IntKind.wrap_i64];simp only at hg2;omega
      have hsw:IntKind.i64.wrap (1-((S.slot:Nat):Int))=1-((S.slot:Nat):Int):=by rw[IntKind.wrap_i64];omega
      have hsb:bx≠s:=fun e=>by have:=hmem s (by simp);omega
      have f11:=hblk4.frozen 11;have f15:=hblk4.frozen 15;have f16:=hblk4.frozen 16;have f17:=hblk4.frozen 17;have hsb:bx≠s:=fun e=>by have:=hmem s (by simp);omega
      have hbxs:∀ W,Keep [s] w4 W→W.cell? ⟨bx,0,none⟩=some (.slice A0 (pgs B) q0)∧W.cell? ⟨bx,1,none⟩=some (.slice A1 (pgs B) q1):=fun W hk=>⟨by simpa using(hb4.keep hk (by simpa using hsb)).cell 0,by simpa using(hb4.keep hk (by simpa using hsb)).cell 1⟩;have hka:Keep [s] w4 (w4.setCell ⟨s,11,none⟩ (.int .i64 (((S.st.gen:Nat):Int)+1))):=(Keep.refl [s] w4).setCell (p:=⟨s,11,none⟩) (.inl (by simp)) _;have hkb:Keep [s] w4 ((w4.setCell ⟨s,11,none⟩ (.int .i64 (((S.st.gen:Nat):Int)+1))).setCell ⟨s,15,none⟩ (.int .i64 (1-((S.slot:Nat):Int)))):=hka.setCell (p:=⟨s,15,none⟩) (.inl (by simp)) _;refine ZR (fun w'=>w'.cell? ⟨bx,0,none⟩=some (.slice A0 (pgs B) q0)∧w'.cell? ⟨bx,1,none⟩=some (.slice A1 (pgs B) q1)) 22 (.held 0 (.held 1 (.held 2 (.held 3 (.held 4 (.held 5 (.held 6 (.held 9 (.held 10 (.held 11 (.held 14 (.two 7 (.held 8 (.loud 12 (.held 13 (.held 15 (.held 16 (.held 17 (.loud 18 (.held 19 (.held 20 (.loud 21 .nil)))))))))) 12 (.held 13 (.loud 7 (.held 8 (.held 15 (.held 16 (.held 17 (.loud 18 (.held 19 (.held 20 (.loud 21 .nil)))))))))))))))))))))) ⟨e0,e1⟩ ?_;simp only[RT.pick,PJ]
      iterate 11 (refine ZK ?_;simp only[Act.put,PU])
      refine wpR_two ?_ ?_
      all_goals
       refine wpR_loud (by rfl) (fun K hK=>?_)
       go_wp2_with fail
       refine hK _ _ (hbxs _ (Keep.refl _ _).drew) ?_;clear hK K
       try simp only[Act.put,PU]
       iterate 1 (refine ZK ?_;simp only[Act.put,PU])
       refine wpR_loud (by rfl) (fun K hK=>?_)
       go_wp2_with fail
       refine hK _ _ (hbxs _ (Keep.refl _ _).drew) ?_;clear hK K
       try simp only[Act.put,PU]
       iterate 4 (refine ZK ?_;simp only[Act.put,PU])
       refine wpR_loud (by rfl) (fun K hK=>?_)
       go_wp2_with fail
       refine hK _ _ (hbxs _ hka.drew) ?_;clear hK K
       try simp only[Act.put,PU]
       iterate 2 (refine ZK ?_;simp only[Act.put,PU])
       refine wpR_loud (by rfl) (fun K hK=>?_)
       go_wp2_with fail
       refine hK _ _ (hbxs _ hkb.drew) ?_;clear hK K
       try simp only[Act.put,PU]
       refine wpR_nil ?_;have hq1:((S.st.gen+1:Nat):Int)=(S.st.gen:Nat)+1:=by simp
       have hq2:((1-S.slot:Nat):Int)=1-(S.slot:Nat):=by omega
       have hbz:=(((hblk4.set 11 (.int .i64 (((S.st.gen:Nat):Int)+1))).set 15 (.int .i64 (1-((S.slot:Nat):Int)))).set 16 (.slice A0 (pgs B) q0)).set 17 (.slice A1 (pgs B) q1)
       have hks:Keep [s] w4 ((((w4.setCell ⟨s,11,none⟩ (.int .i64 (((S.st.gen:Nat):Int)+1))).setCell ⟨s,15,none⟩ (.int .i64 (1-((S.slot:Nat):Int)))).setCell ⟨s,16,none⟩ (.slice A0 (pgs B) q0)).setCell ⟨s,17,none⟩ (.slice A1 (pgs B) q1)):=
        ((((Keep.refl [s] w4).setCell (p:=⟨s,11,none⟩) (.inl (by simp)) _).setCell (p:=⟨s,15,none⟩) (.inl (by simp)) _).setCell (p:=⟨s,16,none⟩) (.inl (by simp)) _).setCell (p:=⟨s,17,none⟩) (.inl (by simp)) _
       have hbase:base≤wA.heap.size:=by have:=hSk.sbase;have:=hmem s (by simp);omega
       have hnew:∀ x,x∈(Value.slice A0 (pgs B) q0).ownBlock.toList∨x∈(Value.slice A1 (pgs B) q1).ownBlock.toList→wA.heap.size≤x∧x∉Fd3∧x∉Fd4:=fun x hx=>by
        have h0:wA.heap.size≤x∧x<wr.heap.size∧x∉Fdk:=by
         rcases hx with hx | hx
         · exact⟨(own_mem ho0 hx).1,(own_mem ho0 hx).2,fun hm=>hy0 x hm hx⟩
         · exact⟨(own_mem ho1 hx).1,(own_mem ho1 hx).2,fun hm=>hy1 x hm hx⟩
        have h3:x∉Fd3:=fun hm=>(hg3 x hm).elim h0.2.2 (by omega);exact⟨h0.1,h3,fun hm=>(hg4 x hm).elim h3 (by omega)⟩
       have ho0w:=KB (XB ho0' hk4 (fun x hx=>(hnew x (.inl (by simp[hx]))).2.1)) hbase;have ho1w:=KB (XB ho1' hk4 (fun x hx=>(hnew x (.inr (by simp[hx]))).2.1)) hbase
       have hS5:=hS4.setLie (S.st.gen+1) (1-S.slot) (.slice A0 (pgs B) q0) (.slice A1 (pgs B) q1) la lb (by rw[hq1,hq2];simpa using hbz) hks ho0w ho1w (fun x hx hm=>by
        have h0:=hnew x (by simpa only[List.mem_append] using hx);simp only[List.mem_cons,List.mem_append] at hm;rcases hm with hm | hm | hm | hm | hm | hm
        · have:=hmem s (by simp);omega
        · have:=hmem g (by simp);omega
        · exact h0.2.2 hm
        · have:=hmem x (by simp[hm]);omega
        · have:=hmem x (by simp[hm]);omega
        · have:=hmem x (by simp[hm]);omega)
       clear hbz hq1 hq2;have hkd:=hks.drew;replace hS5:=hS5.keep0 (Keep.refl _ _).drew;have hblk5:=hS5.blk;have hCl:=VAb _ base m Fm S.I hS5.img;obtain⟨z0,z1,z2,z3,z4,z5,z6,z7,z8,z9,z10,z11,z12,z13,z14,z15,z16,z17⟩:=ZD hblk5;clear z0 z1 z4 z5 z6 z7 z8 z9 z10 z11 z12 z13 z14 z15 z16 z17;have hmF:s∉Fm:=fun hm=>hS4.aps (by simp[hm])
       go_wp2_with (first
        | (go_at_call 242
           refine hCl.mono ?_;clear hCl;rintro e w6 ⟨rfl,hi6,hk6⟩;have hS6:=hS5.setImg hi6 rfl hk6;have hRe:=JAH w6 base t g Ft us1 S.lv hS6.log.tab
           obtain⟨z0,z1,z2,z3,z4,z5,z6,z7,z8,z9,z10,z11,z12,z13,z14,z15,z16,z17⟩:=ZD hS6.blk)
        | (go_at_call 243
           refine hRe.mono ?_;clear hRe;rintro e w7 ⟨u,rfl,hu7,ht7,hk7⟩;obtain⟨UA,uc,rfl,_⟩:=JB hu7))
       go_ret2;have hS7:=(hS6.setLog (hS6.log.setTab ht7 hk7) (hk7.sub (fun x hx=>by simp[hx])) (Grow.refl _ _) (Grow.refl _ _)).1;have hsub:∀ {l:List Nat} {u v:World},(∀ x∈l,x=s∨x∈Fd∨x∈Ft∨x∈Fw∨x∈Fm)→Keep l u v→Keep (QL s g Fd Ft Fw Fm L0 L1) u v:=fun hl hk=>hk.sub (KBF hl);have hFd1:∀ x∈Fd1,x∈QL s g Fd Ft Fw Fm L0 L1∨w.heap.size≤x:=fun x hx=>hG1 x (by simp[QL,hx]);have hz1:w.heap.size≤w1.heap.size:=hk1w.size;have hFdk:∀ x∈Fdk,x∈QL s g Fd Ft Fw Fm L0 L1∨w.heap.size≤x:=fun x hx=>(hgk x hx).elim (hFd1 x) (fun h'=>.inr (by omega));have hFd3:∀ x∈Fd3,x∈QL s g Fd Ft Fw Fm L0 L1∨w.heap.size≤x:=fun x hx=>(hg3' x hx).elim (hFd1 x) (fun h'=>.inr (by omega));have hFd4:∀ x∈Fd4,x∈QL s g Fd Ft Fw Fm L0 L1∨w.heap.size≤x:=fun x hx=>(hg4 x hx).elim (hFd3 x) (fun h'=>.inr (by omega));have K1:=hsub (by intro x hx;simp only[List.mem_append] at hx;rcases hx with h | h | h <;> simp[h]) hk1w;have K2:=K1.trans hkk hFd1;have K3:=K2.trans hk3 hFdk;have K4:=K3.trans hk4 hFd3;have K5:=K4.trans (hsub (by intro x hx;simp at hx;simp[hx]) hkd) (fun x hx=>.inl hx);have K6:=K5.trans (hsub (by intro x hx;simp[hx]) hk6) (fun x hx=>.inl hx);have K7:=K6.trans (hsub (by intro x hx;simp[hx]) hk7) (fun x hx=>.inl hx);refine⟨_,_,_,Fd4,Fw1,.slice A0 (pgs B) q0,.slice A1 (pgs B) q1,D1,us1,W1,D4,la,lb,rfl,KB hu7 K6.size,JA HE1,(hM3.trans hM4).mono (by omega),hx0,hx1,hS7,K7,fun x hx=>?_⟩;simp only[QL,List.mem_cons,List.mem_append] at hx;rcases hx with hx | hx | hx | hx | hx | hx | hx | hx
       · exact .inl (by simp[QL,hx])
       · exact .inl (by simp[QL,hx])
       · exact hFd4 x hx
       · exact .inl (by simp[QL,hx])
       · exact hG1 x (by simp[QL,hx])
       · exact .inl (by simp[QL,hx])
       · exact .inr (by have:=(hnew x (.inl hx)).1;omega)
       · exact .inr (by have:=(hnew x (.inr hx)).1;omega)
end
section
open Go.RowKit
def Checked (B:Nat) (S:PS) (S':PS):Prop:=
 ∃ D1 us1 W1 D' l0 l1,Emitted B S.D S.us S.W D1 us1 W1∧MetaD (6+4*pgs B) D1 D' (2*pgs B+4)∧(∀ x∈l0,x≤1)∧(∀ x∈l1,x≤1) ∧
   S'=⟨D',ZP us1 S.lv 8,S.lv,W1,⟨S.I.bl,List.replicate S.I.bd.length false,S.I.ol,List.replicate S.I.od.length false⟩,{ S.st with gen:=S.st.gen+1 },1-S.slot,l0,l1⟩
def Forgot (B:Nat) (S:PS) (view mode:Nat) (od:List Bool):PS:=
 { S with lv:=YAC B S.lv 0 (Xv S.I.ol S.I.ol.length),I:=⟨S.I.bl,S.I.bd,Kn S.I.ol S.I.ol.length,od⟩,st:={ S.st with seq:=S.st.done,view:=view,mode:=mode } }
def Raised (B:Nat) (S:PS) (view mode:Nat) (S':PS):Prop:=∃ od,Checked B (Forgot B S view mode od) S'
theorem ZAr (B s:Nat) (ol:List Int):(Xv ol ol.length).countP (JJ B s)=ol.countP (JJ B s):=by
 unfold Xv;rw[List.take_of_length_le (Nat.le_refl _)]
 induction ol with
 | nil=>rfl
 | cons o ol ih=>
   rw[List.flatMap_cons,List.countP_append,ih,List.countP_cons];have hg:JJ B s (VF o (-1))=JJ B s o:=Zb (fun h=>by omega);rw[← hg];generalize VF o (-1)=g
   by_cases hgp:0<g
   · rw[if_pos hgp,List.countP_cons,List.countP_nil];omega
   · rw[if_neg hgp,XG (a:=g) (by omega)];simp
theorem Forgot.good {B:Nat} {S:PS} {k j view mode:Nat} {od:List Bool} (hg:Good B S k j):Good B (Forgot B S view mode od) k j∧KI B (Forgot B S view mode od)=KI B S∧XK B (Forgot B S view mode od)=List.replicate B none:=by
 have hol:=hg.ol;refine⟨⟨hg.cap,hg.now,hg.many,hg.flt,hg.flen,hg.b1,hg.b64,hg.bl,?_,hg.brefs,?_,?_,hg.epoch,Nat.le_refl _⟩,rfl,?_⟩
 · simp only[Forgot,JM,List.length_replicate];exact hol
 · intro x hx
   simp only[Forgot,JM] at hx;exact .inl (List.eq_of_mem_replicate hx)
 · have:=hg.seq;have:=hg.done;simp only[Forgot];omega
 · unfold XK
   simp only[Forgot,JM,List.map_replicate,if_pos];rw[hol]
theorem Forgot.ext {B:Nat} {S:PS} {k j view mode:Nat} {od:List Bool} (hg:Good B S k j) (hx:Ext B S):Ext B (Forgot B S view mode od):=by
 have hm:=fun s=>LiveOk.small hx.liv hg s;obtain⟨l1,l2⟩:=Xa (B:=B) (a:=0) (zs:=Xv S.I.ol S.I.ol.length) hx.liv.len hm (by omega);refine⟨hx.segs,⟨l1,fun s hs=>?_,fun i hi=>?_⟩,hx.slot,hx.lie0,hx.lie1⟩
 · simp only[Forgot]
   rw[l2 s hs,hx.liv.live s hs,ZAr,XG (a:=((0:Nat):Int)) (by omega)];unfold VU;simp only;rw[JM,List.countP_replicate,XG (a := -1) (by omega)];simp only[Bool.false_eq_true,if_false];omega
 · simp only[Forgot] at hi ⊢
   rw[JM,List.getD_eq_getElem?_getD,List.getElem?_replicate] at hi
   split at hi <;> simp at hi
theorem Kb (us:List (Nat×Nat)) (lv:List Nat) (k s:Nat) (hs:s<us.length):(ZP us lv k).getD s (0,0)=if s<k∧KR us lv s=true then (0,(us.getD s (0,0)).2) else us.getD s (0,0):=by
 induction k with
 | zero=>rw[if_neg (by omega)];rfl
 | succ k ih=>
   simp only[ZP]
   by_cases hi:KR us lv k=true
   · rw[if_pos hi]
     unfold XE;rw[List.getD_eq_getElem?_getD,List.getElem?_set]
     by_cases e:k=s
     · subst e
       rw[if_pos rfl,if_pos (by rw[JN];exact hs),if_pos ⟨by omega,hi⟩,VAg us lv k k (Nat.le_refl _)];rfl
     · rw[if_neg e,← List.getD_eq_getElem?_getD,ih]
       by_cases h:s<k∧KR us lv s=true
       · rw[if_pos h,if_pos ⟨by omega,h.2⟩]
       · rw[if_neg h,if_neg (fun h'=>h ⟨by omega,h'.2⟩)]
   · rw[if_neg hi,ih]
     by_cases h:s<k∧KR us lv s=true
     · rw[if_pos h,if_pos ⟨by omega,h.2⟩]
     · rw[if_neg h,if_neg (fun h'=>h ⟨by
        rcases Nat.lt_or_ge s k with h1 | h1
        · exact h1
        · have:s=k:=by omega
          subst this;exact absurd h'.2 hi,h'.2⟩)]
theorem Kd {us:List (Nat×Nat)} {lv:List Nat} {s:Nat} (h:KR us lv s=true):(us.getD s (0,0)).1=2∧lv.getD s 0=0:=by
 simpa [KR] using h
theorem Xz {us:List (Nat×Nat)} {lv:List Nat} {s:Nat} (h:ZN us s):ZN (ZP us lv 8) s:=by
 obtain⟨h1,h2,h3⟩:=h;have hl:=JN us lv 8;refine⟨hl.trans h1,fun u hu=>?_,fun k hk=>?_⟩
 · obtain⟨i,hi,rfl⟩:=List.getElem_of_mem hu
   rw[← JH hi,Kb us lv 8 i (by omega)];have:=h2 _ (List.getElem_mem (n:=i) (by omega));rw[JH (by omega)]
   split
   · exact⟨by simp,this.2⟩
   · exact this
 · rw[← JH hk,Kb us lv 8 k (by omega)]
   rw[hl] at hk
   split
   · rename_i h
     have:=(Kd h.2).1;rw[JH hk] at this;have h4:=h3 k hk;simp only;constructor
     · intro h;omega
     · intro h;have:=h4.2 h;omega
   · rw[JH hk];exact h3 k hk
theorem VAZ (us:List (Nat×Nat)) (lv:List Nat) (k:Nat) (hk:k≤us.length):JD us≤JD (ZP us lv k):=by
 induction k with
 | zero=>exact Nat.le_refl _
 | succ k ih=>
   have hi:=ih (by omega);simp only[ZP]
   split
   · have:=XL (ZP us lv k) k 0 (by rw[JN];omega)
     simp at this
     split at this <;> omega
   · exact hi
theorem Checked.good {B:Nat} {S S':PS} {k j:Nat} (h:Checked B S S') (hg:Good B S k j) (hx:Ext B S) (hj:j≤100000) :
 Good B S' k (j+1)∧Ext B S'∧KI B S'=KI B S∧XK B S'=XK B S∧S'.st={ S.st with gen:=S.st.gen+1 }:=by
 obtain⟨D1,us1,W1,D',l0,l1,hE,hM,hl0,hl1,rfl⟩:=h;have hlsn:=hg.cap.lsn;have hpb:=YC hg.b1 hg.b64;obtain⟨e1,e2,e3,e4,e5,e6,e7,e8,e9,e10,e11⟩:=hg.cap.emitted hE;have hs1:=hE.segs hx.segs (by omega);obtain⟨q1,q2⟩:=hE.reads hg.cap.ok hg.now hg.many hg.cap.seg hg.cap.off;obtain⟨_,_,_,_,_,_,_,_,_,_,_,f1,_,_,f4⟩:=hE.facts hg.cap.ok;have hul:=hg.cap.ul;have hn1:D1.n=198+4*pgs B:=f1.trans hg.many
 -- what is read, and lies
 have hK:∀ x:Nat,0<x→((x:Int)∈S.I.bl∨(x:Int)∈S.I.ol)→Lies B S.us S.W x→Lies B (ZP us1 S.lv 8) W1 x∧YK B D' W1 x=YK B S.D S.W x:=by
  intro x hx0 hxm hl;obtain⟨b1,b2⟩:=q2 x hl;have h8:(x-(6+4*pgs B)) / 24<8:=by have:=hl.hi;omega
  refine⟨⟨b1.lo,b1.hi,?_,b1.here⟩,?_⟩
  · rw[Kb us1 S.lv 8 _ (by omega)]
    split
    · rename_i hi
      have h0:=(Kd hi.2).2;rw[hx.liv.live _ h8] at h0;have:=ZAw (B:=B) (I:=S.I) (a:=(x:Int)) hxm (by omega);simp only[Int.toNat_natCast] at this;omega
    · exact b1.used
  · rw[← b2]
    unfold YK
    split
    · rfl
    · exact hM.now (by rw[q1]) x b1.lo
 have hR:∀ a:Int,(a∈S.I.bl∨a∈S.I.ol)→RefOk B S a→RefOk B ⟨D',ZP us1 S.lv 8,S.lv,W1,⟨S.I.bl,List.replicate S.I.bd.length false,S.I.ol,List.replicate S.I.od.length false⟩,{ S.st with gen:=S.st.gen+1 },1-S.slot,l0,l1⟩ a ∧
  QG B ⟨D',ZP us1 S.lv 8,S.lv,W1,⟨S.I.bl,List.replicate S.I.bd.length false,S.I.ol,List.replicate S.I.od.length false⟩,{ S.st with gen:=S.st.gen+1 },1-S.slot,l0,l1⟩ a=QG B S a:=by
  intro a ha hr;rcases hr with rfl | ⟨h0,hl⟩
  · exact⟨.inl rfl,by unfold QG;rw[if_pos rfl,if_pos rfl]⟩
  · obtain⟨h1,h2⟩:=hK a.toNat (by omega) (by rw[show ((a.toNat:Nat):Int)=a by omega];exact ha) hl
    refine⟨.inr ⟨h0,h1⟩,?_⟩;unfold QG;rw[if_neg (by omega),if_neg (by omega)];exact h2
 obtain⟨c,s,c1,c2,c3⟩:=hg.cap.cs;refine⟨⟨⟨e1,by simp only;rw[JN];exact e2,by simp only;rw[e3];exact hg.cap.seg,e4,?_,⟨c,s,c1,?_,?_⟩,?_,?_⟩,?_,?_,?_,?_,hg.b1,hg.b64,hg.bl,hg.ol,?_,?_,?_,?_,hg.done⟩,⟨?_,⟨hx.liv.len,hx.liv.live,hx.liv.diff⟩,by simp only;omega,hl0,hl1⟩,?_,?_,rfl⟩
 · simp only
   have hsg:=hg.cap.seg;rw[Kb us1 S.lv 8 _ (by omega)]
   split
   · rename_i hi
     have:=(Kd hi.2).1;omega
   · exact e6
 · have:Yh W1=W1.pos.off:=by unfold Yh;rw[if_pos e8]
   simp only;rw[this];omega
 · have:=VAZ us1 S.lv 8 (by omega)
   simp only;omega
 · have:=hM.acts;have:=hg.cap.acts;simp only;omega
 · have:=hg.cap.lsn;simp only;omega
 · simp only
   rw[hM.n];exact hM.nlen q1
 · simp only;rw[hM.n];exact hn1
 · simp only;rw[hM.flt,f4];exact hg.flt
 · simp only;rw[hM.flt,f4,hM.n,f1];exact hg.flen
 · exact fun x hx=>(hR x (.inl hx) (hg.brefs x hx)).1
 · exact fun x hx=>(hg.orefs x hx).imp id (fun h=>(hR x (.inr hx) h).1)
 · have:=hg.seq;simp only;omega
 · have:=hg.epoch;simp only;omega
 · simp only
   rw[e3];exact Xz hs1
 · exact List.map_congr_left (fun x hx=>(hR x (.inl hx) (hg.brefs x hx)).2)
 · refine List.map_congr_left (fun x hx=>?_)
   split
   · rfl
   · rename_i h
     rw[(hR x (.inr hx) ((hg.orefs x hx).resolve_left h)).2]
theorem Raised.good {B:Nat} {S S':PS} {k j view mode:Nat} (h:Raised B S view mode S') (hg:Good B S k j) (hx:Ext B S) (hj:j≤100000) :
 Good B S' k (j+1)∧Ext B S'∧KI B S'=KI B S∧XK B S'=List.replicate B none∧S'.st={ S.st with seq:=S.st.done,view:=view,mode:=mode,gen:=S.st.gen+1 }∧S'.I.ol=List.replicate B (-1):=by
 obtain⟨od,h⟩:=h;obtain⟨g1,g2,g3⟩:=Forgot.good (view:=view) (mode:=mode) (od:=od) hg;obtain⟨c1,c2,c3,c4,c5⟩:=h.good g1 (Forgot.ext hg hx) hj;refine⟨c1,c2,c3.trans g2,c4.trans g3,c5,?_⟩;obtain⟨D1,us1,W1,D',l0,l1,hE,hM,hl0,hl1,rfl⟩:=h;simp only[Forgot,JM];rw[hg.ol]
end
section
open Go.RowKit Go.Shelf
theorem VAN {B:Nat} {S:PS} {k j:Nat} (hp:S.W.pos.Ok) (hg:Good B S k j) (hx:Ext B S) (hj:j≤20000) (hgen:S.st.gen≤100000) (hv:1≤S.st.view∧S.st.view≤2147483647) (hm:S.st.mode=1∨S.st.mode=2) :
 ∀ D2 us2 W2,Emitted B S.D S.us S.W D2 us2 W2→PReg.May ⟨S.st.gen+1,S.st.view,S.st.mode,S.st.epoch,S.st.seq,S.st.done,W2.pos⟩∧ZN (ZP us2 S.lv 8) W2.pos.seg∧D2.acts≤1000100:=by
 intro D2 us2 W2 hE;obtain⟨e1,e2,e3,e4,e5,e6,e7,e8,e9,e10,e11⟩:=hg.cap.emitted hE;obtain⟨_,_,_,f4,f5,_,_,_,_,_,f11,_⟩:=hE.facts hg.cap.ok;obtain⟨p1,p2,p3,p4,p5⟩:=hp;have hlsn:=hg.cap.lsn;have hac:=hg.cap.acts;have hs:=hg.seq;have he:=hg.epoch;have hd:=hg.done;refine⟨⟨⟨by simp only;omega,by simp only;omega⟩,hv,hm,by simp only;omega,by simp only;omega,hd,⟨by simp only;omega,e4,⟨by simp only;omega,by simp only;omega⟩,?_,by simp only;omega⟩⟩,?_,by omega⟩
 · simp only
   rcases f11 with h | h
   · omega
   · exact h
 · rw[e3]
   exact Xz (hE.segs hx.segs (by omega))
end
section
open Go.RowKit Go.Shelf
theorem QAh (w:World) (base d g t p:Nat) (Fd Ft Fw:List Nat) (B:Nat) (D:PDisk) (us:List (Nat×Nat)) (lv:List Nat) (W:PW) (h:LogIs w base d g t p Fd Ft Fw B D us lv W) (hf:∀ x∈D.faults,x=false) (hfl:D.faults.length=D.n) (ho:W.Ok) (a:Nat) (ha:a<D.n) :
 Calls Tryz.prog 244 #[.pointer (some ⟨p,0,none⟩),.int .i64 (a:Nat)] w fun e w'=>∃ UA uc,e=.returned (.tuple #[.slice UA 64 uc,.int .i64 0])∧w'.ownsRow w.heap.size 5 1 (.slice UA 64 uc) 64 (bys (YK B D W a))∧Keep [] w w':=by
 obtain⟨I,Bv,ls,hw⟩:=h.wri;obtain⟨BA,bc,rfl,_⟩:=JB hw.bls;have hrws:=hw.rws rfl;have hlen:ls.length=W.blocks.length:=hw.len;have hb6:ls.length≤6:=by rw[hlen,ho.many];exact Nat.le_trans (XO _) ho.few
 obtain⟨p1,p2,_,_,_⟩:=h.pos;have hFi:=fun U (hk:Keep [] w U)=>QAd U p g B _ (hw.blk.keep0 hk) rfl W.pos.seg W.pos.off p1 (by omega) rfl rfl (h.geom.keep0 hk);have hRd:=fun U (hk:Keep [] w U)=>QY U base d Fd D (h.disk.keep0 hk) h.off a ha (by rw[List.getElem?_eq_getElem (by omega),hf _ (List.getElem_mem _)]);have hcl:=fun U (hk:Keep [] w U)=>QI (hw.blk.keep0 hk);have hsnd:∀ k (hk:k<ls.length),W.blocks[k]? = some ls[k].2:=fun k hk=>by rw[← hw.snd,List.getElem?_map,List.getElem?_eq_getElem hk];rfl
 have hdat:∀ k (hk:k<ls.length),w.ownsRow base 5 1 ls[k].1 64 (bys ls[k].2):=fun k hk=>hw.dat _ (List.getElem_mem hk);have hpb:=YC h.geom.pos h.geom.few;have hn:=h.many;obtain⟨f0,hf0⟩:∃ f,f=6+4*pgs B+24*W.pos.seg+KC W.pos.off 0:=⟨_,rfl⟩;have hfb:f0≤1000:=by rw[hf0];unfold KC;omega
 have hrw:YK B D W a=if f0≤a∧a<f0+ls.length then W.blocks.getD (a-f0) [] else seg 64 D.now a:=by unfold YK JF;rw[hlen,hf0]
 rw[← hf0] at hFi;obtain⟨c0,c1,c2,c3,c4,c5,c6,c7,c8,c9⟩:=hcl w (Keep.refl _ _);have HF0:=XC hf0;have HRW:=XC hrw;have HSND:=XC hsnd;have HDAT:=XC hdat;clear hf0 hrw hsnd hdat h hw hf hfl hn ho hlen;have HN:=XC (show ls.length=ls.length from rfl);obtain⟨n,hn⟩:∃ n,n=ls.length:=⟨_,rfl⟩;rw[← hn] at hrws c9 hb6;have HLN:=XC hn;clear hn
 go_enter Tryz.func244,Tryz.ntmps244
 go_wp2
 go_loopw [6,7,15] (fun _ _ i U=>∃ k:Nat,k≤n∧i=.int .i64 (k:Nat)∧Keep [] w U∧∀ j<k,a≠f0+j) (fun _ _ i _=>n-(intOf i).toNat)
 case atStart=>exact⟨0,Nat.zero_le _,rfl,Keep.refl _ _,fun j hj=>by omega⟩
 case round=>
  clear c0 c1 c2 c3 c4 c5 c6 c7 c8 c9;obtain⟨k,hk,rfl,hkU,hno⟩:=hrel;have HNO:=XC hno;clear hno
  by_cases hlt:k<n
  · have hkl:k<ls.length:=by rw[← JA HLN];exact hlt
    obtain⟨ab,ao,hBA,hab,hcell,hbt⟩:=(hrws.keep hkU).at_ hlt hkl;have hda:=JA HDAT k hkl;obtain⟨QA,qc,hqv,_⟩:=JB hda;rw[hqv] at hcell hda;have hkI:((k:Nat):Int)<(n:Nat):=by omega
    subst hBA;have hFi1:=hFi wr hkU
    by_cases hea:a=f0+k
    · have heI:((a:Nat):Int)=(f0:Nat)+(k:Nat):=by omega
      have hCl:=fun U (hk':Keep [] w U)=>QW QA 64 qc _ U ((Rd.of_own hda).keep hk') (by omega)
      go_wp2_with (first
       | (go_at_call 116
          refine hFi1.mono ?_;clear hFi1;rintro e w2 ⟨rfl,hk2⟩
          replace hkU:=hkU.trans0 hk2)
       | (go_at_call 115
          refine(hCl _ hkU).mono ?_;clear hCl;rintro e w3 ⟨u,rfl,hu,hk3,_⟩))
      obtain⟨UA,uc,rfl,_⟩:=JB hu;go_ret2;refine⟨UA,uc,rfl,?_,hkU.trans0 hk3⟩
      have e1:YK B D W a=ls[k].2:=by
       rw[JA HRW,if_pos ⟨by omega,by omega⟩,List.getD_eq_getElem?_getD,show a-f0=k by omega,JA HSND k hkl];rfl
      rw[e1];exact KB hu hkU.size
    · have heI:¬ ((a:Nat):Int)=(f0:Nat)+(k:Nat):=by omega
      have heB:(((a:Nat):Int) == (f0:Nat)+(k:Nat))=false:=by simpa using heI
      go_wp2_with (
       (refine hFi1.mono ?_)
       clear hFi1;rintro e w2 ⟨rfl,hk2⟩)
      go_roundw
      case rel=>
       refine⟨k+1,by omega,by go_num,hkU.trans0 hk2,fun j hj=>?_⟩;rcases Nat.lt_or_ge j k with h1 | h1
       · exact JA HNO j h1
       · obtain rfl:j=k:=by omega
         exact hea
      case measure=>simp[intOf];omega
  · obtain rfl:k=n:=by omega
    have hRd1:=hRd wr hkU;obtain⟨c0,c1,c2,c3,c4,c5,c6,c7,c8,c9⟩:=hcl wr hkU
    go_wp2_with (
     (refine hRd1.mono ?_)
     clear hRd1;rintro e w2 ⟨u,rfl,hu,hk2⟩)
    obtain⟨UA,uc,rfl,_⟩:=JB hu;go_ret2;refine⟨UA,uc,rfl,?_,hkU.trans0 hk2⟩
    have e1:YK B D W a=seg 64 D.now a:=by
     rw[JA HRW,if_neg];rintro⟨h1,h2⟩;rw[← JA HLN] at h2;exact JA HNO (a-f0) (by omega) (by omega)
    rw[e1];exact KB hu hkU.size
section
variable (w:World) (base s d:Nat) (F:List Nat) (B:Nat) (S:PS) (h:StoreAt w base s d F B S)
include h
theorem ZAB (k j:Nat) (hg:Good B S k j) (a:Int) (hr:RefOk B S a) :
 Calls Tryz.prog 162 #[.pointer (some ⟨s,0,none⟩),.int .i64 a] w fun e w'=>∃ UA uc,e=.returned (.tuple #[.slice UA 64 uc,.int .i64 0])∧w'.ownsRow w.heap.size 5 1 (.slice UA 64 uc) 64 (bys (QG B S a))∧Keep [] w w':=by
 obtain⟨g,t,p,m,Fd,Ft,Fw,Fm,L0,L1,h,rfl⟩:=h;obtain⟨c0,c1,c2,c3,c4,c5,c6,c7,c8,c9,c10,c11,c12,c13,c14,c15,c16,c17⟩:=ZD h.blk;rcases hr with rfl | ⟨h0,hl⟩
 · have hz:QG B S 0=zeros64:=by unfold QG;rw[if_pos rfl]
   rw[hz];clear hz hg h
   go_enter Tryz.func162,Tryz.ntmps162
   go_wp2_with (at_make;refine elem8.wp_make rfl _ _ rfl .i64 .i64 64 64 64 rfl rfl rfl rfl (by omega) (by omega) ?_)
   go_ret2;exact⟨some ⟨w.heap.size,0,none⟩,64,rfl,ZM (Blk.new w _ _) (Nat.le_refl _) (by omega) (by simp) (by simp[zeros64,bys];rfl),(Keep.refl _ _).alloc _⟩
 · have hR:=QAh w base d g t p Fd Ft Fw B S.D S.us S.lv S.W h.log hg.flt hg.flen hg.cap.ok a.toNat (by have:=hl.hi;have:=hg.many;omega)
   rw[show ((a.toNat:Nat):Int)=a by omega] at hR;have hrr:QG B S a=YK B S.D S.W a.toNat:=by unfold QG;rw[if_neg (by omega)]
   rw[hrr];have ha0:¬ a=0:=by omega
   have ha1:(a == 0)=false:=by simpa using ha0
   clear hrr hg h hl
   go_enter Tryz.func162,Tryz.ntmps162
   go_wp2_with (refine hR.mono ?_;clear hR;rintro e w2 ⟨UA,uc,rfl,hu,hk2⟩)
   go_ret2;exact⟨UA,uc,rfl,hu,hk2⟩
end
theorem YAU (w:World) (base m:Nat) (F:List Nat) (I:PImage) (h:ImageAt w base m F I) (b:Nat) (hb:b<I.bl.length) :
 Calls Tryz.prog 161 #[.pointer (some ⟨m,0,none⟩),.int .i64 (b:Nat)] w fun e w'=>e=.returned (.tuple #[.int .i64 I.bl[b],.bool true])∧w=w':=by
 obtain⟨p1,p2,F1,F2,h⟩:=h;have hT:=XM w base m p1 p2 F F1 F2 I h false;have hG:=Xe w base p1 F1 I.bl I.bd h.b b hb;simp only[Bool.false_eq_true,if_false] at hT
 go_enter Tryz.func161,Tryz.ntmps161
 go_wp2_with (first
  | (go_at_call 119;refine hT.mono ?_;clear hT;rintro e w' ⟨rfl,rfl⟩)
  | (refine hG.mono ?_;clear hG;rintro e w' ⟨rfl,rfl⟩))
 go_ret2;exact⟨rfl,rfl⟩
def Qg (I:PImage) (b:Nat):Int:=if I.ol.getD b 0 = -1 then I.bl.getD b 0 else I.ol.getD b 0
theorem XAl (w:World) (base m:Nat) (F:List Nat) (I:PImage) (h:ImageAt w base m F I) (b:Nat) (hb:b<I.bl.length) (ho:b<I.ol.length) :
 Calls Tryz.prog 290 #[.pointer (some ⟨m,0,none⟩),.int .i64 (b:Nat)] w fun e w'=>e=.returned (.tuple #[.int .i64 (Qg I b),.bool true])∧w=w':=by
 have hR:=YAU w base m F I h b hb;obtain⟨p1,p2,F1,F2,h⟩:=h;have hT:=XM w base m p1 p2 F F1 F2 I h true;have hG:=Xe w base p2 F2 I.ol I.od h.o b ho;simp only[if_true] at hT;have hlk:Qg I b=if I.ol[b] = -1 then I.bl[b] else I.ol[b]:=by unfold Qg;rw[Ki ho,Ki hb]
 rw[hlk];clear hlk h;generalize I.ol[b]=o at *;generalize I.bl[b]=bb at *
 by_cases ho1:o = -1
 · subst ho1
   rw[if_pos rfl]
   go_enter Tryz.func290,Tryz.ntmps290
   go_wp2_with (first
    | (go_at_call 119;refine hT.mono ?_;clear hT;rintro e w' ⟨rfl,rfl⟩)
    | (go_at_call 161;refine hR.mono ?_;clear hR;rintro e w' ⟨rfl,rfl⟩)
    | (refine hG.mono ?_;clear hG;rintro e w' ⟨rfl,rfl⟩))
   go_ret2;exact⟨rfl,rfl⟩
 · rw[if_neg ho1]
   have ho2:(o == -1)=false:=by simpa using ho1
   go_enter Tryz.func290,Tryz.ntmps290
   go_wp2_with (first
    | (go_at_call 119;refine hT.mono ?_;clear hT;rintro e w' ⟨rfl,rfl⟩)
    | (refine hG.mono ?_;clear hG;rintro e w' ⟨rfl,rfl⟩))
   go_ret2;exact⟨rfl,rfl⟩
section
variable (w:World) (base s d:Nat) (F:List Nat) (B:Nat) (S:PS) (h:StoreAt w base s d F B S)
include h
theorem YAJ (k j:Nat) (hg:Good B S k j) (b:Nat) (hb:b<B) :
 Calls Tryz.prog 89 #[.pointer (some ⟨s,0,none⟩),.int .i64 (b:Nat)] w fun e w'=>∃ UA uc,e=.returned (.tuple #[.slice UA 64 uc,.int .i64 0])∧w'.ownsRow w.heap.size 5 1 (.slice UA 64 uc) 64 (bys ((KI B S).getD b []))∧Keep [] w w':=by
 have hbl:=hg.bl;have hB:=ZAB w base s d F B S h k j hg (S.I.bl[b]'(by omega)) (hg.brefs _ (List.getElem_mem _))
 have hbo:(KI B S).getD b []=QG B S (S.I.bl[b]'(by omega)):=by
  unfold KI;rw[List.getD_eq_getElem?_getD,List.getElem?_map,List.getElem?_eq_getElem (by omega)];rfl
 rw[hbo];obtain⟨g,t,p,m,Fd,Ft,Fw,Fm,L0,L1,h,rfl⟩:=h;have hH:=XAJ w base s d g t p m Fd Ft Fw Fm L0 L1 B S h b 1 (by omega) (by omega);have hQ:=Kr w base s d g t p m Fd Ft Fw Fm L0 L1 B S h 0 (.inl rfl);have hR:=YAU w base m Fm S.I h.img b (by omega);obtain⟨c0,c1,c2,c3,c4,c5,c6,c7,c8,c9,c10,c11,c12,c13,c14,c15,c16,c17⟩:=ZD h.blk;rw[show ((0:Nat):Int)=0 from rfl] at hQ;rw[show ((1:Nat):Int)=1 from rfl] at hH;clear h hbo hg;generalize S.I.bl[b]'_=a at *;generalize QG B S a=rr at *
 go_enter Tryz.func89,Tryz.ntmps89
 go_wp2_with (first
  | (go_at_call 52;refine hH.mono ?_;clear hH;rintro e w' ⟨rfl,rfl⟩)
  | (go_at_call 51;refine hQ.mono ?_;clear hQ;rintro e w' ⟨rfl,rfl⟩)
  | (go_at_call 161;refine hR.mono ?_;clear hR;rintro e w' ⟨rfl,rfl⟩)
  | (go_at_call 162;refine hB.mono ?_;clear hB;rintro e w2 ⟨UA,uc,rfl,hu,hk2⟩))
 go_ret2;exact⟨UA,uc,rfl,hu,hk2⟩
theorem QAK (k j:Nat) (hg:Good B S k j) (b:Nat) (hb:b<B) :
 Calls Tryz.prog 256 #[.pointer (some ⟨s,0,none⟩),.int .i64 (b:Nat)] w fun e w'=>∃ UA uc,e=.returned (.tuple #[.slice UA 64 uc,.int .i64 0])∧w'.ownsRow w.heap.size 5 1 (.slice UA 64 uc) 64 (bys (((XK B S).getD b none).getD ((KI B S).getD b [])))∧Keep [] w w':=by
 have hbl:=hg.bl;have hol:=hg.ol;have hlk:Qg S.I b=if S.I.ol[b]'(by omega) = -1 then S.I.bl[b]'(by omega) else S.I.ol[b]'(by omega):=by unfold Qg;rw[Ki (by omega),Ki (by omega)]
 have hro:RefOk B S (Qg S.I b):=by
  rw[hlk]
  split
  · exact hg.brefs _ (List.getElem_mem _)
  · rename_i hne
    exact(hg.orefs _ (List.getElem_mem _)).resolve_left hne
 have hB:=ZAB w base s d F B S h k j hg _ hro
 have hbo:((XK B S).getD b none).getD ((KI B S).getD b [])=QG B S (Qg S.I b):=by
  unfold KI XK;rw[List.getD_eq_getElem?_getD,List.getElem?_map,List.getElem?_eq_getElem (by omega),List.getD_eq_getElem?_getD,List.getElem?_map,List.getElem?_eq_getElem (by omega),hlk];simp only[Option.map_some,Option.getD_some]
  split <;> rfl
 rw[hbo];obtain⟨g,t,p,m,Fd,Ft,Fw,Fm,L0,L1,h,rfl⟩:=h;have hH:=XAJ w base s d g t p m Fd Ft Fw Fm L0 L1 B S h b 1 (by omega) (by omega);have hQ:=Kr w base s d g t p m Fd Ft Fw Fm L0 L1 B S h 0 (.inl rfl);have hR:=XAl w base m Fm S.I h.img b (by omega) (by omega);obtain⟨c0,c1,c2,c3,c4,c5,c6,c7,c8,c9,c10,c11,c12,c13,c14,c15,c16,c17⟩:=ZD h.blk;rw[show ((0:Nat):Int)=0 from rfl] at hQ;rw[show ((1:Nat):Int)=1 from rfl] at hH;clear h hbo hg hlk hro;generalize Qg S.I b=a at *;generalize QG B S a=rr at *
 go_enter Tryz.func256,Tryz.ntmps256
 go_wp2_with (first
  | (go_at_call 52;refine hH.mono ?_;clear hH;rintro e w' ⟨rfl,rfl⟩)
  | (go_at_call 51;refine hQ.mono ?_;clear hQ;rintro e w' ⟨rfl,rfl⟩)
  | (go_at_call 290;refine hR.mono ?_;clear hR;rintro e w' ⟨rfl,rfl⟩)
  | (go_at_call 162;refine hB.mono ?_;clear hB;rintro e w2 ⟨UA,uc,rfl,hu,hk2⟩))
 go_ret2;exact⟨UA,uc,rfl,hu,hk2⟩
end
end
end Go.Proofs.YtkonbpfbjiepfaaGreat
