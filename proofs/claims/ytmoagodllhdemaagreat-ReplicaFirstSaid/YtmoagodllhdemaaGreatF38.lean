/-
  A part of the proof: lemmas, and contracts of functions; their conditions stand in them.
-/
import Derived.Test.YtmoagodllhdemaaGreatF33
import Derived.Test.YtmoagodllhdemaaGreatF32
import Derived.Test.YtmoagodllhdemaaGreatF37
import Derived.Test.YtmoagodllhdemaaGreatF35
import Derived.Test.YtmoagodllhdemaaGreatF36
import Derived.Test.YtmoagodllhdemaaGreatF31
import Derived.Test.YtmoagodllhdemaaGreatF29
import Derived.Test.YtmoagodllhdemaaGreatF19
import Derived.Test.YtmoagodllhdemaaGreatF30
namespace Go.Proofs.YtmoagodllhdemaaGreat
set_option linter.unusedSimpArgs false
set_option linter.unusedVariables false
set_option maxHeartbeats 4000000
set_option maxRecDepth 20000
section
open Go.RowKit Go.Shelf
theorem YAY (w:World) (base d g t p:Nat) (Fd Ft Fw:List Nat) (B:Nat) (D:PDisk) (us:List (Nat×Nat)) (lv:List Nat) (W:PW) (h:LogIs w base d g t p Fd Ft Fw B D us lv W) (hf:∀ x∈D.faults,x=false) (hfl:D.faults.length=D.n) (ho:W.Ok) (a:Nat) (ha:a<D.n) :
 Calls Tryz.prog 222 #[.pointer (some ⟨p,0,none⟩),.int .i64 (a:Nat)] w fun e w'=>∃ UA uc,e = .returned (.tuple #[.slice UA 64 uc,.int .i64 0])∧w'.ownsRow w.heap.size 5 1 (.slice UA 64 uc) 64 (bys (JL B D W a))∧Keep [] w w':=by
 obtain ⟨I,Bv,ls,hw⟩:=h.wri
 obtain ⟨BA,bc,rfl,_⟩:=ZB hw.bls
 have hrws:=hw.rws rfl
 have hlen:ls.length=W.blocks.length:=hw.len
 have hb6:ls.length≤6:=by rw [hlen,ho.many];exact Nat.le_trans (QL _) ho.few
 obtain ⟨p1,p2,_,_,_⟩:=h.pos
 have hFi:=fun U (hk:Keep [] w U)=>Qu U p g B _ (hw.blk.keep0 hk) rfl W.pos.seg W.pos.off p1 (by omega) rfl rfl (h.geom.keep0 hk)
 have hRd:=fun U (hk:Keep [] w U)=>YAF U base d Fd D (h.disk.keep0 hk) h.off a ha (by rw [List.getElem?_eq_getElem (by omega),hf _ (List.getElem_mem _)])
 have hcl:=fun U (hk:Keep [] w U)=>VD (hw.blk.keep0 hk)
 have hsnd:∀ k (hk:k<ls.length),W.blocks[k]? = some ls[k].2:=fun k hk=>by rw [← hw.snd,List.getElem?_map,List.getElem?_eq_getElem hk];rfl
 have hdat:∀ k (hk:k<ls.length),w.ownsRow base 5 1 ls[k].1 64 (bys ls[k].2):=fun k hk=>hw.dat _ (List.getElem_mem hk)
 have hpb:=QE h.geom.pos h.geom.few
 have hn:=h.many
 obtain ⟨f0,hf0⟩:∃ f,f=6+4*pgs B+24*W.pos.seg+VC W.pos.off 0:=⟨_,rfl⟩
 have hfb:f0≤1000:=by rw [hf0];unfold VC;omega
 have hrw:JL B D W a=if f0≤a∧a<f0+ls.length then W.blocks.getD (a-f0) [] else seg 64 D.now a:=by unfold JL YG;rw [hlen,hf0]
 rw [← hf0] at hFi
 obtain ⟨c0,c1,c2,c3,c4,c5,c6,c7,c8,c9⟩:=hcl w (Keep.refl _ _)
 have HF0:=XC hf0
 have HRW:=XC hrw
 have HSND:=XC hsnd
 have HDAT:=XC hdat
 clear hf0 hrw hsnd hdat h hw hf hfl hn ho hlen
 have HN:=XC (show ls.length=ls.length from rfl)
 obtain ⟨n,hn⟩:∃ n,n=ls.length:=⟨_,rfl⟩
 rw [← hn] at hrws c9 hb6
 have HLN:=XC hn
 clear hn
 go_enter Tryz.func222,Tryz.ntmps222
 go_wp2
 go_loopw [6,7,15] (fun _ _ i U=>∃ k:Nat,k≤n∧i = .int .i64 (k:Nat)∧Keep [] w U∧∀ j<k,a≠f0+j) (fun _ _ i _=>n-(intOf i).toNat)
 case atStart=>exact ⟨0,Nat.zero_le _,rfl,Keep.refl _ _,fun j hj=>by omega⟩
 case round=>
  clear c0 c1 c2 c3 c4 c5 c6 c7 c8 c9
  obtain ⟨k,hk,rfl,hkU,hno⟩:=hrel
  have HNO:=XC hno
  clear hno
  by_cases hlt:k<n
  · have hkl:k<ls.length:=by rw [← ZA HLN];exact hlt
    obtain ⟨ab,ao,hBA,hab,hcell,hbt⟩:=(hrws.keep hkU).at_ hlt hkl
    have hda:=ZA HDAT k hkl
    obtain ⟨QA,qc,hqv,_⟩:=ZB hda
    rw [hqv] at hcell hda
    have hkI:((k:Nat):Int)<(n:Nat):=by omega
    subst hBA
    have hFi1:=hFi wr hkU
    by_cases hea:a=f0+k
    · have heI:((a:Nat):Int)=(f0:Nat)+(k:Nat):=by omega
      have hCl:=fun U (hk':Keep [] w U)=>ZQ QA 64 qc _ U ((Rd.of_own hda).keep hk') (by omega)
      go_wp2_with (first
       | (go_at_call 270
          refine hFi1.mono ?_
          clear hFi1
          rintro e w2 ⟨rfl,hk2⟩
          replace hkU:=hkU.trans0 hk2)
       | (go_at_call 115
          refine (hCl _ hkU).mono ?_
          clear hCl
          rintro e w3 ⟨u,rfl,hu,hk3,_⟩))
      obtain ⟨UA,uc,rfl,_⟩:=ZB hu
      go_ret2
      refine ⟨UA,uc,rfl,?_,hkU.trans0 hk3⟩
      have e1:JL B D W a=ls[k].2:=by
       rw [ZA HRW,if_pos ⟨by omega,by omega⟩,List.getD_eq_getElem?_getD,show a-f0=k by omega,ZA HSND k hkl];rfl
      rw [e1]
      exact YC hu hkU.size
    · have heI:¬ ((a:Nat):Int)=(f0:Nat)+(k:Nat):=by omega
      have heB:(((a:Nat):Int) == (f0:Nat)+(k:Nat))=false:=by simpa using heI
      go_wp2_with (
       (refine hFi1.mono ?_)
       clear hFi1
       rintro e w2 ⟨rfl,hk2⟩)
      go_roundw
      case rel=>
       refine ⟨k+1,by omega,by go_num,hkU.trans0 hk2,fun j hj=>?_⟩
       rcases Nat.lt_or_ge j k with h1 | h1
       · exact ZA HNO j h1
       · obtain rfl:j=k:=by omega
         exact hea
      case measure=>simp [intOf];omega
  · obtain rfl:k=n:=by omega
    have hRd1:=hRd wr hkU
    obtain ⟨c0,c1,c2,c3,c4,c5,c6,c7,c8,c9⟩:=hcl wr hkU
    go_wp2_with (
     (refine hRd1.mono ?_)
     clear hRd1
     rintro e w2 ⟨u,rfl,hu,hk2⟩)
    obtain ⟨UA,uc,rfl,_⟩:=ZB hu
    go_ret2
    refine ⟨UA,uc,rfl,?_,hkU.trans0 hk2⟩
    have e1:JL B D W a=seg 64 D.now a:=by
     rw [ZA HRW,if_neg]
     rintro ⟨h1,h2⟩
     rw [← ZA HLN] at h2
     exact ZA HNO (a-f0) (by omega) (by omega)
    rw [e1]
    exact YC hu hkU.size
section
variable (w:World) (base s d:Nat) (F:List Nat) (B:Nat) (S:PS) (h:StoreAt w base s d F B S)
include h
theorem Vw (k j:Nat) (hg:Good B S k j) (a:Int) (hr:RefOk B S a) :
 Calls Tryz.prog 143 #[.pointer (some ⟨s,0,none⟩),.int .i64 a] w fun e w'=>∃ UA uc,e = .returned (.tuple #[.slice UA 64 uc,.int .i64 0])∧w'.ownsRow w.heap.size 5 1 (.slice UA 64 uc) 64 (bys (JH B S a))∧Keep [] w w':=by
 obtain ⟨g,t,p,m,Fd,Ft,Fw,Fm,L0,L1,h,rfl⟩:=h
 obtain ⟨c0,c1,c2,c3,c4,c5,c6,c7,c8,c9,c10,c11,c12,c13,c14,c15,c16,c17⟩:=JE h.blk
 rcases hr with rfl | ⟨h0,hl⟩
 · have hz:JH B S 0=zeros64:=by unfold JH;rw [if_pos rfl]
   rw [hz]
   clear hz hg h
   go_enter Tryz.func143,Tryz.ntmps143
   go_wp2_with (at_make;refine elem8.wp_make rfl _ _ rfl .i64 .i64 64 64 64 rfl rfl rfl rfl (by omega) (by omega) ?_)
   go_ret2
   exact ⟨some ⟨w.heap.size,0,none⟩,64,rfl,VM (Blk.new w _ _) (Nat.le_refl _) (by omega) (by simp) (by simp [zeros64,bys];rfl),(Keep.refl _ _).alloc _⟩
 · have hR:=YAY w base d g t p Fd Ft Fw B S.D S.us S.lv S.W h.log hg.flt hg.flen hg.cap.ok a.toNat (by have:=hl.hi;have:=hg.many;omega)
   rw [show ((a.toNat:Nat):Int)=a by omega] at hR
   have hrr:JH B S a=JL B S.D S.W a.toNat:=by unfold JH;rw [if_neg (by omega)]
   rw [hrr]
   have ha0:¬ a=0:=by omega
   have ha1:(a == 0)=false:=by simpa using ha0
   clear hrr hg h hl
   go_enter Tryz.func143,Tryz.ntmps143
   go_wp2_with (refine hR.mono ?_;clear hR;rintro e w2 ⟨UA,uc,rfl,hu,hk2⟩)
   go_ret2
   exact ⟨UA,uc,rfl,hu,hk2⟩
end
theorem JAc (w:World) (base m:Nat) (F:List Nat) (I:PImage) (h:ImageAt w base m F I) (b:Nat) (hb:b<I.bl.length) :
 Calls Tryz.prog 142 #[.pointer (some ⟨m,0,none⟩),.int .i64 (b:Nat)] w fun e w'=>e = .returned (.tuple #[.int .i64 I.bl[b],.bool true])∧w=w':=by
 obtain ⟨p1,p2,F1,F2,h⟩:=h
 have hT:=ZR w base m p1 p2 F F1 F2 I h false
 have hG:=Xh w base p1 F1 I.bl I.bd h.b b hb
 simp only [Bool.false_eq_true,if_false] at hT
 go_enter Tryz.func142,Tryz.ntmps142
 go_wp2_with (first
  | (go_at_call 129;refine hT.mono ?_;clear hT;rintro e w' ⟨rfl,rfl⟩)
  | (refine hG.mono ?_;clear hG;rintro e w' ⟨rfl,rfl⟩))
 go_ret2
 exact ⟨rfl,rfl⟩
def Ye (I:PImage) (b:Nat):Int:=if I.ol.getD b 0 = -1 then I.bl.getD b 0 else I.ol.getD b 0
theorem QAg (w:World) (base m:Nat) (F:List Nat) (I:PImage) (h:ImageAt w base m F I) (b:Nat) (hb:b<I.bl.length) (ho:b<I.ol.length) :
 Calls Tryz.prog 145 #[.pointer (some ⟨m,0,none⟩),.int .i64 (b:Nat)] w fun e w'=>e = .returned (.tuple #[.int .i64 (Ye I b),.bool true])∧w=w':=by
 have hR:=JAc w base m F I h b hb
 obtain ⟨p1,p2,F1,F2,h⟩:=h
 have hT:=ZR w base m p1 p2 F F1 F2 I h true
 have hG:=Xh w base p2 F2 I.ol I.od h.o b ho
 simp only [if_true] at hT
 have hlk:Ye I b=if I.ol[b] = -1 then I.bl[b] else I.ol[b]:=by unfold Ye;rw [Vf ho,Vf hb]
 rw [hlk]
 clear hlk h
 generalize I.ol[b]=o at *
 generalize I.bl[b]=bb at *
 by_cases ho1:o = -1
 · subst ho1
   rw [if_pos rfl]
   go_enter Tryz.func145,Tryz.ntmps145
   go_wp2_with (first
    | (go_at_call 129;refine hT.mono ?_;clear hT;rintro e w' ⟨rfl,rfl⟩)
    | (go_at_call 142;refine hR.mono ?_;clear hR;rintro e w' ⟨rfl,rfl⟩)
    | (refine hG.mono ?_;clear hG;rintro e w' ⟨rfl,rfl⟩))
   go_ret2
   exact ⟨rfl,rfl⟩
 · rw [if_neg ho1]
   have ho2:(o == -1)=false:=by simpa using ho1
   go_enter Tryz.func145,Tryz.ntmps145
   go_wp2_with (first
    | (go_at_call 129;refine hT.mono ?_;clear hT;rintro e w' ⟨rfl,rfl⟩)
    | (refine hG.mono ?_;clear hG;rintro e w' ⟨rfl,rfl⟩))
   go_ret2
   exact ⟨rfl,rfl⟩
section
variable (w:World) (base s d:Nat) (F:List Nat) (B:Nat) (S:PS) (h:StoreAt w base s d F B S)
include h
theorem YAh (k j:Nat) (hg:Good B S k j) (b:Nat) (hb:b<B) :
 Calls Tryz.prog 71 #[.pointer (some ⟨s,0,none⟩),.int .i64 (b:Nat)] w fun e w'=>∃ UA uc,e = .returned (.tuple #[.slice UA 64 uc,.int .i64 0])∧w'.ownsRow w.heap.size 5 1 (.slice UA 64 uc) 64 (bys ((VK B S).getD b []))∧Keep [] w w':=by
 have hbl:=hg.bl
 have hB:=Vw w base s d F B S h k j hg (S.I.bl[b]'(by omega)) (hg.brefs _ (List.getElem_mem _))
 have hbo:(VK B S).getD b []=JH B S (S.I.bl[b]'(by omega)):=by
  unfold VK
  rw [List.getD_eq_getElem?_getD,List.getElem?_map,List.getElem?_eq_getElem (by omega)];rfl
 rw [hbo]
 obtain ⟨g,t,p,m,Fd,Ft,Fw,Fm,L0,L1,h,rfl⟩:=h
 have hH:=Vg w base s d g t p m Fd Ft Fw Fm L0 L1 B S h b 1 (by omega) (by omega)
 have hQ:=Ya w base s d g t p m Fd Ft Fw Fm L0 L1 B S h 0 (.inl rfl)
 have hR:=JAc w base m Fm S.I h.img b (by omega)
 obtain ⟨c0,c1,c2,c3,c4,c5,c6,c7,c8,c9,c10,c11,c12,c13,c14,c15,c16,c17⟩:=JE h.blk
 rw [show ((0:Nat):Int)=0 from rfl] at hQ
 rw [show ((1:Nat):Int)=1 from rfl] at hH
 clear h hbo hg
 generalize S.I.bl[b]'_=a at *
 generalize JH B S a=rr at *
 go_enter Tryz.func71,Tryz.ntmps71
 go_wp2_with (first
  | (go_at_call 141;refine hH.mono ?_;clear hH;rintro e w' ⟨rfl,rfl⟩)
  | (go_at_call 132;refine hQ.mono ?_;clear hQ;rintro e w' ⟨rfl,rfl⟩)
  | (go_at_call 142;refine hR.mono ?_;clear hR;rintro e w' ⟨rfl,rfl⟩)
  | (go_at_call 143;refine hB.mono ?_;clear hB;rintro e w2 ⟨UA,uc,rfl,hu,hk2⟩))
 go_ret2
 exact ⟨UA,uc,rfl,hu,hk2⟩
theorem VAg (k j:Nat) (hg:Good B S k j) (b:Nat) (hb:b<B) :
 Calls Tryz.prog 77 #[.pointer (some ⟨s,0,none⟩),.int .i64 (b:Nat)] w fun e w'=>∃ UA uc,e = .returned (.tuple #[.slice UA 64 uc,.int .i64 0])∧w'.ownsRow w.heap.size 5 1 (.slice UA 64 uc) 64 (bys (((VL B S).getD b none).getD ((VK B S).getD b [])))∧Keep [] w w':=by
 have hbl:=hg.bl
 have hol:=hg.ol
 have hlk:Ye S.I b=if S.I.ol[b]'(by omega) = -1 then S.I.bl[b]'(by omega) else S.I.ol[b]'(by omega):=by unfold Ye;rw [Vf (by omega),Vf (by omega)]
 have hro:RefOk B S (Ye S.I b):=by
  rw [hlk]
  split
  · exact hg.brefs _ (List.getElem_mem _)
  · rename_i hne
    exact (hg.orefs _ (List.getElem_mem _)).resolve_left hne
 have hB:=Vw w base s d F B S h k j hg _ hro
 have hbo:((VL B S).getD b none).getD ((VK B S).getD b [])=JH B S (Ye S.I b):=by
  unfold VK VL
  rw [List.getD_eq_getElem?_getD,List.getElem?_map,List.getElem?_eq_getElem (by omega),List.getD_eq_getElem?_getD,List.getElem?_map,List.getElem?_eq_getElem (by omega),hlk]
  simp only [Option.map_some,Option.getD_some]
  split <;> rfl
 rw [hbo]
 obtain ⟨g,t,p,m,Fd,Ft,Fw,Fm,L0,L1,h,rfl⟩:=h
 have hH:=Vg w base s d g t p m Fd Ft Fw Fm L0 L1 B S h b 1 (by omega) (by omega)
 have hQ:=Ya w base s d g t p m Fd Ft Fw Fm L0 L1 B S h 0 (.inl rfl)
 have hR:=QAg w base m Fm S.I h.img b (by omega) (by omega)
 obtain ⟨c0,c1,c2,c3,c4,c5,c6,c7,c8,c9,c10,c11,c12,c13,c14,c15,c16,c17⟩:=JE h.blk
 rw [show ((0:Nat):Int)=0 from rfl] at hQ
 rw [show ((1:Nat):Int)=1 from rfl] at hH
 clear h hbo hg hlk hro
 generalize Ye S.I b=a at *
 generalize JH B S a=rr at *
 go_enter Tryz.func77,Tryz.ntmps77
 go_wp2_with (first
  | (go_at_call 141;refine hH.mono ?_;clear hH;rintro e w' ⟨rfl,rfl⟩)
  | (go_at_call 132;refine hQ.mono ?_;clear hQ;rintro e w' ⟨rfl,rfl⟩)
  | (go_at_call 145;refine hR.mono ?_;clear hR;rintro e w' ⟨rfl,rfl⟩)
  | (go_at_call 143;refine hB.mono ?_;clear hB;rintro e w2 ⟨UA,uc,rfl,hu,hk2⟩))
 go_ret2
 exact ⟨UA,uc,rfl,hu,hk2⟩
end
end
section
open Go.RowKit Go.Shelf
theorem YAX (w:World) (base s d:Nat) (F:List Nat) (B:Nat) (S:PS) (h:StoreAt w base s d F B S) (k j:Nat) (hg:Good B S k j) (ib i:Nat) (FI:List Nat) (I:PIdl) (hI:IdlAt w ib i FI I) (hb:VK B S=I.base) (ho:VL B S=I.over) (he:S.st.epoch=I.ep) (hs:S.st.seq=I.seq) (hd:S.st.done=I.done) :
 Calls Tryz.prog 30 #[.pointer (some ⟨s,0,none⟩),.pointer (some ⟨i,0,none⟩)] w fun e w'=>e = .returned (.bool true)∧Keep [] w w':=by
 have hSt:=KL w base s d F B S h
 have hR:=fun W (hk:Keep [] w W) b hb=>YAh W base s d F B S (h.keep0 hk) k j hg b hb
 have hL:=fun W (hk:Keep [] w W) b hb=>VAg W base s d F B S (h.keep0 hk) k j hg b hb
 obtain ⟨bv,ov,bs,os,hI⟩:=hI
 have hlen:(VK B S).length=B:=by unfold VK;rw [List.length_map];exact hg.bl
 have hbl:bs.length=B:=by rw [hI.blen,← hb,hlen]
 have hol:os.length=B:=by rw [hI.olen,← ho];exact hg.overLen
 have h64:=hg.b64
 have h1:=hg.b1
 obtain ⟨gb,cb,rfl,_,_⟩:=XE hI.brow (by omega)
 have hLk:=fun W (hk:Keep [] w W) b (hb':b<bs.length)=>Kv W ib i _ _ bs os FI I (hI.keep0 hk) (by omega) (by omega) b hb'
 rw [hb] at hR
 rw [hb,ho] at hL
 rw [he,hs,hd] at hSt
 clear h hg hb ho he hs hd hlen hol
 have HBL:=XC hbl
 clear hbl
 generalize S.st.mode=n0 at *
 generalize S.st.view=n1 at *
 generalize S.st.mount=n5 at *
 generalize S.st.gen=n6 at *
 generalize JD S.us=n7 at *
 generalize QAh S=n8 at *
 generalize ZI S.I.ol=n9 at *
 go_enter Tryz.func30,Tryz.ntmps30
 go_wp2_with (refine hSt.mono ?_;clear hSt;rintro e w1 ⟨rfl,hk1⟩)
 have hbS:=Blk.new w1 51 #[.int .i64 n0,.int .i64 n1,.int .i64 I.ep,.int .i64 I.seq,.int .i64 I.done,.int .i64 n5,.int .i64 n6,.int .i64 n7,.int .i64 n8,.int .i64 n9]
 have hkA:Keep [] w (w1.alloc (.cells #[.int .i64 n0,.int .i64 n1,.int .i64 I.ep,.int .i64 I.seq,.int .i64 I.done,.int .i64 n5,.int .i64 n6,.int .i64 n7,.int .i64 n8,.int .i64 n9] 51)):=hk1.alloc _
 generalize w1.alloc (.cells #[.int .i64 n0,.int .i64 n1,.int .i64 I.ep,.int .i64 I.seq,.int .i64 I.done,.int .i64 n5,.int .i64 n6,.int .i64 n7,.int .i64 n8,.int .i64 n9] 51)=wA at *
 generalize w1.heap.size=gS at *
 obtain ⟨c0,c1,c2,c3,c4⟩:=(hI.keep0 hkA).cells
 obtain ⟨s0,s1,s2,s3,s4,_⟩:=YV hbS
 refine JA (fun w'=>w'.cell? ⟨gS,2,none⟩=some (.int .i64 I.ep)∧w'.cell? ⟨gS,3,none⟩=some (.int .i64 I.seq)∧w'.cell? ⟨gS,4,none⟩=some (.int .i64 I.done)∧w'.cell? ⟨i,2,none⟩=some (.int .i64 I.ep)∧w'.cell? ⟨i,3,none⟩=some (.int .i64 I.seq)∧w'.cell? ⟨i,4,none⟩=some (.int .i64 I.done)) 23 [(0,false),(1,false),(2,false),(3,false),(4,false),(5,false),(6,false),(7,false),(8,false),(9,false),(10,false),(11,false),(12,false),(13,false),(14,false),(15,false),(16,false),(17,false),(18,false),(19,false),(20,false),(21,false),(22,false)]
  (by kernel_rfl) (by kernel_rfl) (fun _ _ d _ _ h=>by cases d <;> exact h) ⟨s2,s3,s4,c2,c3,c4⟩ ?_
 simp only [PI]
 iterate 23 (refine QB ?_ (by rfl) ?_ ?_;rotate_left;(focus (rintro W ⟨hW1,hW2,hW3,hW4,hW5,hW6⟩;go_simp;try with_reducible rfl));simp only [Act.put,PU])
 refine QC ?_
 have hkB:Keep [] w wA.drew:=hkA.drew
 clear c0 c1 c2 c3 c4 s0 s1 s2 s3 s4 hbS hkA hk1
 generalize wA.drew=wB at *
 go_wp2_with fail
 go_loopw [6,7,8,9,10] (fun iv _ _ _ _ wr=>∃ m:Nat,m≤B∧iv = .int .i64 (m:Nat)∧Keep [] w wr) (fun iv _ _ _ _ _=>B-(intOf iv).toNat)
 case atStart=>exact ⟨0,Nat.zero_le _,rfl,hkB⟩
 case round=>
  clear hkB
  obtain ⟨m,hm,rfl,hkr⟩:=hrel
  obtain ⟨c0,c1,c2,c3,c4⟩:=(hI.keep0 hkr).cells
  by_cases hlt:m<B
  · have hmb:m<bs.length:=by have:=ZA HBL;omega
    have hR1:=hR wr hkr m hlt
    have hgd:I.base.getD m []=bs[m].2:=by rw [List.getD_eq_getElem?_getD,hI.bget hmb];rfl
    have hbd:=(hI.keep0 hkr).bdat _ (List.getElem_mem hmb)
    have hce0:wr.cell? ⟨gb,m,none⟩=some bs[m].1:=JG (hI.keep0 hkr).brow (by rw [List.getElem?_map,List.getElem?_eq_getElem hmb];rfl)
    have hLm:=fun W hk=>hL W hk m hlt
    have hLkm:=fun W hk=>hLk W hk m hmb
    generalize (I.over.getD m none).getD (I.base.getD m [])=ys at *
    rw [hgd] at hR1
    clear hgd
    obtain ⟨bm,hbm⟩:∃ p,p=bs[m]:=⟨_,rfl⟩
    rw [← hbm] at hR1 hbd hce0
    clear hbm
    obtain ⟨bm1,xs⟩:=bm
    simp only at hR1 hbd hce0
    obtain ⟨g,c,rfl,hrd,_,hc64⟩:=hbd.rd
    have hgbl:gb<wr.heap.size:=(own_mem (hI.keep0 hkr).brow (g:=gb) (by simp [Value.ownBlock])).2
    clear hbd hL hLk
    go_wp2_with (first
     | (go_at_call 71
        refine hR1.mono ?_
        clear hR1
        rintro e w2 ⟨UA,uc,rfl,hu,hk2⟩
        have hL1:=hLm w2 (hkr.trans0 hk2))
     | (go_at_call 77
        refine hL1.mono ?_
        clear hL1
        rintro e w3 ⟨VA,vc,rfl,hv3,hk3⟩
        have hk23:=hk2.trans0 hk3
        have hkw3:=hkr.trans0 hk23
        obtain ⟨d0,d1,d2,d3,d4⟩:=(hI.keep0 hkw3).cells
        have hce:w3.cell? ⟨gb,m,none⟩=some (.slice (some ⟨g,0,none⟩) 64 c):=(hk23.cell hgbl (by simp) m).trans hce0
        have hB1:Calls Tryz.prog 73 #[.slice UA 64 uc,.slice (some ⟨g,0,none⟩) 64 c] w3 _:=Jh UA (some ⟨g,0,none⟩) 64 64 uc c xs xs w3 (Rd.of_own (XB hu hk3)) (hrd.keep hk23) (by omega) (by omega))
     | (go_at_call 78
        refine (hLkm (w3.drewN k4) (hkw3.trans0 (Keep.ofDrewN k4))).mono ?_
        clear hLkm
        rintro e w5 ⟨XA,xc,rfl,hx5,hc5,rfl⟩
        have hB2:Calls Tryz.prog 73 #[.slice VA 64 vc,.slice XA 64 xc] (w3.drewN k4) _:=Jh VA XA 64 64 vc xc ys ys (w3.drewN k4) ((Rd.of_own hv3).drewN k4) hx5 (by omega) (by omega))
     | (go_at_call 73
        first
        | (with_reducible refine hB1.mono ?_
           clear hB1
           rintro e w4 ⟨rfl,k4,rfl⟩)
        | (with_reducible refine hB2.mono ?_
           clear hB2
           rintro e w6 ⟨rfl,k6,rfl⟩)))
    go_roundw
    case rel=>exact ⟨m+1,by omega,by go_num,hkw3.trans0 (Keep.ofDrewN (k4+k6))⟩
    case measure=>simp [intOf];omega
  · obtain rfl:m=B:=by omega
    have hmb:bs.length=m:=ZA HBL
    go_wp2_with fail
    go_ret
    exact ⟨rfl,hkr⟩
end
section
open Go.RowKit Go.Shelf
section
variable (w:World) (base r s d x:Nat) (Fs Fx:List Nat) (B:Nat) (R:RS) (h:ReplicaIs w base r s d x Fs Fx B R)
include h
end
end
section
open Go.RowKit Go.Shelf
end
section
open Go.RowKit Go.Shelf
attribute [local go_sem] Oper.semAt_some
end
section
open Go.RowKit Go.Shelf
attribute [local go_sem] Oper.semAt_some
structure MetaD (lo:Nat) (D D':PDisk) (c:Nat):Prop where
 n:D'.n=D.n
 off:D'.off=D.off
 fuse:D'.fuse=D.fuse
 flt:D'.faults=D.faults
 acts:D'.acts≤D.acts+c
 nlen:D.now.length=D.n*64→D'.now.length=D.n*64
 now:D.now.length=D.n*64→∀ i,lo≤i→seg 64 D'.now i=seg 64 D.now i
theorem MetaD.refl (lo:Nat) (D:PDisk):MetaD lo D D 0:=⟨rfl,rfl,rfl,rfl,Nat.le_refl _,id,fun _ _ _=>rfl⟩
theorem MetaD.trans {lo c c':Nat} {D D1 D2:PDisk} (h:MetaD lo D D1 c) (h':MetaD lo D1 D2 c'):MetaD lo D D2 (c+c'):=
 ⟨h'.n.trans h.n,h'.off.trans h.off,h'.fuse.trans h.fuse,h'.flt.trans h.flt,by have:=h.acts;have:=h'.acts;omega,
   fun e=>by have:=h'.nlen (by rw [h.nlen e,h.n]);rw [this,h.n],fun e i hi=>(h'.now (by rw [h.nlen e,h.n]) i hi).trans (h.now e i hi)⟩
theorem MetaD.mono {lo c c':Nat} {D D':PDisk} (h:MetaD lo D D' c) (hc:c≤c'):MetaD lo D D' c':=⟨h.n,h.off,h.fuse,h.flt,by have:=h.acts;omega,h.nlen,h.now⟩
structure KPg (w:World) (base d:Nat) (Fd:List Nat) (B:Nat) (D:PDisk) (sv:Value) (ov:Bool) (N b6 lg lc:Nat) (pre:List Nat) (W:World):Prop where
 st:∃ Fd' D' lie,DiskAt W base d Fd' D'∧MetaD (6+4*pgs B) D D' pre.length∧(∀ x∈Fd',x∈Fd∨N≤x)∧W.ownsRow w.heap.size 3 1 (.slice (some ⟨lg,0,none⟩) (pgs B) lc) (pgs B) (QP lie)∧∀ x∈lie,x≤1
 size:N≤W.heap.size
 b2:Boxed W w.heap.size 34 sv
 b3:Boxed W (w.heap.size+1) 4 (.bool ov)
 b4:Boxed W (w.heap.size+2) 75 (.slice none 0 0)
 b5:Boxed W (w.heap.size+3) 41 (.int .i64 0)
 b6:Boxed W b6 75 (.slice (some ⟨lg,0,none⟩) (pgs B) lc)
 keep:Keep Fd w W
theorem KPg.kept {w X Y:World} {base d:Nat} {Fd:List Nat} {B:Nat} {D:PDisk} {sv:Value} {ov:Bool} {N b6 lg lc:Nat} {pre:List Nat} (h:KPg w base d Fd B D sv ov N b6 lg lc pre X) (hk:Keep [] X Y):KPg w base d Fd B D sv ov N b6 lg lc pre Y:=by
 obtain ⟨F',D',lie,h1,h2,h3,h4,h5⟩:=h.st
 exact ⟨⟨F',D',lie,h1.keep0 hk,h2,h3,XB h4 hk,h5⟩,Nat.le_trans h.size hk.size,YB h.b2 hk (by simp),YB h.b3 hk (by simp),YB h.b4 hk (by simp),YB h.b5 hk (by simp),YB h.b6 hk (by simp),h.keep.trans0 hk⟩
end
section
open Go.RowKit Go.Shelf
end
section
open Go.RowKit Go.Shelf
def LieAt (W:World) (N B:Nat) (F:List Nat) (V:Value) (l:List Nat):Prop:=∃ A c,V = .slice A (pgs B) c∧W.ownsRow N 3 1 V (pgs B) (QP l)∧(∀ x∈l,x≤1)∧Apart F V.ownBlock.toList
theorem LieAt.keep {W W':World} {N B:Nat} {F F' k:List Nat} {V:Value} {l:List Nat} (h:LieAt W N B F V l) (hk:Keep k W W') (ha:Apart k V.ownBlock.toList) (hg:Grow W F F'):LieAt W' N B F' V l:=by
 obtain ⟨A,c,h1,h2,h3,h4⟩:=h
 refine ⟨A,c,h1,KA h2 hk (fun g hg hm=>ha g hm (by simp [hg])),h3,fun x hx hm=>(hg x hx).elim (fun hx=>h4 x hx hm) (fun hx=>?_)⟩
 have:=(own_mem h2 hm).2
 omega
end
section
open Go.RowKit
def YK (B s:Nat) (a:Int):Bool:=decide (0<a) && ((a.toNat-(6+4*pgs B)) / 24 == s)
theorem XAP {B s:Nat} {a:Int} (h:YK B s a=true):0<a∧(a.toNat-(6+4*pgs B)) / 24=s:=by
 simpa [YK] using h
theorem YI {B s:Nat} {a:Int} (h:a≤0):YK B s a=false:=by
 unfold YK
 rw [decide_eq_false (by omega)];rfl
def VW (B:Nat) (I:PImage) (s:Nat):Nat:=I.bl.countP (YK B s)+I.ol.countP (YK B s)
structure LiveOk (B:Nat) (lv:List Nat) (I:PImage):Prop where
 len:lv.length=8
 live:∀ s<8,lv.getD s 0=VW B I s
 diff:∀ i,0<I.ol.getD i 0→I.ol.getD i 0≠I.bl.getD i 0
structure Ext (B:Nat) (S:PS):Prop where
 segs:ZW S.us S.W.pos.seg
 liv:LiveOk B S.lv S.I
 slot:S.slot≤1
 lie0:∀ x∈S.lie0,x≤1
 lie1:∀ x∈S.lie1,x≤1
theorem JY (lv:List Nat) (s:Nat) (z:Int):(XK lv s z).length=lv.length:=by simp [XK]
theorem KAN (lv:List Nat) (s k:Nat) (hl:lv.getD s 0≤1000000) (hs:s<lv.length):(XK lv s 1).getD k 0=lv.getD k 0+if k=s then 1 else 0:=by
 unfold XK
 rw [List.getD_eq_getElem?_getD,List.getElem?_set]
 by_cases h:k=s
 · subst h
   rw [if_pos rfl,if_pos hs,if_pos rfl,if_neg (by omega)]
   simp only [Option.getD_some]
   omega
 · rw [if_neg (by omega),if_neg h,← List.getD_eq_getElem?_getD];rfl
theorem Yx (lv:List Nat) (s k:Nat) (hk:k<lv.length) (hl:lv.getD s 0≤1000000):(XK lv s (-1)).getD k 0=lv.getD k 0-if s=k then 1 else 0:=by
 unfold XK
 rw [List.getD_eq_getElem?_getD,List.getElem?_set]
 by_cases h:s=k
 · subst h
   rw [if_pos rfl,if_pos hk,if_pos rfl,if_neg (by omega)]
   simp only [Option.getD_some]
   omega
 · rw [if_neg (by omega),if_neg h,← List.getD_eq_getElem?_getD];rfl
theorem Ju {B:Nat} (zs:List Int) (lv:List Nat) (h8:lv.length=8) (hm:∀ k,lv.getD k 0≤1000000) :
 (zs.foldl (fun lv x=>if 0<x then XK lv ((x.toNat-(6+4*pgs B)) / 24) (-1) else lv) lv).length=8∧∀ k<8,(zs.foldl (fun lv x=>if 0<x then XK lv ((x.toNat-(6+4*pgs B)) / 24) (-1) else lv) lv).getD k 0=lv.getD k 0-zs.countP (YK B k):=by
 induction zs generalizing lv with
 | nil=>exact ⟨h8,fun k hk=>by simp⟩
 | cons z zs ih=>
   simp only [List.foldl_cons]
   by_cases hz:0<z
   · rw [if_pos hz]
     have hd:=Yx lv ((z.toNat-(6+4*pgs B)) / 24)
     obtain ⟨i1,i2⟩:=ih (XK lv ((z.toNat-(6+4*pgs B)) / 24) (-1)) (by rw [JY];exact h8) (fun k=>by
      by_cases hk:k<lv.length
      · rw [hd k hk (hm _)];have:=hm k;omega
      · rw [List.getD_eq_getElem?_getD,List.getElem?_eq_none (by rw [JY];omega)];simp)
     refine ⟨i1,fun k hk=>?_⟩
     rw [i2 k hk,hd k (by omega) (hm _),List.countP_cons]
     unfold YK
     rw [decide_eq_true hz]
     simp only [Bool.true_and,beq_iff_eq]
     split <;> omega
   · rw [if_neg hz]
     obtain ⟨i1,i2⟩:=ih lv h8 hm
     refine ⟨i1,fun k hk=>?_⟩
     rw [i2 k hk,List.countP_cons,YI (by omega)]
     simp
theorem VZ {B:Nat} {lv:List Nat} {a:Nat} {zs:List Int} (h8:lv.length=8) (hm:∀ k,lv.getD k 0≤1000) (ha:(a-(6+4*pgs B)) / 24<8) :
 (XZ B lv a zs).length=8∧∀ k<8,(XZ B lv a zs).getD k 0=lv.getD k 0+(if YK B k (a:Nat) then 1 else 0)-zs.countP (YK B k):=by
 unfold XZ
 by_cases h0:a=0
 · subst h0
   rw [if_pos rfl]
   obtain ⟨i1,i2⟩:=Ju (B:=B) zs lv h8 (fun k=>by have:=hm k;omega)
   refine ⟨i1,fun k hk=>?_⟩
   rw [i2 k hk,YI (by omega)]
   simp
 · rw [if_neg h0]
   have hu:=fun k=>KAN lv ((a-(6+4*pgs B)) / 24) k (by have:=hm ((a-(6+4*pgs B)) / 24);omega) (by omega)
   obtain ⟨i1,i2⟩:=Ju (B:=B) zs (XK lv ((a-(6+4*pgs B)) / 24) 1) (by rw [JY];exact h8) (fun k=>by rw [hu];have:=hm k;split <;> omega)
   refine ⟨i1,fun k hk=>?_⟩
   rw [i2 k hk,hu]
   unfold YK
   rw [decide_eq_true (by omega)]
   simp only [Bool.true_and,beq_iff_eq,Int.toNat_natCast]
   congr 2
   by_cases e:k=(a-(6+4*pgs B)) / 24
   · rw [if_pos e,if_pos e.symm]
   · rw [if_neg e,if_neg (fun h=>e h.symm)]
theorem XAh {B:Nat} {S:PS} {k j s:Nat} (hg:Good B S k j) (hs:(S.us.getD s (0,0)).1=0):VW B S.I s=0:=by
 have key:∀ x:Int,x = -1∨RefOk B S x→YK B s x=false:=by
  intro x hx
  by_cases h:YK B s x=true
  · obtain ⟨h1,h2⟩:=XAP h
    rcases hx with rfl | rfl | ⟨_,hl⟩
    · omega
    · omega
    · have:=hl.used
      rw [h2] at this
      exact absurd hs this
  · simpa using h
 unfold VW
 rw [List.countP_eq_zero.2 (fun x hx=>by rw [key x (.inr (hg.brefs x hx))];simp),List.countP_eq_zero.2 (fun x hx=>by rw [key x (hg.orefs x hx)];simp)]
theorem KAt {B:Nat} {I:PImage} {a:Int} (ha:a∈I.bl∨a∈I.ol) (h0:0<a):0<VW B I ((a.toNat-(6+4*pgs B)) / 24):=by
 have hin:YK B ((a.toNat-(6+4*pgs B)) / 24) a=true:=by simp [YK,h0]
 unfold VW
 rcases ha with ha | ha
 · have:=List.countP_pos_iff.2 ⟨a,ha,hin⟩;omega
 · have:=List.countP_pos_iff.2 ⟨a,ha,hin⟩;omega
theorem VAq {B:Nat} {S:PS} {k j:Nat} (hg:Good B S k j) (s:Nat):VW B S.I s≤128:=by
 unfold VW
 have h1:=List.countP_le_length (p:=YK B s) (l:=S.I.bl)
 have h2:=List.countP_le_length (p:=YK B s) (l:=S.I.ol)
 have:=hg.bl;have:=hg.ol;have:=hg.b64
 omega
theorem LiveOk.small {B:Nat} {S:PS} {k j:Nat} (h:LiveOk B S.lv S.I) (hg:Good B S k j) (s:Nat):S.lv.getD s 0≤1000:=by
 by_cases hs:s<8
 · rw [h.live s hs];have:=VAq hg s;omega
 · rw [List.getD_eq_getElem?_getD,List.getElem?_eq_none (by have:=h.len;omega)];simp
theorem Yu {us:List (Nat×Nat)} {s t x:Nat} (h:ZW us s) (hx:x≤2147483647):ZW (JF us t x) s:=by
 obtain ⟨h1,h2,h3⟩:=h
 unfold JF
 refine ⟨by simpa using h1,fun u hu=>?_,fun k hk=>?_⟩
 · rcases List.mem_or_eq_of_mem_set hu with hu | rfl
   · exact h2 u hu
   · refine ⟨?_,hx⟩
     simp only
     by_cases ht:t<us.length
     · rw [KH ht];exact (h2 _ (List.getElem_mem _)).1
     · rw [List.getD_eq_getElem?_getD,List.getElem?_eq_none (by omega)];simp
 · rw [List.getElem_set]
   split
   · rename_i e
     subst e
     simp only [List.length_set] at hk
     rw [KH hk]
     exact h3 t hk
   · exact h3 k (by simpa using hk)
theorem Emitted.segs {B:Nat} {D D':PDisk} {us us':List (Nat×Nat)} {W W':PW} {s:Nat} (hE:Emitted B D us W D' us' W') (h:ZW us s) (hl:W.pos.lsn≤2147483647):ZW us' s:=by
 rcases hE with ⟨_,_,rfl,_⟩ | ⟨_,D1,W1,rs,sum,_,_,_,_,rfl,_⟩
 · exact h
 · exact Yu h hl
theorem Added.ext {B:Nat} {S:PS} {D':PDisk} {us':List (Nat×Nat)} {lv':List Nat} {W':PW} {k j a:Nat} {i:PItem} {bs:List UInt8} (hA:Added B S.D S.us S.lv S.W i bs D' us' lv' W' a) (hg:Good B S k j) (hk:k≤50) (hj:j≤100000) (hx:Ext B S) :
 ZW us' W'.pos.seg∧LiveOk B lv' S.I:=by
 obtain ⟨W1,hR,rfl,ha⟩:=hA
 have hlsn:=hg.cap.lsn
 have hm:KU i≤1:=by unfold KU;split <;> omega
 rcases hR with ⟨hf,rfl,rfl,rfl,rfl⟩ | ⟨hnf,hf,hE,rfl⟩ | ⟨hnf,hf,rfl,D1,us1,W2,hE,hT⟩
 · exact ⟨hx.segs,hx.liv⟩
 · refine ⟨?_,hx.liv⟩
   have hs:=hE.segs hx.segs (by omega)
   obtain ⟨_,_,e3,_⟩:=hg.cap.emitted hE
   simp only
   rw [e3];exact hs
 · have hfree:=hg.cap.free hk hm hf
   obtain ⟨g1,g2⟩:=XR S.us (by omega)
   have hul:=hg.cap.ul
   have hsg:=hg.cap.seg
   have hl:=hx.liv.len
   refine ⟨?_,⟨by simpa using hl,fun s hs=>?_,hx.liv.diff⟩⟩
   · obtain ⟨rs,hd,sum,t1,t2,t3,rfl,rfl,rfl⟩:=hT
     obtain ⟨f1,f2,f3,f4,f5,f6,f7,f8,f9,f10,f11,f12⟩:=hE.facts hg.cap.ok
     simp only
     obtain ⟨h1,h2,h3⟩:=hx.segs
     have hul1:us1.length=8:=by rcases f10 with rfl | rfl <;> simpa using hul
     have hlsn2:W2.pos.lsn≤S.W.pos.lsn+1:=f6
     have hst:∀ q<8,(us1.getD q (0,0)).1=((VE S.us (ZC S.us) 1).getD q (0,0)).1:=by
      intro q hq
      rcases f10 with rfl | rfl
      · rfl
      · rw [VI]
     have hne:S.W.pos.seg≠ZC S.us:=by
      intro e
      have:=hg.cap.opn
      rw [e,g2] at this
      omega
     have hstp:∀ u∈us1,u.1≤2∧u.2≤2147483647:=by
      have h0:∀ u∈VE S.us (ZC S.us) 1,u.1≤2∧u.2≤2147483647:=by
       intro u hu
       unfold VE at hu
       rcases List.mem_or_eq_of_mem_set hu with hu | rfl
       · exact h2 u hu
       · refine ⟨by simp,?_⟩
         simp only
         rw [KH g1];exact (h2 _ (List.getElem_mem _)).2
      rcases f10 with rfl | rfl
      · exact h0
      · intro u hu
        unfold JF at hu
        rcases List.mem_or_eq_of_mem_set hu with hu | rfl
        · exact h0 u hu
        · refine ⟨?_,by simp only;omega⟩
          simp only
          rw [KH (by simp [VE];omega)]
          exact (h0 _ (List.getElem_mem _)).1
     refine ⟨by simp [VE,JF];exact hul1,?_,?_⟩
     · intro u hu
       unfold VE at hu
       rcases List.mem_or_eq_of_mem_set hu with hu | rfl
       · unfold JF at hu
         rcases List.mem_or_eq_of_mem_set hu with hu | rfl
         · exact hstp u hu
         · refine ⟨?_,by simp only;omega⟩
           simp only
           rw [KH (by omega)]
           exact (hstp _ (List.getElem_mem _)).1
       · refine ⟨by simp,?_⟩
         simp only
         rw [KH (by simp [JF];omega)]
         unfold JF
         rw [List.getElem_set_self]
         simp only
         omega
     · intro q hq
       have hq8:q<8:=by simpa [VE,JF,hul1] using hq
       rw [← KH hq,KF _ _ _ _ (by simp [JF];omega),VI,hst q hq8,KF _ _ _ _ g1]
       rw [f3]
       by_cases e:q=S.W.pos.seg
       · rw [if_pos e]
         subst e
         constructor
         · intro h;omega
         · intro h;exact absurd h hne
       · rw [if_neg e]
         by_cases e2:q=ZC S.us
         · rw [if_pos e2];simp [e2]
         · rw [if_neg e2]
           rw [KH (by omega),h3 q (by omega)]
           constructor
           · intro h;exact absurd h e
           · intro h;exact absurd h e2
   · rw [List.getD_eq_getElem?_getD,List.getElem?_set]
     split
     · rename_i e
       subst e
       rw [if_pos (by omega)]
       exact (XAh hg g2).symm
     · rw [← List.getD_eq_getElem?_getD]
       exact hx.liv.live s hs
theorem Yh {p:Int→Bool} {l:List Int} {i:Nat} {a:Int} (hi:i<l.length):(l.set i a).countP p+(if p l[i] then 1 else 0)=l.countP p+if p a then 1 else 0:=by
 have:=List.countP_set (p:=p) (l:=l) (i:=i) (a:=a) hi
 have h2:(if p l[i] then 1 else 0)≤l.countP p:=by
  split
  · exact List.countP_pos_iff.2 ⟨l[i],List.getElem_mem _,by assumption⟩
  · omega
 omega
theorem KZ {B s:Nat} {x z:Int} (h:0<x→x≠z):YK B s (XF x z)=YK B s x:=by
 unfold XF
 by_cases hx:0<x
 · rw [if_neg (h hx),show max x 0=x by omega]
 · rw [YI (a:=x) (by omega)]
   split
   · exact YI (by omega)
   · exact YI (by omega)
theorem Wrote.ext {B:Nat} {S S':PS} {b:Nat} {bs:List UInt8} {k j:Nat} (h:Wrote B S b bs S') (hg:Good B S k j) (hk:k≤50) (hj:j≤100000) (hb:b<B) (hx:Ext B S):Ext B S':=by
 obtain ⟨D',us',lv1,W',a,hA,rfl⟩:=h
 obtain ⟨hs,hl⟩:=hA.ext hg hk hj hx
 obtain ⟨r1,r2,r3,r4,r5⟩:=hA.reads hg.cap hk hg.now hg.many
 obtain ⟨ra,rb⟩:=r5 rfl
 have ha0:0<a:=by have:=ra.lo;omega
 have ha8:(a-(6+4*pgs B)) / 24<8:=by have:=ra.hi;omega
 have hol:=hg.ol
 have hne:∀ x:Int,x = -1∨RefOk B S x→0<x→x≠(a:Nat):=by
  intro x hx h0
  rcases hx with rfl | rfl | ⟨_,hy⟩
  · omega
  · omega
  · have:=(r4 _ hy).2.2 rfl
    omega
 have hm:=fun s=>LiveOk.small (S:={ S with lv:=lv1 }) hl ⟨hg.cap,hg.now,hg.many,hg.flt,hg.flen,hg.b1,hg.b64,hg.bl,hg.ol,hg.brefs,hg.orefs,hg.seq,hg.epoch,hg.done⟩ s
 obtain ⟨l1,l2⟩:=VZ (B:=B) (zs:=[XF (S.I.ol.getD b 0) a]) hl.len hm ha8
 refine ⟨hs,⟨l1,fun s hs=>?_,fun i hi=>?_⟩,hx.slot,hx.lie0,hx.lie1⟩
 · rw [l2 s hs,hl.live s hs]
   unfold VW
   simp only
   have hc:=Yh (p:=YK B s) (l:=S.I.ol) (i:=b) (a:=(a:Nat)) (by omega)
   have hbo:S.I.ol.getD b 0=S.I.ol[b]:=Vf (by omega)
   rw [List.countP_cons,List.countP_nil,hbo,KZ (fun h0=>hne _ (hg.orefs _ (List.getElem_mem _)) h0)]
   have h2:(if YK B s S.I.ol[b] then 1 else 0)≤S.I.ol.countP (YK B s):=by
    split
    · exact List.countP_pos_iff.2 ⟨S.I.ol[b],List.getElem_mem _,by assumption⟩
    · omega
   omega
 · simp only at hi ⊢
   rw [List.getD_eq_getElem?_getD,List.getElem?_set] at hi ⊢
   split
   · rename_i e
     subst e
     rw [if_pos (by omega)]
     simp only [Option.getD_some]
     intro he
     have hbl:=hg.bl
     rw [Vf (by omega)] at he
     exact hne _ (.inr (hg.brefs _ (List.getElem_mem _))) (by rw [← he];omega) he.symm
   · rename_i e
     rw [if_neg e,← List.getD_eq_getElem?_getD] at hi
     rw [← List.getD_eq_getElem?_getD]
     exact hx.liv.diff i hi
theorem JAJ (B s b n:Nat) (l:List Int) (ds:List Bool) (hb:b+n≤l.length):(VF b n l ds).2.1.countP (YK B s)+(VF b n l ds).1.countP (YK B s)=l.countP (YK B s):=by
 induction n with
 | zero=>simp [VF]
 | succ n ih=>
   rw [QO]
   unfold YM
   simp only
   have hlen:=(KI b n l ds).1
   have hlt:b+n<(VF b n l ds).2.1.length:=by omega
   have hc:=Yh (p:=YK B s) (a:=0) hlt
   rw [List.countP_append,Vf hlt]
   have hz:YK B s 0=false:=YI (by omega)
   rw [hz] at hc
   have h2:(if 0<XF (VF b n l ds).2.1[b+n] 0 then [XF (VF b n l ds).2.1[b+n] 0] else []).countP (YK B s)=if YK B s (VF b n l ds).2.1[b+n] then 1 else 0:=by
    rw [← KZ (z:=0) (fun h=>by omega)]
    generalize XF (VF b n l ds).2.1[b+n] 0=g
    by_cases hg:0<g
    · rw [if_pos hg];simp [List.countP_cons]
    · rw [if_neg hg,YI (by omega)];simp
   have:=ih (by omega)
   rw [h2]
   simp at hc
   omega
theorem Trimmed.ext {B:Nat} {S S':PS} {b n:Nat} {k j:Nat} (h:Trimmed B S b n S') (hg:Good B S k j) (hk:k≤50) (hj:j≤100000) (hb:b+n≤B) (hx:Ext B S):Ext B S':=by
 obtain ⟨D',us',lv1,W',a,hA,rfl⟩:=h
 obtain ⟨hs,hl⟩:=hA.ext hg hk hj hx
 have hol:=hg.ol
 have hm:=fun s=>LiveOk.small (S:={ S with lv:=lv1 }) hl ⟨hg.cap,hg.now,hg.many,hg.flt,hg.flen,hg.b1,hg.b64,hg.bl,hg.ol,hg.brefs,hg.orefs,hg.seq,hg.epoch,hg.done⟩ s
 obtain ⟨l1,l2⟩:=VZ (B:=B) (a:=0) (zs:=(VF b n S.I.ol S.I.od).1) hl.len hm (by omega)
 refine ⟨hs,⟨l1,fun s hs=>?_,fun i hi=>?_⟩,hx.slot,hx.lie0,hx.lie1⟩
 · rw [l2 s hs,hl.live s hs]
   unfold VW
   simp only
   have hc:=JAJ B s b n S.I.ol S.I.od (by omega)
   rw [YI (a:=((0:Nat):Int)) (by omega)]
   simp only [Bool.false_eq_true,if_false]
   omega
 · simp only at hi ⊢
   rw [List.getD_eq_getElem?_getD,Zc] at hi ⊢
   split
   · rename_i e
     rw [if_pos e] at hi
     simp at hi
   · rename_i e
     rw [if_neg e,← List.getD_eq_getElem?_getD] at hi
     rw [← List.getD_eq_getElem?_getD]
     exact hx.liv.diff i hi
theorem YAr (B s:Nat) (bl ol:List Int) (hl:bl.length=ol.length) (hd:∀ i,0<ol.getD i 0→ol.getD i 0≠bl.getD i 0) (hr:∀ x∈ol,-1≤x) :
 (List.zipWith (fun b o=>if o = -1 then b else o) bl ol).countP (YK B s)+((bl.zip ol).flatMap (fun p=>if p.2 = -1 then [] else if 0<XF p.1 p.2 then [XF p.1 p.2] else [])).countP (YK B s)=bl.countP (YK B s)+ol.countP (YK B s):=by
 induction bl generalizing ol with
 | nil=>
   cases ol with
   | nil=>rfl
   | cons o ol=>simp at hl
 | cons b bl ih=>
   cases ol with
   | nil=>simp at hl
   | cons o ol=>
     have hi:=ih ol (by simpa using hl) (fun i hi=>by simpa using hd (i+1) (by simpa using hi)) (fun x hx=>hr x (by simp [hx]))
     have h0:=hd 0
     simp only [List.getD_cons_zero] at h0
     have hro:=hr o (by simp)
     rw [List.zipWith_cons_cons,List.zip_cons_cons,List.flatMap_cons,List.countP_cons,List.countP_cons,List.countP_cons,List.countP_append]
     by_cases ho:o = -1
     · subst ho
       rw [if_pos rfl,YI (a := -1) (by omega)]
       simp
       omega
     · rw [if_neg ho]
       simp only [if_neg ho]
       have hg:YK B s (XF b o)=YK B s b:=KZ (fun hb e=>by subst e;exact h0 hb rfl)
       rw [← hg]
       generalize XF b o=g
       by_cases hgp:0<g
       · rw [if_pos hgp,List.countP_cons,List.countP_nil];omega
       · rw [if_neg hgp,YI (a:=g) (by omega)];simp;omega
theorem Marked.ext {B:Nat} {S S':PS} {e:Nat} {k j:Nat} (h:Marked B S e S') (hg:Good B S k j) (hk:k≤50) (hj:j≤100000) (he:1≤e∧e≤j+1) (hx:Ext B S):Ext B S':=by
 obtain ⟨D1,us1,lv1,W1,a,D2,us2,W2,bd,od,hA,hE,rfl⟩:=h
 have hmay:PItem.May ⟨3,0,0,e⟩ := .inr (.inr (.inl ⟨rfl,rfl,rfl,he.1,by simp only;omega⟩))
 have hc:=hg.cap.added hk hmay (fun h=>by cases h) hA
 obtain ⟨hs,hl⟩:=hA.ext hg hk hj hx
 obtain ⟨_,_,e3,_⟩:=hc.emitted hE
 have hlsn:=hc.lsn
 have hs2:=hE.segs hs (by omega)
 have hol:=hg.ol
 have hbl:=hg.bl
 have hlen:S.I.bl.length=S.I.ol.length:=by omega
 have hm:=fun s=>LiveOk.small (S:={ S with lv:=lv1 }) hl ⟨hg.cap,hg.now,hg.many,hg.flt,hg.flen,hg.b1,hg.b64,hg.bl,hg.ol,hg.brefs,hg.orefs,hg.seq,hg.epoch,hg.done⟩ s
 obtain ⟨l1,l2⟩:=VZ (B:=B) (a:=0) (zs:=Zl S.I.bl S.I.ol S.I.ol.length) hl.len hm (by omega)
 refine ⟨by simp only;rw [e3];exact hs2,⟨l1,fun s hs=>?_,fun i hi=>?_⟩,hx.slot,hx.lie0,hx.lie1⟩
 · rw [l2 s hs,hl.live s hs]
   unfold VW
   simp only
   have hc:=YAr B s S.I.bl S.I.ol hlen hl.diff (fun x hx=>by
    rcases hg.orefs x hx with rfl | rfl | ⟨h,_⟩ <;> omega)
   rw [Jg hlen,XN,YI (a:=((0:Nat):Int)) (by omega)]
   unfold Zl
   rw [List.take_of_length_le (by simp;omega),List.countP_replicate,YI (a := -1) (by omega)]
   simp only [Bool.false_eq_true,if_false]
   omega
 · simp only at hi ⊢
   rw [XN,List.getD_eq_getElem?_getD,List.getElem?_replicate] at hi
   split at hi <;> simp at hi
theorem Does.ext {B:Nat} {S S':PS} {o:POp} {k j:Nat} (h:Does B S o S') (ho:VP B o) (hg:Good B S k j) (hk:k≤50) (hj:j≤100000) (hx:Ext B S):Ext B S':=by
 rcases h with ⟨h1,h2⟩ | ⟨h1,h2⟩ | ⟨h1,h2,h3⟩
 · rcases ho with ⟨_,o1,o2,o3⟩ | ⟨o0,_⟩ | ⟨o0,_⟩
   · exact h2.ext hg hk hj (by omega) hx
   · omega
   · omega
 · rcases ho with ⟨o0,_⟩ | ⟨_,o1,o2,o3⟩ | ⟨o0,_⟩
   · omega
   · exact h2.ext hg hk hj (by omega) hx
   · omega
 · have he:=hg.epoch
   exact h3.ext hg hk hj (by omega) hx
end
end Go.Proofs.YtmoagodllhdemaaGreat
