/-
  A part of the proof: lemmas, and contracts of functions; their conditions stand in them.
-/
import Derived.Test.YtmoagodllhdemaaGreatE40
import Derived.Test.YtmoagodllhdemaaGreatE14
import Derived.Test.YtmoagodllhdemaaGreatE09
import Derived.Test.YtmoagodllhdemaaGreatE08
namespace Go.Proofs.YtmoagodllhdemaaGreat
set_option linter.unusedSimpArgs false
set_option linter.unusedVariables false
set_option maxHeartbeats 4000000
set_option maxRecDepth 20000
section
open Go.RowKit
def wr3 (k:Nat):List POp:=(List.range k).map fun i=>⟨1,(i:Nat),0,0,KL (i:Nat)⟩
theorem JAY {k i:Nat} {o:POp} (hk:k≤3) (h:(wr3 k)[i]? = some o):FrMay o.k (3:Nat) ((0+1+i:Nat):Int) o.b o.c o.e 0 o.d∧o.k≠8∧o.k≠9:=by
 obtain ⟨hi,he⟩:=List.getElem?_eq_some_iff.1 h
 have hi':i<k:=by simpa [wr3] using hi
 have he':o=⟨1,(i:Nat),0,0,KL (i:Nat)⟩:=by rw [← he];simp [wr3]
 subst he'
 refine ⟨⟨by omega,.inl ⟨rfl,?_,?_,rfl,rfl,rfl,?_⟩⟩,?_,?_⟩
 · first | omega | (dsimp only;omega)
 · first | omega | (dsimp only;omega)
 · simp
 · first | omega | (dsimp only;omega)
 · first | omega | (dsimp only;omega)
theorem out_a:(KH 3 0 2 (0+1) (wr3 3)).length=2:=by simp [wr3,KH,List.range_succ]
theorem out_b:KH 3 1 2 (0+1) (wr3 3)=[frB 3 2 ⟨1,1,0,0,KL 1⟩,frB 3 3 ⟨1,2,0,0,KL 2⟩]:=by simp [wr3,KH,List.range_succ]
theorem XAx {w5 w6:World} {e:Ending} (h:DecPost w5 (frB 3 2 ⟨1,1,0,0,KL 1⟩) e w6) :
 Keep [] w5 w6∧∃ UA uc,e = .returned (.tuple #[.agg #[.int .i64 1,.int .i64 3,.int .i64 2,.int .i64 1,.int .i64 0,.int .i64 0,.int .i64 0,.slice UA 64 uc],.int .i64 0]):=by
 have h':DecPost w5 (QF 1 3 2 1 0 0 0 (KL 1)) e w6:=h
 obtain ⟨hk,u,he,hu⟩:=DecPost.of_frame ⟨by omega,.inl ⟨rfl,by omega,by omega,rfl,rfl,rfl,length_fillOf _⟩⟩ h'
 obtain ⟨UA,uc,hs,_⟩:=JB hu
 rw [length_fillOf] at hs
 exact ⟨hk,UA,uc,by rw [he,hs];rfl⟩
theorem KAx {w5 w6:World} {e:Ending} (h:DecPost w5 (QF 9 3 0 0 0 0 0 []) e w6) :
 Keep [] w5 w6∧∃ UA uc,e = .returned (.tuple #[.agg #[.int .i64 9,.int .i64 3,.int .i64 0,.int .i64 0,.int .i64 0,.int .i64 0,.int .i64 0,.slice UA 0 uc],.int .i64 0]):=by
 obtain ⟨hk,u,he,hu⟩:=DecPost.of_frame ⟨by omega,.inr (.inr (.inr (.inr ⟨rfl,rfl,rfl,rfl,rfl,rfl,rfl⟩)))⟩ h
 obtain ⟨UA,uc,hs,_⟩:=JB hu
 exact ⟨hk,UA,uc,by rw [he,hs];rfl⟩
theorem Xk (w:World):Calls Tryz.prog 32 #[] w fun r w'=>r = .returned (.bool true)∧Keep [] w w':=by
 have h1:=ZAA 3 2 (by omega) (by omega)
 have h2:=fun W=>Vz 0 2 (.inl rfl) W
 have h3:=fun W=>Vz 1 0 (.inr ⟨by omega,.inl rfl⟩) W
 have h4:=fun W=>Vz 1 17 (.inr ⟨by omega,.inr (by omega)⟩) W
 have H1:=h1 w
 go_enter Tryz.func32,Tryz.ntmps32
 go_wp2_with (first
  | (refine H1.mono ?_;clear H1;rintro e w1 ⟨s,rfl,hS⟩;have K2:=h2 w1;have K3:=h3 w1;have K4:=h4 w1)
  | (refine K2.mono ?_;clear K2;rintro e w' ⟨rfl,rfl⟩)
  | (refine K3.mono ?_;clear K3;rintro e w' ⟨rfl,rfl⟩)
  | (refine K4.mono ?_;clear K4;rintro e w' ⟨rfl,rfl⟩))
 clear h1 h2 h3 h4
 go_loopw [2] (fun i wr=>∃ (k:Nat) (L:Value) (os:List (Value×POp)),k≤3∧i = .int .i64 k∧Src w wr s 3 2 0 k 0 0 L os∧Hid (os.map (·.2)=wr3 k)) (fun i _=>(3-(intOf i)).toNat)
 case atStart=>exact ⟨0,_,_,by omega,rfl,hS,rfl⟩
 case round=>
  clear hS
  obtain ⟨k,L,os,hk,rfl,hS,hos⟩:=hrel
  by_cases hlt:k<3
  · have hF:=Vo (k:Nat) wr
    go_wp2_with (first
     | (refine hF.mono ?_
        clear hF
        rintro e w2 ⟨u,rfl,hu,hk2⟩
        obtain ⟨UA,uc,rfl,_⟩:=JB hu
        have hW:=Zt w w2 s 3 2 0 k 0 0 L os (hS.keep0 hk2) (k:Nat) UA 64 uc _ (Rd.of_own hu) (by simp) (by omega) (by omega) (by omega) (by omega))
     | (refine hW.mono ?_
        clear hW
        rintro e w3 ⟨L',u,rfl,hS3,_,_⟩))
    go_roundw
    case rel=>
     refine ⟨k+1,L',_,by omega,by go_num,hS3,?_⟩
     show _=_
     rw [List.map_append,JA hos]
     simp [wr3,List.range_succ]
    case measure=>simp [intOf];omega
  · obtain rfl:k=3:=by omega
    have hO1:=Jz w wr s 3 2 0 3 0 0 L os hS (by have:=hS.len;omega) (by omega) (by omega) (fun i o ho=>JAY (by omega) (by rw [← JA hos];exact ho))
    go_wp2_with (first
     | (refine hO1.mono ?_
        clear hO1
        rintro e w2 ⟨A1,m1,c1,us1,rfl,hr1,_,hu1,hk2⟩
        have hm1:m1=2:=by
         have e1:=hr1.1
         have e2:=congrArg List.length hu1
         rw [JA hos,out_a,List.length_map] at e2
         rw [List.length_map] at e1
         omega
        subst hm1
        have hA:=Zy 3 1 0 0 (by omega) (by omega) (by omega) (by omega) w2)
     | (refine hA.mono ?_
        clear hA
        rintro e w3 ⟨y,rfl,hy,hk3⟩
        obtain ⟨YA,yc,rfl,_⟩:=JB hy
        have hT:=QAW decodeWord w w3 s 3 2 0 3 0 0 L os (hS.keep0 (hk2.trans0 hk3)) YA yc 1 0 0 (Rd.of_own hy) (by omega) (by omega) (by omega) (by omega))
     | (refine hT.mono ?_
        clear hT
        rintro e w4 ⟨L',rfl,hS4,hk4,_⟩
        have hO2:=Jz w w4 s 3 2 0 3 1 0 L' os hS4 (by have:=hS.len;omega) (by omega) (by omega) (fun i o ho=>JAY (by omega) (by rw [← JA hos];exact ho))))
    refine hO2.mono ?_
    clear hO2
    rintro e w5 ⟨A2,m2,c2,us2,rfl,hr2,hb2,hu2,hk5⟩
    rw [JA hos,out_b] at hu2
    have hm2:m2=2:=by
     have e1:=hr2.1
     have e2:=congrArg List.length hu2
     rw [List.length_map] at e1 e2
     simp only [List.length_cons,List.length_nil] at e2
     omega
    subst hm2
    obtain ⟨b2,o2,rfl,hb2l,hc2⟩:=hr2.2 (by omega)
    obtain ⟨p1,us3,rfl⟩:∃ p1 us3,us2=p1 :: us3:=by
     cases us2 with
     | nil=>simp at hu2
     | cons p1 us3=>exact ⟨_,_,rfl⟩
    have hcell:=hc2 0 p1.1 rfl
    have hp1:p1.2=frB 3 2 ⟨1,1,0,0,KL 1⟩:=by rw [List.map_cons] at hu2;exact (List.cons.inj hu2).1
    obtain ⟨PA,pn,pc,hp,_,_,hpr⟩:=hb2 p1 (by simp)
    rw [hp,Nat.add_zero] at hcell
    rw [hp1] at hpr
    clear hc2 hu2 hr2 hu1 hr1
    have hpn:pn=89:=by have:=hpr.1;simpa [frB] using this.symm
    subst hpn
    have hD1:=decodeWord PA 89 pc _ w5 hpr (by omega) (by omega)
    go_wp2_with (first
     | (refine hD1.mono ?_
        clear hD1
        rintro e w6 hP6
        obtain ⟨hk6,UA6,uc6,rfl⟩:=XAx hP6
        clear hP6))
    have hkW:Keep [] w5 (w6.alloc (.cells #[.int .i64 1,.int .i64 3,.int .i64 2,.int .i64 1,.int .i64 0,.int .i64 0,.int .i64 0,.slice UA6 64 uc6] 85)):=hk6.alloc _
    have hB6:=Blk.new w6 85 #[.int .i64 1,.int .i64 3,.int .i64 2,.int .i64 1,.int .i64 0,.int .i64 0,.int .i64 0,.slice UA6 64 uc6]
    clear hk6
    generalize w6.alloc (.cells #[.int .i64 1,.int .i64 3,.int .i64 2,.int .i64 1,.int .i64 0,.int .i64 0,.int .i64 0,.slice UA6 64 uc6] 85)=W6 at *
    generalize w6.heap.size=f6 at *
    have hS6:Src w W6 s 3 2 0 3 1 0 L' (os.drop 0):=Src.keep0 hS4 (hk5.trans0 hkW)
    have hH:=KAf w W6 s 3 2 0 3 1 0 L' _ hS6 (by omega)
    clear hS4 hk2 hk3 hk4 hk5 hkW hcell hp hp1 hpr hb2 hS hy
    go_wp2_with (first
     | (refine hH.mono ?_
        clear hH
        rintro e w7 ⟨y7,rfl,hy7,hk7⟩
        obtain ⟨YA7,yc7,rfl,_⟩:=JB hy7
        have hD2:=decodeWord YA7 25 yc7 _ w7 (Rd.of_own hy7) (by omega) (by omega))
     | (refine hD2.mono ?_
        clear hD2
        rintro e w8 hP8
        obtain ⟨hk8,UA8,uc8,rfl⟩:=KAx hP8
        clear hP8))
    have hkW8:Keep [] W6 (w8.alloc (.cells #[.int .i64 9,.int .i64 3,.int .i64 0,.int .i64 0,.int .i64 0,.int .i64 0,.int .i64 0,.slice UA8 0 uc8] 85)):=(hk7.trans0 hk8).alloc _
    have hB8:=Blk.new w8 85 #[.int .i64 9,.int .i64 3,.int .i64 0,.int .i64 0,.int .i64 0,.int .i64 0,.int .i64 0,.slice UA8 0 uc8]
    clear hk7 hk8
    generalize w8.alloc (.cells #[.int .i64 9,.int .i64 3,.int .i64 0,.int .i64 0,.int .i64 0,.int .i64 0,.int .i64 0,.slice UA8 0 uc8] 85)=W8 at *
    generalize w8.heap.size=f8 at *
    have hS8:=hS6.keep0 hkW8
    have hB68:=hB6.keep0 hkW8
    clear hS6 hB6 hkW8 hy7
    have hF1:=Vo 1 W8
    go_wp2_with (first
     | (refine hF1.mono ?_
        clear hF1
        rintro e w9 ⟨u9,rfl,hu9,hk9⟩
        obtain ⟨UA9,uc9,rfl,_⟩:=JB hu9
        have hX1:=Vr w w9 s 3 2 0 3 1 0 L' _ (hS8.keep0 hk9) 64 UA9 64 uc9 _ (Rd.of_own hu9) (by omega) (.inr (by omega)))
     | (refine hX1.mono ?_
        clear hX1
        rintro e w10 ⟨rfl,hk10⟩
        have hkA:Keep [] W8 (w10.alloc (.cells #[.int .u8 1] 5)):=(hk9.trans0 hk10).alloc _
        have hX2:=Vr w (w10.alloc (.cells #[.int .u8 1] 5)) s 3 2 0 3 1 0 L' _ (hS8.keep0 hkA) 1 (some ⟨w10.heap.size,0,none⟩) 1 1 [1] (Rd.of_blk (Blk.new w10 _ _) (Nat.le_refl _)) (by omega) (.inl (by simp)))
     | (refine hX2.mono ?_
        clear hX2
        rintro e w11 ⟨rfl,hk11⟩
        have hX3:=QAB w w11 s 3 2 0 3 1 0 L' _ (hS8.keep0 (hkA.trans0 hk11)) 60 5 (by omega))
     | (refine hX3.mono ?_
        clear hX3
        rintro e w12 ⟨rfl,hk12⟩
        have hX4:=QAB w w12 s 3 2 0 3 1 0 L' _ (hS8.keep0 ((hkA.trans0 hk11).trans0 hk12)) 0 0 (by omega))
     | (refine hX4.mono ?_
        clear hX4
        rintro e w13 ⟨rfl,hk13⟩
        have hk813:=((hkA.trans0 hk11).trans0 hk12).trans0 hk13
        have hA2:=Zy 2 1 0 0 (by omega) (by omega) (by omega) (by omega) w13)
     | (refine hA2.mono ?_
        clear hA2
        rintro e w14 ⟨y14,rfl,hy14,hk14⟩
        obtain ⟨YA14,yc14,rfl,_⟩:=JB hy14
        have hT2:=ZAT decodeWord w w14 s 3 2 0 3 1 0 L' _ (hS8.keep0 (hk813.trans0 hk14)) YA14 yc14 2 1 0 0 (Rd.of_own hy14) (by omega) (by omega) (by omega) (by omega) (by omega))
     | (refine hT2.mono ?_
        clear hT2
        rintro e w15 ⟨rfl,hk15⟩
        have hk815:=(hk813.trans0 hk14).trans0 hk15
        have hA3:=Zy 3 4 0 0 (by omega) (by omega) (by omega) (by omega) w15)
     | (refine hA3.mono ?_
        clear hA3
        rintro e w16 ⟨y16,rfl,hy16,hk16⟩
        obtain ⟨YA16,yc16,rfl,_⟩:=JB hy16
        have hT3:=QAf decodeWord w w16 s 3 2 0 3 1 0 L' _ (hS8.keep0 (hk815.trans0 hk16)) YA16 yc16 4 0 0 (Rd.of_own hy16) (by omega) (by omega) (by omega) (by omega) (by omega))
     | (refine hT3.mono ?_
        clear hT3
        rintro e w17 ⟨rfl,hk17⟩
        have hk817:=(hk815.trans0 hk16).trans0 hk17
        have hS17:=hS8.keep0 hk817
        obtain ⟨e60,e61,e62,e63,e64,e65,e66,e67⟩:=YB (hB68.keep0 hk817)
        obtain ⟨e80,e81,e82,e83,e84,e85,e86,e87⟩:=YB (hB8.keep0 hk817)
        have hL6:=(hB68.keep0 hk817).lt
        have hL8:=(hB8.keep0 hk817).lt
        have hQ1:=XAA w w17 s 3 2 0 3 1 0 L' _ hS17
        have hQ2:=XAR w w17 s 3 2 0 3 1 0 L' _ hS17
        have hQ3:=QAd w17)
     | (refine hQ1.mono ?_
        clear hQ1
        rintro e w' ⟨rfl,rfl⟩)
     | (refine hQ2.mono ?_
        clear hQ2
        rintro e w' ⟨rfl,rfl⟩)
     | (refine hQ3.mono ?_
        clear hQ3
        rintro e w18 ⟨rfl,hk18⟩
        have hQ4:=XAi w18)
     | (refine hQ4.mono ?_
        clear hQ4
        rintro e w' ⟨rfl,rfl⟩))
    go_ret
    exact ⟨rfl,hS17.keep.trans0 hk18⟩
end
end Go.Proofs.YtmoagodllhdemaaGreat
