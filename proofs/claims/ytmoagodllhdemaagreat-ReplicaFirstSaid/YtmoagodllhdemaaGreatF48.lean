/-
  A part of the proof: lemmas, and contracts of functions; their conditions stand in them.
-/
import Derived.Test.YtmoagodllhdemaaGreatF47
import Derived.Test.YtmoagodllhdemaaGreatF09
import Derived.Test.YtmoagodllhdemaaGreatF37
import Derived.Test.YtmoagodllhdemaaGreatF38
import Derived.Test.YtmoagodllhdemaaGreatF11
import Derived.Test.YtmoagodllhdemaaGreatF39
namespace Go.Proofs.YtmoagodllhdemaaGreat
set_option linter.unusedSimpArgs false
set_option linter.unusedVariables false
set_option maxHeartbeats 8000000
set_option maxRecDepth 40000
section
open Go.RowKit Go.Shelf
def Off (N:List Nat) (w:World) (F:List Nat):Prop:=∀ b∈N,b∉F∧b<w.heap.size
namespace Off
variable {N:List Nat} {w w':World} {F F':List Nat}
theorem nil:Off [] w F:=fun _ h=>by cases h
theorem keep0 (h:Off N w F) (hk:Keep [] w w'):Off N w' F:=fun b hb=>⟨(h b hb).1,Nat.lt_of_lt_of_le (h b hb).2 hk.size⟩
theorem turn (h:Off N w F) (hk:Keep F w w') (hg:Grow w F F'):Off N w' F':=fun b hb=>⟨fun hm=>(hg b hm).elim (h b hb).1 (by have:=(h b hb).2;omega),Nat.lt_of_lt_of_le (h b hb).2 hk.size⟩
theorem keepN (h:Off N w F) (hk:Keep F w w'):KeepN N w w':=⟨F,hk,fun b hb=>(h b hb).1⟩
theorem add (h:Off N w F) (hk:Keep [] w w') {b:Nat} (h1:w.heap.size≤b) (h2:b<w'.heap.size) (hF:∀ x∈F,x<w.heap.size):Off (b :: N) w' F:=fun x hx=>by
 rcases List.mem_cons.1 hx with rfl | hx
 · exact ⟨fun hm=>by have:=hF _ hm;omega,h2⟩
 · exact h.keep0 hk x hx
end Off
theorem AckRow.rd {w w':World} {st:PSt} {A:Option Addr} {c v s e d:Nat} (h:AckRow w w' st A c) (h1:st.view=v) (h2:st.seq=s) (h3:st.epoch=e) (h4:st.done=d):Rd w' A 25 (bys (YE 8 v s 0 0 e d [])):=by
 subst h1 h2 h3 h4
 exact Rd.of_own h
theorem Kq (v s e d:Nat) (hv:1≤v∧v≤2147483647) (hs:s≤2147483647) (he:e≤2147483647) (hd:d≤s):FrMay 8 v s 0 0 e d []:=⟨by omega,.inr (.inr (.inr (.inl ⟨rfl,by omega,rfl,rfl,by omega,by omega,rfl⟩)))⟩
theorem LawSt.new {w0 w w':World} {B t d s:Nat} {F:List Nat} {D:PDisk} (h:ZAS w0 w B t d s F D) {r x m:Nat} {Fx:List Nat} (hr:ReplicaIs w' w0.heap.size r s d x F Fx B ⟨PS.fresh B D,0+1,YD m⟩) (hk:Keep [] w w') (hy:∀ y∈JN r F Fx,y∈F∨w.heap.size≤y) :
 LawSt w0 w' B t r s d x F Fx ⟨PS.fresh B D,0+1,YD m⟩:=by
 obtain ⟨mm,xx,hb,h2,h3,h4,h5,h6⟩:=h
 have:=hb.lt
 exact ⟨⟨mm,xx,hb.keep0 hk⟩,hr,fun hm=>(hy t hm).elim h4 (by omega),h5,h6.trans0 hk⟩
theorem JAS (n m k:Nat):cyc n (YD m) k=0:=by
 unfold cyc
 rw [List.countP_eq_zero]
 intro j _
 rw [XT]
 simp
theorem JAD {S:PS} {R':RS} {er:Nat} {v1 v2:Value} (hv:S.st.view=1∧S.st.seq=0∧S.st.epoch=0) (hg:Good 4 S 0 0)
 (h:Ran 4 ⟨S,0+1,((YD 4).set ((0+1+1) % 4) ⟨v1,⟨3,0,0,1,[]⟩,true⟩).set ((0+1) % 4) ⟨v2,⟨1,1,0,0,YN 9⟩,true⟩⟩ R' er) :
 er=0∧∃ S2,R'=⟨S2,3,YD 4⟩∧S2.st.view=1∧S2.st.seq=2∧S2.st.epoch=1∧S2.st.done=2:=by
 have o1:VP 4 ⟨1,1,0,0,YN 9⟩ := .inl ⟨rfl,by simp,by simp,by simp⟩
 have o2:VP 4 ⟨3,0,0,1,[]⟩ := .inr (.inr ⟨rfl,by simp,by simp⟩)
 rcases KAs (by omega) rfl rfl h with ⟨q1,_⟩ | ⟨S',q1,q2⟩
 · simp at q1
 · obtain ⟨g1,s1⟩:=q1.good o1 hg (by omega) (by omega)
   simp only at s1
   rcases q2 with ⟨_,q3,_⟩ | ⟨S2,q3,q4,q5⟩
   · exfalso
     apply q3
     rw [s1]
     simp [Jm,hv.2.2]
   · obtain ⟨g2,s2⟩:=q3.good o2 g1 (by omega) (by omega)
     simp only at s2
     exact ⟨q4,S2,q5,by rw [s2,s1];simp [Jm,hv],by rw [s2,s1];simp [Jm,hv],by rw [s2,s1];simp [Jm,hv],by rw [s2,s1];simp [Jm,hv]⟩
theorem Xa (w:World):Calls Tryz.prog 7 #[] w fun r w'=>r = .returned (.bool true)∧Keep [] w w':=by
 have hSm:=YAH 3 w
 have hY:=fun W=>Xp W 4 (by omega) (by omega)
 have hNil:=fun W=>QAk 4 (by omega) (by omega) W
 have hF9:=fun W=>JAE 9 W
 have hMk:∀ W,Calls Tryz.prog 13 #[.int .i64 1,.int .i64 2,.agg #[.int .i64 3,.int .i64 0,.int .i64 0,.int .i64 1,.slice none 0 0]] W _:=fun W=>VAC 1 2 3 0 0 1 0 0 none [] (by omega) (by omega) (.inr (.inr ⟨rfl,rfl,rfl,by omega,by omega,rfl⟩)) W (Rd.nil _ _) (by omega)
 go_enter Tryz.func7,Tryz.ntmps7
 go_wp2_with (first
  | (go_at_call 9
     refine hSm.mono ?_
     clear hSm
     rintro e w1 ⟨B,rfl,hB,_,_,hk1⟩
     obtain rfl:B=4:=by omega
     have hY1:=hY w1
     clear hY)
  | (go_at_call 8
     refine hY1.mono ?_
     clear hY1
     rintro e w2 ⟨t,d,s,F,D,rfl,hYd⟩
     obtain ⟨mm,xx,hbt,hst,hgood,_,_,hk2⟩:=id hYd
     have t0:w2.cell? ⟨t,0,none⟩=some (.pointer (some ⟨d,0,none⟩)):=by simpa using hbt.cell 0
     have t2:w2.cell? ⟨t,2,none⟩=some (.pointer (some ⟨s,0,none⟩)):=by simpa using hbt.cell 2
     have hN4:Calls Tryz.prog 10 #[.pointer (some ⟨s,0,none⟩),.int .i64 4] w2 _:=JAQ w2 w1.heap.size s d F 4 (PS.fresh 4 D) hst (by simp [PS.fresh]) 4 (by omega) (by omega) rfl (by simp [PS.fresh]) hk2.size
     have hN0:=fun W (hk:Keep [] w2 W)=>ZAQ W w1.heap.size s d F 4 (PS.fresh 4 D) (hst.keep0 hk) (by simp [PS.fresh]) 0 (by omega)
     have hN17:=fun W (hk:Keep [] w2 W)=>ZAQ W w1.heap.size s d F 4 (PS.fresh 4 D) (hst.keep0 hk) (by simp [PS.fresh]) 17 (by omega)
     have htl:=hbt.lt)
  | (go_at_call 10
     first
     | (refine hN4.mono ?_
        clear hN4
        rintro e w3 ⟨r,x,Fx,rfl,hr,hk3,hfr⟩
        have hL3:=LawSt.new hYd hr hk3 hfr
        obtain ⟨c0,c2⟩:=hL3.cells)
     | (refine (hNil _).mono ?_
        clear hNil
        rintro e w4 ⟨rfl,hk4⟩
        have hL4:=hL3.keep0 hk4
        clear c0 c2
        obtain ⟨c0,c2⟩:=hL4.cells
        replace hk4:=hk3.trans0 hk4)
     | (refine (hN0 _ hk4).mono ?_
        clear hN0
        rintro e w5 ⟨rfl,hk5⟩
        have hL5:=hL4.keep0 hk5
        clear c0 c2
        obtain ⟨c0,c2⟩:=hL5.cells
        replace hk5:=hk4.trans0 hk5)
     | (refine (hN17 _ hk5).mono ?_
        clear hN17
        rintro e w6 ⟨rfl,hk6⟩
        have hL6:=hL5.keep0 hk6
        clear c0 c2
        obtain ⟨c0,c2⟩:=hL6.cells))
  | (go_at_call 42
     refine (hF9 _).mono ?_
     clear hF9
     rintro e w7 ⟨u,rfl,hu,hk7⟩
     obtain ⟨gd,dc,rfl,hdc⟩:=ZG hu (by omega)))
 have hkA7:Keep [] w6 (w7.alloc (.cells #[.int .i64 1,.int .i64 1,.int .i64 0,.int .i64 0,.slice (some ⟨gd,0,none⟩) 64 dc] 46)):=hk7.alloc _
 have hL7:=hL6.keep0 hkA7
 have hbO:=Blk.new w7 46 #[.int .i64 1,.int .i64 1,.int .i64 0,.int .i64 0,.slice (some ⟨gd,0,none⟩) 64 dc]
 have hd7:=(Rd.of_own hu).keep ((Keep.refl _ _).alloc (.cells #[.int .i64 1,.int .i64 1,.int .i64 0,.int .i64 0,.slice (some ⟨gd,0,none⟩) 64 dc] 46))
 have hgd:=own_mem hu (g:=gd) (by simp [Value.ownBlock])
 have hoff:Off [w7.heap.size,gd] (w7.alloc (.cells #[.int .i64 1,.int .i64 1,.int .i64 0,.int .i64 0,.slice (some ⟨gd,0,none⟩) 64 dc] 46)) (JN r F Fx):=by
  have hl:=hL6.rep.lt
  have hs7:=hk7.size
  intro b hb
  have hbb:w6.heap.size≤b∧b<w7.heap.size+1:=by
   simp only [List.mem_cons,List.not_mem_nil,or_false] at hb
   rcases hb with rfl | rfl <;> omega
  exact ⟨fun hm=>by have:=hl b hm;omega,by simp;omega⟩
 have hF1:(PS.fresh 4 D).st.view=1∧(PS.fresh 4 D).st.seq=0∧(PS.fresh 4 D).st.epoch=0∧(PS.fresh 4 D).st.done=0:=⟨rfl,rfl,rfl,rfl⟩
 generalize w7.alloc (.cells #[.int .i64 1,.int .i64 1,.int .i64 0,.int .i64 0,.slice (some ⟨gd,0,none⟩) 64 dc] 46)=w8 at *
 generalize w7.heap.size=ow at *
 generalize PS.fresh 4 D=S at *
 clear hL6 hL5 hL4 hL3 hk3 hk4 hk5 hk6 hk7 hkA7 hu hgd t0 t2 c0 c2 hst hbt hYd hr hfr htl hk2
 go_wp2_with (first
  | (go_at_call 13
     refine (hMk _).mono ?_
     clear hMk
     rintro e w9 ⟨u,rfl,hu,hk9⟩
     obtain ⟨UA,uc,rfl,_⟩:=ZB hu
     have hT:=(hL7.keep0 hk9).take hF1.1 3 0 0 1 0 (0+1+1) [] UA uc (Rd.of_own hu) (.inr (.inr ⟨rfl,rfl,rfl,by omega,by omega,rfl⟩)) rfl (.inr rfl) (by omega) 0 0 hgood (by simp [YP]) (by omega) (by simp) (Qd 4 4) (by simp) (by simp) (XT _ _) (.inr (.inr ⟨rfl,by simp,by simp⟩)))
  | (go_at_call 12
     refine hT.mono ?_
     clear hT
     rintro e w10 ⟨v1,Fs1,Fx1,R1,er1,hL10,hran,hg10,hops,hk10,hgr10,h10⟩
     have hoff9:=hoff.keep0 hk9
     have hoff10:=hoff9.turn hk10 hgr10
     have hkn10:=(KeepN.of0 hk9).trans (hoff9.keepN hk10)
     obtain ⟨rfl,rfl⟩:=XAg (by omega) hran
     obtain ⟨UA1,uc1,rfl,hack⟩:∃ UA1 uc1,e = .returned (.tuple #[.slice UA1 25 uc1,.int .i64 0])∧AckRow w9 w10 S.st UA1 uc1:=by
      rcases h10 with ⟨_,h⟩ | ⟨h,_⟩
      · exact h
      · omega))
 clear h10 hg10 hran hu hk9 hk10 hgr10 hoff9 hoff hL7
 have hD1:=XX 8 1 0 0 0 0 0 [] (Kq 1 0 0 0 (by omega) (by omega) (by omega) (by omega)) UA1 25 uc1 w10 (hack.rd hF1.1 hF1.2.1 hF1.2.2.1 hF1.2.2.2)
 have hbO10:=hbO.keepN hkn10 (by simp)
 have hd10:=QR hd7 hkn10 (by rintro _ ⟨⟩;simp)
 have hWr:=fun (v s:Nat) hv hs W hr=>VAC v s 1 1 0 0 64 dc (some ⟨gd,0,none⟩) (YN 9) hv hs (.inl ⟨rfl,by omega,rfl,rfl,rfl⟩) W hr hdc
 clear hbO hd7 hkn10
 go_wp2_with (first
  | (go_at_call 43
     refine hD1.mono ?_
     clear hD1
     rintro e w11 ⟨UA2,uc2,rfl,_,hk11⟩
     have hkB:Keep [] w10 (w11.alloc (.cells #[.int .i64 8,.int .i64 1,.int .i64 0,.int .i64 0,.int .i64 0,.int .i64 0,.int .i64 0,.slice UA2 0 uc2] 85)):=hk11.alloc _
     have hbF7:=Blk.new w11 85 #[.int .i64 8,.int .i64 1,.int .i64 0,.int .i64 0,.int .i64 0,.int .i64 0,.int .i64 0,.slice UA2 0 uc2]
     obtain ⟨o0,o1,o2,o3,o4⟩:=KE (hbO10.keep0 hkB)
     have hoff11:=hoff10.add hkB (b:=w11.heap.size) hk11.size (by simp) hL10.rep.lt
     have hL11:=hL10.keep0 hkB
     have hW1:Calls Tryz.prog 13 #[.int .i64 1,.int .i64 1,.agg #[.int .i64 1,.int .i64 1,.int .i64 0,.int .i64 0,.slice (some ⟨gd,0,none⟩) 64 dc]] _ _:=hWr 1 1 (by omega) (by omega) _ (hd10.keep hkB))
  | (go_at_call 13
     refine hW1.mono ?_
     clear hW1
     rintro e w12 ⟨u,rfl,hu,hk12⟩
     obtain ⟨UA3,uc3,rfl,_⟩:=ZB hu
     have hT:=(hL11.keep0 hk12).take hF1.1 1 1 0 0 64 (0+1) (YN 9) UA3 uc3 (Rd.of_own hu) (.inl ⟨rfl,by omega,rfl,rfl,rfl⟩) (by simp) (.inl (by omega)) (by omega) 0 0 hgood (by show 0+KD _≤49;rw [Yk (by omega) _ rfl];omega) (by omega) (by simp) hops (by simp) (by simp) rfl (.inl ⟨rfl,by simp,by simp,by simp⟩)
     clear o0 o1 o2 o3 o4)
  | (go_at_call 12
     refine hT.mono ?_
     clear hT
     rintro e w13 ⟨v2,Fs2,Fx2,R2,er2,hL13,hran,hg13,hops13,hk13,hgr13,h13⟩
     have hoff12:=hoff11.keep0 hk12
     have hoff13:=hoff12.turn hk13 hgr13
     have hkn13:=(KeepN.of0 hk12).trans (hoff12.keepN hk13)
     obtain ⟨rfl,S2,rfl,hF2⟩:=JAD ⟨hF1.1,hF1.2.1,hF1.2.2.1⟩ hgood hran
     obtain ⟨UA4,uc4,rfl,hack2⟩:∃ UA1 uc1,e = .returned (.tuple #[.slice UA1 25 uc1,.int .i64 0])∧AckRow w12 w13 S2.st UA1 uc1:=by
      rcases h13 with ⟨_,h⟩ | ⟨h,_⟩
      · exact h
      · omega))
 clear h13 hg13 hran hu hk12 hk13 hgr13 hoff12 hoff11 hL11 hF1 hgood hops hops13 hoff10 hL10
 have hD2:=XX 8 1 2 0 0 1 2 [] (Kq 1 2 1 2 (by omega) (by omega) (by omega) (by omega)) UA4 25 uc4 w13 (hack2.rd hF2.1 hF2.2.1 hF2.2.2.1 hF2.2.2.2)
 have hbO13:=(hbO10.keep0 (hk11.alloc (.cells #[.int .i64 8,.int .i64 1,.int .i64 0,.int .i64 0,.int .i64 0,.int .i64 0,.int .i64 0,.slice UA2 0 uc2] 85))).keepN hkn13 (by simp)
 have hd13:=QR (hd10.keep (hk11.alloc (.cells #[.int .i64 8,.int .i64 1,.int .i64 0,.int .i64 0,.int .i64 0,.int .i64 0,.int .i64 0,.slice UA2 0 uc2] 85))) hkn13 (by rintro _ ⟨⟩;simp)
 have hbF13:=hbF7.keepN hkn13 (by simp)
 clear hbO10 hd10 hbF7 hkn13 hack
 have hRep:=fun W (hk:Keep [] w13 W)=>(hL13.keep0 hk).rep
 have hbs:∀ W,Keep [] w13 W→w1.heap.size≤W.heap.size:=fun W hk=>(hL13.keep0 hk).kept.size
 go_wp2_with (first
  | (go_at_call 43
     refine hD2.mono ?_
     clear hD2
     rintro e w14 ⟨UA5,uc5,rfl,_,hk14⟩
     have hkA:Keep [] w13 (w14.alloc (.cells #[.int .i64 8,.int .i64 1,.int .i64 2,.int .i64 0,.int .i64 0,.int .i64 1,.int .i64 2,.slice UA5 0 uc5] 85)):=hk14.alloc _
     have hbF11:=Blk.new w14 85 #[.int .i64 8,.int .i64 1,.int .i64 2,.int .i64 0,.int .i64 0,.int .i64 1,.int .i64 2,.slice UA5 0 uc5]
     obtain ⟨o0,o1,o2,o3,o4⟩:=KE (hbO13.keep0 hkA)
     have hW3:Calls Tryz.prog 13 #[.int .i64 1,.int .i64 1,.agg #[.int .i64 1,.int .i64 1,.int .i64 0,.int .i64 0,.slice (some ⟨gd,0,none⟩) 64 dc]] _ _:=hWr 1 1 (by omega) (by omega) _ (hd13.keep hkA))
  | (go_at_call 13
     first
     | (refine hW3.mono ?_
        clear hW3
        rintro e w15 ⟨u,rfl,hu,hk15⟩
        obtain ⟨UB,ub,rfl,_⟩:=ZB hu
        have hkc15:=hk15
        replace hk15:=hkA.trans0 hk15
        have hT3:=Jw w15 _ r s d x Fs2 Fx2 4 ⟨S2,3,YD 4⟩ (hRep _ hk15) (hbs _ hk15) 1 1 0 0 64 1 (YN 9) UB ub (by rw [hF2.1];exact Rd.of_own hu) (.inl ⟨rfl,by omega,rfl,rfl,rfl⟩) (by simp) (.inl (by omega)) (by omega) (by show 1<3;omega) (by simp [hF2]) (by simp [hF2]) (by simp [hF2])
        clear o0 o1 o2 o3 o4)
     | (refine hW4.mono ?_
        clear hW4
        rintro e w17 ⟨u,rfl,hu,hk17⟩
        obtain ⟨UC,uc,rfl,_⟩:=ZB hu
        replace hkC:=hkC.trans0 hk17
        replace hk17:=hk16.trans0 hk17
        have hT4:=Qy w17 _ r s d x Fs2 Fx2 4 ⟨S2,3,YD 4⟩ (hRep _ hk17) (hbs _ hk17) 1 1 0 0 64 7 (YN 9) UC uc (by rw [hF2.1];exact Rd.of_own hu) (.inl ⟨rfl,by omega,rfl,rfl,rfl⟩) (by simp) (.inl (by omega)) (by omega) (by simp)
        clear o0 o1 o2 o3 o4)
     | (refine hW5.mono ?_
        clear hW5
        rintro e w19 ⟨u,rfl,hu,hk19⟩
        obtain ⟨UD,ud,rfl,_⟩:=ZB hu
        replace hkC:=hkC.trans0 hk19
        replace hk19:=hk18.trans0 hk19
        have hT5:=KAO w19 _ r s d x Fs2 Fx2 4 ⟨S2,3,YD 4⟩ (hRep _ hk19) 2 1 1 0 0 64 3 (YN 9) UD ud (Rd.of_own hu) (.inl ⟨rfl,by omega,rfl,rfl,rfl⟩) (by simp) (.inl (by omega)) (by omega) (by omega) (by simp [hF2])
        clear o0 o1 o2 o3 o4)
     | (refine hW6.mono ?_
        clear hW6
        rintro e w21 ⟨u,rfl,hu,hk21⟩
        obtain ⟨ge,ue,rfl,hue⟩:=ZG hu (by omega)
        replace hkC:=hkC.trans0 hk21
        replace hk21:=hk20.trans0 hk21
        have hSp:=Kw (some ⟨ge,0,none⟩) 89 ue _ 70 w21 (Rd.of_own hu) (by omega) (by omega) hue
        clear o0 o1 o2 o3 o4))
  | (go_at_call 29
     refine hSp.mono ?_
     clear hSp
     rintro e w22 ⟨u,rfl,hu,hk22⟩
     obtain ⟨UG,ug,rfl,_⟩:=ZB hu
     replace hkC:=hkC.trans0 hk22
     replace hk22:=hk21.trans0 hk22
     have hT6:=Jt r UG 89 ug w22 (Zv UG 89 ug _ w22 (Rd.of_own hu) (by omega) (by omega) (Zn 1 1 3 1 0 0 0 _ (YN 9) 85 (by simp) (by omega))))
  | (go_at_call 12
     first
     | (refine hT3.mono ?_
        clear hT3
        rintro e w16 ⟨u,rfl,hac,hk16⟩
        obtain ⟨CA,cc,rfl,_⟩:=ZB hac
        have hkF:=hkc15.trans0 hk16
        have hkC:=Keep.refl [] w16
        replace hk16:=hk15.trans0 hk16
        obtain ⟨o0,o1,o2,o3,o4⟩:=KE (hbO13.keep0 hk16)
        have hW4:Calls Tryz.prog 13 #[.int .i64 1,.int .i64 7,.agg #[.int .i64 1,.int .i64 1,.int .i64 0,.int .i64 0,.slice (some ⟨gd,0,none⟩) 64 dc]] _ _:=hWr 1 7 (by omega) (by omega) _ (hd13.keep hk16))
     | (refine hT4.mono ?_
        clear hT4
        rintro e w18 ⟨rfl,hk18⟩
        replace hkC:=hkC.trans0 hk18
        replace hk18:=hk17.trans0 hk18
        obtain ⟨o0,o1,o2,o3,o4⟩:=KE (hbO13.keep0 hk18)
        have hW5:Calls Tryz.prog 13 #[.int .i64 2,.int .i64 3,.agg #[.int .i64 1,.int .i64 1,.int .i64 0,.int .i64 0,.slice (some ⟨gd,0,none⟩) 64 dc]] _ _:=hWr 2 3 (by omega) (by omega) _ (hd13.keep hk18))
     | (refine hT5.mono ?_
        clear hT5
        rintro e w20 ⟨rfl,hk20⟩
        replace hkC:=hkC.trans0 hk20
        replace hk20:=hk19.trans0 hk20
        obtain ⟨o0,o1,o2,o3,o4⟩:=KE (hbO13.keep0 hk20)
        have hW6:Calls Tryz.prog 13 #[.int .i64 1,.int .i64 3,.agg #[.int .i64 1,.int .i64 1,.int .i64 0,.int .i64 0,.slice (some ⟨gd,0,none⟩) 64 dc]] _ _:=hWr 1 3 (by omega) (by omega) _ (hd13.keep hk20))
     | (refine hT6.mono ?_
        clear hT6
        rintro e w23 ⟨rfl,hk23⟩
        replace hkC:=hkC.trans0 hk23
        replace hk23:=hk22.trans0 hk23
        have hRet:=QAN w23)))
 obtain ⟨c0,c2⟩:=(hL13.keep0 hk23).cells
 obtain ⟨f0,f1,f2,f3,f4,f5,f6,f7⟩:=JB (hbF13.keep0 hk23)
 obtain ⟨g0,g1,g2,g3,g4,g5,g6,g7⟩:=JB (hbF11.keep0 (hkF.trans0 hkC))
 have hTl:=XAH w23 w1.heap.size s d Fs2 4 S2 (hRep _ hk23).st CA cc ((Rd.of_own hac).keep hkC) (by rw [hF2.1,hF2.2.1,hF2.2.2.1,hF2.2.2.2];exact Kq 1 2 1 2 (by omega) (by omega) (by omega) (by omega))
 have hNx:=fun W (hk:Keep [] w13 W)=>NextR_is W _ r s d x Fs2 Fx2 4 _ (hRep W hk)
 have hWt:=fun W (hk:Keep [] w13 W)=>WaitingR_is W _ r s d x Fs2 Fx2 4 _ (hRep W hk)
 simp only [JAS] at hWt
 go_wp2_with (first
  | (go_at_call 21
     refine hRet.mono ?_
     clear hRet
     rintro e w' ⟨rfl,rfl⟩)
  | (go_at_call 25
     refine hTl.mono ?_
     clear hTl
     rintro e w24 ⟨rfl,hk24⟩
     have hk24':=hk23.trans0 hk24)
  | (go_at_call 27
     refine (hNx _ hk24').mono ?_
     clear hNx
     rintro e w' ⟨rfl,rfl⟩)
  | (go_at_call 23
     refine (hWt _ hk24').mono ?_
     clear hWt
     rintro e w25 ⟨rfl,hk25⟩))
 go_ret
 exact ⟨rfl,hk1.trans0 ((hL13.keep0 (hk24'.trans0 hk25)).kept)⟩
end
section
open Go.RowKit Go.Shelf
theorem LawSt.keepF {w0 w w':World} {B t r s d x:Nat} {Fs Fx l:List Nat} {R:RS} (h:LawSt w0 w B t r s d x Fs Fx R) (hk:Keep l w w') (ha:Apart (JN r Fs Fx) l) (ht:t∉l) (hl:∀ y∈l,w0.heap.size≤y):LawSt w0 w' B t r s d x Fs Fx R:=
 ⟨by obtain ⟨mm,xx,hb⟩:=h.two;exact ⟨mm,xx,hb.keep hk ht⟩,h.rep.keep hk ha,h.tn,h.tb,h.kept.trans hk (fun y hy => .inr (hl y hy))⟩
theorem IdlAt.keep {w w':World} {base i:Nat} {F l:List Nat} {I:PIdl} (h:IdlAt w base i F I) (hk:Keep l w w') (ha:Apart F l):IdlAt w' base i F I:=by
 obtain ⟨bv,ov,bs,os,h⟩:=h
 exact ⟨bv,ov,bs,os,h.keep hk ha⟩
theorem IdlAt.lt {w:World} {base i:Nat} {F:List Nat} {I:PIdl} (h:IdlAt w base i F I):∀ x∈F,base≤x∧x<w.heap.size:=by
 obtain ⟨bv,ov,bs,os,h⟩:=h
 exact h.lt
structure FSt (wA w:World) (B t r s d x i tb ib oB:Nat) (Fs Fx FI:List Nat) (R:RS) (I:PIdl) (th:List Bool) (OA:Option Addr) (L oc:Nat) (oz:List (Value×POp)):Prop where
 law:LawSt wA w B t r s d x Fs Fx R
 dev:IdlAt w ib i FI I
 thr:Blk w tb 4 (th.map Value.bool).toArray
 ap:Apart (JN r Fs Fx) FI
 tr:tb∉JN r Fs Fx
 ti:tb∉FI
 tw:t∉FI
 tt:t≠tb
 ob:OHold w oB (JN r Fs Fx++(tb :: FI)) (.slice OA L oc) oz
 ibg:wA.heap.size≤ib
 tbg:wA.heap.size≤tb
namespace FSt
variable {wA w w':World} {B t r s d x i tb ib oB:Nat} {Fs Fx FI:List Nat} {R:RS} {I:PIdl} {th:List Bool} {OA:Option Addr} {L oc:Nat} {oz:List (Value×POp)}
theorem keep0 (h:FSt wA w B t r s d x i tb ib oB Fs Fx FI R I th OA L oc oz) (hk:Keep [] w w'):FSt wA w' B t r s d x i tb ib oB Fs Fx FI R I th OA L oc oz:=
 ⟨h.law.keep0 hk,h.dev.keep hk Apart.nil_right,h.thr.keep0 hk,h.ap,h.tr,h.ti,h.tw,h.tt,h.ob.keep0 hk,h.ibg,h.tbg⟩
theorem took (h:FSt wA w B t r s d x i tb ib oB Fs Fx FI R I th OA L oc oz) {Fs' Fx':List Nat} {R':RS} (hl:LawSt wA w' B t r s d x Fs' Fx' R') (hk:Keep (JN r Fs Fx) w w') (hg:Grow w (JN r Fs Fx) (JN r Fs' Fx')):FSt wA w' B t r s d x i tb ib oB Fs' Fx' FI R' I th OA L oc oz:=by
 have hlt:=h.thr.lt
 refine ⟨hl,h.dev.keep hk h.ap.symm,h.thr.keep hk h.tr,h.ap.grow hg (fun y hy=>(h.dev.lt y hy).2),fun hm=>(hg _ hm).elim h.tr (by omega),h.ti,h.tw,h.tt,h.ob.turn hk (fun y hy=>List.mem_append_left _ hy) (fun y hy=>?_),h.ibg,h.tbg⟩
 rcases List.mem_append.1 hy with hy | hy
 · exact (hg y hy).imp (List.mem_append_left _) id
 · exact .inl (List.mem_append_right _ hy)
theorem done (h:FSt wA w B t r s d x i tb ib oB Fs Fx FI R I th OA L oc oz) {FI':List Nat} {I':PIdl} (hi:IdlAt w' ib i FI' I') (hk:Keep FI w w') (hg:∀ y∈FI',y∈FI∨w.heap.size≤y):FSt wA w' B t r s d x i tb ib oB Fs Fx FI' R I' th OA L oc oz:=by
 have hlt:=h.thr.lt
 have hlt2:=h.law.lt
 refine ⟨h.law.keepF hk h.ap h.tw (fun y hy=>Nat.le_trans h.ibg (h.dev.lt y hy).1),hi,h.thr.keep hk h.ti,h.ap.grow_r hg h.law.rep.lt,h.tr,fun hm=>(hg _ hm).elim h.ti (by omega),fun hm=>(hg _ hm).elim h.tw (by omega),h.tt,h.ob.turn hk (fun y hy=>List.mem_append_right _ (List.mem_cons_of_mem _ hy)) (fun y hy=>?_),h.ibg,h.tbg⟩
 rcases List.mem_append.1 hy with hy | hy
 · exact .inl (List.mem_append_left _ hy)
 · rcases List.mem_cons.1 hy with rfl | hy
   · exact .inl (List.mem_append_right _ (List.mem_cons_self ..))
   · exact (hg y hy).imp (fun h=>List.mem_append_right _ (List.mem_cons_of_mem _ h)) id
theorem came (h:FSt wA w B t r s d x i tb ib oB Fs Fx FI R I th OA L oc oz) (j:Nat):FSt wA (w.setCell ⟨tb,j,none⟩ (.bool true)) B t r s d x i tb ib oB Fs Fx FI R I (th.set j true) OA L oc oz:=by
 have hk:Keep [tb] w (w.setCell ⟨tb,j,none⟩ (.bool true)):=(Keep.refl [tb] _).setCell (p:=⟨tb,j,none⟩) (.inl (by simp)) _
 have h1:Apart (JN r Fs Fx) [tb]:=fun y hy hm=>by simp at hm;subst hm;exact h.tr hy
 have h2:Apart FI [tb]:=fun y hy hm=>by simp at hm;subst hm;exact h.ti hy
 refine ⟨h.law.keepF hk h1 (by simpa using h.tt) (by simpa using h.tbg),h.dev.keep hk h2,?_,h.ap,h.tr,h.ti,h.tw,h.tt,h.ob.turn hk (fun y hy=>by simp at hy;subst hy;simp) (fun y hy => .inl hy),h.ibg,h.tbg⟩
 have:=h.thr.set j (.bool true)
 rwa [List.setIfInBounds_toArray,← List.map_set] at this
theorem there (h:FSt wA w B t r s d x i tb ib oB Fs Fx FI R I th OA L oc oz) {j:Nat} (hj:j<th.length):w.cell? ⟨tb,j,none⟩=some (.bool (th.getD j false)):=by
 rw [h.thr.cell j]
 simp [List.getD_eq_getElem?_getD,List.getElem?_eq_getElem hj]
theorem kept (h:FSt wA w B t r s d x i tb ib oB Fs Fx FI R I th OA L oc oz):Keep [] wA w:=h.law.kept
theorem stands (h:FSt wA w B t r s d x i tb ib oB Fs Fx FI R I th OA L oc oz) {ops:Nat→POp} {m:Nat} (hs:Stm B ops m R.S) (hI:I=idl B ops m) :
 Calls Tryz.prog 30 #[.pointer (some ⟨s,0,none⟩),.pointer (some ⟨i,0,none⟩)] w fun e w'=>e = .returned (.bool true)∧Keep [] w w':=by
 subst hI
 exact YAX w _ s d Fs B R.S h.law.rep.st m (2*m) hs.good ib i FI _ h.dev hs.base hs.over hs.epoch hs.seq hs.done
end FSt
end
section
open Go.RowKit Go.Shelf
theorem LawSt.takeV {w0 w:World} {B t r s d x:Nat} {Fs Fx:List Nat} {R:RS} (h:LawSt w0 w B t r s d x Fs Fx R) {v:Nat} (hv:R.S.st.view=v) (k b c e m fs:Nat) (xs:List UInt8) (A:Option Addr) (cp:Nat)
 (ha:Rd w A (25+m) (bys (YE k v fs b c e 0 xs))) (ho:OpMay k b c e m) (hlen:xs.length=m) (hfor:b+max c 1≤B∨k=3) (hfs:1≤fs∧fs≤2147483647)
 (kk j:Nat) (hg:Good B R.S kk j) (hk:kk+KD R.sl≤49) (hj:j≤10000) (hnx:R.next≤1000000) (hop:∀ q∈R.sl,q.is=true→VP B q.o) (hn1:R.next≤fs) (hn2:fs<R.next+R.sl.length) (hq:(R.sl.getD (fs % R.sl.length) PSlot.none_).is=false) (hof:VP B ⟨k,b,c,e,xs⟩) :
 Calls Tryz.prog 12 #[.pointer (some ⟨r,0,none⟩),.slice A (25+m) cp] w (QAH w0 w B t r s d x Fs Fx kk j (fun q=>⟨R.S,R.next,R.sl.set (fs % R.sl.length) q⟩) ⟨k,b,c,e,xs⟩):=by
 refine (JAF w w0.heap.size r s d x Fs Fx B R h.rep h.kept.size k b c e m fs xs A cp (by rw [hv];exact ha) ho hlen hfor hfs kk j hg hk hj hnx hop hn1 hn2 hq hof).mono ?_
 rintro en w' ⟨v,Fs',Fx',R',er,h1,h2,h3,h4,h5,h6,h7⟩
 refine ⟨v,Fs',Fx',R',er,h.turn h1 h5 h6,h2,h3,h4,h5,h6,?_⟩
 rcases h7 with ⟨h7,u,h8,h9⟩ | h7
 · obtain ⟨UA,uc,rfl,_⟩:=ZB h9
   exact .inl ⟨h7,UA,uc,h8,h9⟩
 · exact .inr h7
end
section
open Go.RowKit Go.Shelf
structure OpIs (B:Nat) (ops:Nat→POp) (j k b c e:Nat) (xs:List UInt8):Prop where
 op:ops j=⟨k,b,c,e,xs⟩
 may:OpMay k b c e xs.length
 ok:b+max c 1≤B∨k=3
 for_:VP B ⟨k,b,c,e,xs⟩
theorem ZAm {B:Nat} (hB:1≤B∧B≤64) (zs:List (Int×Int×Int)) {j:Nat} (hj:j≤1000000):∃ k b c e xs,OpIs B (XAA B zs) j k b c e xs:=by
 have he:=XAD B zs j
 obtain ⟨h1,k,b,c,e,xs,h2,h3,h4⟩:=Jn B hB (zs.getD j (0,0,0)) (QQ B zs j).2 (by omega)
 exact ⟨k,b,c,e,xs,h2,h3,h4,by rw [← h2];exact h1⟩
theorem OpIs.dev {B len j k b c e:Nat} {ops:Nat→POp} {xs:List UInt8} (h:OpIs B ops j k b c e xs) (hops:ZAO B ops len) (hj:j<len):Qv (idl B ops j) k b c e xs.length:=by
 have hl:=(VAD B ops j).1
 have he:=(hops j hj).2
 rw [h.op] at he
 simp only at he
 unfold Qv
 rw [hl]
 have ho:=h.ok
 rcases h.may with ⟨h1,h2,h3,h4,h5⟩ | ⟨h1,h2,h3,h4,h5,h6⟩ | ⟨h1,h2,h3,h4,h5,h6⟩
 · exact .inl ⟨h1,by omega,h3,h4,h5⟩
 · exact .inr (.inl ⟨h1,h3,by omega,h5,h6⟩)
 · have:=he (by omega)
   exact .inr (.inr ⟨h1,h2,h3,by omega,h6⟩)
theorem OHold.between {w:World} {B:Nat} {v:Value} {os:List (Value×POp)} (h:OHold w B [] v os) {F:List Nat} (hF:∀ x∈F,x<B∨w.heap.size≤x):OHold w B F v os:=
 ⟨h.row,h.data,h.small,fun g hg hm=>by have:=own_mem h.row hg;have:=hF g hm;omega,fun p hp g hg hm=>by have:=own_mem (h.data p hp) hg;have:=hF g hm;omega⟩
def CamesAt (w:World) (A:Option Addr) (len:Nat) (cs:List (Int×Int)):Prop:=
 cs.length=len∧(0<len→∃ ab ao,A=some ⟨ab,ao,none⟩∧ab<w.heap.size∧∀ i z,cs[i]? = some z→w.cell? ⟨ab,ao+i*2,none⟩=some (.int .i64 z.1)∧w.cell? ⟨ab,ao+i*2+1,none⟩=some (.int .i64 z.2))
theorem CamesAt.at_ {w w':World} {A:Option Addr} {len q:Nat} {cs:List (Int×Int)} (h:CamesAt w A len cs) (hk:Keep [] w w') (hq:q<len):∃ ab ao ci cb,A=some ⟨ab,ao,none⟩∧ab<w.heap.size∧∀ W,Keep [] w' W→W.cell? ⟨ab,ao+q*2,none⟩=some (.int .i64 ci)∧W.cell? ⟨ab,ao+q*2+1,none⟩=some (.int .i64 cb):=by
 obtain ⟨h1,h2⟩:=h
 obtain ⟨ab,ao,rfl,hb,hc⟩:=h2 (by omega)
 obtain ⟨c0,c1⟩:=hc q cs[q] (List.getElem?_eq_getElem (by omega))
 refine ⟨ab,ao,cs[q].1,cs[q].2,rfl,hb,fun W hW=>?_⟩
 have hkw:=hk.trans0 hW
 exact ⟨(hkw.cell hb (by simp) _).trans c0,(hkw.cell hb (by simp) _).trans c1⟩
namespace FSt
variable {wA w w':World} {B t r s d x i tb ib oB:Nat} {Fs Fx FI:List Nat} {R:RS} {I:PIdl} {th:List Bool} {OA:Option Addr} {L oc:Nat} {oz:List (Value×POp)}
variable {len n nx:Nat} {ops:Nat→POp} {j k b c e m cp:Nat} {xs:List UInt8} {A:Option Addr}
def Tell (R:RS) (w:World) (A:Option Addr):Prop:=Rd w A 25 (bys (YE 8 R.S.st.view R.S.st.seq 0 0 R.S.st.epoch R.S.st.done []))∧FrMay 8 R.S.st.view R.S.st.seq 0 0 R.S.st.epoch R.S.st.done []
theorem Tell.keep {R:RS} {w w':World} {g:Nat} {l:List Nat} (h:Tell R w (some ⟨g,0,none⟩)) (hk:Keep l w w') (hg:g∉l):Tell R w' (some ⟨g,0,none⟩):=
 ⟨h.1.keepIf hk (fun a ha=>by cases ha;exact hg),h.2⟩
theorem tellMay (hF:FRel B len n nx ops R th) (hlen:len≤40):FrMay 8 R.S.st.view R.S.st.seq 0 0 R.S.st.epoch R.S.st.done []∧R.S.st.seq≤2147483647∧R.S.st.epoch≤2147483647∧R.S.st.done≤R.S.st.seq:=by
 have h1:=hF.stm.good.seq
 have h2:=hF.stm.good.epoch
 have h3:=hF.stm.good.done
 have h4:=hF.bound
 have h5:=hF.view
 exact ⟨Kq _ _ _ _ (by omega) (by omega) (by omega) h3,by omega,by omega,h3⟩
theorem tells (h:FSt wA w B t r s d x i tb ib oB Fs Fx FI R I th OA L oc oz) {U:Option Addr} {uc:Nat} (hT:Tell R w U):Calls Tryz.prog 25 #[.slice U 25 uc,.pointer (some ⟨s,0,none⟩)] w fun e w'=>e = .returned (.bool true)∧Keep [] w w':=
 XAH w _ s d Fs B R.S h.law.rep.st U uc hT.1 hT.2
theorem next (h:FSt wA w B t r s d x i tb ib oB Fs Fx FI R I th OA L oc oz) (hF:FRel B len n nx ops R th):Calls Tryz.prog 27 #[.pointer (some ⟨r,0,none⟩)] w fun e w'=>e = .returned (.int .i64 ((nx:Nat)+1))∧w=w':=by
 have:=NextR_is w _ r s d x Fs Fx B R h.law.rep
 rwa [hF.next,Int.natCast_add] at this
section
variable (h:FSt wA w B t r s d x i tb ib oB Fs Fx FI R I th OA L oc oz) (hF:FRel B len n nx ops R th) (hlen:len≤40) (hj:j<len) (ho:OpIs B ops j k b c e xs) (hm:m=xs.length) (ha:Rd w A (25+m) (bys (YE k 1 (j+1) b c e 0 xs)))
include h hF hlen hj ho hm ha
theorem again (hth:th.getD j false=true):Calls Tryz.prog 12 #[.pointer (some ⟨r,0,none⟩),.slice A (25+m) cp] w fun e w'=>∃ UA uc,e = .returned (.tuple #[.slice UA 25 uc,.int .i64 9])∧Tell R w' UA∧Keep [] w w':=by
 obtain ⟨t1,t2,t3,t4⟩:=tellMay hF hlen
 have hv:=hF.view
 have hnx:=hF.next
 have ha':Rd w A (25+m) (bys (YE k R.S.st.view (j+1) b c e 0 xs)):=by rw [hv];exact ha
 have hfin:∀ e w',(∃ u,e=Ending.returned (.tuple #[u,.int .i64 9])∧w'.ownsRow w.heap.size 5 1 u 25 (bys (YE 8 R.S.st.view R.S.st.seq 0 0 R.S.st.epoch R.S.st.done []))∧Keep [] w w')→∃ UA uc,e = .returned (.tuple #[.slice UA 25 uc,.int .i64 9])∧Tell R w' UA∧Keep [] w w':=by
  rintro e w' ⟨u,rfl,hu,hk⟩
  obtain ⟨UA,uc,rfl,_⟩:=ZB hu
  exact ⟨UA,uc,rfl,⟨Rd.of_own hu,t1⟩,hk⟩
 rcases Nat.lt_or_ge j nx with h1 | h1
 · exact (Jw w _ r s d x Fs Fx B R h.law.rep h.kept.size k b c e m (j+1) xs A cp ha' (hm ▸ ho.may) hm.symm ho.ok (by omega) (by omega) t2 t3 t4).mono hfin
 · have h2:=hF.win.hi j hth
   have hsl:=hF.sl
   exact (Jz w _ r s d x Fs Fx B R h.law.rep h.kept.size k b c e m (j+1) xs A cp ha' (hm ▸ ho.may) hm.symm ho.ok (by omega) (by omega) (by omega) (by rw [hF.slot h1 (by omega),hth]) t2 t3 t4).mono hfin
theorem far (hfar:nx+n≤j):Calls Tryz.prog 12 #[.pointer (some ⟨r,0,none⟩),.slice A (25+m) cp] w fun e w'=>e = .returned (.tuple #[.slice none 0 0,.int .i64 10])∧Keep [] w w':=by
 have hv:=hF.view
 have hnx:=hF.next
 have hsl:=hF.sl
 have ha':Rd w A (25+m) (bys (YE k R.S.st.view (j+1) b c e 0 xs)):=by rw [hv];exact ha
 exact Qy w _ r s d x Fs Fx B R h.law.rep h.kept.size k b c e m (j+1) xs A cp ha' (hm ▸ ho.may) hm.symm ho.ok (by omega) (by omega)
theorem new_ (hops:ZAO B ops len) (hno:th.getD j false=false) (h2:j<nx+n):Calls Tryz.prog 12 #[.pointer (some ⟨r,0,none⟩),.slice A (25+m) cp] w fun en w'=>∃ g uc n' Fs' Fx' R',en = .returned (.tuple #[.slice (some ⟨g,0,none⟩) 25 uc,.int .i64 0])∧Tell R' w' (some ⟨g,0,none⟩)∧(w.heap.size≤g∧g<w'.heap.size)∧FSt wA w' B t r s d x i tb ib oB Fs' Fx' FI R' I th OA L oc oz∧FRel B len n n' ops R' (th.set j true)∧nx≤n'∧∀ q,nx≤q→q<n'→(th.set j true).getD q false=true:=by
 have hv:=hF.view
 have hnx:=hF.next
 have hsl:=hF.sl
 have h1:=hF.ge hno
 have hbd:=hF.bound
 refine (h.law.takeV hv k b c e m (j+1) xs A cp ha (hm ▸ ho.may) hm.symm ho.ok (by omega) nx (2*nx) hF.stm.good (by omega) (by omega) (by omega) hF.ops (by omega) (by omega) (by rw [hF.slot h1 h2,hno]) ho.for_).mono ?_
 rintro en w' ⟨v,Fs',Fx',R',er,g1,g2,g3,g4,g5,g6,g7⟩
 rw [← ho.op] at g2
 obtain ⟨he,n',f1,f2,f3⟩:=hF.put hops hlen hj hno h2 g2 g4
 rcases g7 with ⟨_,UA,uc,g8,g9⟩ | ⟨g8,_⟩
 · obtain ⟨g,gc,hgv,_⟩:=XE g9 (by omega)
   cases hgv
   exact ⟨g,_,n',Fs',Fx',R',g8,⟨Rd.of_own g9,(tellMay f1 hlen).1⟩,own_mem g9 (by simp [Value.ownBlock]),h.took g1 g5 g6,f1,f2,f3⟩
 · omega
end
theorem opCells (h:FSt wA w B t r s d x i tb ib oB Fs Fx FI R I th OA len oc oz) {zs:List (Int×Int×Int)} (hB:1≤B∧B≤64) (hoz:oz.map (·.2)=(QQ B zs len).1) (hj:j<len) (hlen:len≤40) :
 ∃ (ob oo k b c e n dc:Nat) (xs:List UInt8) (DA:Option Addr),OA=some ⟨ob,oo,none⟩∧OpIs B (XAA B zs) j k b c e xs∧n=xs.length∧n≤64∧n≤dc∧(w.cell? ⟨ob,oo+j*5,none⟩=some (.int .i64 k)∧w.cell? ⟨ob,oo+j*5+1,none⟩=some (.int .i64 b)∧w.cell? ⟨ob,oo+j*5+2,none⟩=some (.int .i64 c) ∧
   w.cell? ⟨ob,oo+j*5+3,none⟩=some (.int .i64 e)∧w.cell? ⟨ob,oo+j*5+4,none⟩=some (.slice DA n dc))∧Rd w DA n (bys xs)∧ob<w.heap.size:=by
 have hol:oz.length=len:=by have:=congrArg List.length hoz;rwa [List.length_map,VAG] at this
 have hjz:j<oz.length:=by omega
 obtain ⟨k,b,c,e,xs,hO⟩:=ZAm hB zs (j:=j) (by omega)
 have hop:oz[j].2=⟨k,b,c,e,xs⟩:=by
  have h1:(oz.map (·.2))[j]? = some oz[j].2:=by rw [List.getElem?_map,List.getElem?_eq_getElem hjz];rfl
  rw [hoz,JAd B zs len j hj] at h1
  rw [← hO.op]
  exact (Option.some.inj h1).symm
 have hda:=h.ob.data oz[j] (List.getElem_mem hjz)
 have hrdO:=h.ob.rd (A:=OA) (c:=oc) (by rw [hol])
 rw [hol] at hrdO
 obtain ⟨ob,oo,hOA,hobl,o0,o1,o2,o3,o4⟩:=hrdO.at_ hj hjz
 rw [hop] at hda o0 o1 o2 o3
 obtain ⟨DA,dc,hv,hdc,_⟩:=ZB hda
 rw [hv] at o4 hda
 refine ⟨ob,oo,k,b,c,e,_,dc,xs,DA,hOA,hO,rfl,?_,hdc,⟨o0,o1,o2,o3,o4⟩,Rd.of_own hda,hobl⟩
 rcases hO.may with ⟨_,_,_,_,h⟩ | ⟨_,_,_,_,_,h⟩ | ⟨_,_,_,_,_,h⟩ <;> omega
theorem does (h:FSt wA w B t r s d x i tb ib oB Fs Fx FI R (idl B ops j) th OA L oc oz) (hB:1≤B∧B≤64) (hops:ZAO B ops len) (hj:j<len) (hlen:len≤40) (ho:OpIs B ops j k b c e xs) (hm:m=xs.length) (hmc:m≤cp) (ha:Rd w A m (bys xs)) :
 Calls Tryz.prog 31 #[.pointer (some ⟨i,0,none⟩),.agg #[.int .i64 k,.int .i64 b,.int .i64 c,.int .i64 e,.slice A m cp]] w fun en w'=>en = .returned (.bool true)∧∃ FI',FSt wA w' B t r s d x i tb ib oB Fs Fx FI' R (idl B ops (j+1)) th OA L oc oz∧Keep FI w w'∧∀ y∈FI',y∈FI∨w.heap.size≤y:=by
 obtain ⟨l1,l2⟩:=VAD B ops j
 have hseq:=JAq B ops j
 have hep:(idl B ops j).ep≤j:=by
  clear h hj hlen ho ha hmc hm l1 l2 hseq
  induction j with
  | zero=>simp [idl,PIdl.new]
  | succ j ih=>
    simp only [idl,PIdl.step]
    split
    · simp only;omega
    · split
      · simp only;omega
      · simp only;omega
 refine (XAN w ib i FI _ h.dev (by omega) (by omega) (by omega) (by omega) k b c e m cp A xs ha hmc (hm ▸ ho.dev hops hj)).mono ?_
 rintro en w' ⟨rfl,FI',h1,h2,h3⟩
 rw [← ho.op] at h1
 exact ⟨rfl,FI',h.done h1 h2 h3,h2,h3⟩
end FSt
end
end Go.Proofs.YtmoagodllhdemaaGreat
