/-
  A part of the proof: lemmas, and contracts of functions; their conditions stand in them.
-/
import Derived.Test.YtmoagodllhdemaaGreatE37
import Derived.Test.YtmoagodllhdemaaGreatE49
import Derived.Test.YtmoagodllhdemaaGreatE47
import Derived.Test.YtmoagodllhdemaaGreatE35
import Derived.Test.YtmoagodllhdemaaGreatE42
import Derived.Test.YtmoagodllhdemaaGreatE34
import Derived.Test.YtmoagodllhdemaaGreatE14
import Derived.Test.YtmoagodllhdemaaGreatE09
namespace Go.Proofs.YtmoagodllhdemaaGreat
set_option linter.unusedSimpArgs false
set_option linter.unusedVariables false
set_option maxHeartbeats 8000000
set_option maxRecDepth 40000
section
open Go.RowKit Go.Shelf
theorem TableAt.rebase {w:World} {b b' t g:Nat} {F:List Nat} {us:List (Nat×Nat)} {lv:List Nat} (h:TableAt w b t g F us lv) (hb:b'≤b):TableAt w b' t g F us lv:=by
 obtain ⟨L,V,h⟩:=h
 exact ⟨L,V,h.blk,YC h.l hb,YC h.live hb,h.foot,Nat.le_trans hb h.base,h.ulen,h.uok,h.lok⟩
theorem WriterAt.rebase {w:World} {b b' p d g t:Nat} {F:List Nat} {W:PW} (h:WriterAt w b p d g t F W) (hb:b'≤b):WriterAt w b' p d g t F W:=by
 obtain ⟨I,B,ls,h⟩:=h
 exact ⟨I,B,ls,h.blk,YC h.its hb,YC h.bls hb,fun q hq=>YC (h.dat q hq) hb,h.snd,h.foot,Nat.le_trans hb h.base⟩
theorem PagedAt.rebase {w:World} {b b' p:Nat} {F:List Nat} {l:List Int} {ds:List Bool} (h:PagedAt w b p F l ds) (hb:b'≤b):PagedAt w b' p F l ds:=by
 obtain ⟨L,U,h⟩:=h
 exact ⟨L,U,h.blk,YC h.rl hb,YC h.rd hb,h.foot,Nat.le_trans hb h.base,h.pos,h.few,h.pages⟩
theorem ImageAt.rebase {w:World} {b b' m:Nat} {F:List Nat} {I:PImage} (h:ImageAt w b m F I) (hb:b'≤b):ImageAt w b' m F I:=by
 obtain ⟨p1,p2,F1,F2,h⟩:=h
 exact ⟨p1,p2,F1,F2,h.blk,h.b.rebase hb,h.o.rebase hb,h.apart,h.m1,h.m2,h.foot,Nat.le_trans hb h.base,h.ok⟩
def PS.fresh (B:Nat) (D:PDisk):PS:=
 ⟨D,(1,0) :: List.replicate 7 (0,0),List.replicate 8 0,⟨⟨0,0,1,0,1⟩,[],[]⟩,⟨List.replicate B 0,List.replicate (pgs B) false,List.replicate B (-1),List.replicate (pgs B) false⟩,⟨1,1,0,0,0,1,1⟩,0,List.replicate (pgs B) 0,List.replicate (pgs B) 0⟩
theorem PS.fresh_good {B n:Nat} {D:PDisk} (h1:1≤B) (h2:B≤64) (hn:n=198+4*pgs B) (hl:D.now.length=D.n*64) (hDn:D.n=n) (ha:D.acts≤200) (hf:D.faults=List.replicate n false):Good B (PS.fresh B D) 0 0:=by
 refine ⟨⟨ZAY _,rfl,by simp [PS.fresh],by simp [PS.fresh],by simp [PS.fresh],⟨0,0,by omega,by simp [PS.fresh,ZW],by simp [PS.fresh,QE]⟩,by show D.acts≤_;omega,by simp [PS.fresh]⟩,hl,hDn.trans hn,?_,?_,h1,h2,by simp [PS.fresh],by simp [PS.fresh],?_,?_,by simp [PS.fresh],by simp [PS.fresh],by simp [PS.fresh]⟩
 · intro x hx
   simp only [PS.fresh,hf] at hx
   exact List.eq_of_mem_replicate hx
 · simp only [PS.fresh,hf,List.length_replicate];exact hDn.symm
 · intro x hx
   simp only [PS.fresh] at hx
   exact .inl (List.eq_of_mem_replicate hx)
 · intro x hx
   simp only [PS.fresh] at hx
   exact .inl (List.eq_of_mem_replicate hx)
theorem JAe (w:World) (base d n B:Nat) (F:List Nat) (hB1:1≤B) (hB2:B≤64) (hn:n=198+4*pgs B) (h:DiskAt w base d F (PDisk.new n)) (hbase:base≤w.heap.size) :
 Calls Tryz.prog 46 #[.pointer (some ⟨d,0,none⟩),.agg #[.int .i64 B,.int .i64 8,.int .i64 24],.int .i64 1] w fun e w'=>∃ s,e = .returned (.tuple #[.pointer (some ⟨s,0,none⟩),.int .i64 0]) ∧
  ∃ F' D,StoreAt w' base s d F' B (PS.fresh B D)∧Good B (PS.fresh B D) 0 0∧Keep F w w'∧Grow w F F':=by
 have hFm:=JAM (w.alloc (.cells #[.int .i64 B,.int .i64 8,.int .i64 24] 28)) base d n B F hB1 hB2 hn (h.keep0 ((Keep.refl _ _).alloc _)) (by simp;omega)
 have hG:=fun W=>Xw W B hB1 hB2
 have hpb:=XE hB1 hB2
 have hbC:=Blk.new w 28 #[.int .i64 B,.int .i64 8,.int .i64 24]
 have hFlt:=h.lt
 have hmayP:PPos.May ⟨0,0,1,0,1⟩:=by simp [PPos.May]
 go_enter Tryz.func46,Tryz.ntmps46
 go_wp2_with (first
  | (go_at_call 100
     refine hFm.mono ?_
     clear hFm
     rintro e w1 ⟨rfl,F1,D,hd1,hDn,hDo,hDf,hDa,hDl,hk1,hg1⟩
     have hbC1:=hbC.keep hk1 (fun hm=>by have:=hFlt _ hm;omega)
     obtain ⟨k0,k1,k2⟩:w1.cell? ⟨w.heap.size,0,none⟩=some (.int .i64 B)∧w1.cell? ⟨w.heap.size,1,none⟩=some (.int .i64 8)∧w1.cell? ⟨w.heap.size,2,none⟩=some (.int .i64 24):=⟨by simpa using hbC1.cell 0,by simpa using hbC1.cell 1,by simpa using hbC1.cell 2⟩)
  | (go_at_call 101
     refine (hG _).mono ?_
     clear hG
     rintro e w2 ⟨g,rfl,hg,hgb,hkc⟩
     have hFi:Calls Tryz.prog 102 #[.pointer (some ⟨g,0,none⟩),.int .i64 1] w2 fun e w'=>∃ SA sc UA uc,e = .returned (.agg #[.int .i64 1,.int .i64 1,.int .i64 1,.int .i64 0,.int .i64 0,.int .i64 0,.int .i64 0,.int .i64 0,.int .i64 1,.int .i64 0,.int .i64 1,.slice SA (pgs B) sc,.slice SA (pgs B) sc,.slice (some ⟨UA,0,none⟩) 8 uc]) ∧
      w'.ownsRow w2.heap.size 3 1 (.slice SA (pgs B) sc) (pgs B) (VO (List.replicate (pgs B) 0))∧w'.ownsRow w2.heap.size 220 2 (.slice (some ⟨UA,0,none⟩) 8 uc) 8 (((1,0) :: List.replicate 7 (0,0)).flatMap Xv)∧Keep [] w2 w':=QAA w2 g B hg 1)
  | (go_at_call 102
     refine hFi.mono ?_
     clear hFi
     rintro e w3 ⟨SA,sc,UA,uc,rfl,hS3,hU3,hk3⟩
     have hg3:=hg.keep0 hk3
     have hkc3:=hkc.trans0 hk3))
 have hk34:=(Keep.refl [] w3).alloc (.cells #[.int .i64 1,.int .i64 1,.int .i64 1,.int .i64 0,.int .i64 0,.int .i64 0,.int .i64 0,.int .i64 0,.int .i64 1,.int .i64 0,.int .i64 1,.slice SA (pgs B) sc,.slice SA (pgs B) sc,.slice (some ⟨UA,0,none⟩) 8 uc] 173)
 have hkA:Keep [] w1 (w3.alloc (.cells #[.int .i64 1,.int .i64 1,.int .i64 1,.int .i64 0,.int .i64 0,.int .i64 0,.int .i64 0,.int .i64 0,.int .i64 1,.int .i64 0,.int .i64 1,.slice SA (pgs B) sc,.slice SA (pgs B) sc,.slice (some ⟨UA,0,none⟩) 8 uc] 173)):=hkc3.alloc _
 have hbR:=Blk.new w3 173 #[.int .i64 1,.int .i64 1,.int .i64 1,.int .i64 0,.int .i64 0,.int .i64 0,.int .i64 0,.int .i64 0,.int .i64 1,.int .i64 0,.int .i64 1,.slice SA (pgs B) sc,.slice SA (pgs B) sc,.slice (some ⟨UA,0,none⟩) 8 uc]
 have hS4:=ZD hS3 (.cells #[.int .i64 1,.int .i64 1,.int .i64 1,.int .i64 0,.int .i64 0,.int .i64 0,.int .i64 0,.int .i64 0,.int .i64 1,.int .i64 0,.int .i64 1,.slice SA (pgs B) sc,.slice SA (pgs B) sc,.slice (some ⟨UA,0,none⟩) 8 uc] 173)
 have hU4:=ZD hU3 (.cells #[.int .i64 1,.int .i64 1,.int .i64 1,.int .i64 0,.int .i64 0,.int .i64 0,.int .i64 0,.int .i64 0,.int .i64 1,.int .i64 0,.int .i64 1,.slice SA (pgs B) sc,.slice SA (pgs B) sc,.slice (some ⟨UA,0,none⟩) 8 uc] 173)
 have hg4:=hg3.keep0 ((Keep.refl _ _).alloc (.cells #[.int .i64 1,.int .i64 1,.int .i64 1,.int .i64 0,.int .i64 0,.int .i64 0,.int .i64 0,.int .i64 0,.int .i64 1,.int .i64 0,.int .i64 1,.slice SA (pgs B) sc,.slice SA (pgs B) sc,.slice (some ⟨UA,0,none⟩) 8 uc] 173))
 have hbC4:=hbC1.keep0 hkA
 generalize w3.alloc (.cells #[.int .i64 1,.int .i64 1,.int .i64 1,.int .i64 0,.int .i64 0,.int .i64 0,.int .i64 0,.int .i64 0,.int .i64 1,.int .i64 0,.int .i64 1,.slice SA (pgs B) sc,.slice SA (pgs B) sc,.slice (some ⟨UA,0,none⟩) 8 uc] 173)=w4 at *
 go_wp2_with fail
 have hT:=XAp w4.drew g B (hg4.keep0 (Keep.refl _ _).drew) UA uc _ (Rd.of_ownN hU4).drew rfl (by decide)
 refine KA (fun w'=>w'.cell? ⟨w3.heap.size,13,none⟩=some (.slice (some ⟨UA,0,none⟩) 8 uc)∧w'.cell? ⟨w.heap.size,0,none⟩=some (.int .i64 B)) 6 [(0,false),(1,false),(2,false),(4,false),(5,false),(3,true)]
  (by kernel_rfl) (by kernel_rfl) (fun _ _ d _ _ h=>by cases d <;> exact h) ⟨(JE hbR.drew).2.2.2.2.2.2.2.2.2.2.2.2.2,by simpa using hbC4.drew.cell 0⟩ ?_
 simp only [PI]
 iterate 5 (refine ZB ?_ (by rfl) ?_ ?_;rotate_left;(focus (rintro W ⟨hW1,hW2⟩;go_simp;try with_reducible rfl));simp only [Act.put,PU])
 refine KB (by rfl) (fun K hK=>?_)
 go_wp2_with (refine hT.mono ?_;clear hT;rintro e w5 ⟨t,Ft,rfl,ht5,hk5⟩)
 have hkB:Keep [] w4 w5:=(Keep.refl _ _).drew.trans0 hk5
 refine hK _ _ (⟨(JE (hbR.keep0 hkB)).2.2.2.2.2.2.2.2.2.2.2.2.2,by simpa using (hbC4.keep0 hkB).cell 0⟩) ?_
 clear hK K
 try simp only [Act.put,PU]
 refine ZC ?_
 have hI:=XAs w5 B hB1 hB2
 replace hbR:=hbR.keep0 hkB
 have hk0:w5.cell? ⟨w3.heap.size,2,none⟩=some (.int .i64 1):=by simpa using hbR.cell 2
 go_wp2_with (go_at_call 104
              refine hI.mono ?_
              clear hI
              rintro e w6 ⟨m,Fm,rfl,hm6,hk6⟩
              replace hbR:=hbR.keep0 hk6
              obtain ⟨r0,r1,r2,r3,r4,r5,r6,r7,r8,r9,r10,r11,r12,r13⟩:=JE hbR
              have hltR:=hbR.lt)
 have hkS:Keep [] w6 (w6.alloc (.cells #[.int .i64 1,.int .i64 1,.int .i64 0,.int .i64 0,.int .i64 0,.int .i64 1,.int .i64 1,.int .i64 0,.int .i64 0,.int .i64 0] 51)):=(Keep.refl _ _).alloc _
 have hbS:=Blk.new w6 51 #[.int .i64 1,.int .i64 1,.int .i64 0,.int .i64 0,.int .i64 0,.int .i64 1,.int .i64 1,.int .i64 0,.int .i64 0,.int .i64 0]
 replace hbR:=hbR.keep0 hkS
 clear r0 r1 r2 r3 r4 r5 r6 r7 r8 r9 r10 r11 r12 r13 hk0
 generalize w6.alloc (.cells #[.int .i64 1,.int .i64 1,.int .i64 0,.int .i64 0,.int .i64 0,.int .i64 1,.int .i64 1,.int .i64 0,.int .i64 0,.int .i64 0] 51)=w7 at *
 have hg7:=((hg4.keep0 hkB).keep0 hk6).keep0 hkS
 have hNw:Calls Tryz.prog 106 #[.pointer (some ⟨d,0,none⟩),.pointer (some ⟨g,0,none⟩),.pointer (some ⟨t,0,none⟩),.agg #[.int .i64 0,.int .i64 0,.int .i64 1,.int .i64 0,.int .i64 1]] w7.drew fun e w'=>∃ p F,e = .returned (.pointer (some ⟨p,0,none⟩))∧WriterAt w' w7.drew.heap.size p d g t F ⟨⟨0,0,1,0,1⟩,[],[]⟩∧Keep [] w7.drew w':=JAn w7.drew d g t B (hg7.keep0 (Keep.refl _ _).drew) ⟨0,0,1,0,1⟩ hmayP
 refine KA (fun w'=>w'.cell? ⟨w3.heap.size,0,none⟩=some (.int .i64 1)∧w'.cell? ⟨w3.heap.size,1,none⟩=some (.int .i64 1)∧w'.cell? ⟨w3.heap.size,2,none⟩=some (.int .i64 1)∧w'.cell? ⟨w3.heap.size,3,none⟩=some (.int .i64 0)∧w'.cell? ⟨w3.heap.size,4,none⟩=some (.int .i64 0)∧w'.cell? ⟨w3.heap.size,5,none⟩=some (.int .i64 0)∧w'.cell? ⟨w3.heap.size,6,none⟩=some (.int .i64 0)∧w'.cell? ⟨w3.heap.size,7,none⟩=some (.int .i64 0)∧w'.cell? ⟨w3.heap.size,8,none⟩=some (.int .i64 1)∧w'.cell? ⟨w3.heap.size,9,none⟩=some (.int .i64 0)∧w'.cell? ⟨w3.heap.size,10,none⟩=some (.int .i64 1)∧w'.cell? ⟨w3.heap.size,11,none⟩=some (.slice SA (pgs B) sc)∧w'.cell? ⟨w3.heap.size,12,none⟩=some (.slice SA (pgs B) sc)∧w'.cell? ⟨w3.heap.size,13,none⟩=some (.slice (some ⟨UA,0,none⟩) 8 uc)∧w'.cell? ⟨w6.heap.size,0,none⟩=some (.int .i64 1)∧w'.cell? ⟨w6.heap.size,1,none⟩=some (.int .i64 1)∧w'.cell? ⟨w6.heap.size,2,none⟩=some (.int .i64 0)∧w'.cell? ⟨w6.heap.size,3,none⟩=some (.int .i64 0)∧w'.cell? ⟨w6.heap.size,4,none⟩=some (.int .i64 0)∧w'.cell? ⟨w6.heap.size,5,none⟩=some (.int .i64 1)∧w'.cell? ⟨w6.heap.size,6,none⟩=some (.int .i64 1)∧w'.cell? ⟨w6.heap.size,7,none⟩=some (.int .i64 0)∧w'.cell? ⟨w6.heap.size,8,none⟩=some (.int .i64 0)∧w'.cell? ⟨w6.heap.size,9,none⟩=some (.int .i64 0)) 12 [(0,false),(1,false),(2,false),(3,false),(4,false),(5,false),(6,false),(7,false),(9,false),(10,false),(11,false),(8,true)]
  (by kernel_rfl) (by kernel_rfl) (fun _ _ d _ _ h=>by cases d <;> exact h) ⟨(by simpa using (hbR.drew).cell 0),(by simpa using (hbR.drew).cell 1),(by simpa using (hbR.drew).cell 2),(by simpa using (hbR.drew).cell 3),(by simpa using (hbR.drew).cell 4),(by simpa using (hbR.drew).cell 5),(by simpa using (hbR.drew).cell 6),(by simpa using (hbR.drew).cell 7),(by simpa using (hbR.drew).cell 8),(by simpa using (hbR.drew).cell 9),(by simpa using (hbR.drew).cell 10),(by simpa using (hbR.drew).cell 11),(by simpa using (hbR.drew).cell 12),(by simpa using (hbR.drew).cell 13),(by simpa using (hbS.drew).cell 0),(by simpa using (hbS.drew).cell 1),(by simpa using (hbS.drew).cell 2),(by simpa using (hbS.drew).cell 3),(by simpa using (hbS.drew).cell 4),(by simpa using (hbS.drew).cell 5),(by simpa using (hbS.drew).cell 6),(by simpa using (hbS.drew).cell 7),(by simpa using (hbS.drew).cell 8),(by simpa using (hbS.drew).cell 9)⟩ ?_
 simp only [PI]
 iterate 11 (refine ZB ?_ (by rfl) ?_ ?_;rotate_left;(focus (rintro W ⟨hW0,hW1,hW2,hW3,hW4,hW5,hW6,hW7,hW8,hW9,hW10,hW11,hW12,hW13,hW14,hW15,hW16,hW17,hW18,hW19,hW20,hW21,hW22,hW23⟩;go_simp;try with_reducible rfl));simp only [Act.put,PU])
 refine KB (by rfl) (fun K hK=>?_)
 go_wp2_with (refine hNw.mono ?_;clear hNw;rintro e w8 ⟨p,Fw,rfl,hw8,hk8⟩)
 have hkW:Keep [] w7 w8:=(Keep.refl _ _).drew.trans0 hk8
 refine hK _ _ (⟨(by simpa using (hbR.keep0 hkW).cell 0),(by simpa using (hbR.keep0 hkW).cell 1),(by simpa using (hbR.keep0 hkW).cell 2),(by simpa using (hbR.keep0 hkW).cell 3),(by simpa using (hbR.keep0 hkW).cell 4),(by simpa using (hbR.keep0 hkW).cell 5),(by simpa using (hbR.keep0 hkW).cell 6),(by simpa using (hbR.keep0 hkW).cell 7),(by simpa using (hbR.keep0 hkW).cell 8),(by simpa using (hbR.keep0 hkW).cell 9),(by simpa using (hbR.keep0 hkW).cell 10),(by simpa using (hbR.keep0 hkW).cell 11),(by simpa using (hbR.keep0 hkW).cell 12),(by simpa using (hbR.keep0 hkW).cell 13),(by simpa using (hbS.keep0 hkW).cell 0),(by simpa using (hbS.keep0 hkW).cell 1),(by simpa using (hbS.keep0 hkW).cell 2),(by simpa using (hbS.keep0 hkW).cell 3),(by simpa using (hbS.keep0 hkW).cell 4),(by simpa using (hbS.keep0 hkW).cell 5),(by simpa using (hbS.keep0 hkW).cell 6),(by simpa using (hbS.keep0 hkW).cell 7),(by simpa using (hbS.keep0 hkW).cell 8),(by simpa using (hbS.keep0 hkW).cell 9)⟩) ?_
 clear hK K
 try simp only [Act.put,PU]
 refine ZC ?_
 have hkD:Keep [] w4 w8:=(hkB.trans0 hk6).trans0 (hkS.trans0 hkW)
 have hrS:=(Rd.of_own hS4).keep hkD
 have hMk:Calls Tryz.prog 105 #[.pointer (some ⟨d,0,none⟩),.pointer (some ⟨t,0,none⟩),.pointer (some ⟨m,0,none⟩),.pointer (some ⟨p,0,none⟩),.pointer (some ⟨g,0,none⟩),.int .i64 0,.agg #[.int .i64 1,.int .i64 1,.int .i64 1,.int .i64 0,.int .i64 0,.int .i64 0,.int .i64 0,.int .i64 0,.int .i64 1,.int .i64 0,.int .i64 1,.slice SA (pgs B) sc,.slice SA (pgs B) sc,.slice (some ⟨UA,0,none⟩) 8 uc],.agg #[.int .i64 1,.int .i64 1,.int .i64 0,.int .i64 0,.int .i64 0,.int .i64 1,.int .i64 1,.int .i64 0,.int .i64 0,.int .i64 0]] w8 fun e w'=>∃ s L0 L1,e = .returned (.pointer (some ⟨s,0,none⟩))∧w8.heap.size≤s ∧
  Blk w' s 119 #[.pointer (some ⟨d,0,none⟩),.pointer (some ⟨g,0,none⟩),.pointer (some ⟨t,0,none⟩),.pointer (some ⟨m,0,none⟩),.pointer (some ⟨p,0,none⟩),.int .i64 1,.int .i64 1,.int .i64 0,.int .i64 0,.int .i64 0,.int .i64 1,.int .i64 1,.int .i64 0,.int .i64 0,.int .i64 0,.int .i64 0,L0,L1] ∧
  w'.ownsRow w8.heap.size 3 1 L0 (pgs B) (VO (List.replicate (pgs B) 0))∧w'.ownsRow w8.heap.size 3 1 L1 (pgs B) (VO (List.replicate (pgs B) 0))∧Keep [] w8 w':=
  VAm w8 d t m p g 0 (pgs B) ⟨1,1,1,0,0,0,⟨0,0,1,0,1⟩⟩ SA sc (List.replicate (pgs B) 0) SA sc (List.replicate (pgs B) 0) (some ⟨UA,0,none⟩) 8 uc hrS hrS (by omega) ⟨1,1,0,0,0,1,1⟩
 clear hrS
 go_wp2_with (refine hMk.mono ?_;clear hMk;rintro e w9 ⟨s,L0,L1,rfl,hs9,hb9,hl0,hl1,hk9⟩)
 go_ret2
 have z1:=hkc3.size
 have z2:=hk6.size
 have z3:=hkS.size
 have z4:=hkW.size
 have z5:=hkB.size
 have z6:=hkA.size
 have z7:=hk1.size
 have z8:=hkc.size
 have z9:=hk3.size
 have zg:=hg.lt
 have zz:w3.heap.size≤w4.heap.size:=hk34.size
 simp at z7
 have hF1:=hd1.lt
 have hFt:=ht5.lt
 have hFt':∀ x∈Ft,w4.heap.size≤x:=ht5.ge
 have hFm:=hm6.lt
 have hFm':∀ x∈Fm,w5.heap.size≤x:=hm6.ge
 have hFw:=hw8.lt
 have hFw':∀ x∈Fw,w7.heap.size≤x:=hw8.ge
 have hk19:Keep [] w1 w9:=(hkA.trans0 hkD).trans0 hk9
 have hL:∀ x∈L0.ownBlock.toList++L1.ownBlock.toList,w8.heap.size≤x∧x≠s:=fun x hx=>by
  rcases List.mem_append.1 hx with hx | hx
  · exact ⟨(own_mem hl0 hx).1,fun e=>by subst e;exact own_blk_ne hl0 hb9 (by decide) (by simpa using hx)⟩
  · exact ⟨(own_mem hl1 hx).1,fun e=>by subst e;exact own_blk_ne hl1 hb9 (by decide) (by simpa using hx)⟩
 have hlog:LogIs w9 base d g t p F1 Ft Fw B D ((1,0) :: List.replicate 7 (0,0)) (List.replicate 8 0) ⟨⟨0,0,1,0,1⟩,[],[]⟩:=
  ⟨hd1.keep0 hk19,hg.keep0 (((hk3.trans0 hk34).trans0 hkD).trans0 hk9),((ht5.keep0 ((hk6.trans0 (hkS.trans0 hkW)).trans0 hk9)).rebase (by show base≤w4.heap.size;omega)),(hw8.keep0 hk9).rebase (by show base≤w7.heap.size;omega),
    fun x hx hy=>by (have:=hF1 x hx;have:=hFt' x hy;omega),fun x hx hy=>by (have:=hF1 x hx;have:=hFw' x hy;omega),fun x hx hy=>by (have:=hFt x hx;have:=hFw' x hy;omega),fun hy=>by (have:=hF1 g hy;omega),fun hy=>by (have:=hFt' g hy;omega),fun hy=>by (have:=hFw' g hy;omega),
    by simp [PPos.Ok],hDo,hDf,hDn.trans hn,by have:=hk9.size;omega⟩
 have hst:StoreIs w9 base s d g t p m F1 Ft Fw Fm L0 L1 B (PS.fresh B D):=by
  refine ⟨hb9,hlog,(hm6.keep0 ((hkS.trans0 hkW).trans0 hk9)).rebase (by omega),by simp [PS.fresh],YC hl0 (by omega),YC hl1 (by omega),by omega,by omega,?_,?_,?_⟩
  · intro x hx hy
    have h1:=hFm x hx
    have h2:=hFm' x hx
    simp only [List.mem_cons,List.mem_append] at hy
    rcases hy with rfl | hy | hy | hy
    · omega
    · have:=hF1 x hy;omega
    · have:=hFt x hy;omega
    · have:=hFw' x hy;omega
  · intro hy
    simp only [List.mem_cons,List.mem_append] at hy
    rcases hy with hy | hy | hy | hy | hy
    · omega
    · have:=hF1 s hy;omega
    · have:=hFt s hy;omega
    · have:=hFw s hy;omega
    · have:=hFm s hy;omega
  · intro x hx hy
    obtain ⟨h1,h2⟩:=hL x hx
    simp only [List.mem_cons,List.mem_append] at hy
    rcases hy with hy | hy | hy | hy | hy | hy
    · exact h2 hy
    · omega
    · have:=hF1 x hy;omega
    · have:=hFt x hy;omega
    · have:=hFw x hy;omega
    · have:=hFm x hy;omega
 refine ⟨s,rfl,_,D,⟨g,t,p,m,F1,Ft,Fw,Fm,L0,L1,hst,rfl⟩,PS.fresh_good hB1 hB2 hn (by obtain ⟨_,_,_,_,hd⟩:=hd1;exact hd.len.1) hDn hDa hDl,?_,?_⟩
 · exact (((Keep.refl [] w).alloc _).zero.trans hk1 (fun x hx => .inl hx)).trans hk19 (fun x hx=>by cases hx)
 · intro x hx
   simp only [JW,List.mem_cons,List.mem_append] at hx
   rcases hx with hx | hx | hx | hx | hx | hx | hx | hx
   · right;omega
   · right;omega
   · rcases hg1 x hx with h | h
     · exact .inl h
     · right;simp at h;omega
   · have:=hFt' x hx;right;omega
   · have:=hFw' x hx;right;omega
   · have:=hFm' x hx;right;omega
   · have:=(hL x (List.mem_append_left _ hx)).1;right;omega
   · have:=(hL x (List.mem_append_right _ hx)).1;right;omega
end
section
open Go.RowKit Go.Shelf
theorem DiskAt.rebase {w:World} {b b' d:Nat} {F:List Nat} {D:PDisk} (h:DiskAt w b d F D) (hb:b'≤b):DiskAt w b' d F D:=by
 obtain ⟨S,N,H,U,h⟩:=h
 exact ⟨S,N,H,U,h.blk,YC h.safe hb,YC h.now hb,YC h.held hb,YC h.flt hb,h.ne,h.foot,Nat.le_trans hb h.base,h.pos,h.few,h.ats,h.acts⟩
theorem RDkNew.keepLt {w w':World} {base d n:Nat} {F l:List Nat} (h:RDkNew w base d F n) (hk:Keep l w w') (hl:∀ x∈l,x<base):RDkNew w' base d F n:=by
 obtain ⟨S,U,R,h1,h2,h3,h4,h5,h6⟩:=h
 exact ⟨S,U,R,h1.keep hk (fun x hx hm=>by have:=h1.ge x hx;have:=hl x hm;omega),h2,h3,h4,h5,fun v hv=>QB (h6 v hv) hk (fun g hg hm=>by have:=(own_mem (h6 v hv) (g:=g) (by simpa using hg)).1;have:=hl g hm;omega)⟩
theorem XAt (n:Nat) (h0:0<n) (hn:n≤4096) (w:World):Calls Tryz.prog 44 #[.int .i64 (n:Nat)] w fun e w'=>∃ d F m Fm b1,e = .returned (.tuple #[.pointer (some ⟨d,0,none⟩),.pointer (some ⟨m,0,none⟩),.bool true])∧DiskAt w' w.heap.size d F (PDisk.new n)∧RDkNew w' b1 m Fm n∧Keep [] w w'∧w.heap.size≤b1∧(∀ x∈F,x<b1)∧(∀ x∈Fm,b1≤x)∧b1≤w'.heap.size:=by
 have hD:=QAq n h0 hn w
 have hM:=fun W=>Vy n h0 hn W
 go_enter Tryz.func44,Tryz.ntmps44
 go_wp2_with (first
  | (go_at_call 97;refine hD.mono ?_;clear hD;rintro e w1 ⟨d,F,rfl,hd,hk1⟩)
  | (go_at_call 98;refine (hM _).mono ?_;clear hM;rintro e w2 ⟨m,Fm,rfl,hm,hk2⟩))
 have hge:∀ x∈Fm,w1.heap.size≤x:=by
  obtain ⟨R,hR,_⟩:=hm.at_
  exact hR.ge
 have hlt:=hd.lt
 have hs:=hk1.size
 exact bodyPost_ret (v := .tuple #[.pointer (some ⟨d,0,none⟩),.pointer (some ⟨m,0,none⟩),.bool true]) (by simp [results,Tryz.results44,go_sem]) rfl ⟨d,F,m,Fm,_,rfl,hd.keep0 hk2,hm,hk1.trans0 hk2,hs,hlt,hge,hk2.size⟩
section
variable (w:World) (base s d g t p m:Nat) (Fd Ft Fw Fm:List Nat) (L0 L1:Value) (B:Nat) (S:PS) (h:StoreIs w base s d g t p m Fd Ft Fw Fm L0 L1 B S)
include h
theorem GeomS_is:Calls Tryz.prog 48 #[.pointer (some ⟨s,0,none⟩)] w fun e w'=>e = .returned (.pointer (some ⟨g,0,none⟩))∧w=w':=by
 obtain ⟨c0,c1,c2,c3,c4,c5,c6,c7,c8,c9,c10,c11,c12,c13,c14,c15,c16,c17⟩:=YE h.blk
 go_enter Tryz.func48,Tryz.ntmps48
 go_wp2
 go_ret
 exact ⟨rfl,rfl⟩
theorem TableS_is:Calls Tryz.prog 49 #[.pointer (some ⟨s,0,none⟩)] w fun e w'=>e = .returned (.pointer (some ⟨t,0,none⟩))∧w=w':=by
 obtain ⟨c0,c1,c2,c3,c4,c5,c6,c7,c8,c9,c10,c11,c12,c13,c14,c15,c16,c17⟩:=YE h.blk
 go_enter Tryz.func49,Tryz.ntmps49
 go_wp2
 go_ret
 exact ⟨rfl,rfl⟩
end
def YAp (w w':World) (B t d s:Nat) (F:List Nat) (D:PDisk):Prop:=
 ∃ m x:Nat,Blk w' t 37 #[.pointer (some ⟨d,0,none⟩),.pointer (some ⟨m,0,none⟩),.pointer (some ⟨s,0,none⟩),.pointer (some ⟨x,0,none⟩)]∧StoreAt w' w.heap.size s d F B (PS.fresh B D)∧Good B (PS.fresh B D) 0 0∧t∉F∧w.heap.size≤t∧Keep [] w w'
theorem JAF (w:World) (B:Nat) (hB1:1≤B) (hB2:B≤64):Calls Tryz.prog 8 #[.agg #[.int .i64 B,.int .i64 8,.int .i64 24]] w fun e w'=>∃ t d s F D,e = .returned (.tuple #[.pointer (some ⟨t,0,none⟩),.bool true])∧YAp w w' B t d s F D:=by
 have hSe:=fun W=>SectorsR_is W B hB1 hB2
 have hpb:=XE hB1 hB2
 have hT:=fun W=>XAt (198+4*pgs B) (by omega) (by omega) W
 have hS:=fun W base d F (h:DiskAt W base d F (PDisk.new (198+4*pgs B))) hb=>JAe W base d _ B F hB1 hB2 rfl h hb
 have hR:∀ W base d F,RDkNew W base d F (198+4*pgs B)→base≤W.heap.size→Calls Tryz.prog 47 #[.pointer (some ⟨d,0,none⟩),JT B,.int .i64 1] W fun e w'=>∃ x,e = .returned (.tuple #[.pointer (some ⟨x,0,none⟩),.int .i64 0])∧Keep F W w':=fun W base d F h hb=>VAv W base d _ B F hB1 hB2 rfl h hb
 obtain ⟨n,hn⟩:∃ n,n=198+4*pgs B:=⟨_,rfl⟩
 rw [← hn] at hSe hT hS hR
 have hbc:=Blk.new w 28 #[.int .i64 B,.int .i64 8,.int .i64 24]
 have hkA:Keep [] w (w.alloc (.cells #[.int .i64 B,.int .i64 8,.int .i64 24] 28)):=(Keep.refl _ _).alloc _
 obtain ⟨c0,c1,c2⟩:=QD hbc
 unfold JT at *
 clear hn hpb
 go_enter Tryz.func8,Tryz.ntmps8
 go_wp2_with (first
  | (go_at_call 45
     refine (hSe _).mono ?_
     clear hSe
     rintro e w1 ⟨rfl,hk1⟩
     replace hkA:=hkA.trans0 hk1
     replace hbc:=hbc.keep0 hk1)
  | (go_at_call 44
     refine (hT _).mono ?_
     clear hT
     rintro e w2 ⟨d,F,m,Fm,b1,rfl,hd,hm,hk2,hs2,hFlt,hFm,hs2'⟩
     have hw1:=hkA.size
     have hw1l:=hbc.lt
     have hFge:=hd.ge
     have hFmlt:=hm.lt
     replace hkA:=hkA.trans0 hk2
     replace hbc:=hbc.keep0 hk2
     clear c0 c1 c2
     obtain ⟨c0,c1,c2⟩:=QD hbc
     have hS2:=hS w2 w.heap.size d F (hd.rebase hw1) hkA.size)
  | (go_at_call 46
     refine hS2.mono ?_
     clear hS2 hS
     rintro e w3 ⟨s,rfl,F',D,hst,hgood,hk3,hg3⟩
     have hbc3:=hbc.keep hk3 (fun hm=>by have:=hFge _ hm;omega)
     clear c0 c1 c2
     obtain ⟨c0,c1,c2⟩:=QD hbc3
     have hR3:=hR w3 _ m Fm (hm.keepLt hk3 hFlt) (by have:=hk3.size;omega))
  | (go_at_call 47
     refine hR3.mono ?_
     clear hR3 hR
     rintro e w4 ⟨x,rfl,hk4⟩
     have hst4:=hst.keep hk4 (fun y hy hmem=>by
      rcases hg3 y hy with h1 | h1
      · have:=hFlt y h1;have:=hFm y hmem;omega
      · have:=hFmlt y hmem;omega)
     have hFge':∀ y∈F',w.heap.size≤y:=hst.ge
     have hFlt':=hst.lt
     have hs4:=hk4.size
     have hkW:Keep [] w w4:=(hkA.trans hk3 (fun y hy => .inr (by have:=hFge y hy;omega))).trans hk4 (fun y hy => .inr (by have:=hFm y hy;omega))
     have hkY:Keep [] w4 (w4.alloc (.cells #[.pointer (some ⟨d,0,none⟩),.pointer (some ⟨m,0,none⟩),.pointer (some ⟨s,0,none⟩),.pointer (some ⟨x,0,none⟩)] 37)):=(Keep.refl _ _).alloc _
     have hbY:=Blk.new w4 37 #[.pointer (some ⟨d,0,none⟩),.pointer (some ⟨m,0,none⟩),.pointer (some ⟨s,0,none⟩),.pointer (some ⟨x,0,none⟩)]
     have hst5:=hst4.keep0 hkY
     obtain ⟨g,t,p,mm,Fd,Ft,Fw,Fm',L0,L1,hs5,hfoot⟩:=hst5
     have hG:=fun W (hk:Keep [] (w4.alloc (.cells #[.pointer (some ⟨d,0,none⟩),.pointer (some ⟨m,0,none⟩),.pointer (some ⟨s,0,none⟩),.pointer (some ⟨x,0,none⟩)] 37)) W)=>GeomS_is W _ s d g t p mm Fd Ft Fw Fm' L0 L1 B _ (hs5.keep0 hk)
     have hTb:=fun W (hk:Keep [] (w4.alloc (.cells #[.pointer (some ⟨d,0,none⟩),.pointer (some ⟨m,0,none⟩),.pointer (some ⟨s,0,none⟩),.pointer (some ⟨x,0,none⟩)] 37)) W)=>TableS_is W _ s d g t p mm Fd Ft Fw Fm' L0 L1 B _ (hs5.keep0 hk)
     have hIm:=fun W (hk:Keep [] (w4.alloc (.cells #[.pointer (some ⟨d,0,none⟩),.pointer (some ⟨m,0,none⟩),.pointer (some ⟨s,0,none⟩),.pointer (some ⟨x,0,none⟩)] 37)) W)=>ImageS_is W _ s d g t p mm Fd Ft Fw Fm' L0 L1 B _ (hs5.keep0 hk))
  | (go_at_call 48
     refine (hG _ (Keep.refl _ _)).mono ?_
     clear hG
     rintro e w' ⟨rfl,rfl⟩)
  | (go_at_call 49
     refine (hTb _ (Keep.refl _ _)).mono ?_
     clear hTb
     rintro e w' ⟨rfl,rfl⟩)
  | (go_at_call 50
     refine (hIm _ (Keep.refl _ _)).mono ?_
     clear hIm
     rintro e w' ⟨rfl,rfl⟩))
 go_ret2
 exact ⟨w4.heap.size,d,s,F',D,rfl,m,x,hbY,⟨g,t,p,mm,Fd,Ft,Fw,Fm',L0,L1,hs5,hfoot⟩,hgood,fun hm=>by have:=hFlt' _ hm;omega,hkW.size,hkW.alloc _⟩
end
section
open Go.RowKit Go.Shelf
structure LawSt (w0 w:World) (B t r s d x:Nat) (Fs Fx:List Nat) (R:RS):Prop where
 two:∃ mm xx:Nat,Blk w t 37 #[.pointer (some ⟨d,0,none⟩),.pointer (some ⟨mm,0,none⟩),.pointer (some ⟨s,0,none⟩),.pointer (some ⟨xx,0,none⟩)]
 rep:ReplicaIs w w0.heap.size r s d x Fs Fx B R
 tn:t∉YL r Fs Fx
 tb:w0.heap.size≤t
 kept:Keep [] w0 w
namespace LawSt
variable {w0 w w':World} {B t r s d x:Nat} {Fs Fx:List Nat} {R:RS}
theorem keep0 (h:LawSt w0 w B t r s d x Fs Fx R) (hk:Keep [] w w'):LawSt w0 w' B t r s d x Fs Fx R:=
 ⟨by obtain ⟨mm,xx,hb⟩:=h.two;exact ⟨mm,xx,hb.keep0 hk⟩,h.rep.keep0 hk,h.tn,h.tb,h.kept.trans0 hk⟩
theorem cells (h:LawSt w0 w B t r s d x Fs Fx R):w.cell? ⟨t,0,none⟩=some (.pointer (some ⟨d,0,none⟩))∧w.cell? ⟨t,2,none⟩=some (.pointer (some ⟨s,0,none⟩)):=by
 obtain ⟨mm,xx,hb⟩:=h.two
 exact ⟨by simpa using hb.cell 0,by simpa using hb.cell 2⟩
theorem lt (h:LawSt w0 w B t r s d x Fs Fx R):t<w.heap.size:=by
 obtain ⟨mm,xx,hb⟩:=h.two
 exact hb.lt
theorem turn (h:LawSt w0 w B t r s d x Fs Fx R) {Fs' Fx':List Nat} {R':RS} (hr:ReplicaIs w' w0.heap.size r s d x Fs' Fx' B R') (hk:Keep (YL r Fs Fx) w w') (hg:Grow w (YL r Fs Fx) (YL r Fs' Fx')):LawSt w0 w' B t r s d x Fs' Fx' R':=by
 have hlt:=h.lt
 have hge:=h.rep.ge
 refine ⟨?_,hr,fun hm=>(hg t hm).elim h.tn (by omega),h.tb,h.kept.trans hk (fun y hy => .inr (hge y hy))⟩
 obtain ⟨mm,xx,hb⟩:=h.two
 exact ⟨mm,xx,hb.keep hk h.tn⟩
end LawSt
def QAh (w w':World) (st:PSt) (A:Option Addr) (c:Nat):Prop:=w'.ownsRow w.heap.size 5 1 (.slice A 25 c) 25 (bys (QF 8 st.view st.seq 0 0 st.epoch st.done []))
def KAc (w0 w:World) (B t r s d x:Nat) (Fs Fx:List Nat) (k j:Nat) (R1:PSlot→RS) (o:POp) (e:Ending) (w':World):Prop:=
 ∃ (v:Value) (Fs' Fx':List Nat) (R':RS) (er:Nat),LawSt w0 w' B t r s d x Fs' Fx' R'∧Ran B (R1 ⟨v,o,true⟩) R' er∧Good B R'.S (k+VE (R1 ⟨v,o,true⟩).sl) (j+2*VE (R1 ⟨v,o,true⟩).sl)∧(∀ q∈R'.sl,q.is=true→YW B q.o) ∧
   Keep (YL r Fs Fx) w w'∧Grow w (YL r Fs Fx) (YL r Fs' Fx') ∧
   ((er=0∧∃ UA uc,e = .returned (.tuple #[.slice UA 25 uc,.int .i64 0])∧QAh w w' R'.S.st UA uc)∨(er=1∧e = .returned (.tuple #[.slice none 0 0,.int .i64 1])))
theorem LawSt.take {w0 w:World} {B t r s d x:Nat} {Fs Fx:List Nat} {R:RS} (h:LawSt w0 w B t r s d x Fs Fx R) (hv:R.S.st.view=1) (k b c e m fs:Nat) (xs:List UInt8) (A:Option Addr) (cp:Nat)
 (ha:Rd w A (25+m) (bys (QF k 1 fs b c e 0 xs))) (ho:OpMay k b c e m) (hlen:xs.length=m) (hfor:b+max c 1≤B∨k=3) (hfs:1≤fs∧fs≤2147483647)
 (kk j:Nat) (hg:Good B R.S kk j) (hk:kk+VE R.sl≤49) (hj:j≤10000) (hnx:R.next≤1000000) (hop:∀ q∈R.sl,q.is=true→YW B q.o) (hn1:R.next≤fs) (hn2:fs<R.next+R.sl.length) (hq:(R.sl.getD (fs % R.sl.length) PSlot.none_).is=false) (hof:YW B ⟨k,b,c,e,xs⟩) :
 Calls Tryz.prog 12 #[.pointer (some ⟨r,0,none⟩),.slice A (25+m) cp] w (KAc w0 w B t r s d x Fs Fx kk j (fun q=>⟨R.S,R.next,R.sl.set (fs % R.sl.length) q⟩) ⟨k,b,c,e,xs⟩):=by
 have hv':((1:Nat):Int)=(R.S.st.view:Nat):=by rw [hv]
 refine (KAA w w0.heap.size r s d x Fs Fx B R h.rep h.kept.size k b c e m fs xs A cp (by rw [hv];exact ha) ho hlen hfor hfs kk j hg hk hj hnx hop hn1 hn2 hq hof).mono ?_
 rintro en w' ⟨v,Fs',Fx',R',er,h1,h2,h3,h4,h5,h6,h7⟩
 refine ⟨v,Fs',Fx',R',er,h.turn h1 h5 h6,h2,h3,h4,h5,h6,?_⟩
 rcases h7 with ⟨h7,u,h8,h9⟩ | h7
 · obtain ⟨UA,uc,rfl,_⟩:=JB h9
   exact .inl ⟨h7,UA,uc,h8,h9⟩
 · exact .inr h7
def VAw (k ep:Nat):Nat:=if k=3 then ep+1 else ep
theorem KAr {st:PSt} {k b c e:Nat} {xs:List UInt8}:(Zv st ⟨k,b,c,e,xs⟩).view=st.view∧(Zv st ⟨k,b,c,e,xs⟩).mode=st.mode∧(Zv st ⟨k,b,c,e,xs⟩).seq=st.seq+1∧(Zv st ⟨k,b,c,e,xs⟩).epoch=VAw k st.epoch∧(k=3→(Zv st ⟨k,b,c,e,xs⟩).done=st.seq+1)∧(k≠3→(Zv st ⟨k,b,c,e,xs⟩).done=st.done):=by
 unfold Zv VAw
 by_cases h:k=3
 · subst h
   simp
 · have h':¬ ((k:Nat):Int)=3:=by omega
   simp [h,h']
@[simp] theorem length_emptyW (m:Nat):(ZF m).length=m:=by simp [ZF]
theorem ZS (m:Nat):VE (ZF m)=0:=by
 unfold VE ZF
 rw [List.countP_replicate]
 simp [PSlot.none_]
theorem Yb (m i:Nat):((ZF m).getD i PSlot.none_).is=false:=by
 unfold ZF
 simp only [List.getD_eq_getElem?_getD,List.getElem?_replicate]
 split <;> rfl
theorem Vj (m B:Nat):∀ q∈ZF m,q.is=true→YW B q.o:=by
 intro q hq hi
 rw [List.eq_of_mem_replicate hq] at hi
 cases hi
theorem Xz {m i:Nat} (hi:i<m) (q:PSlot) (hq:q.is=true):VE ((ZF m).set i q)=1:=by
 rw [Kh (by simpa using hi) (Yb m i) q hq,ZS]
theorem LawSt.step {w0 w:World} {B t r s d x:Nat} {Fs Fx:List Nat} {S:PS} {i mW ep:Nat} (h:LawSt w0 w B t r s d x Fs Fx ⟨S,i+1,ZF mW⟩) (hm:1≤mW) (hv:S.st.view=1∧S.st.seq=i∧S.st.epoch=ep) (hg:Good B S i (2*i)) (hi:i≤40)
 (k b c e n:Nat) (xs:List UInt8) (A:Option Addr) (cp:Nat) (ha:Rd w A (25+n) (bys (QF k 1 (i+1) b c e 0 xs))) (ho:OpMay k b c e n) (hlen:xs.length=n) (hfor:b+max c 1≤B∨k=3) (hof:YW B ⟨k,b,c,e,xs⟩) (he:k=3→e=ep+1) :
 Calls Tryz.prog 12 #[.pointer (some ⟨r,0,none⟩),.slice A (25+n) cp] w fun en w'=>∃ (UA:Option Addr) (uc:Nat) (Fs' Fx':List Nat) (S':PS),en = .returned (.tuple #[.slice UA 25 uc,.int .i64 0])∧QAh w w' S'.st UA uc∧LawSt w0 w' B t r s d x Fs' Fx' ⟨S',i+1+1,ZF mW⟩ ∧
  (S'.st.view=1∧S'.st.seq=i+1∧S'.st.epoch=VAw k ep)∧(k=3→S'.st.done=i+1)∧Good B S' (i+1) (2*(i+1))∧Does B S ⟨k,b,c,e,xs⟩ S'∧Keep (YL r Fs Fx) w w'∧Grow w (YL r Fs Fx) (YL r Fs' Fx'):=by
 refine (h.take hv.1 k b c e n (i+1) xs A cp ha ho hlen hfor (by omega) i (2*i) hg (by rw [ZS];omega) (by omega) (show i+1≤1000000 by omega) (Vj mW B) (by simp) (by simp;omega) (Yb _ _) hof).mono ?_
 rintro en w' ⟨v,Fs',Fx',R',er,h1,h2,h3,h4,h5,h6,h7⟩
 simp only [length_emptyW] at h2 h3
 have hlt:(i+1) % mW<mW:=Nat.mod_lt _ hm
 rw [Xz hlt _ rfl] at h3
 rcases YAT hm (q:=⟨v,⟨k,b,c,e,xs⟩,true⟩) rfl h2 with ⟨q1,q2,_,_⟩ | ⟨S',q1,q2,q3⟩
 · exfalso
   apply q2
   have hk3:k=3:=by simp only at q1;omega
   have:=he hk3
   rw [hv.2.2]
   simp only
   omega
 · obtain ⟨hgd,hst⟩:=q1.good hof hg (by omega) (by omega)
   obtain ⟨d1,d2,d3,d4,d5,d6⟩:=KAr (st:=S.st) (k:=k) (b:=b) (c:=c) (e:=e) (xs:=xs)
   replace hst:S'.st=Zv S.st ⟨k,b,c,e,xs⟩:=hst
   subst q3
   rcases h7 with ⟨_,UA,uc,h8,h9⟩ | ⟨h7,_⟩
   · exact ⟨UA,uc,Fs',Fx',S',h8,h9,h1,⟨by rw [hst,d1,hv.1],by rw [hst,d3,hv.2.1],by rw [hst,d4,hv.2.2]⟩,fun h=>by rw [hst,d5 h,hv.2.1],hgd,q1,h5,h6⟩
   · omega
end
section
open Go.RowKit Go.Shelf
structure RHold (w:World) (B:Nat) (F:List Nat) (v:Value) (us:List (Value×List UInt8)):Prop where
 row:w.ownsRow B 40 1 v us.length (us.map Prod.fst)
 data:∀ p∈us,w.ownsRow B 5 1 p.1 p.2.length (bys p.2)
 off:∀ g∈v.ownBlock.toList,g∉F
 offs:∀ p∈us,∀ g∈p.1.ownBlock.toList,g∉F
theorem RHold.turn {w w':World} {B:Nat} {F F':List Nat} {v:Value} {us:List (Value×List UInt8)} (h:RHold w B F v us) {l:List Nat} (hk:Keep l w w') (hl:∀ x∈l,x∈F) (hg:Grow w F F'):RHold w' B F' v us:=by
 have hoff:∀ {e:TypeId} {u:Value} {n q:Nat} {xs:List Value},w.ownsRow B e q u n xs→(∀ g∈u.ownBlock.toList,g∉F)→∀ g∈u.ownBlock.toList,g∉F':=by
  intro e u n q xs hu ho g hg' hm
  rcases hg g hm with h1 | h1
  · exact ho g hg' h1
  · have:=(own_mem hu hg').2;omega
 exact ⟨QB h.row hk (fun g hg' hm=>h.off g (by simpa using hg') (hl g hm)),fun p hp=>QB (h.data p hp) hk (fun g hg' hm=>h.offs p hp g (by simpa using hg') (hl g hm)),hoff h.row h.off,fun p hp=>hoff (h.data p hp) (h.offs p hp)⟩
theorem RHold.keep0 {w w':World} {B:Nat} {F:List Nat} {v:Value} {us:List (Value×List UInt8)} (h:RHold w B F v us) (hk:Keep [] w w'):RHold w' B F v us:=
 ⟨XB h.row hk,fun p hp=>XB (h.data p hp) hk,h.off,h.offs⟩
structure ESt (w0 w:World) (base B t r s d x q:Nat) (Fs Fx:List Nat) (R:RS) (n ep len acked done:Nat) (L:Value) (os:List (Value×POp)) (oB:Nat) (OA:Option Addr) (oc:Nat) (oz:List (Value×POp)):Prop where
 two:∃ mm xx:Nat,Blk w t 37 #[.pointer (some ⟨d,0,none⟩),.pointer (some ⟨mm,0,none⟩),.pointer (some ⟨s,0,none⟩),.pointer (some ⟨xx,0,none⟩)]
 rep:ReplicaIs w base r s d x Fs Fx B R
 bl:base≤w.heap.size
 wb:w0.heap.size≤base
 tn:t∉YL r Fs Fx
 tq:t≠q
 src:Src w0 w q 1 n ep len acked done L os
 qF:q∉YL r Fs Fx
 LF:∀ g∈L.ownBlock.toList,g∉YL r Fs Fx
 oF:∀ p∈os,∀ g∈p.1.ownBlock.toList,g∉YL r Fs Fx
 ob:OHold w oB (q :: YL r Fs Fx) (.slice OA len oc) oz
namespace ESt
variable {w0 w w':World} {base B t r s d x q:Nat} {Fs Fx:List Nat} {R:RS} {n ep len acked done:Nat} {L:Value} {os:List (Value×POp)} {oB:Nat} {OA:Option Addr} {oc:Nat} {oz:List (Value×POp)}
theorem keep0 (h:ESt w0 w base B t r s d x q Fs Fx R n ep len acked done L os oB OA oc oz) (hk:Keep [] w w'):ESt w0 w' base B t r s d x q Fs Fx R n ep len acked done L os oB OA oc oz:=
 ⟨by obtain ⟨mm,xx,hb⟩:=h.two;exact ⟨mm,xx,hb.keep0 hk⟩,h.rep.keep0 hk,Nat.le_trans h.bl hk.size,h.wb,h.tn,h.tq,h.src.keep0 hk,h.qF,h.LF,h.oF,h.ob.keep0 hk⟩
theorem cells (h:ESt w0 w base B t r s d x q Fs Fx R n ep len acked done L os oB OA oc oz):w.cell? ⟨t,2,none⟩=some (.pointer (some ⟨s,0,none⟩)):=by
 obtain ⟨mm,xx,hb⟩:=h.two
 simpa using hb.cell 2
theorem took (h:ESt w0 w base B t r s d x q Fs Fx R n ep len acked done L os oB OA oc oz) {Fs' Fx':List Nat} {R':RS} (hr:ReplicaIs w' base r s d x Fs' Fx' B R') (hk:Keep (YL r Fs Fx) w w') (hg:Grow w (YL r Fs Fx) (YL r Fs' Fx')):ESt w0 w' base B t r s d x q Fs' Fx' R' n ep len acked done L os oB OA oc oz:=by
 have hq:=h.src.lt
 have hge:=h.rep.ge
 have hwb:=h.wb
 have hns:∀ g,g∉YL r Fs Fx→g<w.heap.size→g∉YL r Fs' Fx':=fun g h1 h2 hm=>(hg g hm).elim h1 (by omega)
 obtain ⟨mm,xx,hb⟩:=h.two
 refine ⟨⟨mm,xx,hb.keep hk h.tn⟩,hr,Nat.le_trans h.bl hk.size,hwb,hns t h.tn hb.lt,h.tq,h.src.keepL hk (fun y hy=>Nat.le_trans hwb (hge y hy)) h.qF h.LF h.oF,hns q h.qF hq,fun g hm=>hns g (h.LF g hm) (own_mem h.src.row hm).2,fun p hp g hm=>hns g (h.oF p hp g hm) (own_mem (h.src.data p hp) hm).2,h.ob.turn hk (fun y hy=>List.mem_cons_of_mem _ hy) (fun y hy=>?_)⟩
 rcases List.mem_cons.1 hy with rfl | hy
 · exact .inl List.mem_cons_self
 · exact (hg y hy).imp (List.mem_cons_of_mem _) id
theorem told (h:ESt w0 w base B t r s d x q Fs Fx R n ep len acked done L os oB OA oc oz) {acked' done' z:Nat} {L':Value} (hs:Src w0 w' q 1 n ep len acked' done' L' (os.drop z)) (hk:Keep [q] w w') (hL:∀ g∈L'.ownBlock.toList,w.heap.size≤g):ESt w0 w' base B t r s d x q Fs Fx R n ep len acked' done' L' (os.drop z) oB OA oc oz:=by
 have hlt:=h.rep.lt
 obtain ⟨mm,xx,hb⟩:=h.two
 exact ⟨⟨mm,xx,hb.keep hk (by simpa using h.tq)⟩,h.rep.keep hk (fun y hy hm=>by simp at hm;subst hm;exact h.qF hy),Nat.le_trans h.bl hk.size,h.wb,h.tn,h.tq,hs,h.qF,fun g hm hf=>by have:=hL g hm;have:=hlt g hf;omega,fun p hp=>h.oF p (List.mem_of_mem_drop hp),h.ob.turn hk (fun y hy=>by simp at hy;simp [hy]) (fun y hy => .inl hy)⟩
end ESt
theorem KAe {w:World} {base B r s d x:Nat} {Fs Fx:List Nat} {S:PS} {i mW:Nat} {ops:Nat→POp} (h:ReplicaIs w base r s d x Fs Fx B ⟨S,i+1,ZF mW⟩) (hb:base≤w.heap.size) (hm:1≤mW) (hv:S.st.view=1) (hs:Stm B ops i S) (hi:i≤40) {k b c e m:Nat} {xs:List UInt8} (ho:OpIs B ops i k b c e xs) (hxm:m=xs.length) (hep:k=3→e=S.st.epoch+1) (A:Option Addr) (cp:Nat) (ha:Rd w A (25+m) (bys (QF k 1 (i+1) b c e 0 xs))) :
 Calls Tryz.prog 12 #[.pointer (some ⟨r,0,none⟩),.slice A (25+m) cp] w fun en w'=>∃ (UA:Option Addr) (uc:Nat) (Fs' Fx':List Nat) (S':PS),en = .returned (.tuple #[.slice UA 25 uc,.int .i64 0])∧w'.ownsRow w.heap.size 5 1 (.slice UA 25 uc) 25 (bys (QF 8 S'.st.view S'.st.seq 0 0 S'.st.epoch S'.st.done [])) ∧
  ReplicaIs w' base r s d x Fs' Fx' B ⟨S',i+1+1,ZF mW⟩∧Stm B ops (i+1) S'∧S'.st.view=1∧Keep (YL r Fs Fx) w w'∧Grow w (YL r Fs Fx) (YL r Fs' Fx'):=by
 refine (KAA w base r s d x Fs Fx B _ h hb k b c e m (i+1) xs A cp (by simp only;rw [hv];exact ha) (hxm ▸ ho.may) hxm.symm ho.ok (by omega) i (2*i) hs.good (by rw [ZS];omega) (by omega) (show i+1≤1000000 by omega) (Vj mW B) (by simp) (by simp;omega) (Yb _ _) ho.for_).mono ?_
 rintro en w' ⟨v,Fs',Fx',R',er,h1,h2,h3,h4,h5,h6,h7⟩
 simp only [length_emptyW] at h2 h3
 rcases YAT hm (q:=⟨v,⟨k,b,c,e,xs⟩,true⟩) rfl h2 with ⟨q1,q2,_,_⟩ | ⟨S',q1,q2,q3⟩
 · exfalso
   apply q2
   have hk3:k=3:=by simp only at q1;omega
   have:=hep hk3
   simp only
   omega
 · subst q3
   rw [← ho.op] at q1
   obtain ⟨d1,d2,d3⟩:=q1.stm (by rw [ho.op];exact ho.for_) hs (by omega)
   rcases h7 with ⟨_,u,h8,h9⟩ | ⟨h7,_⟩
   · obtain ⟨UA,uc,rfl,_⟩:=JB h9
     exact ⟨UA,uc,Fs',Fx',S',h8,h9,h1,d1,by rw [d2,hv],h5,h6⟩
   · omega
end
section
open Go.RowKit Go.Shelf
structure EAt (w0 w:World) (base t r s d x q m n ep len k oB:Nat) (OA:Option Addr) (oc:Nat) (oz:List (Value×POp)) (zs:List Int) (Fs Fx:List Nat) (S:PS) (L:Value) (os:List (Value×POp)):Prop where
 st:ESt w0 w base 12 t r s d x q Fs Fx ⟨S,k+1,ZF m⟩ n ep len k (idl 12 (sOp zs) k).done L os oB OA oc oz
 os:os.map (·.2)=((List.range len).map (sOp zs)).drop (idl 12 (sOp zs) k).done
 stm:Stm 12 (sOp zs) k S
 view:S.st.view=1
theorem EAt.keep0 {w0 w w':World} {base t r s d x q m n ep len k oB:Nat} {OA:Option Addr} {oc:Nat} {oz:List (Value×POp)} {zs:List Int} {Fs Fx:List Nat} {S:PS} {L:Value} {os:List (Value×POp)} (h:EAt w0 w base t r s d x q m n ep len k oB OA oc oz zs Fs Fx S L os) (hk:Keep [] w w'):EAt w0 w' base t r s d x q m n ep len k oB OA oc oz zs Fs Fx S L os:=
 ⟨h.st.keep0 hk,h.os,h.stm,h.view⟩
theorem QAg (w0 w:World) (base t r s d x q m n ep len k oB:Nat) (OA:Option Addr) (oc:Nat) (oz:List (Value×POp)) (zs:List Int) (Fs Fx:List Nat) (S:PS) (L:Value) (os:List (Value×POp)) (hE:EAt w0 w base t r s d x q m n ep len k oB OA oc oz zs Fs Fx S L os) (hm:1≤m) (hn:1≤n∧n≤16) (hlen:len≤40) (hk:k≤len) :
 Calls Tryz.prog 36 #[.pointer (some ⟨q,0,none⟩),.pointer (some ⟨r,0,none⟩),.pointer none] w fun e w'=>e = .returned (.bool true)∧∃ Fs' Fx' S' L' os',EAt w0 w' base t r s d x q m n ep len (k+min n (len-k)) oB OA oc oz zs Fs' Fx' S' L' os':=by
 obtain ⟨hS,hos,hst,hv⟩:=hE
 have hdk:=(Jd 12 (sOp zs) k).1
 have hol:os.length=len-(idl 12 (sOp zs) k).done:=by have:=congrArg List.length hos;simpa using this
 have hOut:=YAU w0 w q 1 n ep len k (idl 12 (sOp zs) k).done L os hS.src (by omega) hn.2 (by omega) (fun i o ho=>Jm zs len 1 (by omega) (by omega) _ i o (by rw [VV,← hos];exact ho))
 obtain ⟨cnt,hcnt⟩:∃ cnt,cnt=min n (len-k):=⟨_,rfl⟩
 rw [← hcnt]
 rw [VAC hos hdk hk,← hcnt] at hOut
 have hcl:k+cnt≤len:=by omega
 have H0:Hid (os.map (·.2)=((List.range len).map (sOp zs)).drop (idl 12 (sOp zs) k).done∧Stm 12 (sOp zs) k S∧S.st.view=1):=JC ⟨hos,hst,hv⟩
 have hrlt:=hS.rep.lt
 have hqlt:=hS.src.lt
 clear hos hst hv hol hcnt hdk
 go_enter Tryz.func36,Tryz.ntmps36
 go_wp2_with (
  (refine hOut.mono ?_)
  clear hOut
  rintro e w1 ⟨A,mo,c,us,rfl,_,_,hus,hk1,ho1,ho2⟩)
 have hul:us.length=cnt:=by have:=congrArg List.length hus;simpa using this
 have hmo:mo=cnt:=by have:=ho1.1;simp at this;omega
 subst hmo
 have hR1:RHold w1 w.heap.size (q :: YL r Fs Fx) (.slice A mo c) us:=by
  refine ⟨by rw [hul];exact ho1,ho2,fun g hg hm=>?_,fun p hp g hg hm=>?_⟩
  · have:=(own_mem ho1 hg).1
    rcases List.mem_cons.1 hm with rfl | hm
    · omega
    · have:=hrlt g hm;omega
  · have:=(own_mem (ho2 p hp) hg).1
    rcases List.mem_cons.1 hm with rfl | hm
    · omega
    · have:=hrlt g hm;omega
 have hS1:=hS.keep0 hk1
 have HUS:=JC hus
 have HUL:=JC hul
 clear hus hul ho1 ho2 hS hk1 hrlt hqlt
 go_loopw [8] (fun iv wr=>∃ (i:Nat) (Fs Fx:List Nat) (S:PS) (L:Value) (os:List (Value×POp)),i≤mo∧iv = .int .i64 (i:Nat)∧ESt w0 wr base 12 t r s d x q Fs Fx ⟨S,k+i+1,ZF m⟩ n ep len (k+i) (idl 12 (sOp zs) (k+i)).done L os oB OA oc oz∧Hid (os.map (·.2)=((List.range len).map (sOp zs)).drop (idl 12 (sOp zs) (k+i)).done∧Stm 12 (sOp zs) (k+i) S∧S.st.view=1)∧RHold wr w.heap.size (q :: YL r Fs Fx) (.slice A mo c) us) (fun iv _=>mo-(intOf iv).toNat)
 case atStart=>exact ⟨0,Fs,Fx,S,L,os,Nat.zero_le _,rfl,hS1,H0,hR1⟩
 case round=>
  clear hS1 H0 hR1
  obtain ⟨i,Fs,Fx,S,L,os,hi,rfl,hS,H,hR⟩:=hrel
  by_cases hlt:i<mo
  · obtain ⟨hos,hst,hv⟩:=JA H
    have hiu:i<us.length:=by rw [JA HUL];exact hlt
    obtain ⟨kk,b,cc,e,xs,hOp⟩:=VAL zs (j:=k+i) (by omega)
    have hrow:us[i].2=QF kk 1 (k+i+1) b cc e 0 xs:=by
     have h1:(us.map Prod.snd)[i]? = some us[i].2:=by rw [List.getElem?_map,List.getElem?_eq_getElem hiu];rfl
     rw [JA HUS,List.getElem?_map,List.getElem?_range hlt,Option.map_some,Option.some.injEq] at h1
     rw [← h1,frB,hOp.op,show k+1+i=k+i+1 by omega]
     simp
    have hown:=hR.row
    rw [JA HUL] at hown
    obtain ⟨g,gc,hAg,_,_⟩:=ZE hown (by omega)
    cases hAg
    have hcell:wr.cell? ⟨g,i,none⟩=some us[i].1:=VH hown (by rw [List.getElem?_map,List.getElem?_eq_getElem hiu];rfl)
    have hdat:=hR.data us[i] (List.getElem_mem hiu)
    rw [hrow] at hdat
    have hfl:(QF kk 1 (k+i+1) b cc e 0 xs).length=25+xs.length:=by simp
    rw [hfl] at hdat
    obtain ⟨PA,pc,hpv,_⟩:=JB hdat
    rw [hpv] at hcell hdat
    have hepk:=hst.epoch
    have hops:=KAU zs (len:=len) (by omega)
    have he3:kk=3→e=S.st.epoch+1:=fun h3=>by
     have:=(hops (k+i) (by omega)).2
     rw [hOp.op] at this
     have:=this (by simp only;omega)
     simp only at this
     omega
    obtain ⟨n1,hn1⟩:∃ n1,n1=xs.length:=⟨_,rfl⟩
    rw [← hn1] at hcell hdat
    have hT:=KAe hS.rep hS.bl hm hv hst (by omega) hOp hn1 he3 PA pc (Rd.of_own hdat)
    have hgl:g<wr.heap.size:=(own_mem hown (g:=g) (by simp [Value.ownBlock])).2
    have hsq:=hst.seq
    clear hown hrow hpv hfl hops he3 hdat hn1 hepk
    go_wp2_with (first
     | (go_at_call 12
        refine hT.mono ?_
        clear hT
        rintro en w2 ⟨UA,uc,Fs',Fx',S',rfl,hu,hr2,hst2,hv2,hk2,hg2⟩
        have hS2:=hS.took hr2 hk2 hg2
        have hR2:=hR.turn hk2 (fun y hy=>List.mem_cons_of_mem _ hy) (F':=q :: YL r Fs' Fx') (fun y hy=>by
         rcases List.mem_cons.1 hy with rfl | hy
         · exact .inl List.mem_cons_self
         · exact (hg2 y hy).imp (List.mem_cons_of_mem _) id)
        have e1:=hst2.seq
        have e2:=hst2.done
        have e3:=hst2.epoch
        have e4:=hst2.good.epoch
        rw [Zh] at e1
        have hdn:=Jd 12 (sOp zs) (k+i)
        have hdn2:=(Jd 12 (sOp zs) (k+i+1)).1
        have hTk:=QAW decodeWord w0 w2 q 1 n ep len (k+i) (idl 12 (sOp zs) (k+i)).done L os hS2.src UA uc (k+i+1) S'.st.epoch (idl 12 (sOp zs) (k+i+1)).done (by rw [hv2,e1,e2] at hu;exact Rd.of_own hu) (by omega) (by omega) (by omega) (by omega)
        rw [show max (idl 12 (sOp zs) (k+i)).done (idl 12 (sOp zs) (k+i+1)).done=(idl 12 (sOp zs) (k+i+1)).done by omega,show max (idl 12 (sOp zs) (k+i+1)).done (k+i+1)=k+i+1 by omega] at hTk
        have HD:=JC hdn
        have HS2:=JC hst2
        have HV2:=JC hv2
        clear e1 e2 e3 e4 hdn hdn2 hst2 hv2)
     | (go_at_call 82
        refine hTk.mono ?_
        clear hTk
        rintro en w3 ⟨L',rfl,hS3,hk3,hL3⟩))
    go_roundw
    case rel=>
     refine ⟨i+1,Fs',Fx',S',L',_,by omega,by go_num,by rw [← Nat.add_assoc];exact hS2.told hS3 hk3 hL3,JC ⟨?_,by rw [← Nat.add_assoc];exact JA HS2,JA HV2⟩,hR2.turn hk3 (fun y hy=>by simp at hy;simp [hy]) (fun y hy => .inl hy)⟩
     rw [← Nat.add_assoc,List.map_drop,hos,List.drop_drop]
     congr 1
     have:=(JA HD).2
     omega
    case measure=>simp [intOf];omega
  · obtain rfl:i=mo:=by omega
    obtain ⟨hos,hst,hv⟩:=JA H
    go_wp2_with fail
    go_ret
    exact ⟨rfl,Fs,Fx,S,L,os,hS,hos,hst,hv⟩
end
end Go.Proofs.YtmoagodllhdemaaGreat
