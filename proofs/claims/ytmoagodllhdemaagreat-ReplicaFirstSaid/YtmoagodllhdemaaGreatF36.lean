/-
  A part of the proof: lemmas, and contracts of functions; their conditions stand in them.
-/
import Derived.Test.YtmoagodllhdemaaGreatF35
import Derived.Test.YtmoagodllhdemaaGreatF09
import Derived.Test.YtmoagodllhdemaaGreatF33
import Derived.Test.YtmoagodllhdemaaGreatF29
import Derived.Test.YtmoagodllhdemaaGreatF25
import Derived.Test.YtmoagodllhdemaaGreatF32
import Derived.Test.YtmoagodllhdemaaGreatF02
import Derived.Test.YtmoagodllhdemaaGreatF01
namespace Go.Proofs.YtmoagodllhdemaaGreat
set_option linter.unusedSimpArgs false
set_option linter.unusedVariables false
set_option maxHeartbeats 4000000
set_option maxRecDepth 20000
section
open Go.RowKit Go.Shelf
theorem Zv (A:Option Addr) (n cp:Nat) (bs:List UInt8) (w:World) (ha:Rd w A n (bys bs)) (hn:25≤n) (hn2:n≤65536) (hno:¬ ((QI bs).May∧(QI bs).bytes=bs)) :
 Calls Tryz.prog 43 #[.slice A n cp] w fun e w'=>e = .returned (.tuple #[.agg #[.int .i64 0,.int .i64 0,.int .i64 0,.int .i64 0,.int .i64 0,.int .i64 0,.int .i64 0,.slice none 0 0],.int .i64 2])∧Keep [] w w':=by
 refine (Yn A n cp bs w ha hn hn2).mono ?_
 rintro e w' ⟨hk,⟨h1,h2,_⟩ | ⟨_,rfl⟩⟩
 · exact absurd ⟨h1,h2⟩ hno
 · exact ⟨rfl,hk⟩
theorem Jt (r:Nat) (A:Option Addr) (n cp:Nat) (w:World) (hD:Calls Tryz.prog 43 #[.slice A n cp] w fun e w'=>e = .returned (.tuple #[.agg #[.int .i64 0,.int .i64 0,.int .i64 0,.int .i64 0,.int .i64 0,.int .i64 0,.int .i64 0,.slice none 0 0],.int .i64 2])∧Keep [] w w') :
 Calls Tryz.prog 12 #[.pointer (some ⟨r,0,none⟩),.slice A n cp] w fun e w'=>e = .returned (.tuple #[.slice none 0 0,.int .i64 2])∧Keep [] w w':=by
 go_enter Tryz.func12,Tryz.ntmps12
 go_wp2_with (refine hD.mono ?_;clear hD;rintro e w1 ⟨rfl,hk⟩)
 go_ret2
 exact ⟨rfl,hk.alloc _⟩
theorem KAO (w:World) (base r s d x:Nat) (Fs Fx:List Nat) (B:Nat) (R:RS) (h:ReplicaIs w base r s d x Fs Fx B R) (v k b c e m fs:Nat) (xs:List UInt8) (A:Option Addr) (cp:Nat)
 (ha:Rd w A (25+m) (bys (YE k v fs b c e 0 xs))) (ho:OpMay k b c e m) (hlen:xs.length=m) (hfor:b+max c 1≤B∨k=3) (hfs:1≤fs∧fs≤2147483647) (hv:1≤v∧v≤2147483647) (hne:v≠R.S.st.view) :
 Calls Tryz.prog 12 #[.pointer (some ⟨r,0,none⟩),.slice A (25+m) cp] w fun e w'=>e = .returned (.tuple #[.slice none 0 0,.int .i64 8])∧Keep [] w w':=by
 have hfr:FrMay k v fs b c e 0 xs:=ho.fr hv hfs hlen
 have hD:=XX k v fs b c e 0 xs hfr A (25+m) cp w ha
 have hR:=fun W (hk:Keep [] w W)=>readyR_ok W base r s d x Fs Fx B R (h.keep0 hk)
 have hSt:∀ UA uc W,Keep [] w W→Calls Tryz.prog 53 #[.pointer (some ⟨r,0,none⟩),.agg #[.int .i64 k,.int .i64 v,.int .i64 fs,.int .i64 b,.int .i64 c,.int .i64 e,.int .i64 (0:Nat),.slice UA m uc]] W fun e w'=>e = .returned (.bool false)∧Keep [] W w':=fun UA uc W hk=>by
  rcases hfor with hb | rfl
  · rcases ho with ⟨h1,_⟩ | ⟨h1,_⟩ | ⟨h1,h2,h3,h4⟩
    · exact XU W base r s d x Fs Fx B R (h.keep0 hk) k v fs b c e 0 _ (by omega) hb UA m uc rfl
    · exact XU W base r s d x Fs Fx B R (h.keep0 hk) k v fs b c e 0 _ (by omega) hb UA m uc rfl
    · subst h1
      exact YX W r v fs b c e 0 UA m uc
  · exact YX W r v fs b c e 0 UA m uc
 have hSa:=fun W (hk:Keep [] w W)=>KL W base s d Fs B R.S (h.keep0 hk).st
 have hcl:=fun W (hk:Keep [] w W)=>(h.keep0 hk).cells
 rw [hlen] at hD
 have hk9:¬ ((k:Nat):Int)=9:=by have:=ho;rcases this with ⟨h,_⟩ | ⟨h,_⟩ | ⟨h,_⟩ <;> omega
 have hk9b:(((k:Nat):Int) == 9)=false:=by simpa using hk9
 clear h ha hfr hfor
 have HO:=XC ho
 clear ho
 generalize R.S.st=st at *
 obtain ⟨mode,view,epoch,seq,done,mount,gen⟩:=st
 simp only at hD hSt hSa hne
 have hvv:¬ ((v:Nat):Int)=(view:Nat):=by omega
 have hvb:(((v:Nat):Int) == (view:Nat))=false:=by simpa using hvv
 have hfd:=fun (a0 a1 a2 a3 a4 a5 a6 a7 a8 a9:Value) W=>YF (P:=Tryz.prog) Tryz.underlying51 1 rfl Tryz.isAgg3 #[a0,a1,a2,a3,a4,a5,a6,a7,a8,a9] rfl W
 go_enter Tryz.func12,Tryz.ntmps12
 go_wp2_with (first
  | (go_at_call 43
     refine hD.mono ?_
     clear hD
     rintro e1 w1 ⟨UA,uc,rfl,hu,hk1⟩
     have hbF:=Blk.new w1 85 #[.int .i64 k,.int .i64 v,.int .i64 fs,.int .i64 b,.int .i64 c,.int .i64 e,.int .i64 (0:Nat),.slice UA m uc]
     have hkA:Keep [] w (w1.alloc (.cells #[.int .i64 k,.int .i64 v,.int .i64 fs,.int .i64 b,.int .i64 c,.int .i64 e,.int .i64 (0:Nat),.slice UA m uc] 85)):=hk1.alloc _)
  | (go_at_call 52
     refine (hR _ hkA).mono ?_
     clear hR
     rintro e2 w2 ⟨rfl,hk2⟩
     replace hbF:=hbF.keep0 hk2
     replace hkA:=hkA.trans0 hk2
     obtain ⟨f0,f1,f2,f3,f4,f5,f6,f7⟩:=JB hbF)
  | (go_at_call 53
     refine (hSt _ _ _ hkA).mono ?_
     clear hSt
     rintro e3 w3 ⟨rfl,hk3⟩
     replace hbF:=hbF.keep0 hk3
     replace hkA:=hkA.trans0 hk3
     obtain ⟨f0,f1,f2,f3,f4,f5,f6,f7⟩:=JB hbF))
 have r0:=(hcl _ hkA).1
 refine JA (fun w'=>w'.cell? ⟨w1.heap.size,1,none⟩=some (.int .i64 (v:Nat))∧w'.cell? ⟨r,0,none⟩=some (.pointer (some ⟨s,0,none⟩))) 8 [(0,false),(1,false),(2,false),(3,false),(4,false),(5,false),(6,true),(7,false)]
  (by kernel_rfl) (by kernel_rfl) (fun _ _ d _ _ h=>by cases d <;> exact h) ⟨f1,r0⟩ ?_
 simp only [PI]
 iterate 6 (refine QB ?_ (by rfl) ?_ ?_;rotate_left;(focus (rintro W ⟨hW0,hW1⟩;go_simp;try with_reducible rfl));simp only [Act.put,PU])
 refine VB (by rfl) (fun K hK=>?_)
 go_wp2_with (
  refine (hSa _ hkA.drew).mono ?_
  clear hSa
  rintro e4 w4 ⟨rfl,hk4⟩
  have hkB:=hkA.drew.trans0 hk4
  have hbB:=hbF.drew.keep0 hk4)
 refine hK _ _ (⟨(JB hbB).2.1,(hcl _ hkB).1⟩) ?_
 clear hK K
 try simp only [Act.put,PU]
 iterate 1 (refine QB ?_ (by rfl) ?_ ?_;rotate_left;(focus (rintro W ⟨hW0,hW1⟩;go_simp;try with_reducible rfl));simp only [Act.put,PU])
 refine QC ?_
 go_wp2
 go_ret2
 exact ⟨rfl,hkB⟩
theorem YY {sl:List PSlot} {i:Nat} (hi:i<sl.length) (h:(sl.getD i PSlot.none_).is=false) (q:PSlot) (hq:q.is=true):KD (sl.set i q)=KD sl+1:=by
 unfold KD
 have hg:sl[i].is=false:=by simpa [List.getD_eq_getElem?_getD,hi] using h
 have:=List.countP_set (p:=(·.is)) (l:=sl) (i:=i) (a:=q) hi
 rw [this,if_neg (by simp [hg]),if_pos hq]
 rfl
section
variable (w:World) (base r s d x:Nat) (Fs Fx:List Nat) (B:Nat) (R:RS) (h:ReplicaIs w base r s d x Fs Fx B R) (hbase:base≤w.heap.size) (k b c e m fs:Nat) (xs:List UInt8) (A:Option Addr) (cp:Nat)
 (ha:Rd w A (25+m) (bys (YE k R.S.st.view fs b c e 0 xs))) (ho:OpMay k b c e m) (hlen:xs.length=m) (hfor:b+max c 1≤B∨k=3) (hfs:1≤fs∧fs≤2147483647)
include h hbase ha ho hlen hfor hfs
theorem Qy (hn:R.next+R.sl.length≤fs):Calls Tryz.prog 12 #[.pointer (some ⟨r,0,none⟩),.slice A (25+m) cp] w fun e w'=>e = .returned (.tuple #[.slice none 0 0,.int .i64 10])∧Keep [] w w':=by
 refine VAd w base r s d x Fs Fx B R h hbase k b c e m fs xs A cp ha ho hlen hfor hfs _ ?_
 intro w5 UA uc hk hu
 obtain ⟨L,hw⟩:=h.win
 refine (JAe w5 base x L Fx R.next R.sl (hw.keep0 hk) fs hn hfs.2 k b c e UA m uc).mono ?_
 rintro e5 w6 ⟨rfl,hk6⟩
 exact .inr (.inr ⟨rfl,rfl,hk.trans0 hk6⟩)
theorem Jw (hn:fs<R.next) (hs:R.S.st.seq≤2147483647) (he:R.S.st.epoch≤2147483647) (hd:R.S.st.done≤R.S.st.seq):Calls Tryz.prog 12 #[.pointer (some ⟨r,0,none⟩),.slice A (25+m) cp] w fun e w'=>
 ∃ u,e = .returned (.tuple #[u,.int .i64 9])∧w'.ownsRow w.heap.size 5 1 u 25 (bys (YE 8 R.S.st.view R.S.st.seq 0 0 R.S.st.epoch R.S.st.done []))∧Keep [] w w':=by
 refine VAd w base r s d x Fs Fx B R h hbase k b c e m fs xs A cp ha ho hlen hfor hfs _ ?_
 intro w5 UA uc hk hu
 obtain ⟨L,hw⟩:=h.win
 refine (JAi w5 base x L Fx R.next R.sl (hw.keep0 hk) fs hn k b c e UA m uc).mono ?_
 rintro e5 w6 ⟨rfl,hk6⟩
 refine .inr (.inl ⟨rfl,?_⟩)
 refine (Kb w6 base r s d x Fs Fx B R (h.keep0 (hk.trans0 hk6)) hs he hd).mono ?_
 rintro e7 w7 ⟨u,rfl,hu7,hk7⟩
 have hkk:=(hk.trans0 hk6)
 obtain ⟨A7,c7,rfl,_⟩:=ZB hu7
 exact ⟨A7,_,c7,rfl,_,rfl,YC hu7 hkk.size,hkk.trans0 hk7⟩
theorem JAF (kk j:Nat) (hg:Good B R.S kk j) (hk:kk+KD R.sl≤49) (hj:j≤10000) (hnx:R.next≤1000000) (hop:∀ q∈R.sl,q.is=true→VP B q.o) (hn1:R.next≤fs) (hn2:fs<R.next+R.sl.length) (hq:(R.sl.getD (fs % R.sl.length) PSlot.none_).is=false) (hof:VP B ⟨k,b,c,e,xs⟩) :
 Calls Tryz.prog 12 #[.pointer (some ⟨r,0,none⟩),.slice A (25+m) cp] w fun en w'=>
  ∃ v,VAk w base r s d x Fs Fx B ⟨R.S,R.next,R.sl.set (fs % R.sl.length) ⟨v,⟨k,b,c,e,xs⟩,true⟩⟩ kk j en w':=by
 refine VAd w base r s d x Fs Fx B R h hbase k b c e m fs xs A cp ha ho hlen hfor hfs _ ?_
 intro w5 UA uc hk5 hu
 obtain ⟨L,hw⟩:=h.win
 have hi:fs % R.sl.length<R.sl.length:=Nat.mod_lt _ hw.pos
 subst hlen
 have hu5:=YC hu hbase
 refine (ZAn w5 base x L Fx R.next R.sl (hw.keep0 hk5) fs hn1 hn2 hfs.2 hq k b c e UA uc xs hu5).mono ?_
 rintro e5 w6 ⟨rfl,F',hw6,hk6,hF'⟩
 refine .inl ⟨rfl,?_⟩
 have hfresh:∀ z∈(Value.slice UA xs.length uc).ownBlock.toList,w.heap.size≤z:=fun z hz=>(own_mem hu hz).1
 have hr6:=(h.keep0 hk5).setWin ⟨L,hw6⟩ hk6 (fun y hy=>by
  rcases hF' y hy with h1 | h1
  · exact .inl h1
  · refine .inr ⟨fun hm=>?_,?_⟩
    · have:=hfresh y h1;have:=h.st.lt y hm;omega
    · have:=hfresh y h1;have:=h.blk.lt;omega)
 have hpr:=YY hi hq ⟨.slice UA xs.length uc,⟨k,b,c,e,xs⟩,true⟩ rfl
 have hkk:Keep (JN r Fs Fx) w w6:=hk5.zero.trans hk6 (fun y hy => .inl (by simp [JN,hy]))
 refine (KAx w6 base r s d x Fs F' B _ hr6 kk j hg (by simp only [hpr];omega) hj hnx ?_).mono ?_
 · intro q hq' hqi
   rcases List.mem_or_eq_of_mem_set hq' with hq' | rfl
   · exact hop q hq' hqi
   · exact hof
 · rintro e7 w7 ⟨Fs7,Fx7,R7,er,h1,h2,h3,h4,h5,h6,h7⟩
   have hsz6:=hkk.size
   have hg6:Grow w (JN r Fs Fx) (JN r Fs F'):=by
    intro y hy
    simp only [JN,List.mem_cons,List.mem_append] at hy ⊢
    rcases hy with hy | hy | hy
    · exact .inl (.inl hy)
    · exact .inl (.inr (.inl hy))
    · rcases hF' y hy with h8 | h8
      · exact .inl (.inr (.inr h8))
      · exact .inr (hfresh y h8)
   have hk7:Keep (JN r Fs Fx) w w7:=hkk.trans h5 hg6
   have hg7:Grow w (JN r Fs Fx) (JN r Fs7 Fx7):=fun y hy=>by
    rcases h6 y hy with h8 | h8
    · exact hg6 y h8
    · exact .inr (by omega)
   rcases h7 with ⟨rfl,u,rfl,hu7⟩ | ⟨rfl,rfl⟩
   · obtain ⟨A7,c7,rfl,_⟩:=ZB hu7
     exact ⟨A7,_,c7,_,rfl,_,Fs7,Fx7,R7,0,h1,h2,h3,h4,hk7,hg7,.inl ⟨rfl,_,rfl,YC hu7 hsz6⟩⟩
   · exact ⟨none,0,0,_,rfl,_,Fs7,Fx7,R7,1,h1,h2,h3,h4,hk7,hg7,.inr ⟨rfl,rfl⟩⟩
end
theorem QAk (m:Nat) (h1:1≤m) (h2:m≤16) (w:World):Calls Tryz.prog 10 #[.pointer none,.int .i64 (m:Nat)] w fun e w'=>e = .returned (.pointer none)∧Keep [] w w':=by
 have hS:=KAL w
 have hW:∀ W,Calls Tryz.prog 51 #[.int .i64 (m:Nat),.int .i64 1] W _:=fun W=>Jv m 1 h1 h2 (by omega) W
 have hfd:=fun W=>YF (P:=Tryz.prog) Tryz.underlying51 3 rfl Tryz.isAgg3 #[.int .i64 0,.int .i64 0,.int .i64 0,.int .i64 0,.int .i64 0,.int .i64 0,.int .i64 0,.int .i64 0,.int .i64 0,.int .i64 0] rfl W
 go_enter Tryz.func10,Tryz.ntmps10
 go_wp2_with (first
  | (go_at_call 17;refine hS.mono ?_;clear hS;rintro e w1 ⟨rfl,hk1⟩)
  | (go_at_call 51;refine (hW _).mono ?_;clear hW;rintro e w2 ⟨x,rfl,F,hF,hk2⟩))
 go_ret
 exact ⟨rfl,hk1.trans0 hk2⟩
theorem WinIs.down {w:World} {b1 b2 x next:Nat} {L:Value} {F:List Nat} {sl:List PSlot} (h:WinIs w b2 x L F next sl) (hb:b1≤b2):WinIs w b1 x L F next sl:=
 ⟨h.blk,YC h.row hb,fun q hq=>YC (h.dat q hq) hb,h.foot,Nat.le_trans hb h.base,h.pos,h.few,h.zero,h.nb⟩
section
variable (w:World) (base s d:Nat) (Fs:List Nat) (B:Nat) (S:PS) (h:StoreAt w base s d Fs B S) (hs:S.st.seq≤1000000)
include h hs
theorem ZAQ (m:Int) (hm:m<1∨16<m):Calls Tryz.prog 10 #[.pointer (some ⟨s,0,none⟩),.int .i64 m] w fun e w'=>e = .returned (.pointer none)∧Keep [] w w':=by
 have hS:=KL w base s d Fs B S h
 generalize S.st=st at *
 obtain ⟨mode,view,epoch,seq,done,mount,gen⟩:=st
 simp only at hS hs
 have hW:=fun W=>JAT m (seq+1) hm W
 rw [Int.natCast_add] at hW
 have hfd:=fun (a0 a1 a2 a3 a4 a5 a6 a7 a8 a9:Value) W=>YF (P:=Tryz.prog) Tryz.underlying51 3 rfl Tryz.isAgg3 #[a0,a1,a2,a3,a4,a5,a6,a7,a8,a9] rfl W
 go_enter Tryz.func10,Tryz.ntmps10
 go_wp2_with (first
  | (go_at_call 17;refine hS.mono ?_;clear hS;rintro e w1 ⟨rfl,hk1⟩)
  | (go_at_call 51;refine (hW _).mono ?_;clear hW;rintro e w2 ⟨rfl,rfl⟩))
 go_ret
 exact ⟨rfl,hk1⟩
theorem JAQ (m:Nat) (h1:1≤m) (h2:m≤16) (hmode:S.st.mode=1) (hview:1≤S.st.view∧S.st.view≤2147483647) (hbase:base≤w.heap.size) :
 Calls Tryz.prog 10 #[.pointer (some ⟨s,0,none⟩),.int .i64 (m:Nat)] w fun e w'=>∃ r x Fx,e = .returned (.pointer (some ⟨r,0,none⟩))∧ReplicaIs w' base r s d x Fs Fx B ⟨S,S.st.seq+1,YD m⟩∧Keep [] w w'∧(∀ y∈JN r Fs Fx,y∈Fs∨w.heap.size≤y):=by
 have hS:=KL w base s d Fs B S h
 have hres:∀ w2 x F r,Keep [] w w2→WinAt w2 w.heap.size x F (S.st.seq+1) (YD m)→r=w2.heap.size→ReplicaIs (w2.alloc (.cells #[.pointer (some ⟨s,0,none⟩),.pointer (some ⟨x,0,none⟩)] 104)) base r s d x Fs F B ⟨S,S.st.seq+1,YD m⟩∧(∀ y∈JN r Fs F,y∈Fs∨w.heap.size≤y):=by
  intro w2 x F r hk hw hr
  subst hr
  have hka:=(Keep.refl [] w2).alloc (.cells #[.pointer (some ⟨s,0,none⟩),.pointer (some ⟨x,0,none⟩)] 104)
  obtain ⟨L,hL⟩:=hw
  have hge:=hL.ge
  have hlt:=hL.lt
  refine ⟨⟨Blk.new _ _ _,h.keep0 (hk.trans0 hka),⟨L,(hL.down hbase).keep0 hka⟩,fun y hy hm=>?_,fun hm=>?_,fun hm=>?_,?_,hmode,hview⟩,?_⟩
  · have:=h.lt y hy;have:=hge y hm;omega
  · have:=h.lt _ hm;have:=hk.size;omega
  · have:=hlt _ hm;omega
  · have:=hk.size;omega
  · intro y hy
    simp only [JN,List.mem_cons,List.mem_append] at hy
    rcases hy with hy | hy | hy
    · exact .inr (by have:=hk.size;omega)
    · exact .inl hy
    · exact .inr (hge y hy)
 generalize hst:S.st=st at *
 obtain ⟨mode,view,epoch,seq,done,mount,gen⟩:=st
 simp only at hS hs hres hmode ⊢
 have hW:=fun W=>Jv m (seq+1) h1 h2 (by omega) W
 rw [Int.natCast_add] at hW
 have hfd:=fun (a0 a1 a2 a3 a4 a5 a6 a7 a8 a9:Value) W=>YF (P:=Tryz.prog) Tryz.underlying51 3 rfl Tryz.isAgg3 #[a0,a1,a2,a3,a4,a5,a6,a7,a8,a9] rfl W
 go_enter Tryz.func10,Tryz.ntmps10
 go_wp2_with (first
  | (go_at_call 17;refine hS.mono ?_;clear hS;rintro e w1 ⟨rfl,hk1⟩)
  | (go_at_call 51;refine (hW _).mono ?_;clear hW;rintro e w2 ⟨x,rfl,F,hF,hk2⟩))
 go_ret
 have hkk:=hk1.trans0 hk2
 obtain ⟨L,hL⟩:=hF
 obtain ⟨q1,q2⟩:=hres w2 x F _ hkk ⟨L,hL.down hk1.size⟩ rfl
 exact ⟨_,x,F,rfl,q1,hkk.alloc _,q2⟩
end
section
variable (w:World) (base r s d x:Nat) (Fs Fx:List Nat) (B:Nat) (R:RS) (h:ReplicaIs w base r s d x Fs Fx B R)
include h
theorem NextR_is:Calls Tryz.prog 27 #[.pointer (some ⟨r,0,none⟩)] w fun e w'=>e = .returned (.int .i64 (R.next:Nat))∧w=w':=by
 obtain ⟨c0,c1⟩:=h.cells
 have hN:Calls Tryz.prog 74 #[.pointer (some ⟨x,0,none⟩)] w fun e w'=>e = .returned (.int .i64 (R.next:Nat))∧w=w':=by
  obtain ⟨L,hw⟩:=h.win
  exact NextW_is w base x L Fx R.next R.sl hw
 go_enter Tryz.func27,Tryz.ntmps27
 go_wp2_with (refine hN.mono ?_;clear hN;rintro e w' ⟨rfl,rfl⟩)
 go_ret
 exact ⟨rfl,rfl⟩
theorem WaitingR_is:Calls Tryz.prog 23 #[.pointer (some ⟨r,0,none⟩)] w fun e w'=>e = .returned (.int .i64 (cyc R.next R.sl R.sl.length:Nat))∧Keep [] w w':=by
 obtain ⟨c0,c1⟩:=h.cells
 have hN:Calls Tryz.prog 70 #[.pointer (some ⟨x,0,none⟩)] w fun e w'=>e = .returned (.int .i64 (cyc R.next R.sl R.sl.length:Nat))∧Keep [] w w':=by
  obtain ⟨L,hw⟩:=h.win
  exact QAn w base x R.next L Fx R.sl hw
 go_enter Tryz.func23,Tryz.ntmps23
 go_wp2_with (refine hN.mono ?_;clear hN;rintro e w' ⟨rfl,hk⟩)
 go_ret
 exact ⟨rfl,hk⟩
end
theorem QAN (w:World):Calls Tryz.prog 21 #[.pointer none] w fun e w'=>e = .returned (.tuple #[.slice none 0 0,.int .i64 3])∧w=w':=by
 have hR:=ZAK w
 go_enter Tryz.func21,Tryz.ntmps21
 go_wp2_with (refine hR.mono ?_;clear hR;rintro e w' ⟨rfl,rfl⟩)
 go_ret2
 exact ⟨rfl,rfl⟩
end
section
open Go.RowKit Go.Shelf
theorem Vp (A:Option Addr) (n c:Nat) (xs:List Int) (w:World) (ha:Rd w A n (XS xs)) (hn:n≤1000000) :
 Calls Tryz.prog 181 #[.slice A n c] w fun e w'=>∃ v,e = .returned v∧w'.ownsRow w.heap.size 3 1 v n (XS xs)∧Keep [] w w':=by
 have heq:=fun (W:World)=>Lib.run_eql_slice_nil (P:=Tryz.prog) W 75 3 A n c 0 0 Tryz.underlying75
 rcases A with _ | ad
 · obtain rfl:n=0:=by
    rcases Nat.eq_zero_or_pos n with e | e
    · exact e
    · obtain ⟨b,o,h,_⟩:=ha.2 e
      cases h
   obtain rfl:xs=[]:=List.eq_nil_of_length_eq_zero (by simpa using ha.1)
   go_enter Tryz.func181,Tryz.ntmps181
   go_wp2
   go_ret
   exact ⟨_,rfl,World.ownsRow_nil _ _ _ _,Keep.refl _ _⟩
 · have hr:=ha.keep ((Keep.refl _ w).alloc (.cells #[] 3))
   have ho:(w.alloc (.cells #[] 3)).ownsRow w.heap.size 3 1 (.slice (some ⟨w.heap.size,0,none⟩) 0 0) 0 []:=VM (Blk.new w 3 #[]) (Nat.le_refl _) (by omega) rfl rfl
   go_enter Tryz.func181,Tryz.ntmps181
   go_wp2_with (at_builtin;refine elemInts.wp_app rfl _ _ rfl w.heap.size _ 0 [] rfl ho (some ad) n c (XS xs) rfl hr (ZAe _) (by omega) (by omega) (by simp) ?_)
   intro v' w' hown hk _ _
   go_wp2
   go_ret
   exact ⟨_,rfl,by simpa using hown,((Keep.refl _ w).alloc _).trans hk (by simp [Value.ownBlock])⟩
theorem Vk (l:List Nat):QP l=XS (l.map (fun (x:Nat)=>(x:Int))):=by simp [QP,XS,i64]
theorem ZAu (w:World) (d t m p g slot P:Nat) (r:PReg) (BA:Option Addr) (bc:Nat) (bz:List Nat) (OA:Option Addr) (oc:Nat) (oz:List Nat) (SA:Option Addr) (sn sc:Nat) (hb:Rd w BA P (QP bz)) (ho:Rd w OA P (QP oz)) (hP:P≤1000) (st:PSt) :
 Calls Tryz.prog 105 #[.pointer (some ⟨d,0,none⟩),.pointer (some ⟨t,0,none⟩),.pointer (some ⟨m,0,none⟩),.pointer (some ⟨p,0,none⟩),.pointer (some ⟨g,0,none⟩),.int .i64 (slot:Nat),
  .agg (r.cs (.slice BA P bc) (.slice OA P oc) (.slice SA sn sc)).toArray,.agg #[.int .i64 st.mode,.int .i64 st.view,.int .i64 st.epoch,.int .i64 st.seq,.int .i64 st.done,.int .i64 st.mount,.int .i64 st.gen,.int .i64 0,.int .i64 0,.int .i64 0]] w
  fun e w'=>∃ s L0 L1,e = .returned (.pointer (some ⟨s,0,none⟩))∧w.heap.size≤s ∧
   Blk w' s 119 #[.pointer (some ⟨d,0,none⟩),.pointer (some ⟨g,0,none⟩),.pointer (some ⟨t,0,none⟩),.pointer (some ⟨m,0,none⟩),.pointer (some ⟨p,0,none⟩),
    .int .i64 st.mode,.int .i64 st.view,.int .i64 st.epoch,.int .i64 st.seq,.int .i64 st.done,.int .i64 st.mount,.int .i64 st.gen,.int .i64 0,.int .i64 0,.int .i64 0,.int .i64 slot,L0,L1] ∧
   w'.ownsRow w.heap.size 3 1 L0 P (QP bz)∧w'.ownsRow w.heap.size 3 1 L1 P (QP oz)∧Keep [] w w':=by
 obtain ⟨gen,view,mode,epoch,seq,done,⟨seg,off,lsn,prev,mount⟩⟩:=r
 obtain ⟨smode,sview,sepoch,sseq,sdone,smount,sgen⟩:=st
 simp only [PReg.cs,PPos.cs,List.cons_append,List.nil_append] at *
 rw [Vk] at hb ho
 rw [Vk,Vk]
 obtain ⟨wA,hwA⟩:∃ wA,wA=(w.alloc (.cells #[.int .i64 gen,.int .i64 view,.int .i64 mode,.int .i64 epoch,.int .i64 seq,.int .i64 done,.int .i64 seg,.int .i64 off,.int .i64 lsn,.int .i64 prev,.int .i64 mount,.slice BA P bc,.slice OA P oc,.slice SA sn sc] 173)).alloc (.cells #[.int .i64 smode,.int .i64 sview,.int .i64 sepoch,.int .i64 sseq,.int .i64 sdone,.int .i64 smount,.int .i64 sgen,.int .i64 0,.int .i64 0,.int .i64 0] 51):=⟨_,rfl⟩
 have hkA:Keep [] w wA:=by rw [hwA];exact ((Keep.refl _ _).alloc _).alloc _
 have hbR:Blk wA w.heap.size 173 #[.int .i64 gen,.int .i64 view,.int .i64 mode,.int .i64 epoch,.int .i64 seq,.int .i64 done,.int .i64 seg,.int .i64 off,.int .i64 lsn,.int .i64 prev,.int .i64 mount,.slice BA P bc,.slice OA P oc,.slice SA sn sc]:=by
  rw [hwA];exact (Blk.new w _ _).keep0 ((Keep.refl _ _).alloc _)
 have hbS:Blk wA (w.heap.size+1) 51 #[.int .i64 smode,.int .i64 sview,.int .i64 sepoch,.int .i64 sseq,.int .i64 sdone,.int .i64 smount,.int .i64 sgen,.int .i64 0,.int .i64 0,.int .i64 0]:=by
  rw [hwA]
  have:=Blk.new (w.alloc (.cells #[.int .i64 gen,.int .i64 view,.int .i64 mode,.int .i64 epoch,.int .i64 seq,.int .i64 done,.int .i64 seg,.int .i64 off,.int .i64 lsn,.int .i64 prev,.int .i64 mount,.slice BA P bc,.slice OA P oc,.slice SA sn sc] 173)) 51 #[.int .i64 smode,.int .i64 sview,.int .i64 sepoch,.int .i64 sseq,.int .i64 sdone,.int .i64 smount,.int .i64 sgen,.int .i64 0,.int .i64 0,.int .i64 0]
  rw [show ∀ o,(w.alloc o).heap.size=w.heap.size+1 from fun o=>by simp] at this
  exact this
 go_enter Tryz.func105,Tryz.ntmps105
 go_wp2_with fail
 rw [← hwA]
 clear hwA
 have hC0:=Vp BA P bc _ wA.drew (hb.keep hkA.drew) (by omega)
 refine JA (fun w'=>w'.cell? ⟨w.heap.size+1,0,none⟩=some (.int .i64 smode)∧w'.cell? ⟨w.heap.size+1,1,none⟩=some (.int .i64 sview)∧w'.cell? ⟨w.heap.size+1,2,none⟩=some (.int .i64 sepoch)∧w'.cell? ⟨w.heap.size+1,3,none⟩=some (.int .i64 sseq)∧w'.cell? ⟨w.heap.size+1,4,none⟩=some (.int .i64 sdone)∧w'.cell? ⟨w.heap.size+1,5,none⟩=some (.int .i64 smount)∧w'.cell? ⟨w.heap.size+1,6,none⟩=some (.int .i64 sgen)∧w'.cell? ⟨w.heap.size+1,7,none⟩=some (.int .i64 0)∧w'.cell? ⟨w.heap.size+1,8,none⟩=some (.int .i64 0)∧w'.cell? ⟨w.heap.size+1,9,none⟩=some (.int .i64 0)∧w'.cell? ⟨w.heap.size,11,none⟩=some (.slice BA P bc)∧w'.cell? ⟨w.heap.size,12,none⟩=some (.slice OA P oc)) 14 [(0,false),(1,false),(2,false),(3,false),(4,false),(5,false),(6,false),(7,false),(8,false),(10,false),(11,false),(9,true),(12,true),(13,false)]
  (by kernel_rfl) (by kernel_rfl) (fun _ _ d _ _ h=>by cases d <;> exact h) ⟨(by simpa using (hbS.drew).cell 0),(by simpa using (hbS.drew).cell 1),(by simpa using (hbS.drew).cell 2),(by simpa using (hbS.drew).cell 3),(by simpa using (hbS.drew).cell 4),(by simpa using (hbS.drew).cell 5),(by simpa using (hbS.drew).cell 6),(by simpa using (hbS.drew).cell 7),(by simpa using (hbS.drew).cell 8),(by simpa using (hbS.drew).cell 9),(by simpa using (hbR.drew).cell 11),(by simpa using (hbR.drew).cell 12)⟩ ?_
 simp only [PI]
 iterate 11 (refine QB ?_ (by rfl) ?_ ?_;rotate_left;(focus (rintro W ⟨hW0,hW1,hW2,hW3,hW4,hW5,hW6,hW7,hW8,hW9,hW10,hW11⟩;go_simp;try with_reducible rfl));simp only [Act.put,PU])
 refine VB (by rfl) (fun K hK=>?_)
 go_wp2_with (refine hC0.mono ?_;clear hC0;rintro e w1 ⟨v1,rfl,hv1,hk1⟩)
 have hkB:Keep [] wA w1:=(Keep.refl _ _).drew.trans0 hk1
 have hC1:=Vp OA P oc _ w1 (ho.keep (hkA.trans0 hkB)) (by omega)
 obtain ⟨VA1,vc1,rfl,_⟩:=ZB hv1
 refine hK _ _ (⟨(by simpa using (hbS.keep0 hkB).cell 0),(by simpa using (hbS.keep0 hkB).cell 1),(by simpa using (hbS.keep0 hkB).cell 2),(by simpa using (hbS.keep0 hkB).cell 3),(by simpa using (hbS.keep0 hkB).cell 4),(by simpa using (hbS.keep0 hkB).cell 5),(by simpa using (hbS.keep0 hkB).cell 6),(by simpa using (hbS.keep0 hkB).cell 7),(by simpa using (hbS.keep0 hkB).cell 8),(by simpa using (hbS.keep0 hkB).cell 9),(by simpa using (hbR.keep0 hkB).cell 11),(by simpa using (hbR.keep0 hkB).cell 12)⟩) ?_
 clear hK K
 try simp only [Act.put,PU]
 refine VB (by rfl) (fun K hK=>?_)
 go_wp2_with (refine hC1.mono ?_;clear hC1;rintro e w2 ⟨v2,rfl,hv2,hk2⟩)
 have hkC:Keep [] wA w2:=hkB.trans0 hk2
 obtain ⟨VA2,vc2,rfl,_⟩:=ZB hv2
 refine hK _ _ (⟨(by simpa using (hbS.keep0 hkC).cell 0),(by simpa using (hbS.keep0 hkC).cell 1),(by simpa using (hbS.keep0 hkC).cell 2),(by simpa using (hbS.keep0 hkC).cell 3),(by simpa using (hbS.keep0 hkC).cell 4),(by simpa using (hbS.keep0 hkC).cell 5),(by simpa using (hbS.keep0 hkC).cell 6),(by simpa using (hbS.keep0 hkC).cell 7),(by simpa using (hbS.keep0 hkC).cell 8),(by simpa using (hbS.keep0 hkC).cell 9),(by simpa using (hbR.keep0 hkC).cell 11),(by simpa using (hbR.keep0 hkC).cell 12)⟩) ?_
 clear hK K
 try simp only [Act.put,PU]
 iterate 1 (refine QB ?_ (by rfl) ?_ ?_;rotate_left;(focus (rintro W ⟨hW0,hW1,hW2,hW3,hW4,hW5,hW6,hW7,hW8,hW9,hW10,hW11⟩;go_simp;try with_reducible rfl));simp only [Act.put,PU])
 refine QC ?_
 have hv1':=YC (XB hv1 hk2) (show w.heap.size≤wA.drew.heap.size from hkA.size)
 have hv2':=YC hv2 (show w.heap.size≤w1.heap.size from Nat.le_trans hkA.size hkB.size)
 go_wp2_with fail
 go_ret
 refine ⟨_,_,_,rfl,Nat.le_trans hkA.size hkC.size,Blk.new _ _ _,XD hv1' _,XD hv2' _,(hkA.trans0 hkC).alloc _⟩
end
section
open Go.RowKit Go.Shelf
theorem VAB (k v s b c e d:Int) (A A':Option Addr) (n n' m m':Nat) (xs:List UInt8) (w:World) (ha:Rd w A n (bys xs)) (ha':Rd w A' n' (bys xs)) (hn:n≤1000000) :
 Calls Tryz.prog 72 #[.agg #[.int .i64 k,.int .i64 v,.int .i64 s,.int .i64 b,.int .i64 c,.int .i64 e,.int .i64 d,.slice A n m],.agg #[.int .i64 k,.int .i64 v,.int .i64 s,.int .i64 b,.int .i64 c,.int .i64 e,.int .i64 d,.slice A' n' m']] w fun r w'=>r = .returned (.bool true)∧Keep [] w w':=by
 have h1:xs.length=n:=by simpa using ha.1
 have h2:xs.length=n':=by simpa using ha'.1
 have hT:=fun W (hk:Keep [] w W)=>Jh A A' n n' m m' xs xs W (ha.keep hk) (ha'.keep hk) (by omega) (by omega)
 simp only [decide_true] at hT
 clear h1 h2
 go_enter Tryz.func72,Tryz.ntmps72
 go_wp2_with (refine (hT _ (((Keep.refl _ _).alloc _).alloc _)).mono ?_;clear hT;rintro e w' ⟨rfl,k,rfl⟩)
 go_ret
 exact ⟨rfl,(((Keep.refl _ _).alloc _).alloc _).drewN _⟩
theorem XAH (w:World) (base s d:Nat) (Fs:List Nat) (B:Nat) (S:PS) (h:StoreAt w base s d Fs B S) (A:Option Addr) (c:Nat) (ha:Rd w A 25 (bys (YE 8 S.st.view S.st.seq 0 0 S.st.epoch S.st.done [])))
 (hm:FrMay 8 S.st.view S.st.seq 0 0 S.st.epoch S.st.done []) :
 Calls Tryz.prog 25 #[.slice A 25 c,.pointer (some ⟨s,0,none⟩)] w fun e w'=>e = .returned (.bool true)∧Keep [] w w':=by
 have hD:=XX 8 S.st.view S.st.seq 0 0 S.st.epoch S.st.done [] hm A 25 c w ha
 have hS:=fun W (hk:Keep [] w W)=>KL W base s d Fs B S (h.keep0 hk)
 generalize S.st=st at *
 obtain ⟨mode,view,epoch,seq,done,mount,gen⟩:=st
 simp only at hD hS hm
 go_enter Tryz.func25,Tryz.ntmps25
 go_wp2_with (first
  | (go_at_call 43
     refine hD.mono ?_
     clear hD
     rintro e w1 ⟨UA,uc,rfl,hu,hk1⟩
     have hkA:=hk1.alloc (.cells #[.int .i64 ((8:Nat):Int),.int .i64 view,.int .i64 seq,.int .i64 ((0:Nat):Int),.int .i64 ((0:Nat):Int),.int .i64 epoch,.int .i64 done,.slice UA 0 uc] 85)
     have hS1:=hS _ hkA)
  | (go_at_call 17
     refine hS1.mono ?_
     clear hS1
     rintro e w2 ⟨rfl,hk2⟩
     have hkB:=hk2.alloc (.cells #[.int .i64 mode,.int .i64 view,.int .i64 epoch,.int .i64 seq,.int .i64 done,.int .i64 mount,.int .i64 gen,.int .i64 (JD S.us:Nat),.int .i64 (QAh S:Nat),.int .i64 (ZI S.I.ol:Nat)] 51)
     obtain ⟨f0,f1,f2,f3,f4,f5,f6,f7⟩:=JB ((Blk.new w1 85 #[.int .i64 ((8:Nat):Int),.int .i64 view,.int .i64 seq,.int .i64 ((0:Nat):Int),.int .i64 ((0:Nat):Int),.int .i64 epoch,.int .i64 done,.slice UA 0 uc]).keep0 hkB)
     have hT:∀ W,Calls Tryz.prog 72 #[.agg #[.int .i64 8,.int .i64 view,.int .i64 seq,.int .i64 0,.int .i64 0,.int .i64 epoch,.int .i64 done,.slice UA 0 uc],.agg #[.int .i64 8,.int .i64 view,.int .i64 seq,.int .i64 0,.int .i64 0,.int .i64 epoch,.int .i64 done,.slice none 0 0]] W fun r w'=>r = .returned (.bool true)∧Keep [] W w':=fun W=>VAB 8 view seq 0 0 epoch done UA none 0 0 uc 0 [] W (Rd.nil _ _) (Rd.nil _ _) (by omega))
  | (go_at_call 72
     refine (hT _).mono ?_
     clear hT
     rintro e w3 ⟨rfl,hk3⟩))
 go_ret
 exact ⟨rfl,(hkA.trans0 hkB).trans0 hk3⟩
end
section
open Go.RowKit Go.Shelf
def ORow (w:World) (base:Nat) (v:Value) (o:Option (List UInt8)):Prop:=(o=none∧v = .slice none 0 0)∨∃ xs,o=some xs∧xs.length=64∧w.ownsRow base 5 1 v 64 (bys xs)
theorem ORow.keep {w w':World} {base:Nat} {v:Value} {o:Option (List UInt8)} {l:List Nat} (h:ORow w base v o) (hk:Keep l w w') (hv:∀ g∈v.ownBlock.toList,g∉l):ORow w' base v o:=by
 rcases h with h | ⟨xs,h1,h2,h3⟩
 · exact .inl h
 · exact .inr ⟨xs,h1,h2,KA h3 hk (fun g hg=>hv g (by simp [hg]))⟩
theorem ORow.rd {w:World} {base:Nat} {v:Value} {xs:List UInt8} (h:ORow w base v (some xs)):∃ g c,v = .slice (some ⟨g,0,none⟩) 64 c∧Rd w (some ⟨g,0,none⟩) 64 (bys xs)∧xs.length=64∧64≤c:=by
 rcases h with ⟨h,_⟩ | ⟨ys,h1,h2,h3⟩
 · cases h
 · cases h1
   obtain ⟨g,c,rfl,hc⟩:=ZG h3 (by omega)
   exact ⟨g,c,rfl,Rd.of_own h3,h2,hc⟩
theorem ORow.nil {w:World} {base:Nat} {v:Value} (h:ORow w base v none):v = .slice none 0 0:=by
 rcases h with ⟨_,h⟩ | ⟨ys,h1,_⟩
 · exact h
 · cases h1
theorem ORow.lt {w:World} {base:Nat} {v:Value} {o:Option (List UInt8)} (h:ORow w base v o):∀ g∈v.ownBlock.toList,base≤g∧g<w.heap.size:=by
 rcases h with ⟨_,rfl⟩ | ⟨ys,_,_,h3⟩
 · intro g hg;simp [Value.ownBlock] at hg
 · exact fun g hg=>own_mem h3 hg
structure IdlIs (w:World) (base i:Nat) (bv ov:Value) (bs:List (Value×List UInt8)) (os:List (Value×Option (List UInt8))) (F:List Nat) (I:PIdl):Prop where
 blk:Blk w i 139 #[bv,ov,.int .i64 I.ep,.int .i64 I.seq,.int .i64 I.done]
 brow:w.ownsRow base 40 1 bv bs.length (bs.map (·.1))
 orow:w.ownsRow base 40 1 ov os.length (os.map (·.1))
 bdat:∀ q∈bs,ORow w base q.1 (some q.2)
 odat:∀ q∈os,ORow w base q.1 q.2
 bsnd:bs.map (·.2)=I.base
 osnd:os.map (·.2)=I.over
 ne:bv.ownBlock≠ov.ownBlock
 foot:F=i :: (bv.ownBlock.toList++(ov.ownBlock.toList++(bs.flatMap (fun q=>q.1.ownBlock.toList)++os.flatMap (fun q=>q.1.ownBlock.toList))))
 base:base≤i
def IdlAt (w:World) (base i:Nat) (F:List Nat) (I:PIdl):Prop:=∃ bv ov bs os,IdlIs w base i bv ov bs os F I
namespace IdlIs
variable {w w':World} {base i:Nat} {bv ov:Value} {bs:List (Value×List UInt8)} {os:List (Value×Option (List UInt8))} {F l:List Nat} {I:PIdl}
theorem inI (h:IdlIs w base i bv ov bs os F I):i∈F:=by rw [h.foot];simp
theorem inB (h:IdlIs w base i bv ov bs os F I):∀ x∈bv.ownBlock.toList,x∈F:=fun x hx=>by rw [h.foot];simp only [List.mem_cons,List.mem_append];exact .inr (.inl hx)
theorem inO (h:IdlIs w base i bv ov bs os F I):∀ x∈ov.ownBlock.toList,x∈F:=fun x hx=>by rw [h.foot];simp only [List.mem_cons,List.mem_append];exact .inr (.inr (.inl hx))
theorem inBs (h:IdlIs w base i bv ov bs os F I) {q:Value×List UInt8} (hq:q∈bs):∀ x∈q.1.ownBlock.toList,x∈F:=fun x hx=>by
 rw [h.foot];simp only [List.mem_cons,List.mem_append];exact .inr (.inr (.inr (.inl (List.mem_flatMap.2 ⟨q,hq,hx⟩))))
theorem inOs (h:IdlIs w base i bv ov bs os F I) {q:Value×Option (List UInt8)} (hq:q∈os):∀ x∈q.1.ownBlock.toList,x∈F:=fun x hx=>by
 rw [h.foot];simp only [List.mem_cons,List.mem_append];exact .inr (.inr (.inr (.inr (List.mem_flatMap.2 ⟨q,hq,hx⟩))))
theorem keep (h:IdlIs w base i bv ov bs os F I) (hk:Keep l w w') (ha:Apart F l):IdlIs w' base i bv ov bs os F I:=
 ⟨h.blk.keep hk (ha _ h.inI),KA h.brow hk (fun x hx=>ha _ (h.inB x (by simp [hx]))),KA h.orow hk (fun x hx=>ha _ (h.inO x (by simp [hx]))),fun q hq=>(h.bdat q hq).keep hk (fun x hx=>ha _ (h.inBs hq x hx)),
   fun q hq=>(h.odat q hq).keep hk (fun x hx=>ha _ (h.inOs hq x hx)),h.bsnd,h.osnd,h.ne,h.foot,h.base⟩
theorem keep0 (h:IdlIs w base i bv ov bs os F I) (hk:Keep [] w w'):IdlIs w' base i bv ov bs os F I:=h.keep hk Apart.nil_right
theorem mem (h:IdlIs w base i bv ov bs os F I) {x:Nat} (hx:x∈F):x=i∨x∈bv.ownBlock.toList∨x∈ov.ownBlock.toList∨(∃ q∈bs,x∈q.1.ownBlock.toList)∨∃ q∈os,x∈q.1.ownBlock.toList:=by
 rw [h.foot] at hx
 simpa only [List.mem_cons,List.mem_append,List.mem_flatMap] using hx
theorem lt (h:IdlIs w base i bv ov bs os F I):∀ x∈F,base≤x∧x<w.heap.size:=fun x hx=>by
 rcases h.mem hx with rfl | hx | hx | ⟨q,hq,hx⟩ | ⟨q,hq,hx⟩
 · exact ⟨h.base,h.blk.lt⟩
 · exact own_mem h.brow hx
 · exact own_mem h.orow hx
 · exact (h.bdat q hq).lt x hx
 · exact (h.odat q hq).lt x hx
theorem blen (h:IdlIs w base i bv ov bs os F I):bs.length=I.base.length:=by rw [← h.bsnd];simp
theorem olen (h:IdlIs w base i bv ov bs os F I):os.length=I.over.length:=by rw [← h.osnd];simp
theorem bget (h:IdlIs w base i bv ov bs os F I) {k:Nat} (hk:k<bs.length):I.base[k]? = some bs[k].2:=by rw [← h.bsnd,List.getElem?_map,List.getElem?_eq_getElem hk];rfl
theorem oget (h:IdlIs w base i bv ov bs os F I) {k:Nat} (hk:k<os.length):I.over[k]? = some os[k].2:=by rw [← h.osnd,List.getElem?_map,List.getElem?_eq_getElem hk];rfl
theorem iB (h:IdlIs w base i bv ov bs os F I):i∉bv.ownBlock.toList:=fun hm=>own_blk_ne h.brow h.blk (by decide) (by simpa using hm)
theorem iO (h:IdlIs w base i bv ov bs os F I):i∉ov.ownBlock.toList:=fun hm=>own_blk_ne h.orow h.blk (by decide) (by simpa using hm)
end IdlIs
end
section
open Go.RowKit
theorem KAd {α:Type} (l:List α) (b:Nat) (v:α):QS l b 0 v=l:=by
 apply List.ext_getElem?
 intro x
 rw [YU,if_neg (by omega)]
theorem ZAh {α:Type} (l:List α) (b m:Nat) (v:α) (h:b+m<l.length):QS l b (m+1) v=(QS l b m v).set (b+m) v:=by
 apply List.ext_getElem?
 intro x
 rw [YU,List.getElem?_set,YU,YR]
 by_cases e:b+m=x
 · subst e
   rw [if_pos rfl,if_pos h,if_pos (by omega)]
 · rw [if_neg e]
   by_cases hx:b≤x∧x<b+m∧x<l.length
   · rw [if_pos hx,if_pos (by omega)]
   · rw [if_neg hx,if_neg (by omega)]
def Jf (base:List (List UInt8)) (over:List (Option (List UInt8))) (m:Nat):List (List UInt8):=(XO base over).take m++base.drop m
def JT (over:List (Option (List UInt8))) (m:Nat):List (Option (List UInt8)):=List.replicate m none++over.drop m
section
variable {base:List (List UInt8)} {over:List (Option (List UInt8))} {m:Nat} (h:base.length=over.length) (hm:m≤over.length)
include h hm
theorem Za (x:Nat):(Jf base over m)[x]? = if x<m then (XO base over)[x]? else base[x]? := by
 have hl:(XO base over).length=over.length:=by simp [XO,h]
 unfold Jf
 rw [List.getElem?_append]
 simp only [List.length_take,hl]
 by_cases hx:x<m
 · rw [if_pos (by omega),if_pos hx,List.getElem?_take,if_pos hx]
 · rw [if_neg (by omega),if_neg hx,List.getElem?_drop]
   congr 1;omega
omit h hm in
theorem VS (x:Nat):(JT over m)[x]? = if x<m then some none else over[x]? := by
 unfold JT
 rw [List.getElem?_append]
 simp only [List.length_replicate]
 by_cases hx:x<m
 · rw [if_pos hx,if_pos hx,List.getElem?_replicate,if_pos hx]
 · rw [if_neg hx,if_neg hx,List.getElem?_drop]
   congr 1;omega
theorem comAt_len:(Jf base over m).length=over.length∧(JT over m).length=over.length:=by
 constructor
 · simp only [Jf,List.length_append,List.length_take,List.length_drop,XO,List.length_zipWith,h];omega
 · simp only [JT,List.length_append,List.length_replicate,List.length_drop];omega
end
theorem XAe {base:List (List UInt8)} {over:List (Option (List UInt8))} {m:Nat} (h:base.length=over.length) (hm:m<over.length) {xs:List UInt8} (ho:over[m]? = some (some xs)) :
 Jf base over (m+1)=(Jf base over m).set m xs∧JT over (m+1)=(JT over m).set m none:=by
 have hb:base[m]? = some base[m]:=List.getElem?_eq_getElem (by omega)
 constructor
 · apply List.ext_getElem?
   intro x
   rw [Za h (by omega),List.getElem?_set,Za h (by omega),(comAt_len h (by omega)).1]
   by_cases e:m=x
   · subst e
     rw [if_pos (by omega),if_pos rfl,if_pos hm]
     unfold XO
     rw [List.getElem?_zipWith,hb,ho]
     rfl
   · rw [if_neg e]
     by_cases hx:x<m
     · rw [if_pos hx,if_pos (by omega)]
     · rw [if_neg hx,if_neg (by omega)]
 · apply List.ext_getElem?
   intro x
   rw [VS,List.getElem?_set,VS,(comAt_len h (by omega)).2]
   by_cases e:m=x
   · subst e
     rw [if_pos (by omega),if_pos rfl,if_pos hm]
   · rw [if_neg e]
     by_cases hx:x<m
     · rw [if_pos hx,if_pos (by omega)]
     · rw [if_neg hx,if_neg (by omega)]
theorem KAe {base:List (List UInt8)} {over:List (Option (List UInt8))} {m:Nat} (h:base.length=over.length) (hm:m<over.length) (ho:over[m]? = some none) :
 Jf base over (m+1)=Jf base over m∧JT over (m+1)=JT over m:=by
 have hb:base[m]? = some base[m]:=List.getElem?_eq_getElem (by omega)
 constructor
 · apply List.ext_getElem?
   intro x
   rw [Za h (by omega),Za h (by omega)]
   by_cases e:m=x
   · subst e
     rw [if_pos (by omega),if_neg (by omega)]
     unfold XO
     rw [List.getElem?_zipWith,hb,ho]
     rfl
   · by_cases hx:x<m
     · rw [if_pos hx,if_pos (by omega)]
     · rw [if_neg hx,if_neg (by omega)]
 · apply List.ext_getElem?
   intro x
   rw [VS,VS]
   by_cases e:m=x
   · subst e
     rw [if_pos (by omega),if_neg (by omega),ho]
   · by_cases hx:x<m
     · rw [if_pos hx,if_pos (by omega)]
     · rw [if_neg hx,if_neg (by omega)]
theorem YAl {base:List (List UInt8)} {over:List (Option (List UInt8))} (h:base.length=over.length):Jf base over over.length=XO base over∧JT over over.length=List.replicate over.length none:=by
 constructor
 · unfold Jf
   rw [List.take_of_length_le (by simp [XO,h]),List.drop_of_length_le (by omega),List.append_nil]
 · unfold JT
   rw [List.drop_of_length_le (by omega),List.append_nil]
end
end Go.Proofs.YtmoagodllhdemaaGreat
