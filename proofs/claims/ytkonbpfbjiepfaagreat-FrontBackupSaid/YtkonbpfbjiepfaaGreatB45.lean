/-
  A part of the proof: lemmas, and contracts of functions; their conditions stand in them.
-/
import Derived.Test.YtkonbpfbjiepfaaGreatB44
import Derived.Test.YtkonbpfbjiepfaaGreatB09
import Derived.Test.YtkonbpfbjiepfaaGreatB02
import Derived.Test.YtkonbpfbjiepfaaGreatB12
import Derived.Test.YtkonbpfbjiepfaaGreatB08
import Derived.Test.YtkonbpfbjiepfaaGreatB37
import Derived.Test.YtkonbpfbjiepfaaGreatB42
import Derived.Test.YtkonbpfbjiepfaaGreatB39
namespace Go.Proofs.YtkonbpfbjiepfaaGreat
set_option linter.unusedSimpArgs false
set_option linter.unusedVariables false
set_option maxHeartbeats 8000000
set_option maxRecDepth 40000
section
open Go.RowKit Go.Shelf
theorem Yn {sl:List PSlot} {i:Nat} (hi:i<sl.length) (h:(sl.getD i PSlot.none_).is=false) (q:PSlot) (hq:q.is=true):KE (sl.set i q)=KE sl+1:=by
 unfold KE
 have hg:sl[i].is=false:=by simpa [List.getD_eq_getElem?_getD,hi] using h
 have:=List.countP_set (p:=(·.is)) (l:=sl) (i:=i) (a:=q) hi
 rw [this,if_neg (by simp [hg]),if_pos hq]
 rfl
section
variable (w:World) (base r s d x:Nat) (Fs Fx:List Nat) (B:Nat) (R:RS) (h:ReplicaIs w base r s d x Fs Fx B R) (hbase:base≤w.heap.size) (k b c e m fs:Nat) (xs:List UInt8) (A:Option Addr) (cp:Nat)
 (ha:Rd w A (25+m) (bys (VH k R.S.st.view fs b c e 0 xs))) (ho:OpMay k b c e m) (hlen:xs.length=m) (hfor:b+max c 1≤B∨k=3) (hfs:1≤fs∧fs≤2147483647)
include h hbase ha ho hlen hfor hfs
theorem VAr (kk j:Nat) (hg:Good B R.S kk j) (hk:kk+KE R.sl≤49) (hj:j≤10000) (hnx:R.next≤1000000) (hop:∀ q∈R.sl,q.is=true→Jj B q.o) (hn1:R.next≤fs) (hn2:fs<R.next+R.sl.length) (hq:(R.sl.getD (fs % R.sl.length) PSlot.none_).is=false) (hof:Jj B ⟨k,b,c,e,xs⟩) :
 Calls Tryz.prog 83 #[.pointer (some ⟨r,0,none⟩),.slice A (25+m) cp] w fun en w'=>
  ∃ v,KAx w base r s d x Fs Fx B ⟨R.S,R.next,R.sl.set (fs % R.sl.length) ⟨v,⟨k,b,c,e,xs⟩,true⟩⟩ kk j en w':=by
 refine YBM w base r s d x Fs Fx B R h hbase k b c e m fs xs A cp ha ho hlen hfor hfs _ ?_
 intro w5 UA uc hk5 hu
 obtain ⟨L,hw⟩:=h.win
 have hi:fs % R.sl.length<R.sl.length:=Nat.mod_lt _ hw.pos
 subst hlen
 have hu5:=YC hu hbase
 refine (JAz w5 base x L Fx R.next R.sl (hw.keep0 hk5) fs hn1 hn2 hfs.2 hq k b c e UA uc xs hu5).mono ?_
 rintro e5 w6 ⟨rfl,F',hw6,hk6,hF'⟩
 refine .inl ⟨rfl,?_⟩
 have hfresh:∀ z∈(Value.slice UA xs.length uc).ownBlock.toList,w.heap.size≤z:=fun z hz=>(own_mem hu hz).1
 have hr6:=(h.keep0 hk5).setWin ⟨L,hw6⟩ hk6 (fun y hy=>by
  rcases hF' y hy with h1 | h1
  · exact .inl h1
  · refine .inr ⟨fun hm=>?_,?_⟩
    · have:=hfresh y h1;have:=h.st.lt y hm;omega
    · have:=hfresh y h1;have:=h.blk.lt;omega)
 have hpr:=Yn hi hq ⟨.slice UA xs.length uc,⟨k,b,c,e,xs⟩,true⟩ rfl
 have hkk:Keep (YP r Fs Fx) w w6:=hk5.zero.trans hk6 (fun y hy => .inl (by simp [YP,hy]))
 refine (XBM w6 base r s d x Fs F' B _ hr6 kk j hg (by simp only [hpr];omega) hj hnx ?_).mono ?_
 · intro q hq' hqi
   rcases List.mem_or_eq_of_mem_set hq' with hq' | rfl
   · exact hop q hq' hqi
   · exact hof
 · rintro e7 w7 ⟨Fs7,Fx7,R7,er,h1,h2,h3,h4,h5,h6,h7⟩
   have hsz6:=hkk.size
   have hg6:Grow w (YP r Fs Fx) (YP r Fs F'):=by
    intro y hy
    simp only [YP,List.mem_cons,List.mem_append] at hy ⊢
    rcases hy with hy | hy | hy
    · exact .inl (.inl hy)
    · exact .inl (.inr (.inl hy))
    · rcases hF' y hy with h8 | h8
      · exact .inl (.inr (.inr h8))
      · exact .inr (hfresh y h8)
   have hk7:Keep (YP r Fs Fx) w w7:=hkk.trans h5 hg6
   have hg7:Grow w (YP r Fs Fx) (YP r Fs7 Fx7):=fun y hy=>by
    rcases h6 y hy with h8 | h8
    · exact hg6 y h8
    · exact .inr (by omega)
   rcases h7 with ⟨rfl,u,rfl,hu7⟩ | ⟨rfl,rfl⟩
   · obtain ⟨A7,c7,rfl,_⟩:=YB hu7
     exact ⟨A7,_,c7,_,rfl,_,Fs7,Fx7,R7,0,h1,h2,h3,h4,hk7,hg7,.inl ⟨rfl,_,rfl,YC hu7 hsz6⟩⟩
   · exact ⟨none,0,0,_,rfl,_,Fs7,Fx7,R7,1,h1,h2,h3,h4,hk7,hg7,.inr ⟨rfl,rfl⟩⟩
end
theorem WinIs.down {w:World} {b1 b2 x next:Nat} {L:Value} {F:List Nat} {sl:List PSlot} (h:WinIs w b2 x L F next sl) (hb:b1≤b2):WinIs w b1 x L F next sl:=
 ⟨h.blk,YC h.row hb,fun q hq=>YC (h.dat q hq) hb,h.foot,Nat.le_trans hb h.base,h.pos,h.few,h.zero,h.nb⟩
section
variable (w:World) (base s d:Nat) (Fs:List Nat) (B:Nat) (S:PS) (h:StoreAt w base s d Fs B S) (hs:S.st.seq≤1000000)
include h hs
theorem KAz (m:Nat) (h1:1≤m) (h2:m≤16) (hmode:S.st.mode=1) (hview:1≤S.st.view∧S.st.view≤2147483647) (hbase:base≤w.heap.size) :
 Calls Tryz.prog 137 #[.pointer (some ⟨s,0,none⟩),.int .i64 (m:Nat)] w fun e w'=>∃ r x Fx,e = .returned (.pointer (some ⟨r,0,none⟩))∧ReplicaIs w' base r s d x Fs Fx B ⟨S,S.st.seq+1,ZF m⟩∧Keep [] w w'∧(∀ y∈YP r Fs Fx,y∈Fs∨w.heap.size≤y):=by
 have hS:=XL w base s d Fs B S h
 have hres:∀ w2 x F r,Keep [] w w2→WinAt w2 w.heap.size x F (S.st.seq+1) (ZF m)→r=w2.heap.size→ReplicaIs (w2.alloc (.cells #[.pointer (some ⟨s,0,none⟩),.pointer (some ⟨x,0,none⟩)] 224)) base r s d x Fs F B ⟨S,S.st.seq+1,ZF m⟩∧(∀ y∈YP r Fs F,y∈Fs∨w.heap.size≤y):=by
  intro w2 x F r hk hw hr
  subst hr
  have hka:=(Keep.refl [] w2).alloc (.cells #[.pointer (some ⟨s,0,none⟩),.pointer (some ⟨x,0,none⟩)] 224)
  obtain ⟨L,hL⟩:=hw
  have hge:=hL.ge
  have hlt:=hL.lt
  refine ⟨⟨Blk.new _ _ _,h.keep0 (hk.trans0 hka),⟨L,(hL.down hbase).keep0 hka⟩,fun y hy hm=>?_,fun hm=>?_,fun hm=>?_,?_,hmode,hview⟩,?_⟩
  · have:=h.lt y hy;have:=hge y hm;omega
  · have:=h.lt _ hm;have:=hk.size;omega
  · have:=hlt _ hm;omega
  · have:=hk.size;omega
  · intro y hy
    simp only [YP,List.mem_cons,List.mem_append] at hy
    rcases hy with hy | hy | hy
    · exact .inr (by have:=hk.size;omega)
    · exact .inl hy
    · exact .inr (hge y hy)
 generalize hst:S.st=st at *
 obtain ⟨mode,view,epoch,seq,done,mount,gen⟩:=st
 simp only at hS hs hres hmode ⊢
 have hW:=fun W=>ZAj m (seq+1) h1 h2 (by omega) W
 rw [Int.natCast_add] at hW
 have hfd:=fun (a0 a1 a2 a3 a4 a5 a6 a7 a8 a9:Value) W=>JE (P:=Tryz.prog) Tryz.underlying72 3 rfl Tryz.isAgg3 #[a0,a1,a2,a3,a4,a5,a6,a7,a8,a9] rfl W
 go_enter Tryz.func137,Tryz.ntmps137
 go_wp2_with (first
  | (go_at_call 85;refine hS.mono ?_;clear hS;rintro e w1 ⟨rfl,hk1⟩)
  | (go_at_call 223;refine (hW _).mono ?_;clear hW;rintro e w2 ⟨x,rfl,F,hF,hk2⟩))
 go_ret
 have hkk:=hk1.trans0 hk2
 obtain ⟨L,hL⟩:=hF
 obtain ⟨q1,q2⟩:=hres w2 x F _ hkk ⟨L,hL.down hk1.size⟩ rfl
 exact ⟨_,x,F,rfl,q1,hkk.alloc _,q2⟩
end
section
variable (w:World) (base r s d x:Nat) (Fs Fx:List Nat) (B:Nat) (R:RS) (h:ReplicaIs w base r s d x Fs Fx B R)
include h
end
end
section
open Go.RowKit Go.Shelf
def AckRow (w w':World) (st:PSt) (A:Option Addr) (c:Nat):Prop:=w'.ownsRow w.heap.size 5 1 (.slice A 25 c) 25 (bys (VH 8 st.view st.seq 0 0 st.epoch st.done []))
def ZBK (k ep:Nat):Nat:=if k=3 then ep+1 else ep
theorem YBD {st:PSt} {k b c e:Nat} {xs:List UInt8}:(JAF st ⟨k,b,c,e,xs⟩).view=st.view∧(JAF st ⟨k,b,c,e,xs⟩).mode=st.mode∧(JAF st ⟨k,b,c,e,xs⟩).seq=st.seq+1∧(JAF st ⟨k,b,c,e,xs⟩).epoch=ZBK k st.epoch∧(k=3→(JAF st ⟨k,b,c,e,xs⟩).done=st.seq+1)∧(k≠3→(JAF st ⟨k,b,c,e,xs⟩).done=st.done):=by
 unfold JAF ZBK
 by_cases h:k=3
 · subst h
   simp
 · have h':¬ ((k:Nat):Int)=3:=by omega
   simp [h,h']
@[simp] theorem length_emptyW (m:Nat):(ZF m).length=m:=by simp [ZF]
theorem Jf (m:Nat):KE (ZF m)=0:=by
 unfold KE ZF
 rw [List.countP_replicate]
 simp [PSlot.none_]
theorem Yu (m i:Nat):((ZF m).getD i PSlot.none_).is=false:=by
 unfold ZF
 simp only [List.getD_eq_getElem?_getD,List.getElem?_replicate]
 split <;> rfl
theorem VAS (m B:Nat):∀ q∈ZF m,q.is=true→Jj B q.o:=by
 intro q hq hi
 rw [List.eq_of_mem_replicate hq] at hi
 cases hi
theorem YAJ {m i:Nat} (hi:i<m) (q:PSlot) (hq:q.is=true):KE ((ZF m).set i q)=1:=by
 rw [Yn (by simpa using hi) (Yu m i) q hq,Jf]
def Off (N:List Nat) (w:World) (F:List Nat):Prop:=∀ b∈N,b∉F∧b<w.heap.size
namespace Off
variable {N:List Nat} {w w':World} {F F':List Nat}
theorem nil:Off [] w F:=fun _ h=>by cases h
theorem keep0 (h:Off N w F) (hk:Keep [] w w'):Off N w' F:=fun b hb=>⟨(h b hb).1,Nat.lt_of_lt_of_le (h b hb).2 hk.size⟩
theorem turn (h:Off N w F) (hk:Keep F w w') (hg:Grow w F F'):Off N w' F':=fun b hb=>⟨fun hm=>(hg b hm).elim (h b hb).1 (by have:=(h b hb).2;omega),Nat.lt_of_lt_of_le (h b hb).2 hk.size⟩
theorem add (h:Off N w F) (hk:Keep [] w w') {b:Nat} (h1:w.heap.size≤b) (h2:b<w'.heap.size) (hF:∀ x∈F,x<w.heap.size):Off (b :: N) w' F:=fun x hx=>by
 rcases List.mem_cons.1 hx with rfl | hx
 · exact ⟨fun hm=>by have:=hF _ hm;omega,h2⟩
 · exact h.keep0 hk x hx
end Off
theorem AckRow.rd {w w':World} {st:PSt} {A:Option Addr} {c v s e d:Nat} (h:AckRow w w' st A c) (h1:st.view=v) (h2:st.seq=s) (h3:st.epoch=e) (h4:st.done=d):Rd w' A 25 (bys (VH 8 v s 0 0 e d [])):=by
 subst h1 h2 h3 h4
 exact Rd.of_own h
end
section
open Go.RowKit Go.Shelf
section
variable (w:World) (base r s d x:Nat) (Fs Fx:List Nat) (B:Nat) (R:RS) (h:ReplicaIs w base r s d x Fs Fx B R)
include h
end
end
section
open Go.RowKit Go.Shelf
def Unready (r z:Nat) (w:World):Prop:=∀ W,Keep [] w W→Calls Tryz.prog 141 #[.pointer (some ⟨r,0,none⟩)] W fun e w'=>e = .returned (.int .i64 z)∧Keep [] W w'
theorem Unready.keep0 {r z:Nat} {w w':World} (h:Unready r z w) (hk:Keep [] w w'):Unready r z w':=fun W hW=>h W (hk.trans0 hW)
theorem KAI (w:World) (base r s d x:Nat) (Fs:List Nat) (B:Nat) (S:PS) (hb:Blk w r 224 #[.pointer (some ⟨s,0,none⟩),.pointer (some ⟨x,0,none⟩)]) (h:StoreAt w base s d Fs B S) (hm:S.st.mode=2):Unready r 7 w:=by
 intro W hW
 replace h:=h.keep0 hW
 replace hb:=hb.keep0 hW
 have hS:=XL W base s d Fs B S h
 have hD:Calls Tryz.prog 60 #[.pointer (some ⟨s,0,none⟩)] W fun e w'=>e = .returned (.pointer (some ⟨d,0,none⟩))∧W=w':=by
  obtain ⟨g,t,p,m,Fd,Ft,Fw,Fm,L0,L1,h2,hf⟩:=h
  exact DiskS_is W base s d g t p m Fd Ft Fw Fm L0 L1 B S h2
 have hO:Calls Tryz.prog 61 #[.pointer (some ⟨d,0,none⟩)] W fun e w'=>e = .returned (.bool false)∧W=w':=by
  obtain ⟨g,t,p,m,Fd,Ft,Fw,Fm,L0,L1,h2,hf⟩:=h
  have:=Yt W base d Fd S.D h2.log.disk
  rwa [h2.log.off] at this
 have c0:W.cell? ⟨r,0,none⟩=some (.pointer (some ⟨s,0,none⟩)):=by simpa using hb.cell 0
 rw [hm] at hS
 clear hm
 have hfd:=fun (a b c e f g h' i j:Value) W=>JE (P:=Tryz.prog) Tryz.underlying72 0 rfl Tryz.isAgg3 #[.int .i64 2,a,b,c,e,f,g,h',i,j] rfl W
 go_enter Tryz.func141,Tryz.ntmps141
 go_wp2_with (first
  | (go_at_call 60;refine hD.mono ?_;clear hD;rintro e w' ⟨rfl,rfl⟩)
  | (go_at_call 61;refine hO.mono ?_;clear hO;rintro e w' ⟨rfl,rfl⟩)
  | (go_at_call 85;refine hS.mono ?_;clear hS;rintro e w1 ⟨rfl,hk1⟩))
 go_ret
 exact ⟨rfl,hk1⟩
theorem KAt (w:World) (r z:Nat) (h:Unready r z w) (hz:1≤z) (k v b c e dn fs:Nat) (xs:List UInt8) (A:Option Addr) (n cp:Nat) (hm:FrMay k v fs b c e dn xs) (ha:Rd w A n (bys (VH k v fs b c e dn xs))) :
 Calls Tryz.prog 83 #[.pointer (some ⟨r,0,none⟩),.slice A n cp] w fun e w'=>e = .returned (.tuple #[.slice none 0 0,.int .i64 z])∧Keep [] w w':=by
 have hD:=YAC k v fs b c e dn xs hm A n cp w ha
 have hz1:¬ ((z:Nat):Int)=0:=by omega
 clear ha hm
 go_enter Tryz.func83,Tryz.ntmps83
 go_wp2_with (first
  | (go_at_call 140
     refine hD.mono ?_
     clear hD
     rintro e1 w1 ⟨UA,uc,rfl,hu,hk1⟩
     have hkA:Keep [] w (w1.alloc (.cells #[.int .i64 k,.int .i64 v,.int .i64 fs,.int .i64 b,.int .i64 c,.int .i64 e,.int .i64 dn,.slice UA xs.length uc] 152)):=hk1.alloc _)
  | (go_at_call 141
     refine (h _ hkA).mono ?_
     rintro e2 w2 ⟨rfl,hk2⟩
     replace hkA:=hkA.trans0 hk2))
 go_ret2
 exact ⟨rfl,hkA⟩
theorem KAk (w:World) (r s x:Nat) (hb:Blk w r 224 #[.pointer (some ⟨s,0,none⟩),.pointer (some ⟨x,0,none⟩)]):Calls Tryz.prog 139 #[.pointer (some ⟨r,0,none⟩)] w fun e w'=>e = .returned (.pointer (some ⟨s,0,none⟩))∧w=w':=by
 have c0:w.cell? ⟨r,0,none⟩=some (.pointer (some ⟨s,0,none⟩)):=by simpa using hb.cell 0
 go_enter Tryz.func139,Tryz.ntmps139
 go_wp2
 go_ret
 exact ⟨rfl,rfl⟩
end
section
open Go.RowKit Go.Shelf
structure FrSt (w0 w:World) (B f r s d x:Nat) (Fs Fx:List Nat) (R:RS):Prop where
 blk:Blk w f 218 #[.pointer (some ⟨r,0,none⟩)]
 rep:ReplicaIs w w0.heap.size r s d x Fs Fx B R
 fn:f∉YP r Fs Fx
 fb:w0.heap.size≤f
 kept:Keep [] w0 w
namespace FrSt
variable {w0 w w':World} {B f r s d x:Nat} {Fs Fx:List Nat} {R:RS}
theorem keep0 (h:FrSt w0 w B f r s d x Fs Fx R) (hk:Keep [] w w'):FrSt w0 w' B f r s d x Fs Fx R:=⟨h.blk.keep0 hk,h.rep.keep0 hk,h.fn,h.fb,h.kept.trans0 hk⟩
theorem lt (h:FrSt w0 w B f r s d x Fs Fx R):f<w.heap.size:=h.blk.lt
theorem turn (h:FrSt w0 w B f r s d x Fs Fx R) {Fs' Fx':List Nat} {R':RS} (hr:ReplicaIs w' w0.heap.size r s d x Fs' Fx' B R') (hk:Keep (YP r Fs Fx) w w') (hg:Grow w (YP r Fs Fx) (YP r Fs' Fx')):FrSt w0 w' B f r s d x Fs' Fx' R':=by
 have hlt:=h.lt
 have hge:=h.rep.ge
 exact ⟨h.blk.keep hk h.fn,hr,fun hm=>(hg f hm).elim h.fn (by omega),h.fb,h.kept.trans hk (fun y hy => .inr (hge y hy))⟩
end FrSt
theorem YAe (w:World) (f r:Nat) (h:Blk w f 218 #[.pointer (some ⟨r,0,none⟩)]):Calls Tryz.prog 82 #[.pointer (some ⟨f,0,none⟩)] w fun e w'=>e = .returned (.pointer (some ⟨r,0,none⟩))∧w=w':=by
 have c0:w.cell? ⟨f,0,none⟩=some (.pointer (some ⟨r,0,none⟩)):=by simpa using h.cell 0
 go_enter Tryz.func82,Tryz.ntmps82
 go_wp2
 go_ret
 exact ⟨rfl,rfl⟩
theorem YAv (w:World):Calls Tryz.prog 82 #[.pointer none] w fun e w'=>e = .returned (.pointer none)∧w=w':=by
 go_enter Tryz.func82,Tryz.ntmps82
 go_wp2
 go_ret
 exact ⟨rfl,rfl⟩
theorem KO (w:World) (f r s x:Nat) (h:Blk w f 218 #[.pointer (some ⟨r,0,none⟩)]) (hr:Blk w r 224 #[.pointer (some ⟨s,0,none⟩),.pointer (some ⟨x,0,none⟩)]) :
 Calls Tryz.prog 79 #[.pointer (some ⟨f,0,none⟩)] w fun e w'=>e = .returned (.pointer (some ⟨s,0,none⟩))∧w=w':=by
 have hE:=YAe w f r h
 have hS:=KAk w r s x hr
 go_enter Tryz.func79,Tryz.ntmps79
 go_wp2_with (first
  | (go_at_call 82;refine hE.mono ?_;clear hE;rintro e w' ⟨rfl,rfl⟩)
  | (go_at_call 139;refine hS.mono ?_;clear hS;rintro e w' ⟨rfl,rfl⟩))
 go_ret
 exact ⟨rfl,rfl⟩
theorem VAN {w:World} {f r:Nat} {b:Value} {Q:Ending→World→Prop} (h:Blk w f 218 #[.pointer (some ⟨r,0,none⟩)])
 (hT:Calls Tryz.prog 83 #[.pointer (some ⟨r,0,none⟩),b] w fun e w'=>∃ u c,e = .returned (.tuple #[u,c])∧Q e w') :
 Calls Tryz.prog 25 #[.pointer (some ⟨f,0,none⟩),b] w Q:=by
 have hE:=YAe w f r h
 go_enter Tryz.func25,Tryz.ntmps25
 go_wp2_with (first
  | (go_at_call 82;refine hE.mono ?_;clear hE;rintro e w' ⟨rfl,rfl⟩)
  | (go_at_call 83;refine hT.mono ?_;clear hT;rintro e w' ⟨u,c,rfl,hq⟩))
 exact hq
theorem Yc {w:World} {f r s x:Nat} {v:Int} {Q:Ending→World→Prop} (h:Blk w f 218 #[.pointer (some ⟨r,0,none⟩)]) (hr:Blk w r 224 #[.pointer (some ⟨s,0,none⟩),.pointer (some ⟨x,0,none⟩)])
 (hT:Calls Tryz.prog 86 #[.pointer (some ⟨s,0,none⟩),.int .i64 v,.int .i64 2] w fun e w'=>∃ c:Int,e = .returned (.int .i64 c)∧Q e w') :
 Calls Tryz.prog 28 #[.pointer (some ⟨f,0,none⟩),.int .i64 v] w Q:=by
 have hE:=KO w f r s x h hr
 go_enter Tryz.func28,Tryz.ntmps28
 go_wp2_with (first
  | (go_at_call 79;refine hE.mono ?_;clear hE;rintro e w' ⟨rfl,rfl⟩)
  | (go_at_call 86;refine hT.mono ?_;clear hT;rintro e w' ⟨c,rfl,hq⟩))
 exact hq
theorem Ku {w:World} {f r s x:Nat} {n0 n1 n2 n3 n4 n5 n6 n7 n8 n9:Int} (h:Blk w f 218 #[.pointer (some ⟨r,0,none⟩)]) (hr:Blk w r 224 #[.pointer (some ⟨s,0,none⟩),.pointer (some ⟨x,0,none⟩)])
 (hT:∀ W,Keep [] w W→Calls Tryz.prog 85 #[.pointer (some ⟨s,0,none⟩)] W fun e w'=>e = .returned (.agg #[.int .i64 n0,.int .i64 n1,.int .i64 n2,.int .i64 n3,.int .i64 n4,.int .i64 n5,.int .i64 n6,.int .i64 n7,.int .i64 n8,.int .i64 n9])∧Keep [] W w') :
 Calls Tryz.prog 27 #[.pointer (some ⟨f,0,none⟩)] w fun e w'=>e = .returned (.agg #[.int .i64 n0,.int .i64 n1,.int .i64 n2,.int .i64 n3,.int .i64 n4,.int .i64 n5,.int .i64 n6,.int .i64 n7,.int .i64 n8,.int .i64 n9])∧Keep [] w w':=by
 have hE:=fun W (hk:Keep [] w W)=>KO W f r s x (h.keep0 hk) (hr.keep0 hk)
 have hB:=Blk.new w 72 #[.int .i64 0,.int .i64 0,.int .i64 0,.int .i64 0,.int .i64 0,.int .i64 0,.int .i64 0,.int .i64 0,.int .i64 0,.int .i64 0]
 have hk0:Keep [] w (w.alloc (.cells #[.int .i64 0,.int .i64 0,.int .i64 0,.int .i64 0,.int .i64 0,.int .i64 0,.int .i64 0,.int .i64 0,.int .i64 0,.int .i64 0] 72)):=(Keep.refl _ _).alloc _
 go_enter Tryz.func27,Tryz.ntmps27
 go_wp2_with (first
  | (go_at_call 79;refine (hE _ hk0).mono ?_;clear hE;rintro e w' ⟨rfl,rfl⟩)
  | (go_at_call 85
     refine (hT _ hk0).mono ?_
     clear hT
     rintro e w1 ⟨rfl,hk1⟩
     have hB1:=hB.keep0 hk1
     have hlt:=hB1.lt
     have c0:w1.cell? ⟨w.heap.size,0,none⟩=some (.int .i64 0):=by simpa using hB1.cell 0
     have c1:w1.cell? ⟨w.heap.size,1,none⟩=some (.int .i64 0):=by simpa using hB1.cell 1
     have c2:w1.cell? ⟨w.heap.size,2,none⟩=some (.int .i64 0):=by simpa using hB1.cell 2
     have c3:w1.cell? ⟨w.heap.size,3,none⟩=some (.int .i64 0):=by simpa using hB1.cell 3
     have c4:w1.cell? ⟨w.heap.size,4,none⟩=some (.int .i64 0):=by simpa using hB1.cell 4
     have c5:w1.cell? ⟨w.heap.size,5,none⟩=some (.int .i64 0):=by simpa using hB1.cell 5
     have c6:w1.cell? ⟨w.heap.size,6,none⟩=some (.int .i64 0):=by simpa using hB1.cell 6
     have c7:w1.cell? ⟨w.heap.size,7,none⟩=some (.int .i64 0):=by simpa using hB1.cell 7
     have c8:w1.cell? ⟨w.heap.size,8,none⟩=some (.int .i64 0):=by simpa using hB1.cell 8
     have c9:w1.cell? ⟨w.heap.size,9,none⟩=some (.int .i64 0):=by simpa using hB1.cell 9
     have f0:=hB1.frozen 0
     have f1:=hB1.frozen 1
     have f2:=hB1.frozen 2
     have f3:=hB1.frozen 3
     have f4:=hB1.frozen 4
     have f5:=hB1.frozen 5
     have f6:=hB1.frozen 6
     have f7:=hB1.frozen 7
     have f8:=hB1.frozen 8
     have f9:=hB1.frozen 9))
 have hz:=((((((((((hB1.set 0 (.int .i64 n0)).set 1 (.int .i64 n1)).set 2 (.int .i64 n2)).set 3 (.int .i64 n3)).set 4 (.int .i64 n4)).set 5 (.int .i64 n5)).set 6 (.int .i64 n6)).set 7 (.int .i64 n7)).set 8 (.int .i64 n8)).set 9 (.int .i64 n9))
 have hkz:=(((((((((((Keep.refl [w.heap.size] w1).setCell (p:=⟨w.heap.size,0,none⟩) (.inl (by simp)) (.int .i64 n0)).setCell (p:=⟨w.heap.size,1,none⟩) (.inl (by simp)) (.int .i64 n1)).setCell (p:=⟨w.heap.size,2,none⟩) (.inl (by simp)) (.int .i64 n2)).setCell (p:=⟨w.heap.size,3,none⟩) (.inl (by simp)) (.int .i64 n3)).setCell (p:=⟨w.heap.size,4,none⟩) (.inl (by simp)) (.int .i64 n4)).setCell (p:=⟨w.heap.size,5,none⟩) (.inl (by simp)) (.int .i64 n5)).setCell (p:=⟨w.heap.size,6,none⟩) (.inl (by simp)) (.int .i64 n6)).setCell (p:=⟨w.heap.size,7,none⟩) (.inl (by simp)) (.int .i64 n7)).setCell (p:=⟨w.heap.size,8,none⟩) (.inl (by simp)) (.int .i64 n8)).setCell (p:=⟨w.heap.size,9,none⟩) (.inl (by simp)) (.int .i64 n9))
 simp only [List.setIfInBounds_toArray,List.set_cons_zero,List.set_cons_succ] at hz
 have y0:=hz.cell 0
 have y1:=hz.cell 1
 have y2:=hz.cell 2
 have y3:=hz.cell 3
 have y4:=hz.cell 4
 have y5:=hz.cell 5
 have y6:=hz.cell 6
 have y7:=hz.cell 7
 have y8:=hz.cell 8
 have y9:=hz.cell 9
 simp at y0 y1 y2 y3 y4 y5 y6 y7 y8 y9
 refine bodyPost_ret (v := .agg #[.int .i64 n0,.int .i64 n1,.int .i64 n2,.int .i64 n3,.int .i64 n4,.int .i64 n5,.int .i64 n6,.int .i64 n7,.int .i64 n8,.int .i64 n9]) (by simp [results,Tryz.results27,go_sem,y0,y1,y2,y3,y4,y5,y6,y7,y8,y9]) rfl ⟨rfl,(hk0.trans0 hk1).trans hkz (fun y hy => .inr (by simp at hy;omega))⟩
end
section
open Go.RowKit
def YN (B:Nat) (z:Int×Int×Int) (ep:Nat):POp×Nat:=
 if z.1=0 then (⟨3,0,0,((ep:Nat):Int)+1,[]⟩,ep+1) else if z.1=1 then (⟨2,z.2.1 % (B:Nat),1+z.2.2 % ((B:Nat)-z.2.1 % (B:Nat)),0,[]⟩,ep) else (⟨1,z.2.1 % (B:Nat),0,0,KR z.2.2⟩,ep)
def KP (B:Nat) (zs:List (Int×Int×Int)):Nat→List POp×Nat
 | 0=>([],0)
 | n+1=>((KP B zs n).1++[(YN B (zs.getD n (0,0,0)) (KP B zs n).2).1],(YN B (zs.getD n (0,0,0)) (KP B zs n).2).2)
theorem YAM (B:Nat) (zs:List (Int×Int×Int)) (n:Nat):(KP B zs n).1.length=n:=by
 induction n with
 | zero=>rfl
 | succ n ih=>simp [KP,ih]
theorem XAl (B:Nat) (zs:List (Int×Int×Int)) (n:Nat):(KP B zs n).2≤n:=by
 induction n with
 | zero=>simp [KP]
 | succ n ih=>
   simp only [KP,YN]
   split
   · simp;exact ih
   · split <;> simp <;> omega
theorem VAu (B:Nat) (zs:List (Int×Int×Int)) (n i:Nat) (h:i<n):(KP B zs n).1[i]? = some (YN B (zs.getD i (0,0,0)) (KP B zs i).2).1:=by
 induction n with
 | zero=>omega
 | succ n ih=>
   have hl:=YAM B zs n
   simp only [KP]
   rcases Nat.lt_or_ge i n with hlt | hge
   · rw [List.getElem?_append_left (by omega),ih hlt]
   · obtain rfl:i=n:=by omega
     rw [List.getElem?_append_right (by omega),hl]
     simp
theorem VAi (B:Nat) (zs:List (Int×Int×Int)) (i:Nat):(KP B zs (i+1)).2=(YN B (zs.getD i (0,0,0)) (KP B zs i).2).2:=rfl
theorem KAd (B:Nat) (z:Int×Int×Int) (ep:Nat):((YN B z ep).1.k=3∧(YN B z ep).1.e=((ep:Nat):Int)+1∧(YN B z ep).2=ep+1)∨((YN B z ep).1.k≠3∧(YN B z ep).2=ep):=by
 unfold YN
 split
 · exact .inl ⟨rfl,rfl,rfl⟩
 · split
   · exact .inr ⟨by simp,rfl⟩
   · exact .inr ⟨by simp,rfl⟩
theorem ZAS (B:Nat) (hB:1≤B∧B≤64) (z:Int×Int×Int) (ep:Nat) (he:ep≤1000000):Jj B (YN B z ep).1∧∃ k b c e:Nat,∃ xs,(YN B z ep).1=⟨k,b,c,e,xs⟩∧OpMay k b c e xs.length∧(b+max c 1≤B∨k=3):=by
 have h1:=Int.emod_nonneg z.2.1 (show ((B:Nat):Int)≠0 by omega)
 have h2:=Int.emod_lt_of_pos z.2.1 (show (0:Int)<((B:Nat):Int) by omega)
 have h3:=Int.emod_nonneg z.2.2 (show ((B:Nat):Int)-z.2.1 % (B:Nat)≠0 by omega)
 have h4:=Int.emod_lt_of_pos z.2.2 (show (0:Int)<((B:Nat):Int)-z.2.1 % (B:Nat) by omega)
 unfold YN
 split
 · refine ⟨.inr (.inr ⟨rfl,?_,?_⟩),3,0,0,ep+1,[],by simp,.inr (.inr ⟨rfl,rfl,rfl,by omega,by omega,rfl⟩),.inr rfl⟩
   · dsimp only;omega
   · dsimp only;omega
 · split
   · refine ⟨.inr (.inl ⟨rfl,?_,?_,?_⟩),2,(z.2.1 % (B:Nat)).toNat,(1+z.2.2 % ((B:Nat)-z.2.1 % (B:Nat))).toNat,0,[],?_,.inr (.inl ⟨rfl,by omega,by omega,by omega,rfl,rfl⟩),.inl (by omega)⟩
     · exact h1
     · dsimp only;omega
     · dsimp only;omega
     · simp only [POp.mk.injEq,and_true];refine ⟨rfl,?_,?_,rfl⟩ <;> omega
   · refine ⟨.inl ⟨rfl,h1,h2,by simp⟩,1,(z.2.1 % (B:Nat)).toNat,0,0,KR z.2.2,?_,.inl ⟨rfl,by omega,rfl,rfl,by simp⟩,.inl (by omega)⟩
     simp only [POp.mk.injEq,and_true];refine ⟨rfl,?_,rfl,rfl⟩;omega
def PartsAt (w:World) (A:Option Addr) (len:Nat) (zs:List (Int×Int×Int)):Prop:=
 zs.length=len∧(0<len→∃ ab ao,A=some ⟨ab,ao,none⟩∧ab<w.heap.size∧∀ i z,zs[i]? = some z→w.cell? ⟨ab,ao+i*3,none⟩=some (.int .i64 z.1)∧w.cell? ⟨ab,ao+i*3+1,none⟩=some (.int .i64 z.2.1) ∧
  w.cell? ⟨ab,ao+i*3+2,none⟩=some (.int .i64 z.2.2))
theorem PartsAt.keep0 {w w':World} {A:Option Addr} {len:Nat} {zs:List (Int×Int×Int)} (h:PartsAt w A len zs) (hk:Keep [] w w'):PartsAt w' A len zs:=
 ⟨h.1,fun h0=>by
   obtain ⟨ab,ao,e,hb,hc⟩:=h.2 h0
   exact ⟨ab,ao,e,hk.lt hb,fun i z hz=>by
    obtain ⟨a,b,c⟩:=hc i z hz
    exact ⟨(hk.cell hb (by simp) _).trans a,(hk.cell hb (by simp) _).trans b,(hk.cell hb (by simp) _).trans c⟩⟩⟩
theorem JAt (w0:World) (B:Nat) (hB:1≤B∧B≤64) (A:Option Addr) (len cap:Nat) (zs:List (Int×Int×Int)) (hz:PartsAt w0 A len zs) (hlen:len≤60) :
 Calls Tryz.prog 23 #[.int .i64 (B:Nat),.slice A len cap] w0 fun e w'=>∃ OA oc oz,e = .returned (.slice OA len oc)∧oz.map (·.2)=(KP B zs len).1∧OHold w' w0.heap.size [] (.slice OA len oc) oz∧Keep [] w0 w':=by
 have hzl:zs.length=len:=hz.1
 have HZL:=KB hzl
 clear hzl
 go_enter Tryz.func23,Tryz.ntmps23
 go_wp2
 go_loopw [5,6,7] (fun v ep i wr=>∃ j oz,j≤len∧i = .int .i64 (j:Nat)∧ep = .int .i64 ((KP B zs j).2:Nat)∧Hid (oz.map (·.2)=(KP B zs j).1)∧Hid (oz.length=j)∧OHold wr w0.heap.size [] v oz∧Keep [] w0 wr) (fun _ _ i _=>len-(intOf i).toNat)
 case atStart=>exact ⟨0,[],Nat.zero_le _,rfl,rfl,rfl,rfl,OHold.nil _ _ _,Keep.refl _ _⟩
 case round=>
  obtain ⟨j,oz,hj,rfl,rfl,hoz,hol,hO,hkw⟩:=hrel
  obtain ⟨VA,vc,hvv,_⟩:=YB hO.row
  rw [XA hol] at hvv
  subst hvv
  by_cases hlt:j<len
  · obtain ⟨b,o,hA',hb,hc⟩:=hz.2 (by omega)
    subst hA'
    have hjl:j<zs.length:=by rw [XA HZL];exact hlt
    obtain ⟨c0,c1,c2⟩:=hc j zs[j] (List.getElem?_eq_getElem hjl)
    replace c0:=(hkw.cell (b:=b) hb (by simp) _).trans c0
    replace c1:=(hkw.cell (b:=b) hb (by simp) _).trans c1
    replace c2:=(hkw.cell (b:=b) hb (by simp) _).trans c2
    have hgd:zs.getD j (0,0,0)=zs[j]:=by rw [List.getD_eq_getElem?_getD,List.getElem?_eq_getElem hjl];rfl
    have hepj:=XAl B zs j
    have hbw:=hkw.lt hb
    clear hc
    generalize zs[j]=z at *
    obtain ⟨zk,zb,zn⟩:=z
    simp only at c0 c1 c2
    obtain ⟨bb,hbb,hbbB⟩:∃ bb:Nat,zb % (B:Nat)=(bb:Int)∧bb<B:=⟨(zb % (B:Nat)).toNat,by have:=Int.emod_nonneg zb (show ((B:Nat):Int)≠0 by omega);omega,by have:=Int.emod_nonneg zb (show ((B:Nat):Int)≠0 by omega);have:=Int.emod_lt_of_pos zb (show (0:Int)<((B:Nat):Int) by omega);omega⟩
    have HR:∀ W:World,Calls Tryz.prog 8 #[.int .i64 zb,.int .i64 (B:Nat)] W fun e w'=>e = .returned (.int .i64 (bb:Nat))∧W=w':=fun W=>by
     rw [← hbb];exact Xa _ _ _ (by omega) (by omega)
    obtain ⟨nn,hnn,hnn2⟩:∃ nn:Nat,zn % ((B:Nat)-(bb:Nat))=(nn:Int)∧nn<B:=⟨(zn % ((B:Nat)-(bb:Nat))).toNat,by have:=Int.emod_nonneg zn (show ((B:Nat):Int)-(bb:Nat)≠0 by omega);omega,by have:=Int.emod_nonneg zn (show ((B:Nat):Int)-(bb:Nat)≠0 by omega);have:=Int.emod_lt_of_pos zn (show (0:Int)<((B:Nat):Int)-(bb:Nat) by omega);omega⟩
    have HRn:∀ W:World,Calls Tryz.prog 8 #[.int .i64 zn,.int .i64 ((B:Nat)-(bb:Nat))] W fun e w'=>e = .returned (.int .i64 (nn:Nat))∧W=w':=fun W=>by
     rw [← hnn];exact Xa _ _ _ (by omega) (by omega)
    have hF:=Xl zn wr
    have HBB:=KB hbb
    have HNN:=KB hnn
    have HGD:=KB hgd
    have hv0:=hO.row
    clear hbb hnn hgd
    by_cases hq0:zk=0
    · subst hq0
      have hkA:Keep [] wr (wr.alloc (.cells #[.int .i64 3,.int .i64 0,.int .i64 0,.int .i64 (((KP B zs j).2:Nat)+1),.slice none 0 0] 137)):=(Keep.refl _ _).alloc _
      have hrdB:Rd (wr.alloc (.cells #[.int .i64 3,.int .i64 0,.int .i64 0,.int .i64 (((KP B zs j).2:Nat)+1),.slice none 0 0] 137)) (some ⟨wr.heap.size,0,none⟩) (1*5) (opc ((.slice none 0 0),⟨3,0,0,((KP B zs j).2:Nat)+1,[]⟩)):=by
       have:=Rd.of_blk (n:=5) (Blk.new wr 137 #[.int .i64 3,.int .i64 0,.int .i64 0,.int .i64 (((KP B zs j).2:Nat)+1),.slice none 0 0]) (by simp)
       simpa [opc] using this
      go_wp2_with (first
       | (refine (HR _).mono ?_;clear HR;rintro r w' ⟨rfl,rfl⟩)
       | (at_builtin;refine elemOps.wp_app rfl _ _ rfl w0.heap.size _ oz.length (oz.flatMap opc) rfl (JD hv0 _) ⟨wr.heap.size,0,none⟩ 1 1 (opc ((.slice none 0 0),⟨3,0,0,((KP B zs j).2:Nat)+1,[]⟩)) rfl hrdB (VAK _ rfl) (by have:=XA hol;omega) (by have:=XA hol;omega) (by have:=hkw.size;simp;omega) ?_))
      intro v' w6 hv' hk6 _ _
      obtain ⟨VA',vc',hvv',_⟩:=YB hv'
      subst hvv'
      have hO6:=(hO.keep0 hkA).snoc ((.slice none 0 0:Value),(⟨3,0,0,((KP B zs j).2:Nat)+1,[]⟩:POp)) (World.ownsRow_nil _ _ _ _) (by simp) hv' hk6
      have hkw6:Keep [] w0 w6:=(hkw.trans0 hkA).trans hk6 (fun x hx => .inr (own_mem (hO.keep0 hkA).row (by simpa using hx)).1)
      go_wp2
      go_round
      case rel=>
       have hs1:(KP B zs (j+1)).1=(KP B zs j).1++[(⟨3,0,0,((KP B zs j).2:Nat)+1,[]⟩:POp)]:=by simp only [KP,XA HGD,YN];rfl
       have hs2:(KP B zs (j+1)).2=(KP B zs j).2+1:=by simp only [KP,XA HGD,YN];rfl
       refine ⟨j+1,oz++[((.slice none 0 0:Value),(⟨3,0,0,((KP B zs j).2:Nat)+1,[]⟩:POp))],by omega,by go_num,by rw [hs2];go_num,?_,?_,hO6,hkw6⟩
       · show _=_;rw [List.map_append,XA hoz,hs1];rfl
       · show _=_;rw [List.length_append,XA hol];rfl
      case measure=>simp [intOf];omega
    · by_cases hq1:zk=1
      · subst hq1
        have hkA:Keep [] wr (wr.alloc (.cells #[.int .i64 2,.int .i64 bb,.int .i64 (1+(nn:Nat)),.int .i64 0,.slice none 0 0] 137)):=(Keep.refl _ _).alloc _
        have hrdB:Rd (wr.alloc (.cells #[.int .i64 2,.int .i64 bb,.int .i64 (1+(nn:Nat)),.int .i64 0,.slice none 0 0] 137)) (some ⟨wr.heap.size,0,none⟩) (1*5) (opc ((.slice none 0 0),⟨2,(bb:Nat),1+(nn:Nat),0,[]⟩)):=by
         have:=Rd.of_blk (n:=5) (Blk.new wr 137 #[.int .i64 2,.int .i64 bb,.int .i64 (1+(nn:Nat)),.int .i64 0,.slice none 0 0]) (by simp)
         simpa [opc] using this
        go_wp2_with (first
         | (go_at_call 8;first | (refine (HR _).mono ?_;clear HR;rintro r w' ⟨rfl,rfl⟩) | (refine (HRn _).mono ?_;clear HRn;rintro r w' ⟨rfl,rfl⟩))
         | (at_builtin;refine elemOps.wp_app rfl _ _ rfl w0.heap.size _ oz.length (oz.flatMap opc) rfl (JD hv0 _) ⟨wr.heap.size,0,none⟩ 1 1 (opc ((.slice none 0 0),⟨2,(bb:Nat),1+(nn:Nat),0,[]⟩)) rfl hrdB (VAK _ rfl) (by have:=XA hol;omega) (by have:=XA hol;omega) (by have:=hkw.size;simp;omega) ?_))
        intro v' w6 hv' hk6 _ _
        obtain ⟨VA',vc',hvv',_⟩:=YB hv'
        subst hvv'
        have hO6:=(hO.keep0 hkA).snoc ((.slice none 0 0:Value),(⟨2,(bb:Nat),1+(nn:Nat),0,[]⟩:POp)) (World.ownsRow_nil _ _ _ _) (by simp) hv' hk6
        have hkw6:Keep [] w0 w6:=(hkw.trans0 hkA).trans hk6 (fun x hx => .inr (own_mem (hO.keep0 hkA).row (by simpa using hx)).1)
        go_wp2
        go_round
        case rel=>
         have hs1:(KP B zs (j+1)).1=(KP B zs j).1++[(⟨2,(bb:Nat),1+(nn:Nat),0,[]⟩:POp)]:=by simp only [KP,XA HGD,YN];try simp [XA HBB,XA HNN]
         have hs2:(KP B zs (j+1)).2=(KP B zs j).2:=by simp only [KP,XA HGD,YN];try simp [XA HBB,XA HNN]
         refine ⟨j+1,oz++[((.slice none 0 0:Value),(⟨2,(bb:Nat),1+(nn:Nat),0,[]⟩:POp))],by omega,by go_num,by rw [hs2],?_,?_,hO6,hkw6⟩
         · show _=_;rw [List.map_append,XA hoz,hs1];rfl
         · show _=_;rw [List.length_append,XA hol];rfl
        case measure=>simp [intOf];omega
      · go_wp2_with (first
         | (go_at_call 8;refine (HR _).mono ?_;clear HR;rintro r w' ⟨rfl,rfl⟩)
         | (go_at_call 11
            refine hF.mono ?_
            clear hF
            rintro r w2 ⟨u,rfl,hu,hk2⟩
            obtain ⟨UA,uc,rfl,_⟩:=YB hu
            have hkA:=hk2.alloc (.cells #[.int .i64 1,.int .i64 bb,.int .i64 0,.int .i64 0,.slice UA 64 uc] 137)
            have hrdB:Rd (w2.alloc (.cells #[.int .i64 1,.int .i64 bb,.int .i64 0,.int .i64 0,.slice UA 64 uc] 137)) (some ⟨w2.heap.size,0,none⟩) (1*5) (opc ((.slice UA 64 uc),⟨1,(bb:Nat),0,0,KR zn⟩)):=by
             have:=Rd.of_blk (n:=5) (Blk.new w2 137 #[.int .i64 1,.int .i64 bb,.int .i64 0,.int .i64 0,.slice UA 64 uc]) (by simp)
             simpa [opc] using this)
         | (at_builtin;refine elemOps.wp_app rfl _ _ rfl w0.heap.size _ oz.length (oz.flatMap opc) rfl (JD (QB hv0 hk2) _) ⟨w2.heap.size,0,none⟩ 1 1 (opc ((.slice UA 64 uc),⟨1,(bb:Nat),0,0,KR zn⟩)) rfl hrdB (VAK _ rfl) (by have:=XA hol;omega) (by have:=XA hol;omega) (by have:=hkw.size;have:=hk2.size;simp;omega) ?_))
        intro v' w6 hv' hk6 _ _
        obtain ⟨VA',vc',hvv',_⟩:=YB hv'
        subst hvv'
        have hO6:=(hO.keep0 hkA).snoc ((.slice UA 64 uc:Value),(⟨1,(bb:Nat),0,0,KR zn⟩:POp)) (YC (JD (by simpa using hu) _) hkw.size) (by simp) hv' hk6
        have hkw6:Keep [] w0 w6:=(hkw.trans0 hkA).trans hk6 (fun x hx => .inr (own_mem (hO.keep0 hkA).row (by simpa using hx)).1)
        go_wp2
        go_round
        case rel=>
         have hs1:(KP B zs (j+1)).1=(KP B zs j).1++[(⟨1,(bb:Nat),0,0,KR zn⟩:POp)]:=by simp only [KP,XA HGD,YN];try simp [hq0,hq1,XA HBB]
         have hs2:(KP B zs (j+1)).2=(KP B zs j).2:=by simp only [KP,XA HGD,YN];try simp [hq0,hq1,XA HBB]
         refine ⟨j+1,oz++[((.slice UA 64 uc:Value),(⟨1,(bb:Nat),0,0,KR zn⟩:POp))],by omega,by go_num,by rw [hs2],?_,?_,hO6,hkw6⟩
         · show _=_;rw [List.map_append,XA hoz,hs1];rfl
         · show _=_;rw [List.length_append,XA hol];rfl
        case measure=>simp [intOf];omega
  · obtain rfl:j=len:=by omega
    go_wp2
    go_ret
    exact ⟨VA,vc,oz,rfl,XA hoz,hO,hkw⟩
end
section
open Go.RowKit Go.Shelf
inductive DoesL (B:Nat) (S:PS):List POp→PS→Prop where
 | nil:DoesL B S [] S
 | snoc {l:List POp} {o:POp} {S1 S2:PS} (h:DoesL B S l S1) (k:Does B S1 o S2):DoesL B S (l++[o]) S2
theorem FrSt.step {w0 w:World} {B f r s d x:Nat} {Fs Fx:List Nat} {S:PS} {i mW ep:Nat} (h:FrSt w0 w B f r s d x Fs Fx ⟨S,i+1,ZF mW⟩) (hm:1≤mW) (hv:S.st.view=1∧S.st.seq=i∧S.st.epoch=ep) (hg:Good B S i (2*i)) (hi:i≤40)
 (k b c e n:Nat) (xs:List UInt8) (A:Option Addr) (cp:Nat) (ha:Rd w A (25+n) (bys (VH k 1 (i+1) b c e 0 xs))) (ho:OpMay k b c e n) (hlen:xs.length=n) (hfor:b+max c 1≤B∨k=3) (hof:Jj B ⟨k,b,c,e,xs⟩) (he:k=3→e=ep+1) :
 Calls Tryz.prog 25 #[.pointer (some ⟨f,0,none⟩),.slice A (25+n) cp] w fun en w'=>∃ (UA:Option Addr) (uc:Nat) (Fs' Fx':List Nat) (S':PS),en = .returned (.tuple #[.slice UA 25 uc,.int .i64 0])∧FrSt w0 w' B f r s d x Fs' Fx' ⟨S',i+1+1,ZF mW⟩ ∧
  (S'.st.view=1∧S'.st.seq=i+1∧S'.st.epoch=ZBK k ep)∧(k=3→S'.st.done=i+1)∧Good B S' (i+1) (2*(i+1))∧Does B S ⟨k,b,c,e,xs⟩ S'∧Keep (YP r Fs Fx) w w'∧Grow w (YP r Fs Fx) (YP r Fs' Fx'):=by
 have hv':((1:Nat):Int)=(S.st.view:Nat):=by rw [hv.1]
 refine VAN h.blk ((VAr w w0.heap.size r s d x Fs Fx B _ h.rep h.kept.size k b c e n (i+1) xs A cp (by simp only;rw [hv.1];exact ha) ho hlen hfor (by omega) i (2*i) hg (by rw [Jf];omega) (by omega) (show i+1≤1000000 by omega) (VAS mW B) (by simp) (by simp;omega) (Yu _ _) hof).mono ?_)
 rintro en w' ⟨v,Fs',Fx',R',er,h1,h2,h3,h4,h5,h6,h7⟩
 simp only [length_emptyW] at h2 h3
 have hlt:(i+1) % mW<mW:=Nat.mod_lt _ hm
 rw [YAJ hlt _ rfl] at h3
 rcases ZBB hm (q:=⟨v,⟨k,b,c,e,xs⟩,true⟩) rfl h2 with ⟨q1,q2,_,_⟩ | ⟨S',q1,q2,q3⟩
 · exfalso
   apply q2
   have hk3:k=3:=by simp only at q1;omega
   have:=he hk3
   rw [hv.2.2]
   simp only
   omega
 · obtain ⟨hgd,hst⟩:=q1.good hof hg (by omega) (by omega)
   obtain ⟨d1,d2,d3,d4,d5,d6⟩:=YBD (st:=S.st) (k:=k) (b:=b) (c:=c) (e:=e) (xs:=xs)
   replace hst:S'.st=JAF S.st ⟨k,b,c,e,xs⟩:=hst
   subst q3
   rcases h7 with ⟨_,u,h8,h9⟩ | ⟨h7,_⟩
   · obtain ⟨UA,uc,rfl,_⟩:=YB h9
     exact ⟨_,_,h8,UA,uc,Fs',Fx',S',h8,h.turn h1 h5 h6,⟨by rw [hst,d1,hv.1],by rw [hst,d3,hv.2.1],by rw [hst,d4,hv.2.2]⟩,fun h=>by rw [hst,d5 h,hv.2.1],hgd,q1,h5,h6⟩
   · omega
theorem ZAv (w0 w:World) (B f r s d x len oc m:Nat) (F Fx:List Nat) (S0:PS) (OA:Option Addr) (oz:List (Value×POp)) (zs:List (Int×Int×Int)) (b0:Nat) (h:FrSt w0 w B f r s d x F Fx ⟨S0,0+1,ZF m⟩) (hm:1≤m) (hB1:1≤B) (hB2:B≤64) (hv:S0.st.view=1∧S0.st.seq=0∧S0.st.epoch=0) (hg:Good B S0 0 0) (hx:Ext B S0) (hlen:len≤40)
 (hoz:oz.map (·.2)=(KP B zs len).1) (hO:OHold w b0 (YP r F Fx) (.slice OA len oc) oz) :
 Calls Tryz.prog 24 #[.pointer (some ⟨f,0,none⟩),.slice OA len oc] w fun e w'=>e = .returned (.bool true)∧∃ Fs' Fx' S',FrSt w0 w' B f r s d x Fs' Fx' ⟨S',len+1,ZF m⟩∧(S'.st.view=1∧S'.st.seq=len∧S'.st.epoch=(KP B zs len).2)∧Good B S' len (2*len)∧Ext B S'∧S'.st.gen=S0.st.gen ∧
  DoesL B S0 (KP B zs len).1 S'∧OHold w' b0 (YP r Fs' Fx') (.slice OA len oc) oz∧Keep (YP r F Fx) w w'∧Grow w (YP r F Fx) (YP r Fs' Fx'):=by
 have hozl:oz.length=len:=by have:=congrArg List.length hoz;rwa [List.length_map,YAM] at this
 have HOZ:=KB hoz
 have HOL:=KB hozl
 clear hoz hozl
 go_enter Tryz.func24,Tryz.ntmps24
 go_wp2_with fail
 go_loopw [5] (fun i wr=>∃ (k:Nat) (Fs Fx1:List Nat) (S:PS),k≤len∧i = .int .i64 (k:Nat)∧FrSt w0 wr B f r s d x Fs Fx1 ⟨S,k+1,ZF m⟩∧Hid (S.st.view=1∧S.st.seq=k∧S.st.epoch=(KP B zs k).2)∧Good B S k (2*k)∧Ext B S∧Hid (S.st.gen=S0.st.gen)∧Hid (DoesL B S0 (KP B zs k).1 S)∧OHold wr b0 (YP r Fs Fx1) (.slice OA len oc) oz∧Keep (YP r F Fx) w wr∧Grow w (YP r F Fx) (YP r Fs Fx1)) (fun i _=>len-(intOf i).toNat)
 case atStart=>exact ⟨0,F,Fx,S0,by omega,rfl,h,hv,hg,hx,rfl,DoesL.nil,hO,Keep.refl _ _,Grow.refl _ _⟩
 case round=>
  clear h hv hg hx hO
  obtain ⟨k,Fs,Fx1,S,hk,rfl,hL,hst,hg,hx,hgn,hDL,hO,hkT,hgT⟩:=hrel
  by_cases hlt:k<len
  · have hkz:k<oz.length:=by rw [XA HOL];exact hlt
    obtain ⟨pv,hpv⟩:∃ p,p=oz[k]:=⟨_,rfl⟩
    have hop:pv.2=(YN B (zs.getD k (0,0,0)) (KP B zs k).2).1:=by
     have h1:(oz.map (·.2))[k]? = some pv.2:=by rw [List.getElem?_map,List.getElem?_eq_getElem hkz,hpv];rfl
     rw [XA HOZ,VAu B zs len k hlt] at h1
     exact (Option.some.inj h1).symm
    have hepk:=XAl B zs k
    obtain ⟨hfor,k1,b1,c1,e1,xs,hpo,hmay,hfor2⟩:=ZAS B ⟨hB1,hB2⟩ (zs.getD k (0,0,0)) (KP B zs k).2 (by omega)
    have hep:=KAd B (zs.getD k (0,0,0)) (KP B zs k).2
    have hnx:=VAi B zs k
    rw [← hop] at hpo hfor hep
    rw [← hnx] at hep
    have hda:=hO.data pv (by rw [hpv];exact List.getElem_mem hkz)
    have hrdO:=hO.rd (A:=OA) (c:=oc) (by rw [XA HOL])
    rw [XA HOL] at hrdO
    obtain ⟨ob,oo,hOA,hobl,o0,o1,o2,o3,o4⟩:=hrdO.at_ hlt hkz
    rw [← hpv] at o0 o1 o2 o3 o4
    have hD1:(KP B zs (k+1)).1=(KP B zs k).1++[pv.2]:=by rw [hop];rfl
    obtain ⟨DV,po⟩:=pv
    simp only at hpo hda o0 o1 o2 o3 o4 hop hfor hep hD1
    subst hpo
    simp only at hda o0 o1 o2 o3 o4 hep
    obtain ⟨DA,dc,rfl,_,hdc,_⟩:=YB hda
    have hE2:(KP B zs (k+1)).2=ZBK k1 (KP B zs k).2∧(k1=3→e1=(KP B zs k).2+1):=by
     unfold ZBK
     rcases hep with ⟨h1,h2,h3⟩ | ⟨h1,h2⟩
     · have:k1=3:=by omega
       exact ⟨by rw [if_pos this,h3],fun _=>by omega⟩
     · have:¬ k1=3:=by omega
       exact ⟨by rw [if_neg this,h2],fun h=>absurd h this⟩
    have HE2:=KB hE2
    have HD1:=KB hD1
    have hW:Calls Tryz.prog 76 #[.int .i64 ((1:Nat):Int),.int .i64 (((k+1:Nat)):Int),.agg #[.int .i64 k1,.int .i64 b1,.int .i64 c1,.int .i64 e1,.slice DA xs.length dc]] wr _:=XAa 1 (k+1) k1 b1 c1 e1 xs.length dc DA xs (by omega) (by omega) hmay wr (Rd.of_own hda) (by omega)
    rw [Int.natCast_add] at hW
    have HOP:=KB hop
    have HPV:=KB hpv
    have HEP:=KB hep
    have HNX:=KB hnx
    have HOA:=KB hOA
    clear hop hpv hep hnx hE2 hrdO hD1
    subst hOA
    obtain ⟨n1,hn1⟩:∃ n,n=xs.length:=⟨_,rfl⟩
    rw [← hn1] at hW hmay hda o4
    have HN1:=KB hn1
    have hn64:n1≤64:=by rcases hmay with ⟨_,_,_,_,h⟩ | ⟨_,_,_,_,_,h⟩ | ⟨_,_,_,_,_,h⟩ <;> omega
    clear hn1
    go_wp2_with (first
     | (go_at_call 76
        refine hW.mono ?_
        clear hW
        rintro e w5 ⟨u,rfl,hu,hk5⟩
        obtain ⟨UA,uc,rfl,_⟩:=YB hu
        have hT:=(hL.keep0 hk5).step hm (XA hst) hg (by omega) k1 b1 c1 e1 n1 xs UA uc (Rd.of_own hu) hmay (XA HN1).symm hfor2 hfor (XA HE2).2)
     | (go_at_call 25
        refine hT.mono ?_
        clear hT
        rintro e w6 ⟨VA,vc,Fs',Fx',S',rfl,hL6,hst6,_,hg6,hdo6,hk6,hgr6⟩))
    go_roundw
    case rel=>
     refine ⟨k+1,Fs',Fx',S',by omega,by go_num,hL6,?_,hg6,hdo6.ext hfor hg (by omega) (by omega) hx,?_,?_,(hO.keep0 hk5).turn hk6 (fun y hy=>hy) hgr6,(hkT.trans0 hk5).trans hk6 hgT,hgT.trans (hkT.trans0 hk5).size hgr6⟩
     · show _∧_∧_
       rw [(XA HE2).1]
       exact hst6
     · show S'.st.gen=_
       rw [← XA hgn]
       exact hdo6.gen
     · show DoesL _ _ _ _
       rw [XA HD1]
       exact DoesL.snoc (XA hDL) hdo6
    case measure=>simp [intOf];omega
  · obtain rfl:k=len:=by omega
    go_wp2_with fail
    go_ret
    exact ⟨rfl,Fs,Fx1,S,hL,XA hst,hg,hx,XA hgn,XA hDL,hO,hkT,hgT⟩
end
section
open Go.RowKit Go.Shelf
section
variable (w:World) (base s d g t p m:Nat) (Fd Ft Fw Fm:List Nat) (L0 L1:Value) (B:Nat) (S:PS) (h:StoreIs w base s d g t p m Fd Ft Fw Fm L0 L1 B S)
include h
theorem Zg (hm:S.st.mode=1) (x:Bool):Calls Tryz.prog 51 #[.pointer (some ⟨s,0,none⟩),.int .i64 2,.bool x] w fun e w'=>e = .returned (.int .i64 7)∧w=w':=by
 obtain ⟨c0,c1,c2,c3,c4,c5,c6,c7,c8,c9,c10,c11,c12,c13,c14,c15,c16,c17⟩:=QD h.blk
 rw [hm] at c5
 go_enter Tryz.func51,Tryz.ntmps51
 go_wp2_with fail
 go_ret
 exact ⟨rfl,rfl⟩
theorem ZAO (b n:Int):Calls Tryz.prog 52 #[.pointer (some ⟨s,0,none⟩),.int .i64 b,.int .i64 n] w fun e w'=>∃ v,e = .returned (.bool v)∧w=w':=by
 have hI:=ImageS_is w base s d g t p m Fd Ft Fw Fm L0 L1 B S h
 have hB:=BlocksS_is w base s d g t p m Fd Ft Fw Fm L0 L1 B S h
 have h64:B≤64:=h.log.geom.few
 have c1:(1:Int)≤n∨¬ (1:Int)≤n:=by omega
 have c2:n≤(B:Nat)∨¬ n≤(B:Nat):=by omega
 have c3:0≤b∨¬ 0≤b:=by omega
 have c4:b≤(B:Nat)-n∨¬ b≤(B:Nat)-n:=by omega
 rcases c1 with h1 | h1 <;> rcases c2 with h2 | h2 <;> rcases c3 with h3 | h3 <;> rcases c4 with h4 | h4
 all_goals
  go_enter Tryz.func52,Tryz.ntmps52
  go_wp2_with (first | (refine hI.mono ?_;clear hI;rintro e w' ⟨rfl,rfl⟩) | (refine hB.mono ?_;clear hB;rintro e w' ⟨rfl,rfl⟩))
  try (go_ret;first | exact ⟨true,rfl,rfl⟩ | exact ⟨false,rfl,rfl⟩ | exact ⟨decide (b≤(B:Nat)-n),rfl,rfl⟩ | exact ⟨.inl rfl,rfl⟩ | exact ⟨.inr rfl,rfl⟩)
theorem VAZ (hm:S.st.mode=1) (b:Int) (A:Option Addr) (n c:Nat):Calls Tryz.prog 90 #[.pointer (some ⟨s,0,none⟩),.int .i64 b,.slice A n c] w fun e w'=>e = .returned (.int .i64 7)∧w=w':=by
 have hH:=ZAO w base s d g t p m Fd Ft Fw Fm L0 L1 B S h b 1
 have hA:=Zg w base s d g t p m Fd Ft Fw Fm L0 L1 B S h hm
 have c1:((n:Nat):Int)=64∨¬ ((n:Nat):Int)=64:=by omega
 go_enter Tryz.func90,Tryz.ntmps90
 rcases c1 with h1 | h1
 all_goals
  go_wp2_with (first
   | (go_at_call 52;refine hH.mono ?_;clear hH;rintro e w' ⟨v,rfl,rfl⟩;cases v)
   | (go_at_call 51;refine (hA _).mono ?_;rintro e w' ⟨rfl,rfl⟩))
  all_goals
   go_ret
   exact ⟨rfl,rfl⟩
theorem ZAR (hm:S.st.mode=1) (b n:Int):Calls Tryz.prog 91 #[.pointer (some ⟨s,0,none⟩),.int .i64 b,.int .i64 n] w fun e w'=>e = .returned (.int .i64 7)∧w=w':=by
 have hH:=ZAO w base s d g t p m Fd Ft Fw Fm L0 L1 B S h b n
 have hA:=Zg w base s d g t p m Fd Ft Fw Fm L0 L1 B S h hm
 go_enter Tryz.func91,Tryz.ntmps91
 go_wp2_with (first
  | (go_at_call 52;refine hH.mono ?_;clear hH;rintro e w' ⟨v,rfl,rfl⟩)
  | (go_at_call 51;refine (hA _).mono ?_;rintro e w' ⟨rfl,rfl⟩))
 go_ret
 exact ⟨rfl,rfl⟩
theorem XAX (hm:S.st.mode=1):Calls Tryz.prog 92 #[.pointer (some ⟨s,0,none⟩)] w fun e w'=>e = .returned (.int .i64 7)∧w=w':=by
 have hA:=Zg w base s d g t p m Fd Ft Fw Fm L0 L1 B S h hm true
 go_enter Tryz.func92,Tryz.ntmps92
 go_wp2_with (refine hA.mono ?_;rintro e w' ⟨rfl,rfl⟩)
 go_ret
 exact ⟨rfl,rfl⟩
end
section
variable {w0 w:World} {B f r s d x:Nat} {Fs Fx:List Nat} {R:RS} (h:FrSt w0 w B f r s d x Fs Fx R)
include h
theorem Vn (b:Int) (A:Option Addr) (n c:Nat):Calls Tryz.prog 34 #[.pointer (some ⟨f,0,none⟩),.int .i64 b,.slice A n c] w fun e w'=>e = .returned (.int .i64 7)∧w=w':=by
 have hS:=KO w f r s x h.blk h.rep.blk
 obtain ⟨g,t,p,m,Fd,Ft,Fw,Fm,L0,L1,hs,_⟩:=h.rep.st
 have hP:=VAZ w _ s d g t p m Fd Ft Fw Fm L0 L1 B _ hs h.rep.mode b A n c
 go_enter Tryz.func34,Tryz.ntmps34
 go_wp2_with (first
  | (go_at_call 79;refine hS.mono ?_;clear hS;rintro e w' ⟨rfl,rfl⟩)
  | (go_at_call 90;refine hP.mono ?_;clear hP;rintro e w' ⟨rfl,rfl⟩))
 go_ret
 exact ⟨rfl,rfl⟩
theorem VAV (b n:Int):Calls Tryz.prog 35 #[.pointer (some ⟨f,0,none⟩),.int .i64 b,.int .i64 n] w fun e w'=>e = .returned (.int .i64 7)∧w=w':=by
 have hS:=KO w f r s x h.blk h.rep.blk
 obtain ⟨g,t,p,m,Fd,Ft,Fw,Fm,L0,L1,hs,_⟩:=h.rep.st
 have hP:=ZAR w _ s d g t p m Fd Ft Fw Fm L0 L1 B _ hs h.rep.mode b n
 go_enter Tryz.func35,Tryz.ntmps35
 go_wp2_with (first
  | (go_at_call 79;refine hS.mono ?_;clear hS;rintro e w' ⟨rfl,rfl⟩)
  | (go_at_call 91;refine hP.mono ?_;clear hP;rintro e w' ⟨rfl,rfl⟩))
 go_ret
 exact ⟨rfl,rfl⟩
theorem FlushF_back:Calls Tryz.prog 36 #[.pointer (some ⟨f,0,none⟩)] w fun e w'=>e = .returned (.int .i64 7)∧w=w':=by
 have hS:=KO w f r s x h.blk h.rep.blk
 obtain ⟨g,t,p,m,Fd,Ft,Fw,Fm,L0,L1,hs,_⟩:=h.rep.st
 have hP:=XAX w _ s d g t p m Fd Ft Fw Fm L0 L1 B _ hs h.rep.mode
 go_enter Tryz.func36,Tryz.ntmps36
 go_wp2_with (first
  | (go_at_call 79;refine hS.mono ?_;clear hS;rintro e w' ⟨rfl,rfl⟩)
  | (go_at_call 92;refine hP.mono ?_;clear hP;rintro e w' ⟨rfl,rfl⟩))
 go_ret
 exact ⟨rfl,rfl⟩
theorem Qv (b:Int):Calls Tryz.prog 33 #[.pointer (some ⟨f,0,none⟩),.int .i64 b] w fun e w'=>e = .returned (.tuple #[.slice none 0 0,.int .i64 7])∧Keep [] w w':=by
 have hS:=KO w f r s x h.blk h.rep.blk
 have hT:=XL w _ s d Fs B R.S h.rep.st
 have hmo:R.S.st.mode=1:=h.rep.mode
 rw [hmo] at hT
 have hfd:=fun (a0 a1 a2 a3 a4 a5 a6 a7 a8 a9:Value) W=>JE (P:=Tryz.prog) Tryz.underlying72 0 rfl Tryz.isAgg3 #[a0,a1,a2,a3,a4,a5,a6,a7,a8,a9] rfl W
 go_enter Tryz.func33,Tryz.ntmps33
 go_wp2_with (first
  | (go_at_call 79;refine hS.mono ?_;clear hS;rintro e w' ⟨rfl,rfl⟩)
  | (go_at_call 85;refine hT.mono ?_;clear hT;rintro e w' ⟨rfl,hk⟩))
 go_ret2
 exact ⟨rfl,hk⟩
end
end
end Go.Proofs.YtkonbpfbjiepfaaGreat
