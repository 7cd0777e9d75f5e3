/-
  A part of the proof: lemmas, and contracts of functions; their conditions stand in them.
-/
import Derived.Test.YtmoagodllhdemaaGreatE36
import Derived.Test.YtmoagodllhdemaaGreatE09
import Derived.Test.YtmoagodllhdemaaGreatE13
import Derived.Test.YtmoagodllhdemaaGreatE35
import Derived.Test.YtmoagodllhdemaaGreatE31
import Derived.Test.YtmoagodllhdemaaGreatE27
import Derived.Test.YtmoagodllhdemaaGreatE12
import Derived.Test.YtmoagodllhdemaaGreatE08
import Derived.Test.YtmoagodllhdemaaGreatE34
namespace Go.Proofs.YtmoagodllhdemaaGreat
set_option linter.unusedSimpArgs false
set_option linter.unusedVariables false
set_option maxHeartbeats 8000000
set_option maxRecDepth 40000
section
open Go.RowKit Go.Shelf
section
variable (w:World) (base r s d x:Nat) (Fs Fx:List Nat) (B:Nat) (R:RS) (h:ReplicaIs w base r s d x Fs Fx B R)
include h
theorem ImageAt_st:∃ m,(∀ W,Keep [] w W→Calls Tryz.prog 50 #[.pointer (some ⟨s,0,none⟩)] W fun e w'=>e = .returned (.pointer (some ⟨m,0,none⟩))∧W=w')∧(∀ W,Keep [] w W→Calls Tryz.prog 112 #[.pointer (some ⟨m,0,none⟩)] W fun e w'=>e = .returned (.int .i64 (B:Nat))∧W=w')∧B≤64:=by
 obtain ⟨g,t,p,m,Fd,Ft,Fw,Fm,L0,L1,h2,hf⟩:=h.st
 exact ⟨m,fun W hk=>ImageS_is W base s d g t p m Fd Ft Fw Fm L0 L1 B R.S (h2.keep0 hk),fun W hk=>BlocksS_is W base s d g t p m Fd Ft Fw Fm L0 L1 B R.S (h2.keep0 hk),h2.log.geom.few⟩
theorem Kf (k v q b c e dn:Nat) (D:Value) (hk:k=1∨k=2) (hb:b+max c 1≤B) (A:Option Addr) (n m:Nat) (hD:D = .slice A n m):Calls Tryz.prog 53 #[.pointer (some ⟨r,0,none⟩),.agg #[.int .i64 k,.int .i64 v,.int .i64 q,.int .i64 b,.int .i64 c,.int .i64 e,.int .i64 dn,D]] w fun e w'=>e = .returned (.bool false)∧Keep [] w w':=by
 subst hD
 obtain ⟨mm,hI,hBl,h64⟩:=ImageAt_st w base r s d x Fs Fx B R h
 obtain ⟨c0,c1⟩:=h.cells
 have hrl:=h.blk.lt
 obtain ⟨mx,hmx⟩:∃ mx:Nat,max ((c:Nat):Int) 1=(mx:Nat)∧b+mx≤B:=⟨max c 1,by omega,hb⟩
 obtain ⟨hmx,hb2⟩:=hmx
 have hkA:Keep [] w (w.alloc (.cells #[.int .i64 k,.int .i64 v,.int .i64 q,.int .i64 b,.int .i64 c,.int .i64 e,.int .i64 dn,.slice A n m] 85)):=(Keep.refl _ _).alloc _
 have hbF:=Blk.new w 85 #[.int .i64 k,.int .i64 v,.int .i64 q,.int .i64 b,.int .i64 c,.int .i64 e,.int .i64 dn,.slice A n m]
 have c0A:=(h.keep0 hkA).cells.1
 clear h hb
 go_enter Tryz.func53,Tryz.ntmps53
 go_wp2_with fail
 obtain ⟨f0,f1,f2,f3,f4,f5,f6,f7⟩:=YB hbF
 have hbI:((b:Nat):Int)+(mx:Nat)≤(B:Nat):=by omega
 rcases hk with rfl | rfl
 · refine KA (fun w'=>w'.cell? ⟨w.heap.size,0,none⟩=some (.int .i64 ((1:Nat):Int))∧w'.cell? ⟨w.heap.size,3,none⟩=some (.int .i64 (b:Nat))∧w'.cell? ⟨r,0,none⟩=some (.pointer (some ⟨s,0,none⟩))) 23 [(0,false),(1,false),(2,false),(3,false),(4,false),(5,false),(6,false),(7,false),(8,false),(9,false),(10,false),(11,false),(12,false),(13,false),(14,false),(15,false),(16,false),(17,false),(18,false),(19,false),(20,false),(21,true),(22,true)]
    (by kernel_rfl) (by kernel_rfl) (fun _ _ d _ _ h=>by cases d <;> exact h) ⟨f0,f3,c0A⟩ ?_
   simp only [PI]
   iterate 8 (refine ZB ?_ (by rfl) ?_ ?_;rotate_left;(focus (rintro W ⟨hW0,hW1,hW2⟩;go_simp;try with_reducible rfl));simp only [Act.put,PU])
   iterate 3 (refine Qe (by rfl) ?_;simp only [Act.put,PU])
   iterate 10 (refine ZB ?_ (by rfl) ?_ ?_;rotate_left;(focus (rintro W ⟨hW0,hW1,hW2⟩;go_simp;try with_reducible rfl));simp only [Act.put,PU])
   refine KB (by rfl) (fun K hK=>?_)
   go_wp2_with (refine (hI _ hkA.drew).mono ?_;rintro e w' ⟨rfl,rfl⟩)
   refine hK _ _ (⟨f0,f3,c0A⟩) ?_
   clear hK K
   try simp only [Act.put,PU]
   refine KB (by rfl) (fun K hK=>?_)
   go_wp2_with (refine (hBl _ hkA.drew).mono ?_;rintro e w' ⟨rfl,rfl⟩)
   refine hK _ _ (⟨f0,f3,c0A⟩) ?_
   clear hK K
   try simp only [Act.put,PU]
   refine ZC ?_
   go_wp2_with fail
   go_ret
   exact ⟨by simpa using hbI,hkA.drew⟩
 · refine KA (fun w'=>w'.cell? ⟨w.heap.size,0,none⟩=some (.int .i64 ((2:Nat):Int))∧w'.cell? ⟨w.heap.size,3,none⟩=some (.int .i64 (b:Nat))∧w'.cell? ⟨r,0,none⟩=some (.pointer (some ⟨s,0,none⟩))) 23 [(0,false),(1,false),(2,false),(3,false),(4,false),(5,false),(6,false),(7,false),(8,false),(9,false),(10,false),(11,false),(12,false),(13,false),(14,false),(15,false),(16,false),(17,false),(18,false),(19,false),(20,false),(21,true),(22,true)]
    (by kernel_rfl) (by kernel_rfl) (fun _ _ d _ _ h=>by cases d <;> exact h) ⟨f0,f3,c0A⟩ ?_
   simp only [PI]
   iterate 21 (refine ZB ?_ (by rfl) ?_ ?_;rotate_left;(focus (rintro W ⟨hW0,hW1,hW2⟩;go_simp;try with_reducible rfl));simp only [Act.put,PU])
   refine KB (by rfl) (fun K hK=>?_)
   go_wp2_with (refine (hI _ hkA.drew).mono ?_;rintro e w' ⟨rfl,rfl⟩)
   refine hK _ _ (⟨f0,f3,c0A⟩) ?_
   clear hK K
   try simp only [Act.put,PU]
   refine KB (by rfl) (fun K hK=>?_)
   go_wp2_with (refine (hBl _ hkA.drew).mono ?_;rintro e w' ⟨rfl,rfl⟩)
   refine hK _ _ (⟨f0,f3,c0A⟩) ?_
   clear hK K
   try simp only [Act.put,PU]
   refine ZC ?_
   go_wp2_with fail
   go_ret
   exact ⟨by simpa using hbI,hkA.drew⟩
omit h in
theorem Yl (v q b c e dn:Nat) (A:Option Addr) (n m:Nat):Calls Tryz.prog 53 #[.pointer (some ⟨r,0,none⟩),.agg #[.int .i64 3,.int .i64 v,.int .i64 q,.int .i64 b,.int .i64 c,.int .i64 e,.int .i64 dn,.slice A n m]] w fun e w'=>e = .returned (.bool false)∧Keep [] w w':=by
 have hkA:Keep [] w (w.alloc (.cells #[.int .i64 3,.int .i64 v,.int .i64 q,.int .i64 b,.int .i64 c,.int .i64 e,.int .i64 dn,.slice A n m] 85)):=(Keep.refl _ _).alloc _
 have hbF:=Blk.new w 85 #[.int .i64 3,.int .i64 v,.int .i64 q,.int .i64 b,.int .i64 c,.int .i64 e,.int .i64 dn,.slice A n m]
 obtain ⟨mx,hmx⟩:∃ mx:Int,max ((c:Nat):Int) 1=mx:=⟨_,rfl⟩
 go_enter Tryz.func53,Tryz.ntmps53
 go_wp2_with fail
 obtain ⟨f0,f1,f2,f3,f4,f5,f6,f7⟩:=YB hbF
 refine KA (fun w'=>w'.cell? ⟨w.heap.size,0,none⟩=some (.int .i64 3)) 23 [(0,false),(1,false),(2,false),(3,false),(4,false),(5,false),(6,false),(7,false),(8,false),(9,false),(10,false),(11,false),(12,false),(13,false),(14,false),(15,false),(16,false),(17,false),(18,false),(19,false),(20,false),(21,true),(22,true)]
  (by kernel_rfl) (by kernel_rfl) (fun _ _ d _ _ h=>by cases d <;> exact h) f0 ?_
 simp only [PI]
 iterate 13 (refine ZB ?_ (by rfl) ?_ ?_;rotate_left;(focus (intro W hW;go_simp;try with_reducible rfl));simp only [Act.put,PU])
 iterate 8 (refine Qe (by rfl) ?_;simp only [Act.put,PU])
 refine XS (by rfl) f0 ?_
 simp only [Act.put,PU]
 refine XS (by rfl) f0 ?_
 simp only [Act.put,PU]
 refine ZC ?_
 go_wp2_with fail
 go_ret
 exact ⟨rfl,hkA.drew⟩
theorem KAb (k j:Nat) (hg:Good B R.S k j) (hk:k≤50) (hj:j≤20000) (o:POp) (ho:YW B o) (hm:o.k=3→o.e=R.S.st.epoch+1) (A:Option Addr) (dl c:Nat) (hr:Rd w A dl (bys o.d)) (hA:∀ y,A=some y→y.block∉Fs) :
 Calls Tryz.prog 119 #[.pointer (some ⟨r,0,none⟩),.agg #[.int .i64 o.k,.int .i64 o.b,.int .i64 o.c,.int .i64 o.e,.slice A dl c]] w fun e w'=>e = .returned (.int .i64 0)∧∃ Fs' S',StoreAt w' base s d Fs' B S'∧Does B R.S o S'∧Keep Fs w w'∧Grow w Fs Fs':=by
 obtain ⟨ok,ob,oc,oe,od⟩:=o
 simp only at hm hr ⊢
 have hdl:od.length=dl:=by simpa using hr.1
 have hkA:Keep [] w (w.alloc (.cells #[.int .i64 ok,.int .i64 ob,.int .i64 oc,.int .i64 oe,.slice A dl c] 46)):=(Keep.refl _ _).alloc _
 have hbO:=Blk.new w 46 #[.int .i64 ok,.int .i64 ob,.int .i64 oc,.int .i64 oe,.slice A dl c]
 have hst:=h.st.keep0 hkA.drew
 have hmode:=h.mode
 have c0A:=(h.keep0 hkA).cells.1
 obtain ⟨o0,o1,o2,o3,o4⟩:=QC hbO
 rcases ho with ⟨h1,h2,h3,h4⟩ | ⟨h1,h2,h3,h4⟩ | ⟨h1,h2,h3⟩
 · simp only at h1 h2 h3 h4
   subst h1
   obtain ⟨b,rfl⟩:∃ b:Nat,ob=b:=⟨ob.toNat,by omega⟩
   obtain rfl:dl=64:=by omega
   have hW:=KAP _ base s d Fs B R.S hst k j hg hk hj hmode b (by omega) A c od (hr.keep hkA.drew) hA
   clear h hst
   go_enter Tryz.func119,Tryz.ntmps119
   go_wp2_with fail
   refine KA (fun w'=>w'.cell? ⟨r,0,none⟩=some (.pointer (some ⟨s,0,none⟩))∧w'.cell? ⟨w.heap.size,1,none⟩=some (.int .i64 (b:Nat))∧w'.cell? ⟨w.heap.size,4,none⟩=some (.slice A 64 c)) 8 [(0,false),(1,false),(2,false),(3,false),(4,false),(5,false),(6,false),(7,false)]
    (by kernel_rfl) (by kernel_rfl) (fun _ _ d _ _ h=>by cases d <;> exact h) ⟨c0A,o1,o4⟩ ?_
   simp only [PI]
   iterate 8 (refine ZB ?_ (by rfl) ?_ ?_;rotate_left;(focus (rintro W ⟨hW0,hW1,hW2⟩;go_simp;try with_reducible rfl));simp only [Act.put,PU])
   refine ZC ?_
   go_wp2_with (refine hW.mono ?_;clear hW;rintro e w2 ⟨rfl,F',S',g1,g2,g3,g4⟩)
   go_ret
   exact ⟨rfl,F',S',g1,.inl ⟨rfl,by simpa using g2⟩,hkA.drew.zero.trans g3 (fun x hx => .inl hx),g4.keep hkA.drew⟩
 · simp only at h1 h2 h3 h4
   subst h1
   obtain ⟨b,rfl⟩:∃ b:Nat,ob=b:=⟨ob.toNat,by omega⟩
   obtain ⟨n,rfl⟩:∃ n:Nat,oc=n:=⟨oc.toNat,by omega⟩
   have hW:=JAb _ base s d Fs B R.S hst k j hg hk hj hmode b n (by omega) (by omega)
   clear h hst
   go_enter Tryz.func119,Tryz.ntmps119
   go_wp2_with fail
   refine KA (fun w'=>w'.cell? ⟨r,0,none⟩=some (.pointer (some ⟨s,0,none⟩))∧w'.cell? ⟨w.heap.size,1,none⟩=some (.int .i64 (b:Nat))∧w'.cell? ⟨w.heap.size,2,none⟩=some (.int .i64 (n:Nat))) 8 [(0,false),(1,false),(2,false),(3,false),(4,false),(5,false),(6,false),(7,false)]
    (by kernel_rfl) (by kernel_rfl) (fun _ _ d _ _ h=>by cases d <;> exact h) ⟨c0A,o1,o2⟩ ?_
   simp only [PI]
   iterate 8 (refine ZB ?_ (by rfl) ?_ ?_;rotate_left;(focus (rintro W ⟨hW0,hW1,hW2⟩;go_simp;try with_reducible rfl));simp only [Act.put,PU])
   refine ZC ?_
   go_wp2_with (refine hW.mono ?_;clear hW;rintro e w2 ⟨rfl,F',S',g1,g2,g3,g4⟩)
   go_ret
   exact ⟨rfl,F',S',g1,.inr (.inl ⟨rfl,by simpa using g2⟩),hkA.drew.zero.trans g3 (fun x hx => .inl hx),g4.keep hkA.drew⟩
 · simp only at h1 h2 h3
   subst h1
   have hoe:=hm rfl
   obtain ⟨e,rfl⟩:∃ e:Nat,oe=e:=⟨oe.toNat,by omega⟩
   have hW:=KAd _ base s d Fs B R.S hst k j hg hk hj hmode e (by omega)
   have HM:=JC hoe
   clear h hst hm hoe
   go_enter Tryz.func119,Tryz.ntmps119
   go_wp2_with fail
   refine KA (fun w'=>w'.cell? ⟨r,0,none⟩=some (.pointer (some ⟨s,0,none⟩))∧w'.cell? ⟨w.heap.size,3,none⟩=some (.int .i64 (e:Nat))) 6 [(0,false),(1,false),(2,false),(3,false),(4,false),(5,false)]
    (by kernel_rfl) (by kernel_rfl) (fun _ _ d _ _ h=>by cases d <;> exact h) ⟨c0A,o3⟩ ?_
   simp only [PI]
   iterate 6 (refine ZB ?_ (by rfl) ?_ ?_;rotate_left;(focus (rintro W ⟨hW0,hW1⟩;go_simp;try with_reducible rfl));simp only [Act.put,PU])
   refine ZC ?_
   go_wp2_with (refine hW.mono ?_;clear hW;rintro e w2 ⟨rfl,F',S',g1,g2,g3,g4⟩)
   go_ret
   exact ⟨rfl,F',S',g1,.inr (.inr ⟨rfl,JA HM,by simpa using g2⟩),hkA.drew.zero.trans g3 (fun x hx => .inl hx),g4.keep hkA.drew⟩
theorem YAR (o:POp) (h3:o.k=3) (ho:YW B o) (hm:o.e≠R.S.st.epoch+1) (heb:R.S.st.epoch≤1000000000) (A:Option Addr) (dl c:Nat) :
 Calls Tryz.prog 119 #[.pointer (some ⟨r,0,none⟩),.agg #[.int .i64 o.k,.int .i64 o.b,.int .i64 o.c,.int .i64 o.e,.slice A dl c]] w fun e w'=>e = .returned (.int .i64 1)∧Keep [] w w':=by
 obtain ⟨ok,ob,oc,oe,od⟩:=o
 simp only at hm h3 ⊢
 subst h3
 have hkA:Keep [] w (w.alloc (.cells #[.int .i64 3,.int .i64 ob,.int .i64 oc,.int .i64 oe,.slice A dl c] 46)):=(Keep.refl _ _).alloc _
 have hbO:=Blk.new w 46 #[.int .i64 3,.int .i64 ob,.int .i64 oc,.int .i64 oe,.slice A dl c]
 have c0A:=(h.keep0 hkA).cells.1
 obtain ⟨o0,o1,o2,o3,o4⟩:=QC hbO
 obtain ⟨e,rfl⟩:∃ e:Nat,oe=e:=by
  rcases ho with ⟨h1,_⟩ | ⟨h1,_⟩ | ⟨_,h1,_⟩
  · simp at h1
  · simp at h1
  · exact ⟨oe.toNat,by simp only at h1;omega⟩
 have hW:=ZAL _ base s d Fs B R.S (h.st.keep0 hkA.drew) h.mode e (by omega) heb
 clear h hm
 go_enter Tryz.func119,Tryz.ntmps119
 go_wp2_with fail
 refine KA (fun w'=>w'.cell? ⟨r,0,none⟩=some (.pointer (some ⟨s,0,none⟩))∧w'.cell? ⟨w.heap.size,3,none⟩=some (.int .i64 (e:Nat))) 6 [(0,false),(1,false),(2,false),(3,false),(4,false),(5,false)]
  (by kernel_rfl) (by kernel_rfl) (fun _ _ d _ _ h=>by cases d <;> exact h) ⟨c0A,o3⟩ ?_
 simp only [PI]
 iterate 6 (refine ZB ?_ (by rfl) ?_ ?_;rotate_left;(focus (rintro W ⟨hW0,hW1⟩;go_simp;try with_reducible rfl));simp only [Act.put,PU])
 refine ZC ?_
 go_wp2_with (refine hW.mono ?_;clear hW;rintro e w2 ⟨rfl,rfl⟩)
 go_ret
 exact ⟨rfl,hkA.drew⟩
end
end
section
open Go.RowKit Go.Shelf
theorem XAN (st:PSt) (o:POp):(Zv st o).mode=st.mode∧(Zv st o).view=st.view∧(Zv st o).seq=st.seq+1:=by
 unfold Zv
 split <;> simp
def ZAh (w:World) (base r s d x:Nat) (Fs Fx:List Nat) (B:Nat) (R:RS) (k j:Nat) (e:Ending) (w':World):Prop:=
 ∃ Fs' Fx' R' er,ReplicaIs w' base r s d x Fs' Fx' B R'∧Ran B R R' er∧Good B R'.S (k+VE R.sl) (j+2*VE R.sl)∧(∀ q∈R'.sl,q.is=true→YW B q.o)∧Keep (YL r Fs Fx) w w'∧Grow w (YL r Fs Fx) (YL r Fs' Fx') ∧
   ((er=0∧∃ u,e = .returned (.tuple #[u,.int .i64 0])∧w'.ownsRow w.heap.size 5 1 u 25 (bys (QF 8 R'.S.st.view R'.S.st.seq 0 0 R'.S.st.epoch R'.S.st.done [])))∨(er=1∧e = .returned (.tuple #[.slice none 0 0,.int .i64 1])))
structure OnInv (w:World) (base r s d x:Nat) (Fs Fx:List Nat) (B:Nat) (R:RS) (k j:Nat) (Fs1 Fx1:List Nat) (R1:RS) (k1 j1 bo:Nat) (A:Option Addr) (c:Nat) (wr:World):Prop where
 rep:ReplicaIs wr base r s d x Fs1 Fx1 B R1
 ran:∀ R' e,Ran B R1 R' e→Ran B R R' e
 good:Good B R1.S k1 j1
 kb:k1+VE R1.sl≤k+VE R.sl
 jb:j1+2*VE R1.sl≤j+2*VE R.sl
 nb:R1.next+VE R1.sl=R.next+VE R.sl
 ops:∀ q∈R1.sl,q.is=true→YW B q.o
 keep:Keep (YL r Fs Fx) w wr
 grow:Grow w (YL r Fs Fx) (YL r Fs1 Fx1)
 blk:Blk wr bo 46 #[.int .i64 R1.cur.o.k,.int .i64 R1.cur.o.b,.int .i64 R1.cur.o.c,.int .i64 R1.cur.o.e,.slice A R1.cur.o.d.length c]
 val:R1.cur.v = .slice A R1.cur.o.d.length c
 bnew:bo∉YL r Fs1 Fx1
 bge:w.heap.size≤bo
theorem RS.cur_get (R:RS) (h:1≤R.sl.length):∃ hi:R.next % R.sl.length<R.sl.length,R.cur=R.sl[R.next % R.sl.length]:=by
 have hi:R.next % R.sl.length<R.sl.length:=Nat.mod_lt _ h
 exact ⟨hi,by unfold RS.cur;rw [List.getD_eq_getElem?_getD,List.getElem?_eq_getElem hi];rfl⟩
def ZAS (x:Nat) (w:World):Nat:=match w.cell? ⟨x,1,none⟩ with | some (.int _ n)=>n.toNat | _=>0
theorem Yk {w:World} {base x n:Nat} {L:Value} {F:List Nat} {sl:List PSlot} (h:WinIs w base x L F n sl):ZAS x w=n:=by
 unfold ZAS
 rw [h.cells.2]
 simp
theorem ZAu (w:World) (base r s d x:Nat) (Fs Fx:List Nat) (B:Nat) (R:RS) (h:ReplicaIs w base r s d x Fs Fx B R) (k j:Nat) (hg:Good B R.S k j) (hk:k+VE R.sl≤50) (hj:j≤10000) (hn:R.next≤1000000) (hop:∀ q∈R.sl,q.is=true→YW B q.o) :
 Calls Tryz.prog 57 #[.pointer (some ⟨r,0,none⟩)] w (ZAh w base r s d x Fs Fx B R k j):=by
 have hpl:VE R.sl≤16:=by
  obtain ⟨L,hw⟩:=h.win
  exact Nat.le_trans (YAI _) hw.few
 have hP:Calls Tryz.prog 118 #[.pointer (some ⟨x,0,none⟩)] w fun e w'=>∃ q,R.cur=q∧e = .returned (.tuple #[.agg #[.int .i64 q.o.k,.int .i64 q.o.b,.int .i64 q.o.c,.int .i64 q.o.e,q.v],.bool q.is])∧(∃ A c,q.v = .slice A q.o.d.length c)∧Keep [] w w':=by
  obtain ⟨L,hw⟩:=h.win
  exact PeekW_is w base x L Fx R.next R.sl hw
 obtain ⟨c0,c1⟩:=h.cells
 go_enter Tryz.func57,Tryz.ntmps57
 go_wp2_with (
  (refine hP.mono ?_)
  clear hP
  rintro e w1 ⟨q,hq,rfl,⟨A,c,hqv⟩,hk1⟩
  rw [hqv])
 have hkA:Keep [] w (w1.alloc (.cells #[.int .i64 q.o.k,.int .i64 q.o.b,.int .i64 q.o.c,.int .i64 q.o.e,.slice A q.o.d.length c] 46)):=hk1.alloc _
 have h0:OnInv w base r s d x Fs Fx B R k j Fs Fx R k j w1.heap.size A c (w1.alloc (.cells #[.int .i64 q.o.k,.int .i64 q.o.b,.int .i64 q.o.c,.int .i64 q.o.e,.slice A q.o.d.length c] 46)):=by
  subst hq
  exact ⟨h.keep0 hkA,fun _ _ h=>h,hg,Nat.le_refl _,Nat.le_refl _,rfl,hop,hkA.zero,Grow.refl _ _,Blk.new _ _ _,hqv,fun hm=>by have:=h.lt _ hm;have:=hk1.size;omega,hk1.size⟩
 have hqi:R.cur.is=q.is:=by rw [hq]
 go_loopw [4,5,6] (fun a b _ wr=>∃ Fs1 Fx1 R1 k1 j1 bo A1 c1,a = .pointer (some ⟨bo,0,none⟩)∧b = .bool R1.cur.is∧OnInv w base r s d x Fs Fx B R k j Fs1 Fx1 R1 k1 j1 bo A1 c1 wr) (fun _ _ _ wr=>R.next+VE R.sl-ZAS x wr)
 case atStart=>exact ⟨Fs,Fx,R,k,j,w1.heap.size,A,c,rfl,by rw [hqi],h0⟩
 case round=>
  clear h0 hkA c0 c1 hqv hqi hk1 hq
  obtain ⟨Fs1,Fx1,R1,k1,j1,bo,A1,cc,rfl,rfl,hI⟩:=hrel
  obtain ⟨c0,c1⟩:=hI.rep.cells
  obtain ⟨o0,o1,o2,o3,o4⟩:=QC hI.blk
  have hgd:=hI.good
  have hseq:=hgd.seq
  have hepo:=hgd.epoch
  have hdon:=hgd.done
  have hkb:=hI.kb
  have hjb:=hI.jb
  have hnb:=hI.nb
  obtain ⟨q,hqc⟩:∃ q,R1.cur=q:=⟨_,rfl⟩
  have hval:=hI.val
  have hblk:=hI.blk
  rw [hqc] at o0 o1 o2 o3 o4 hval hblk ⊢
  have HQ:=JC hqc
  by_cases hcur:q.is=true
  · obtain ⟨L1,hw1⟩:=hI.rep.win
    obtain ⟨hi,hce⟩:=R1.cur_get hw1.pos
    have hmem:q∈R1.sl:=by rw [← hqc,hce];exact List.getElem_mem _
    have ho:=hI.ops _ hmem hcur
    have hdat:=hw1.dat _ hmem
    have hA1:∀ y,A1=some y→y.block∉Fs1:=fun y hy hm=>hI.rep.ap _ hm (hw1.inQ hmem _ (by rw [hval,hy];simp [Value.ownBlock]))
    have hpc:=Kx hi (by rw [← hce,hqc];exact hcur)
    have hbo1:bo∉Fs1:=fun hm=>hI.bnew (by simp [YL,hm])
    have hbo2:bo∉Fx1:=fun hm=>hI.bnew (by simp [YL,hm])
    have hq:(R1.sl.getD (R1.next % R1.sl.length) PSlot.none_).is=true:=by show R1.cur.is=true;rw [hqc];exact hcur
    clear hqc hce hmem
    obtain ⟨qv,⟨ok,ob,oc,oe,od⟩,qi⟩:=q
    simp only at o0 o1 o2 o3 o4 hval hblk hcur hdat ⊢
    subst hcur
    subst hval
    have hRep:=hI.rep
    by_cases hbad:ok=3∧oe≠R1.S.st.epoch+1
    · have hD:=YAR wr base r s d x Fs1 Fx1 B R1 hI.rep ⟨ok,ob,oc,oe,od⟩ hbad.1 ho hbad.2 (by omega) A1 od.length cc
      have HB:=JC hbad
      have HI:=JC hI
      clear hbad hI
      simp only at hD
      go_wp2_with (first
       | (go_at_call 119
          refine hD.mono ?_
          clear hD
          rintro e w2 ⟨rfl,hk2⟩
          have hC:=YAN w2 base x L1 Fx1 R1.next R1.sl (hw1.keep0 hk2) hq
          obtain ⟨d0,d1⟩:=(hRep.keep0 hk2).cells)
       | (go_at_call 120
          refine hC.mono ?_
          clear hC
          rintro e w3 ⟨rfl,F3,h3,hk3,hF3⟩))
      go_ret2
      have hI:=JA HI
      obtain ⟨hb1,hb2⟩:=JA HB
      have hcq:=JA HQ
      have hr3:=(hI.rep.keep0 hk2).setWin ⟨L1,h3⟩ hk3 (fun y hy => .inl (hF3 y hy))
      refine ⟨Fs1,F3,⟨R1.S,R1.next,R1.cut⟩,1,hr3,hI.ran _ _ (Ran.bad (by rw [hcq]) (by rw [hcq];exact hb1) (by rw [hcq];exact hb2)),hgd.mono (by omega) (by omega),?_,?_,?_,.inr ⟨rfl,rfl⟩⟩
      · intro q hq' hqi
        rcases List.mem_or_eq_of_mem_set hq' with hq' | rfl
        · exact hI.ops q hq' hqi
        · cases hqi
      · exact (hI.keep.trans0 hk2).trans hk3 (fun y hy=>hI.grow y (by simp [YL,hy]))
      · intro y hy
        apply hI.grow y
        simp only [YL,List.mem_cons,List.mem_append] at hy ⊢
        rcases hy with hy | hy | hy
        · exact .inl hy
        · exact .inr (.inl hy)
        · exact .inr (.inr (hF3 y hy))
    · have hD:=KAb wr base r s d x Fs1 Fx1 B R1 hI.rep k1 j1 hgd (by omega) (by omega) ⟨ok,ob,oc,oe,od⟩ ho (fun h3=>by by_cases he:oe=R1.S.st.epoch+1;exact he;exact absurd ⟨h3,he⟩ hbad) A1 od.length cc (Rd.of_own hdat) hA1
      have HI:=JC hI
      clear hbad hI
      simp only at hD
      go_wp2_with (first
       | (go_at_call 119
          refine hD.mono ?_
          clear hD
          rintro e w2 ⟨rfl,Fs2,S2,hs2,hdo,hk2,hg2⟩
          obtain ⟨hgd2,hst2⟩:=hdo.good ho hgd (by omega) (by omega)
          obtain ⟨hmo,hvi,_⟩:=XAN R1.S.st ⟨ok,ob,oc,oe,od⟩
          have hr2:=hRep.setSt hs2 hk2 hg2 (by rw [hst2,hmo];exact hRep.mode) (by rw [hst2,hvi])
          have hw2:=hw1.keep hk2 hRep.ap.symm
          have hPp:=YAn w2 base x L1 Fx1 R1.next R1.sl hw2 hq (by omega)
          have hb2:=hblk.keep hk2 hbo1
          obtain ⟨d0,d1⟩:=hr2.cells)
       | (go_at_call 121
          refine hPp.mono ?_
          clear hPp
          rintro e w3 ⟨_,_,rfl,F3,h3,hk3,hF3⟩
          have hr3:=hr2.setWin ⟨L1,h3⟩ hk3 (fun y hy => .inl (hF3 y hy))
          have hb3:=hb2.keep hk3 hbo2
          have hlt3:=hb3.lt
          obtain ⟨o0,o1,o2,o3,o4⟩:=QC hb3
          obtain ⟨d0,d1⟩:=hr3.cells
          have hrl:=hr3.blk.lt
          have hkB:Keep [] w3 (w3.alloc (.cells #[.int .i64 ok,.int .i64 ob,.int .i64 oc,.int .i64 oe,.slice A1 od.length cc] 46)):=(Keep.refl _ _).alloc _
          have hPk:=PeekW_is _ base x L1 F3 (R1.next+1) (R1.sl.set (R1.next % R1.sl.length) PSlot.none_) (h3.keep0 hkB)
          have hbn:=Blk.new w3 46 #[.int .i64 ok,.int .i64 ob,.int .i64 oc,.int .i64 oe,.slice A1 od.length cc])
       | (go_at_call 118
          refine hPk.mono ?_
          clear hPk
          rintro e w4 ⟨q,hq4,rfl,⟨A4,c4,hqv4⟩,hk4⟩
          rw [hqv4]
          replace hbn:=hbn.keep0 hk4
          obtain ⟨z0,z1,z2,z3,z4⟩:=QC hbn
          have f0:=hbn.frozen 0
          have f1:=hbn.frozen 1
          have f2:=hbn.frozen 2
          have f3:=hbn.frozen 3
          have f4:=hbn.frozen 4))
      have h5:=hbn.put5 (.int .i64 q.o.k) (.int .i64 q.o.b) (.int .i64 q.o.c) (.int .i64 q.o.e) (.slice A4 q.o.d.length c4)
      have hk5:=Keep.put5 w4 w3.heap.size (.int .i64 q.o.k) (.int .i64 q.o.b) (.int .i64 q.o.c) (.int .i64 q.o.e) (.slice A4 q.o.d.length c4)
      unfold put5 at h5 hk5
      have hcu:(⟨S2,R1.next+1,R1.cut⟩:RS).cur=q:=hq4
      have hap5:Apart (YL r Fs2 F3) [w3.heap.size]:=fun y hy hm=>by
       simp at hm
       have:=hr3.lt y hy
       omega
      have hr5:=(hr3.keep0 (hkB.trans0 hk4)).keep hk5 hap5
      have hI:=JA HI
      have hcq:=JA HQ
      have hsz2:=hk2.size
      have hsz3:=hk3.size
      have hszI:=hI.keep.size
      have hx0:=Yk hw1
      go_roundw
      case rel=>
       refine ⟨Fs2,F3,⟨S2,R1.next+1,R1.cut⟩,k1+1,j1+2,w3.heap.size,A4,c4,rfl,by rw [hcu],⟨hr5,fun R' e h=>hI.ran R' e (Ran.step (by rw [hcq]) (by rw [hcq];exact hdo) h),hgd2,?_,?_,?_,?_,?_,?_,?_,?_,?_,?_⟩⟩
       · show k1+1+VE R1.cut≤_
         have:VE R1.cut+1=VE R1.sl:=hpc
         omega
       · show j1+2+2*VE R1.cut≤_
         have:VE R1.cut+1=VE R1.sl:=hpc
         omega
       · show R1.next+1+VE R1.cut=_
         have:VE R1.cut+1=VE R1.sl:=hpc
         omega
       · intro q' hq' hqi
         rcases List.mem_or_eq_of_mem_set hq' with hq' | rfl
         · exact hI.ops q' hq' hqi
         · cases hqi
       · refine (((hI.keep.trans hk2 (fun y hy=>hI.grow y (by simp [YL,hy]))).trans hk3 (fun y hy=>hI.grow y (by simp [YL,hy]))).trans0 (hkB.trans0 hk4)).trans hk5 (fun y hy => .inr ?_)
         simp at hy
         omega
       · intro y hy
         simp only [YL,List.mem_cons,List.mem_append] at hy
         rcases hy with hy | hy | hy
         · exact hI.grow y (by simp [YL,hy])
         · rcases hg2 y hy with hy | hy
           · exact hI.grow y (by simp [YL,hy])
           · exact .inr (by omega)
         · exact hI.grow y (by simp [YL,hF3 y hy])
       · rw [hcu];exact h5
       · rw [hcu];exact hqv4
       · exact fun hm=>by have:=hr3.lt _ hm;omega
       · omega
      case measure=>
       obtain ⟨L5,hw5⟩:=hr5.win
       have hx5:=Yk hw5
       have:VE R1.cut+1=VE R1.sl:=hpc
       simp only [hx0]
       refine Nat.lt_of_le_of_lt (Nat.le_of_eq (congrArg (fun z=>R.next+VE R.sl-z) hx5)) ?_
       show R.next+VE R.sl-(R1.next+1)<R.next+VE R.sl-R1.next
       omega
  · have hcf:q.is=false:=by simpa using hcur
    rw [hcf]
    have hAn:=VAF wr base r s d x Fs1 Fx1 B R1 hI.rep (by omega) (by omega) hdon
    go_wp2_with (refine hAn.mono ?_;clear hAn;rintro e w2 ⟨u,rfl,hu,hk2⟩)
    go_ret2
    exact ⟨Fs1,Fx1,R1,0,hI.rep.keep0 hk2,hI.ran _ _ (Ran.stop (by rw [JA HQ];exact hcf)),hgd.mono (by omega) (by omega),hI.ops,hI.keep.trans0 hk2,hI.grow,.inl ⟨rfl,u,rfl,YC hu hI.keep.size⟩⟩
end
section
open Go.RowKit Go.Shelf
theorem JAS (k v s b c e d:Nat) (data:List UInt8) (hm:FrMay k v s b c e d data) (A:Option Addr) (n cp:Nat) (w:World) (ha:Rd w A n (bys (QF k v s b c e d data))) :
 Calls Tryz.prog 43 #[.slice A n cp] w fun r w'=>∃ UA uc,r = .returned (.tuple #[.agg #[.int .i64 k,.int .i64 v,.int .i64 s,.int .i64 b,.int .i64 c,.int .i64 e,.int .i64 d,.slice UA data.length uc],.int .i64 0])∧w'.ownsRow w.heap.size 5 1 (.slice UA data.length uc) data.length (bys data)∧Keep [] w w':=by
 have hb:=hm.bounds
 have hl:n=25+data.length:=by have:=ha.1;simpa using this.symm
 refine (Vm A n cp _ w ha (by omega) (by omega)).mono ?_
 rintro r w' ⟨hk,hP⟩
 have hp:QN (QF k v s b c e d data)=⟨k,v,s,b,c,e,d,data⟩:=KY k v s b c e d data (by omega) (by omega) (by omega) (by omega) (by omega) (by omega) (by omega)
 rw [hp] at hP
 rcases hP with ⟨_,_,u,rfl,hu⟩ | ⟨hno,_⟩
 · have hlen:(QF k v s b c e d data).length-25=data.length:=by simp
   rw [hlen] at hu
   obtain ⟨UA,uc,rfl,_⟩:=JB hu
   exact ⟨UA,uc,rfl,hu,hk⟩
 · exact absurd ⟨hm,rfl⟩ hno
theorem ZAx (w:World) (base r s d x:Nat) (Fs Fx:List Nat) (B:Nat) (R:RS) (h:ReplicaIs w base r s d x Fs Fx B R) (hbase:base≤w.heap.size) (k b c e m fs:Nat) (xs:List UInt8) (A:Option Addr) (cp:Nat)
 (ha:Rd w A (25+m) (bys (QF k R.S.st.view fs b c e 0 xs))) (ho:OpMay k b c e m) (hlen:xs.length=m) (hfor:b+max c 1≤B∨k=3) (hfs:1≤fs∧fs≤2147483647) (Post:Ending→World→Prop)
 (hcont:∀ w5 UA uc,Keep [] w w5→w5.ownsRow w.heap.size 5 1 (.slice UA m uc) m (bys xs)→Calls Tryz.prog 56 #[.pointer (some ⟨x,0,none⟩),.int .i64 (fs:Nat),.agg #[.int .i64 k,.int .i64 b,.int .i64 c,.int .i64 e,.slice UA m uc]] w5 fun e5 w6=>
   (e5 = .returned (.int .i64 0)∧Calls Tryz.prog 57 #[.pointer (some ⟨r,0,none⟩)] w6 (fun e w'=>∃ A n c z,e = .returned (.tuple #[.slice A n c,.int .i64 z])∧Post e w')) ∨
   (e5 = .returned (.int .i64 9)∧Calls Tryz.prog 58 #[.pointer (some ⟨r,0,none⟩)] w6 (fun e w'=>∃ A n c,e = .returned (.tuple #[.slice A n c,.int .i64 0])∧Post (.returned (.tuple #[.slice A n c,.int .i64 9])) w')) ∨
   (e5 = .returned (.int .i64 10)∧Post (.returned (.tuple #[.slice none 0 0,.int .i64 10])) w6)) :
 Calls Tryz.prog 12 #[.pointer (some ⟨r,0,none⟩),.slice A (25+m) cp] w Post:=by
 have hv:=h.view
 have hfr:FrMay k R.S.st.view fs b c e 0 xs:=ho.fr hv hfs hlen
 have hD:=JAS k R.S.st.view fs b c e 0 xs hfr A (25+m) cp w ha
 have hOp:=fun UA uc W (hr:Rd W UA m (bys xs))=>XAu k R.S.st.view fs b c e 0 UA m uc xs W hr (by have:=hfr.bounds;omega) (by rcases ho with ⟨h,_⟩ | ⟨h,_⟩ | ⟨h,_⟩ <;> omega) (by rcases ho with ⟨h,_⟩ | ⟨h,_⟩ | ⟨h,_⟩ <;> omega) hfr
 have hR:=fun W (hk:Keep [] w W)=>readyR_ok W base r s d x Fs Fx B R (h.keep0 hk)
 have hSt:∀ UA uc W,Keep [] w W→Calls Tryz.prog 53 #[.pointer (some ⟨r,0,none⟩),.agg #[.int .i64 k,.int .i64 R.S.st.view,.int .i64 fs,.int .i64 b,.int .i64 c,.int .i64 e,.int .i64 (0:Nat),.slice UA m uc]] W fun e w'=>e = .returned (.bool false)∧Keep [] W w':=fun UA uc W hk=>by
  rcases hfor with hb | rfl
  · rcases ho with ⟨h1,_⟩ | ⟨h1,_⟩ | ⟨h1,h2,h3,h4⟩
    · exact Kf W base r s d x Fs Fx B R (h.keep0 hk) k R.S.st.view fs b c e 0 _ (by omega) hb UA m uc rfl
    · exact Kf W base r s d x Fs Fx B R (h.keep0 hk) k R.S.st.view fs b c e 0 _ (by omega) hb UA m uc rfl
    · subst h1
      exact Yl W r R.S.st.view fs b c e 0 UA m uc
  · exact Yl W r R.S.st.view fs b c e 0 UA m uc
 have hSa:=fun W (hk:Keep [] w W)=>JP W base s d Fs B R.S (h.keep0 hk).st
 have hcl:=fun W (hk:Keep [] w W)=>(h.keep0 hk).cells
 rw [hlen] at hD
 unfold frv at hOp
 have hk9:¬ ((k:Nat):Int)=9:=by have:=ho;rcases this with ⟨h,_⟩ | ⟨h,_⟩ | ⟨h,_⟩ <;> omega
 have hk9b:(((k:Nat):Int) == 9)=false:=by simpa using hk9
 clear h ha hfr hv hfor
 have HO:=JC ho
 clear ho
 generalize R.S.st=st at *
 obtain ⟨mode,view,epoch,seq,done,mount,gen⟩:=st
 simp only at hD hOp hSt hSa
 have hfd:=fun (a0 a1 a2 a3 a4 a5 a6 a7 a8 a9:Value) W=>JF (P:=Tryz.prog) Tryz.underlying51 1 rfl Tryz.isAgg3 #[a0,a1,a2,a3,a4,a5,a6,a7,a8,a9] rfl W
 go_enter Tryz.func12,Tryz.ntmps12
 go_wp2_with (first
  | (go_at_call 43
     refine hD.mono ?_
     clear hD
     rintro e1 w1 ⟨UA,uc,rfl,hu,hk1⟩
     have hbF:=Blk.new w1 85 #[.int .i64 k,.int .i64 view,.int .i64 fs,.int .i64 b,.int .i64 c,.int .i64 e,.int .i64 (0:Nat),.slice UA m uc]
     have hkA:Keep [] w (w1.alloc (.cells #[.int .i64 k,.int .i64 view,.int .i64 fs,.int .i64 b,.int .i64 c,.int .i64 e,.int .i64 (0:Nat),.slice UA m uc] 85)):=hk1.alloc _
     have huA:=ZD hu (.cells #[.int .i64 k,.int .i64 view,.int .i64 fs,.int .i64 b,.int .i64 c,.int .i64 e,.int .i64 (0:Nat),.slice UA m uc] 85))
  | (go_at_call 52
     refine (hR _ hkA).mono ?_
     clear hR
     rintro e2 w2 ⟨rfl,hk2⟩
     replace hbF:=hbF.keep0 hk2
     replace hkA:=hkA.trans0 hk2
     replace huA:=XB huA hk2
     obtain ⟨f0,f1,f2,f3,f4,f5,f6,f7⟩:=YB hbF)
  | (go_at_call 53
     refine (hSt _ _ _ hkA).mono ?_
     clear hSt
     rintro e3 w3 ⟨rfl,hk3⟩
     replace hbF:=hbF.keep0 hk3
     replace hkA:=hkA.trans0 hk3
     replace huA:=XB huA hk3
     obtain ⟨f0,f1,f2,f3,f4,f5,f6,f7⟩:=YB hbF))
 have r0:=(hcl _ hkA).1
 refine KA (fun w'=>w'.cell? ⟨w1.heap.size,1,none⟩=some (.int .i64 (view:Nat))∧w'.cell? ⟨r,0,none⟩=some (.pointer (some ⟨s,0,none⟩))) 8 [(0,false),(1,false),(2,false),(3,false),(4,false),(5,false),(6,true),(7,false)]
  (by kernel_rfl) (by kernel_rfl) (fun _ _ d _ _ h=>by cases d <;> exact h) ⟨f1,r0⟩ ?_
 simp only [PI]
 iterate 6 (refine ZB ?_ (by rfl) ?_ ?_;rotate_left;(focus (rintro W ⟨hW0,hW1⟩;go_simp;try with_reducible rfl));simp only [Act.put,PU])
 refine KB (by rfl) (fun K hK=>?_)
 go_wp2_with (
  refine (hSa _ hkA.drew).mono ?_
  clear hSa
  rintro e4 w4 ⟨rfl,hk4⟩
  have hkB:=hkA.drew.trans0 hk4
  have hbB:=hbF.drew.keep0 hk4
  have huB:=XB huA ((Keep.refl _ _).drew.trans0 hk4))
 refine hK _ _ (⟨(YB hbB).2.1,(hcl _ hkB).1⟩) ?_
 clear hK K
 try simp only [Act.put,PU]
 iterate 1 (refine ZB ?_ (by rfl) ?_ ?_;rotate_left;(focus (rintro W ⟨hW0,hW1⟩;go_simp;try with_reducible rfl));simp only [Act.put,PU])
 refine ZC ?_
 obtain ⟨g0,g1,g2,g3,g4,g5,g6,g7⟩:=YB hbB
 have hOp1:=hOp UA uc w4 (Rd.of_own huB)
 go_wp2_with (go_at_call 55
              refine hOp1.mono ?_
              clear hOp1
              rintro e5 w5 ⟨ua,rfl,hua,hk5⟩
              obtain ⟨A5,c5,rfl,hc5,_⟩:=JB hua)
 have hkC:=(hkB.trans0 hk5).alloc (.cells #[.int .i64 k,.int .i64 b,.int .i64 c,.int .i64 e,.slice A5 m c5] 46)
 have hbC:=(hbB.keep0 hk5).keep0 ((Keep.refl _ _).alloc (.cells #[.int .i64 k,.int .i64 b,.int .i64 c,.int .i64 e,.slice A5 m c5] 46))
 have hbO:=Blk.new w5 46 #[.int .i64 k,.int .i64 b,.int .i64 c,.int .i64 e,.slice A5 m c5]
 obtain ⟨o0,o1,o2,o3,o4⟩:=QC hbO
 have r1:=(hcl _ hkC).2
 have s2:=(YB hbC).2.2.1
 have hcn:=hcont _ A5 c5 hkC.drew (XB (YC hua hkB.size) (((Keep.refl _ _).alloc (.cells #[.int .i64 k,.int .i64 b,.int .i64 c,.int .i64 e,.slice A5 m c5] 46)).drew))
 clear hcont g0 g1 g2 g3 g4 g5 g6 g7 f0 f1 f2 f3 f4 f5 f6 f7
 refine KA (fun w'=>w'.cell? ⟨r,1,none⟩=some (.pointer (some ⟨x,0,none⟩))∧w'.cell? ⟨w1.heap.size,2,none⟩=some (.int .i64 (fs:Nat))∧w'.cell? ⟨w5.heap.size,0,none⟩=some (.int .i64 k)∧w'.cell? ⟨w5.heap.size,1,none⟩=some (.int .i64 b)∧w'.cell? ⟨w5.heap.size,2,none⟩=some (.int .i64 c)∧w'.cell? ⟨w5.heap.size,3,none⟩=some (.int .i64 e)∧w'.cell? ⟨w5.heap.size,4,none⟩=some (.slice A5 m c5)) 7 [(0,false),(1,false),(2,false),(3,false),(4,false),(5,false),(6,false)]
  (by kernel_rfl) (by kernel_rfl) (fun _ _ d _ _ h=>by cases d <;> exact h) ⟨r1,s2,o0,o1,o2,o3,o4⟩ ?_
 simp only [PI]
 iterate 7 (refine ZB ?_ (by rfl) ?_ ?_;rotate_left;(focus (rintro W ⟨hW0,hW1,hW2,hW3,hW4,hW5,hW6⟩;go_simp;try with_reducible rfl));simp only [Act.put,PU])
 refine ZC ?_
 go_wp2_with (go_at_call 56
              refine hcn.mono ?_
              clear hcn
              rintro e6 w6 h6
              rcases h6 with ⟨rfl,h6⟩ | ⟨rfl,h6⟩ | ⟨rfl,h6⟩)
 · go_wp2_with (refine h6.mono ?_
                clear h6
                rintro e7 w7 ⟨A7,n7,c7,z7,rfl,h7⟩)
   exact h7
 · go_wp2_with (refine h6.mono ?_
                clear h6
                rintro e7 w7 ⟨A7,n7,c7,rfl,h7⟩)
   exact h7
 · go_wp2
   exact h6
end
section
open Go.RowKit Go.Shelf
theorem Kh {sl:List PSlot} {i:Nat} (hi:i<sl.length) (h:(sl.getD i PSlot.none_).is=false) (q:PSlot) (hq:q.is=true):VE (sl.set i q)=VE sl+1:=by
 unfold VE
 have hg:sl[i].is=false:=by simpa [List.getD_eq_getElem?_getD,hi] using h
 have:=List.countP_set (p:=(·.is)) (l:=sl) (i:=i) (a:=q) hi
 rw [this,if_neg (by simp [hg]),if_pos hq]
 rfl
section
variable (w:World) (base r s d x:Nat) (Fs Fx:List Nat) (B:Nat) (R:RS) (h:ReplicaIs w base r s d x Fs Fx B R) (hbase:base≤w.heap.size) (k b c e m fs:Nat) (xs:List UInt8) (A:Option Addr) (cp:Nat)
 (ha:Rd w A (25+m) (bys (QF k R.S.st.view fs b c e 0 xs))) (ho:OpMay k b c e m) (hlen:xs.length=m) (hfor:b+max c 1≤B∨k=3) (hfs:1≤fs∧fs≤2147483647)
include h hbase ha ho hlen hfor hfs
theorem KAA (kk j:Nat) (hg:Good B R.S kk j) (hk:kk+VE R.sl≤49) (hj:j≤10000) (hnx:R.next≤1000000) (hop:∀ q∈R.sl,q.is=true→YW B q.o) (hn1:R.next≤fs) (hn2:fs<R.next+R.sl.length) (hq:(R.sl.getD (fs % R.sl.length) PSlot.none_).is=false) (hof:YW B ⟨k,b,c,e,xs⟩) :
 Calls Tryz.prog 12 #[.pointer (some ⟨r,0,none⟩),.slice A (25+m) cp] w fun en w'=>
  ∃ v,ZAh w base r s d x Fs Fx B ⟨R.S,R.next,R.sl.set (fs % R.sl.length) ⟨v,⟨k,b,c,e,xs⟩,true⟩⟩ kk j en w':=by
 refine ZAx w base r s d x Fs Fx B R h hbase k b c e m fs xs A cp ha ho hlen hfor hfs _ ?_
 intro w5 UA uc hk5 hu
 obtain ⟨L,hw⟩:=h.win
 have hi:fs % R.sl.length<R.sl.length:=Nat.mod_lt _ hw.pos
 subst hlen
 have hu5:=YC hu hbase
 refine (VAk w5 base x L Fx R.next R.sl (hw.keep0 hk5) fs hn1 hn2 hfs.2 hq k b c e UA uc xs hu5).mono ?_
 rintro e5 w6 ⟨rfl,F',hw6,hk6,hF'⟩
 refine .inl ⟨rfl,?_⟩
 have hfresh:∀ z∈(Value.slice UA xs.length uc).ownBlock.toList,w.heap.size≤z:=fun z hz=>(own_mem hu hz).1
 have hr6:=(h.keep0 hk5).setWin ⟨L,hw6⟩ hk6 (fun y hy=>by
  rcases hF' y hy with h1 | h1
  · exact .inl h1
  · refine .inr ⟨fun hm=>?_,?_⟩
    · have:=hfresh y h1;have:=h.st.lt y hm;omega
    · have:=hfresh y h1;have:=h.blk.lt;omega)
 have hpr:=Kh hi hq ⟨.slice UA xs.length uc,⟨k,b,c,e,xs⟩,true⟩ rfl
 have hkk:Keep (YL r Fs Fx) w w6:=hk5.zero.trans hk6 (fun y hy => .inl (by simp [YL,hy]))
 refine (ZAu w6 base r s d x Fs F' B _ hr6 kk j hg (by simp only [hpr];omega) hj hnx ?_).mono ?_
 · intro q hq' hqi
   rcases List.mem_or_eq_of_mem_set hq' with hq' | rfl
   · exact hop q hq' hqi
   · exact hof
 · rintro e7 w7 ⟨Fs7,Fx7,R7,er,h1,h2,h3,h4,h5,h6,h7⟩
   have hsz6:=hkk.size
   have hg6:Grow w (YL r Fs Fx) (YL r Fs F'):=by
    intro y hy
    simp only [YL,List.mem_cons,List.mem_append] at hy ⊢
    rcases hy with hy | hy | hy
    · exact .inl (.inl hy)
    · exact .inl (.inr (.inl hy))
    · rcases hF' y hy with h8 | h8
      · exact .inl (.inr (.inr h8))
      · exact .inr (hfresh y h8)
   have hk7:Keep (YL r Fs Fx) w w7:=hkk.trans h5 hg6
   have hg7:Grow w (YL r Fs Fx) (YL r Fs7 Fx7):=fun y hy=>by
    rcases h6 y hy with h8 | h8
    · exact hg6 y h8
    · exact .inr (by omega)
   rcases h7 with ⟨rfl,u,rfl,hu7⟩ | ⟨rfl,rfl⟩
   · obtain ⟨A7,c7,rfl,_⟩:=JB hu7
     exact ⟨A7,_,c7,_,rfl,_,Fs7,Fx7,R7,0,h1,h2,h3,h4,hk7,hg7,.inl ⟨rfl,_,rfl,YC hu7 hsz6⟩⟩
   · exact ⟨none,0,0,_,rfl,_,Fs7,Fx7,R7,1,h1,h2,h3,h4,hk7,hg7,.inr ⟨rfl,rfl⟩⟩
end
theorem WinIs.down {w:World} {b1 b2 x next:Nat} {L:Value} {F:List Nat} {sl:List PSlot} (h:WinIs w b2 x L F next sl) (hb:b1≤b2):WinIs w b1 x L F next sl:=
 ⟨h.blk,YC h.row hb,fun q hq=>YC (h.dat q hq) hb,h.foot,Nat.le_trans hb h.base,h.pos,h.few,h.zero,h.nb⟩
section
variable (w:World) (base s d:Nat) (Fs:List Nat) (B:Nat) (S:PS) (h:StoreAt w base s d Fs B S) (hs:S.st.seq≤1000000)
include h hs
theorem ZAn (m:Nat) (h1:1≤m) (h2:m≤16) (hmode:S.st.mode=1) (hview:1≤S.st.view∧S.st.view≤2147483647) (hbase:base≤w.heap.size) :
 Calls Tryz.prog 10 #[.pointer (some ⟨s,0,none⟩),.int .i64 (m:Nat)] w fun e w'=>∃ r x Fx,e = .returned (.pointer (some ⟨r,0,none⟩))∧ReplicaIs w' base r s d x Fs Fx B ⟨S,S.st.seq+1,ZF m⟩∧Keep [] w w'∧(∀ y∈YL r Fs Fx,y∈Fs∨w.heap.size≤y):=by
 have hS:=JP w base s d Fs B S h
 have hres:∀ w2 x F r,Keep [] w w2→WinAt w2 w.heap.size x F (S.st.seq+1) (ZF m)→r=w2.heap.size→ReplicaIs (w2.alloc (.cells #[.pointer (some ⟨s,0,none⟩),.pointer (some ⟨x,0,none⟩)] 104)) base r s d x Fs F B ⟨S,S.st.seq+1,ZF m⟩∧(∀ y∈YL r Fs F,y∈Fs∨w.heap.size≤y):=by
  intro w2 x F r hk hw hr
  subst hr
  have hka:=(Keep.refl [] w2).alloc (.cells #[.pointer (some ⟨s,0,none⟩),.pointer (some ⟨x,0,none⟩)] 104)
  obtain ⟨L,hL⟩:=hw
  have hge:=hL.ge
  have hlt:=hL.lt
  refine ⟨⟨Blk.new _ _ _,h.keep0 (hk.trans0 hka),⟨L,(hL.down hbase).keep0 hka⟩,fun y hy hm=>?_,fun hm=>?_,fun hm=>?_,?_,hmode,hview⟩,?_⟩
  · have:=h.lt y hy;have:=hge y hm;omega
  · have:=h.lt _ hm;have:=hk.size;omega
  · have:=hlt _ hm;omega
  · have:=hk.size;omega
  · intro y hy
    simp only [YL,List.mem_cons,List.mem_append] at hy
    rcases hy with hy | hy | hy
    · exact .inr (by have:=hk.size;omega)
    · exact .inl hy
    · exact .inr (hge y hy)
 generalize hst:S.st=st at *
 obtain ⟨mode,view,epoch,seq,done,mount,gen⟩:=st
 simp only at hS hs hres hmode ⊢
 have hW:=fun W=>JAZ m (seq+1) h1 h2 (by omega) W
 rw [Int.natCast_add] at hW
 have hfd:=fun (a0 a1 a2 a3 a4 a5 a6 a7 a8 a9:Value) W=>JF (P:=Tryz.prog) Tryz.underlying51 3 rfl Tryz.isAgg3 #[a0,a1,a2,a3,a4,a5,a6,a7,a8,a9] rfl W
 go_enter Tryz.func10,Tryz.ntmps10
 go_wp2_with (first
  | (go_at_call 17;refine hS.mono ?_;clear hS;rintro e w1 ⟨rfl,hk1⟩)
  | (go_at_call 51;refine (hW _).mono ?_;clear hW;rintro e w2 ⟨x,rfl,F,hF,hk2⟩))
 go_ret
 have hkk:=hk1.trans0 hk2
 obtain ⟨L,hL⟩:=hF
 obtain ⟨q1,q2⟩:=hres w2 x F _ hkk ⟨L,hL.down hk1.size⟩ rfl
 exact ⟨_,x,F,rfl,q1,hkk.alloc _,q2⟩
end
section
variable (w:World) (base r s d x:Nat) (Fs Fx:List Nat) (B:Nat) (R:RS) (h:ReplicaIs w base r s d x Fs Fx B R)
include h
end
end
section
open Go.RowKit Go.Shelf
theorem Vl (A:Option Addr) (n c:Nat) (xs:List Int) (w:World) (ha:Rd w A n (KP xs)) (hn:n≤1000000) :
 Calls Tryz.prog 181 #[.slice A n c] w fun e w'=>∃ v,e = .returned v∧w'.ownsRow w.heap.size 3 1 v n (KP xs)∧Keep [] w w':=by
 have heq:=fun (W:World)=>Lib.run_eql_slice_nil (P:=Tryz.prog) W 75 3 A n c 0 0 Tryz.underlying75
 rcases A with _ | ad
 · obtain rfl:n=0:=by
    rcases Nat.eq_zero_or_pos n with e | e
    · exact e
    · obtain ⟨b,o,h,_⟩:=ha.2 e
      cases h
   obtain rfl:xs=[]:=List.eq_nil_of_length_eq_zero (by simpa using ha.1)
   go_enter Tryz.func181,Tryz.ntmps181
   go_wp2
   go_ret
   exact ⟨_,rfl,World.ownsRow_nil _ _ _ _,Keep.refl _ _⟩
 · have hr:=ha.keep ((Keep.refl _ w).alloc (.cells #[] 3))
   have ho:(w.alloc (.cells #[] 3)).ownsRow w.heap.size 3 1 (.slice (some ⟨w.heap.size,0,none⟩) 0 0) 0 []:=JL (Blk.new w 3 #[]) (Nat.le_refl _) (by omega) rfl rfl
   go_enter Tryz.func181,Tryz.ntmps181
   go_wp2_with (at_builtin;refine elemInts.wp_app rfl _ _ rfl w.heap.size _ 0 [] rfl ho (some ad) n c (KP xs) rfl hr (QAe _) (by omega) (by omega) (by simp) ?_)
   intro v' w' hown hk _ _
   go_wp2
   go_ret
   exact ⟨_,rfl,by simpa using hown,((Keep.refl _ w).alloc _).trans hk (by simp [Value.ownBlock])⟩
theorem Jg (l:List Nat):VO l=KP (l.map (fun (x:Nat)=>(x:Int))):=by simp [VO,KP,i64]
theorem VAm (w:World) (d t m p g slot P:Nat) (r:PReg) (BA:Option Addr) (bc:Nat) (bz:List Nat) (OA:Option Addr) (oc:Nat) (oz:List Nat) (SA:Option Addr) (sn sc:Nat) (hb:Rd w BA P (VO bz)) (ho:Rd w OA P (VO oz)) (hP:P≤1000) (st:PSt) :
 Calls Tryz.prog 105 #[.pointer (some ⟨d,0,none⟩),.pointer (some ⟨t,0,none⟩),.pointer (some ⟨m,0,none⟩),.pointer (some ⟨p,0,none⟩),.pointer (some ⟨g,0,none⟩),.int .i64 (slot:Nat),
  .agg (r.cs (.slice BA P bc) (.slice OA P oc) (.slice SA sn sc)).toArray,.agg #[.int .i64 st.mode,.int .i64 st.view,.int .i64 st.epoch,.int .i64 st.seq,.int .i64 st.done,.int .i64 st.mount,.int .i64 st.gen,.int .i64 0,.int .i64 0,.int .i64 0]] w
  fun e w'=>∃ s L0 L1,e = .returned (.pointer (some ⟨s,0,none⟩))∧w.heap.size≤s ∧
   Blk w' s 119 #[.pointer (some ⟨d,0,none⟩),.pointer (some ⟨g,0,none⟩),.pointer (some ⟨t,0,none⟩),.pointer (some ⟨m,0,none⟩),.pointer (some ⟨p,0,none⟩),
    .int .i64 st.mode,.int .i64 st.view,.int .i64 st.epoch,.int .i64 st.seq,.int .i64 st.done,.int .i64 st.mount,.int .i64 st.gen,.int .i64 0,.int .i64 0,.int .i64 0,.int .i64 slot,L0,L1] ∧
   w'.ownsRow w.heap.size 3 1 L0 P (VO bz)∧w'.ownsRow w.heap.size 3 1 L1 P (VO oz)∧Keep [] w w':=by
 obtain ⟨gen,view,mode,epoch,seq,done,⟨seg,off,lsn,prev,mount⟩⟩:=r
 obtain ⟨smode,sview,sepoch,sseq,sdone,smount,sgen⟩:=st
 simp only [PReg.cs,PPos.cs,List.cons_append,List.nil_append] at *
 rw [Jg] at hb ho
 rw [Jg,Jg]
 obtain ⟨wA,hwA⟩:∃ wA,wA=(w.alloc (.cells #[.int .i64 gen,.int .i64 view,.int .i64 mode,.int .i64 epoch,.int .i64 seq,.int .i64 done,.int .i64 seg,.int .i64 off,.int .i64 lsn,.int .i64 prev,.int .i64 mount,.slice BA P bc,.slice OA P oc,.slice SA sn sc] 173)).alloc (.cells #[.int .i64 smode,.int .i64 sview,.int .i64 sepoch,.int .i64 sseq,.int .i64 sdone,.int .i64 smount,.int .i64 sgen,.int .i64 0,.int .i64 0,.int .i64 0] 51):=⟨_,rfl⟩
 have hkA:Keep [] w wA:=by rw [hwA];exact ((Keep.refl _ _).alloc _).alloc _
 have hbR:Blk wA w.heap.size 173 #[.int .i64 gen,.int .i64 view,.int .i64 mode,.int .i64 epoch,.int .i64 seq,.int .i64 done,.int .i64 seg,.int .i64 off,.int .i64 lsn,.int .i64 prev,.int .i64 mount,.slice BA P bc,.slice OA P oc,.slice SA sn sc]:=by
  rw [hwA];exact (Blk.new w _ _).keep0 ((Keep.refl _ _).alloc _)
 have hbS:Blk wA (w.heap.size+1) 51 #[.int .i64 smode,.int .i64 sview,.int .i64 sepoch,.int .i64 sseq,.int .i64 sdone,.int .i64 smount,.int .i64 sgen,.int .i64 0,.int .i64 0,.int .i64 0]:=by
  rw [hwA]
  have:=Blk.new (w.alloc (.cells #[.int .i64 gen,.int .i64 view,.int .i64 mode,.int .i64 epoch,.int .i64 seq,.int .i64 done,.int .i64 seg,.int .i64 off,.int .i64 lsn,.int .i64 prev,.int .i64 mount,.slice BA P bc,.slice OA P oc,.slice SA sn sc] 173)) 51 #[.int .i64 smode,.int .i64 sview,.int .i64 sepoch,.int .i64 sseq,.int .i64 sdone,.int .i64 smount,.int .i64 sgen,.int .i64 0,.int .i64 0,.int .i64 0]
  rw [show ∀ o,(w.alloc o).heap.size=w.heap.size+1 from fun o=>by simp] at this
  exact this
 go_enter Tryz.func105,Tryz.ntmps105
 go_wp2_with fail
 rw [← hwA]
 clear hwA
 have hC0:=Vl BA P bc _ wA.drew (hb.keep hkA.drew) (by omega)
 refine KA (fun w'=>w'.cell? ⟨w.heap.size+1,0,none⟩=some (.int .i64 smode)∧w'.cell? ⟨w.heap.size+1,1,none⟩=some (.int .i64 sview)∧w'.cell? ⟨w.heap.size+1,2,none⟩=some (.int .i64 sepoch)∧w'.cell? ⟨w.heap.size+1,3,none⟩=some (.int .i64 sseq)∧w'.cell? ⟨w.heap.size+1,4,none⟩=some (.int .i64 sdone)∧w'.cell? ⟨w.heap.size+1,5,none⟩=some (.int .i64 smount)∧w'.cell? ⟨w.heap.size+1,6,none⟩=some (.int .i64 sgen)∧w'.cell? ⟨w.heap.size+1,7,none⟩=some (.int .i64 0)∧w'.cell? ⟨w.heap.size+1,8,none⟩=some (.int .i64 0)∧w'.cell? ⟨w.heap.size+1,9,none⟩=some (.int .i64 0)∧w'.cell? ⟨w.heap.size,11,none⟩=some (.slice BA P bc)∧w'.cell? ⟨w.heap.size,12,none⟩=some (.slice OA P oc)) 14 [(0,false),(1,false),(2,false),(3,false),(4,false),(5,false),(6,false),(7,false),(8,false),(10,false),(11,false),(9,true),(12,true),(13,false)]
  (by kernel_rfl) (by kernel_rfl) (fun _ _ d _ _ h=>by cases d <;> exact h) ⟨(by simpa using (hbS.drew).cell 0),(by simpa using (hbS.drew).cell 1),(by simpa using (hbS.drew).cell 2),(by simpa using (hbS.drew).cell 3),(by simpa using (hbS.drew).cell 4),(by simpa using (hbS.drew).cell 5),(by simpa using (hbS.drew).cell 6),(by simpa using (hbS.drew).cell 7),(by simpa using (hbS.drew).cell 8),(by simpa using (hbS.drew).cell 9),(by simpa using (hbR.drew).cell 11),(by simpa using (hbR.drew).cell 12)⟩ ?_
 simp only [PI]
 iterate 11 (refine ZB ?_ (by rfl) ?_ ?_;rotate_left;(focus (rintro W ⟨hW0,hW1,hW2,hW3,hW4,hW5,hW6,hW7,hW8,hW9,hW10,hW11⟩;go_simp;try with_reducible rfl));simp only [Act.put,PU])
 refine KB (by rfl) (fun K hK=>?_)
 go_wp2_with (refine hC0.mono ?_;clear hC0;rintro e w1 ⟨v1,rfl,hv1,hk1⟩)
 have hkB:Keep [] wA w1:=(Keep.refl _ _).drew.trans0 hk1
 have hC1:=Vl OA P oc _ w1 (ho.keep (hkA.trans0 hkB)) (by omega)
 obtain ⟨VA1,vc1,rfl,_⟩:=JB hv1
 refine hK _ _ (⟨(by simpa using (hbS.keep0 hkB).cell 0),(by simpa using (hbS.keep0 hkB).cell 1),(by simpa using (hbS.keep0 hkB).cell 2),(by simpa using (hbS.keep0 hkB).cell 3),(by simpa using (hbS.keep0 hkB).cell 4),(by simpa using (hbS.keep0 hkB).cell 5),(by simpa using (hbS.keep0 hkB).cell 6),(by simpa using (hbS.keep0 hkB).cell 7),(by simpa using (hbS.keep0 hkB).cell 8),(by simpa using (hbS.keep0 hkB).cell 9),(by simpa using (hbR.keep0 hkB).cell 11),(by simpa using (hbR.keep0 hkB).cell 12)⟩) ?_
 clear hK K
 try simp only [Act.put,PU]
 refine KB (by rfl) (fun K hK=>?_)
 go_wp2_with (refine hC1.mono ?_;clear hC1;rintro e w2 ⟨v2,rfl,hv2,hk2⟩)
 have hkC:Keep [] wA w2:=hkB.trans0 hk2
 obtain ⟨VA2,vc2,rfl,_⟩:=JB hv2
 refine hK _ _ (⟨(by simpa using (hbS.keep0 hkC).cell 0),(by simpa using (hbS.keep0 hkC).cell 1),(by simpa using (hbS.keep0 hkC).cell 2),(by simpa using (hbS.keep0 hkC).cell 3),(by simpa using (hbS.keep0 hkC).cell 4),(by simpa using (hbS.keep0 hkC).cell 5),(by simpa using (hbS.keep0 hkC).cell 6),(by simpa using (hbS.keep0 hkC).cell 7),(by simpa using (hbS.keep0 hkC).cell 8),(by simpa using (hbS.keep0 hkC).cell 9),(by simpa using (hbR.keep0 hkC).cell 11),(by simpa using (hbR.keep0 hkC).cell 12)⟩) ?_
 clear hK K
 try simp only [Act.put,PU]
 iterate 1 (refine ZB ?_ (by rfl) ?_ ?_;rotate_left;(focus (rintro W ⟨hW0,hW1,hW2,hW3,hW4,hW5,hW6,hW7,hW8,hW9,hW10,hW11⟩;go_simp;try with_reducible rfl));simp only [Act.put,PU])
 refine ZC ?_
 have hv1':=YC (XB hv1 hk2) (show w.heap.size≤wA.drew.heap.size from hkA.size)
 have hv2':=YC hv2 (show w.heap.size≤w1.heap.size from Nat.le_trans hkA.size hkB.size)
 go_wp2_with fail
 go_ret
 refine ⟨_,_,_,rfl,Nat.le_trans hkA.size hkC.size,Blk.new _ _ _,ZD hv1' _,ZD hv2' _,(hkA.trans0 hkC).alloc _⟩
end
section
open Go.RowKit
def PartsAt (w:World) (A:Option Addr) (len:Nat) (zs:List (Int×Int×Int)):Prop:=
 zs.length=len∧(0<len→∃ ab ao,A=some ⟨ab,ao,none⟩∧ab<w.heap.size∧∀ i z,zs[i]? = some z→w.cell? ⟨ab,ao+i*3,none⟩=some (.int .i64 z.1)∧w.cell? ⟨ab,ao+i*3+1,none⟩=some (.int .i64 z.2.1) ∧
  w.cell? ⟨ab,ao+i*3+2,none⟩=some (.int .i64 z.2.2))
theorem PartsAt.keep0 {w w':World} {A:Option Addr} {len:Nat} {zs:List (Int×Int×Int)} (h:PartsAt w A len zs) (hk:Keep [] w w'):PartsAt w' A len zs:=
 ⟨h.1,fun h0=>by
   obtain ⟨ab,ao,e,hb,hc⟩:=h.2 h0
   exact ⟨ab,ao,e,hk.lt hb,fun i z hz=>by
    obtain ⟨a,b,c⟩:=hc i z hz
    exact ⟨(hk.cell hb (by simp) _).trans a,(hk.cell hb (by simp) _).trans b,(hk.cell hb (by simp) _).trans c⟩⟩⟩
end
section
open Go.RowKit Go.Shelf
end
end Go.Proofs.YtmoagodllhdemaaGreat
