/-
  A part of the proof: lemmas, and contracts of functions; their conditions stand in them.
-/
import Derived.Test.YtkonbpfbjiepfaaGreatB43
import Derived.Test.YtkonbpfbjiepfaaGreatB32
import Derived.Test.YtkonbpfbjiepfaaGreatB19
import Derived.Test.YtkonbpfbjiepfaaGreatB08
import Derived.Test.YtkonbpfbjiepfaaGreatB09
import Derived.Test.YtkonbpfbjiepfaaGreatB12
namespace Go.Proofs.YtkonbpfbjiepfaaGreat
set_option linter.unusedSimpArgs false
set_option linter.unusedVariables false
set_option maxHeartbeats 8000000
set_option maxRecDepth 40000
section
open Go.RowKit
theorem elemSlot:ElemN Tryz.prog 322 326 (.agg #[.int .i64 0,.int .i64 0,.int .i64 0,.int .i64 0,.slice none 0 0,.bool false]) 6 64:=ElemN.of Tryz.underlying322 (by kernel_rfl) rfl (by omega)
section
variable (w:World) (base x:Nat) (L:Value) (F:List Nat) (next:Nat) (sl:List PSlot) (h:WinIs w base x L F next sl)
include h
theorem JAz (n:Nat) (hn1:next≤n) (hn:n<next+sl.length) (hn2:n≤2147483647) (hq:(sl.getD (n % sl.length) PSlot.none_).is=false) (k b c e:Int) (A:Option Addr) (dc:Nat) (d:List UInt8) (hd:w.ownsRow base 5 1 (.slice A d.length dc) d.length (bys d)) :
 Calls Tryz.prog 145 #[.pointer (some ⟨x,0,none⟩),.int .i64 (n:Nat),.agg #[.int .i64 k,.int .i64 b,.int .i64 c,.int .i64 e,.slice A d.length dc]] w fun r w'=>r = .returned (.int .i64 0) ∧
  ∃ F',WinIs w' base x L F' next (sl.set (n % sl.length) ⟨.slice A d.length dc,⟨k,b,c,e,d⟩,true⟩)∧Keep F w w'∧∀ z∈F',z∈F∨z∈(Value.slice A d.length dc).ownBlock.toList:=by
 have hN:=fun W (hk:Keep [] w W)=>noneW_is W base x L F next sl (h.keep0 hk)
 have hkA:Keep [] w (w.alloc (.cells #[.int .i64 k,.int .i64 b,.int .i64 c,.int .i64 e,.slice A d.length dc] 137)):=(Keep.refl _ _).alloc _
 have hbO:=Blk.new w 137 #[.int .i64 k,.int .i64 b,.int .i64 c,.int .i64 e,.slice A d.length dc]
 obtain ⟨g,lc,hL,hc⟩:=h.form
 obtain ⟨k0,k1⟩:=(h.keep0 hkA).cells
 have hi:n % sl.length<sl.length:=Nat.mod_lt _ h.pos
 have hA:=fun W (hk:Keep [] w W)=>ZAa W base x L F next sl (h.keep0 hk) g lc hL n (by omega)
 have hres:=fun W (hk:Keep [] w W)=>h.setSlot hk g lc hL (n % sl.length) hi ⟨.slice A d.length dc,⟨k,b,c,e,d⟩,true⟩ (QB hd hk) (fun h=>by cases h)
 have hsl:=fun W (hk:Keep [] w W)=>(h.keep0 hk).slot W base x L F next sl g lc hL (n % sl.length) hi
 have hfz:∀ W,Keep [] w W→∀ j,W.frozen? ⟨g,j,none⟩=false:=fun W hk j=>XO (by have:=(h.keep0 hk).row;rw [hL] at this;exact this) j
 have hqi:sl[n % sl.length].is=false:=by rw [List.getD_eq_getElem?_getD,List.getElem?_eq_getElem hi] at hq;exact hq
 have hlt:¬ ((n:Nat):Int)<(next:Nat):=by omega
 have hge:((n:Nat):Int)<((next:Nat):Int)+(sl.length:Nat):=by omega
 rw [hL] at k0
 generalize sl[n % sl.length]=q0 at hsl hqi
 obtain ⟨q0v,q0o,q0i⟩:=q0
 simp only at hsl hqi
 subst hqi
 obtain ⟨i,hi'⟩:∃ i,i=n % sl.length:=⟨_,rfl⟩
 rw [← hi'] at hA hres hsl hi
 have HI:=KB hi'
 obtain ⟨m,hm⟩:∃ m,m=sl.length:=⟨_,rfl⟩
 have hm16:m≤16:=by rw [hm];exact h.few
 have hnb:=h.nb
 rw [← hm] at k0 hge
 have HM:=KB hm
 clear hq hi' hn hm hL h
 go_enter Tryz.func145,Tryz.ntmps145
 go_wp2_with (refine (hN _ hkA).mono ?_;clear hN;rintro r w' ⟨rfl,rfl⟩)
 have hA1:=hA _ hkA.drew
 refine KA (fun w'=>w'.cell? ⟨x,0,none⟩=some (.slice (some ⟨g,0,none⟩) m lc)∧w'.cell? ⟨x,1,none⟩=some (.int .i64 (next:Nat))) 11 [(0,false),(1,false),(2,false),(3,false),(4,false),(5,false),(6,false),(7,false),(8,false),(9,false),(10,false)]
  (by kernel_rfl) (by kernel_rfl) (fun _ _ d _ _ h=>by cases d <;> exact h) ⟨k0,k1⟩ ?_
 simp only [PI]
 iterate 11 (refine XB ?_ (by rfl) ?_ ?_;rotate_left;(focus (rintro W ⟨hW0,hW1⟩;go_simp;try with_reducible rfl));simp only [Act.put,PU])
 refine JC ?_
 go_wp2_with (go_at_call 233
              refine hA1.mono ?_
              clear hA1
              rintro r w1 ⟨rfl,hk1⟩
              have hk1w:=hkA.drew.trans0 hk1
              obtain ⟨s0,s1,s2,s3,s4,s5⟩:=hsl w1 hk1w)
 have hbO1:=hbO.keep0 ((Keep.refl _ _).drew.trans0 hk1)
 have hA2:=hA w1.drew hk1w.drew
 obtain ⟨o0,o1,o2,o3,o4⟩:=QK hbO1.drew
 clear s0 s1 s2 s3 s4 s5
 refine KA (fun w'=>w'.cell? ⟨w.heap.size,0,none⟩=some (.int .i64 k)∧w'.cell? ⟨w.heap.size,1,none⟩=some (.int .i64 b)∧w'.cell? ⟨w.heap.size,2,none⟩=some (.int .i64 c)∧w'.cell? ⟨w.heap.size,3,none⟩=some (.int .i64 e)∧w'.cell? ⟨w.heap.size,4,none⟩=some (.slice A d.length dc)) 5 [(0,false),(1,false),(3,false),(4,false),(2,true)]
  (by kernel_rfl) (by kernel_rfl) (fun _ _ d _ _ h=>by cases d <;> exact h) ⟨o0,o1,o2,o3,o4⟩ ?_
 simp only [PI]
 iterate 4 (refine XB ?_ (by rfl) ?_ ?_;rotate_left;(focus (rintro W ⟨hW0,hW1,hW2,hW3,hW4⟩;go_simp;try with_reducible rfl));simp only [Act.put,PU])
 refine JB (by rfl) (fun K hK=>?_)
 go_wp2_with (refine hA2.mono ?_;clear hA2;rintro r w2 ⟨rfl,hk2⟩)
 have hk2w:=hk1w.drew.trans0 hk2
 refine hK _ _ ((QK (hbO1.drew.keep0 hk2))) ?_
 clear hK K
 try simp only [Act.put,PU]
 refine JC ?_
 obtain ⟨s0,s1,s2,s3,s4,s5⟩:=hsl w2 hk2w
 have f0:=hfz w2 hk2w (i*6)
 have f1:=hfz w2 hk2w (i*6+1)
 have f2:=hfz w2 hk2w (i*6+2)
 have f3:=hfz w2 hk2w (i*6+3)
 have f4:=hfz w2 hk2w (i*6+4)
 have f5:=hfz w2 hk2w (i*6+5)
 go_wp2_with fail
 go_ret
 obtain ⟨F',r1,r2,r3⟩:=hres w2 hk2w
 simp only [put6] at r1 r2
 rw [← XA HI]
 exact ⟨rfl,F',r1,r2,r3⟩
end
end
section
open Go.RowKit Go.Shelf
attribute [local go_sem] Oper.semAt_some
theorem WinIs.putObj {W:World} {base x k next:Nat} {L:Value} {F:List Nat} {sl:List PSlot} {o:Obj} (h:WinIs W base x L F next sl) (o':Obj) (hl:W.heap[k]? = some o) (ho:o.isCells=false):WinIs (W.putObj k o') base x L F next sl:=
 ⟨JI o' h.blk hl ho,ownsRow_putObj h.row o' hl ho,fun q hq=>ownsRow_putObj (h.dat q hq) o' hl ho,h.foot,h.base,h.pos,h.few,h.zero,h.nb⟩
abbrev WRnd:=Nat×PSlot
end
section
open Go.RowKit Go.Shelf
attribute [local go_sem] Oper.semAt_some
structure KLen (w:World) (pre:List WRnd) (W:World):Prop where
 cnt:Boxed W w.heap.size 3 (.int .i64 (pre.length:Nat))
 keep:Keep [] w W
theorem KLen.kept {w A B:World} {pre:List WRnd} (h:KLen w pre A) (hk:Keep [] A B):KLen w pre B:=⟨JA h.cnt hk (by simp),h.keep.trans0 hk⟩
theorem KLen.turned {w W:World} {k:Nat} {pre:List WRnd} {o o':Obj} (h:KLen w pre W) (hl:w.heap.size≤k) (hg:W.heap[k]? = some o) (ho:o.isCells=false):KLen w pre (W.putObj k o'):=
 ⟨VC o' h.cnt hg ho,h.keep.putObj hl o'⟩
theorem JAT (m:Nat):(madeCells #[.int .i64 0,.int .i64 0,.int .i64 0,.int .i64 0,.slice none 0 0,.bool false] (m*6)).toList=(ZF m).flatMap slc:=by
 apply List.ext_getElem?
 intro j
 by_cases hj:j<m*6
 · have h1:(ZF m)[j / 6]'(by simp [ZF];omega)=PSlot.none_:=by simp [ZF]
   have h2:=YM QH (ZF m) (j / 6) (j % 6) (by simp [ZF];omega) (by omega)
   rw [show j / 6*6+j % 6=j by omega,h1] at h2
   rw [h2]
   have:j % 6=0∨j % 6=1∨j % 6=2∨j % 6=3∨j % 6=4∨j % 6=5:=by omega
   rw [Array.getElem?_toList,madeCells,Array.getElem?_map,Array.getElem?_range,if_pos hj]
   simp only [Option.map_some,List.size_toArray,List.length_cons,List.length_nil]
   rcases this with h | h | h | h | h | h <;> (rw [show j % (0+1+1+1+1+1+1)=j % 6 from rfl,h];rfl)
 · rw [List.getElem?_eq_none (by rw [Array.length_toList,size_madeCells];omega),List.getElem?_eq_none (by rw [Jc QH];simp [ZF];omega)]
theorem ZAj (m next:Nat) (h1:1≤m) (h2:m≤16) (h3:1≤next∧next≤1000000000) (w:World) :
 Calls Tryz.prog 223 #[.int .i64 (m:Nat),.int .i64 (next:Nat)] w fun e w'=>∃ x,e = .returned (.pointer (some ⟨x,0,none⟩))∧∃ F,WinAt w' w.heap.size x F next (ZF m)∧Keep [] w w':=by
 have i1:¬ ((m:Nat):Int)<1:=by omega
 have i2:¬ (16:Int)<((m:Nat):Int):=by omega
 have i3:¬ ((next:Nat):Int)<1:=by omega
 have i4:¬ (2147483647:Int)<((next:Nat):Int):=by omega
 go_enter Tryz.func223,Tryz.ntmps223
 go_wp2_with (at_make;refine elemSlot.wp_make rfl _ _ rfl .i64 .i64 m rfl rfl (by omega) (by omega) ?_;intro w1 g1 hg1 hs1 hb1 hk1;obtain rfl:g1=w.heap.size:=hg1;clear hs1)
 go_ret
 have hb2:w1.ownsRow w.heap.size 326 6 (.slice (some ⟨w.heap.size,0,none⟩) m m) m ((ZF m).flatMap slc):=
  ⟨by rw [Jc QH];simp [ZF],.inr ⟨w.heap.size,m,_,rfl,Nat.le_refl _,hb1,Nat.le_refl _,by simp [maxLen];omega,by rw [size_madeCells],by rw [← JAT];exact List.take_of_length_le (by rw [Array.length_toList,size_madeCells];exact Nat.le_refl _)⟩⟩
 refine ⟨_,rfl,⟨_,_,Blk.new _ _ _,by have:=JD hb2 (.cells #[.slice (some ⟨w.heap.size,0,none⟩) m m,.int .i64 (next:Nat)] 324);simpa [ZF] using this,fun q hq=>?_,rfl,hk1.size,by simpa [ZF] using h1,by simpa [ZF] using h2,fun q hq _=>?_,by omega⟩,hk1.alloc _⟩
 · rw [List.eq_of_mem_replicate hq];exact PSlot.none_dat _ _
 · exact List.eq_of_mem_replicate hq
end
section
open Go.RowKit Go.Shelf
structure ReplicaIs (w:World) (base r s d x:Nat) (Fs Fx:List Nat) (B:Nat) (R:RS):Prop where
 blk:Blk w r 224 #[.pointer (some ⟨s,0,none⟩),.pointer (some ⟨x,0,none⟩)]
 st:StoreAt w base s d Fs B R.S
 win:WinAt w base x Fx R.next R.sl
 ap:Apart Fs Fx
 rs:r∉Fs
 rx:r∉Fx
 rb:base≤r
 mode:R.S.st.mode=1
 view:1≤R.S.st.view∧R.S.st.view≤2147483647
def YP (r:Nat) (Fs Fx:List Nat):List Nat:=r :: (Fs++Fx)
namespace ReplicaIs
variable {w w':World} {base r s d x:Nat} {Fs Fx l:List Nat} {B:Nat} {R:RS}
theorem keep (h:ReplicaIs w base r s d x Fs Fx B R) (hk:Keep l w w') (ha:Apart (YP r Fs Fx) l):ReplicaIs w' base r s d x Fs Fx B R:=
 ⟨h.blk.keep hk (ha r (by simp [YP])),h.st.keep hk (fun y hy=>ha y (by simp [YP,hy])),h.win.keep hk (fun y hy=>ha y (by simp [YP,hy])),h.ap,h.rs,h.rx,h.rb,h.mode,h.view⟩
theorem keep0 (h:ReplicaIs w base r s d x Fs Fx B R) (hk:Keep [] w w'):ReplicaIs w' base r s d x Fs Fx B R:=h.keep hk Apart.nil_right
theorem lt (h:ReplicaIs w base r s d x Fs Fx B R):∀ y∈YP r Fs Fx,y<w.heap.size:=fun y hy=>by
 simp only [YP,List.mem_cons,List.mem_append] at hy
 rcases hy with rfl | hy | hy
 · exact h.blk.lt
 · exact h.st.lt y hy
 · exact h.win.lt y hy
theorem ge (h:ReplicaIs w base r s d x Fs Fx B R):∀ y∈YP r Fs Fx,base≤y:=fun y hy=>by
 simp only [YP,List.mem_cons,List.mem_append] at hy
 rcases hy with rfl | hy | hy
 · exact h.rb
 · exact h.st.ge y hy
 · exact h.win.ge y hy
theorem cells (h:ReplicaIs w base r s d x Fs Fx B R):w.cell? ⟨r,0,none⟩=some (.pointer (some ⟨s,0,none⟩))∧w.cell? ⟨r,1,none⟩=some (.pointer (some ⟨x,0,none⟩)):=⟨by simpa using h.blk.cell 0,by simpa using h.blk.cell 1⟩
theorem setSt (h:ReplicaIs w base r s d x Fs Fx B R) {Fs':List Nat} {S':PS} (hs:StoreAt w' base s d Fs' B S') (hk:Keep Fs w w') (hg:Grow w Fs Fs') (hm:S'.st.mode=1) (hv:S'.st.view=R.S.st.view):ReplicaIs w' base r s d x Fs' Fx B ⟨S',R.next,R.sl⟩:=
 ⟨h.blk.keep hk h.rs,hs,h.win.keep hk h.ap.symm,h.ap.grow hg h.win.lt,fun hr=>(hg r hr).elim h.rs (by have:=h.blk.lt;omega),h.rx,h.rb,hm,hv ▸ h.view⟩
theorem setWin (h:ReplicaIs w base r s d x Fs Fx B R) {Fx':List Nat} {n:Nat} {sl:List PSlot} (hx:WinAt w' base x Fx' n sl) (hk:Keep Fx w w') (hg:∀ y∈Fx',y∈Fx∨(y∉Fs∧y≠r)):ReplicaIs w' base r s d x Fs Fx' B ⟨R.S,n,sl⟩:=
 ⟨h.blk.keep hk h.rx,h.st.keep hk h.ap,hx,fun y hy hm=>(hg y hm).elim (h.ap y hy) (fun h'=>h'.1 hy),h.rs,fun hr=>(hg r hr).elim h.rx (fun h'=>h'.2 rfl),h.rb,h.mode,h.view⟩
end ReplicaIs
theorem XL (w:World) (base s d:Nat) (F:List Nat) (B:Nat) (S:PS) (h:StoreAt w base s d F B S):Calls Tryz.prog 85 #[.pointer (some ⟨s,0,none⟩)] w fun e w'=>e = .returned (.agg #[.int .i64 S.st.mode,.int .i64 S.st.view,.int .i64 S.st.epoch,.int .i64 S.st.seq,.int .i64 S.st.done,.int .i64 S.st.mount,.int .i64 S.st.gen,.int .i64 (KD S.us:Nat),.int .i64 (JBK S:Nat),.int .i64 (XK S.I.ol:Nat)])∧Keep [] w w':=by
 obtain ⟨g,t,p,m,Fd,Ft,Fw,Fm,L0,L1,h,rfl⟩:=h
 exact ZAQ w base s d g t p m Fd Ft Fw Fm L0 L1 B S h
section
variable (w:World) (base r s d x:Nat) (Fs Fx:List Nat) (B:Nat) (R:RS) (h:ReplicaIs w base r s d x Fs Fx B R)
include h
theorem QAV (hs:R.S.st.seq≤2147483647) (he:R.S.st.epoch≤2147483647) (hd:R.S.st.done≤R.S.st.seq) :
 Calls Tryz.prog 147 #[.pointer (some ⟨r,0,none⟩)] w fun e w'=>∃ u,e = .returned (.tuple #[u,.int .i64 0])∧w'.ownsRow w.heap.size 5 1 u 25 (bys (VH 8 R.S.st.view R.S.st.seq 0 0 R.S.st.epoch R.S.st.done []))∧Keep [] w w':=by
 have hS:=XL w base s d Fs B R.S h.st
 have hE:=fun W=>Ys 8 R.S.st.view R.S.st.seq 0 0 R.S.st.epoch R.S.st.done none 0 0 [] W (Rd.nil _ _) ⟨by have:=h.view;omega,.inr (.inr (.inr (.inl ⟨rfl,by omega,rfl,rfl,by omega,by omega,rfl⟩)))⟩
 obtain ⟨c0,c1⟩:=h.cells
 unfold frv at hE
 generalize R.S.st=st at *
 obtain ⟨mode,view,epoch,seq,done,mount,gen⟩:=st
 simp only at hS hE hs he hd ⊢
 go_enter Tryz.func147,Tryz.ntmps147
 go_wp2_with (first
  | (go_at_call 85;refine hS.mono ?_;clear hS;rintro e w1 ⟨rfl,hk1⟩)
  | (go_at_call 228;refine (hE _).mono ?_;clear hE;rintro e w2 ⟨u,rfl,hu,hk2⟩))
 go_ret2
 exact ⟨u,rfl,YC hu (by have:=hk1.size;simp;omega),(hk1.alloc _).trans0 hk2⟩
theorem readyR_ok:Calls Tryz.prog 141 #[.pointer (some ⟨r,0,none⟩)] w fun e w'=>e = .returned (.int .i64 0)∧Keep [] w w':=by
 have hS:=XL w base s d Fs B R.S h.st
 have hm:=h.mode
 have hD:Calls Tryz.prog 60 #[.pointer (some ⟨s,0,none⟩)] w fun e w'=>e = .returned (.pointer (some ⟨d,0,none⟩))∧w=w':=by
  obtain ⟨g,t,p,m,Fd,Ft,Fw,Fm,L0,L1,h2,hf⟩:=h.st
  exact DiskS_is w base s d g t p m Fd Ft Fw Fm L0 L1 B R.S h2
 have hO:Calls Tryz.prog 61 #[.pointer (some ⟨d,0,none⟩)] w fun e w'=>e = .returned (.bool false)∧w=w':=by
  obtain ⟨g,t,p,m,Fd,Ft,Fw,Fm,L0,L1,h2,hf⟩:=h.st
  have:=Yt w base d Fd R.S.D h2.log.disk
  rwa [h2.log.off] at this
 obtain ⟨c0,c1⟩:=h.cells
 rw [hm] at hS
 clear hm
 have hfd:=fun (a b c e f g h' i j:Value) W=>JE (P:=Tryz.prog) Tryz.underlying72 0 rfl Tryz.isAgg3 #[.int .i64 1,a,b,c,e,f,g,h',i,j] rfl W
 go_enter Tryz.func141,Tryz.ntmps141
 go_wp2_with (first
  | (go_at_call 60;refine hD.mono ?_;clear hD;rintro e w' ⟨rfl,rfl⟩)
  | (go_at_call 61;refine hO.mono ?_;clear hO;rintro e w' ⟨rfl,rfl⟩)
  | (go_at_call 85;refine hS.mono ?_;clear hS;rintro e w1 ⟨rfl,hk1⟩))
 go_ret
 exact ⟨rfl,hk1⟩
end
end
section
open Go.RowKit Go.Shelf
section
variable (w:World) (base r s d x:Nat) (Fs Fx:List Nat) (B:Nat) (R:RS) (h:ReplicaIs w base r s d x Fs Fx B R)
include h
theorem ImageAt_st:∃ m,(∀ W,Keep [] w W→Calls Tryz.prog 15 #[.pointer (some ⟨s,0,none⟩)] W fun e w'=>e = .returned (.pointer (some ⟨m,0,none⟩))∧W=w')∧(∀ W,Keep [] w W→Calls Tryz.prog 111 #[.pointer (some ⟨m,0,none⟩)] W fun e w'=>e = .returned (.int .i64 (B:Nat))∧W=w')∧B≤64:=by
 obtain ⟨g,t,p,m,Fd,Ft,Fw,Fm,L0,L1,h2,hf⟩:=h.st
 exact ⟨m,fun W hk=>ImageS_is W base s d g t p m Fd Ft Fw Fm L0 L1 B R.S (h2.keep0 hk),fun W hk=>BlocksS_is W base s d g t p m Fd Ft Fw Fm L0 L1 B R.S (h2.keep0 hk),h2.log.geom.few⟩
theorem Yl (k v q b c e dn:Nat) (D:Value) (hk:k=1∨k=2) (hb:b+max c 1≤B) (A:Option Addr) (n m:Nat) (hD:D = .slice A n m):Calls Tryz.prog 142 #[.pointer (some ⟨r,0,none⟩),.agg #[.int .i64 k,.int .i64 v,.int .i64 q,.int .i64 b,.int .i64 c,.int .i64 e,.int .i64 dn,D]] w fun e w'=>e = .returned (.bool false)∧Keep [] w w':=by
 subst hD
 obtain ⟨mm,hI,hBl,h64⟩:=ImageAt_st w base r s d x Fs Fx B R h
 obtain ⟨c0,c1⟩:=h.cells
 have hrl:=h.blk.lt
 obtain ⟨mx,hmx⟩:∃ mx:Nat,max ((c:Nat):Int) 1=(mx:Nat)∧b+mx≤B:=⟨max c 1,by omega,hb⟩
 obtain ⟨hmx,hb2⟩:=hmx
 have hkA:Keep [] w (w.alloc (.cells #[.int .i64 k,.int .i64 v,.int .i64 q,.int .i64 b,.int .i64 c,.int .i64 e,.int .i64 dn,.slice A n m] 152)):=(Keep.refl _ _).alloc _
 have hbF:=Blk.new w 152 #[.int .i64 k,.int .i64 v,.int .i64 q,.int .i64 b,.int .i64 c,.int .i64 e,.int .i64 dn,.slice A n m]
 have c0A:=(h.keep0 hkA).cells.1
 clear h hb
 go_enter Tryz.func142,Tryz.ntmps142
 go_wp2_with fail
 obtain ⟨f0,f1,f2,f3,f4,f5,f6,f7⟩:=ZC hbF
 have hbI:((b:Nat):Int)+(mx:Nat)≤(B:Nat):=by omega
 rcases hk with rfl | rfl
 · refine KA (fun w'=>w'.cell? ⟨w.heap.size,0,none⟩=some (.int .i64 ((1:Nat):Int))∧w'.cell? ⟨w.heap.size,3,none⟩=some (.int .i64 (b:Nat))∧w'.cell? ⟨r,0,none⟩=some (.pointer (some ⟨s,0,none⟩))) 23 [(0,false),(1,false),(2,false),(3,false),(4,false),(5,false),(6,false),(7,false),(8,false),(9,false),(10,false),(11,false),(12,false),(13,false),(14,false),(15,false),(16,false),(17,false),(18,false),(19,false),(20,false),(21,true),(22,true)]
    (by kernel_rfl) (by kernel_rfl) (fun _ _ d _ _ h=>by cases d <;> exact h) ⟨f0,f3,c0A⟩ ?_
   simp only [PI]
   iterate 8 (refine XB ?_ (by rfl) ?_ ?_;rotate_left;(focus (rintro W ⟨hW0,hW1,hW2⟩;go_simp;try with_reducible rfl));simp only [Act.put,PU])
   iterate 3 (refine ZP (by rfl) ?_;simp only [Act.put,PU])
   iterate 10 (refine XB ?_ (by rfl) ?_ ?_;rotate_left;(focus (rintro W ⟨hW0,hW1,hW2⟩;go_simp;try with_reducible rfl));simp only [Act.put,PU])
   refine JB (by rfl) (fun K hK=>?_)
   go_wp2_with (refine (hI _ hkA.drew).mono ?_;rintro e w' ⟨rfl,rfl⟩)
   refine hK _ _ (⟨f0,f3,c0A⟩) ?_
   clear hK K
   try simp only [Act.put,PU]
   refine JB (by rfl) (fun K hK=>?_)
   go_wp2_with (refine (hBl _ hkA.drew).mono ?_;rintro e w' ⟨rfl,rfl⟩)
   refine hK _ _ (⟨f0,f3,c0A⟩) ?_
   clear hK K
   try simp only [Act.put,PU]
   refine JC ?_
   go_wp2_with fail
   go_ret
   exact ⟨by simpa using hbI,hkA.drew⟩
 · refine KA (fun w'=>w'.cell? ⟨w.heap.size,0,none⟩=some (.int .i64 ((2:Nat):Int))∧w'.cell? ⟨w.heap.size,3,none⟩=some (.int .i64 (b:Nat))∧w'.cell? ⟨r,0,none⟩=some (.pointer (some ⟨s,0,none⟩))) 23 [(0,false),(1,false),(2,false),(3,false),(4,false),(5,false),(6,false),(7,false),(8,false),(9,false),(10,false),(11,false),(12,false),(13,false),(14,false),(15,false),(16,false),(17,false),(18,false),(19,false),(20,false),(21,true),(22,true)]
    (by kernel_rfl) (by kernel_rfl) (fun _ _ d _ _ h=>by cases d <;> exact h) ⟨f0,f3,c0A⟩ ?_
   simp only [PI]
   iterate 21 (refine XB ?_ (by rfl) ?_ ?_;rotate_left;(focus (rintro W ⟨hW0,hW1,hW2⟩;go_simp;try with_reducible rfl));simp only [Act.put,PU])
   refine JB (by rfl) (fun K hK=>?_)
   go_wp2_with (refine (hI _ hkA.drew).mono ?_;rintro e w' ⟨rfl,rfl⟩)
   refine hK _ _ (⟨f0,f3,c0A⟩) ?_
   clear hK K
   try simp only [Act.put,PU]
   refine JB (by rfl) (fun K hK=>?_)
   go_wp2_with (refine (hBl _ hkA.drew).mono ?_;rintro e w' ⟨rfl,rfl⟩)
   refine hK _ _ (⟨f0,f3,c0A⟩) ?_
   clear hK K
   try simp only [Act.put,PU]
   refine JC ?_
   go_wp2_with fail
   go_ret
   exact ⟨by simpa using hbI,hkA.drew⟩
omit h in
theorem Ks (v q b c e dn:Nat) (A:Option Addr) (n m:Nat):Calls Tryz.prog 142 #[.pointer (some ⟨r,0,none⟩),.agg #[.int .i64 3,.int .i64 v,.int .i64 q,.int .i64 b,.int .i64 c,.int .i64 e,.int .i64 dn,.slice A n m]] w fun e w'=>e = .returned (.bool false)∧Keep [] w w':=by
 have hkA:Keep [] w (w.alloc (.cells #[.int .i64 3,.int .i64 v,.int .i64 q,.int .i64 b,.int .i64 c,.int .i64 e,.int .i64 dn,.slice A n m] 152)):=(Keep.refl _ _).alloc _
 have hbF:=Blk.new w 152 #[.int .i64 3,.int .i64 v,.int .i64 q,.int .i64 b,.int .i64 c,.int .i64 e,.int .i64 dn,.slice A n m]
 obtain ⟨mx,hmx⟩:∃ mx:Int,max ((c:Nat):Int) 1=mx:=⟨_,rfl⟩
 go_enter Tryz.func142,Tryz.ntmps142
 go_wp2_with fail
 obtain ⟨f0,f1,f2,f3,f4,f5,f6,f7⟩:=ZC hbF
 refine KA (fun w'=>w'.cell? ⟨w.heap.size,0,none⟩=some (.int .i64 3)) 23 [(0,false),(1,false),(2,false),(3,false),(4,false),(5,false),(6,false),(7,false),(8,false),(9,false),(10,false),(11,false),(12,false),(13,false),(14,false),(15,false),(16,false),(17,false),(18,false),(19,false),(20,false),(21,true),(22,true)]
  (by kernel_rfl) (by kernel_rfl) (fun _ _ d _ _ h=>by cases d <;> exact h) f0 ?_
 simp only [PI]
 iterate 13 (refine XB ?_ (by rfl) ?_ ?_;rotate_left;(focus (intro W hW;go_simp;try with_reducible rfl));simp only [Act.put,PU])
 iterate 8 (refine ZP (by rfl) ?_;simp only [Act.put,PU])
 refine XI (by rfl) f0 ?_
 simp only [Act.put,PU]
 refine XI (by rfl) f0 ?_
 simp only [Act.put,PU]
 refine JC ?_
 go_wp2_with fail
 go_ret
 exact ⟨rfl,hkA.drew⟩
theorem KAo (k j:Nat) (hg:Good B R.S k j) (hk:k≤50) (hj:j≤20000) (o:POp) (ho:Jj B o) (hm:o.k=3→o.e=R.S.st.epoch+1) (A:Option Addr) (dl c:Nat) (hr:Rd w A dl (bys o.d)) (hA:∀ y,A=some y→y.block∉Fs) :
 Calls Tryz.prog 235 #[.pointer (some ⟨r,0,none⟩),.agg #[.int .i64 o.k,.int .i64 o.b,.int .i64 o.c,.int .i64 o.e,.slice A dl c]] w fun e w'=>e = .returned (.int .i64 0)∧∃ Fs' S',StoreAt w' base s d Fs' B S'∧Does B R.S o S'∧Keep Fs w w'∧Grow w Fs Fs':=by
 obtain ⟨ok,ob,oc,oe,od⟩:=o
 simp only at hm hr ⊢
 have hdl:od.length=dl:=by simpa using hr.1
 have hkA:Keep [] w (w.alloc (.cells #[.int .i64 ok,.int .i64 ob,.int .i64 oc,.int .i64 oe,.slice A dl c] 137)):=(Keep.refl _ _).alloc _
 have hbO:=Blk.new w 137 #[.int .i64 ok,.int .i64 ob,.int .i64 oc,.int .i64 oe,.slice A dl c]
 have hst:=h.st.keep0 hkA.drew
 have hmode:=h.mode
 have c0A:=(h.keep0 hkA).cells.1
 obtain ⟨o0,o1,o2,o3,o4⟩:=QK hbO
 rcases ho with ⟨h1,h2,h3,h4⟩ | ⟨h1,h2,h3,h4⟩ | ⟨h1,h2,h3⟩
 · simp only at h1 h2 h3 h4
   subst h1
   obtain ⟨b,rfl⟩:∃ b:Nat,ob=b:=⟨ob.toNat,by omega⟩
   obtain rfl:dl=64:=by omega
   have hW:=VAc _ base s d Fs B R.S hst k j hg hk hj hmode b (by omega) A c od (hr.keep hkA.drew) hA
   clear h hst
   go_enter Tryz.func235,Tryz.ntmps235
   go_wp2_with fail
   refine KA (fun w'=>w'.cell? ⟨r,0,none⟩=some (.pointer (some ⟨s,0,none⟩))∧w'.cell? ⟨w.heap.size,1,none⟩=some (.int .i64 (b:Nat))∧w'.cell? ⟨w.heap.size,4,none⟩=some (.slice A 64 c)) 8 [(0,false),(1,false),(2,false),(3,false),(4,false),(5,false),(6,false),(7,false)]
    (by kernel_rfl) (by kernel_rfl) (fun _ _ d _ _ h=>by cases d <;> exact h) ⟨c0A,o1,o4⟩ ?_
   simp only [PI]
   iterate 8 (refine XB ?_ (by rfl) ?_ ?_;rotate_left;(focus (rintro W ⟨hW0,hW1,hW2⟩;go_simp;try with_reducible rfl));simp only [Act.put,PU])
   refine JC ?_
   go_wp2_with (refine hW.mono ?_;clear hW;rintro e w2 ⟨rfl,F',S',g1,g2,g3,g4⟩)
   go_ret
   exact ⟨rfl,F',S',g1,.inl ⟨rfl,by simpa using g2⟩,hkA.drew.zero.trans g3 (fun x hx => .inl hx),g4.keep hkA.drew⟩
 · simp only at h1 h2 h3 h4
   subst h1
   obtain ⟨b,rfl⟩:∃ b:Nat,ob=b:=⟨ob.toNat,by omega⟩
   obtain ⟨n,rfl⟩:∃ n:Nat,oc=n:=⟨oc.toNat,by omega⟩
   have hW:=KAu _ base s d Fs B R.S hst k j hg hk hj hmode b n (by omega) (by omega)
   clear h hst
   go_enter Tryz.func235,Tryz.ntmps235
   go_wp2_with fail
   refine KA (fun w'=>w'.cell? ⟨r,0,none⟩=some (.pointer (some ⟨s,0,none⟩))∧w'.cell? ⟨w.heap.size,1,none⟩=some (.int .i64 (b:Nat))∧w'.cell? ⟨w.heap.size,2,none⟩=some (.int .i64 (n:Nat))) 8 [(0,false),(1,false),(2,false),(3,false),(4,false),(5,false),(6,false),(7,false)]
    (by kernel_rfl) (by kernel_rfl) (fun _ _ d _ _ h=>by cases d <;> exact h) ⟨c0A,o1,o2⟩ ?_
   simp only [PI]
   iterate 8 (refine XB ?_ (by rfl) ?_ ?_;rotate_left;(focus (rintro W ⟨hW0,hW1,hW2⟩;go_simp;try with_reducible rfl));simp only [Act.put,PU])
   refine JC ?_
   go_wp2_with (refine hW.mono ?_;clear hW;rintro e w2 ⟨rfl,F',S',g1,g2,g3,g4⟩)
   go_ret
   exact ⟨rfl,F',S',g1,.inr (.inl ⟨rfl,by simpa using g2⟩),hkA.drew.zero.trans g3 (fun x hx => .inl hx),g4.keep hkA.drew⟩
 · simp only at h1 h2 h3
   subst h1
   have hoe:=hm rfl
   obtain ⟨e,rfl⟩:∃ e:Nat,oe=e:=⟨oe.toNat,by omega⟩
   have hW:=ZAp _ base s d Fs B R.S hst k j hg hk hj hmode e (by omega)
   have HM:=KB hoe
   clear h hst hm hoe
   go_enter Tryz.func235,Tryz.ntmps235
   go_wp2_with fail
   refine KA (fun w'=>w'.cell? ⟨r,0,none⟩=some (.pointer (some ⟨s,0,none⟩))∧w'.cell? ⟨w.heap.size,3,none⟩=some (.int .i64 (e:Nat))) 6 [(0,false),(1,false),(2,false),(3,false),(4,false),(5,false)]
    (by kernel_rfl) (by kernel_rfl) (fun _ _ d _ _ h=>by cases d <;> exact h) ⟨c0A,o3⟩ ?_
   simp only [PI]
   iterate 6 (refine XB ?_ (by rfl) ?_ ?_;rotate_left;(focus (rintro W ⟨hW0,hW1⟩;go_simp;try with_reducible rfl));simp only [Act.put,PU])
   refine JC ?_
   go_wp2_with (refine hW.mono ?_;clear hW;rintro e w2 ⟨rfl,F',S',g1,g2,g3,g4⟩)
   go_ret
   exact ⟨rfl,F',S',g1,.inr (.inr ⟨rfl,XA HM,by simpa using g2⟩),hkA.drew.zero.trans g3 (fun x hx => .inl hx),g4.keep hkA.drew⟩
theorem XAZ (o:POp) (h3:o.k=3) (ho:Jj B o) (hm:o.e≠R.S.st.epoch+1) (heb:R.S.st.epoch≤1000000000) (A:Option Addr) (dl c:Nat) :
 Calls Tryz.prog 235 #[.pointer (some ⟨r,0,none⟩),.agg #[.int .i64 o.k,.int .i64 o.b,.int .i64 o.c,.int .i64 o.e,.slice A dl c]] w fun e w'=>e = .returned (.int .i64 1)∧Keep [] w w':=by
 obtain ⟨ok,ob,oc,oe,od⟩:=o
 simp only at hm h3 ⊢
 subst h3
 have hkA:Keep [] w (w.alloc (.cells #[.int .i64 3,.int .i64 ob,.int .i64 oc,.int .i64 oe,.slice A dl c] 137)):=(Keep.refl _ _).alloc _
 have hbO:=Blk.new w 137 #[.int .i64 3,.int .i64 ob,.int .i64 oc,.int .i64 oe,.slice A dl c]
 have c0A:=(h.keep0 hkA).cells.1
 obtain ⟨o0,o1,o2,o3,o4⟩:=QK hbO
 obtain ⟨e,rfl⟩:∃ e:Nat,oe=e:=by
  rcases ho with ⟨h1,_⟩ | ⟨h1,_⟩ | ⟨_,h1,_⟩
  · simp at h1
  · simp at h1
  · exact ⟨oe.toNat,by simp only at h1;omega⟩
 have hW:=VAa _ base s d Fs B R.S (h.st.keep0 hkA.drew) h.mode e (by omega) heb
 clear h hm
 go_enter Tryz.func235,Tryz.ntmps235
 go_wp2_with fail
 refine KA (fun w'=>w'.cell? ⟨r,0,none⟩=some (.pointer (some ⟨s,0,none⟩))∧w'.cell? ⟨w.heap.size,3,none⟩=some (.int .i64 (e:Nat))) 6 [(0,false),(1,false),(2,false),(3,false),(4,false),(5,false)]
  (by kernel_rfl) (by kernel_rfl) (fun _ _ d _ _ h=>by cases d <;> exact h) ⟨c0A,o3⟩ ?_
 simp only [PI]
 iterate 6 (refine XB ?_ (by rfl) ?_ ?_;rotate_left;(focus (rintro W ⟨hW0,hW1⟩;go_simp;try with_reducible rfl));simp only [Act.put,PU])
 refine JC ?_
 go_wp2_with (refine hW.mono ?_;clear hW;rintro e w2 ⟨rfl,rfl⟩)
 go_ret
 exact ⟨rfl,hkA.drew⟩
end
end
section
open Go.RowKit Go.Shelf
theorem JAf (st:PSt) (o:POp):(JAF st o).mode=st.mode∧(JAF st o).view=st.view∧(JAF st o).seq=st.seq+1:=by
 unfold JAF
 split <;> simp
def KAx (w:World) (base r s d x:Nat) (Fs Fx:List Nat) (B:Nat) (R:RS) (k j:Nat) (e:Ending) (w':World):Prop:=
 ∃ Fs' Fx' R' er,ReplicaIs w' base r s d x Fs' Fx' B R'∧Ran B R R' er∧Good B R'.S (k+KE R.sl) (j+2*KE R.sl)∧(∀ q∈R'.sl,q.is=true→Jj B q.o)∧Keep (YP r Fs Fx) w w'∧Grow w (YP r Fs Fx) (YP r Fs' Fx') ∧
   ((er=0∧∃ u,e = .returned (.tuple #[u,.int .i64 0])∧w'.ownsRow w.heap.size 5 1 u 25 (bys (VH 8 R'.S.st.view R'.S.st.seq 0 0 R'.S.st.epoch R'.S.st.done [])))∨(er=1∧e = .returned (.tuple #[.slice none 0 0,.int .i64 1])))
structure OnInv (w:World) (base r s d x:Nat) (Fs Fx:List Nat) (B:Nat) (R:RS) (k j:Nat) (Fs1 Fx1:List Nat) (R1:RS) (k1 j1 bo:Nat) (A:Option Addr) (c:Nat) (wr:World):Prop where
 rep:ReplicaIs wr base r s d x Fs1 Fx1 B R1
 ran:∀ R' e,Ran B R1 R' e→Ran B R R' e
 good:Good B R1.S k1 j1
 kb:k1+KE R1.sl≤k+KE R.sl
 jb:j1+2*KE R1.sl≤j+2*KE R.sl
 nb:R1.next+KE R1.sl=R.next+KE R.sl
 ops:∀ q∈R1.sl,q.is=true→Jj B q.o
 keep:Keep (YP r Fs Fx) w wr
 grow:Grow w (YP r Fs Fx) (YP r Fs1 Fx1)
 blk:Blk wr bo 137 #[.int .i64 R1.cur.o.k,.int .i64 R1.cur.o.b,.int .i64 R1.cur.o.c,.int .i64 R1.cur.o.e,.slice A R1.cur.o.d.length c]
 val:R1.cur.v = .slice A R1.cur.o.d.length c
 bnew:bo∉YP r Fs1 Fx1
 bge:w.heap.size≤bo
theorem RS.cur_get (R:RS) (h:1≤R.sl.length):∃ hi:R.next % R.sl.length<R.sl.length,R.cur=R.sl[R.next % R.sl.length]:=by
 have hi:R.next % R.sl.length<R.sl.length:=Nat.mod_lt _ h
 exact ⟨hi,by unfold RS.cur;rw [List.getD_eq_getElem?_getD,List.getElem?_eq_getElem hi];rfl⟩
def XAd (x:Nat) (w:World):Nat:=match w.cell? ⟨x,1,none⟩ with | some (.int _ n)=>n.toNat | _=>0
theorem Ju {w:World} {base x n:Nat} {L:Value} {F:List Nat} {sl:List PSlot} (h:WinIs w base x L F n sl):XAd x w=n:=by
 unfold XAd
 rw [h.cells.2]
 simp
theorem XBM (w:World) (base r s d x:Nat) (Fs Fx:List Nat) (B:Nat) (R:RS) (h:ReplicaIs w base r s d x Fs Fx B R) (k j:Nat) (hg:Good B R.S k j) (hk:k+KE R.sl≤50) (hj:j≤10000) (hn:R.next≤1000000) (hop:∀ q∈R.sl,q.is=true→Jj B q.o) :
 Calls Tryz.prog 146 #[.pointer (some ⟨r,0,none⟩)] w (KAx w base r s d x Fs Fx B R k j):=by
 have hpl:KE R.sl≤16:=by
  obtain ⟨L,hw⟩:=h.win
  exact Nat.le_trans (YAV _) hw.few
 have hP:Calls Tryz.prog 234 #[.pointer (some ⟨x,0,none⟩)] w fun e w'=>∃ q,R.cur=q∧e = .returned (.tuple #[.agg #[.int .i64 q.o.k,.int .i64 q.o.b,.int .i64 q.o.c,.int .i64 q.o.e,q.v],.bool q.is])∧(∃ A c,q.v = .slice A q.o.d.length c)∧Keep [] w w':=by
  obtain ⟨L,hw⟩:=h.win
  exact PeekW_is w base x L Fx R.next R.sl hw
 obtain ⟨c0,c1⟩:=h.cells
 go_enter Tryz.func146,Tryz.ntmps146
 go_wp2_with (
  (refine hP.mono ?_)
  clear hP
  rintro e w1 ⟨q,hq,rfl,⟨A,c,hqv⟩,hk1⟩
  rw [hqv])
 have hkA:Keep [] w (w1.alloc (.cells #[.int .i64 q.o.k,.int .i64 q.o.b,.int .i64 q.o.c,.int .i64 q.o.e,.slice A q.o.d.length c] 137)):=hk1.alloc _
 have h0:OnInv w base r s d x Fs Fx B R k j Fs Fx R k j w1.heap.size A c (w1.alloc (.cells #[.int .i64 q.o.k,.int .i64 q.o.b,.int .i64 q.o.c,.int .i64 q.o.e,.slice A q.o.d.length c] 137)):=by
  subst hq
  exact ⟨h.keep0 hkA,fun _ _ h=>h,hg,Nat.le_refl _,Nat.le_refl _,rfl,hop,hkA.zero,Grow.refl _ _,Blk.new _ _ _,hqv,fun hm=>by have:=h.lt _ hm;have:=hk1.size;omega,hk1.size⟩
 have hqi:R.cur.is=q.is:=by rw [hq]
 go_loopw [4,5,6] (fun a b _ wr=>∃ Fs1 Fx1 R1 k1 j1 bo A1 c1,a = .pointer (some ⟨bo,0,none⟩)∧b = .bool R1.cur.is∧OnInv w base r s d x Fs Fx B R k j Fs1 Fx1 R1 k1 j1 bo A1 c1 wr) (fun _ _ _ wr=>R.next+KE R.sl-XAd x wr)
 case atStart=>exact ⟨Fs,Fx,R,k,j,w1.heap.size,A,c,rfl,by rw [hqi],h0⟩
 case round=>
  clear h0 hkA c0 c1 hqv hqi hk1 hq
  obtain ⟨Fs1,Fx1,R1,k1,j1,bo,A1,cc,rfl,rfl,hI⟩:=hrel
  obtain ⟨c0,c1⟩:=hI.rep.cells
  obtain ⟨o0,o1,o2,o3,o4⟩:=QK hI.blk
  have hgd:=hI.good
  have hseq:=hgd.seq
  have hepo:=hgd.epoch
  have hdon:=hgd.done
  have hkb:=hI.kb
  have hjb:=hI.jb
  have hnb:=hI.nb
  obtain ⟨q,hqc⟩:∃ q,R1.cur=q:=⟨_,rfl⟩
  have hval:=hI.val
  have hblk:=hI.blk
  rw [hqc] at o0 o1 o2 o3 o4 hval hblk ⊢
  have HQ:=KB hqc
  by_cases hcur:q.is=true
  · obtain ⟨L1,hw1⟩:=hI.rep.win
    obtain ⟨hi,hce⟩:=R1.cur_get hw1.pos
    have hmem:q∈R1.sl:=by rw [← hqc,hce];exact List.getElem_mem _
    have ho:=hI.ops _ hmem hcur
    have hdat:=hw1.dat _ hmem
    have hA1:∀ y,A1=some y→y.block∉Fs1:=fun y hy hm=>hI.rep.ap _ hm (hw1.inQ hmem _ (by rw [hval,hy];simp [Value.ownBlock]))
    have hpc:=XAG hi (by rw [← hce,hqc];exact hcur)
    have hbo1:bo∉Fs1:=fun hm=>hI.bnew (by simp [YP,hm])
    have hbo2:bo∉Fx1:=fun hm=>hI.bnew (by simp [YP,hm])
    have hq:(R1.sl.getD (R1.next % R1.sl.length) PSlot.none_).is=true:=by show R1.cur.is=true;rw [hqc];exact hcur
    clear hqc hce hmem
    obtain ⟨qv,⟨ok,ob,oc,oe,od⟩,qi⟩:=q
    simp only at o0 o1 o2 o3 o4 hval hblk hcur hdat ⊢
    subst hcur
    subst hval
    have hRep:=hI.rep
    by_cases hbad:ok=3∧oe≠R1.S.st.epoch+1
    · have hD:=XAZ wr base r s d x Fs1 Fx1 B R1 hI.rep ⟨ok,ob,oc,oe,od⟩ hbad.1 ho hbad.2 (by omega) A1 od.length cc
      have HB:=KB hbad
      have HI:=KB hI
      clear hbad hI
      simp only at hD
      go_wp2_with (first
       | (go_at_call 235
          refine hD.mono ?_
          clear hD
          rintro e w2 ⟨rfl,hk2⟩
          have hC:=KAa w2 base x L1 Fx1 R1.next R1.sl (hw1.keep0 hk2) hq
          obtain ⟨d0,d1⟩:=(hRep.keep0 hk2).cells)
       | (go_at_call 236
          refine hC.mono ?_
          clear hC
          rintro e w3 ⟨rfl,F3,h3,hk3,hF3⟩))
      go_ret2
      have hI:=XA HI
      obtain ⟨hb1,hb2⟩:=XA HB
      have hcq:=XA HQ
      have hr3:=(hI.rep.keep0 hk2).setWin ⟨L1,h3⟩ hk3 (fun y hy => .inl (hF3 y hy))
      refine ⟨Fs1,F3,⟨R1.S,R1.next,R1.cut⟩,1,hr3,hI.ran _ _ (Ran.bad (by rw [hcq]) (by rw [hcq];exact hb1) (by rw [hcq];exact hb2)),hgd.mono (by omega) (by omega),?_,?_,?_,.inr ⟨rfl,rfl⟩⟩
      · intro q hq' hqi
        rcases List.mem_or_eq_of_mem_set hq' with hq' | rfl
        · exact hI.ops q hq' hqi
        · cases hqi
      · exact (hI.keep.trans0 hk2).trans hk3 (fun y hy=>hI.grow y (by simp [YP,hy]))
      · intro y hy
        apply hI.grow y
        simp only [YP,List.mem_cons,List.mem_append] at hy ⊢
        rcases hy with hy | hy | hy
        · exact .inl hy
        · exact .inr (.inl hy)
        · exact .inr (.inr (hF3 y hy))
    · have hD:=KAo wr base r s d x Fs1 Fx1 B R1 hI.rep k1 j1 hgd (by omega) (by omega) ⟨ok,ob,oc,oe,od⟩ ho (fun h3=>by by_cases he:oe=R1.S.st.epoch+1;exact he;exact absurd ⟨h3,he⟩ hbad) A1 od.length cc (Rd.of_own hdat) hA1
      have HI:=KB hI
      clear hbad hI
      simp only at hD
      go_wp2_with (first
       | (go_at_call 235
          refine hD.mono ?_
          clear hD
          rintro e w2 ⟨rfl,Fs2,S2,hs2,hdo,hk2,hg2⟩
          obtain ⟨hgd2,hst2⟩:=hdo.good ho hgd (by omega) (by omega)
          obtain ⟨hmo,hvi,_⟩:=JAf R1.S.st ⟨ok,ob,oc,oe,od⟩
          have hr2:=hRep.setSt hs2 hk2 hg2 (by rw [hst2,hmo];exact hRep.mode) (by rw [hst2,hvi])
          have hw2:=hw1.keep hk2 hRep.ap.symm
          have hPp:=ZBD w2 base x L1 Fx1 R1.next R1.sl hw2 hq (by omega)
          have hb2:=hblk.keep hk2 hbo1
          obtain ⟨d0,d1⟩:=hr2.cells)
       | (go_at_call 237
          refine hPp.mono ?_
          clear hPp
          rintro e w3 ⟨_,_,rfl,F3,h3,hk3,hF3⟩
          have hr3:=hr2.setWin ⟨L1,h3⟩ hk3 (fun y hy => .inl (hF3 y hy))
          have hb3:=hb2.keep hk3 hbo2
          have hlt3:=hb3.lt
          obtain ⟨o0,o1,o2,o3,o4⟩:=QK hb3
          obtain ⟨d0,d1⟩:=hr3.cells
          have hrl:=hr3.blk.lt
          have hkB:Keep [] w3 (w3.alloc (.cells #[.int .i64 ok,.int .i64 ob,.int .i64 oc,.int .i64 oe,.slice A1 od.length cc] 137)):=(Keep.refl _ _).alloc _
          have hPk:=PeekW_is _ base x L1 F3 (R1.next+1) (R1.sl.set (R1.next % R1.sl.length) PSlot.none_) (h3.keep0 hkB)
          have hbn:=Blk.new w3 137 #[.int .i64 ok,.int .i64 ob,.int .i64 oc,.int .i64 oe,.slice A1 od.length cc])
       | (go_at_call 234
          refine hPk.mono ?_
          clear hPk
          rintro e w4 ⟨q,hq4,rfl,⟨A4,c4,hqv4⟩,hk4⟩
          rw [hqv4]
          replace hbn:=hbn.keep0 hk4
          obtain ⟨z0,z1,z2,z3,z4⟩:=QK hbn
          have f0:=hbn.frozen 0
          have f1:=hbn.frozen 1
          have f2:=hbn.frozen 2
          have f3:=hbn.frozen 3
          have f4:=hbn.frozen 4))
      have h5:=hbn.put5 (.int .i64 q.o.k) (.int .i64 q.o.b) (.int .i64 q.o.c) (.int .i64 q.o.e) (.slice A4 q.o.d.length c4)
      have hk5:=Keep.put5 w4 w3.heap.size (.int .i64 q.o.k) (.int .i64 q.o.b) (.int .i64 q.o.c) (.int .i64 q.o.e) (.slice A4 q.o.d.length c4)
      unfold put5 at h5 hk5
      have hcu:(⟨S2,R1.next+1,R1.cut⟩:RS).cur=q:=hq4
      have hap5:Apart (YP r Fs2 F3) [w3.heap.size]:=fun y hy hm=>by
       simp at hm
       have:=hr3.lt y hy
       omega
      have hr5:=(hr3.keep0 (hkB.trans0 hk4)).keep hk5 hap5
      have hI:=XA HI
      have hcq:=XA HQ
      have hsz2:=hk2.size
      have hsz3:=hk3.size
      have hszI:=hI.keep.size
      have hx0:=Ju hw1
      go_roundw
      case rel=>
       refine ⟨Fs2,F3,⟨S2,R1.next+1,R1.cut⟩,k1+1,j1+2,w3.heap.size,A4,c4,rfl,by rw [hcu],⟨hr5,fun R' e h=>hI.ran R' e (Ran.step (by rw [hcq]) (by rw [hcq];exact hdo) h),hgd2,?_,?_,?_,?_,?_,?_,?_,?_,?_,?_⟩⟩
       · show k1+1+KE R1.cut≤_
         have:KE R1.cut+1=KE R1.sl:=hpc
         omega
       · show j1+2+2*KE R1.cut≤_
         have:KE R1.cut+1=KE R1.sl:=hpc
         omega
       · show R1.next+1+KE R1.cut=_
         have:KE R1.cut+1=KE R1.sl:=hpc
         omega
       · intro q' hq' hqi
         rcases List.mem_or_eq_of_mem_set hq' with hq' | rfl
         · exact hI.ops q' hq' hqi
         · cases hqi
       · refine (((hI.keep.trans hk2 (fun y hy=>hI.grow y (by simp [YP,hy]))).trans hk3 (fun y hy=>hI.grow y (by simp [YP,hy]))).trans0 (hkB.trans0 hk4)).trans hk5 (fun y hy => .inr ?_)
         simp at hy
         omega
       · intro y hy
         simp only [YP,List.mem_cons,List.mem_append] at hy
         rcases hy with hy | hy | hy
         · exact hI.grow y (by simp [YP,hy])
         · rcases hg2 y hy with hy | hy
           · exact hI.grow y (by simp [YP,hy])
           · exact .inr (by omega)
         · exact hI.grow y (by simp [YP,hF3 y hy])
       · rw [hcu];exact h5
       · rw [hcu];exact hqv4
       · exact fun hm=>by have:=hr3.lt _ hm;omega
       · omega
      case measure=>
       obtain ⟨L5,hw5⟩:=hr5.win
       have hx5:=Ju hw5
       have:KE R1.cut+1=KE R1.sl:=hpc
       simp only [hx0]
       refine Nat.lt_of_le_of_lt (Nat.le_of_eq (congrArg (fun z=>R.next+KE R.sl-z) hx5)) ?_
       show R.next+KE R.sl-(R1.next+1)<R.next+KE R.sl-R1.next
       omega
  · have hcf:q.is=false:=by simpa using hcur
    rw [hcf]
    have hAn:=QAV wr base r s d x Fs1 Fx1 B R1 hI.rep (by omega) (by omega) hdon
    go_wp2_with (refine hAn.mono ?_;clear hAn;rintro e w2 ⟨u,rfl,hu,hk2⟩)
    go_ret2
    exact ⟨Fs1,Fx1,R1,0,hI.rep.keep0 hk2,hI.ran _ _ (Ran.stop (by rw [XA HQ];exact hcf)),hgd.mono (by omega) (by omega),hI.ops,hI.keep.trans0 hk2,hI.grow,.inl ⟨rfl,u,rfl,YC hu hI.keep.size⟩⟩
end
section
open Go.RowKit Go.Shelf
theorem YAC (k v s b c e d:Nat) (data:List UInt8) (hm:FrMay k v s b c e d data) (A:Option Addr) (n cp:Nat) (w:World) (ha:Rd w A n (bys (VH k v s b c e d data))) :
 Calls Tryz.prog 140 #[.slice A n cp] w fun r w'=>∃ UA uc,r = .returned (.tuple #[.agg #[.int .i64 k,.int .i64 v,.int .i64 s,.int .i64 b,.int .i64 c,.int .i64 e,.int .i64 d,.slice UA data.length uc],.int .i64 0])∧w'.ownsRow w.heap.size 5 1 (.slice UA data.length uc) data.length (bys data)∧Keep [] w w':=by
 have hb:=hm.bounds
 have hl:n=25+data.length:=by have:=ha.1;simpa using this.symm
 refine (JAU A n cp _ w ha (by omega) (by omega)).mono ?_
 rintro r w' ⟨hk,hP⟩
 have hp:ZQ (VH k v s b c e d data)=⟨k,v,s,b,c,e,d,data⟩:=Qy k v s b c e d data (by omega) (by omega) (by omega) (by omega) (by omega) (by omega) (by omega)
 rw [hp] at hP
 rcases hP with ⟨_,_,u,rfl,hu⟩ | ⟨hno,_⟩
 · have hlen:(VH k v s b c e d data).length-25=data.length:=by simp
   rw [hlen] at hu
   obtain ⟨UA,uc,rfl,_⟩:=YB hu
   exact ⟨UA,uc,rfl,hu,hk⟩
 · exact absurd ⟨hm,rfl⟩ hno
theorem YBM (w:World) (base r s d x:Nat) (Fs Fx:List Nat) (B:Nat) (R:RS) (h:ReplicaIs w base r s d x Fs Fx B R) (hbase:base≤w.heap.size) (k b c e m fs:Nat) (xs:List UInt8) (A:Option Addr) (cp:Nat)
 (ha:Rd w A (25+m) (bys (VH k R.S.st.view fs b c e 0 xs))) (ho:OpMay k b c e m) (hlen:xs.length=m) (hfor:b+max c 1≤B∨k=3) (hfs:1≤fs∧fs≤2147483647) (Post:Ending→World→Prop)
 (hcont:∀ w5 UA uc,Keep [] w w5→w5.ownsRow w.heap.size 5 1 (.slice UA m uc) m (bys xs)→Calls Tryz.prog 145 #[.pointer (some ⟨x,0,none⟩),.int .i64 (fs:Nat),.agg #[.int .i64 k,.int .i64 b,.int .i64 c,.int .i64 e,.slice UA m uc]] w5 fun e5 w6=>
   (e5 = .returned (.int .i64 0)∧Calls Tryz.prog 146 #[.pointer (some ⟨r,0,none⟩)] w6 (fun e w'=>∃ A n c z,e = .returned (.tuple #[.slice A n c,.int .i64 z])∧Post e w')) ∨
   (e5 = .returned (.int .i64 9)∧Calls Tryz.prog 147 #[.pointer (some ⟨r,0,none⟩)] w6 (fun e w'=>∃ A n c,e = .returned (.tuple #[.slice A n c,.int .i64 0])∧Post (.returned (.tuple #[.slice A n c,.int .i64 9])) w')) ∨
   (e5 = .returned (.int .i64 10)∧Post (.returned (.tuple #[.slice none 0 0,.int .i64 10])) w6)) :
 Calls Tryz.prog 83 #[.pointer (some ⟨r,0,none⟩),.slice A (25+m) cp] w Post:=by
 have hv:=h.view
 have hfr:FrMay k R.S.st.view fs b c e 0 xs:=ho.fr hv hfs hlen
 have hD:=YAC k R.S.st.view fs b c e 0 xs hfr A (25+m) cp w ha
 have hOp:=fun UA uc W (hr:Rd W UA m (bys xs))=>YBK k R.S.st.view fs b c e 0 UA m uc xs W hr (by have:=hfr.bounds;omega) (by rcases ho with ⟨h,_⟩ | ⟨h,_⟩ | ⟨h,_⟩ <;> omega) (by rcases ho with ⟨h,_⟩ | ⟨h,_⟩ | ⟨h,_⟩ <;> omega) hfr
 have hR:=fun W (hk:Keep [] w W)=>readyR_ok W base r s d x Fs Fx B R (h.keep0 hk)
 have hSt:∀ UA uc W,Keep [] w W→Calls Tryz.prog 142 #[.pointer (some ⟨r,0,none⟩),.agg #[.int .i64 k,.int .i64 R.S.st.view,.int .i64 fs,.int .i64 b,.int .i64 c,.int .i64 e,.int .i64 (0:Nat),.slice UA m uc]] W fun e w'=>e = .returned (.bool false)∧Keep [] W w':=fun UA uc W hk=>by
  rcases hfor with hb | rfl
  · rcases ho with ⟨h1,_⟩ | ⟨h1,_⟩ | ⟨h1,h2,h3,h4⟩
    · exact Yl W base r s d x Fs Fx B R (h.keep0 hk) k R.S.st.view fs b c e 0 _ (by omega) hb UA m uc rfl
    · exact Yl W base r s d x Fs Fx B R (h.keep0 hk) k R.S.st.view fs b c e 0 _ (by omega) hb UA m uc rfl
    · subst h1
      exact Ks W r R.S.st.view fs b c e 0 UA m uc
  · exact Ks W r R.S.st.view fs b c e 0 UA m uc
 have hSa:=fun W (hk:Keep [] w W)=>XL W base s d Fs B R.S (h.keep0 hk).st
 have hcl:=fun W (hk:Keep [] w W)=>(h.keep0 hk).cells
 rw [hlen] at hD
 unfold frv at hOp
 have hk9:¬ ((k:Nat):Int)=9:=by have:=ho;rcases this with ⟨h,_⟩ | ⟨h,_⟩ | ⟨h,_⟩ <;> omega
 have hk9b:(((k:Nat):Int) == 9)=false:=by simpa using hk9
 clear h ha hfr hv hfor
 have HO:=KB ho
 clear ho
 generalize R.S.st=st at *
 obtain ⟨mode,view,epoch,seq,done,mount,gen⟩:=st
 simp only at hD hOp hSt hSa
 have hfd:=fun (a0 a1 a2 a3 a4 a5 a6 a7 a8 a9:Value) W=>JE (P:=Tryz.prog) Tryz.underlying72 1 rfl Tryz.isAgg3 #[a0,a1,a2,a3,a4,a5,a6,a7,a8,a9] rfl W
 go_enter Tryz.func83,Tryz.ntmps83
 go_wp2_with (first
  | (go_at_call 140
     refine hD.mono ?_
     clear hD
     rintro e1 w1 ⟨UA,uc,rfl,hu,hk1⟩
     have hbF:=Blk.new w1 152 #[.int .i64 k,.int .i64 view,.int .i64 fs,.int .i64 b,.int .i64 c,.int .i64 e,.int .i64 (0:Nat),.slice UA m uc]
     have hkA:Keep [] w (w1.alloc (.cells #[.int .i64 k,.int .i64 view,.int .i64 fs,.int .i64 b,.int .i64 c,.int .i64 e,.int .i64 (0:Nat),.slice UA m uc] 152)):=hk1.alloc _
     have huA:=JD hu (.cells #[.int .i64 k,.int .i64 view,.int .i64 fs,.int .i64 b,.int .i64 c,.int .i64 e,.int .i64 (0:Nat),.slice UA m uc] 152))
  | (go_at_call 141
     refine (hR _ hkA).mono ?_
     clear hR
     rintro e2 w2 ⟨rfl,hk2⟩
     replace hbF:=hbF.keep0 hk2
     replace hkA:=hkA.trans0 hk2
     replace huA:=QB huA hk2
     obtain ⟨f0,f1,f2,f3,f4,f5,f6,f7⟩:=ZC hbF)
  | (go_at_call 142
     refine (hSt _ _ _ hkA).mono ?_
     clear hSt
     rintro e3 w3 ⟨rfl,hk3⟩
     replace hbF:=hbF.keep0 hk3
     replace hkA:=hkA.trans0 hk3
     replace huA:=QB huA hk3
     obtain ⟨f0,f1,f2,f3,f4,f5,f6,f7⟩:=ZC hbF))
 have r0:=(hcl _ hkA).1
 refine KA (fun w'=>w'.cell? ⟨w1.heap.size,1,none⟩=some (.int .i64 (view:Nat))∧w'.cell? ⟨r,0,none⟩=some (.pointer (some ⟨s,0,none⟩))) 8 [(0,false),(1,false),(2,false),(3,false),(4,false),(5,false),(6,true),(7,false)]
  (by kernel_rfl) (by kernel_rfl) (fun _ _ d _ _ h=>by cases d <;> exact h) ⟨f1,r0⟩ ?_
 simp only [PI]
 iterate 6 (refine XB ?_ (by rfl) ?_ ?_;rotate_left;(focus (rintro W ⟨hW0,hW1⟩;go_simp;try with_reducible rfl));simp only [Act.put,PU])
 refine JB (by rfl) (fun K hK=>?_)
 go_wp2_with (
  refine (hSa _ hkA.drew).mono ?_
  clear hSa
  rintro e4 w4 ⟨rfl,hk4⟩
  have hkB:=hkA.drew.trans0 hk4
  have hbB:=hbF.drew.keep0 hk4
  have huB:=QB huA ((Keep.refl _ _).drew.trans0 hk4))
 refine hK _ _ (⟨(ZC hbB).2.1,(hcl _ hkB).1⟩) ?_
 clear hK K
 try simp only [Act.put,PU]
 iterate 1 (refine XB ?_ (by rfl) ?_ ?_;rotate_left;(focus (rintro W ⟨hW0,hW1⟩;go_simp;try with_reducible rfl));simp only [Act.put,PU])
 refine JC ?_
 obtain ⟨g0,g1,g2,g3,g4,g5,g6,g7⟩:=ZC hbB
 have hOp1:=hOp UA uc w4 (Rd.of_own huB)
 go_wp2_with (go_at_call 144
              refine hOp1.mono ?_
              clear hOp1
              rintro e5 w5 ⟨ua,rfl,hua,hk5⟩
              obtain ⟨A5,c5,rfl,hc5,_⟩:=YB hua)
 have hkC:=(hkB.trans0 hk5).alloc (.cells #[.int .i64 k,.int .i64 b,.int .i64 c,.int .i64 e,.slice A5 m c5] 137)
 have hbC:=(hbB.keep0 hk5).keep0 ((Keep.refl _ _).alloc (.cells #[.int .i64 k,.int .i64 b,.int .i64 c,.int .i64 e,.slice A5 m c5] 137))
 have hbO:=Blk.new w5 137 #[.int .i64 k,.int .i64 b,.int .i64 c,.int .i64 e,.slice A5 m c5]
 obtain ⟨o0,o1,o2,o3,o4⟩:=QK hbO
 have r1:=(hcl _ hkC).2
 have s2:=(ZC hbC).2.2.1
 have hcn:=hcont _ A5 c5 hkC.drew (QB (YC hua hkB.size) (((Keep.refl _ _).alloc (.cells #[.int .i64 k,.int .i64 b,.int .i64 c,.int .i64 e,.slice A5 m c5] 137)).drew))
 clear hcont g0 g1 g2 g3 g4 g5 g6 g7 f0 f1 f2 f3 f4 f5 f6 f7
 refine KA (fun w'=>w'.cell? ⟨r,1,none⟩=some (.pointer (some ⟨x,0,none⟩))∧w'.cell? ⟨w1.heap.size,2,none⟩=some (.int .i64 (fs:Nat))∧w'.cell? ⟨w5.heap.size,0,none⟩=some (.int .i64 k)∧w'.cell? ⟨w5.heap.size,1,none⟩=some (.int .i64 b)∧w'.cell? ⟨w5.heap.size,2,none⟩=some (.int .i64 c)∧w'.cell? ⟨w5.heap.size,3,none⟩=some (.int .i64 e)∧w'.cell? ⟨w5.heap.size,4,none⟩=some (.slice A5 m c5)) 7 [(0,false),(1,false),(2,false),(3,false),(4,false),(5,false),(6,false)]
  (by kernel_rfl) (by kernel_rfl) (fun _ _ d _ _ h=>by cases d <;> exact h) ⟨r1,s2,o0,o1,o2,o3,o4⟩ ?_
 simp only [PI]
 iterate 7 (refine XB ?_ (by rfl) ?_ ?_;rotate_left;(focus (rintro W ⟨hW0,hW1,hW2,hW3,hW4,hW5,hW6⟩;go_simp;try with_reducible rfl));simp only [Act.put,PU])
 refine JC ?_
 go_wp2_with (go_at_call 145
              refine hcn.mono ?_
              clear hcn
              rintro e6 w6 h6
              rcases h6 with ⟨rfl,h6⟩ | ⟨rfl,h6⟩ | ⟨rfl,h6⟩)
 · go_wp2_with (refine h6.mono ?_
                clear h6
                rintro e7 w7 ⟨A7,n7,c7,z7,rfl,h7⟩)
   exact h7
 · go_wp2_with (refine h6.mono ?_
                clear h6
                rintro e7 w7 ⟨A7,n7,c7,rfl,h7⟩)
   exact h7
 · go_wp2
   exact h6
end
end Go.Proofs.YtkonbpfbjiepfaaGreat
