/-
  A part of the proof: lemmas, and contracts of functions; their conditions stand in them.
-/
import Derived.Test.YtmoagodllhdemaaGreatE35
import Derived.Test.YtmoagodllhdemaaGreatE30
import Derived.Test.YtmoagodllhdemaaGreatE24
import Derived.Test.YtmoagodllhdemaaGreatE11
import Derived.Test.YtmoagodllhdemaaGreatE34
import Derived.Test.YtmoagodllhdemaaGreatE08
import Derived.Test.YtmoagodllhdemaaGreatE13
import Derived.Test.YtmoagodllhdemaaGreatE10
import Derived.Test.YtmoagodllhdemaaGreatE21
namespace Go.Proofs.YtmoagodllhdemaaGreat
set_option linter.unusedSimpArgs false
set_option linter.unusedVariables false
set_option maxHeartbeats 4000000
set_option maxRecDepth 100000
section
open Go.RowKit Go.Shelf
attribute [local go_sem] Oper.semAt_some
def KAi (S:PS):Nat:=(ZO S.I.bl S.I.ol S.I.bl.length).length
def YAx (S:PS):List Value:=[.int .i64 S.st.mode,.int .i64 S.st.view,.int .i64 S.st.epoch,.int .i64 S.st.seq,.int .i64 S.st.done,.int .i64 S.st.mount,.int .i64 S.st.gen,.int .i64 (QE S.us:Nat),.int .i64 (KAi S:Nat),.int .i64 (YI S.I.ol:Nat)]
theorem Xp (bl ol:List Int) (k:Nat):(ZO bl ol k).length≤2*k:=by
 induction k with
 | zero=>simp [ZO]
 | succ k ih=>
   rw [ZO,List.length_append,List.length_append]
   split <;> split <;> simp <;> omega
theorem ZY {w:World} {g:Nat} {t:TypeId} {x0 x1 x2 x3 x4 x5 x6 x7 x8 x9:Value} (h:Blk w g t #[x0,x1,x2,x3,x4,x5,x6,x7,x8,x9]) :
 w.cell? ⟨g,0,none⟩=some x0∧w.cell? ⟨g,1,none⟩=some x1∧w.cell? ⟨g,2,none⟩=some x2∧w.cell? ⟨g,3,none⟩=some x3∧w.cell? ⟨g,4,none⟩=some x4∧w.cell? ⟨g,5,none⟩=some x5∧w.cell? ⟨g,6,none⟩=some x6∧w.cell? ⟨g,7,none⟩=some x7∧w.cell? ⟨g,8,none⟩=some x8∧w.cell? ⟨g,9,none⟩=some x9:=
 ⟨by simpa using h.cell 0,by simpa using h.cell 1,by simpa using h.cell 2,by simpa using h.cell 3,by simpa using h.cell 4,by simpa using h.cell 5,by simpa using h.cell 6,by simpa using h.cell 7,by simpa using h.cell 8,by simpa using h.cell 9⟩
def wrN (n:Nat):Int:=IntKind.i64.wrap (n:Nat)
theorem KAZ (n:Nat):IntKind.i64.wrap (wrN n+1)=wrN (n+1):=by
 unfold wrN
 simp only [IntKind.wrap_i64]
 omega
theorem ZAP (n:Nat) (h:n≤1000000):wrN n=(n:Nat):=by
 unfold wrN
 rw [IntKind.wrap_i64]
 omega
structure KSta (w:World) (cs:Array Value) (pre:List PRnd) (W:World):Prop where
 cnt:Blk W (w.heap.size+1) 51 (cs.setIfInBounds 8 (.int .i64 (wrN pre.length)))
 res:Blk W w.heap.size 51 #[.int .i64 0,.int .i64 0,.int .i64 0,.int .i64 0,.int .i64 0,.int .i64 0,.int .i64 0,.int .i64 0,.int .i64 0,.int .i64 0]
 keep:Keep [] w W
theorem KSta.kept {w A B:World} {cs:Array Value} {pre:List PRnd} (h:KSta w cs pre A) (hk:Keep [] A B):KSta w cs pre B:=⟨h.cnt.keep0 hk,h.res.keep0 hk,h.keep.trans0 hk⟩
theorem KSta.turned {w W:World} {cs:Array Value} {k:Nat} {pre:List PRnd} {o o':Obj} (h:KSta w cs pre W) (hl:w.heap.size≤k) (hg:W.heap[k]? = some o) (ho:o.isCells=false):KSta w cs pre (W.putObj k o'):=
 ⟨QM o' h.cnt hg ho,QM o' h.res hg ho,h.keep.putObj hl o'⟩
theorem YAJ (w:World) (base s d g t p m:Nat) (Ft Fm:List Nat) (L0 L1:Value) (S:PS) (hblk:Blk w s 119 #[.pointer (some ⟨d,0,none⟩),.pointer (some ⟨g,0,none⟩),.pointer (some ⟨t,0,none⟩),.pointer (some ⟨m,0,none⟩),.pointer (some ⟨p,0,none⟩),
 .int .i64 S.st.mode,.int .i64 S.st.view,.int .i64 S.st.epoch,.int .i64 S.st.seq,.int .i64 S.st.done,.int .i64 S.st.mount,.int .i64 S.st.gen,.int .i64 0,.int .i64 0,.int .i64 0,.int .i64 S.slot,L0,L1])
 (htab:TableAt w base t g Ft S.us S.lv) (hI:ImageAt w base m Fm S.I) :
 Calls Tryz.prog 17 #[.pointer (some ⟨s,0,none⟩)] w fun e w'=>e = .returned (.agg (YAx S).toArray)∧Keep [] w w':=by
 have hFr:=fun W (hk:Keep [] w W)=>VAD W base t g Ft S.us S.lv (htab.keep0 hk)
 have hPe:=fun W (hk:Keep [] w W)=>ZAH W base m Fm S.I (hI.keep0 hk)
 unfold YAx
 generalize hfc:QE S.us=fc at *
 generalize hpc:YI S.I.ol=pc at *
 obtain ⟨D,us,lv,W,I,⟨mode,view,epoch,seq,done,mount,gen⟩,slot,lie0,lie1⟩:=S
 simp only at *
 refine (callsIn_wide (n:=3)).1 ?_
 refine callsIn_of_wp_marks Tryz.func17 rfl trivial ?_ rfl
 simp only [Tryz.ntmps17,List.size_toArray,List.length_cons,List.length_nil,Nat.reduceAdd,Nat.reduceSub,Array.replicate_succ,Array.replicate_zero,List.push_toArray,List.append_toArray,List.nil_append,List.cons_append]
 obtain ⟨w2,hw2⟩:∃ w2,w2=(w.alloc (.cells #[.int .i64 0,.int .i64 0,.int .i64 0,.int .i64 0,.int .i64 0,.int .i64 0,.int .i64 0,.int .i64 0,.int .i64 0,.int .i64 0] 51)).alloc (.cells #[.int .i64 mode,.int .i64 view,.int .i64 epoch,.int .i64 seq,.int .i64 done,.int .i64 mount,.int .i64 gen,.int .i64 0,.int .i64 0,.int .i64 0] 51):=⟨_,rfl⟩
 have k2:Keep [] w w2:=by rw [hw2];exact ((Keep.refl _ _).alloc _).alloc _
 have s2:w2.heap.size=w.heap.size+2:=by rw [hw2];simp
 have b2:Blk w2 w.heap.size 51 #[.int .i64 0,.int .i64 0,.int .i64 0,.int .i64 0,.int .i64 0,.int .i64 0,.int .i64 0,.int .i64 0,.int .i64 0,.int .i64 0]:=by rw [hw2];exact (Blk.new w _ _).keep0 ((Keep.refl _ _).alloc _)
 have b3:Blk w2 (w.heap.size+1) 51 #[.int .i64 mode,.int .i64 view,.int .i64 epoch,.int .i64 seq,.int .i64 done,.int .i64 mount,.int .i64 gen,.int .i64 0,.int .i64 0,.int .i64 0]:=by
  rw [hw2]
  have:=Blk.new (w.alloc (.cells #[.int .i64 0,.int .i64 0,.int .i64 0,.int .i64 0,.int .i64 0,.int .i64 0,.int .i64 0,.int .i64 0,.int .i64 0,.int .i64 0] 51)) 51 #[.int .i64 mode,.int .i64 view,.int .i64 epoch,.int .i64 seq,.int .i64 done,.int .i64 mount,.int .i64 gen,.int .i64 0,.int .i64 0,.int .i64 0]
  rw [show ∀ o,(w.alloc o).heap.size=w.heap.size+1 from fun o=>by simp] at this
  exact this
 obtain ⟨c0,c1,c2,c3,c4,c5,c6,c7,c8,c9,c10,c11,c12,c13,c14,c15,c16,c17⟩:=YE hblk
 have hslt:=hblk.lt
 gi_wp2
 rw [← hw2]
 clear hw2
 have hFr1:=hFr w2.drew k2.drew
 obtain ⟨f7,f9⟩:(∀ W,Keep [] w2 W→W.frozen? ⟨w.heap.size+1,7,none⟩=false)∧(∀ W,Keep [] w2 W→W.frozen? ⟨w.heap.size+1,9,none⟩=false):=⟨fun W hk=>(b3.keep0 hk).frozen 7,fun W hk=>(b3.keep0 hk).frozen 9⟩
 refine KQ (wpIn_wide.2 ?_)
 refine KA (fun w'=>w'.cell? ⟨s,2,none⟩=some (.pointer (some ⟨t,0,none⟩))∧w'.cell? ⟨s,3,none⟩=some (.pointer (some ⟨m,0,none⟩))) 11 [(0,false),(1,false),(2,false),(3,false),(5,false),(6,false),(7,false),(8,false),(4,true),(10,false),(9,true)]
  (by kernel_rfl) (by kernel_rfl) (fun _ _ d _ _ h=>by cases d <;> exact h) ⟨(YE (hblk.keep0 k2.drew)).2.2.1,(YE (hblk.keep0 k2.drew)).2.2.2.1⟩ ?_
 simp only [PI]
 iterate 8 (refine ZB ?_ (by rfl) ?_ ?_;rotate_left;(focus (rintro W ⟨hW0,hW1⟩;go_simp;try with_reducible rfl));simp only [Act.put,PU])
 refine KB (by rfl) (fun K hK=>?_)
 go_wp2_with (refine hFr1.mono ?_;clear hFr1;rintro e w3 ⟨rfl,hk3⟩)
 have k3:Keep [] w2 w3:=(Keep.refl _ _).drew.trans0 hk3
 have hPe1:=hPe w3 (k2.trans0 k3)
 refine hK _ _ (⟨(YE (hblk.keep0 (k2.trans0 k3))).2.2.1,(YE (hblk.keep0 (k2.trans0 k3))).2.2.2.1⟩) ?_
 clear hK K
 try simp only [Act.put,PU]
 iterate 1 (refine ZB ?_ (by rfl) ?_ ?_;rotate_left;(focus (rintro W ⟨hW0,hW1⟩;go_simp;try with_reducible rfl));simp only [Act.put,PU])
 refine KB (by rfl) (fun K hK=>?_)
 go_wp2_with (refine hPe1.mono ?_;clear hPe1;rintro e w4 ⟨rfl,hk4⟩)
 have k4:Keep [] w2 w4:=k3.trans0 hk4
 refine hK _ _ (⟨(YE (hblk.keep0 (k2.trans0 k4))).2.2.1,(YE (hblk.keep0 (k2.trans0 k4))).2.2.2.1⟩) ?_
 clear hK K
 try simp only [Act.put,PU]
 refine ZC ?_
 have q7:=f7 w4 k4
 have q9:=f9 w4 k4
 obtain ⟨y0,y1,y2,y3,y4,y5,y6,y7,y8,y9⟩:=ZY (b3.keep0 k4)
 go_wp2_with fail
 have hkz:Keep [w.heap.size+1] w4 ((w4.setCell ⟨w.heap.size+1,7,none⟩ (.int .i64 (fc:Nat))).setCell ⟨w.heap.size+1,9,none⟩ (.int .i64 (pc:Nat))):=((Keep.refl _ _).setCell (.inl (by simp)) _).setCell (.inl (by simp)) _
 have b5:=((b3.keep0 k4).set 7 (.int .i64 (fc:Nat))).set 9 (.int .i64 (pc:Nat))
 have b5r:=(b2.keep0 k4).keep hkz (by simp)
 have k5:=(k2.trans0 k4).trans hkz (fun x hx => .inr (by simp at hx;omega))
 generalize (w4.setCell ⟨w.heap.size+1,7,none⟩ (.int .i64 (fc:Nat))).setCell ⟨w.heap.size+1,9,none⟩ (.int .i64 (pc:Nat))=w5 at *
 simp at b5
 have s5:w.heap.size+2≤w5.heap.size:=by have:=b5.lt;omega
 clear q7 q9 y0 y1 y2 y3 y4 y5 y6 y7 y8 y9 k4 hk4 k3 hk3 b3 b2 f7 f9 k2 s2 c0 c1 c2 c3 c4 c5 c6 c7 c8 c9 c10 c11 c12 c13 c14 c15 c16 c17 hFr hPe hkz hfc hpc
 have c3:=(YE (hblk.keep0 k5)).2.2.2.1
 gi_wp2_with (first
  | (refine ⟨trivial,?_⟩;refine (KAn _ _ _ rfl).mono ?_;rintro e w' ⟨rfl,rfl⟩))
 obtain ⟨w6,hw6⟩:∃ w6,w6=w5.alloc (.cells #[.pointer (some ⟨m,0,none⟩)] 99):=⟨_,rfl⟩
 rw [← hw6]
 have k6:Keep [] w5 w6:=by rw [hw6];exact (Keep.refl _ _).alloc _
 have s6:w6.heap.size=w5.heap.size+1:=by rw [hw6];simp
 have bm:Boxed w6 w5.heap.size 99 (.pointer (some ⟨m,0,none⟩)):=by rw [hw6];exact Boxed.new w5 _ _
 have hlt:=hI.lt
 have hseq:=QAX 2 w5.heap.size base m [w.heap.size+1] Fm I w6 (hI.keep0 (k5.trans0 k6)) bm (fun g hg hm=>by have:=hlt g hg;simp at hm;omega) (by simp;omega) (fun g hg=>by simp at hg;omega)
 have h0:KSta w #[.int .i64 mode,.int .i64 view,.int .i64 epoch,.int .i64 seq,.int .i64 done,.int .i64 mount,.int .i64 gen,.int .i64 (fc:Nat),.int .i64 0,.int .i64 (pc:Nat)] [] w6:=⟨b5.keep0 k6,b5r.keep0 k6,k5.trans0 k6⟩
 refine Xy (n:=3) (gf:=138) (lb:=#[.pointer (some ⟨w5.heap.size,0,none⟩)]) rfl (enters_of Tryz.func138 (by kernel_rfl) rfl)
  hseq
  (fun A B C h k=>h.trans k)
  (fun W o o' hg' ho=>KeepR.putObj (by omega) hg' ho)
  (fun _=>rfl) (KSta w #[.int .i64 mode,.int .i64 view,.int .i64 epoch,.int .i64 seq,.int .i64 done,.int .i64 mount,.int .i64 gen,.int .i64 (fc:Nat),.int .i64 0,.int .i64 (pc:Nat)]) (fun s A B h hk=>h.kept hk) (fun s W l o o' h hl hg' ho=>h.turned (by omega) hg' ho)
  (fun pre x W l o o' h hl hg' ho=>trivial) h0
  (fun y=>{ tmps:=#[.pointer (some ⟨s,0,none⟩),undef,.pointer (some ⟨w.heap.size,0,none⟩),.pointer (some ⟨w.heap.size+1,0,none⟩),.pointer (some ⟨s,0,none⟩),.bool false,undef,.pointer (some ⟨s,0,none⟩),.pointer (some ⟨s,0,none⟩),.pointer (some ⟨s,5,none⟩),.agg #[.int .i64 mode,.int .i64 view,.int .i64 epoch,.int .i64 seq,.int .i64 done,.int .i64 mount,.int .i64 gen,.int .i64 0,.int .i64 0,.int .i64 0],.pointer (some ⟨s,0,none⟩),.pointer (some ⟨s,0,none⟩),.pointer (some ⟨s,2,none⟩),.pointer (some ⟨t,0,none⟩),.int .i64 (fc:Nat),.pointer (some ⟨s,0,none⟩),.pointer (some ⟨s,0,none⟩),.pointer (some ⟨s,3,none⟩),.pointer (some ⟨m,0,none⟩),.int .i64 (pc:Nat),.pointer (some ⟨w.heap.size+1,7,none⟩),.pointer (some ⟨w.heap.size+1,9,none⟩),.pointer (some ⟨s,0,none⟩),.pointer (some ⟨s,0,none⟩),.pointer (some ⟨s,3,none⟩),.pointer (some ⟨m,0,none⟩),.func (.func 138) #[] #[.pointer (some ⟨w5.heap.size,0,none⟩)],.int .i64 (y.1:Nat),.int .i64 y.2,undef,undef,undef,undef,undef],defers:=[] }) ?assign ?body ?done
 case assign=>
  rintro l ⟨k,z⟩ W K hK
  dsimp only [XR] at hK ⊢
  gi_wp2
  simpa using hK
 case body=>
  rintro l pre ⟨k,z⟩ W hI' -
  dsimp only
  obtain ⟨q,hq⟩:∃ q,q=wrN pre.length:=⟨_,rfl⟩
  have hw:=KAZ pre.length
  obtain ⟨r,hr⟩:∃ r,r=wrN (pre.length+1):=⟨_,rfl⟩
  rw [← hq,← hr] at hw
  have hbx:=hI'.cnt
  rw [← hq] at hbx
  have hc8:W.cell? ⟨w.heap.size+1,8,none⟩=some (.int .i64 q):=by simpa using hbx.cell 8
  have hf8:=hbx.frozen 8
  have hltB:=hbx.lt
  have HI:=JC hI'
  have HR:=JC hr
  clear h0 bm k6 hseq hI' hq hr hw6
  gi_wp2
  have hI':=JA HI
  have hk3:Keep [w.heap.size+1] W (W.setCell ⟨w.heap.size+1,8,none⟩ (.int .i64 r)):=(Keep.refl _ _).setCell (p:=⟨w.heap.size+1,8,none⟩) (.inl (by simp)) _
  have hfc:KeepsFrom w6.heap.size W (W.setCell ⟨w.heap.size+1,8,none⟩ (.int .i64 r)):=hk3.fromCells (fun g hg o ho=>by
   rw [List.mem_singleton.1 hg] at ho
   rw [show W.heap[_]? = _ from hbx] at ho;cases ho;rfl) _
  have hfc2:KeepsFrom (w6.heap.size+2) W (W.setCell ⟨w.heap.size+1,8,none⟩ (.int .i64 r)):=hk3.fromCells (fun g hg o ho=>by
   rw [List.mem_singleton.1 hg] at ho
   rw [show W.heap[_]? = _ from hbx] at ho;cases ho;rfl) _
  refine ⟨hfc,⟨KeepC.ofKeep hk3 (fun x hx=>hx),hfc2⟩,⟨?_,hI'.res.keep hk3 (by simp),hI'.keep.trans hk3 (fun x hx => .inr (by simp at hx;omega))⟩⟩
  have:=hbx.set 8 (.int .i64 r)
  rw [List.length_append,List.length_singleton,← JA HR]
  simpa using this
 case done=>
  intro D' xs W hD' hS hI' hdef
  have hbx:=hI'.cnt
  rw [hS,ZAP _ (by have:=Xp I.bl I.ol I.bl.length;obtain ⟨p1,p2,F1,F2,hi⟩:=hI;obtain ⟨_,_,hb⟩:=hi.b;have:=hb.few;omega)] at hbx
  obtain ⟨q,hq⟩:∃ q,q=(ZO I.bl I.ol I.bl.length).length:=⟨_,rfl⟩
  rw [← hq] at hbx
  have HQ:=JC hq
  clear hq
  obtain ⟨y0,y1,y2,y3,y4,y5,y6,y7,y8,y9⟩:=ZY (by simpa using hbx)
  have hbr:=hI'.res
  obtain ⟨z0,z1,z2,z3,z4,z5,z6,z7,z8,z9⟩:=ZY hbr
  have q0:=hbr.frozen 0
  have q1:=hbr.frozen 1
  have q2:=hbr.frozen 2
  have q3:=hbr.frozen 3
  have q4:=hbr.frozen 4
  have q5:=hbr.frozen 5
  have q6:=hbr.frozen 6
  have q7:=hbr.frozen 7
  have q8:=hbr.frozen 8
  have q9:=hbr.frozen 9
  have HI:=JC hI'
  clear h0 bm k6 hseq hI' hw6
  gi_wp2
  have hI':=JA HI
  have hz:=((((((((((hbr.set 0 (.int .i64 mode)).set 1 (.int .i64 view)).set 2 (.int .i64 epoch)).set 3 (.int .i64 seq)).set 4 (.int .i64 done)).set 5 (.int .i64 mount)).set 6 (.int .i64 gen)).set 7 (.int .i64 (fc:Nat))).set 8 (.int .i64 (q:Nat))).set 9 (.int .i64 (pc:Nat)))
  have hKs:=(((((((((((Keep.refl [w.heap.size] W).setCell (p:=⟨w.heap.size,0,none⟩) (.inl (by simp)) (.int .i64 mode)).setCell (p:=⟨w.heap.size,1,none⟩) (.inl (by simp)) (.int .i64 view)).setCell (p:=⟨w.heap.size,2,none⟩) (.inl (by simp)) (.int .i64 epoch)).setCell (p:=⟨w.heap.size,3,none⟩) (.inl (by simp)) (.int .i64 seq)).setCell (p:=⟨w.heap.size,4,none⟩) (.inl (by simp)) (.int .i64 done)).setCell (p:=⟨w.heap.size,5,none⟩) (.inl (by simp)) (.int .i64 mount)).setCell (p:=⟨w.heap.size,6,none⟩) (.inl (by simp)) (.int .i64 gen)).setCell (p:=⟨w.heap.size,7,none⟩) (.inl (by simp)) (.int .i64 (fc:Nat))).setCell (p:=⟨w.heap.size,8,none⟩) (.inl (by simp)) (.int .i64 (q:Nat))).setCell (p:=⟨w.heap.size,9,none⟩) (.inl (by simp)) (.int .i64 (pc:Nat)))
  simp only [List.setIfInBounds_toArray,List.set_cons_zero,List.set_cons_succ] at hz
  have hdef2:((((((((((W.setCell ⟨w.heap.size,0,none⟩ (.int .i64 mode)).setCell ⟨w.heap.size,1,none⟩ (.int .i64 view)).setCell ⟨w.heap.size,2,none⟩ (.int .i64 epoch)).setCell ⟨w.heap.size,3,none⟩ (.int .i64 seq)).setCell ⟨w.heap.size,4,none⟩ (.int .i64 done)).setCell ⟨w.heap.size,5,none⟩ (.int .i64 mount)).setCell ⟨w.heap.size,6,none⟩ (.int .i64 gen)).setCell ⟨w.heap.size,7,none⟩ (.int .i64 (fc:Nat))).setCell ⟨w.heap.size,8,none⟩ (.int .i64 (q:Nat))).setCell ⟨w.heap.size,9,none⟩ (.int .i64 (pc:Nat))).heap[D']? = some (.deferred (some [])):=(hKs.block D' (Array.getElem?_eq_some_iff.1 hdef).1 (by simp;omega)).trans hdef
  have hzz:=QM (.deferred none) hz hdef2 rfl
  obtain ⟨e0,e1,e2,e3,e4,e5,e6,e7,e8,e9⟩:=ZY hzz
  have hkw:=(hI'.keep.trans hKs (fun x hx => .inr (by simp at hx;omega))).putObj (g:=D') (by omega) (.deferred none)
  refine ⟨by simp,.inl ⟨_,_,rfl,run_takeDeferred hdef2,?_⟩⟩
  refine ⟨.agg #[.int .i64 mode,.int .i64 view,.int .i64 epoch,.int .i64 seq,.int .i64 done,.int .i64 mount,.int .i64 gen,.int .i64 (fc:Nat),.int .i64 (q:Nat),.int .i64 (pc:Nat)],?_,by rw [JA HQ];rfl,hkw⟩
  simp [results,Tryz.results17,go_sem,e0,e1,e2,e3,e4,e5,e6,e7,e8,e9]
theorem QAF (w:World) (base s d g t p m:Nat) (Fd Ft Fw Fm:List Nat) (L0 L1:Value) (B:Nat) (S:PS) (h:StoreIs w base s d g t p m Fd Ft Fw Fm L0 L1 B S) :
 Calls Tryz.prog 17 #[.pointer (some ⟨s,0,none⟩)] w fun e w'=>e = .returned (.agg (YAx S).toArray)∧Keep [] w w':=
 YAJ w base s d g t p m Ft Fm L0 L1 S h.blk h.log.tab h.img
end
section
open Go.RowKit
section
variable (w:World) (base x:Nat) (L:Value) (F:List Nat) (next:Nat) (sl:List PSlot) (h:WinIs w base x L F next sl)
include h
theorem noneW_is:Calls Tryz.prog 116 #[.pointer (some ⟨x,0,none⟩)] w fun e w'=>e = .returned (.bool false)∧w=w':=by
 obtain ⟨g,c,rfl,hc⟩:=h.form
 obtain ⟨c0,c1⟩:=h.cells
 have hp:=h.pos
 have hn:((sl.length:Nat):Int)≠0:=by omega
 have hnb:(((sl.length:Nat):Int) == 0)=false:=by simpa using hn
 generalize sl.length=m at *
 clear h
 go_enter Tryz.func116,Tryz.ntmps116
 go_wp2
 go_ret
 exact ⟨rfl,rfl⟩
theorem KAR (g c:Nat) (hL:L = .slice (some ⟨g,0,none⟩) sl.length c) (n:Nat) (hn:n≤4000000000) :
 Calls Tryz.prog 117 #[.pointer (some ⟨x,0,none⟩),.int .i64 (n:Nat)] w fun e w'=>e = .returned (.pointer (some ⟨g,n % sl.length*6,none⟩))∧Keep [] w w':=by
 subst hL
 obtain ⟨c0,c1⟩:=h.cells
 have hp:=h.pos
 have hf:=h.few
 have hlt:n % sl.length<sl.length:=Nat.mod_lt _ hp
 generalize sl.length=m at *
 clear h
 obtain ⟨i,hi⟩:∃ i,i=n % m:=⟨_,rfl⟩
 have hw:IntKind.i64.wrap ((n:Int).tmod (m:Nat))=(i:Nat):=by
  rw [Int.tmod_eq_emod_of_nonneg (by omega),IntKind.wrap_i64,hi]
  have:((n:Int) % (m:Nat))=((n % m:Nat):Int):=by simp
  omega
 have hw2:(n:Int).tmod (m:Nat)=(i:Nat):=by
  rw [Int.tmod_eq_emod_of_nonneg (by omega),hi];simp
 rw [← hi] at hlt ⊢
 have hltI:((i:Nat):Int)<(m:Nat):=by omega
 have hm0:m≠0:=by omega
 clear hi
 go_enter Tryz.func117,Tryz.ntmps117
 go_wp2_with fail
 refine KA (fun w'=>w'.cell? ⟨x,0,none⟩=some (.slice (some ⟨g,0,none⟩) m c)) 11 [(0,false),(1,false),(2,false),(3,false),(4,false),(5,false),(6,false),(7,false),(8,false),(9,false),(10,false)]
  (by kernel_rfl) (by kernel_rfl) (fun _ _ d _ _ h=>by cases d <;> exact h) c0 ?_
 simp only [PI]
 iterate 11 (refine ZB ?_ (by rfl) ?_ ?_;rotate_left;(focus (intro W hW;go_simp;try with_reducible rfl));simp only [Act.put,PU])
 refine ZC ?_
 go_wp2_with fail
 go_ret
 exact ⟨by simp,(Keep.refl _ _).drew⟩
theorem WinIs.slot (g c:Nat) (hL:L = .slice (some ⟨g,0,none⟩) sl.length c) (i:Nat) (hi:i<sl.length) :
 w.cell? ⟨g,i*6,none⟩=some (.int .i64 sl[i].o.k)∧w.cell? ⟨g,i*6+1,none⟩=some (.int .i64 sl[i].o.b)∧w.cell? ⟨g,i*6+2,none⟩=some (.int .i64 sl[i].o.c)∧w.cell? ⟨g,i*6+3,none⟩=some (.int .i64 sl[i].o.e)∧w.cell? ⟨g,i*6+4,none⟩=some sl[i].v∧w.cell? ⟨g,i*6+5,none⟩=some (.bool sl[i].is):=by
 subst hL
 have hr:=h.row
 refine ⟨?_,?_,?_,?_,?_,?_⟩
 · exact VH hr (by rw [show i*6=i*6+0 from rfl,XJ XG sl i 0 hi (by omega)];rfl)
 · exact VH hr (by rw [XJ XG sl i 1 hi (by omega)];rfl)
 · exact VH hr (by rw [XJ XG sl i 2 hi (by omega)];rfl)
 · exact VH hr (by rw [XJ XG sl i 3 hi (by omega)];rfl)
 · exact VH hr (by rw [XJ XG sl i 4 hi (by omega)];rfl)
 · exact VH hr (by rw [XJ XG sl i 5 hi (by omega)];rfl)
theorem PeekW_is:Calls Tryz.prog 118 #[.pointer (some ⟨x,0,none⟩)] w fun e w'=>∃ q,sl.getD (next % sl.length) PSlot.none_=q∧e = .returned (.tuple #[.agg #[.int .i64 q.o.k,.int .i64 q.o.b,.int .i64 q.o.c,.int .i64 q.o.e,q.v],.bool q.is])∧(∃ A c,q.v = .slice A q.o.d.length c)∧Keep [] w w':=by
 obtain ⟨g,c,hL,hc⟩:=h.form
 have hN:=fun W (hk:Keep [] w W)=>noneW_is W base x L F next sl (h.keep0 hk)
 have hA:=fun W (hk:Keep [] w W)=>KAR W base x L F next sl (h.keep0 hk) g c hL next (by have:=h.nb;omega)
 have hlt:next % sl.length<sl.length:=Nat.mod_lt _ h.pos
 have hsl:=fun W (hk:Keep [] w W)=>(h.keep0 hk).slot W base x L F next sl g c hL (next % sl.length) hlt
 have hq:sl.getD (next % sl.length) PSlot.none_=sl[next % sl.length]:=by rw [List.getD_eq_getElem?_getD,List.getElem?_eq_getElem hlt];rfl
 have hdat:=h.dat sl[next % sl.length] (List.getElem_mem _)
 have hc1:=fun W (hk:Keep [] w W)=>(h.keep0 hk).cells.2
 rw [hq]
 clear hq
 generalize sl[next % sl.length]=q at *
 obtain ⟨qv,⟨k,b,cc,e,d⟩,is⟩:=q
 simp only at hsl hdat
 obtain ⟨QA,qc,rfl,_⟩:=JB hdat
 generalize next % sl.length=i at *
 clear h hdat
 have hkA:Keep [] w (w.alloc (.cells #[.int .i64 0,.int .i64 0,.int .i64 0,.int .i64 0,.slice none 0 0] 46)):=(Keep.refl _ _).alloc _
 have hc1A:=hc1 _ hkA
 go_enter Tryz.func118,Tryz.ntmps118
 go_wp2_with (first
  | (go_at_call 116;refine (hN _ hkA).mono ?_;clear hN;rintro e w' ⟨rfl,rfl⟩)
  | (go_at_call 117;refine (hA _ hkA).mono ?_;clear hA;rintro e w1 ⟨rfl,hk1⟩))
 have hk1w:=hkA.trans0 hk1
 have hbz:=(Blk.new w 46 #[.int .i64 0,.int .i64 0,.int .i64 0,.int .i64 0,.slice none 0 0]).keep0 hk1
 have q0:=hbz.frozen 0
 have q1:=hbz.frozen 1
 have q2:=hbz.frozen 2
 have q3:=hbz.frozen 3
 have q4:=hbz.frozen 4
 obtain ⟨z0,z1,z2,z3,z4⟩:=QC hbz
 have h5:=hbz.put5 (.int .i64 k) (.int .i64 b) (.int .i64 cc) (.int .i64 e) (.slice QA d.length qc)
 have hk5:=Keep.put5 w1 w.heap.size (.int .i64 k) (.int .i64 b) (.int .i64 cc) (.int .i64 e) (.slice QA d.length qc)
 unfold put5 at h5 hk5
 have hkZ:=(hk1w.trans hk5 (fun x hx => .inr (by simp at hx;omega))).drew
 replace h5:=h5.drew
 refine KA (fun w'=>w'.cell? ⟨g,i*6,none⟩=some (.int .i64 k)∧w'.cell? ⟨g,i*6+1,none⟩=some (.int .i64 b)∧w'.cell? ⟨g,i*6+2,none⟩=some (.int .i64 cc)∧w'.cell? ⟨g,i*6+3,none⟩=some (.int .i64 e)∧w'.cell? ⟨g,i*6+4,none⟩=some (.slice QA d.length qc)∧w'.cell? ⟨g,i*6+5,none⟩=some (.bool is)) 9 [(0,false),(1,false),(2,false),(3,false),(4,false),(5,false),(6,false),(7,false),(8,true)]
  (by kernel_rfl) (by kernel_rfl) (fun _ _ d _ _ h=>by cases d <;> exact h) (hsl _ (hk1w.trans0 (Keep.refl _ _).drew)) ?_
 simp only [PI]
 iterate 8 (refine ZB ?_ (by rfl) ?_ ?_;rotate_left;(focus (rintro W ⟨hW0,hW1,hW2,hW3,hW4,hW5⟩;go_simp;try with_reducible rfl));simp only [Act.put,PU])
 refine KB (by rfl) (fun K hK=>?_)
 go_wp2_with fail
 refine hK _ _ ((hsl _ hkZ)) ?_
 clear hK K
 try simp only [Act.put,PU]
 refine ZC ?_
 go_wp2_with fail
 obtain ⟨g0,g1,g2,g3,g4⟩:=QC h5
 exact bodyPost_ret (v := .tuple #[.agg #[.int .i64 k,.int .i64 b,.int .i64 cc,.int .i64 e,.slice QA d.length qc],.bool is]) (by simp [results,Tryz.results118,go_sem,g0,g1,g2,g3,g4]) rfl ⟨_,rfl,rfl,⟨_,_,rfl⟩,hkZ⟩
end
end
section
open Go.RowKit
theorem ZAJ (sl:List PSlot) (i:Nat) (hi:i<sl.length) (y:PSlot) :
 ((((((sl.flatMap slc).set (i*6) (.int .i64 y.o.k)).set (i*6+1) (.int .i64 y.o.b)).set (i*6+2) (.int .i64 y.o.c)).set (i*6+3) (.int .i64 y.o.e)).set (i*6+4) y.v).set (i*6+5) (.bool y.is)=(sl.set i y).flatMap slc:=by
 rw [show (sl.flatMap slc).set (i*6) (.int .i64 y.o.k)=(sl.flatMap slc).set (i*6+0) (.int .i64 y.o.k) from rfl,KS XG sl i 0 hi (by omega) _ ⟨sl[i].v,⟨y.o.k,sl[i].o.b,sl[i].o.c,sl[i].o.e,sl[i].o.d⟩,sl[i].is⟩ rfl,
  KS XG _ i 1 (by simpa using hi) (by omega) _ ⟨sl[i].v,⟨y.o.k,y.o.b,sl[i].o.c,sl[i].o.e,sl[i].o.d⟩,sl[i].is⟩ (by simp [slc]),List.set_set,
  KS XG _ i 2 (by simpa using hi) (by omega) _ ⟨sl[i].v,⟨y.o.k,y.o.b,y.o.c,sl[i].o.e,sl[i].o.d⟩,sl[i].is⟩ (by simp [slc]),List.set_set,
  KS XG _ i 3 (by simpa using hi) (by omega) _ ⟨sl[i].v,⟨y.o.k,y.o.b,y.o.c,y.o.e,sl[i].o.d⟩,sl[i].is⟩ (by simp [slc]),List.set_set,
  KS XG _ i 4 (by simpa using hi) (by omega) _ ⟨y.v,⟨y.o.k,y.o.b,y.o.c,y.o.e,sl[i].o.d⟩,sl[i].is⟩ (by simp [slc]),List.set_set,
  KS XG _ i 5 (by simpa using hi) (by omega) _ y (by simp [slc]),List.set_set]
def put6 (w:World) (g i:Nat) (y:PSlot):World:=
 (((((w.setCell ⟨g,i*6,none⟩ (.int .i64 y.o.k)).setCell ⟨g,i*6+1,none⟩ (.int .i64 y.o.b)).setCell ⟨g,i*6+2,none⟩ (.int .i64 y.o.c)).setCell ⟨g,i*6+3,none⟩ (.int .i64 y.o.e)).setCell ⟨g,i*6+4,none⟩ y.v).setCell ⟨g,i*6+5,none⟩ (.bool y.is)
theorem Keep.put6 (w:World) (g i:Nat) (y:PSlot):Keep [g] w (Go.Proofs.YtmoagodllhdemaaGreat.put6 w g i y):=by
 unfold Go.Proofs.YtmoagodllhdemaaGreat.put6
 exact ((((((Keep.refl [g] w).setCell (.inl (by simp)) _).setCell (.inl (by simp)) _).setCell (.inl (by simp)) _).setCell (.inl (by simp)) _).setCell (.inl (by simp)) _).setCell (.inl (by simp)) _
theorem WinIs.setSlot {w w2:World} {base x:Nat} {L:Value} {F:List Nat} {next:Nat} {sl:List PSlot} (h:WinIs w base x L F next sl) (hk:Keep [] w w2) (g c:Nat) (hL:L = .slice (some ⟨g,0,none⟩) sl.length c) (i:Nat) (hi:i<sl.length) (y:PSlot)
 (hy:w2.ownsRow base 5 1 y.v y.o.d.length (bys y.o.d)) (hzn:y.is=false→y=PSlot.none_) :
 ∃ F',WinIs (put6 w2 g i y) base x L F' next (sl.set i y)∧Keep F w (put6 w2 g i y)∧∀ z∈F',z∈F∨z∈y.v.ownBlock.toList:=by
 have h2:=h.keep0 hk
 have hk6:=Keep.put6 w2 g i y
 have hxg:x∉[g]:=fun hm=>h2.xL (by rw [hL];simp at hm;simp [Value.ownBlock,hm])
 have hst:∀ {q:Value} {n:Nat} {ys:List Value},w2.ownsRow base 5 1 q n ys→(put6 w2 g i y).ownsRow base 5 1 q n ys:=fun hq=>QB hq hk6 (fun z hz hm=>by
  simp at hm;subst hm;exact own_ne hq h2.row (by decide) hz (by rw [hL];rfl))
 have hrow:(put6 w2 g i y).ownsRow base 195 6 L (sl.set i y).length ((sl.set i y).flatMap slc):=by
  rw [← ZAJ sl i hi y,List.length_set]
  have hr:=h2.row
  subst hL
  exact XM (XM (XM (XM (XM (XM hr _ _) _ _) _ _) _ _) _ _) _ _
 refine ⟨_,⟨h2.blk.keep hk6 hxg,hrow,fun q hq=>?_,rfl,h.base,by simpa using h.pos,by simpa using h.few,fun q hq hf=>?_,h.nb⟩,?_,fun z hz=>?_⟩
 · rcases List.mem_or_eq_of_mem_set hq with hq | rfl
   · exact hst (h2.dat q hq)
   · exact hst hy
 · rcases List.mem_or_eq_of_mem_set hq with hq | rfl
   · exact h.zero q hq hf
   · exact hzn hf
 · exact hk.zero.trans (hk6.sub (m:=F) (fun z hz=>by simp at hz;subst hz;exact h.inL _ (by rw [hL];simp [Value.ownBlock]))) (fun z hz => .inl hz)
 · simp only [List.mem_cons,List.mem_append,List.mem_flatMap] at hz
   rcases hz with rfl | hz | ⟨q,hq,hz⟩
   · exact .inl h.inX
   · exact .inl (h.inL _ hz)
   · rcases List.mem_or_eq_of_mem_set hq with hq | rfl
     · exact .inl (h.inQ hq _ hz)
     · exact .inr hz
theorem WinIs.setNext {w:World} {base x:Nat} {L:Value} {F:List Nat} {next:Nat} {sl:List PSlot} (h:WinIs w base x L F next sl) (n:Nat) (hn:1≤n∧n≤2000000000) :
 WinIs (w.setCell ⟨x,1,none⟩ (.int .i64 n)) base x L F n sl∧Keep F w (w.setCell ⟨x,1,none⟩ (.int .i64 n)):=by
 have hk:Keep [x] w (w.setCell ⟨x,1,none⟩ (.int .i64 n)):=(Keep.refl _ _).setCell (p:=⟨x,1,none⟩) (.inl (by simp)) _
 exact ⟨⟨by simpa using h.blk.set 1 (.int .i64 n),QB h.row hk (fun z hz hm=>by simp at hm;subst hm;exact h.xL (by simpa using hz)),fun q hq=>QB (h.dat q hq) hk (fun z hz hm=>by simp at hm;subst hm;exact h.xQ hq (by simpa using hz)),
  h.foot,h.base,h.pos,h.few,h.zero,hn⟩,hk.sub (fun z hz=>by simp at hz;subst hz;exact h.inX)⟩
theorem PSlot.none_dat (w:World) (base:Nat):w.ownsRow base 5 1 PSlot.none_.v PSlot.none_.o.d.length (bys PSlot.none_.o.d):=World.ownsRow_nil _ _ _ _
section
variable (w:World) (base x:Nat) (L:Value) (F:List Nat) (next:Nat) (sl:List PSlot) (h:WinIs w base x L F next sl)
include h
theorem YAN (hq:(sl.getD (next % sl.length) PSlot.none_).is=true):Calls Tryz.prog 120 #[.pointer (some ⟨x,0,none⟩)] w fun e w'=>e = .returned (.bool true)∧∃ F',WinIs w' base x L F' next (sl.set (next % sl.length) PSlot.none_)∧Keep F w w'∧∀ z∈F',z∈F:=by
 obtain ⟨g,c,hL,hc⟩:=h.form
 have hlt:next % sl.length<sl.length:=Nat.mod_lt _ h.pos
 have hP:=PeekW_is w base x L F next sl h
 have hA:=fun W (hk:Keep [] w W)=>KAR W base x L F next sl (h.keep0 hk) g c hL next (by have:=h.nb;omega)
 have hres:=fun W (hk:Keep [] w W)=>h.setSlot hk g c hL (next % sl.length) hlt PSlot.none_ (PSlot.none_dat W base) (fun _=>rfl)
 have hc1:=fun W (hk:Keep [] w W)=>(h.keep0 hk).cells.2
 have hxl:=h.blk.lt
 have hsl:=fun W (hk:Keep [] w W)=>(h.keep0 hk).slot W base x L F next sl g c hL (next % sl.length) hlt
 have hfz:∀ W,Keep [] w W→∀ j,W.frozen? ⟨g,j,none⟩=false:=fun W hk j=>ZN (by have:=(h.keep0 hk).row;rw [hL] at this;exact this) j
 clear h
 generalize sl[next % sl.length]=q0 at hsl
 obtain ⟨q0v,q0o,q0i⟩:=q0
 simp only at hsl
 obtain ⟨i,hi⟩:∃ i,i=next % sl.length:=⟨_,rfl⟩
 rw [← hi] at hA hres hsl hlt
 have HI:=JC hi
 have HQ:=JC hq
 clear hq hi
 go_enter Tryz.func120,Tryz.ntmps120
 go_wp2_with (first
  | (go_at_call 118
     refine hP.mono ?_
     clear hP
     rintro e w1 ⟨q,hq,rfl,⟨QA,qc,hqv⟩,hk1⟩
     rw [← hq,JA HQ,hq,hqv]
     clear hq hqv
     have k1:=hc1 w1 hk1
     have hx1:x<w1.heap.size:=Nat.lt_of_lt_of_le hxl hk1.size)
  | (go_at_call 117
     refine (hA _ (by exact hk1.alloc _)).mono ?_
     clear hA
     rintro e w2 ⟨rfl,hk2⟩
     have hk2w:=(hk1.alloc _).trans0 hk2
     obtain ⟨s0,s1,s2,s3,s4,s5⟩:=hsl w2 hk2w
     have f0:=hfz w2 hk2w (i*6)
     have f1:=hfz w2 hk2w (i*6+1)
     have f2:=hfz w2 hk2w (i*6+2)
     have f3:=hfz w2 hk2w (i*6+3)
     have f4:=hfz w2 hk2w (i*6+4)
     have f5:=hfz w2 hk2w (i*6+5)))
 go_ret
 obtain ⟨F',r1,r2,r3⟩:=hres w2 hk2w
 simp only [put6,PSlot.none_,POp.zero] at r1 r2
 rw [← JA HI]
 simp only [PSlot.none_,POp.zero]
 refine ⟨rfl,F',r1,r2,fun z hz=>(r3 z hz).resolve_right (by simp [PSlot.none_,Value.ownBlock])⟩
theorem YAn (hq:(sl.getD (next % sl.length) PSlot.none_).is=true) (hn:next≤1000000000):Calls Tryz.prog 121 #[.pointer (some ⟨x,0,none⟩)] w fun e w'=>∃ v b,e = .returned (.tuple #[v,b])∧∃ F',WinIs w' base x L F' (next+1) (sl.set (next % sl.length) PSlot.none_)∧Keep F w w'∧∀ z∈F',z∈F:=by
 have hP:=PeekW_is w base x L F next sl h
 have hC:=fun W (hk:Keep [] w W)=>YAN W base x L F next sl (h.keep0 hk) hq
 have hlt:=h.lt
 have hxl:=h.blk.lt
 go_enter Tryz.func121,Tryz.ntmps121
 have hkA:Keep [] w (w.alloc (.cells #[.int .i64 0,.int .i64 0,.int .i64 0,.int .i64 0,.slice none 0 0] 46)):=(Keep.refl _ _).alloc _
 have hPA:=PeekW_is _ base x L F next sl (h.keep0 hkA)
 have hbz:=Blk.new w 46 #[.int .i64 0,.int .i64 0,.int .i64 0,.int .i64 0,.slice none 0 0]
 go_wp2_with (first
  | (go_at_call 118
     refine hPA.mono ?_
     clear hPA hP
     rintro e w1 ⟨q,hq',rfl,⟨QA,qc,hqv⟩,hk1⟩
     rw [hqv]
     clear hq' hqv
     have hC1:=hC _ ((hkA.trans0 hk1).alloc (.cells #[.int .i64 q.o.k,.int .i64 q.o.b,.int .i64 q.o.c,.int .i64 q.o.e,.slice QA q.o.d.length qc] 46))
     have hbv:=Blk.new w1 46 #[.int .i64 q.o.k,.int .i64 q.o.b,.int .i64 q.o.c,.int .i64 q.o.e,.slice QA q.o.d.length qc]
     replace hbz:=hbz.keep0 (hk1.alloc (.cells #[.int .i64 q.o.k,.int .i64 q.o.b,.int .i64 q.o.c,.int .i64 q.o.e,.slice QA q.o.d.length qc] 46))
     clear hC)
  | (go_at_call 120
     refine hC1.mono ?_
     clear hC1
     rintro e w2 ⟨rfl,F',h2,hk2,hF2⟩
     have hs1:=(hkA.trans0 hk1).size
     have hzn:w.heap.size∉F:=fun hm=>by have:=hlt _ hm;omega
     have hvn:w1.heap.size∉F:=fun hm=>by have:=hlt _ hm;omega
     replace hbz:=hbz.keep hk2 hzn
     replace hbv:=hbv.keep hk2 hvn
     obtain ⟨v0,v1,v2,v3,v4⟩:=QC hbv
     obtain ⟨z0,z1,z2,z3,z4⟩:=QC hbz
     have f0:=hbz.frozen 0
     have f1:=hbz.frozen 1
     have f2:=hbz.frozen 2
     have f3:=hbz.frozen 3
     have f4:=hbz.frozen 4
     have k1:=h2.cells.2
     have g1:=h2.blk.frozen 1
     have hne1:x≠w.heap.size:=by omega
     have hne2:x≠w1.heap.size:=by omega))
 obtain ⟨h3,hk3⟩:=h2.setNext (next+1) (by omega)
 have hk3x:Keep [x] w2 (w2.setCell ⟨x,1,none⟩ (.int .i64 (next+1:Nat))):=(Keep.refl _ _).setCell (p:=⟨x,1,none⟩) (.inl (by simp)) _
 have hbz3:=hbz.keep hk3x (by simpa using fun e=>hne1 e.symm)
 have h5:=hbz3.put5 (.int .i64 q.o.k) (.int .i64 q.o.b) (.int .i64 q.o.c) (.int .i64 q.o.e) (.slice QA q.o.d.length qc)
 have hk5:=Keep.put5 (w2.setCell ⟨x,1,none⟩ (.int .i64 (next+1:Nat))) w.heap.size (.int .i64 q.o.k) (.int .i64 q.o.b) (.int .i64 q.o.c) (.int .i64 q.o.e) (.slice QA q.o.d.length qc)
 have h4:=h3.keep hk5 (fun z hz hm=>by simp at hm;subst hm;exact hzn (hF2 _ hz))
 unfold put5 at h5 hk5 h4
 obtain ⟨g0,g1,g2,g3,g4⟩:=QC h5
 have hcast:((next+1:Nat):Int)=(next:Nat)+1:=by omega
 rw [hcast] at g0 g1 g2 g3 g4 h4 hk5 hk3
 refine bodyPost_ret (v := .tuple #[.agg #[.int .i64 q.o.k,.int .i64 q.o.b,.int .i64 q.o.c,.int .i64 q.o.e,.slice QA q.o.d.length qc],.bool q.is]) (by simp [results,Tryz.results121,go_sem,g0,g1,g2,g3,g4]) rfl ⟨_,_,rfl,F',h4,?_,hF2⟩
 exact ((((hkA.trans0 hk1).alloc _).zero.trans hk2 (fun z hz => .inl hz)).trans hk3 (fun z hz => .inl (hF2 z hz))).trans hk5 (fun z hz => .inr (by simp at hz;omega))
end
end
section
open Go.RowKit
theorem elemSlot:ElemN Tryz.prog 189 195 (.agg #[.int .i64 0,.int .i64 0,.int .i64 0,.int .i64 0,.slice none 0 0,.bool false]) 6 64:=ElemN.of Tryz.underlying189 (by kernel_rfl) rfl (by omega)
section
variable (w:World) (base x:Nat) (L:Value) (F:List Nat) (next:Nat) (sl:List PSlot) (h:WinIs w base x L F next sl)
include h
theorem VAk (n:Nat) (hn1:next≤n) (hn:n<next+sl.length) (hn2:n≤2147483647) (hq:(sl.getD (n % sl.length) PSlot.none_).is=false) (k b c e:Int) (A:Option Addr) (dc:Nat) (d:List UInt8) (hd:w.ownsRow base 5 1 (.slice A d.length dc) d.length (bys d)) :
 Calls Tryz.prog 56 #[.pointer (some ⟨x,0,none⟩),.int .i64 (n:Nat),.agg #[.int .i64 k,.int .i64 b,.int .i64 c,.int .i64 e,.slice A d.length dc]] w fun r w'=>r = .returned (.int .i64 0) ∧
  ∃ F',WinIs w' base x L F' next (sl.set (n % sl.length) ⟨.slice A d.length dc,⟨k,b,c,e,d⟩,true⟩)∧Keep F w w'∧∀ z∈F',z∈F∨z∈(Value.slice A d.length dc).ownBlock.toList:=by
 have hN:=fun W (hk:Keep [] w W)=>noneW_is W base x L F next sl (h.keep0 hk)
 have hkA:Keep [] w (w.alloc (.cells #[.int .i64 k,.int .i64 b,.int .i64 c,.int .i64 e,.slice A d.length dc] 46)):=(Keep.refl _ _).alloc _
 have hbO:=Blk.new w 46 #[.int .i64 k,.int .i64 b,.int .i64 c,.int .i64 e,.slice A d.length dc]
 obtain ⟨g,lc,hL,hc⟩:=h.form
 obtain ⟨k0,k1⟩:=(h.keep0 hkA).cells
 have hi:n % sl.length<sl.length:=Nat.mod_lt _ h.pos
 have hA:=fun W (hk:Keep [] w W)=>KAR W base x L F next sl (h.keep0 hk) g lc hL n (by omega)
 have hres:=fun W (hk:Keep [] w W)=>h.setSlot hk g lc hL (n % sl.length) hi ⟨.slice A d.length dc,⟨k,b,c,e,d⟩,true⟩ (XB hd hk) (fun h=>by cases h)
 have hsl:=fun W (hk:Keep [] w W)=>(h.keep0 hk).slot W base x L F next sl g lc hL (n % sl.length) hi
 have hfz:∀ W,Keep [] w W→∀ j,W.frozen? ⟨g,j,none⟩=false:=fun W hk j=>ZN (by have:=(h.keep0 hk).row;rw [hL] at this;exact this) j
 have hqi:sl[n % sl.length].is=false:=by rw [List.getD_eq_getElem?_getD,List.getElem?_eq_getElem hi] at hq;exact hq
 have hlt:¬ ((n:Nat):Int)<(next:Nat):=by omega
 have hge:((n:Nat):Int)<((next:Nat):Int)+(sl.length:Nat):=by omega
 rw [hL] at k0
 generalize sl[n % sl.length]=q0 at hsl hqi
 obtain ⟨q0v,q0o,q0i⟩:=q0
 simp only at hsl hqi
 subst hqi
 obtain ⟨i,hi'⟩:∃ i,i=n % sl.length:=⟨_,rfl⟩
 rw [← hi'] at hA hres hsl hi
 have HI:=JC hi'
 obtain ⟨m,hm⟩:∃ m,m=sl.length:=⟨_,rfl⟩
 have hm16:m≤16:=by rw [hm];exact h.few
 have hnb:=h.nb
 rw [← hm] at k0 hge
 have HM:=JC hm
 clear hq hi' hn hm hL h
 go_enter Tryz.func56,Tryz.ntmps56
 go_wp2_with (refine (hN _ hkA).mono ?_;clear hN;rintro r w' ⟨rfl,rfl⟩)
 have hA1:=hA _ hkA.drew
 refine KA (fun w'=>w'.cell? ⟨x,0,none⟩=some (.slice (some ⟨g,0,none⟩) m lc)∧w'.cell? ⟨x,1,none⟩=some (.int .i64 (next:Nat))) 11 [(0,false),(1,false),(2,false),(3,false),(4,false),(5,false),(6,false),(7,false),(8,false),(9,false),(10,false)]
  (by kernel_rfl) (by kernel_rfl) (fun _ _ d _ _ h=>by cases d <;> exact h) ⟨k0,k1⟩ ?_
 simp only [PI]
 iterate 11 (refine ZB ?_ (by rfl) ?_ ?_;rotate_left;(focus (rintro W ⟨hW0,hW1⟩;go_simp;try with_reducible rfl));simp only [Act.put,PU])
 refine ZC ?_
 go_wp2_with (go_at_call 117
              refine hA1.mono ?_
              clear hA1
              rintro r w1 ⟨rfl,hk1⟩
              have hk1w:=hkA.drew.trans0 hk1
              obtain ⟨s0,s1,s2,s3,s4,s5⟩:=hsl w1 hk1w)
 have hbO1:=hbO.keep0 ((Keep.refl _ _).drew.trans0 hk1)
 have hA2:=hA w1.drew hk1w.drew
 obtain ⟨o0,o1,o2,o3,o4⟩:=QC hbO1.drew
 clear s0 s1 s2 s3 s4 s5
 refine KA (fun w'=>w'.cell? ⟨w.heap.size,0,none⟩=some (.int .i64 k)∧w'.cell? ⟨w.heap.size,1,none⟩=some (.int .i64 b)∧w'.cell? ⟨w.heap.size,2,none⟩=some (.int .i64 c)∧w'.cell? ⟨w.heap.size,3,none⟩=some (.int .i64 e)∧w'.cell? ⟨w.heap.size,4,none⟩=some (.slice A d.length dc)) 5 [(0,false),(1,false),(3,false),(4,false),(2,true)]
  (by kernel_rfl) (by kernel_rfl) (fun _ _ d _ _ h=>by cases d <;> exact h) ⟨o0,o1,o2,o3,o4⟩ ?_
 simp only [PI]
 iterate 4 (refine ZB ?_ (by rfl) ?_ ?_;rotate_left;(focus (rintro W ⟨hW0,hW1,hW2,hW3,hW4⟩;go_simp;try with_reducible rfl));simp only [Act.put,PU])
 refine KB (by rfl) (fun K hK=>?_)
 go_wp2_with (refine hA2.mono ?_;clear hA2;rintro r w2 ⟨rfl,hk2⟩)
 have hk2w:=hk1w.drew.trans0 hk2
 refine hK _ _ ((QC (hbO1.drew.keep0 hk2))) ?_
 clear hK K
 try simp only [Act.put,PU]
 refine ZC ?_
 obtain ⟨s0,s1,s2,s3,s4,s5⟩:=hsl w2 hk2w
 have f0:=hfz w2 hk2w (i*6)
 have f1:=hfz w2 hk2w (i*6+1)
 have f2:=hfz w2 hk2w (i*6+2)
 have f3:=hfz w2 hk2w (i*6+3)
 have f4:=hfz w2 hk2w (i*6+4)
 have f5:=hfz w2 hk2w (i*6+5)
 go_wp2_with fail
 go_ret
 obtain ⟨F',r1,r2,r3⟩:=hres w2 hk2w
 simp only [put6] at r1 r2
 rw [← JA HI]
 exact ⟨rfl,F',r1,r2,r3⟩
end
end
section
open Go.RowKit Go.Shelf
attribute [local go_sem] Oper.semAt_some
abbrev WRnd:=Nat×PSlot
end
section
open Go.RowKit Go.Shelf
attribute [local go_sem] Oper.semAt_some
structure KLen (w:World) (pre:List WRnd) (W:World):Prop where
 cnt:Boxed W w.heap.size 3 (.int .i64 (pre.length:Nat))
 keep:Keep [] w W
theorem KLen.kept {w A B:World} {pre:List WRnd} (h:KLen w pre A) (hk:Keep [] A B):KLen w pre B:=⟨boxed_keep h.cnt hk (by simp),h.keep.trans0 hk⟩
theorem QAH (m:Nat):(madeCells #[.int .i64 0,.int .i64 0,.int .i64 0,.int .i64 0,.slice none 0 0,.bool false] (m*6)).toList=(ZF m).flatMap slc:=by
 apply List.ext_getElem?
 intro j
 by_cases hj:j<m*6
 · have h1:(ZF m)[j / 6]'(by simp [ZF];omega)=PSlot.none_:=by simp [ZF]
   have h2:=XJ XG (ZF m) (j / 6) (j % 6) (by simp [ZF];omega) (by omega)
   rw [show j / 6*6+j % 6=j by omega,h1] at h2
   rw [h2]
   have:j % 6=0∨j % 6=1∨j % 6=2∨j % 6=3∨j % 6=4∨j % 6=5:=by omega
   rw [Array.getElem?_toList,madeCells,Array.getElem?_map,Array.getElem?_range,if_pos hj]
   simp only [Option.map_some,List.size_toArray,List.length_cons,List.length_nil]
   rcases this with h | h | h | h | h | h <;> (rw [show j % (0+1+1+1+1+1+1)=j % 6 from rfl,h];rfl)
 · rw [List.getElem?_eq_none (by rw [Array.length_toList,size_madeCells];omega),List.getElem?_eq_none (by rw [ZX XG];simp [ZF];omega)]
theorem JAZ (m next:Nat) (h1:1≤m) (h2:m≤16) (h3:1≤next∧next≤1000000000) (w:World) :
 Calls Tryz.prog 51 #[.int .i64 (m:Nat),.int .i64 (next:Nat)] w fun e w'=>∃ x,e = .returned (.pointer (some ⟨x,0,none⟩))∧∃ F,WinAt w' w.heap.size x F next (ZF m)∧Keep [] w w':=by
 have i1:¬ ((m:Nat):Int)<1:=by omega
 have i2:¬ (16:Int)<((m:Nat):Int):=by omega
 have i3:¬ ((next:Nat):Int)<1:=by omega
 have i4:¬ (2147483647:Int)<((next:Nat):Int):=by omega
 go_enter Tryz.func51,Tryz.ntmps51
 go_wp2_with (at_make;refine elemSlot.wp_make rfl _ _ rfl .i64 .i64 m rfl rfl (by omega) (by omega) ?_;intro w1 g1 hg1 hs1 hb1 hk1;obtain rfl:g1=w.heap.size:=hg1;clear hs1)
 go_ret
 have hb2:w1.ownsRow w.heap.size 195 6 (.slice (some ⟨w.heap.size,0,none⟩) m m) m ((ZF m).flatMap slc):=
  ⟨by rw [ZX XG];simp [ZF],.inr ⟨w.heap.size,m,_,rfl,Nat.le_refl _,hb1,Nat.le_refl _,by simp [maxLen];omega,by rw [size_madeCells],by rw [← QAH];exact List.take_of_length_le (by rw [Array.length_toList,size_madeCells];exact Nat.le_refl _)⟩⟩
 refine ⟨_,rfl,⟨_,_,Blk.new _ _ _,by have:=ZD hb2 (.cells #[.slice (some ⟨w.heap.size,0,none⟩) m m,.int .i64 (next:Nat)] 191);simpa [ZF] using this,fun q hq=>?_,rfl,hk1.size,by simpa [ZF] using h1,by simpa [ZF] using h2,fun q hq _=>?_,by omega⟩,hk1.alloc _⟩
 · rw [List.eq_of_mem_replicate hq];exact PSlot.none_dat _ _
 · exact List.eq_of_mem_replicate hq
end
section
open Go.RowKit Go.Shelf
structure ReplicaIs (w:World) (base r s d x:Nat) (Fs Fx:List Nat) (B:Nat) (R:RS):Prop where
 blk:Blk w r 104 #[.pointer (some ⟨s,0,none⟩),.pointer (some ⟨x,0,none⟩)]
 st:StoreAt w base s d Fs B R.S
 win:WinAt w base x Fx R.next R.sl
 ap:Apart Fs Fx
 rs:r∉Fs
 rx:r∉Fx
 rb:base≤r
 mode:R.S.st.mode=1
 view:1≤R.S.st.view∧R.S.st.view≤2147483647
def YL (r:Nat) (Fs Fx:List Nat):List Nat:=r :: (Fs++Fx)
namespace ReplicaIs
variable {w w':World} {base r s d x:Nat} {Fs Fx l:List Nat} {B:Nat} {R:RS}
theorem keep (h:ReplicaIs w base r s d x Fs Fx B R) (hk:Keep l w w') (ha:Apart (YL r Fs Fx) l):ReplicaIs w' base r s d x Fs Fx B R:=
 ⟨h.blk.keep hk (ha r (by simp [YL])),h.st.keep hk (fun y hy=>ha y (by simp [YL,hy])),h.win.keep hk (fun y hy=>ha y (by simp [YL,hy])),h.ap,h.rs,h.rx,h.rb,h.mode,h.view⟩
theorem keep0 (h:ReplicaIs w base r s d x Fs Fx B R) (hk:Keep [] w w'):ReplicaIs w' base r s d x Fs Fx B R:=h.keep hk Apart.nil_right
theorem lt (h:ReplicaIs w base r s d x Fs Fx B R):∀ y∈YL r Fs Fx,y<w.heap.size:=fun y hy=>by
 simp only [YL,List.mem_cons,List.mem_append] at hy
 rcases hy with rfl | hy | hy
 · exact h.blk.lt
 · exact h.st.lt y hy
 · exact h.win.lt y hy
theorem ge (h:ReplicaIs w base r s d x Fs Fx B R):∀ y∈YL r Fs Fx,base≤y:=fun y hy=>by
 simp only [YL,List.mem_cons,List.mem_append] at hy
 rcases hy with rfl | hy | hy
 · exact h.rb
 · exact h.st.ge y hy
 · exact h.win.ge y hy
theorem cells (h:ReplicaIs w base r s d x Fs Fx B R):w.cell? ⟨r,0,none⟩=some (.pointer (some ⟨s,0,none⟩))∧w.cell? ⟨r,1,none⟩=some (.pointer (some ⟨x,0,none⟩)):=⟨by simpa using h.blk.cell 0,by simpa using h.blk.cell 1⟩
theorem setSt (h:ReplicaIs w base r s d x Fs Fx B R) {Fs':List Nat} {S':PS} (hs:StoreAt w' base s d Fs' B S') (hk:Keep Fs w w') (hg:Grow w Fs Fs') (hm:S'.st.mode=1) (hv:S'.st.view=R.S.st.view):ReplicaIs w' base r s d x Fs' Fx B ⟨S',R.next,R.sl⟩:=
 ⟨h.blk.keep hk h.rs,hs,h.win.keep hk h.ap.symm,h.ap.grow hg h.win.lt,fun hr=>(hg r hr).elim h.rs (by have:=h.blk.lt;omega),h.rx,h.rb,hm,hv ▸ h.view⟩
theorem setWin (h:ReplicaIs w base r s d x Fs Fx B R) {Fx':List Nat} {n:Nat} {sl:List PSlot} (hx:WinAt w' base x Fx' n sl) (hk:Keep Fx w w') (hg:∀ y∈Fx',y∈Fx∨(y∉Fs∧y≠r)):ReplicaIs w' base r s d x Fs Fx' B ⟨R.S,n,sl⟩:=
 ⟨h.blk.keep hk h.rx,h.st.keep hk h.ap,hx,fun y hy hm=>(hg y hm).elim (h.ap y hy) (fun h'=>h'.1 hy),h.rs,fun hr=>(hg r hr).elim h.rx (fun h'=>h'.2 rfl),h.rb,h.mode,h.view⟩
end ReplicaIs
theorem JP (w:World) (base s d:Nat) (F:List Nat) (B:Nat) (S:PS) (h:StoreAt w base s d F B S):Calls Tryz.prog 17 #[.pointer (some ⟨s,0,none⟩)] w fun e w'=>e = .returned (.agg #[.int .i64 S.st.mode,.int .i64 S.st.view,.int .i64 S.st.epoch,.int .i64 S.st.seq,.int .i64 S.st.done,.int .i64 S.st.mount,.int .i64 S.st.gen,.int .i64 (QE S.us:Nat),.int .i64 (KAi S:Nat),.int .i64 (YI S.I.ol:Nat)])∧Keep [] w w':=by
 obtain ⟨g,t,p,m,Fd,Ft,Fw,Fm,L0,L1,h,rfl⟩:=h
 exact QAF w base s d g t p m Fd Ft Fw Fm L0 L1 B S h
section
variable (w:World) (base r s d x:Nat) (Fs Fx:List Nat) (B:Nat) (R:RS) (h:ReplicaIs w base r s d x Fs Fx B R)
include h
theorem VAF (hs:R.S.st.seq≤2147483647) (he:R.S.st.epoch≤2147483647) (hd:R.S.st.done≤R.S.st.seq) :
 Calls Tryz.prog 58 #[.pointer (some ⟨r,0,none⟩)] w fun e w'=>∃ u,e = .returned (.tuple #[u,.int .i64 0])∧w'.ownsRow w.heap.size 5 1 u 25 (bys (QF 8 R.S.st.view R.S.st.seq 0 0 R.S.st.epoch R.S.st.done []))∧Keep [] w w':=by
 have hS:=JP w base s d Fs B R.S h.st
 have hE:=fun W=>QR 8 R.S.st.view R.S.st.seq 0 0 R.S.st.epoch R.S.st.done none 0 0 [] W (Rd.nil _ _) ⟨by have:=h.view;omega,.inr (.inr (.inr (.inl ⟨rfl,by omega,rfl,rfl,by omega,by omega,rfl⟩)))⟩
 obtain ⟨c0,c1⟩:=h.cells
 unfold frv at hE
 generalize R.S.st=st at *
 obtain ⟨mode,view,epoch,seq,done,mount,gen⟩:=st
 simp only at hS hE hs he hd ⊢
 go_enter Tryz.func58,Tryz.ntmps58
 go_wp2_with (first
  | (go_at_call 17;refine hS.mono ?_;clear hS;rintro e w1 ⟨rfl,hk1⟩)
  | (go_at_call 91;refine (hE _).mono ?_;clear hE;rintro e w2 ⟨u,rfl,hu,hk2⟩))
 go_ret2
 exact ⟨u,rfl,YC hu (by have:=hk1.size;simp;omega),(hk1.alloc _).trans0 hk2⟩
theorem readyR_ok:Calls Tryz.prog 52 #[.pointer (some ⟨r,0,none⟩)] w fun e w'=>e = .returned (.int .i64 0)∧Keep [] w w':=by
 have hS:=JP w base s d Fs B R.S h.st
 have hm:=h.mode
 have hD:Calls Tryz.prog 111 #[.pointer (some ⟨s,0,none⟩)] w fun e w'=>e = .returned (.pointer (some ⟨d,0,none⟩))∧w=w':=by
  obtain ⟨g,t,p,m,Fd,Ft,Fw,Fm,L0,L1,h2,hf⟩:=h.st
  exact DiskS_is w base s d g t p m Fd Ft Fw Fm L0 L1 B R.S h2
 have hO:Calls Tryz.prog 61 #[.pointer (some ⟨d,0,none⟩)] w fun e w'=>e = .returned (.bool false)∧w=w':=by
  obtain ⟨g,t,p,m,Fd,Ft,Fw,Fm,L0,L1,h2,hf⟩:=h.st
  have:=YAD w base d Fd R.S.D h2.log.disk
  rwa [h2.log.off] at this
 obtain ⟨c0,c1⟩:=h.cells
 rw [hm] at hS
 clear hm
 have hfd:=fun (a b c e f g h' i j:Value) W=>JF (P:=Tryz.prog) Tryz.underlying51 0 rfl Tryz.isAgg3 #[.int .i64 1,a,b,c,e,f,g,h',i,j] rfl W
 go_enter Tryz.func52,Tryz.ntmps52
 go_wp2_with (first
  | (go_at_call 111;refine hD.mono ?_;clear hD;rintro e w' ⟨rfl,rfl⟩)
  | (go_at_call 61;refine hO.mono ?_;clear hO;rintro e w' ⟨rfl,rfl⟩)
  | (go_at_call 17;refine hS.mono ?_;clear hS;rintro e w1 ⟨rfl,hk1⟩))
 go_ret
 exact ⟨rfl,hk1⟩
end
end
end Go.Proofs.YtmoagodllhdemaaGreat
