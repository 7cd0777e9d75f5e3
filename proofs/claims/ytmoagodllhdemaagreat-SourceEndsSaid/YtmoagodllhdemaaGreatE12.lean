/-
  A part of the proof: lemmas, and contracts of functions; their conditions stand in them.
-/
import Derived.Test.YtmoagodllhdemaaGreatE11
import Derived.Test.YtmoagodllhdemaaGreatE08
import Derived.Test.YtmoagodllhdemaaGreatE05
import Derived.Test.YtmoagodllhdemaaGreatE02
namespace Go.Proofs.YtmoagodllhdemaaGreat
set_option linter.unusedSimpArgs false
set_option linter.unusedVariables false
set_option maxHeartbeats 8000000
set_option maxRecDepth 20000
section
open Go.RowKit
theorem KAB (w0 w:World) (s view size epoch seq acked done:Nat) (L:Value) (os:List (Value×POp)) (h:Src w0 w s view size epoch seq acked done L os)
 (k b c e:Int) (A:Option Addr) (n m:Nat) (xs:List UInt8) (ha:Rd w A n (bys xs)) (hn:n≤140737488355328) (hno:¬ FrMay k view ((seq:Nat)+1) b c e 0 xs) :
 Calls Tryz.prog 146 #[.pointer (some ⟨s,0,none⟩),.agg #[.int .i64 k,.int .i64 b,.int .i64 c,.int .i64 e,.slice A n m]] w fun r w'=>r = .returned (.int .i64 1)∧Keep [] w w':=by
 have hOf:=fun W (hk:Keep [] w W)=>KAw view ((seq:Nat)+1) k b c e A n m xs W (ha.keep hk) hn hno
 have hfew:=h.few
 have hs1:IntKind.i64.wrap ((seq:Nat)+1:Int)=(seq:Nat)+1:=by rw [IntKind.wrap_i64];omega
 go_enter Tryz.func146,Tryz.ntmps146
 go_wp2
 have hbx:=Blk.new w 46 #[.int .i64 k,.int .i64 b,.int .i64 c,.int .i64 e,.slice A n m]
 have hkW:Keep [] w (w.alloc (.cells #[.int .i64 k,.int .i64 b,.int .i64 c,.int .i64 e,.slice A n m] 46)):=(Keep.refl _ _).alloc _
 have hWs:(w.alloc (.cells #[.int .i64 k,.int .i64 b,.int .i64 c,.int .i64 e,.slice A n m] 46)).heap.size=w.heap.size+1:=by simp
 generalize w.alloc (.cells #[.int .i64 k,.int .i64 b,.int .i64 c,.int .i64 e,.slice A n m] 46)=W at *
 have hSW:=h.keep0 hkW
 have HWS:=JC hWs
 clear hWs
 refine wp_region_rt (fun w'=>Keep [] W w'∧w'.cell? ⟨s,0,none⟩=some (.int .i64 view)∧w'.cell? ⟨s,3,none⟩=some (.int .i64 seq)∧w'.cell? ⟨w.heap.size,0,none⟩=some (.int .i64 k)∧w'.cell? ⟨w.heap.size,1,none⟩=some (.int .i64 b)∧w'.cell? ⟨w.heap.size,2,none⟩=some (.int .i64 c)∧w'.cell? ⟨w.heap.size,3,none⟩=some (.int .i64 e)∧w'.cell? ⟨w.heap.size,4,none⟩=some (.slice A n m)) 16 (.held 0 (.held 1 (.held 2 (.held 3 (.held 4 (.held 5 (.held 6 (.held 7 (.held 8 (.held 9 (.two 10 (.held 11 (.held 12 (.held 13 (.loud 14 (.loud 15 .nil))))) 14 (.loud 10 (.held 11 (.held 12 (.held 13 (.loud 15 .nil))))))))))))))))
  (by kernel_rfl) (by kernel_rfl) (fun _ _ d _ _ h=>by cases d <;> exact h) ⟨(Keep.refl [] W).drew,(VC (hSW.keep0 (Keep.refl [] W).drew).blk).1,(VC (hSW.keep0 (Keep.refl [] W).drew).blk).2.2.2.1,(QC (hbx.keep0 (Keep.refl [] W).drew)).1,(QC (hbx.keep0 (Keep.refl [] W).drew)).2.1,(QC (hbx.keep0 (Keep.refl [] W).drew)).2.2.1,(QC (hbx.keep0 (Keep.refl [] W).drew)).2.2.2.1,(QC (hbx.keep0 (Keep.refl [] W).drew)).2.2.2.2⟩ ?_
 simp only [RT.pick,PJ]
 iterate 10 (refine wpR_held ?_ (by rfl) ?_ ?_;rotate_left;(focus (rintro W ⟨hW0,hW1,hW2,hW3,hW4,hW5,hW6,hW7⟩;go_simp;try with_reducible rfl));simp only [Act.put,PU])
 clear hs1
 refine wpR_two ?_ ?_
 focus
  refine wpR_loud (by rfl) (fun K hK=>?_)
  go_wp2_with (refine (hOf _ hkW.drew).mono ?_;rintro r w2 ⟨rfl,hk2⟩)
  replace hk2:Keep [] W w2:=(Keep.refl _ _).drew.trans0 hk2
  refine hK _ _ (⟨hk2,(VC (hSW.keep0 hk2).blk).1,(VC (hSW.keep0 hk2).blk).2.2.2.1,(QC (hbx.keep0 hk2)).1,(QC (hbx.keep0 hk2)).2.1,(QC (hbx.keep0 hk2)).2.2.1,(QC (hbx.keep0 hk2)).2.2.2.1,(QC (hbx.keep0 hk2)).2.2.2.2⟩) ?_
  clear hK K
  try simp only [Act.put,PU]
  iterate 3 (refine wpR_held ?_ (by rfl) ?_ ?_;rotate_left;(focus (rintro W ⟨hW0,hW1,hW2,hW3,hW4,hW5,hW6,hW7⟩;go_simp;try with_reducible rfl));simp only [Act.put,PU])
  refine wpR_loud (by rfl) (fun K hK=>?_)
  go_wp2_with fail
  have hk2A:Keep [] W (w2.alloc (.cells #[.int .i64 0,.int .i64 0,.int .i64 0,.int .i64 0,.int .i64 0,.int .i64 0,.int .i64 0,.slice none 0 0] 85)):=hk2.alloc _
  refine hK _ _ (⟨hk2A,(VC (hSW.keep0 hk2A).blk).1,(VC (hSW.keep0 hk2A).blk).2.2.2.1,(QC (hbx.keep0 hk2A)).1,(QC (hbx.keep0 hk2A)).2.1,(QC (hbx.keep0 hk2A)).2.2.1,(QC (hbx.keep0 hk2A)).2.2.2.1,(QC (hbx.keep0 hk2A)).2.2.2.2⟩) ?_
  clear hK K
  try simp only [Act.put,PU]
  refine wpR_loud (by rfl) (fun K hK=>?_)
  go_wp2_with fail
  have hk3:Keep [] W (w2.alloc (.cells #[.int .i64 0,.int .i64 0,.int .i64 0,.int .i64 0,.int .i64 0,.int .i64 0,.int .i64 0,.slice none 0 0] 85)):=hk2.alloc _
  refine hK _ _ (⟨hk3,(VC (hSW.keep0 hk3).blk).1,(VC (hSW.keep0 hk3).blk).2.2.2.1,(QC (hbx.keep0 hk3)).1,(QC (hbx.keep0 hk3)).2.1,(QC (hbx.keep0 hk3)).2.2.1,(QC (hbx.keep0 hk3)).2.2.2.1,(QC (hbx.keep0 hk3)).2.2.2.2⟩) ?_
  clear hK K
  try simp only [Act.put,PU]
  refine wpR_nil ?_
  have hfr:=Blk.new w2 85 #[.int .i64 0,.int .i64 0,.int .i64 0,.int .i64 0,.int .i64 0,.int .i64 0,.int .i64 0,.slice none 0 0]
  obtain ⟨f5,hf5⟩:∃ f5,f5=w2.heap.size:=⟨_,rfl⟩
  have hf5n:w.heap.size<f5:=by rw [hf5];have:=hk2.size;have:=JA HWS;omega
  rw [← hf5] at hfr
  simp only [← hf5]
  obtain ⟨W3,hW3⟩:∃ W3,W3=w2.alloc (.cells #[.int .i64 0,.int .i64 0,.int .i64 0,.int .i64 0,.int .i64 0,.int .i64 0,.int .i64 0,.slice none 0 0] 85):=⟨_,rfl⟩
  rw [← hW3] at hfr hk3
  simp only [← hW3]
  skip
  clear hk2A hW3 hf5 hk2
 rotate_left
 focus
  refine wpR_loud (by rfl) (fun K hK=>?_)
  go_wp2_with fail
  have hkAA:Keep [] W (W.alloc (.cells #[.int .i64 0,.int .i64 0,.int .i64 0,.int .i64 0,.int .i64 0,.int .i64 0,.int .i64 0,.slice none 0 0] 85)).drew:=((Keep.refl [] W).alloc _).drew
  have hz8:=(Blk.new W 85 #[.int .i64 0,.int .i64 0,.int .i64 0,.int .i64 0,.int .i64 0,.int .i64 0,.int .i64 0,.slice none 0 0]).drew
  refine hK _ _ (⟨hkAA,(VC (hSW.keep0 hkAA).blk).1,(VC (hSW.keep0 hkAA).blk).2.2.2.1,(QC (hbx.keep0 hkAA)).1,(QC (hbx.keep0 hkAA)).2.1,(QC (hbx.keep0 hkAA)).2.2.1,(QC (hbx.keep0 hkAA)).2.2.2.1,(QC (hbx.keep0 hkAA)).2.2.2.2⟩) ?_
  clear hK K
  try simp only [Act.put,PU]
  refine wpR_loud (by rfl) (fun K hK=>?_)
  go_wp2_with (refine (hOf _ (hkW.trans0 hkAA)).mono ?_;rintro r w2 ⟨rfl,hk2⟩)
  have hkW2:Keep [] W w2:=hkAA.trans0 hk2
  refine hK _ _ (⟨hkW2,(VC (hSW.keep0 hkW2).blk).1,(VC (hSW.keep0 hkW2).blk).2.2.2.1,(QC (hbx.keep0 hkW2)).1,(QC (hbx.keep0 hkW2)).2.1,(QC (hbx.keep0 hkW2)).2.2.1,(QC (hbx.keep0 hkW2)).2.2.2.1,(QC (hbx.keep0 hkW2)).2.2.2.2⟩) ?_
  clear hK K
  try simp only [Act.put,PU]
  iterate 3 (refine wpR_held ?_ (by rfl) ?_ ?_;rotate_left;(focus (rintro W ⟨hW0,hW1,hW2,hW3,hW4,hW5,hW6,hW7⟩;go_simp;try with_reducible rfl));simp only [Act.put,PU])
  refine wpR_loud (by rfl) (fun K hK=>?_)
  have hz9:=hz8.keep0 hk2
  have hz9l:=hz9.lt
  obtain ⟨y0,y1,y2,y3,y4,y5,y6,y7⟩:=YB hz9
  have p0:=hz9.frozen 0
  have p1:=hz9.frozen 1
  have p2:=hz9.frozen 2
  have p3:=hz9.frozen 3
  have p4:=hz9.frozen 4
  have p5:=hz9.frozen 5
  have p6:=hz9.frozen 6
  have p7:=hz9.frozen 7
  have hfr:=hz9.put8 (.int .i64 0) (.int .i64 0) (.int .i64 0) (.int .i64 0) (.int .i64 0) (.int .i64 0) (.int .i64 0) (.slice none 0 0)
  have hkX:=Keep.put8 w2 W.heap.size (.int .i64 0) (.int .i64 0) (.int .i64 0) (.int .i64 0) (.int .i64 0) (.int .i64 0) (.int .i64 0) (.slice none 0 0)
  unfold put8 at hfr hkX
  have hk3:=hkW2.trans hkX (fun x hx => .inr (by simp at hx;omega))
  go_wp2_with fail
  refine hK _ _ (⟨hk3,(VC (hSW.keep0 hk3).blk).1,(VC (hSW.keep0 hk3).blk).2.2.2.1,(QC (hbx.keep0 hk3)).1,(QC (hbx.keep0 hk3)).2.1,(QC (hbx.keep0 hk3)).2.2.1,(QC (hbx.keep0 hk3)).2.2.2.1,(QC (hbx.keep0 hk3)).2.2.2.2⟩) ?_
  clear hK K
  try simp only [Act.put,PU]
  refine wpR_nil ?_
  clear y0 y1 y2 y3 y4 y5 y6 y7 p0 p1 p2 p3 p4 p5 p6 p7
  obtain ⟨f5,hf5⟩:∃ f5,f5=W.heap.size:=⟨_,rfl⟩
  have hf5n:w.heap.size<f5:=by rw [hf5];have:=JA HWS;omega
  skip
  rw [← hf5] at hfr hk3
  simp only [← hf5]
  obtain ⟨W3,hW3⟩:∃ W3,W3=((((((((w2.setCell ⟨f5,0,none⟩ (.int .i64 0)).setCell ⟨f5,1,none⟩ (.int .i64 0)).setCell ⟨f5,2,none⟩ (.int .i64 0)).setCell ⟨f5,3,none⟩ (.int .i64 0)).setCell ⟨f5,4,none⟩ (.int .i64 0)).setCell ⟨f5,5,none⟩ (.int .i64 0)).setCell ⟨f5,6,none⟩ (.int .i64 0)).setCell ⟨f5,7,none⟩ (.slice none 0 0)):=⟨_,rfl⟩
  rw [← hW3] at hfr hk3
  simp only [← hW3]
  clear hW3 hf5 hkX hkW2 hz9 hz8 hkAA hk2 hz9l
 rotate_left
 all_goals
  go_wp2
  go_ret
  exact ⟨rfl,hkW.trans0 hk3⟩
theorem FrMay.small {k v s b c e d:Int} {xs:List UInt8} (h:FrMay k v s b c e d xs):xs.length≤64:=by
 obtain ⟨g1,g | g | g | g | g⟩:=h
 · omega
 all_goals
  have:xs=[]:=by simp only [g]
  subst this
  simp
theorem Kz (w0 w:World) (s view size epoch seq acked done:Nat) (L:Value) (os:List (Value×POp)) (h:Src w0 w s view size epoch seq acked done L os)
 (k b c e:Int) (A:Option Addr) (n m:Nat) (xs:List UInt8) (ha:Rd w A n (bys xs)) (hn:n≤140737488355328) (hk89:k≠8∧k≠9) (hmay:FrMay k view ((seq:Nat)+1) b c e 0 xs) (hroom:seq<400+done) (hseq:seq<1000000) :
 Calls Tryz.prog 146 #[.pointer (some ⟨s,0,none⟩),.agg #[.int .i64 k,.int .i64 b,.int .i64 c,.int .i64 e,.slice A n m]] w fun r w'=>∃ L' u,r = .returned (.int .i64 0)∧Src w0 w' s view size epoch (seq+1) acked done L' (os++[(u,⟨k,b,c,e,xs⟩)]) ∧
  Keep (s :: L.ownBlock.toList) w w'∧Grow w (s :: L.ownBlock.toList) (s :: L'.ownBlock.toList)∧∀ g∈u.ownBlock.toList,w.heap.size≤g:=by
 have hsl:=h.lt
 have hLl:∀ g∈L.ownBlock.toList,g<w.heap.size:=fun g hg=>(own_mem h.row hg).2
 have hdl:∀ p∈os,∀ g∈p.1.ownBlock.toList,g<w.heap.size:=fun p hp g hg=>(own_mem (h.data p hp) hg).2
 have hx64:=hmay.small
 have hOf:=fun W (hk:Keep [] w W)=>VAg view ((seq:Nat)+1) k b c e A n m xs W (ha.keep hk) hn hk89 hmay
 have hfew:=h.few
 have hlen:=h.len
 have hs1:IntKind.i64.wrap ((seq:Nat)+1:Int)=(seq:Nat)+1:=by rw [IntKind.wrap_i64];omega
 have hxl:xs.length=n:=by simpa using ha.1
 have HXL:=JC hxl
 have HLEN:=JC hlen
 have hds:done≤seq:=by omega
 clear hxl hlen
 go_enter Tryz.func146,Tryz.ntmps146
 go_wp2
 have hbx:=Blk.new w 46 #[.int .i64 k,.int .i64 b,.int .i64 c,.int .i64 e,.slice A n m]
 have hkW:Keep [] w (w.alloc (.cells #[.int .i64 k,.int .i64 b,.int .i64 c,.int .i64 e,.slice A n m] 46)):=(Keep.refl _ _).alloc _
 have hWs:(w.alloc (.cells #[.int .i64 k,.int .i64 b,.int .i64 c,.int .i64 e,.slice A n m] 46)).heap.size=w.heap.size+1:=by simp
 generalize w.alloc (.cells #[.int .i64 k,.int .i64 b,.int .i64 c,.int .i64 e,.slice A n m] 46)=W at *
 have hSW:=h.keep0 hkW
 have HWS:=JC hWs
 clear hWs
 refine wp_region_rt (fun w'=>Keep [] W w'∧w'.cell? ⟨s,0,none⟩=some (.int .i64 view)∧w'.cell? ⟨s,3,none⟩=some (.int .i64 seq)∧w'.cell? ⟨w.heap.size,0,none⟩=some (.int .i64 k)∧w'.cell? ⟨w.heap.size,1,none⟩=some (.int .i64 b)∧w'.cell? ⟨w.heap.size,2,none⟩=some (.int .i64 c)∧w'.cell? ⟨w.heap.size,3,none⟩=some (.int .i64 e)∧w'.cell? ⟨w.heap.size,4,none⟩=some (.slice A n m)) 16 (.held 0 (.held 1 (.held 2 (.held 3 (.held 4 (.held 5 (.held 6 (.held 7 (.held 8 (.held 9 (.two 10 (.held 11 (.held 12 (.held 13 (.loud 14 (.loud 15 .nil))))) 14 (.loud 10 (.held 11 (.held 12 (.held 13 (.loud 15 .nil))))))))))))))))
  (by kernel_rfl) (by kernel_rfl) (fun _ _ d _ _ h=>by cases d <;> exact h) ⟨(Keep.refl [] W).drew,(VC (hSW.keep0 (Keep.refl [] W).drew).blk).1,(VC (hSW.keep0 (Keep.refl [] W).drew).blk).2.2.2.1,(QC (hbx.keep0 (Keep.refl [] W).drew)).1,(QC (hbx.keep0 (Keep.refl [] W).drew)).2.1,(QC (hbx.keep0 (Keep.refl [] W).drew)).2.2.1,(QC (hbx.keep0 (Keep.refl [] W).drew)).2.2.2.1,(QC (hbx.keep0 (Keep.refl [] W).drew)).2.2.2.2⟩ ?_
 simp only [RT.pick,PJ]
 iterate 10 (refine wpR_held ?_ (by rfl) ?_ ?_;rotate_left;(focus (rintro W ⟨hW0,hW1,hW2,hW3,hW4,hW5,hW6,hW7⟩;go_simp;try with_reducible rfl));simp only [Act.put,PU])
 clear hs1
 refine wpR_two ?_ ?_
 focus
  refine wpR_loud (by rfl) (fun K hK=>?_)
  go_wp2_with (refine (hOf _ hkW.drew).mono ?_;rintro r w2 ⟨u,rfl,hu,hk2⟩;obtain ⟨UA,uc,rfl,_⟩:=JB hu)
  replace hk2:Keep [] W w2:=(Keep.refl _ _).drew.trans0 hk2
  refine hK _ _ (⟨hk2,(VC (hSW.keep0 hk2).blk).1,(VC (hSW.keep0 hk2).blk).2.2.2.1,(QC (hbx.keep0 hk2)).1,(QC (hbx.keep0 hk2)).2.1,(QC (hbx.keep0 hk2)).2.2.1,(QC (hbx.keep0 hk2)).2.2.2.1,(QC (hbx.keep0 hk2)).2.2.2.2⟩) ?_
  clear hK K
  try simp only [Act.put,PU]
  iterate 3 (refine wpR_held ?_ (by rfl) ?_ ?_;rotate_left;(focus (rintro W ⟨hW0,hW1,hW2,hW3,hW4,hW5,hW6,hW7⟩;go_simp;try with_reducible rfl));simp only [Act.put,PU])
  refine wpR_loud (by rfl) (fun K hK=>?_)
  go_wp2_with fail
  have hk2A:Keep [] W (w2.alloc (.cells #[.int .i64 0,.int .i64 0,.int .i64 0,.int .i64 0,.int .i64 0,.int .i64 0,.int .i64 0,.slice none 0 0] 85)):=hk2.alloc _
  refine hK _ _ (⟨hk2A,(VC (hSW.keep0 hk2A).blk).1,(VC (hSW.keep0 hk2A).blk).2.2.2.1,(QC (hbx.keep0 hk2A)).1,(QC (hbx.keep0 hk2A)).2.1,(QC (hbx.keep0 hk2A)).2.2.1,(QC (hbx.keep0 hk2A)).2.2.2.1,(QC (hbx.keep0 hk2A)).2.2.2.2⟩) ?_
  clear hK K
  try simp only [Act.put,PU]
  refine wpR_loud (by rfl) (fun K hK=>?_)
  go_wp2_with fail
  have hk3:Keep [] W (w2.alloc (.cells #[.int .i64 k,.int .i64 view,.int .i64 ((seq:Nat)+1),.int .i64 b,.int .i64 c,.int .i64 e,.int .i64 0,.slice UA n uc] 85)):=hk2.alloc _
  refine hK _ _ (⟨hk3,(VC (hSW.keep0 hk3).blk).1,(VC (hSW.keep0 hk3).blk).2.2.2.1,(QC (hbx.keep0 hk3)).1,(QC (hbx.keep0 hk3)).2.1,(QC (hbx.keep0 hk3)).2.2.1,(QC (hbx.keep0 hk3)).2.2.2.1,(QC (hbx.keep0 hk3)).2.2.2.2⟩) ?_
  clear hK K
  try simp only [Act.put,PU]
  refine wpR_nil ?_
  have hfr:=Blk.new w2 85 #[.int .i64 k,.int .i64 view,.int .i64 ((seq:Nat)+1),.int .i64 b,.int .i64 c,.int .i64 e,.int .i64 0,.slice UA n uc]
  have hu3:=ZD hu (.cells #[.int .i64 k,.int .i64 view,.int .i64 ((seq:Nat)+1),.int .i64 b,.int .i64 c,.int .i64 e,.int .i64 0,.slice UA n uc] 85)
  obtain ⟨f5,hf5⟩:∃ f5,f5=w2.heap.size:=⟨_,rfl⟩
  have hf5n:w.heap.size<f5:=by rw [hf5];have:=hk2.size;have:=JA HWS;omega
  rw [← hf5] at hfr
  simp only [← hf5]
  obtain ⟨W3,hW3⟩:∃ W3,W3=w2.alloc (.cells #[.int .i64 k,.int .i64 view,.int .i64 ((seq:Nat)+1),.int .i64 b,.int .i64 c,.int .i64 e,.int .i64 0,.slice UA n uc] 85):=⟨_,rfl⟩
  rw [← hW3] at hfr hk3 hu3
  simp only [← hW3]
  have hu4:=YC hu3 (by have:=JA HWS;have:=hk2.size;simp;omega:w.heap.size≤_)
  clear hk2A hW3 hf5 hk2 hu hu3
 rotate_left
 focus
  refine wpR_loud (by rfl) (fun K hK=>?_)
  go_wp2_with fail
  have hkAA:Keep [] W (W.alloc (.cells #[.int .i64 0,.int .i64 0,.int .i64 0,.int .i64 0,.int .i64 0,.int .i64 0,.int .i64 0,.slice none 0 0] 85)).drew:=((Keep.refl [] W).alloc _).drew
  have hz8:=(Blk.new W 85 #[.int .i64 0,.int .i64 0,.int .i64 0,.int .i64 0,.int .i64 0,.int .i64 0,.int .i64 0,.slice none 0 0]).drew
  refine hK _ _ (⟨hkAA,(VC (hSW.keep0 hkAA).blk).1,(VC (hSW.keep0 hkAA).blk).2.2.2.1,(QC (hbx.keep0 hkAA)).1,(QC (hbx.keep0 hkAA)).2.1,(QC (hbx.keep0 hkAA)).2.2.1,(QC (hbx.keep0 hkAA)).2.2.2.1,(QC (hbx.keep0 hkAA)).2.2.2.2⟩) ?_
  clear hK K
  try simp only [Act.put,PU]
  refine wpR_loud (by rfl) (fun K hK=>?_)
  go_wp2_with (refine (hOf _ (hkW.trans0 hkAA)).mono ?_;rintro r w2 ⟨u,rfl,hu,hk2⟩;obtain ⟨UA,uc,rfl,_⟩:=JB hu)
  have hkW2:Keep [] W w2:=hkAA.trans0 hk2
  refine hK _ _ (⟨hkW2,(VC (hSW.keep0 hkW2).blk).1,(VC (hSW.keep0 hkW2).blk).2.2.2.1,(QC (hbx.keep0 hkW2)).1,(QC (hbx.keep0 hkW2)).2.1,(QC (hbx.keep0 hkW2)).2.2.1,(QC (hbx.keep0 hkW2)).2.2.2.1,(QC (hbx.keep0 hkW2)).2.2.2.2⟩) ?_
  clear hK K
  try simp only [Act.put,PU]
  iterate 3 (refine wpR_held ?_ (by rfl) ?_ ?_;rotate_left;(focus (rintro W ⟨hW0,hW1,hW2,hW3,hW4,hW5,hW6,hW7⟩;go_simp;try with_reducible rfl));simp only [Act.put,PU])
  refine wpR_loud (by rfl) (fun K hK=>?_)
  have hz9:=hz8.keep0 hk2
  have hz9l:=hz9.lt
  obtain ⟨y0,y1,y2,y3,y4,y5,y6,y7⟩:=YB hz9
  have p0:=hz9.frozen 0
  have p1:=hz9.frozen 1
  have p2:=hz9.frozen 2
  have p3:=hz9.frozen 3
  have p4:=hz9.frozen 4
  have p5:=hz9.frozen 5
  have p6:=hz9.frozen 6
  have p7:=hz9.frozen 7
  have hfr:=hz9.put8 (.int .i64 k) (.int .i64 view) (.int .i64 ((seq:Nat)+1)) (.int .i64 b) (.int .i64 c) (.int .i64 e) (.int .i64 0) (.slice UA n uc)
  have hkX:=Keep.put8 w2 W.heap.size (.int .i64 k) (.int .i64 view) (.int .i64 ((seq:Nat)+1)) (.int .i64 b) (.int .i64 c) (.int .i64 e) (.int .i64 0) (.slice UA n uc)
  have hu3:=QB hu hkX (fun g hg hm=>by
   have h1:=(own_mem hu (g:=g) (by simpa using hg)).1
   simp at hm h1
   omega)
  unfold put8 at hfr hkX hu3
  have hk3:=hkW2.trans hkX (fun x hx => .inr (by simp at hx;omega))
  go_wp2_with fail
  refine hK _ _ (⟨hk3,(VC (hSW.keep0 hk3).blk).1,(VC (hSW.keep0 hk3).blk).2.2.2.1,(QC (hbx.keep0 hk3)).1,(QC (hbx.keep0 hk3)).2.1,(QC (hbx.keep0 hk3)).2.2.1,(QC (hbx.keep0 hk3)).2.2.2.1,(QC (hbx.keep0 hk3)).2.2.2.2⟩) ?_
  clear hK K
  try simp only [Act.put,PU]
  refine wpR_nil ?_
  clear y0 y1 y2 y3 y4 y5 y6 y7 p0 p1 p2 p3 p4 p5 p6 p7
  obtain ⟨f5,hf5⟩:∃ f5,f5=W.heap.size:=⟨_,rfl⟩
  have hf5n:w.heap.size<f5:=by rw [hf5];have:=JA HWS;omega
  have hu4:=YC hu3 (by have:=JA HWS;simp;omega:w.heap.size≤_)
  rw [← hf5] at hfr hk3 hu4
  simp only [← hf5]
  obtain ⟨W3,hW3⟩:∃ W3,W3=((((((((w2.setCell ⟨f5,0,none⟩ (.int .i64 k)).setCell ⟨f5,1,none⟩ (.int .i64 view)).setCell ⟨f5,2,none⟩ (.int .i64 ((seq:Nat)+1))).setCell ⟨f5,3,none⟩ (.int .i64 b)).setCell ⟨f5,4,none⟩ (.int .i64 c)).setCell ⟨f5,5,none⟩ (.int .i64 e)).setCell ⟨f5,6,none⟩ (.int .i64 0)).setCell ⟨f5,7,none⟩ (.slice UA n uc)):=⟨_,rfl⟩
  rw [← hW3] at hfr hk3 hu4
  simp only [← hW3]
  clear hW3 hf5 hkX hkW2 hz9 hz8 hkAA hk2 hz9l hu hu3
 rotate_left
 all_goals
  have hS3:=hSW.keep0 hk3
  obtain ⟨c0,c1,c2,c3,c4,c5,c6⟩:=VC hS3.blk
  have hs2:IntKind.i64.wrap ((seq:Nat)-(done:Nat):Int)=(seq:Nat)-(done:Nat):=by rw [IntKind.wrap_i64];omega
  go_wp2
  refine KA (fun w'=>w'.cell? ⟨s,3,none⟩=some (.int .i64 seq)∧w'.cell? ⟨s,5,none⟩=some (.int .i64 done)) 8 [(0,false),(1,false),(2,false),(3,false),(4,false),(5,false),(6,false),(7,false)]
   (by kernel_rfl) (by kernel_rfl) (fun _ _ d _ _ h=>by cases d <;> exact h) ⟨c3,c5⟩ ?_
  simp only [PI]
  iterate 8 (refine ZB ?_ (by rfl) ?_ ?_;rotate_left;(focus (rintro W ⟨hW1,hW2⟩;go_simp;try with_reducible rfl));simp only [Act.put,PU])
  refine ZC ?_
  clear hs2
  have hb3:=(hbx.keep0 hk3).drew
  have hbl3:=hb3.lt
  have hfb4:=hb3.frozen 4
  have hcb4:=hb3.cell 4
  have hc57:=(YB hfr.drew).2.2.2.2.2.2.2
  have hS4:=hS3.keep0 (Keep.refl _ _).drew
  have hkw3:Keep [] w W3.drew:=(hkW.trans0 hk3).drew
  have hu5:=XB hu4 ((Keep.refl [] W3).drew)
  clear hfr hS3 hu4
  generalize W3.drew=W4 at *
  have hb5:Blk (W4.setCell ⟨w.heap.size,4,none⟩ (.slice UA n uc)) w.heap.size 46 #[.int .i64 k,.int .i64 b,.int .i64 c,.int .i64 e,.slice UA n uc]:=by simpa using hb3.set 4 (.slice UA n uc)
  have hk5:Keep [w.heap.size] W4 (W4.setCell ⟨w.heap.size,4,none⟩ (.slice UA n uc)):=(Keep.refl _ _).setCell (p:=⟨w.heap.size,4,none⟩) (.inl (by simp)) _
  have hS5:=hS4.keepL hk5 (fun x hx=>by have:=h.keep.size;simp at hx;omega) (by simp;omega) (fun g hg=>by have:=hLl g hg;simp;omega) (fun p hp g hg=>by have:=hdl p hp g hg;simp;omega)
  have hkw5:Keep [] w (W4.setCell ⟨w.heap.size,4,none⟩ (.slice UA n uc)):=hkw3.trans hk5 (fun x hx => .inr (by simp at hx;omega))
  have hu6:=QB hu5 hk5 (fun g hg hm=>by
   simp at hm
   subst hm
   exact own_blk_ne hu5 hb3 (by decide) hg)
  clear c0 c1 c2 c3 c4 c5 c6
  go_wp2
  clear hfb4 hcb4 hc57 hb3 hS4 hu5 hkw3 hk5 hk3
  generalize W4.setCell ⟨w.heap.size,4,none⟩ (.slice UA n uc)=W5 at *
  obtain ⟨c0,c1,c2,c3,c4,c5,c6⟩:=VC hS5.blk
  obtain ⟨d0,d1,d2,d3,d4⟩:=QC hb5
  refine KA (fun w'=>w'.cell? ⟨s,6,none⟩=some L∧w'.cell? ⟨w.heap.size,0,none⟩=some (.int .i64 k)∧w'.cell? ⟨w.heap.size,1,none⟩=some (.int .i64 b)∧w'.cell? ⟨w.heap.size,2,none⟩=some (.int .i64 c)∧w'.cell? ⟨w.heap.size,3,none⟩=some (.int .i64 e)∧w'.cell? ⟨w.heap.size,4,none⟩=some (.slice UA n uc)) 8 [(0,false),(1,false),(2,false),(3,false),(4,false),(5,false),(6,true),(7,true)]
   (by kernel_rfl) (by kernel_rfl) (fun _ _ d _ _ h=>by cases d <;> exact h) ⟨c6,d0,d1,d2,d3,d4⟩ ?_
  simp only [PI]
  iterate 6 (refine ZB ?_ (by rfl) ?_ ?_;rotate_left;(focus (rintro W ⟨hW1,hW2,hW3,hW4,hW5,hW6⟩;go_simp;try with_reducible rfl));simp only [Act.put,PU])
  refine KB (by rfl) (fun K hK=>?_)
  go_wp2_with fail
  have hkB:=(Keep.refl [] W5).drew.alloc (.cells #[.int .i64 k,.int .i64 b,.int .i64 c,.int .i64 e,.slice UA n uc] 46)
  obtain ⟨c0',c1',c2',c3',c4',c5',c6'⟩:=VC (hS5.keep0 hkB).blk
  obtain ⟨d0',d1',d2',d3',d4'⟩:=QC (hb5.keep0 hkB)
  refine hK _ _ (⟨c6',d0',d1',d2',d3',d4'⟩) ?_
  clear hK K
  try simp only [Act.put,PU]
  refine KB (by rfl) (fun K hK=>?_)
  have hrdB:Rd (W5.drew.alloc (.cells #[.int .i64 k,.int .i64 b,.int .i64 c,.int .i64 e,.slice UA n uc] 46)) (some ⟨W5.heap.size,0,none⟩) (1*5) (opc (.slice UA n uc,⟨k,b,c,e,xs⟩)):=by
   have:=Rd.of_blk (n:=5) (Blk.new W5.drew 46 #[.int .i64 k,.int .i64 b,.int .i64 c,.int .i64 e,.slice UA n uc]) (by simp)
   simpa [opc] using this
  refine elemOps.wp1_app (.tmp 44) (.tmp 46) (by rfl) w0.heap.size L os.length (os.flatMap opc) (by rfl) (XB hS5.row hkB) ⟨W5.heap.size,0,none⟩ 1 1 (opc (.slice UA n uc,⟨k,b,c,e,xs⟩)) (by rfl) hrdB (Yg _ rfl) (by have:=JA HLEN;omega) (by have:=JA HLEN;omega) (Nat.le_trans hS5.keep.size hkB.size) ?_
  intro v' w6 hv' hk6 hat _
  have hSB:=hS5.keep0 hkB
  have hbL:w.heap.size∉L.ownBlock.toList:=fun hm=>by have:=hLl _ hm;omega
  have c6'':=(hk6.cell hSB.lt hSB.not_mem 6).trans c6'
  have f6'':=(hk6.frozen hSB.lt hSB.not_mem 6).trans (hSB.blk.frozen 6)
  have c3'':=(hk6.cell hSB.lt hSB.not_mem 3).trans c3'
  have f3'':=(hk6.frozen hSB.lt hSB.not_mem 3).trans (hSB.blk.frozen 3)
  obtain ⟨d0'',d1'',d2'',d3'',d4''⟩:=QC ((hb5.keep0 hkB).keep hk6 hbL)
  have hsl6:=hk6.lt hSB.lt
  refine hK _ _ (⟨c6'',d0'',d1'',d2'',d3'',d4''⟩) ?_
  clear hK K
  try simp only [Act.put,PU]
  refine ZC ?_
  obtain ⟨VA,vc,hv6,_⟩:=JB hv'
  subst hv6
  clear c0 c1 c2 c3 c4 c5 c6 c0' c1' c2' c3' c4' c5' c6' d0 d1 d2 d3 d4 d0' d1' d2' d3' d4' d0'' d1'' d2'' d3'' d4''
  go_wp2
  go_ret
  have hsV:s∉(Value.slice VA (os.length+1) vc).ownBlock.toList:=by
   rcases hat with e | e
   · rw [e];exact hSB.not_mem
   · rw [e];intro hm;have:=hSB.lt;simp at hm this;omega
  have hkS:Keep [s] w6 ((w6.setCell ⟨s,6,none⟩ (.slice VA (os.length+1) vc)).setCell ⟨s,3,none⟩ (.int .i64 ((seq:Nat)+1))):=
   ((Keep.refl [s] w6).setCell (p:=⟨s,6,none⟩) (.inl (by simp)) _).setCell (p:=⟨s,3,none⟩) (.inl (by simp)) _
  have hkA:Keep (s :: L.ownBlock.toList) w ((w6.setCell ⟨s,6,none⟩ (.slice VA (os.length+1) vc)).setCell ⟨s,3,none⟩ (.int .i64 ((seq:Nat)+1))):=
   ((hkw5.trans0 hkB).zero.trans hk6 (fun x hx => .inl (List.mem_cons_of_mem _ hx))).trans hkS (fun x hx => .inl (by simp at hx;simp [hx]))
  have hws:w.heap.size≤W5.heap.size:=hkw5.size
  have hxl:=JA HXL
  subst hxl
  have hblk:Blk ((w6.setCell ⟨s,6,none⟩ (.slice VA (os.length+1) vc)).setCell ⟨s,3,none⟩ (.int .i64 ((seq:Nat)+1))) s 149 #[.int .i64 view,.int .i64 size,.int .i64 epoch,.int .i64 ((seq+1:Nat):Int),.int .i64 acked,.int .i64 done,.slice VA (os.length+1) vc]:=by
   have:=((hSB.blk.keep hk6 hSB.not_mem).set 6 (.slice VA (os.length+1) vc)).set 3 (.int .i64 ((seq:Nat)+1))
   simpa using this
  refine ⟨_,.slice UA xs.length uc,rfl,⟨hblk,?_,fun p hp=>?_,fun p hp=>?_,h.new,h.keep.trans hkA (fun x hx => .inr (h.fresh x hx)),by have:=JA HLEN;simp;omega,by omega⟩,hkA,fun x hx=>?_,fun g hg=>(own_mem hu6 hg).1⟩
  · rw [List.length_append,List.flatMap_append,List.flatMap_singleton]
    exact own_set (own_set hv' hsV _) hsV _
  · rcases List.mem_append.1 hp with hp | hp
    · exact own_set (own_set (QB (hSB.data p hp) hk6 (fun g hg=>hSB.data_L hp (by simpa using hg))) (hSB.data_s hp) _) (hSB.data_s hp) _
    · obtain rfl:=List.mem_singleton.1 hp
      have h1:=QB (XB hu6 hkB) hk6 (fun g hg hm=>by have h1:=(own_mem hu6 (g:=g) (by simpa using hg)).1;have:=hLl g hm;omega)
      have hsu:s∉(Value.slice UA xs.length uc).ownBlock.toList:=fun hm=>by have:=(own_mem hu6 hm).1;omega
      exact own_set (own_set (YC h1 h.keep.size) hsu _) hsu _
  · rcases List.mem_append.1 hp with hp | hp
    · exact h.small p hp
    · rw [List.mem_singleton.1 hp];exact hx64
  · rcases List.mem_cons.1 hx with rfl | hx
    · exact .inl List.mem_cons_self
    · rcases hat with e | e
      · rw [e] at hx;exact .inl (List.mem_cons_of_mem _ hx)
      · rw [e] at hx
        refine .inr ?_
        simp at hx
        omega
end
section
open Go.RowKit
theorem ZAB {Post:Ending→World→Prop} (s:Nat) (b:Int) (A:Option Addr) (n m:Nat) (w:World)
 (h:Calls Tryz.prog 146 #[.pointer (some ⟨s,0,none⟩),.agg #[.int .i64 1,.int .i64 b,.int .i64 0,.int .i64 0,.slice A n m]] w Post) (hp:∀ e w',Post e w'→∃ x,e = .returned (.int .i64 x)) :
 Calls Tryz.prog 81 #[.pointer (some ⟨s,0,none⟩),.int .i64 b,.slice A n m] w Post:=by
 go_enter Tryz.func81,Tryz.ntmps81
 go_wp2_with (refine h.mono ?_;rintro e w' hP;obtain ⟨x,rfl⟩:=hp _ _ hP)
 exact hP
theorem YAM {Post:Ending→World→Prop} (s:Nat) (b c:Int) (w:World)
 (h:Calls Tryz.prog 146 #[.pointer (some ⟨s,0,none⟩),.agg #[.int .i64 2,.int .i64 b,.int .i64 c,.int .i64 0,.slice none 0 0]] w Post) (hp:∀ e w',Post e w'→∃ x,e = .returned (.int .i64 x)) :
 Calls Tryz.prog 85 #[.pointer (some ⟨s,0,none⟩),.int .i64 b,.int .i64 c] w Post:=by
 go_enter Tryz.func85,Tryz.ntmps85
 go_wp2_with (refine h.mono ?_;rintro e w' hP;obtain ⟨x,rfl⟩:=hp _ _ hP)
 exact hP
section
variable (w0 w:World) (s view size epoch seq acked done:Nat) (L:Value) (os:List (Value×POp)) (h:Src w0 w s view size epoch seq acked done L os)
include h
def KAy (w0 w:World) (s view size epoch seq acked done:Nat) (L:Value) (os:List (Value×POp)) (o:POp) (r:Ending) (w':World):Prop:=
 ∃ L' u,r = .returned (.int .i64 0)∧Src w0 w' s view size epoch (seq+1) acked done L' (os++[(u,o)])∧Keep (s :: L.ownBlock.toList) w w'∧Grow w (s :: L.ownBlock.toList) (s :: L'.ownBlock.toList)∧∀ g∈u.ownBlock.toList,w.heap.size≤g
theorem Zt (b:Int) (A:Option Addr) (n m:Nat) (xs:List UInt8) (ha:Rd w A n (bys xs)) (hx:xs.length=64) (hv:1≤view∧view≤2147483647) (hb:0≤b∧b≤63) (hroom:seq<400+done) (hseq:seq<1000000) :
 Calls Tryz.prog 81 #[.pointer (some ⟨s,0,none⟩),.int .i64 b,.slice A n m] w (KAy w0 w s view size epoch seq acked done L os ⟨1,b,0,0,xs⟩):=by
 have hl:xs.length=n:=by simpa using ha.1
 exact ZAB _ b A n m w (Kz w0 w s view size epoch seq acked done L os h 1 b 0 0 A n m xs ha (by omega) (by omega) ⟨by omega,.inl ⟨rfl,by omega,by omega,rfl,rfl,rfl,hx⟩⟩ hroom hseq) (fun e w' ⟨_,_,he,_⟩=>⟨_,he⟩)
theorem Vr (b:Int) (A:Option Addr) (n m:Nat) (xs:List UInt8) (ha:Rd w A n (bys xs)) (hn:n≤1000000) (hno:xs.length≠64∨¬ (0≤b∧b≤63)) :
 Calls Tryz.prog 81 #[.pointer (some ⟨s,0,none⟩),.int .i64 b,.slice A n m] w fun r w'=>r = .returned (.int .i64 1)∧Keep [] w w':=
 ZAB _ b A n m w (KAB w0 w s view size epoch seq acked done L os h 1 b 0 0 A n m xs ha (by omega) (by rintro ⟨_,g | g | g | g | g⟩ <;> omega)) (fun e w' ⟨he,_⟩=>⟨_,he⟩)
theorem XAj (b c:Int) (hv:1≤view∧view≤2147483647) (hb:0≤b∧b≤63) (hc:1≤c∧c≤64-b) (hroom:seq<400+done) (hseq:seq<1000000) :
 Calls Tryz.prog 85 #[.pointer (some ⟨s,0,none⟩),.int .i64 b,.int .i64 c] w (KAy w0 w s view size epoch seq acked done L os ⟨2,b,c,0,[]⟩):=
 YAM _ b c w (Kz w0 w s view size epoch seq acked done L os h 2 b c 0 none 0 0 [] (Rd.nil _ _) (by omega) (by omega) ⟨by omega,.inr (.inl ⟨rfl,by omega,by omega,by omega,rfl,rfl,rfl⟩)⟩ hroom hseq) (fun e w' ⟨_,_,he,_⟩=>⟨_,he⟩)
theorem QAB (b c:Int) (hno:¬ ((0≤b∧b≤63)∧1≤c∧c≤64-b)) :
 Calls Tryz.prog 85 #[.pointer (some ⟨s,0,none⟩),.int .i64 b,.int .i64 c] w fun r w'=>r = .returned (.int .i64 1)∧Keep [] w w':=
 YAM _ b c w (KAB w0 w s view size epoch seq acked done L os h 2 b c 0 none 0 0 [] (Rd.nil _ _) (by omega) (by rintro ⟨_,g | g | g | g | g⟩ <;> omega)) (fun e w' ⟨he,_⟩=>⟨_,he⟩)
theorem YAk (hv:1≤view∧view≤2147483647) (he:epoch≤1000000) (hroom:seq<400+done) (hseq:seq<1000000) :
 Calls Tryz.prog 86 #[.pointer (some ⟨s,0,none⟩)] w fun r w'=>∃ L' u,r = .returned (.int .i64 0)∧Src w0 w' s view size (epoch+1) (seq+1) acked done L' (os++[(u,⟨3,0,0,((epoch:Nat):Int)+1,[]⟩)]) ∧
  Keep (s :: L.ownBlock.toList) w w'∧Grow w (s :: L.ownBlock.toList) (s :: L'.ownBlock.toList)∧∀ g∈u.ownBlock.toList,w.heap.size≤g:=by
 have hE:=YAB w0 w s view size epoch seq acked done L os h
 have hK:=Kz w0 w s view size epoch seq acked done L os h 3 0 0 ((epoch:Nat)+1) none 0 0 [] (Rd.nil _ _) (by omega) (by omega) ⟨by omega,.inr (.inr (.inl ⟨rfl,by omega,rfl,rfl,by omega,rfl,rfl⟩))⟩ hroom hseq
 go_enter Tryz.func86,Tryz.ntmps86
 go_wp2_with (first
  | (refine hE.mono ?_;clear hE;rintro e w' ⟨rfl,rfl⟩)
  | (refine hK.mono ?_;clear hK;rintro e w1 ⟨L',u,rfl,hS,hk,hg⟩;obtain ⟨c0,c1,c2,c3,c4,c5,c6⟩:=VC hS.blk;have hf:=hS.blk.frozen 2;have hsl:=hS.lt))
 go_ret
 have hk2:Keep [s] w1 (w1.setCell ⟨s,2,none⟩ (.int .i64 ((epoch:Nat)+1))):=(Keep.refl _ _).setCell (p:=⟨s,2,none⟩) (.inl (by simp)) _
 have hb:Blk (w1.setCell ⟨s,2,none⟩ (.int .i64 ((epoch:Nat)+1))) s 149 #[.int .i64 view,.int .i64 size,.int .i64 ((epoch+1:Nat):Int),.int .i64 ((seq+1:Nat):Int),.int .i64 acked,.int .i64 done,L']:=by
  have:=hS.blk.set 2 (.int .i64 ((epoch:Nat)+1))
  simpa using this
 refine ⟨L',u,rfl,⟨hb,own_set hS.row hS.not_mem _,fun p hp=>own_set (hS.data p hp) (hS.data_s hp) _,hS.small,hS.new,hS.keep.trans hk2 (fun x hx => .inr (by simp at hx;subst hx;exact hS.new)),hS.len,hS.few⟩,hk.trans hk2 (fun x hx => .inl (by simp at hx;simp [hx])),hg⟩
theorem KAf (hv:1≤view∧view≤2147483647) :
 Calls Tryz.prog 84 #[.pointer (some ⟨s,0,none⟩)] w fun r w'=>∃ u,r = .returned u∧w'.ownsRow w.heap.size 5 1 u 25 (bys (QF 9 view 0 0 0 0 0 []))∧Keep [] w w':=by
 obtain ⟨c0,c1,c2,c3,c4,c5,c6⟩:=VC h.blk
 have hE:=QR 9 view 0 0 0 0 0 none 0 0 [] w (Rd.nil _ _) ⟨by omega,.inr (.inr (.inr (.inr ⟨rfl,rfl,rfl,rfl,rfl,rfl,rfl⟩)))⟩
 unfold frv at hE
 go_enter Tryz.func84,Tryz.ntmps84
 go_wp2_with (refine hE.mono ?_;clear hE;rintro e w1 ⟨u,rfl,hu,hk⟩)
 go_ret
 exact ⟨u,rfl,hu,hk⟩
end
end
section
open Go.RowKit
end
section
open Go.RowKit
structure OHold (w:World) (B:Nat) (F:List Nat) (v:Value) (os:List (Value×POp)):Prop where
 row:w.ownsRow B 46 5 v os.length (os.flatMap opc)
 data:∀ p∈os,w.ownsRow B 5 1 p.1 p.2.d.length (bys p.2.d)
 small:∀ p∈os,p.2.d.length≤64
 off:∀ g∈v.ownBlock.toList,g∉F
 offs:∀ p∈os,∀ g∈p.1.ownBlock.toList,g∉F
namespace OHold
variable {w w':World} {B:Nat} {F F':List Nat} {v:Value} {os:List (Value×POp)}
theorem keep0 (h:OHold w B F v os) (hk:Keep [] w w'):OHold w' B F v os:=⟨XB h.row hk,fun p hp=>XB (h.data p hp) hk,h.small,h.off,h.offs⟩
theorem turn (h:OHold w B F v os) {l:List Nat} (hk:Keep l w w') (hl:∀ x∈l,x∈F) (hg:Grow w F F'):OHold w' B F' v os:=by
 have hoff:∀ {e:TypeId} {u:Value} {n q:Nat} {xs:List Value},w.ownsRow B e q u n xs→(∀ g∈u.ownBlock.toList,g∉F)→∀ g∈u.ownBlock.toList,g∉F':=by
  intro e u n q xs hu ho g hg' hm
  rcases hg g hm with h1 | h1
  · exact ho g hg' h1
  · have:=(own_mem hu hg').2;omega
 exact ⟨QB h.row hk (fun g hg' hm=>h.off g (by simpa using hg') (hl g hm)),fun p hp=>QB (h.data p hp) hk (fun g hg' hm=>h.offs p hp g (by simpa using hg') (hl g hm)),h.small,hoff h.row h.off,fun p hp=>hoff (h.data p hp) (h.offs p hp)⟩
theorem rd (h:OHold w B F v os) {A:Option Addr} {c:Nat} (hv:v = .slice A os.length c):OpsRd w A os.length os:=by
 have h1:=h.row
 rw [hv] at h1
 exact OpsRd.of_own h1 rfl
theorem nil (w:World) (B:Nat) (F:List Nat):OHold w B F (.slice none 0 0) []:=⟨World.ownsRow_nil _ _ _ _,by simp,by simp,by simp [Value.ownBlock],by simp⟩
end OHold
theorem OHold.apart {w:World} {B:Nat} {v:Value} {os:List (Value×POp)} (h:OHold w B [] v os) {F:List Nat} (hF:∀ x∈F,x<B):OHold w B F v os:=
 ⟨h.row,h.data,h.small,fun g hg hm=>by have:=(own_mem h.row hg).1;have:=hF g hm;omega,fun p hp g hg hm=>by have:=(own_mem (h.data p hp) hg).1;have:=hF g hm;omega⟩
end
end Go.Proofs.YtmoagodllhdemaaGreat
