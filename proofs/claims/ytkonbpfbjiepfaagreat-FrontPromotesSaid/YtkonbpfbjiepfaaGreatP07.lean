/- Lemmas of the proof, with their conditions. -/
import Derived.Test.YtkonbpfbjiepfaaGreatP06
namespace Go.Proofs.YtkonbpfbjiepfaaGreat
set_option linter.unusedSimpArgs false
set_option linter.unusedVariables false
set_option maxHeartbeats 4000000
set_option maxRecDepth 20000
section
open Go.RowKit
def FrMay (k v s b c e d:Int) (data:List UInt8):Prop:=
 (1≤v∧v≤2147483647) ∧
   ((k=1∧(1≤s∧s≤2147483647)∧(0≤b∧b≤63)∧c=0∧e=0∧d=0∧data.length=64) ∨
    (k=2∧(1≤s∧s≤2147483647)∧(0≤b∧b≤63)∧(1≤c∧c≤64-b)∧e=0∧d=0∧data=[]) ∨
    (k=3∧(1≤s∧s≤2147483647)∧b=0∧c=0∧(1≤e∧e≤2147483647)∧d=0∧data=[]) ∨
    (k=8∧(0≤s∧s≤2147483647)∧b=0∧c=0∧(0≤e∧e≤2147483647)∧(0≤d∧d≤s)∧data=[]) ∨
    (k=9∧s=0∧b=0∧c=0∧e=0∧d=0∧data=[]))
instance (k v s b c e d:Int) (data:List UInt8):Decidable (FrMay k v s b c e d data):=by unfold FrMay;infer_instance
theorem QC {w:World} {g:Nat} {x0 x1 x2 x3 x4 x5 x6 x7:Value} (h:Blk w g 152 #[x0,x1,x2,x3,x4,x5,x6,x7]) :
 w.cell? ⟨g,0,none⟩=some x0∧w.cell? ⟨g,1,none⟩=some x1∧w.cell? ⟨g,2,none⟩=some x2∧w.cell? ⟨g,3,none⟩=some x3∧w.cell? ⟨g,4,none⟩=some x4∧w.cell? ⟨g,5,none⟩=some x5∧w.cell? ⟨g,6,none⟩=some x6∧w.cell? ⟨g,7,none⟩=some x7:=
 ⟨by simpa using h.cell 0,by simpa using h.cell 1,by simpa using h.cell 2,by simpa using h.cell 3,by simpa using h.cell 4,by simpa using h.cell 5,by simpa using h.cell 6,by simpa using h.cell 7⟩
theorem VBG (v s b c e d:Int) (A:Option Addr) (n m:Nat) (xs:List UInt8) (w:World) (ha:Rd w A n (bys xs)) (h1:¬ (1≤v∧v≤2147483647)) :
 Calls Tryz.prog 231 #[frv 1 v s b c e d (.slice A n m)] w fun r w'=>r=.returned (.bool (decide (FrMay 1 v s b c e d xs)))∧Keep [] w w':=by
 have hno:decide (FrMay 1 v s b c e d xs)=false:=by
  have hl:xs.length=n:=by simpa using ha.1
  rw[decide_eq_false_iff_not];rintro⟨g1,g | g | g | g | g⟩ <;> omega
 rw[hno];clear hno;unfold frv;have Tv:=fun W=>XC (v) (1) (2147483647) false (decide_eq_false h1) W;obtain⟨bTs,hTs⟩:∃ x,decide (1≤s∧s≤2147483647)=x:=⟨_,rfl⟩;have Ts:=fun W=>XC (s) (1) (2147483647) bTs hTs W;have HTs:=JB hTs;clear hTs;obtain⟨bTb,hTb⟩:∃ x,decide (0≤b∧b≤63)=x:=⟨_,rfl⟩;have Tb:=fun W=>XC (b) (0) (63) bTb hTb W;have HTb:=JB hTb;clear hTb;have hbl:=Blk.new w 152 #[.int .i64 1,.int .i64 v,.int .i64 s,.int .i64 b,.int .i64 c,.int .i64 e,.int .i64 d,.slice A n m];have H1:=JB h1;clear h1
 go_enter Tryz.func231,Tryz.ntmps231
 go_wp2_with (
  (refine(XH _ _ _ _ _ _ _ _ _ _ _).mono ?_)
  rintro r w2 ⟨rfl,hk2⟩;have hB2:=hbl.keep0 hk2;obtain⟨c0,c1,c2,c3,c4,c5,c6,c7⟩:=QC hB2;have hlt:=hB2.lt;clear hbl hB2)
 go_wp2_with (first
  | (refine(Tv _).mono ?_;clear Tv;rintro r w' ⟨rfl,rfl⟩)
  | (refine(Ts _).mono ?_;clear Ts;rintro r w' ⟨rfl,rfl⟩)
  | (refine(Tb _).mono ?_;clear Tb;rintro r w' ⟨rfl,rfl⟩))
 refine ZT (fun w'=>w'.cell? ⟨w.heap.size,3,none⟩=some (.int .i64 b)∧w'.cell? ⟨w.heap.size,7,none⟩=some (.slice A n m)) 6 [[0,1,2,3,4],[5]] ⟨((((Keep.refl [] w2).alloc _).cell hlt (by simp) _).trans c3),((((Keep.refl [] w2).alloc _).cell hlt (by simp) _).trans c7)⟩ ?_;simp only[PI]
 iterate 5 (refine ZH ?_;simp only[Act.put,PU])
 refine XB (by rfl) (fun K hK=>?_)
 go_wp2_with fail
 refine hK _ _ (⟨((((Keep.refl [] w2).alloc _).drew.cell hlt (by simp) _).trans c3),((((Keep.refl [] w2).alloc _).drew.cell hlt (by simp) _).trans c7)⟩) ?_;clear hK K
 try simp only[Act.put,PU]
 refine YB ?_
 go_wp2_with (first
  | fail)
 go_ret;exact⟨rfl,by first | exact((((Keep.refl [] w).alloc _).trans0 hk2).alloc _).drew | exact(((Keep.refl [] w).alloc _).trans0 hk2).alloc _⟩
theorem YBP (v s b c e d:Int) (A:Option Addr) (n m:Nat) (xs:List UInt8) (w:World) (ha:Rd w A n (bys xs)) (h1:1≤v∧v≤2147483647) (h2:¬ (1≤s∧s≤2147483647)) :
 Calls Tryz.prog 231 #[frv 1 v s b c e d (.slice A n m)] w fun r w'=>r=.returned (.bool (decide (FrMay 1 v s b c e d xs)))∧Keep [] w w':=by
 have hno:decide (FrMay 1 v s b c e d xs)=false:=by
  have hl:xs.length=n:=by simpa using ha.1
  rw[decide_eq_false_iff_not];rintro⟨g1,g | g | g | g | g⟩ <;> omega
 rw[hno];clear hno;unfold frv;have Tv:=fun W=>XC (v) (1) (2147483647) true (decide_eq_true h1) W;have Ts:=fun W=>XC (s) (1) (2147483647) false (decide_eq_false h2) W;obtain⟨bTb,hTb⟩:∃ x,decide (0≤b∧b≤63)=x:=⟨_,rfl⟩;have Tb:=fun W=>XC (b) (0) (63) bTb hTb W;have HTb:=JB hTb;clear hTb;have hbl:=Blk.new w 152 #[.int .i64 1,.int .i64 v,.int .i64 s,.int .i64 b,.int .i64 c,.int .i64 e,.int .i64 d,.slice A n m];have H1:=JB h1;clear h1;have H2:=JB h2;clear h2
 go_enter Tryz.func231,Tryz.ntmps231
 go_wp2_with (
  (refine(XH _ _ _ _ _ _ _ _ _ _ _).mono ?_)
  rintro r w2 ⟨rfl,hk2⟩;have hB2:=hbl.keep0 hk2;obtain⟨c0,c1,c2,c3,c4,c5,c6,c7⟩:=QC hB2;have hlt:=hB2.lt;clear hbl hB2)
 go_wp2_with (first
  | (refine(Tv _).mono ?_;clear Tv;rintro r w' ⟨rfl,rfl⟩)
  | (refine(Ts _).mono ?_;clear Ts;rintro r w' ⟨rfl,rfl⟩)
  | (refine(Tb _).mono ?_;clear Tb;rintro r w' ⟨rfl,rfl⟩))
 refine ZT (fun w'=>w'.cell? ⟨w.heap.size,3,none⟩=some (.int .i64 b)∧w'.cell? ⟨w.heap.size,7,none⟩=some (.slice A n m)) 6 [[0,1,2,3,4],[5]] ⟨((((Keep.refl [] w2).alloc _).cell hlt (by simp) _).trans c3),((((Keep.refl [] w2).alloc _).cell hlt (by simp) _).trans c7)⟩ ?_;simp only[PI]
 iterate 5 (refine ZH ?_;simp only[Act.put,PU])
 refine XB (by rfl) (fun K hK=>?_)
 go_wp2_with fail
 refine hK _ _ (⟨((((Keep.refl [] w2).alloc _).drew.cell hlt (by simp) _).trans c3),((((Keep.refl [] w2).alloc _).drew.cell hlt (by simp) _).trans c7)⟩) ?_;clear hK K
 try simp only[Act.put,PU]
 refine YB ?_
 go_wp2_with (first
  | fail)
 go_ret;exact⟨rfl,by first | exact((((Keep.refl [] w).alloc _).trans0 hk2).alloc _).drew | exact(((Keep.refl [] w).alloc _).trans0 hk2).alloc _⟩
theorem YBI (v s b c e d:Int) (A:Option Addr) (n m:Nat) (xs:List UInt8) (w:World) (ha:Rd w A n (bys xs)) (h1:1≤v∧v≤2147483647) (h2:1≤s∧s≤2147483647) (h3:¬ (0≤b∧b≤63)) :
 Calls Tryz.prog 231 #[frv 1 v s b c e d (.slice A n m)] w fun r w'=>r=.returned (.bool (decide (FrMay 1 v s b c e d xs)))∧Keep [] w w':=by
 have hno:decide (FrMay 1 v s b c e d xs)=false:=by
  have hl:xs.length=n:=by simpa using ha.1
  rw[decide_eq_false_iff_not];rintro⟨g1,g | g | g | g | g⟩ <;> omega
 rw[hno];clear hno;unfold frv;have Tv:=fun W=>XC (v) (1) (2147483647) true (decide_eq_true h1) W;have Ts:=fun W=>XC (s) (1) (2147483647) true (decide_eq_true h2) W;have Tb:=fun W=>XC (b) (0) (63) false (decide_eq_false h3) W;have hbl:=Blk.new w 152 #[.int .i64 1,.int .i64 v,.int .i64 s,.int .i64 b,.int .i64 c,.int .i64 e,.int .i64 d,.slice A n m];have H1:=JB h1;clear h1;have H2:=JB h2;clear h2;have H3:=JB h3;clear h3
 go_enter Tryz.func231,Tryz.ntmps231
 go_wp2_with (
  (refine(XH _ _ _ _ _ _ _ _ _ _ _).mono ?_)
  rintro r w2 ⟨rfl,hk2⟩;have hB2:=hbl.keep0 hk2;obtain⟨c0,c1,c2,c3,c4,c5,c6,c7⟩:=QC hB2;have hlt:=hB2.lt;clear hbl hB2)
 go_wp2_with (first
  | (refine(Tv _).mono ?_;clear Tv;rintro r w' ⟨rfl,rfl⟩)
  | (refine(Ts _).mono ?_;clear Ts;rintro r w' ⟨rfl,rfl⟩)
  | (refine(Tb _).mono ?_;clear Tb;rintro r w' ⟨rfl,rfl⟩))
 refine ZT (fun w'=>w'.cell? ⟨w.heap.size,3,none⟩=some (.int .i64 b)∧w'.cell? ⟨w.heap.size,7,none⟩=some (.slice A n m)) 6 [[0,1,2,3,4],[5]] ⟨((((Keep.refl [] w2).alloc _).cell hlt (by simp) _).trans c3),((((Keep.refl [] w2).alloc _).cell hlt (by simp) _).trans c7)⟩ ?_;simp only[PI]
 iterate 5 (refine ZH ?_;simp only[Act.put,PU])
 refine XB (by rfl) (fun K hK=>?_)
 go_wp2_with fail
 refine hK _ _ (⟨((((Keep.refl [] w2).alloc _).drew.cell hlt (by simp) _).trans c3),((((Keep.refl [] w2).alloc _).drew.cell hlt (by simp) _).trans c7)⟩) ?_;clear hK K
 try simp only[Act.put,PU]
 refine YB ?_
 go_wp2_with (first
  | fail)
 go_ret;exact⟨rfl,by first | exact((((Keep.refl [] w).alloc _).trans0 hk2).alloc _).drew | exact(((Keep.refl [] w).alloc _).trans0 hk2).alloc _⟩
theorem QBH (v s b c e d:Int) (A:Option Addr) (n m:Nat) (xs:List UInt8) (w:World) (ha:Rd w A n (bys xs)) (h1:1≤v∧v≤2147483647) (h2:1≤s∧s≤2147483647) (h3:0≤b∧b≤63) (h4:¬ (n=64)) :
 Calls Tryz.prog 231 #[frv 1 v s b c e d (.slice A n m)] w fun r w'=>r=.returned (.bool (decide (FrMay 1 v s b c e d xs)))∧Keep [] w w':=by
 have hno:decide (FrMay 1 v s b c e d xs)=false:=by
  have hl:xs.length=n:=by simpa using ha.1
  rw[decide_eq_false_iff_not];rintro⟨g1,g | g | g | g | g⟩ <;> omega
 rw[hno];clear hno;unfold frv;have Tv:=fun W=>XC (v) (1) (2147483647) true (decide_eq_true h1) W;have Ts:=fun W=>XC (s) (1) (2147483647) true (decide_eq_true h2) W;have Tb:=fun W=>XC (b) (0) (63) true (decide_eq_true h3) W;have hbl:=Blk.new w 152 #[.int .i64 1,.int .i64 v,.int .i64 s,.int .i64 b,.int .i64 c,.int .i64 e,.int .i64 d,.slice A n m];have H1:=JB h1;clear h1;have H2:=JB h2;clear h2;have H3:=JB h3;obtain⟨hb0,hb1⟩:=h3;have hn64:(((n:Nat):Int) == 64)=false:=by simp;omega
 clear h4
 go_enter Tryz.func231,Tryz.ntmps231
 go_wp2_with (
  (refine(XH _ _ _ _ _ _ _ _ _ _ _).mono ?_)
  rintro r w2 ⟨rfl,hk2⟩;have hB2:=hbl.keep0 hk2;obtain⟨c0,c1,c2,c3,c4,c5,c6,c7⟩:=QC hB2;have hlt:=hB2.lt;clear hbl hB2)
 go_wp2_with (first
  | (refine(Tv _).mono ?_;clear Tv;rintro r w' ⟨rfl,rfl⟩)
  | (refine(Ts _).mono ?_;clear Ts;rintro r w' ⟨rfl,rfl⟩)
  | (refine(Tb _).mono ?_;clear Tb;rintro r w' ⟨rfl,rfl⟩))
 refine ZT (fun w'=>w'.cell? ⟨w.heap.size,3,none⟩=some (.int .i64 b)∧w'.cell? ⟨w.heap.size,7,none⟩=some (.slice A n m)) 6 [[0,1,2,3,4],[5]] ⟨((((Keep.refl [] w2).alloc _).cell hlt (by simp) _).trans c3),((((Keep.refl [] w2).alloc _).cell hlt (by simp) _).trans c7)⟩ ?_;simp only[PI]
 iterate 5 (refine ZH ?_;simp only[Act.put,PU])
 refine XB (by rfl) (fun K hK=>?_)
 go_wp2_with fail
 refine hK _ _ (⟨((((Keep.refl [] w2).alloc _).drew.cell hlt (by simp) _).trans c3),((((Keep.refl [] w2).alloc _).drew.cell hlt (by simp) _).trans c7)⟩) ?_;clear hK K
 try simp only[Act.put,PU]
 refine YB ?_
 go_wp2_with (first
  | fail)
 go_ret;exact⟨rfl,by first | exact((((Keep.refl [] w).alloc _).trans0 hk2).alloc _).drew | exact(((Keep.refl [] w).alloc _).trans0 hk2).alloc _⟩
theorem XBH (v s b c e d:Int) (A:Option Addr) (n m:Nat) (xs:List UInt8) (w:World) (ha:Rd w A n (bys xs)) (h1:1≤v∧v≤2147483647) (h2:1≤s∧s≤2147483647) (h3:0≤b∧b≤63) (h4:n=64) :
 Calls Tryz.prog 231 #[frv 1 v s b c e d (.slice A n m)] w fun r w'=>r=.returned (.bool (decide (FrMay 1 v s b c e d xs)))∧Keep [] w w':=by
 unfold frv;have hsm:=fun W (hk:Keep [] w W)=>Jq 1 v s b c e d 1 v s b 0 0 0 A A n m n m xs xs W (ha.keep hk) (ha.keep hk);unfold frv at hsm;have Tv:=fun W=>XC (v) (1) (2147483647) true (decide_eq_true h1) W;have Ts:=fun W=>XC (s) (1) (2147483647) true (decide_eq_true h2) W;have Tb:=fun W=>XC (b) (0) (63) true (decide_eq_true h3) W;have hbl:=Blk.new w 152 #[.int .i64 1,.int .i64 v,.int .i64 s,.int .i64 b,.int .i64 c,.int .i64 e,.int .i64 d,.slice A n m];have H1:=JB h1;clear h1;have H2:=JB h2;clear h2;have H3:=JB h3;obtain⟨hb0,hb1⟩:=h3;subst h4
 go_enter Tryz.func231,Tryz.ntmps231
 go_wp2_with (
  (refine(XH _ _ _ _ _ _ _ _ _ _ _).mono ?_)
  rintro r w2 ⟨rfl,hk2⟩;have hB2:=hbl.keep0 hk2;obtain⟨c0,c1,c2,c3,c4,c5,c6,c7⟩:=QC hB2;have hlt:=hB2.lt;clear hbl hB2)
 go_wp2_with (first
  | (refine(Tv _).mono ?_;clear Tv;rintro r w' ⟨rfl,rfl⟩)
  | (refine(Ts _).mono ?_;clear Ts;rintro r w' ⟨rfl,rfl⟩)
  | (refine(Tb _).mono ?_;clear Tb;rintro r w' ⟨rfl,rfl⟩))
 refine ZT (fun w'=>w'.cell? ⟨w.heap.size,3,none⟩=some (.int .i64 b)∧w'.cell? ⟨w.heap.size,7,none⟩=some (.slice A 64 m)) 6 [[0,1,2,3,4],[5]] ⟨((((Keep.refl [] w2).alloc _).cell hlt (by simp) _).trans c3),((((Keep.refl [] w2).alloc _).cell hlt (by simp) _).trans c7)⟩ ?_;simp only[PI]
 iterate 5 (refine ZH ?_;simp only[Act.put,PU])
 refine XB (by rfl) (fun K hK=>?_)
 go_wp2_with fail
 refine hK _ _ (⟨((((Keep.refl [] w2).alloc _).drew.cell hlt (by simp) _).trans c3),((((Keep.refl [] w2).alloc _).drew.cell hlt (by simp) _).trans c7)⟩) ?_;clear hK K
 try simp only[Act.put,PU]
 refine YB ?_
 go_wp2_with (first
  | fail)
 go_wp2_with (refine(hsm _ (by first | exact((((Keep.refl [] w).alloc _).trans0 hk2).alloc _).drew | exact(((Keep.refl [] w).alloc _).trans0 hk2).alloc _)).mono ?_;clear hsm;rintro r w3 ⟨rfl,hk4⟩)
 go_ret;have hl:xs.length=64:=by simpa using ha.1
 refine⟨YI ?_,by first | exact((((Keep.refl [] w).alloc _).trans0 hk2).alloc _).drew.trans0 hk4 | exact((((Keep.refl [] w).alloc _).trans0 hk2).alloc _).trans0 hk4⟩;rw[Bool.eq_iff_iff];simp[FrMay,XA H1,XA H2,XA H3,hl]
theorem VBI (v s b c e d:Int) (A:Option Addr) (n m:Nat) (xs:List UInt8) (w:World) (ha:Rd w A n (bys xs)) (h1:¬ (1≤v∧v≤2147483647)) :
 Calls Tryz.prog 231 #[frv 2 v s b c e d (.slice A n m)] w fun r w'=>r=.returned (.bool (decide (FrMay 2 v s b c e d xs)))∧Keep [] w w':=by
 have hno:decide (FrMay 2 v s b c e d xs)=false:=by
  have hl:xs.length=n:=by simpa using ha.1
  rw[decide_eq_false_iff_not];rintro⟨g1,g | g | g | g | g⟩ <;> omega
 rw[hno];clear hno;unfold frv;have Tv:=fun W=>XC (v) (1) (2147483647) false (decide_eq_false h1) W;obtain⟨bTs,hTs⟩:∃ x,decide (1≤s∧s≤2147483647)=x:=⟨_,rfl⟩;have Ts:=fun W=>XC (s) (1) (2147483647) bTs hTs W;have HTs:=JB hTs;clear hTs;obtain⟨bTb,hTb⟩:∃ x,decide (0≤b∧b≤63)=x:=⟨_,rfl⟩;have Tb:=fun W=>XC (b) (0) (63) bTb hTb W;have HTb:=JB hTb;clear hTb;have hbl:=Blk.new w 152 #[.int .i64 2,.int .i64 v,.int .i64 s,.int .i64 b,.int .i64 c,.int .i64 e,.int .i64 d,.slice A n m];have H1:=JB h1;clear h1
 go_enter Tryz.func231,Tryz.ntmps231
 go_wp2_with (
  (refine(XH _ _ _ _ _ _ _ _ _ _ _).mono ?_)
  rintro r w2 ⟨rfl,hk2⟩;have hB2:=hbl.keep0 hk2;obtain⟨c0,c1,c2,c3,c4,c5,c6,c7⟩:=QC hB2;have hlt:=hB2.lt;clear hbl hB2)
 go_wp2_with (first
  | (refine(Tv _).mono ?_;clear Tv;rintro r w' ⟨rfl,rfl⟩)
  | (refine(Ts _).mono ?_;clear Ts;rintro r w' ⟨rfl,rfl⟩)
  | (refine(Tb _).mono ?_;clear Tb;rintro r w' ⟨rfl,rfl⟩))
 refine ZT (fun w'=>w'.cell? ⟨w.heap.size,3,none⟩=some (.int .i64 b)∧w'.cell? ⟨w.heap.size,4,none⟩=some (.int .i64 c)) 6 [[0,1,2,3,4],[5]] ⟨((((Keep.refl [] w2).alloc _).cell hlt (by simp) _).trans c3),((((Keep.refl [] w2).alloc _).cell hlt (by simp) _).trans c4)⟩ ?_;simp only[PI]
 iterate 5 (refine ZH ?_;simp only[Act.put,PU])
 refine XB (by rfl) (fun K hK=>?_)
 go_wp2_with fail
 refine hK _ _ (⟨((((Keep.refl [] w2).alloc _).drew.cell hlt (by simp) _).trans c3),((((Keep.refl [] w2).alloc _).drew.cell hlt (by simp) _).trans c4)⟩) ?_;clear hK K
 try simp only[Act.put,PU]
 refine YB ?_
 go_wp2_with (first
  | fail)
 go_ret;exact⟨rfl,by first | exact((((Keep.refl [] w).alloc _).trans0 hk2).alloc _).drew | exact(((Keep.refl [] w).alloc _).trans0 hk2).alloc _⟩
theorem YBH (v s b c e d:Int) (A:Option Addr) (n m:Nat) (xs:List UInt8) (w:World) (ha:Rd w A n (bys xs)) (h1:1≤v∧v≤2147483647) (h2:¬ (1≤s∧s≤2147483647)) :
 Calls Tryz.prog 231 #[frv 2 v s b c e d (.slice A n m)] w fun r w'=>r=.returned (.bool (decide (FrMay 2 v s b c e d xs)))∧Keep [] w w':=by
 have hno:decide (FrMay 2 v s b c e d xs)=false:=by
  have hl:xs.length=n:=by simpa using ha.1
  rw[decide_eq_false_iff_not];rintro⟨g1,g | g | g | g | g⟩ <;> omega
 rw[hno];clear hno;unfold frv;have Tv:=fun W=>XC (v) (1) (2147483647) true (decide_eq_true h1) W;have Ts:=fun W=>XC (s) (1) (2147483647) false (decide_eq_false h2) W;obtain⟨bTb,hTb⟩:∃ x,decide (0≤b∧b≤63)=x:=⟨_,rfl⟩;have Tb:=fun W=>XC (b) (0) (63) bTb hTb W;have HTb:=JB hTb;clear hTb;have hbl:=Blk.new w 152 #[.int .i64 2,.int .i64 v,.int .i64 s,.int .i64 b,.int .i64 c,.int .i64 e,.int .i64 d,.slice A n m];have H1:=JB h1;clear h1;have H2:=JB h2;clear h2
 go_enter Tryz.func231,Tryz.ntmps231
 go_wp2_with (
  (refine(XH _ _ _ _ _ _ _ _ _ _ _).mono ?_)
  rintro r w2 ⟨rfl,hk2⟩;have hB2:=hbl.keep0 hk2;obtain⟨c0,c1,c2,c3,c4,c5,c6,c7⟩:=QC hB2;have hlt:=hB2.lt;clear hbl hB2)
 go_wp2_with (first
  | (refine(Tv _).mono ?_;clear Tv;rintro r w' ⟨rfl,rfl⟩)
  | (refine(Ts _).mono ?_;clear Ts;rintro r w' ⟨rfl,rfl⟩)
  | (refine(Tb _).mono ?_;clear Tb;rintro r w' ⟨rfl,rfl⟩))
 refine ZT (fun w'=>w'.cell? ⟨w.heap.size,3,none⟩=some (.int .i64 b)∧w'.cell? ⟨w.heap.size,4,none⟩=some (.int .i64 c)) 6 [[0,1,2,3,4],[5]] ⟨((((Keep.refl [] w2).alloc _).cell hlt (by simp) _).trans c3),((((Keep.refl [] w2).alloc _).cell hlt (by simp) _).trans c4)⟩ ?_;simp only[PI]
 iterate 5 (refine ZH ?_;simp only[Act.put,PU])
 refine XB (by rfl) (fun K hK=>?_)
 go_wp2_with fail
 refine hK _ _ (⟨((((Keep.refl [] w2).alloc _).drew.cell hlt (by simp) _).trans c3),((((Keep.refl [] w2).alloc _).drew.cell hlt (by simp) _).trans c4)⟩) ?_;clear hK K
 try simp only[Act.put,PU]
 refine YB ?_
 go_wp2_with (first
  | fail)
 go_ret;exact⟨rfl,by first | exact((((Keep.refl [] w).alloc _).trans0 hk2).alloc _).drew | exact(((Keep.refl [] w).alloc _).trans0 hk2).alloc _⟩
theorem XBN (v s b c e d:Int) (A:Option Addr) (n m:Nat) (xs:List UInt8) (w:World) (ha:Rd w A n (bys xs)) (h1:1≤v∧v≤2147483647) (h2:1≤s∧s≤2147483647) (h3:¬ (0≤b∧b≤63)) :
 Calls Tryz.prog 231 #[frv 2 v s b c e d (.slice A n m)] w fun r w'=>r=.returned (.bool (decide (FrMay 2 v s b c e d xs)))∧Keep [] w w':=by
 have hno:decide (FrMay 2 v s b c e d xs)=false:=by
  have hl:xs.length=n:=by simpa using ha.1
  rw[decide_eq_false_iff_not];rintro⟨g1,g | g | g | g | g⟩ <;> omega
 rw[hno];clear hno;unfold frv;have Tv:=fun W=>XC (v) (1) (2147483647) true (decide_eq_true h1) W;have Ts:=fun W=>XC (s) (1) (2147483647) true (decide_eq_true h2) W;have Tb:=fun W=>XC (b) (0) (63) false (decide_eq_false h3) W;have hbl:=Blk.new w 152 #[.int .i64 2,.int .i64 v,.int .i64 s,.int .i64 b,.int .i64 c,.int .i64 e,.int .i64 d,.slice A n m];have H1:=JB h1;clear h1;have H2:=JB h2;clear h2;have H3:=JB h3;clear h3
 go_enter Tryz.func231,Tryz.ntmps231
 go_wp2_with (
  (refine(XH _ _ _ _ _ _ _ _ _ _ _).mono ?_)
  rintro r w2 ⟨rfl,hk2⟩;have hB2:=hbl.keep0 hk2;obtain⟨c0,c1,c2,c3,c4,c5,c6,c7⟩:=QC hB2;have hlt:=hB2.lt;clear hbl hB2)
 go_wp2_with (first
  | (refine(Tv _).mono ?_;clear Tv;rintro r w' ⟨rfl,rfl⟩)
  | (refine(Ts _).mono ?_;clear Ts;rintro r w' ⟨rfl,rfl⟩)
  | (refine(Tb _).mono ?_;clear Tb;rintro r w' ⟨rfl,rfl⟩))
 refine ZT (fun w'=>w'.cell? ⟨w.heap.size,3,none⟩=some (.int .i64 b)∧w'.cell? ⟨w.heap.size,4,none⟩=some (.int .i64 c)) 6 [[0,1,2,3,4],[5]] ⟨((((Keep.refl [] w2).alloc _).cell hlt (by simp) _).trans c3),((((Keep.refl [] w2).alloc _).cell hlt (by simp) _).trans c4)⟩ ?_;simp only[PI]
 iterate 5 (refine ZH ?_;simp only[Act.put,PU])
 refine XB (by rfl) (fun K hK=>?_)
 go_wp2_with fail
 refine hK _ _ (⟨((((Keep.refl [] w2).alloc _).drew.cell hlt (by simp) _).trans c3),((((Keep.refl [] w2).alloc _).drew.cell hlt (by simp) _).trans c4)⟩) ?_;clear hK K
 try simp only[Act.put,PU]
 refine YB ?_
 go_wp2_with (first
  | fail)
 go_ret;exact⟨rfl,by first | exact((((Keep.refl [] w).alloc _).trans0 hk2).alloc _).drew | exact(((Keep.refl [] w).alloc _).trans0 hk2).alloc _⟩
theorem YBF (v s b c e d:Int) (A:Option Addr) (n m:Nat) (xs:List UInt8) (w:World) (ha:Rd w A n (bys xs)) (h1:1≤v∧v≤2147483647) (h2:1≤s∧s≤2147483647) (h3:0≤b∧b≤63) (h4:¬ (1≤c∧c≤64-b)) :
 Calls Tryz.prog 231 #[frv 2 v s b c e d (.slice A n m)] w fun r w'=>r=.returned (.bool (decide (FrMay 2 v s b c e d xs)))∧Keep [] w w':=by
 have hno:decide (FrMay 2 v s b c e d xs)=false:=by
  have hl:xs.length=n:=by simpa using ha.1
  rw[decide_eq_false_iff_not];rintro⟨g1,g | g | g | g | g⟩ <;> omega
 rw[hno];clear hno;unfold frv;have Tv:=fun W=>XC (v) (1) (2147483647) true (decide_eq_true h1) W;have Ts:=fun W=>XC (s) (1) (2147483647) true (decide_eq_true h2) W;have Tb:=fun W=>XC (b) (0) (63) true (decide_eq_true h3) W;have Tx3:=fun W=>XC (c) (1) (64-b) false (decide_eq_false h4) W;have hbl:=Blk.new w 152 #[.int .i64 2,.int .i64 v,.int .i64 s,.int .i64 b,.int .i64 c,.int .i64 e,.int .i64 d,.slice A n m];have H1:=JB h1;clear h1;have H2:=JB h2;clear h2;have H3:=JB h3;obtain⟨hb0,hb1⟩:=h3;have H4:=JB h4;clear h4
 go_enter Tryz.func231,Tryz.ntmps231
 go_wp2_with (
  (refine(XH _ _ _ _ _ _ _ _ _ _ _).mono ?_)
  rintro r w2 ⟨rfl,hk2⟩;have hB2:=hbl.keep0 hk2;obtain⟨c0,c1,c2,c3,c4,c5,c6,c7⟩:=QC hB2;have hlt:=hB2.lt;clear hbl hB2)
 go_wp2_with (first
  | (refine(Tv _).mono ?_;clear Tv;rintro r w' ⟨rfl,rfl⟩)
  | (refine(Ts _).mono ?_;clear Ts;rintro r w' ⟨rfl,rfl⟩)
  | (refine(Tb _).mono ?_;clear Tb;rintro r w' ⟨rfl,rfl⟩)
  | (refine(Tx3 _).mono ?_;clear Tx3;rintro r w' ⟨rfl,rfl⟩))
 refine ZT (fun w'=>w'.cell? ⟨w.heap.size,3,none⟩=some (.int .i64 b)∧w'.cell? ⟨w.heap.size,4,none⟩=some (.int .i64 c)) 6 [[0,1,2,3,4],[5]] ⟨((((Keep.refl [] w2).alloc _).cell hlt (by simp) _).trans c3),((((Keep.refl [] w2).alloc _).cell hlt (by simp) _).trans c4)⟩ ?_;simp only[PI]
 iterate 5 (refine ZH ?_;simp only[Act.put,PU])
 refine XB (by rfl) (fun K hK=>?_)
 go_wp2_with fail
 refine hK _ _ (⟨((((Keep.refl [] w2).alloc _).drew.cell hlt (by simp) _).trans c3),((((Keep.refl [] w2).alloc _).drew.cell hlt (by simp) _).trans c4)⟩) ?_;clear hK K
 try simp only[Act.put,PU]
 refine YB ?_
 go_wp2_with (first
  | (refine(Tx3 _).mono ?_;clear Tx3;rintro r w' ⟨rfl,rfl⟩)
  | fail)
 go_ret;exact⟨rfl,by first | exact((((Keep.refl [] w).alloc _).trans0 hk2).alloc _).drew | exact(((Keep.refl [] w).alloc _).trans0 hk2).alloc _⟩
theorem KBP (v s b c e d:Int) (A:Option Addr) (n m:Nat) (xs:List UInt8) (w:World) (ha:Rd w A n (bys xs)) (h1:1≤v∧v≤2147483647) (h2:1≤s∧s≤2147483647) (h3:0≤b∧b≤63) (h4:1≤c∧c≤64-b) :
 Calls Tryz.prog 231 #[frv 2 v s b c e d (.slice A n m)] w fun r w'=>r=.returned (.bool (decide (FrMay 2 v s b c e d xs)))∧Keep [] w w':=by
 unfold frv;have hsm:=fun W (hk:Keep [] w W)=>Jq 2 v s b c e d 2 v s b c 0 0 A none n m 0 0 xs [] W (ha.keep hk) (Rd.nil _ _);unfold frv at hsm;have Tv:=fun W=>XC (v) (1) (2147483647) true (decide_eq_true h1) W;have Ts:=fun W=>XC (s) (1) (2147483647) true (decide_eq_true h2) W;have Tb:=fun W=>XC (b) (0) (63) true (decide_eq_true h3) W;have Tx3:=fun W=>XC (c) (1) (64-b) true (decide_eq_true h4) W;have hbl:=Blk.new w 152 #[.int .i64 2,.int .i64 v,.int .i64 s,.int .i64 b,.int .i64 c,.int .i64 e,.int .i64 d,.slice A n m];have H1:=JB h1;clear h1;have H2:=JB h2;clear h2;have H3:=JB h3;obtain⟨hb0,hb1⟩:=h3;have H4:=JB h4;clear h4
 go_enter Tryz.func231,Tryz.ntmps231
 go_wp2_with (
  (refine(XH _ _ _ _ _ _ _ _ _ _ _).mono ?_)
  rintro r w2 ⟨rfl,hk2⟩;have hB2:=hbl.keep0 hk2;obtain⟨c0,c1,c2,c3,c4,c5,c6,c7⟩:=QC hB2;have hlt:=hB2.lt;clear hbl hB2)
 go_wp2_with (first
  | (refine(Tv _).mono ?_;clear Tv;rintro r w' ⟨rfl,rfl⟩)
  | (refine(Ts _).mono ?_;clear Ts;rintro r w' ⟨rfl,rfl⟩)
  | (refine(Tb _).mono ?_;clear Tb;rintro r w' ⟨rfl,rfl⟩)
  | (refine(Tx3 _).mono ?_;clear Tx3;rintro r w' ⟨rfl,rfl⟩))
 refine ZT (fun w'=>w'.cell? ⟨w.heap.size,3,none⟩=some (.int .i64 b)∧w'.cell? ⟨w.heap.size,4,none⟩=some (.int .i64 c)) 6 [[0,1,2,3,4],[5]] ⟨((((Keep.refl [] w2).alloc _).cell hlt (by simp) _).trans c3),((((Keep.refl [] w2).alloc _).cell hlt (by simp) _).trans c4)⟩ ?_;simp only[PI]
 iterate 5 (refine ZH ?_;simp only[Act.put,PU])
 refine XB (by rfl) (fun K hK=>?_)
 go_wp2_with fail
 refine hK _ _ (⟨((((Keep.refl [] w2).alloc _).drew.cell hlt (by simp) _).trans c3),((((Keep.refl [] w2).alloc _).drew.cell hlt (by simp) _).trans c4)⟩) ?_;clear hK K
 try simp only[Act.put,PU]
 refine YB ?_
 go_wp2_with (first
  | (refine(Tx3 _).mono ?_;clear Tx3;rintro r w' ⟨rfl,rfl⟩)
  | fail)
 go_wp2_with (refine(hsm _ (by first | exact((((Keep.refl [] w).alloc _).trans0 hk2).alloc _).drew | exact(((Keep.refl [] w).alloc _).trans0 hk2).alloc _)).mono ?_;clear hsm;rintro r w3 ⟨rfl,hk4⟩)
 go_ret;have hl:xs.length=n:=by simpa using ha.1
 refine⟨YI ?_,by first | exact((((Keep.refl [] w).alloc _).trans0 hk2).alloc _).drew.trans0 hk4 | exact((((Keep.refl [] w).alloc _).trans0 hk2).alloc _).trans0 hk4⟩;rw[Bool.eq_iff_iff];simp[FrMay,XA H1,XA H2,XA H3,XA H4]
theorem JBJ (v s b c e d:Int) (A:Option Addr) (n m:Nat) (xs:List UInt8) (w:World) (ha:Rd w A n (bys xs)) (h1:¬ (1≤v∧v≤2147483647)) :
 Calls Tryz.prog 231 #[frv 3 v s b c e d (.slice A n m)] w fun r w'=>r=.returned (.bool (decide (FrMay 3 v s b c e d xs)))∧Keep [] w w':=by
 have hno:decide (FrMay 3 v s b c e d xs)=false:=by
  have hl:xs.length=n:=by simpa using ha.1
  rw[decide_eq_false_iff_not];rintro⟨g1,g | g | g | g | g⟩ <;> omega
 rw[hno];clear hno;unfold frv;have Tv:=fun W=>XC (v) (1) (2147483647) false (decide_eq_false h1) W;obtain⟨bTs,hTs⟩:∃ x,decide (1≤s∧s≤2147483647)=x:=⟨_,rfl⟩;have Ts:=fun W=>XC (s) (1) (2147483647) bTs hTs W;have HTs:=JB hTs;clear hTs;obtain⟨bTb,hTb⟩:∃ x,decide (0≤b∧b≤63)=x:=⟨_,rfl⟩;have Tb:=fun W=>XC (b) (0) (63) bTb hTb W;have HTb:=JB hTb;clear hTb;have hbl:=Blk.new w 152 #[.int .i64 3,.int .i64 v,.int .i64 s,.int .i64 b,.int .i64 c,.int .i64 e,.int .i64 d,.slice A n m];have H1:=JB h1;clear h1
 go_enter Tryz.func231,Tryz.ntmps231
 go_wp2_with (
  (refine(XH _ _ _ _ _ _ _ _ _ _ _).mono ?_)
  rintro r w2 ⟨rfl,hk2⟩;have hB2:=hbl.keep0 hk2;obtain⟨c0,c1,c2,c3,c4,c5,c6,c7⟩:=QC hB2;have hlt:=hB2.lt;clear hbl hB2)
 go_wp2_with (first
  | (refine(Tv _).mono ?_;clear Tv;rintro r w' ⟨rfl,rfl⟩)
  | (refine(Ts _).mono ?_;clear Ts;rintro r w' ⟨rfl,rfl⟩)
  | (refine(Tb _).mono ?_;clear Tb;rintro r w' ⟨rfl,rfl⟩))
 go_ret;exact⟨rfl,by first | exact((((Keep.refl [] w).alloc _).trans0 hk2).alloc _).drew | exact(((Keep.refl [] w).alloc _).trans0 hk2).alloc _⟩
theorem QBN (v s b c e d:Int) (A:Option Addr) (n m:Nat) (xs:List UInt8) (w:World) (ha:Rd w A n (bys xs)) (h1:1≤v∧v≤2147483647) (h2:¬ (1≤s∧s≤2147483647)) :
 Calls Tryz.prog 231 #[frv 3 v s b c e d (.slice A n m)] w fun r w'=>r=.returned (.bool (decide (FrMay 3 v s b c e d xs)))∧Keep [] w w':=by
 have hno:decide (FrMay 3 v s b c e d xs)=false:=by
  have hl:xs.length=n:=by simpa using ha.1
  rw[decide_eq_false_iff_not];rintro⟨g1,g | g | g | g | g⟩ <;> omega
 rw[hno];clear hno;unfold frv;have Tv:=fun W=>XC (v) (1) (2147483647) true (decide_eq_true h1) W;have Ts:=fun W=>XC (s) (1) (2147483647) false (decide_eq_false h2) W;obtain⟨bTb,hTb⟩:∃ x,decide (0≤b∧b≤63)=x:=⟨_,rfl⟩;have Tb:=fun W=>XC (b) (0) (63) bTb hTb W;have HTb:=JB hTb;clear hTb;have hbl:=Blk.new w 152 #[.int .i64 3,.int .i64 v,.int .i64 s,.int .i64 b,.int .i64 c,.int .i64 e,.int .i64 d,.slice A n m];have H1:=JB h1;clear h1;have H2:=JB h2;clear h2
 go_enter Tryz.func231,Tryz.ntmps231
 go_wp2_with (
  (refine(XH _ _ _ _ _ _ _ _ _ _ _).mono ?_)
  rintro r w2 ⟨rfl,hk2⟩;have hB2:=hbl.keep0 hk2;obtain⟨c0,c1,c2,c3,c4,c5,c6,c7⟩:=QC hB2;have hlt:=hB2.lt;clear hbl hB2)
 go_wp2_with (first
  | (refine(Tv _).mono ?_;clear Tv;rintro r w' ⟨rfl,rfl⟩)
  | (refine(Ts _).mono ?_;clear Ts;rintro r w' ⟨rfl,rfl⟩)
  | (refine(Tb _).mono ?_;clear Tb;rintro r w' ⟨rfl,rfl⟩))
 go_ret;exact⟨rfl,by first | exact((((Keep.refl [] w).alloc _).trans0 hk2).alloc _).drew | exact(((Keep.refl [] w).alloc _).trans0 hk2).alloc _⟩
theorem VBP (v s b c e d:Int) (A:Option Addr) (n m:Nat) (xs:List UInt8) (w:World) (ha:Rd w A n (bys xs)) (h1:1≤v∧v≤2147483647) (h2:1≤s∧s≤2147483647) (h3:¬ (1≤e∧e≤2147483647)) :
 Calls Tryz.prog 231 #[frv 3 v s b c e d (.slice A n m)] w fun r w'=>r=.returned (.bool (decide (FrMay 3 v s b c e d xs)))∧Keep [] w w':=by
 have hno:decide (FrMay 3 v s b c e d xs)=false:=by
  have hl:xs.length=n:=by simpa using ha.1
  rw[decide_eq_false_iff_not];rintro⟨g1,g | g | g | g | g⟩ <;> omega
 rw[hno];clear hno;unfold frv;have Tv:=fun W=>XC (v) (1) (2147483647) true (decide_eq_true h1) W;have Ts:=fun W=>XC (s) (1) (2147483647) true (decide_eq_true h2) W;obtain⟨bTb,hTb⟩:∃ x,decide (0≤b∧b≤63)=x:=⟨_,rfl⟩;have Tb:=fun W=>XC (b) (0) (63) bTb hTb W;have HTb:=JB hTb;clear hTb;have Tx2:=fun W=>XC (e) (1) (2147483647) false (decide_eq_false h3) W;have hbl:=Blk.new w 152 #[.int .i64 3,.int .i64 v,.int .i64 s,.int .i64 b,.int .i64 c,.int .i64 e,.int .i64 d,.slice A n m];have H1:=JB h1;clear h1;have H2:=JB h2;clear h2;have H3:=JB h3;clear h3
 go_enter Tryz.func231,Tryz.ntmps231
 go_wp2_with (
  (refine(XH _ _ _ _ _ _ _ _ _ _ _).mono ?_)
  rintro r w2 ⟨rfl,hk2⟩;have hB2:=hbl.keep0 hk2;obtain⟨c0,c1,c2,c3,c4,c5,c6,c7⟩:=QC hB2;have hlt:=hB2.lt;clear hbl hB2)
 go_wp2_with (first
  | (refine(Tv _).mono ?_;clear Tv;rintro r w' ⟨rfl,rfl⟩)
  | (refine(Ts _).mono ?_;clear Ts;rintro r w' ⟨rfl,rfl⟩)
  | (refine(Tb _).mono ?_;clear Tb;rintro r w' ⟨rfl,rfl⟩)
  | (refine(Tx2 _).mono ?_;clear Tx2;rintro r w' ⟨rfl,rfl⟩))
 go_ret;exact⟨rfl,by first | exact((((Keep.refl [] w).alloc _).trans0 hk2).alloc _).drew | exact(((Keep.refl [] w).alloc _).trans0 hk2).alloc _⟩
theorem VBF (v s b c e d:Int) (A:Option Addr) (n m:Nat) (xs:List UInt8) (w:World) (ha:Rd w A n (bys xs)) (h1:1≤v∧v≤2147483647) (h2:1≤s∧s≤2147483647) (h3:1≤e∧e≤2147483647) :
 Calls Tryz.prog 231 #[frv 3 v s b c e d (.slice A n m)] w fun r w'=>r=.returned (.bool (decide (FrMay 3 v s b c e d xs)))∧Keep [] w w':=by
 unfold frv;have hsm:=fun W (hk:Keep [] w W)=>Jq 3 v s b c e d 3 v s 0 0 e 0 A none n m 0 0 xs [] W (ha.keep hk) (Rd.nil _ _);unfold frv at hsm;have Tv:=fun W=>XC (v) (1) (2147483647) true (decide_eq_true h1) W;have Ts:=fun W=>XC (s) (1) (2147483647) true (decide_eq_true h2) W;obtain⟨bTb,hTb⟩:∃ x,decide (0≤b∧b≤63)=x:=⟨_,rfl⟩;have Tb:=fun W=>XC (b) (0) (63) bTb hTb W;have HTb:=JB hTb;clear hTb;have Tx2:=fun W=>XC (e) (1) (2147483647) true (decide_eq_true h3) W;have hbl:=Blk.new w 152 #[.int .i64 3,.int .i64 v,.int .i64 s,.int .i64 b,.int .i64 c,.int .i64 e,.int .i64 d,.slice A n m];have H1:=JB h1;clear h1;have H2:=JB h2;clear h2;have H3:=JB h3;clear h3
 go_enter Tryz.func231,Tryz.ntmps231
 go_wp2_with (
  (refine(XH _ _ _ _ _ _ _ _ _ _ _).mono ?_)
  rintro r w2 ⟨rfl,hk2⟩;have hB2:=hbl.keep0 hk2;obtain⟨c0,c1,c2,c3,c4,c5,c6,c7⟩:=QC hB2;have hlt:=hB2.lt;clear hbl hB2)
 go_wp2_with (first
  | (refine(Tv _).mono ?_;clear Tv;rintro r w' ⟨rfl,rfl⟩)
  | (refine(Ts _).mono ?_;clear Ts;rintro r w' ⟨rfl,rfl⟩)
  | (refine(Tb _).mono ?_;clear Tb;rintro r w' ⟨rfl,rfl⟩)
  | (refine(Tx2 _).mono ?_;clear Tx2;rintro r w' ⟨rfl,rfl⟩))
 go_wp2_with (refine(hsm _ (by first | exact((((Keep.refl [] w).alloc _).trans0 hk2).alloc _).drew | exact(((Keep.refl [] w).alloc _).trans0 hk2).alloc _)).mono ?_;clear hsm;rintro r w3 ⟨rfl,hk4⟩)
 go_ret;have hl:xs.length=n:=by simpa using ha.1
 refine⟨YI ?_,by first | exact((((Keep.refl [] w).alloc _).trans0 hk2).alloc _).drew.trans0 hk4 | exact((((Keep.refl [] w).alloc _).trans0 hk2).alloc _).trans0 hk4⟩;rw[Bool.eq_iff_iff];simp[FrMay,XA H1,XA H2,XA H3]
theorem YBO (v s b c e d:Int) (A:Option Addr) (n m:Nat) (xs:List UInt8) (w:World) (ha:Rd w A n (bys xs)) (h1:¬ (1≤v∧v≤2147483647)) :
 Calls Tryz.prog 231 #[frv 8 v s b c e d (.slice A n m)] w fun r w'=>r=.returned (.bool (decide (FrMay 8 v s b c e d xs)))∧Keep [] w w':=by
 have hno:decide (FrMay 8 v s b c e d xs)=false:=by
  have hl:xs.length=n:=by simpa using ha.1
  rw[decide_eq_false_iff_not];rintro⟨g1,g | g | g | g | g⟩ <;> omega
 rw[hno];clear hno;unfold frv;have Tv:=fun W=>XC (v) (1) (2147483647) false (decide_eq_false h1) W;obtain⟨bTs,hTs⟩:∃ x,decide (1≤s∧s≤2147483647)=x:=⟨_,rfl⟩;have Ts:=fun W=>XC (s) (1) (2147483647) bTs hTs W;have HTs:=JB hTs;clear hTs;obtain⟨bTb,hTb⟩:∃ x,decide (0≤b∧b≤63)=x:=⟨_,rfl⟩;have Tb:=fun W=>XC (b) (0) (63) bTb hTb W;have HTb:=JB hTb;clear hTb;have hbl:=Blk.new w 152 #[.int .i64 8,.int .i64 v,.int .i64 s,.int .i64 b,.int .i64 c,.int .i64 e,.int .i64 d,.slice A n m];have H1:=JB h1;clear h1
 go_enter Tryz.func231,Tryz.ntmps231
 go_wp2_with (
  (refine(XH _ _ _ _ _ _ _ _ _ _ _).mono ?_)
  rintro r w2 ⟨rfl,hk2⟩;have hB2:=hbl.keep0 hk2;obtain⟨c0,c1,c2,c3,c4,c5,c6,c7⟩:=QC hB2;have hlt:=hB2.lt;clear hbl hB2)
 go_wp2_with (first
  | (refine(Tv _).mono ?_;clear Tv;rintro r w' ⟨rfl,rfl⟩)
  | (refine(Ts _).mono ?_;clear Ts;rintro r w' ⟨rfl,rfl⟩)
  | (refine(Tb _).mono ?_;clear Tb;rintro r w' ⟨rfl,rfl⟩))
 refine ZT (fun w'=>w'.cell? ⟨w.heap.size,5,none⟩=some (.int .i64 e)∧w'.cell? ⟨w.heap.size,6,none⟩=some (.int .i64 d)) 6 [[0,1,2,3,4],[5]] ⟨((((Keep.refl [] w2).alloc _).cell hlt (by simp) _).trans c5),((((Keep.refl [] w2).alloc _).cell hlt (by simp) _).trans c6)⟩ ?_;simp only[PI]
 iterate 5 (refine ZH ?_;simp only[Act.put,PU])
 refine XB (by rfl) (fun K hK=>?_)
 go_wp2_with fail
 refine hK _ _ (⟨((((Keep.refl [] w2).alloc _).drew.cell hlt (by simp) _).trans c5),((((Keep.refl [] w2).alloc _).drew.cell hlt (by simp) _).trans c6)⟩) ?_;clear hK K
 try simp only[Act.put,PU]
 refine YB ?_
 go_wp2_with (first
  | fail)
 go_ret;exact⟨rfl,by first | exact((((Keep.refl [] w).alloc _).trans0 hk2).alloc _).drew | exact(((Keep.refl [] w).alloc _).trans0 hk2).alloc _⟩
theorem XBI (v s b c e d:Int) (A:Option Addr) (n m:Nat) (xs:List UInt8) (w:World) (ha:Rd w A n (bys xs)) (h1:1≤v∧v≤2147483647) (h2:¬ (0≤s∧s≤2147483647)) :
 Calls Tryz.prog 231 #[frv 8 v s b c e d (.slice A n m)] w fun r w'=>r=.returned (.bool (decide (FrMay 8 v s b c e d xs)))∧Keep [] w w':=by
 have hno:decide (FrMay 8 v s b c e d xs)=false:=by
  have hl:xs.length=n:=by simpa using ha.1
  rw[decide_eq_false_iff_not];rintro⟨g1,g | g | g | g | g⟩ <;> omega
 rw[hno];clear hno;unfold frv;have Tv:=fun W=>XC (v) (1) (2147483647) true (decide_eq_true h1) W;obtain⟨bTs,hTs⟩:∃ x,decide (1≤s∧s≤2147483647)=x:=⟨_,rfl⟩;have Ts:=fun W=>XC (s) (1) (2147483647) bTs hTs W;have HTs:=JB hTs;clear hTs;obtain⟨bTb,hTb⟩:∃ x,decide (0≤b∧b≤63)=x:=⟨_,rfl⟩;have Tb:=fun W=>XC (b) (0) (63) bTb hTb W;have HTb:=JB hTb;clear hTb;have Tx1:=fun W=>XC (s) (0) (2147483647) false (decide_eq_false h2) W;have hbl:=Blk.new w 152 #[.int .i64 8,.int .i64 v,.int .i64 s,.int .i64 b,.int .i64 c,.int .i64 e,.int .i64 d,.slice A n m];have H1:=JB h1;clear h1;have H2:=JB h2;clear h2
 go_enter Tryz.func231,Tryz.ntmps231
 go_wp2_with (
  (refine(XH _ _ _ _ _ _ _ _ _ _ _).mono ?_)
  rintro r w2 ⟨rfl,hk2⟩;have hB2:=hbl.keep0 hk2;obtain⟨c0,c1,c2,c3,c4,c5,c6,c7⟩:=QC hB2;have hlt:=hB2.lt;clear hbl hB2)
 go_wp2_with (first
  | (refine(Tv _).mono ?_;clear Tv;rintro r w' ⟨rfl,rfl⟩)
  | (refine(Ts _).mono ?_;clear Ts;rintro r w' ⟨rfl,rfl⟩)
  | (refine(Tb _).mono ?_;clear Tb;rintro r w' ⟨rfl,rfl⟩)
  | (refine(Tx1 _).mono ?_;clear Tx1;rintro r w' ⟨rfl,rfl⟩))
 refine ZT (fun w'=>w'.cell? ⟨w.heap.size,5,none⟩=some (.int .i64 e)∧w'.cell? ⟨w.heap.size,6,none⟩=some (.int .i64 d)) 6 [[0,1,2,3,4],[5]] ⟨((((Keep.refl [] w2).alloc _).cell hlt (by simp) _).trans c5),((((Keep.refl [] w2).alloc _).cell hlt (by simp) _).trans c6)⟩ ?_;simp only[PI]
 iterate 5 (refine ZH ?_;simp only[Act.put,PU])
 refine XB (by rfl) (fun K hK=>?_)
 go_wp2_with fail
 refine hK _ _ (⟨((((Keep.refl [] w2).alloc _).drew.cell hlt (by simp) _).trans c5),((((Keep.refl [] w2).alloc _).drew.cell hlt (by simp) _).trans c6)⟩) ?_;clear hK K
 try simp only[Act.put,PU]
 refine YB ?_
 go_wp2_with (first
  | (refine(Tx1 _).mono ?_;clear Tx1;rintro r w' ⟨rfl,rfl⟩)
  | fail)
 go_ret;exact⟨rfl,by first | exact((((Keep.refl [] w).alloc _).trans0 hk2).alloc _).drew | exact(((Keep.refl [] w).alloc _).trans0 hk2).alloc _⟩
theorem QBP (v s b c e d:Int) (A:Option Addr) (n m:Nat) (xs:List UInt8) (w:World) (ha:Rd w A n (bys xs)) (h1:1≤v∧v≤2147483647) (h2:0≤s∧s≤2147483647) (h3:¬ (0≤e∧e≤2147483647)) :
 Calls Tryz.prog 231 #[frv 8 v s b c e d (.slice A n m)] w fun r w'=>r=.returned (.bool (decide (FrMay 8 v s b c e d xs)))∧Keep [] w w':=by
 have hno:decide (FrMay 8 v s b c e d xs)=false:=by
  have hl:xs.length=n:=by simpa using ha.1
  rw[decide_eq_false_iff_not];rintro⟨g1,g | g | g | g | g⟩ <;> omega
 rw[hno];clear hno;unfold frv;have Tv:=fun W=>XC (v) (1) (2147483647) true (decide_eq_true h1) W;obtain⟨bTs,hTs⟩:∃ x,decide (1≤s∧s≤2147483647)=x:=⟨_,rfl⟩;have Ts:=fun W=>XC (s) (1) (2147483647) bTs hTs W;have HTs:=JB hTs;clear hTs;obtain⟨bTb,hTb⟩:∃ x,decide (0≤b∧b≤63)=x:=⟨_,rfl⟩;have Tb:=fun W=>XC (b) (0) (63) bTb hTb W;have HTb:=JB hTb;clear hTb;have Tx1:=fun W=>XC (s) (0) (2147483647) true (decide_eq_true h2) W;have Tx2:=fun W=>XC (e) (0) (2147483647) false (decide_eq_false h3) W;have hbl:=Blk.new w 152 #[.int .i64 8,.int .i64 v,.int .i64 s,.int .i64 b,.int .i64 c,.int .i64 e,.int .i64 d,.slice A n m];have H1:=JB h1;clear h1;have H2:=JB h2;clear h2;have H3:=JB h3;clear h3
 go_enter Tryz.func231,Tryz.ntmps231
 go_wp2_with (
  (refine(XH _ _ _ _ _ _ _ _ _ _ _).mono ?_)
  rintro r w2 ⟨rfl,hk2⟩;have hB2:=hbl.keep0 hk2;obtain⟨c0,c1,c2,c3,c4,c5,c6,c7⟩:=QC hB2;have hlt:=hB2.lt;clear hbl hB2)
 go_wp2_with (first
  | (refine(Tv _).mono ?_;clear Tv;rintro r w' ⟨rfl,rfl⟩)
  | (refine(Ts _).mono ?_;clear Ts;rintro r w' ⟨rfl,rfl⟩)
  | (refine(Tb _).mono ?_;clear Tb;rintro r w' ⟨rfl,rfl⟩)
  | (refine(Tx1 _).mono ?_;clear Tx1;rintro r w' ⟨rfl,rfl⟩)
  | (refine(Tx2 _).mono ?_;clear Tx2;rintro r w' ⟨rfl,rfl⟩))
 refine ZT (fun w'=>w'.cell? ⟨w.heap.size,5,none⟩=some (.int .i64 e)∧w'.cell? ⟨w.heap.size,6,none⟩=some (.int .i64 d)) 6 [[0,1,2,3,4],[5]] ⟨((((Keep.refl [] w2).alloc _).cell hlt (by simp) _).trans c5),((((Keep.refl [] w2).alloc _).cell hlt (by simp) _).trans c6)⟩ ?_;simp only[PI]
 iterate 5 (refine ZH ?_;simp only[Act.put,PU])
 refine XB (by rfl) (fun K hK=>?_)
 go_wp2_with fail
 refine hK _ _ (⟨((((Keep.refl [] w2).alloc _).drew.cell hlt (by simp) _).trans c5),((((Keep.refl [] w2).alloc _).drew.cell hlt (by simp) _).trans c6)⟩) ?_;clear hK K
 try simp only[Act.put,PU]
 refine YB ?_
 go_wp2_with (first
  | (refine(Tx1 _).mono ?_;clear Tx1;rintro r w' ⟨rfl,rfl⟩)
  | (refine(Tx2 _).mono ?_;clear Tx2;rintro r w' ⟨rfl,rfl⟩)
  | fail)
 go_ret;exact⟨rfl,by first | exact((((Keep.refl [] w).alloc _).trans0 hk2).alloc _).drew | exact(((Keep.refl [] w).alloc _).trans0 hk2).alloc _⟩
theorem KBF (v s b c e d:Int) (A:Option Addr) (n m:Nat) (xs:List UInt8) (w:World) (ha:Rd w A n (bys xs)) (h1:1≤v∧v≤2147483647) (h2:0≤s∧s≤2147483647) (h3:0≤e∧e≤2147483647) (h4:¬ (0≤d∧d≤s)) :
 Calls Tryz.prog 231 #[frv 8 v s b c e d (.slice A n m)] w fun r w'=>r=.returned (.bool (decide (FrMay 8 v s b c e d xs)))∧Keep [] w w':=by
 have hno:decide (FrMay 8 v s b c e d xs)=false:=by
  have hl:xs.length=n:=by simpa using ha.1
  rw[decide_eq_false_iff_not];rintro⟨g1,g | g | g | g | g⟩ <;> omega
 rw[hno];clear hno;unfold frv;have Tv:=fun W=>XC (v) (1) (2147483647) true (decide_eq_true h1) W;obtain⟨bTs,hTs⟩:∃ x,decide (1≤s∧s≤2147483647)=x:=⟨_,rfl⟩;have Ts:=fun W=>XC (s) (1) (2147483647) bTs hTs W;have HTs:=JB hTs;clear hTs;obtain⟨bTb,hTb⟩:∃ x,decide (0≤b∧b≤63)=x:=⟨_,rfl⟩;have Tb:=fun W=>XC (b) (0) (63) bTb hTb W;have HTb:=JB hTb;clear hTb;have Tx1:=fun W=>XC (s) (0) (2147483647) true (decide_eq_true h2) W;have Tx2:=fun W=>XC (e) (0) (2147483647) true (decide_eq_true h3) W;have Tx3:=fun W=>XC (d) (0) (s) false (decide_eq_false h4) W;have hbl:=Blk.new w 152 #[.int .i64 8,.int .i64 v,.int .i64 s,.int .i64 b,.int .i64 c,.int .i64 e,.int .i64 d,.slice A n m];have H1:=JB h1;clear h1;have H2:=JB h2;clear h2;have H3:=JB h3;clear h3;have H4:=JB h4;clear h4
 go_enter Tryz.func231,Tryz.ntmps231
 go_wp2_with (
  (refine(XH _ _ _ _ _ _ _ _ _ _ _).mono ?_)
  rintro r w2 ⟨rfl,hk2⟩;have hB2:=hbl.keep0 hk2;obtain⟨c0,c1,c2,c3,c4,c5,c6,c7⟩:=QC hB2;have hlt:=hB2.lt;clear hbl hB2)
 go_wp2_with (first
  | (refine(Tv _).mono ?_;clear Tv;rintro r w' ⟨rfl,rfl⟩)
  | (refine(Ts _).mono ?_;clear Ts;rintro r w' ⟨rfl,rfl⟩)
  | (refine(Tb _).mono ?_;clear Tb;rintro r w' ⟨rfl,rfl⟩)
  | (refine(Tx1 _).mono ?_;clear Tx1;rintro r w' ⟨rfl,rfl⟩)
  | (refine(Tx2 _).mono ?_;clear Tx2;rintro r w' ⟨rfl,rfl⟩)
  | (refine(Tx3 _).mono ?_;clear Tx3;rintro r w' ⟨rfl,rfl⟩))
 refine ZT (fun w'=>w'.cell? ⟨w.heap.size,5,none⟩=some (.int .i64 e)∧w'.cell? ⟨w.heap.size,6,none⟩=some (.int .i64 d)) 6 [[0,1,2,3,4],[5]] ⟨((((Keep.refl [] w2).alloc _).cell hlt (by simp) _).trans c5),((((Keep.refl [] w2).alloc _).cell hlt (by simp) _).trans c6)⟩ ?_;simp only[PI]
 iterate 5 (refine ZH ?_;simp only[Act.put,PU])
 refine XB (by rfl) (fun K hK=>?_)
 go_wp2_with fail
 refine hK _ _ (⟨((((Keep.refl [] w2).alloc _).drew.cell hlt (by simp) _).trans c5),((((Keep.refl [] w2).alloc _).drew.cell hlt (by simp) _).trans c6)⟩) ?_;clear hK K
 try simp only[Act.put,PU]
 refine YB ?_
 go_wp2_with (first
  | (refine(Tx1 _).mono ?_;clear Tx1;rintro r w' ⟨rfl,rfl⟩)
  | (refine(Tx2 _).mono ?_;clear Tx2;rintro r w' ⟨rfl,rfl⟩)
  | (refine(Tx3 _).mono ?_;clear Tx3;rintro r w' ⟨rfl,rfl⟩)
  | fail)
 go_ret;exact⟨rfl,by first | exact((((Keep.refl [] w).alloc _).trans0 hk2).alloc _).drew | exact(((Keep.refl [] w).alloc _).trans0 hk2).alloc _⟩
theorem ZBI (v s b c e d:Int) (A:Option Addr) (n m:Nat) (xs:List UInt8) (w:World) (ha:Rd w A n (bys xs)) (h1:1≤v∧v≤2147483647) (h2:0≤s∧s≤2147483647) (h3:0≤e∧e≤2147483647) (h4:0≤d∧d≤s) :
 Calls Tryz.prog 231 #[frv 8 v s b c e d (.slice A n m)] w fun r w'=>r=.returned (.bool (decide (FrMay 8 v s b c e d xs)))∧Keep [] w w':=by
 unfold frv;have hsm:=fun W (hk:Keep [] w W)=>Jq 8 v s b c e d 8 v s 0 0 e d A none n m 0 0 xs [] W (ha.keep hk) (Rd.nil _ _);unfold frv at hsm;have Tv:=fun W=>XC (v) (1) (2147483647) true (decide_eq_true h1) W;obtain⟨bTs,hTs⟩:∃ x,decide (1≤s∧s≤2147483647)=x:=⟨_,rfl⟩;have Ts:=fun W=>XC (s) (1) (2147483647) bTs hTs W;have HTs:=JB hTs;clear hTs;obtain⟨bTb,hTb⟩:∃ x,decide (0≤b∧b≤63)=x:=⟨_,rfl⟩;have Tb:=fun W=>XC (b) (0) (63) bTb hTb W;have HTb:=JB hTb;clear hTb;have Tx1:=fun W=>XC (s) (0) (2147483647) true (decide_eq_true h2) W;have Tx2:=fun W=>XC (e) (0) (2147483647) true (decide_eq_true h3) W;have Tx3:=fun W=>XC (d) (0) (s) true (decide_eq_true h4) W;have hbl:=Blk.new w 152 #[.int .i64 8,.int .i64 v,.int .i64 s,.int .i64 b,.int .i64 c,.int .i64 e,.int .i64 d,.slice A n m];have H1:=JB h1;clear h1;have H2:=JB h2;clear h2;have H3:=JB h3;clear h3;have H4:=JB h4;clear h4
 go_enter Tryz.func231,Tryz.ntmps231
 go_wp2_with (
  (refine(XH _ _ _ _ _ _ _ _ _ _ _).mono ?_)
  rintro r w2 ⟨rfl,hk2⟩;have hB2:=hbl.keep0 hk2;obtain⟨c0,c1,c2,c3,c4,c5,c6,c7⟩:=QC hB2;have hlt:=hB2.lt;clear hbl hB2)
 go_wp2_with (first
  | (refine(Tv _).mono ?_;clear Tv;rintro r w' ⟨rfl,rfl⟩)
  | (refine(Ts _).mono ?_;clear Ts;rintro r w' ⟨rfl,rfl⟩)
  | (refine(Tb _).mono ?_;clear Tb;rintro r w' ⟨rfl,rfl⟩)
  | (refine(Tx1 _).mono ?_;clear Tx1;rintro r w' ⟨rfl,rfl⟩)
  | (refine(Tx2 _).mono ?_;clear Tx2;rintro r w' ⟨rfl,rfl⟩)
  | (refine(Tx3 _).mono ?_;clear Tx3;rintro r w' ⟨rfl,rfl⟩))
 refine ZT (fun w'=>w'.cell? ⟨w.heap.size,5,none⟩=some (.int .i64 e)∧w'.cell? ⟨w.heap.size,6,none⟩=some (.int .i64 d)) 6 [[0,1,2,3,4],[5]] ⟨((((Keep.refl [] w2).alloc _).cell hlt (by simp) _).trans c5),((((Keep.refl [] w2).alloc _).cell hlt (by simp) _).trans c6)⟩ ?_;simp only[PI]
 iterate 5 (refine ZH ?_;simp only[Act.put,PU])
 refine XB (by rfl) (fun K hK=>?_)
 go_wp2_with fail
 refine hK _ _ (⟨((((Keep.refl [] w2).alloc _).drew.cell hlt (by simp) _).trans c5),((((Keep.refl [] w2).alloc _).drew.cell hlt (by simp) _).trans c6)⟩) ?_;clear hK K
 try simp only[Act.put,PU]
 refine YB ?_
 go_wp2_with (first
  | (refine(Tx1 _).mono ?_;clear Tx1;rintro r w' ⟨rfl,rfl⟩)
  | (refine(Tx2 _).mono ?_;clear Tx2;rintro r w' ⟨rfl,rfl⟩)
  | (refine(Tx3 _).mono ?_;clear Tx3;rintro r w' ⟨rfl,rfl⟩)
  | fail)
 go_wp2_with (refine(hsm _ (by first | exact((((Keep.refl [] w).alloc _).trans0 hk2).alloc _).drew | exact(((Keep.refl [] w).alloc _).trans0 hk2).alloc _)).mono ?_;clear hsm;rintro r w3 ⟨rfl,hk4⟩)
 go_ret;have hl:xs.length=n:=by simpa using ha.1
 refine⟨YI ?_,by first | exact((((Keep.refl [] w).alloc _).trans0 hk2).alloc _).drew.trans0 hk4 | exact((((Keep.refl [] w).alloc _).trans0 hk2).alloc _).trans0 hk4⟩;rw[Bool.eq_iff_iff];simp[FrMay,XA H1,XA H2,XA H3,XA H4]
theorem ZBH (v s b c e d:Int) (A:Option Addr) (n m:Nat) (xs:List UInt8) (w:World) (ha:Rd w A n (bys xs)) (h1:¬ (1≤v∧v≤2147483647)) :
 Calls Tryz.prog 231 #[frv 9 v s b c e d (.slice A n m)] w fun r w'=>r=.returned (.bool (decide (FrMay 9 v s b c e d xs)))∧Keep [] w w':=by
 have hno:decide (FrMay 9 v s b c e d xs)=false:=by
  have hl:xs.length=n:=by simpa using ha.1
  rw[decide_eq_false_iff_not];rintro⟨g1,g | g | g | g | g⟩ <;> omega
 rw[hno];clear hno;unfold frv;have Tv:=fun W=>XC (v) (1) (2147483647) false (decide_eq_false h1) W;obtain⟨bTs,hTs⟩:∃ x,decide (1≤s∧s≤2147483647)=x:=⟨_,rfl⟩;have Ts:=fun W=>XC (s) (1) (2147483647) bTs hTs W;have HTs:=JB hTs;clear hTs;obtain⟨bTb,hTb⟩:∃ x,decide (0≤b∧b≤63)=x:=⟨_,rfl⟩;have Tb:=fun W=>XC (b) (0) (63) bTb hTb W;have HTb:=JB hTb;clear hTb;have hbl:=Blk.new w 152 #[.int .i64 9,.int .i64 v,.int .i64 s,.int .i64 b,.int .i64 c,.int .i64 e,.int .i64 d,.slice A n m];have H1:=JB h1;clear h1
 go_enter Tryz.func231,Tryz.ntmps231
 go_wp2_with (
  (refine(XH _ _ _ _ _ _ _ _ _ _ _).mono ?_)
  rintro r w2 ⟨rfl,hk2⟩;have hB2:=hbl.keep0 hk2;obtain⟨c0,c1,c2,c3,c4,c5,c6,c7⟩:=QC hB2;have hlt:=hB2.lt;clear hbl hB2)
 go_wp2_with (first
  | (refine(Tv _).mono ?_;clear Tv;rintro r w' ⟨rfl,rfl⟩)
  | (refine(Ts _).mono ?_;clear Ts;rintro r w' ⟨rfl,rfl⟩)
  | (refine(Tb _).mono ?_;clear Tb;rintro r w' ⟨rfl,rfl⟩))
 go_ret;exact⟨rfl,by first | exact((((Keep.refl [] w).alloc _).trans0 hk2).alloc _).drew | exact(((Keep.refl [] w).alloc _).trans0 hk2).alloc _⟩
theorem JBO (v s b c e d:Int) (A:Option Addr) (n m:Nat) (xs:List UInt8) (w:World) (ha:Rd w A n (bys xs)) (h1:1≤v∧v≤2147483647) :
 Calls Tryz.prog 231 #[frv 9 v s b c e d (.slice A n m)] w fun r w'=>r=.returned (.bool (decide (FrMay 9 v s b c e d xs)))∧Keep [] w w':=by
 unfold frv;have hsm:=fun W (hk:Keep [] w W)=>Jq 9 v s b c e d 9 v 0 0 0 0 0 A none n m 0 0 xs [] W (ha.keep hk) (Rd.nil _ _);unfold frv at hsm;have Tv:=fun W=>XC (v) (1) (2147483647) true (decide_eq_true h1) W;obtain⟨bTs,hTs⟩:∃ x,decide (1≤s∧s≤2147483647)=x:=⟨_,rfl⟩;have Ts:=fun W=>XC (s) (1) (2147483647) bTs hTs W;have HTs:=JB hTs;clear hTs;obtain⟨bTb,hTb⟩:∃ x,decide (0≤b∧b≤63)=x:=⟨_,rfl⟩;have Tb:=fun W=>XC (b) (0) (63) bTb hTb W;have HTb:=JB hTb;clear hTb;have hbl:=Blk.new w 152 #[.int .i64 9,.int .i64 v,.int .i64 s,.int .i64 b,.int .i64 c,.int .i64 e,.int .i64 d,.slice A n m];have H1:=JB h1;clear h1
 go_enter Tryz.func231,Tryz.ntmps231
 go_wp2_with (
  (refine(XH _ _ _ _ _ _ _ _ _ _ _).mono ?_)
  rintro r w2 ⟨rfl,hk2⟩;have hB2:=hbl.keep0 hk2;obtain⟨c0,c1,c2,c3,c4,c5,c6,c7⟩:=QC hB2;have hlt:=hB2.lt;clear hbl hB2)
 go_wp2_with (first
  | (refine(Tv _).mono ?_;clear Tv;rintro r w' ⟨rfl,rfl⟩)
  | (refine(Ts _).mono ?_;clear Ts;rintro r w' ⟨rfl,rfl⟩)
  | (refine(Tb _).mono ?_;clear Tb;rintro r w' ⟨rfl,rfl⟩))
 go_wp2_with (refine(hsm _ (by first | exact((((Keep.refl [] w).alloc _).trans0 hk2).alloc _).drew | exact(((Keep.refl [] w).alloc _).trans0 hk2).alloc _)).mono ?_;clear hsm;rintro r w3 ⟨rfl,hk4⟩)
 go_ret;have hl:xs.length=n:=by simpa using ha.1
 refine⟨YI ?_,by first | exact((((Keep.refl [] w).alloc _).trans0 hk2).alloc _).drew.trans0 hk4 | exact((((Keep.refl [] w).alloc _).trans0 hk2).alloc _).trans0 hk4⟩;rw[Bool.eq_iff_iff];simp[FrMay,XA H1]
theorem VBL (k v s b c e d:Int) (A:Option Addr) (n m:Nat) (xs:List UInt8) (w:World) (ha:Rd w A n (bys xs)) (hk1:k≠1) (hk2:k≠2) (hk3:k≠3) (hk8:k≠8) (hk9:k≠9) :
 Calls Tryz.prog 231 #[frv k v s b c e d (.slice A n m)] w fun r w'=>r=.returned (.bool (decide (FrMay k v s b c e d xs)))∧Keep [] w w':=by
 have hno:decide (FrMay k v s b c e d xs)=false:=by
  have hl:xs.length=n:=by simpa using ha.1
  rw[decide_eq_false_iff_not];rintro⟨g1,g | g | g | g | g⟩ <;> omega
 rw[hno];clear hno;unfold frv;obtain⟨bTv,hTv⟩:∃ x,decide (1≤v∧v≤2147483647)=x:=⟨_,rfl⟩;have Tv:=fun W=>XC (v) (1) (2147483647) bTv hTv W;have HTv:=JB hTv;clear hTv;obtain⟨bTs,hTs⟩:∃ x,decide (1≤s∧s≤2147483647)=x:=⟨_,rfl⟩;have Ts:=fun W=>XC (s) (1) (2147483647) bTs hTs W;have HTs:=JB hTs;clear hTs;obtain⟨bTb,hTb⟩:∃ x,decide (0≤b∧b≤63)=x:=⟨_,rfl⟩;have Tb:=fun W=>XC (b) (0) (63) bTb hTb W;have HTb:=JB hTb;clear hTb;have hbl:=Blk.new w 152 #[.int .i64 k,.int .i64 v,.int .i64 s,.int .i64 b,.int .i64 c,.int .i64 e,.int .i64 d,.slice A n m];have hkb1:(k == 1)=false:=by simpa using hk1
 have hkb2:(k == 2)=false:=by simpa using hk2
 have hkb3:(k == 3)=false:=by simpa using hk3
 have hkb8:(k == 8)=false:=by simpa using hk8
 have hkb9:(k == 9)=false:=by simpa using hk9
 have hkc9:(k != 9)=true:=by simpa using hk9
 clear hk1 hk2 hk3 hk8 hk9
 go_enter Tryz.func231,Tryz.ntmps231
 go_wp2_with (
  (refine(XH _ _ _ _ _ _ _ _ _ _ _).mono ?_)
  rintro r w2 ⟨rfl,hk2⟩;have hB2:=hbl.keep0 hk2;obtain⟨c0,c1,c2,c3,c4,c5,c6,c7⟩:=QC hB2;have hlt:=hB2.lt;clear hbl hB2)
 go_wp2_with (first
  | (refine(Tv _).mono ?_;clear Tv;rintro r w' ⟨rfl,rfl⟩)
  | (refine(Ts _).mono ?_;clear Ts;rintro r w' ⟨rfl,rfl⟩)
  | (refine(Tb _).mono ?_;clear Tb;rintro r w' ⟨rfl,rfl⟩))
 go_ret;exact⟨rfl,by first | exact((((Keep.refl [] w).alloc _).trans0 hk2).alloc _).drew | exact(((Keep.refl [] w).alloc _).trans0 hk2).alloc _⟩
theorem JAL (k v s b c e d:Int) (A:Option Addr) (n m:Nat) (xs:List UInt8) (w:World) (ha:Rd w A n (bys xs)) :
 Calls Tryz.prog 231 #[frv k v s b c e d (.slice A n m)] w fun r w'=>r=.returned (.bool (decide (FrMay k v s b c e d xs)))∧Keep [] w w':=by
 by_cases hk1:k=1
 · subst hk1
   by_cases h1:1≤v∧v≤2147483647
   case neg=>exact VBG v s b c e d A n m xs w ha h1
   by_cases h2:1≤s∧s≤2147483647
   case neg=>exact YBP v s b c e d A n m xs w ha h1 h2
   by_cases h3:0≤b∧b≤63
   case neg=>exact YBI v s b c e d A n m xs w ha h1 h2 h3
   by_cases h4:n=64
   case neg=>exact QBH v s b c e d A n m xs w ha h1 h2 h3 h4
   exact XBH v s b c e d A n m xs w ha h1 h2 h3 h4
 by_cases hk2:k=2
 · subst hk2
   by_cases h1:1≤v∧v≤2147483647
   case neg=>exact VBI v s b c e d A n m xs w ha h1
   by_cases h2:1≤s∧s≤2147483647
   case neg=>exact YBH v s b c e d A n m xs w ha h1 h2
   by_cases h3:0≤b∧b≤63
   case neg=>exact XBN v s b c e d A n m xs w ha h1 h2 h3
   by_cases h4:1≤c∧c≤64-b
   case neg=>exact YBF v s b c e d A n m xs w ha h1 h2 h3 h4
   exact KBP v s b c e d A n m xs w ha h1 h2 h3 h4
 by_cases hk3:k=3
 · subst hk3
   by_cases h1:1≤v∧v≤2147483647
   case neg=>exact JBJ v s b c e d A n m xs w ha h1
   by_cases h2:1≤s∧s≤2147483647
   case neg=>exact QBN v s b c e d A n m xs w ha h1 h2
   by_cases h3:1≤e∧e≤2147483647
   case neg=>exact VBP v s b c e d A n m xs w ha h1 h2 h3
   exact VBF v s b c e d A n m xs w ha h1 h2 h3
 by_cases hk8:k=8
 · subst hk8
   by_cases h1:1≤v∧v≤2147483647
   case neg=>exact YBO v s b c e d A n m xs w ha h1
   by_cases h2:0≤s∧s≤2147483647
   case neg=>exact XBI v s b c e d A n m xs w ha h1 h2
   by_cases h3:0≤e∧e≤2147483647
   case neg=>exact QBP v s b c e d A n m xs w ha h1 h2 h3
   by_cases h4:0≤d∧d≤s
   case neg=>exact KBF v s b c e d A n m xs w ha h1 h2 h3 h4
   exact ZBI v s b c e d A n m xs w ha h1 h2 h3 h4
 by_cases hk9:k=9
 · subst hk9
   by_cases h1:1≤v∧v≤2147483647
   case neg=>exact ZBH v s b c e d A n m xs w ha h1
   exact JBO v s b c e d A n m xs w ha h1
 exact VBL k v s b c e d A n m xs w ha hk1 hk2 hk3 hk8 hk9
end
end Go.Proofs.YtkonbpfbjiepfaaGreat
