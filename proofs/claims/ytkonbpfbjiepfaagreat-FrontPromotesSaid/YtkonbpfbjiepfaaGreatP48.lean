/- Lemmas of the proof, with their conditions. -/
import Derived.Test.YtkonbpfbjiepfaaGreatP05
import Derived.Test.YtkonbpfbjiepfaaGreatP10
import Derived.Test.YtkonbpfbjiepfaaGreatP19
namespace Go.Proofs.YtkonbpfbjiepfaaGreat
set_option linter.unusedSimpArgs false
set_option linter.unusedVariables false
set_option maxHeartbeats 1000000
section
open Go.RowKit
def VAt (B:Nat):Value:=.agg #[.int .i64 B,.int .i64 8,.int .i64 24]
theorem YAM (w:World) (B:Nat):(w.alloc (.cells #[.int .i64 B,.int .i64 8,.int .i64 24] 27)).cell? ⟨w.heap.size,0,none⟩=some (.int .i64 B)∧(w.alloc (.cells #[.int .i64 B,.int .i64 8,.int .i64 24] 27)).cell? ⟨w.heap.size,1,none⟩=some (.int .i64 8)∧(w.alloc (.cells #[.int .i64 B,.int .i64 8,.int .i64 24] 27)).cell? ⟨w.heap.size,2,none⟩=some (.int .i64 24):=by
 exact⟨by simp,by simp,by simp⟩
theorem XU {w:World} {g B:Nat} (h:Blk w g 27 #[.int .i64 B,.int .i64 8,.int .i64 24]):w.cell? ⟨g,0,none⟩=some (.int .i64 B)∧w.cell? ⟨g,1,none⟩=some (.int .i64 8)∧w.cell? ⟨g,2,none⟩=some (.int .i64 24):=
 ⟨by simpa using h.cell 0,by simpa using h.cell 1,by simpa using h.cell 2⟩
theorem YAN {a b:Int} (h:a=b):Ending.returned (.int .i64 a)=.returned (.int .i64 b):=by rw[h]
theorem VBC (a b q:Nat) (hb:0<b) (h:a+b≤1000000) (hq:(a+b-1) / b=q) (w:World):Calls Tryz.prog 197 #[.int .i64 (a:Nat),.int .i64 (b:Nat)] w fun e w'=>e=.returned (.int .i64 (q:Nat))∧w=w':=by
 have e1:IntKind.i64.wrap (((a:Nat):Int)+(b:Nat)-1)=((a+b-1:Nat):Int):=by rw[IntKind.wrap_i64];omega
 have e2:IntKind.i64.wrap ((((a:Nat):Int)+(b:Nat)-1).tdiv (b:Nat))=(q:Nat):=by
  have hle:(a+b-1) / b≤a+b-1:=Nat.div_le_self _ _;rw[show ((a:Nat):Int)+(b:Nat)-1=((a+b-1:Nat):Int) by omega,Int.tdiv_eq_ediv_of_nonneg (by omega),← hq,← Int.natCast_ediv,IntKind.wrap_i64];omega
 have e3:RowKit.wrap64 (((a+b-1:Nat):Int) / ((b:Nat):Int))=(q:Nat):=by
  have hle:(a+b-1) / b≤a+b-1:=Nat.div_le_self _ _;rw[← hq,← Int.natCast_ediv];unfold RowKit.wrap64;omega
 have hbn:¬ ((b:Nat):Int)=0:=by omega
 have hb0:(((b:Nat):Int) == 0)=false:=by simpa using hbn
 clear hq
 go_enter Tryz.func197,Tryz.ntmps197
 go_wp2
 go_ret;exact⟨YAN e3,rfl⟩
section
variable (w:World) (B:Nat) (h1:1≤B) (h2:B≤64)
include h1 h2
theorem PagesR_is:Calls Tryz.prog 170 #[VAt B] w fun e w'=>e=.returned (.int .i64 (pgs B:Nat))∧Keep [] w w':=by
 have hU:=fun W=>VBC B 15 (pgs B) (by omega) (by omega) (by unfold pgs;omega) W;obtain⟨c0,c1,c2⟩:=YAM w B;unfold VAt
 go_enter Tryz.func170,Tryz.ntmps170
 go_wp2_with (refine(hU _).mono ?_;clear hU;rintro e w' ⟨rfl,rfl⟩)
 go_ret;exact⟨rfl,(Keep.refl _ _).alloc _⟩
omit h1 h2 in
theorem RegionLenR_is:Calls Tryz.prog 169 #[VAt B] w fun e w'=>e=.returned (.int .i64 2)∧Keep [] w w':=by
 have hU:∀ W,Calls Tryz.prog 197 #[.int .i64 83,.int .i64 64] W fun e w'=>e=.returned (.int .i64 2)∧W=w':=fun W=>VBC 83 64 2 (by omega) (by omega) (by omega) W;obtain⟨c0,c1,c2⟩:=YAM w B;unfold VAt
 go_enter Tryz.func169,Tryz.ntmps169
 go_wp2_with (refine(hU _).mono ?_;clear hU;rintro e w' ⟨rfl,rfl⟩)
 go_ret;exact⟨rfl,(Keep.refl _ _).alloc _⟩
theorem QAh (s:Nat) (hs:s≤7):Calls Tryz.prog 99 #[VAt B,.int .i64 (s:Nat)] w fun e w'=>e=.returned (.int .i64 (6+4*pgs B+24*s:Nat))∧Keep [] w w':=by
 have hW:=fun W=>VE (s:Nat) 0 7 true (by simp;omega) W;have hL:=fun W=>RegionLenR_is W B;have hP:=fun W=>PagesR_is W B h1 h2;have hpb:=(QD h1 h2).2;obtain⟨P,hPg⟩:∃ P,P=pgs B:=⟨_,rfl⟩;rw[← hPg] at hP hpb ⊢;have HP:=JB hPg;clear hPg;have hb:=Blk.new w 27 #[.int .i64 B,.int .i64 8,.int .i64 24];have hkA:Keep [] w (w.alloc (.cells #[.int .i64 B,.int .i64 8,.int .i64 24] 27)):=(Keep.refl _ _).alloc _;obtain⟨c0,c1,c2⟩:=YAM w B;unfold VAt at hL hP ⊢
 go_enter Tryz.func99,Tryz.ntmps99
 go_wp2_with (refine(hW _).mono ?_;clear hW;rintro e w' ⟨rfl,rfl⟩)
 have hbD:=hb.drew;refine ZT (fun w'=>w'.cell? ⟨w.heap.size,0,none⟩=some (.int .i64 B)∧w'.cell? ⟨w.heap.size,1,none⟩=some (.int .i64 8)∧w'.cell? ⟨w.heap.size,2,none⟩=some (.int .i64 24)) 12 [[0,4,8,9,10,11],[1,2,3],[5,6,7]] (XU hbD) ?_;simp only[PI]
 iterate 6 (refine ZH ?_;simp only[Act.put,PU])
 refine XB (by rfl) (fun K hK=>?_)
 go_wp2_with (refine(hL _).mono ?_;clear hL;rintro e w1 ⟨rfl,hk1⟩)
 refine hK _ _ ((XU (hbD.keep0 hk1))) ?_;clear hK K
 try simp only[Act.put,PU]
 iterate 2 (refine ZH ?_;simp only[Act.put,PU])
 refine XB (by rfl) (fun K hK=>?_)
 go_wp2_with (refine(hP _).mono ?_;clear hP;rintro e w2 ⟨rfl,hk2⟩)
 refine hK _ _ ((XU ((hbD.keep0 hk1).keep0 hk2))) ?_;clear hK K
 try simp only[Act.put,PU]
 iterate 2 (refine ZH ?_;simp only[Act.put,PU])
 refine YB ?_
 go_wp2_with fail
 go_ret;exact⟨YAN (by omega),(hkA.drew.trans0 hk1).trans0 hk2⟩
theorem SectorsR_is:Calls Tryz.prog 48 #[VAt B] w fun e w'=>e=.returned (.int .i64 (198+4*pgs B:Nat))∧Keep [] w w':=by
 have hS:∀ W,Calls Tryz.prog 99 #[VAt B,.int .i64 0] W fun e w'=>e=.returned (.int .i64 (6+4*pgs B:Nat))∧Keep [] W w':=fun W=>QAh W B h1 h2 0 (by omega);have hpb:=(QD h1 h2).2;obtain⟨P,hPg⟩:∃ P,P=pgs B:=⟨_,rfl⟩;rw[← hPg] at hS hpb ⊢;have HP:=JB hPg;clear hPg;have hb:=Blk.new w 27 #[.int .i64 B,.int .i64 8,.int .i64 24];have hkA:Keep [] w (w.alloc (.cells #[.int .i64 B,.int .i64 8,.int .i64 24] 27)):=(Keep.refl _ _).alloc _;have hbD:=hb.drew;unfold VAt at hS ⊢
 go_enter Tryz.func48,Tryz.ntmps48
 go_wp2_with fail
 refine ZT (fun w'=>w'.cell? ⟨w.heap.size,0,none⟩=some (.int .i64 B)∧w'.cell? ⟨w.heap.size,1,none⟩=some (.int .i64 8)∧w'.cell? ⟨w.heap.size,2,none⟩=some (.int .i64 24)) 7 [[0,2,3,4,5,6],[1]] (XU hbD) ?_;simp only[PI]
 iterate 6 (refine ZH ?_;simp only[Act.put,PU])
 refine XB (by rfl) (fun K hK=>?_)
 go_wp2_with (refine(hS _).mono ?_;clear hS;rintro e w1 ⟨rfl,hk1⟩)
 refine hK _ _ ((XU (hbD.keep0 hk1))) ?_;clear hK K
 try simp only[Act.put,PU]
 refine YB ?_
 go_wp2_with fail
 go_ret;exact⟨YAN (by omega),hkA.drew.trans0 hk1⟩
end
end
end Go.Proofs.YtkonbpfbjiepfaaGreat
