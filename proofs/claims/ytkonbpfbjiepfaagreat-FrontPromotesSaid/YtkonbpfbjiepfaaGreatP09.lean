/- Lemmas of the proof, with their conditions. -/
import Derived.Test.YtkonbpfbjiepfaaGreatP08
namespace Go.Proofs.YtkonbpfbjiepfaaGreat
set_option linter.unusedSimpArgs false
set_option linter.unusedVariables false
set_option maxHeartbeats 2000000
set_option maxRecDepth 20000
section
open Go.RowKit
theorem YAr (v:Nat) (hv:1≤v∧v≤2147483647):FrMay 9 v 0 0 0 0 0 []:=⟨by omega,.inr (.inr (.inr (.inr ⟨rfl,rfl,rfl,rfl,rfl,rfl,rfl⟩)))⟩
theorem Ks (v:Nat) (A:Option Addr) (m:Nat) (hv:1≤v∧v≤2147483647) (w:World) :
 Calls Tryz.prog 148 #[frv (9:Nat) v (0:Nat) (0:Nat) (0:Nat) (0:Nat) (0:Nat) (.slice A 0 m)] w fun r w'=>r=.returned (.bool true)∧Keep [] w w':=by
 have T1:=fun W=>VE (v:Nat) 1 2147483647 true (by simp;omega) W;have T2:=fun W=>VE 0 1 2147483647 false (by simp) W;have T3:=fun W=>VE 0 0 63 true (by simp) W;unfold frv
 go_enter Tryz.func148,Tryz.ntmps148
 go_wp2_with (first
  | (refine(T1 _).mono ?_;clear T1;rintro r w' ⟨rfl,rfl⟩)
  | (refine(T2 _).mono ?_;clear T2;rintro r w' ⟨rfl,rfl⟩)
  | (refine(T3 _).mono ?_;clear T3;rintro r w' ⟨rfl,rfl⟩))
 go_ret;exact⟨rfl,(Keep.refl _ _).alloc _⟩
theorem ZAT (v:Nat) (hv:1≤v∧v≤2147483647) (w:World) :
 Calls Tryz.prog 26 #[.int .i64 (v:Nat)] w fun r w'=>∃ u,r=.returned u∧w'.ownsRow w.heap.size 5 1 u 25 (bys (KF 9 v 0 0 0 0 0 []))∧Keep [] w w':=by
 have hB:=fun W=>Zg 9 v 0 0 0 0 0 none 0 0 [] W (Rd.nil _ _) (by omega) hv.2 (by omega) (by omega) (by omega) (by omega) (by omega) (by omega) (fun W=>Ks v none 0 hv W);unfold frv at hB;clear hv
 go_enter Tryz.func26,Tryz.ntmps26
 go_wp2_with (
  (refine(hB _).mono ?_)
  clear hB;rintro r w2 ⟨u,rfl,hu,hk2⟩)
 go_ret;exact⟨u,rfl,hu,hk2⟩
end
end Go.Proofs.YtkonbpfbjiepfaaGreat
