/-
  Contracts of the law's own small functions: row; keelsonalike.Blocks.
-/
import Derived.Test.YtfbejbkacpkalaaPart
namespace Go.Proofs.Ytfbejbkacpkalaa
open Go.RowKit

/-- the bytes of a number: 'row' -/
def rowOf (x : Int) : List UInt8 := (List.range (x % 7).toNat).map fun k => UInt8.ofNat ((x % 251).toNat + k)
def rowUp (x : Int) (n : Nat) : List UInt8 := (List.range n).map fun k => UInt8.ofNat ((x % 251).toNat + k)
theorem rowUp_succ (x : Int) (n : Nat) : rowUp x (n + 1) = rowUp x n ++ [UInt8.ofNat ((x % 251).toNat + n)] := by
  simp [rowUp, List.range_succ]
@[simp] theorem length_rowUp (x : Int) (n : Nat) : (rowUp x n).length = n := by simp [rowUp]

set_option maxHeartbeats 400000 in
theorem row_any (x : Int) (w : World) :
    Calls Try.prog 13 #[.int .i64 x] w fun e w' => ∃ v, e = .returned v ∧ w'.ownsRow w.heap.size 5 1 v (rowOf x).length (bys (rowOf x)) ∧ Keep [] w w' := by
  have hx7 : 0 ≤ x % 7 ∧ x % 7 < 7 := by omega
  have hx251 : 0 ≤ x % 251 ∧ x % 251 < 251 := by omega
  have hmk : ∀ W : World, (Instr.makeSlice 28 (.int .i64 0) (.int .i64 8)).run Try.prog W = .ok (.slice (some ⟨W.heap.size, 0, none⟩) 0 8) (W.alloc (.cells (Array.replicate 8 (.int .u8 0)) 5)) := fun W => elem8.run_make .i64 .i64 0 8 (by omega) (by omega) (by omega) W
  have h0 : ∀ W : World, W.heap.size = w.heap.size → Keep [] w W → (W.alloc (.cells (Array.replicate 8 (.int .u8 0)) 5)).ownsRow w.heap.size 5 1 (.slice (some ⟨W.heap.size, 0, none⟩) 0 8) 0 (bys (rowUp x 0)) := fun W e _ =>
    own_of_blk (Blk.new W 5 _) (Nat.le_of_eq e.symm) (by omega) (by omega) (by simp) (by simp [rowUp, bys])
  have H0 := hide h0
  clear h0
  go_enter Try.func13, Try.ntmps13
  go_wp2
  go_loopw [3, 4] (fun v i wr => ∃ k : Nat, (k : Int) ≤ x % 7 ∧ i = .int .i64 k ∧ wr.ownsRow w.heap.size 5 1 v k (bys (rowUp x k)) ∧ Keep [] w wr) (fun _ i _ => ((x % 7) - (intOf i)).toNat)
  case atStart => exact ⟨0, by omega, rfl, unhide H0 w rfl (Keep.refl _ _), (Keep.refl _ _).alloc _⟩
  case round =>
    obtain ⟨k, hk, rfl, hown, hkp⟩ := hrel
    by_cases hlt : (k : Int) < x % 7
    · go_wp2_with (first
        | (go_at_call 8; refine (Round_any _ _ _ (by omega) (by omega)).mono ?_; rintro e w' ⟨rfl, rfl⟩)
        | (at_builtin; refine elem8.wp_app rfl _ _ rfl w.heap.size _ k (bys (rowUp x k)) rfl (own_alloc hown _) _ 1 1 [_] rfl (rd_new1 _ _ _) (by simp [Value.oneCell']) (by omega) (by omega) (by have := hkp.size; simp; omega) ?_))
      intro v' w' hown' hk' _ _
      have hkp' := hkp.one_more hown (Nat.le_refl _) hk'
      have he : by8 (UInt8.ofNat ((x % 251).toNat + k)) = .int .u8 (x % 251 + k) := by
        unfold by8
        rw [UInt8.toNat_ofNat']
        congr 1
        omega
      clear hk' hown
      go_wp2
      go_roundw
      case rel => exact ⟨k + 1, by omega, by go_num, by rw [rowUp_succ, bys_append]; simpa only [bys, List.map_cons, List.map_nil, he] using hown', hkp'⟩
      case measure => simp [intOf]; omega
    · have hk7 : (x % 7).toNat = k := by omega
      have hl : (rowOf x).length = k := by simp [rowOf, hk7]
      have hr : rowUp x k = rowOf x := by simp [rowOf, rowUp, hk7]
      have HL := hide hl
      have HR := hide hr
      clear hk7 hl hr
      go_wp2_with (go_at_call 8; refine (Round_any _ _ _ (by omega) (by omega)).mono ?_; rintro e w' ⟨rfl, rfl⟩)
      go_ret
      exact ⟨_, rfl, by rw [unhide HL, ← unhide HR]; exact hown, hkp⟩
end Go.Proofs.Ytfbejbkacpkalaa
