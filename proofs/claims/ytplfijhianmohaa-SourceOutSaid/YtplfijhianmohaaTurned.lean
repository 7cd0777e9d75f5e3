/-
  Contract of keelsonalike.Turned, of one bit.
-/
import Derived.Test.YtplfijhianmohaaSaid2
namespace Go.Proofs.Ytplfijhianmohaa
open Go.RowKit

theorem xor_u8 (y p : UInt8) : bits BinOp.xor IntKind.u8 (y.toNat : Nat) (p.toNat : Nat) = ((y ^^^ p).toNat : Nat) := by
  have h1 : (BitVec.ofInt 8 ((y.toNat : Nat) : Int)).toNat = y.toNat := by
    rw [BitVec.ofInt_natCast, BitVec.toNat_ofNat]; exact Nat.mod_eq_of_lt y.toNat_lt
  have h2 : (BitVec.ofInt 8 ((p.toNat : Nat) : Int)).toNat = p.toNat := by
    rw [BitVec.ofInt_natCast, BitVec.toNat_ofNat]; exact Nat.mod_eq_of_lt p.toNat_lt
  have h3 := (y ^^^ p).toNat_lt
  show IntKind.u8.wrap ((BitVec.ofInt 8 ((y.toNat : Nat) : Int) ^^^ BitVec.ofInt 8 ((p.toNat : Nat) : Int)).toNat : Int) = _
  rw [BitVec.toNat_xor, h1, h2, IntKind.wrap_u8, ← UInt8.toNat_xor]
  omega

theorem run_shl8 {P : Program} (e : Nat) (he : e < 8) (W : World) : (Op.shift .shl .u8 1 .i64 (e : Nat)).run P W = .ok (.int .u8 ((UInt8.ofNat (2 ^ e)).toNat : Nat)) W := by
  have : e = 0 ∨ e = 1 ∨ e = 2 ∨ e = 3 ∨ e = 4 ∨ e = 5 ∨ e = 6 ∨ e = 7 := by omega
  rcases this with rfl | rfl | rfl | rfl | rfl | rfl | rfl | rfl <;> rfl
/-- one bit turned -/
def turn1 (bs : List UInt8) (f : Nat) : List UInt8 := bs.set (f / 8) (bs.getD (f / 8) 0 ^^^ UInt8.ofNat (2 ^ (f % 8)))

set_option maxHeartbeats 2000000 in
theorem Turned_one (A : Option Addr) (n c : Nat) (bs : List UInt8) (x : Int) (w : World) (ha : Rd w A n (bys bs)) (hn : 1 ≤ n) (hn2 : n ≤ 1000) (hnc : n ≤ c) :
    Calls Try.prog 24 #[.slice A n c, .int .i64 n, .int .i64 x, .int .u32 1] w fun r w' => ∃ u, r = .returned (.tuple #[u, .bool true]) ∧ w'.ownsRow w.heap.size 5 1 u n (bys (turn1 bs (x % (8 * n)).toNat)) ∧ Keep [] w w' := by
  have hl : bs.length = n := by simpa using ha.1
  have hP := Part_any A n c bs 0 n w ha (by omega) (by omega) (by omega) hnc (by omega)
  rw [show ((n : Int) - 0).toNat = n by omega, show (List.take n (List.drop (Int.toNat 0) bs)) = bs by rw [← hl]; simp] at hP
  obtain ⟨f, hf, hf2⟩ : ∃ f : Nat, x % (8 * n) = f ∧ f < 8 * n := ⟨(x % (8 * n)).toNat, by have := Int.emod_nonneg x (show (8 * (n : Int)) ≠ 0 by omega); omega, by have := Int.emod_lt_of_pos x (show 0 < 8 * (n : Int) by omega); omega⟩
  have hR := fun W => Round_any x (8 * n) W (by omega) (by omega)
  rw [hf] at hR
  rw [hf]
  have HF := hide hf
  have HL := hide hl
  clear hf hl
  go_enter Try.func24, Try.ntmps24
  go_wp2_with (first
    | (refine hP.mono ?_; clear hP; rintro e w1 ⟨u, rfl, hu, hk1⟩; obtain ⟨UA, uc, rfl, _, _, hu0, hu1⟩ := own_form hu)
    | (refine (hR _).mono ?_; clear hR; rintro e w' ⟨rfl, rfl⟩))
  clear ha
  rcases UA with _ | a
  · have := (hu0 rfl).1; omega
  obtain ⟨g, rfl⟩ := hu1 a rfl
  clear hu0 hu1
  go_loopw [12, 13] (fun y i wr => ∃ k : Nat, k ≤ 32 ∧ i = .int .i64 k ∧ y = .bool (decide (0 < k)) ∧ wr.ownsRow w.heap.size 5 1 (.slice (some ⟨g, 0, none⟩) n uc) n (bys (if k = 0 then bs else turn1 bs f)) ∧ Keep [] w wr) (fun _ i _ => (32 - (intOf i)).toNat)
  case atStart => exact ⟨0, by omega, rfl, rfl, hu, hk1⟩
  case round =>
    clear hu hk1
    obtain ⟨k, hk, rfl, rfl, hu, hk1⟩ := hrel
    by_cases hlt : k < 32
    · by_cases h0 : k = 0
      · subst h0
        rw [if_pos rfl] at hu
        have hll : f / 8 < bs.length := by rw [unhide HL]; omega
        have hcell : wr.drew.cell? ⟨g, f / 8, none⟩ = some (.int .u8 ((bs.getD (f / 8) 0).toNat)) := own_cell (own_keep0 hu (Keep.refl _ _).drew) (by simp [bys, by8, List.getD_eq_getElem?_getD, List.getElem?_eq_getElem hll])
        have hfz := own_frozen (own_keep0 hu (Keep.refl [] wr).drew) (f / 8)
        have hgl := own_mem hu (g := g) (by simp [Value.ownBlock])
        generalize hbb : bs.getD (f / 8) 0 = bb at hcell
        have HBB := hide hbb
        have HLL := hide hll
        clear hbb hll
        go_wp2
        refine wp_region_ht (fun w' => w'.cell? ⟨g, f / 8, none⟩ = some (.int .u8 (bb.toNat : Nat))) 18 [(0, false), (1, false), (2, false), (3, false), (4, false), (5, false), (6, false), (7, false), (8, false), (9, false), (10, false), (11, false), (12, false), (13, false), (14, false), (15, false), (16, false), (17, false)]
          (by kernel_rfl) (by kernel_rfl) (fun _ _ d _ _ h => by cases d <;> exact h) hcell ?_
        simp only [picked, List.filterMap_cons, List.filterMap_nil, List.getElem?_cons_zero, List.getElem?_cons_succ, Option.map_some, List.drop_succ_cons, List.drop_zero]
        iterate 10 (refine wpT_held ?_ (by rfl) ?_ ?_; rotate_left; (focus (intro W hW; go_simp; first | done | with_reducible rfl)); simp only [Act.put, List.setIfInBounds_toArray, List.set_cons_zero, List.set_cons_succ])
        have E1 : IntKind.i64.wrap (f : Int) = f := by rw [IntKind.wrap_i64]; omega
        have E2 : IntKind.i64.wrap ((f : Int).tdiv 8) = ((f / 8 : Nat) : Int) := by
          rw [Int.tdiv_eq_ediv_of_nonneg (by omega)]
          rw [IntKind.wrap_i64]; omega
        have E3 : IntKind.i64.wrap ((f : Int).tmod 8) = ((f % 8 : Nat) : Int) := by
          rw [Int.tmod_eq_emod_of_nonneg (by omega)]
          rw [IntKind.wrap_i64]; omega
        simp only [E1, E2]
        refine wpT_held (.pointer (some ⟨g, f / 8, none⟩)) (by rfl) ?_ ?_
        · intro W hW
          go_simp
          rw [if_pos ⟨by omega, by omega⟩]
          try rfl
        iterate 5 (refine wpT_held ?_ (by rfl) ?_ ?_; rotate_left; (focus (intro W hW; go_simp; first | done | with_reducible rfl)); simp only [Act.put, List.setIfInBounds_toArray, List.set_cons_zero, List.set_cons_succ])
        have E4 : (f : Int).tmod 8 = ((f % 8 : Nat) : Int) := by rw [Int.tmod_eq_emod_of_nonneg (by omega)]; omega
        simp only [E4]
        refine wpT_held (.int .u8 ((UInt8.ofNat (2 ^ (f % 8))).toNat : Nat)) (by rfl) ?_ ?_
        · intro W hW
          have := run_shl8 (P := Try.prog) (f % 8) (by omega) W
          go_simp
          rw [show ((f : Int) % 8).toNat = f % 8 by omega, IntKind.wrap_u8]
        iterate 1 (refine wpT_held ?_ (by rfl) ?_ ?_; rotate_left; (focus (intro W hW; go_simp; first | done | with_reducible rfl)); simp only [Act.put, List.setIfInBounds_toArray, List.set_cons_zero, List.set_cons_succ])
        refine wpT_nil ?_
        have E6 : IntKind.i64.wrap ((f / 8 : Nat) : Int) = ((f / 8 : Nat) : Int) := by rw [IntKind.wrap_i64]; omega
        have E7 : ((f / 8 : Nat) : Int) < n := by omega
        have hgl2 := hgl.2
        go_wp2
        go_roundw
        case rel =>
          refine ⟨1, by omega, rfl, by simp, ?_, (hk1.setCell (p := ⟨g, f / 8, none⟩) (.inr hgl.1) _).drew⟩
          have e : ((2 ^ (f % 8) % 256 : Int)) = ((UInt8.ofNat (2 ^ (f % 8))).toNat : Nat) := by rw [UInt8.toNat_ofNat']; simp
          rw [e, xor_u8, if_neg (by omega)]
          have := own_keep0 (own_setAt hu (f / 8) (by8 (bb ^^^ UInt8.ofNat (2 ^ (f % 8))))) (Keep.refl [] _).drew
          unfold turn1
          rw [unhide HBB]
          simpa [bys, List.map_set, by8] using this
        case measure => simp [intOf]
      · have HB : bits .and .u32 (1 / 2 ^ k) 1 = 0 := by
          have h1 : 2 ^ 1 ≤ 2 ^ k := Nat.pow_le_pow_right (by omega) (by omega)
          have h2 : (1 : Int) / 2 ^ k = 0 := Int.ediv_eq_zero_of_lt (by omega) (by exact_mod_cast (by omega : 1 < 2 ^ k))
          rw [h2]
          decide
        go_wp2
        go_roundw
        case rel =>
          refine ⟨k + 1, by omega, by go_num, by simp; omega, ?_, hk1⟩
          rw [if_neg h0] at hu
          rw [if_neg (by omega)]
          exact hu
        case measure => simp [intOf]; omega
    · obtain rfl : k = 32 := by omega
      go_wp2
      go_ret2
      rw [if_neg (by omega)] at hu
      exact ⟨_, rfl, by simpa using hu, hk1⟩
end Go.Proofs.Ytplfijhianmohaa
