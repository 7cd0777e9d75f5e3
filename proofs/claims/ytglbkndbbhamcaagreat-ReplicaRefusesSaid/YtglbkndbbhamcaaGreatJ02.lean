/-
  A part of the proof: lemmas, and contracts of functions; their conditions stand in them.
-/
import Derived.Test.YtglbkndbbhamcaaGreatJ01
namespace Go.Proofs.YtglbkndbbhamcaaGreat
section
open Go.RowKit
def num : List UInt8 → Nat
  | [] => 0
  | b :: l => b.toNat + 256 * num l
@[simp] theorem num_nil : num [] = 0 := rfl
theorem num_lt (l : List UInt8) : num l < 256 ^ l.length := by
  induction l with
  | nil => simp
  | cons b l ih =>
    have := b.toNat_lt
    simp only [num, List.length_cons, Nat.pow_succ]
    omega
theorem num_append (l k : List UInt8) : num (l ++ k) = num l + 256 ^ l.length * num k := by
  induction l with
  | nil => simp
  | cons b l ih => simp only [List.cons_append, num, ih, List.length_cons, Nat.pow_succ, Nat.mul_add]; rw [← Nat.mul_assoc, Nat.mul_comm 256 (256 ^ l.length)]; omega
theorem num_snoc (l : List UInt8) (b : UInt8) : num (l ++ [b]) = num l + 256 ^ l.length * b.toNat := by rw [num_append]; simp [num]
theorem le_cons (k n : Nat) : le (k + 1) n = UInt8.ofNat (n % 256) :: le k (n / 256) := by
  unfold le
  rw [List.range_succ_eq_map, List.map_cons, List.map_map]
  congr 1
  · simp
  · apply List.map_congr_left
    intro i _
    simp only [Function.comp]
    rw [Nat.div_div_eq_div_mul, Nat.pow_succ, Nat.mul_comm]
theorem num_le (k n : Nat) (h : n < 256 ^ k) : num (le k n) = n := by
  induction k generalizing n with
  | zero => simp at h; simp [h]
  | succ k ih =>
    rw [le_cons, num, ih _ (by rw [Nat.pow_succ] at h; omega)]
    rw [UInt8.toNat_ofNat']
    omega
theorem or_i64 (a b : Nat) (ha : a ≤ 9223372036854775807) (hb : b ≤ 9223372036854775807) : bits BinOp.or IntKind.i64 (a : Int) (b : Int) = IntKind.i64.wrap ((a ||| b : Nat) : Int) := by
  show IntKind.i64.wrap ((BitVec.ofInt 64 (a : Int) ||| BitVec.ofInt 64 (b : Int)).toNat : Int) = _
  rw [BitVec.ofInt_natCast, BitVec.ofInt_natCast, BitVec.toNat_or, BitVec.toNat_ofNat, BitVec.toNat_ofNat, Nat.mod_eq_of_lt (by omega), Nat.mod_eq_of_lt (by omega)]
theorem wrap64_small (y : Nat) (h : y ≤ 9223372036854775807) : wrap64 ((y : Nat) : Int) = (y : Nat) := by unfold wrap64; omega
theorem or_at (n i : Nat) (x : UInt8) (hi : i ≤ 3) (hn : n < 256 ^ i) : bits BinOp.or IntKind.i64 (n : Int) (wrap64 (wrap64 ((x.toNat : Nat) : Int) * 2 ^ (8 * i))) = ((n + 256 ^ i * x.toNat : Nat) : Int) := by
  have hx := x.toNat_lt
  have h256 : 256 ^ i ≤ 256 ^ 3 := Nat.pow_le_pow_right (by omega) hi
  rw [wrap64_small _ (by omega)]
  have hp : (((x.toNat : Nat) : Int) * 2 ^ (8 * i)) = ((256 ^ i * x.toNat : Nat) : Int) := by
    rw [Int.natCast_mul, Int.natCast_pow, show ((256 : Nat) : Int) = 2 ^ 8 by rfl, ← Int.pow_mul, Int.mul_comm]
  have hb : 256 ^ i * x.toNat ≤ 256 ^ 3 * 255 := Nat.mul_le_mul h256 (by omega)
  have h2 : 256 ^ i * x.toNat ||| n = 256 ^ i * x.toNat + n := by
    have e : 256 ^ i = 2 ^ (8 * i) := by rw [Nat.pow_mul]
    rw [e] at hn ⊢
    rw [Nat.two_pow_add_eq_or_of_lt hn]
  rw [hp]
  generalize 256 ^ i * x.toNat = y at *
  have h3 : n < 256 ^ 3 := by omega
  rw [wrap64_small _ (by omega), or_i64 _ _ (by omega) (by omega), Nat.or_comm, h2, IntKind.wrap_i64]
  omega
end
section
open Go.RowKit
variable {P : Program} {t e : TypeId} {z : Value} {bytes : Nat}
theorem zeroCells_one (z : Value) (n : Nat) : (Builtin.zeroCells #[z] n).toList = List.replicate n z := by
  rw [List.eq_replicate_iff]
  refine ⟨by simp [Builtin.zeroCells], ?_⟩
  intro b hb
  simp only [Builtin.zeroCells, Array.toList_map, List.mem_map] at hb
  obtain ⟨i, _, rfl⟩ := hb
  have : i % (#[z] : Array Value).size = 0 := by simp [Nat.mod_one]
  rw [this]; rfl
end
end Go.Proofs.YtglbkndbbhamcaaGreat
