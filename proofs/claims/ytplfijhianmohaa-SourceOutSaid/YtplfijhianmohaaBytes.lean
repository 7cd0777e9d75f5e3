/-
  Plain laws: numbers as bytes, the least first; bytes laid into a row; a cell of a row of one's own set.
-/
import Derived.Test.YtplfijhianmohaaLaw
namespace Go.Proofs.Ytplfijhianmohaa
open Go.RowKit

/-- so many bytes of a number, the least first -/
def le (k n : Nat) : List UInt8 := (List.range k).map fun i => UInt8.ofNat (n / 256 ^ i % 256)
theorem le_succ (k n : Nat) : le (k + 1) n = le k n ++ [UInt8.ofNat (n / 256 ^ k % 256)] := by simp [le, List.range_succ]
@[simp] theorem length_le (k n : Nat) : (le k n).length = k := by simp [le]
@[simp] theorem le_zero (n : Nat) : le 0 n = [] := rfl

/-- bytes laid into a row at a place -/
def laid {α : Type} (bs : List α) (a : Nat) (ns : List α) : List α := bs.take a ++ ns ++ bs.drop (a + ns.length)
@[simp] theorem laid_nil {α : Type} (bs : List α) (a : Nat) : laid bs a [] = bs := by simp [laid]
theorem length_laid {α : Type} (bs : List α) (a : Nat) (ns : List α) (h : a + ns.length ≤ bs.length) : (laid bs a ns).length = bs.length := by
  simp [laid]; omega
theorem laid_snoc {α : Type} (bs : List α) (a : Nat) (ns : List α) (x : α) (h : a + ns.length < bs.length) : laid bs a (ns ++ [x]) = (laid bs a ns).set (a + ns.length) x := by
  unfold laid
  rw [List.set_append_right _ _ (by simp; omega)]
  have h1 : a + ns.length - (bs.take a ++ ns).length = 0 := by simp; omega
  rw [h1, List.drop_eq_getElem_cons h, List.set_cons_zero, List.length_append]
  simp [Nat.add_assoc]
theorem laid_laid {α : Type} (bs : List α) (a : Nat) (ns ms : List α) (h : a + ns.length + ms.length ≤ bs.length) : laid (laid bs a ns) (a + ns.length) ms = laid bs a (ns ++ ms) := by
  have h1 : (bs.take a ++ ns).length = a + ns.length := by simp; omega
  unfold laid
  rw [List.take_append_of_le_length (by omega), List.take_of_length_le (by omega), List.drop_append, List.drop_drop]
  rw [List.drop_of_length_le (by omega), List.nil_append, h1, List.length_append]
  simp only [List.append_assoc]
  congr 4
  omega
theorem map_laid {α β : Type} (f : α → β) (bs : List α) (a : Nat) (ns : List α) : (laid bs a ns).map f = laid (bs.map f) a (ns.map f) := by
  simp [laid, List.map_take, List.map_drop]
theorem bys_laid (bs : List UInt8) (a : Nat) (ns : List UInt8) : bys (laid bs a ns) = laid (bys bs) a (bys ns) := by simp [bys, map_laid]
theorem bys_set (bs : List UInt8) (i : Nat) (x : UInt8) : bys (bs.set i x) = (bys bs).set i (by8 x) := by simp [bys, List.map_set]
theorem laid_all {α : Type} (bs ns : List α) (h : ns.length = bs.length) : laid bs 0 ns = ns := by simp [laid, h]

theorem own_setAt {w : World} {base g n c : Nat} {e : TypeId} {xs : List Value} (h : w.ownsRow base e 1 (.slice (some ⟨g, 0, none⟩) n c) n xs) (i : Nat) (u : Value) :
    (w.setCell ⟨g, i, none⟩ u).ownsRow base e 1 (.slice (some ⟨g, 0, none⟩) n c) n (xs.set i u) := by
  rcases h.2 with ⟨he, _⟩ | ⟨g', cap, cur, he, hb, hg, hn, hm, hs, ht⟩
  · cases he
  · cases he
    refine own_of_blk (Blk.set (t := e) hg i u) hb hn (by simpa [maxLen] using hm) (by simpa using hs) ?_
    rw [Array.toList_setIfInBounds, List.take_set, show cur.toList.take n = xs by simpa using ht]
theorem own_cell {w : World} {base g n c : Nat} {e : TypeId} {xs : List Value} (h : w.ownsRow base e 1 (.slice (some ⟨g, 0, none⟩) n c) n xs) {i : Nat} {u : Value} (hu : xs[i]? = some u) : w.cell? ⟨g, i, none⟩ = some u := by
  rcases h.2 with ⟨he, _⟩ | ⟨g', cap, cur, he, hb, hg, hn, hm, hs, ht⟩
  · cases he
  · cases he
    rw [Blk.cell (t := e) hg]
    rw [← ht, List.getElem?_take] at hu
    split at hu
    · simpa using hu
    · cases hu
theorem own_frozen {w : World} {base g n c : Nat} {e : TypeId} {xs : List Value} (h : w.ownsRow base e 1 (.slice (some ⟨g, 0, none⟩) n c) n xs) (i : Nat) : w.frozen? ⟨g, i, none⟩ = false := by
  rcases h.2 with ⟨he, _⟩ | ⟨g', cap, cur, he, hb, hg, hn, hm, hs, ht⟩
  · cases he
  · cases he
    exact Blk.frozen (t := e) hg i
theorem own_lt {w : World} {base g n c : Nat} {e : TypeId} {xs : List Value} (h : w.ownsRow base e 1 (.slice (some ⟨g, 0, none⟩) n c) n xs) : g < w.heap.size := (h.lt g rfl).2
theorem own_some {w : World} {base n : Nat} {e : TypeId} {v : Value} {xs : List Value} (h : w.ownsRow base e 1 v n xs) (hn : 0 < n) : ∃ g c, v = .slice (some ⟨g, 0, none⟩) n c ∧ n ≤ c := by
  rcases h.2 with ⟨rfl, h0⟩ | ⟨g', cap, cur, he, hb, hg, hc, hm, hs, ht⟩
  · omega
  · exact ⟨g', cap, he, hc⟩

/-- one byte more is laid -/
theorem own_lay {w : World} {base g n c a : Nat} {e : TypeId} {bs ns : List UInt8} (h : w.ownsRow base e 1 (.slice (some ⟨g, 0, none⟩) n c) n (bys (laid bs a ns))) (hl : a + ns.length < bs.length) (x : UInt8) (i : Nat) (hi : i = a + ns.length) :
    (w.setCell ⟨g, i, none⟩ (by8 x)).ownsRow base e 1 (.slice (some ⟨g, 0, none⟩) n c) n (bys (laid bs a (ns ++ [x]))) := by
  subst hi
  rw [laid_snoc _ _ _ _ hl, bys_set]
  exact own_setAt h _ _
theorem and255 (a : Int) (h0 : 0 ≤ a) (h1 : a ≤ 9223372036854775807) : bits BinOp.and IntKind.i64 a 255 = a % 256 := by
  obtain ⟨k, rfl⟩ := Int.eq_ofNat_of_zero_le h0
  show IntKind.i64.wrap ((BitVec.ofInt 64 (k : Int) &&& BitVec.ofInt 64 255).toNat : Int) = _
  have h2 : (BitVec.ofInt 64 (k : Int)).toNat = k := by
    rw [BitVec.ofInt_natCast, BitVec.toNat_ofNat]; exact Nat.mod_eq_of_lt (by omega)
  have h3 : (BitVec.ofInt 64 255).toNat = 2 ^ 8 - 1 := by decide
  rw [BitVec.toNat_and, h2, h3, Nat.and_two_pow_sub_one_eq_mod, IntKind.wrap_i64]
  omega
theorem byte_of (n i : Nat) (hn : n ≤ 9223372036854775807) (hi : i ≤ 7) : Value.int .u8 (bits BinOp.and IntKind.i64 (((n : Nat) : Int) / 2 ^ (8 * i)) 255 % 256) = by8 (UInt8.ofNat (n / 256 ^ i % 256)) := by
  have hp : ((2 : Int) ^ (8 * i)) = ((256 ^ i : Nat) : Int) := by
    rw [Int.natCast_pow, show ((256 : Nat) : Int) = 2 ^ 8 by rfl, Int.pow_mul]
  have hd : n / 256 ^ i ≤ n := Nat.div_le_self _ _
  rw [hp, ← Int.natCast_ediv]
  generalize n / 256 ^ i = q at *
  rw [and255 _ (by omega) (by omega)]
  unfold by8
  rw [UInt8.toNat_ofNat']
  congr 1
end Go.Proofs.Ytplfijhianmohaa
