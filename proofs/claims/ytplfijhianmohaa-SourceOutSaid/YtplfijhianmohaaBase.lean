/-
  Plain laws on worlds, addresses, rows of cells: no program in sight.
-/
import Derived.Test.YtplfijhianmohaaRows
import Derived.WalkKit
import Derived.WalkSpells
import Derived.WalkLawsBesides
import Derived.BigQuiet
import Derived.Deep.QuietTactic
import Derived.Deep.RegionHeld3
import Derived.Deep.AppendLies
import Derived.Deep.Draws
import Derived.Laws.CopyOwn
namespace Go.Proofs.Ytplfijhianmohaa
open Go.RowKit

/-- Between w and w' only blocks of l have turned; new ones may have come. -/
structure Keep (l : List Nat) (w w' : World) : Prop where
  os : w'.os = w.os
  tape : w'.tape = w.tape
  output : w'.output = w.output
  size : w.heap.size ≤ w'.heap.size
  block : ∀ k, k < w.heap.size → k ∉ l → w'.heap[k]? = w.heap[k]?

namespace Keep
variable {l m : List Nat} {w w1 w2 : World}
theorem refl (l : List Nat) (w : World) : Keep l w w := ⟨rfl, rfl, rfl, Nat.le_refl _, fun _ _ _ => rfl⟩
theorem trans (h : Keep l w w1) (k : Keep m w1 w2) (hm : ∀ x ∈ m, x ∈ l ∨ w.heap.size ≤ x) : Keep l w w2 :=
  ⟨k.os.trans h.os, k.tape.trans h.tape, k.output.trans h.output, Nat.le_trans h.size k.size, fun i hi hl =>
    (k.block i (Nat.lt_of_lt_of_le hi h.size) (fun hx => (hm i hx).elim hl (by omega))).trans (h.block i hi hl)⟩
theorem trans0 (h : Keep l w w1) (k : Keep [] w1 w2) : Keep l w w2 := h.trans k (fun _ hx => by cases hx)
theorem mono (h : Keep l w w1) (hm : ∀ x ∈ l, x ∈ m ∨ w.heap.size ≤ x) : Keep m w w1 :=
  ⟨h.os, h.tape, h.output, h.size, fun i hi hl => h.block i hi (fun hx => (hm i hx).elim hl (by omega))⟩
theorem zero (h : Keep [] w w1) : Keep l w w1 := h.mono (fun _ hx => by cases hx)
theorem drew (h : Keep l w w1) : Keep l w w1.drew := ⟨h.os, h.tape, h.output, h.size, h.block⟩
theorem drewN (h : Keep l w w1) (n : Nat) : Keep l w (w1.drewN n) := ⟨h.os, h.tape, h.output, h.size, h.block⟩
theorem alloc (h : Keep l w w1) (o : Obj) : Keep l w (w1.alloc o) :=
  h.trans (m := []) ⟨rfl, rfl, rfl, by simp, fun k hk _ => Below.heap_alloc _ _ _ hk⟩ (fun _ hx => by cases hx)
theorem setCell (h : Keep l w w1) {p : Addr} (hp : p.block ∈ l ∨ w.heap.size ≤ p.block) (u : Value) : Keep l w (w1.setCell p u) :=
  h.trans (m := [p.block]) ⟨rfl, rfl, rfl, by simp, fun k _ hk => Below.heap_setCell _ _ _ _ (fun e => hk (by simp [e]))⟩ (fun x hx => by
    have : x = p.block := by simpa using hx
    subst this; exact hp)
theorem grown (h : Keep l w w1) {row : Option Nat} (hg : w1.grownBy w2 row) (hr : ∀ g, row = some g → g ∈ l ∨ w.heap.size ≤ g) : Keep l w w2 :=
  h.trans (m := row.toList) ⟨hg.os, hg.tape, hg.output, hg.size, fun k hk hn => hg.block k hk (fun e => hn (by simp [← e]))⟩ (fun x hx => hr x (by simpa using hx))
theorem ofDrewN (n : Nat) : Keep l w (w.drewN n) := (refl l w).drewN n
theorem cell (h : Keep l w w1) {b : Nat} (hb : b < w.heap.size) (hl : b ∉ l) (o : Nat) : w1.cell? ⟨b, o, none⟩ = w.cell? ⟨b, o, none⟩ :=
  World.cell?_of_block (w := w) (h.block b hb hl)
theorem cellA (h : Keep l w w1) {p : Addr} (hb : p.block < w.heap.size) (hl : p.block ∉ l) : w1.cell? p = w.cell? p :=
  World.cell?_of_block (w := w) (h.block _ hb hl)
theorem frozen (h : Keep l w w1) {b : Nat} (hb : b < w.heap.size) (hl : b ∉ l) (o : Nat) : w1.frozen? ⟨b, o, none⟩ = w.frozen? ⟨b, o, none⟩ :=
  World.frozen?_of_block (w := w) (h.block b hb hl)
theorem below (h : Keep [] w w1) : Below w.heap.size w w1 := ⟨h.os, h.tape, h.output, h.size, fun k hk => h.block k hk (by simp)⟩
theorem ofBelow (h : Below w.heap.size w w1) : Keep l w w1 := ⟨h.os, h.tape, h.output, h.size, fun k hk _ => h.block k hk⟩
theorem ofGrown {row : Option Nat} (hg : w.grownBy w1 row) : Keep row.toList w w1 :=
  ⟨hg.os, hg.tape, hg.output, hg.size, fun k hk hn => hg.block k hk (fun e => hn (by simp [← e]))⟩
theorem lt (h : Keep l w w1) {b : Nat} (hb : b < w.heap.size) : b < w1.heap.size := Nat.lt_of_lt_of_le hb h.size
end Keep

/-- Block g is just the cells cs of element type t, none frozen. -/
def Blk (w : World) (g : Nat) (t : TypeId) (cs : Array Value) : Prop := w.heap[g]? = some (.cells cs t (0, 0))
namespace Blk
variable {w w' : World} {g : Nat} {t : TypeId} {cs : Array Value}
theorem lt (h : Blk w g t cs) : g < w.heap.size := by
  rcases Nat.lt_or_ge g w.heap.size with hlt | hge
  · exact hlt
  · unfold Blk at h; rw [Array.getElem?_eq_none hge] at h; cases h
theorem cell (h : Blk w g t cs) (i : Nat) : w.cell? ⟨g, i, none⟩ = cs[i]? := cell_of_row w g i cs t (0, 0) h
theorem frozen (h : Blk w g t cs) (i : Nat) : w.frozen? ⟨g, i, none⟩ = false := by
  unfold Blk at h
  simp [World.frozen?, h]
theorem new (w : World) (t : TypeId) (cs : Array Value) : Blk (w.alloc (.cells cs t)) w.heap.size t cs := heap_alloc_new w _
theorem drew (h : Blk w g t cs) : Blk w.drew g t cs := h
theorem drewN (h : Blk w g t cs) (n : Nat) : Blk (w.drewN n) g t cs := h
theorem alloc (h : Blk w g t cs) (o : Obj) : Blk (w.alloc o) g t cs := (Below.heap_alloc w o g h.lt).trans h
theorem set (h : Blk w g t cs) (i : Nat) (u : Value) : Blk (w.setCell ⟨g, i, none⟩ u) g t (cs.setIfInBounds i u) := by
  unfold Blk at h ⊢
  simp [World.setCell, Array.getElem?_modify, h]
theorem far (h : Blk w g t cs) {p : Addr} (hp : g ≠ p.block) (u : Value) : Blk (w.setCell p u) g t cs := (Below.heap_setCell w p u g hp).trans h
theorem keep {l : List Nat} (h : Blk w g t cs) (hk : Keep l w w') (hg : g ∉ l) : Blk w' g t cs := (hk.block g h.lt hg).trans h
theorem keep0 (h : Blk w g t cs) (hk : Keep [] w w') : Blk w' g t cs := h.keep hk (by simp)
theorem grown {row : Option Nat} (h : Blk w g t cs) (hb : w.grownBy w' row) (hg : some g ≠ row) : Blk w' g t cs := (hb.block g h.lt hg).trans h
theorem ne_ {g' : Nat} {t' : TypeId} {cs' : Array Value} (h : Blk w g t cs) (h' : Blk w g' t' cs') (hne : t ≠ t') : g ≠ g' := by
  rintro rfl
  unfold Blk at h h'
  rw [h] at h'
  injection h' with h'
  injection h' with _ ht
  exact hne ht
end Blk

/-- The n elements (of one cell each) of a slice at A read as xs. -/
def Rd (w : World) (A : Option Addr) (n : Nat) (xs : List Value) : Prop :=
  xs.length = n ∧ (0 < n → ∃ b o, A = some ⟨b, o, none⟩ ∧ b < w.heap.size ∧ ∀ j u, xs[j]? = some u → w.cell? ⟨b, o + j, none⟩ = some u)
namespace Rd
variable {w w' : World} {A : Option Addr} {n : Nat} {xs : List Value}
theorem at_ (h : Rd w A n xs) {j : Nat} (hj : j < n) : ∃ b o u, A = some ⟨b, o, none⟩ ∧ xs[j]? = some u ∧ b < w.heap.size ∧ w.cell? ⟨b, o + j, none⟩ = some u := by
  obtain ⟨b, o, rfl, hb, hc⟩ := h.2 (by omega)
  have hx : xs[j]? = some (xs[j]'(by rw [h.1]; exact hj)) := List.getElem?_eq_getElem _
  exact ⟨b, o, _, rfl, hx, hb, hc j _ hx⟩
theorem keepIf {l : List Nat} (h : Rd w A n xs) (hk : Keep l w w') (hg : ∀ a, A = some a → a.block ∉ l) : Rd w' A n xs :=
  ⟨h.1, fun hn => by
    obtain ⟨b, o, e, hb, hc⟩ := h.2 hn
    exact ⟨b, o, e, hk.lt hb, fun j u hu => (hk.cell hb (hg _ e) _).trans (hc j u hu)⟩⟩
theorem keep (h : Rd w A n xs) (hk : Keep [] w w') : Rd w' A n xs := h.keepIf hk (by simp)
theorem drewN (h : Rd w A n xs) (k : Nat) : Rd (w.drewN k) A n xs := h
theorem drew (h : Rd w A n xs) : Rd w.drew A n xs := h
theorem nil (w : World) (A : Option Addr) : Rd w A 0 [] := ⟨rfl, fun h => absurd h (by omega)⟩
theorem cut (h : Rd w A n xs) {k cap : Nat} (hk : k ≤ n) (hc : n ≤ cap) : Rd w (if cap = k then A else A.map (·.add k)) (n - k) (xs.drop k) := by
  refine ⟨by rw [List.length_drop, h.1], fun hn => ?_⟩
  obtain ⟨b, o, rfl, hb, hcell⟩ := h.2 (by omega)
  rw [if_neg (by omega)]
  refine ⟨b, o + k, by simp [Addr.add_mid], hb, fun j u hu => ?_⟩
  rw [show o + k + j = o + (k + j) by omega]
  exact hcell _ u (by rw [← hu, List.getElem?_drop])
theorem take (h : Rd w A n xs) {k : Nat} (hk : k ≤ n) : Rd w A k (xs.take k) := by
  refine ⟨by rw [List.length_take, h.1]; omega, fun hn => ?_⟩
  obtain ⟨b, o, rfl, hb, hcell⟩ := h.2 (by omega)
  refine ⟨b, o, rfl, hb, fun j u hu => hcell j u ?_⟩
  rw [List.getElem?_take] at hu
  split at hu
  · exact hu
  · cases hu
theorem of_own {base : Nat} {e : TypeId} {c : Nat} (h : w.ownsRow base e 1 (.slice A n c) n xs) : Rd w A n xs := by
  refine ⟨by simpa using h.1, fun hn => ?_⟩
  obtain ⟨g, cap, hv, _, hlt⟩ := h.form hn
  have hA : A = some ⟨g, 0, none⟩ := by injection hv
  subst hA
  refine ⟨g, 0, rfl, hlt, fun j u hu => ?_⟩
  have := h.cells (g := g) rfl j u hu
  rwa [Addr.add_mid] at this
theorem of_own' {base : Nat} {e : TypeId} {c : Nat} (h : w.ownsRow base e 1 (.slice A n c) n xs) : Rd w A n xs := of_own h
theorem of_blk {g : Nat} {t : TypeId} {cs : Array Value} (h : Blk w g t cs) (hn : n ≤ cs.size) : Rd w (some ⟨g, 0, none⟩) n (cs.toList.take n) := by
  refine ⟨by simp; omega, fun _ => ⟨g, 0, rfl, h.lt, fun j u hu => ?_⟩⟩
  rw [h.cell]
  rw [List.getElem?_take] at hu
  split at hu
  · simpa using hu
  · cases hu
end Rd

/-- bytes as values -/
def by8 (c : UInt8) : Value := .int .u8 c.toNat
def bys (bs : List UInt8) : List Value := bs.map by8
def i64 (z : Int) : Value := .int .i64 z
def ints (zs : List Int) : List Value := zs.map i64
@[simp] theorem length_bys (bs : List UInt8) : (bys bs).length = bs.length := by simp [bys]
@[simp] theorem length_ints (bs : List Int) : (ints bs).length = bs.length := by simp [ints]
theorem bys_get (bs : List UInt8) (j : Nat) (h : j < bs.length) : (bys bs)[j]? = some (by8 bs[j]) := by simp [bys, h]
theorem bys_append (a b : List UInt8) : bys (a ++ b) = bys a ++ bys b := by simp [bys]
theorem bys_take (a : List UInt8) (n : Nat) : (bys a).take n = bys (a.take n) := by simp [bys, List.map_take]
theorem bys_drop (a : List UInt8) (n : Nat) : (bys a).drop n = bys (a.drop n) := by simp [bys, List.map_drop]
theorem bys_one (bs : List UInt8) : ∀ u ∈ bys bs, u.oneCell' = true := by
  intro u hu
  simp only [bys, List.mem_map] at hu
  obtain ⟨c, _, rfl⟩ := hu
  rfl
theorem ints_one (bs : List Int) : ∀ u ∈ ints bs, u.oneCell' = true := by
  intro u hu
  simp only [ints, List.mem_map] at hu
  obtain ⟨c, _, rfl⟩ := hu
  rfl
theorem bys_inj {a b : List UInt8} (h : bys a = bys b) : a = b := by
  induction a generalizing b with
  | nil => cases b with
    | nil => rfl
    | cons y b => simp [bys] at h
  | cons x a ih => cases b with
    | nil => simp [bys] at h
    | cons y b =>
      simp only [bys, List.map_cons, List.cons.injEq, by8, Value.int.injEq, true_and] at h
      obtain ⟨h1, h2⟩ := h
      have hxy : x = y := UInt8.toNat_inj.1 (by omega)
      rw [hxy, ih h2]
theorem hide {p : Prop} (h : p) : Hid p := h
theorem unhide {p : Prop} (h : Hid p) : p := h
theorem quiet_add_left {P : Program} {f : FuncId} {args : Array Value} {w : World} {a n : Nat} {v : Value}
    (h : Calls P f args (w.drewN (a + n)) fun e w' => e = .returned v ∧ ∃ m, (w.drewN (a + n)).drewN m = w') :
    Calls P f args (w.drewN (a + n)) fun e w'' => e = .returned v ∧ ∃ m, w'' = w.drewN (a + m) :=
  h.mono fun _ _ ⟨he, m, hm⟩ => ⟨he, n + m, by rw [← hm, World.drewN_drewN, Nat.add_assoc]⟩
theorem quiet_left {P : Program} {f : FuncId} {args : Array Value} {w : World} {n : Nat} {v : Value}
    (h : Calls P f args (w.drewN n) fun e w' => e = .returned v ∧ ∃ m, (w.drewN n).drewN m = w') : Calls P f args (w.drewN n) fun e w'' => e = .returned v ∧ ∃ m, w'' = w.drewN m :=
  h.mono fun _ _ ⟨he, m, hm⟩ => ⟨he, n + m, by rw [← hm, World.drewN_drewN]⟩
theorem quiet_add_same {P : Program} {f : FuncId} {args : Array Value} {w : World} {a n : Nat} {v : Value}
    (h : Calls P f args (w.drewN (a + n)) fun e w' => e = .returned v ∧ w.drewN (a + n) = w') :
    Calls P f args (w.drewN (a + n)) fun e w'' => e = .returned v ∧ ∃ m, w'' = w.drewN (a + m) :=
  h.mono fun _ _ ⟨he, hm⟩ => ⟨he, n, hm.symm⟩
theorem quiet_same {P : Program} {f : FuncId} {args : Array Value} {w : World} {n : Nat} {v : Value}
    (h : Calls P f args (w.drewN n) fun e w' => e = .returned v ∧ w.drewN n = w') : Calls P f args (w.drewN n) fun e w'' => e = .returned v ∧ ∃ m, w'' = w.drewN m :=
  h.mono fun _ _ ⟨he, hm⟩ => ⟨he, n, hm.symm⟩
theorem ex_drewN (w : World) (a b : Nat) : ∃ k, w.drewN k = (w.drewN a).drewN b := ⟨a + b, by simp⟩
theorem ret_int {k : IntKind} {a b : Int} (h : a = b) : Ending.returned (.int k a) = .returned (.int k b) := by rw [h]
theorem ret_bool {a b : Bool} (h : a = b) : Ending.returned (.bool a) = .returned (.bool b) := by rw [h]
end Go.Proofs.Ytplfijhianmohaa
