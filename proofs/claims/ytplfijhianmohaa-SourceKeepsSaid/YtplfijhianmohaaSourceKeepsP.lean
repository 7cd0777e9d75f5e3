/-
  SourceKeeps returns true at every input, and what came in reads as it did: all that does not stand yet is kept, in order, as it was said, however far what is acknowledged falls; what stands never is less, and what it was is kept no more. No condition.
-/
import Derived.Test.YtplfijhianmohaaRows
import Derived.Test.YtplfijhianmohaaSKeeps
import Derived.WalkKit
import Derived.ProofKit
import Derived.OpenShut
import Derived.ShutString
import Derived.ChangeOld
import Derived.Below
import Derived.Deep.Slices
import Derived.Deep.Fields
import Derived.ChangeSame
namespace Go.Proofs.Ytplfijhianmohaa.sourceKeeps
open Go.ChangeShapes Go.WideShapes Go.ChangeAt Go.RowKit Go.Deep
set_option linter.unusedVariables false

theorem own : ownKnob Try.prog.godebug = none := by kernel_rfl
theorem laidOut : laidOutB Try.prog = true := by kernel_rfl

section
variable {H : Type} {enc : TypeId × Value → H} {P : Program} {w : World} {base : Nat} {spare : Nat → Bool} {held : Bool}
/-- A slice of pairs of one-cell elements: each one's cells, and their reading. -/
theorem open_slice_pairs {t e i : TypeId} {fuel : Nat} {cs : List Value} {x : DataW H × List MemPlace} (ht : P.underlying t = some (.slice e)) (he : P.underlying e = some (.array 2 i))
    (hi1 : P.cellsOf i = 1) (hC : P.cellsOf e = 2) (h : DataW.trod enc P w base spare held fuel t cs = some x) :
    cs = [.slice none 0 0] ∨
    ∃ (a : Addr) (len cap : Nat), cs = [.slice (some a) len cap] ∧ len ≤ cap ∧ cap ≤ maxLen ∧
      ∀ k, k < len → ∃ (n : Nat) (v0 v1 : Value) (y0 y1 : DataW H × List MemPlace), w.cell? (a.add (k * 2 + 0)) = some v0 ∧ w.cell? (a.add (k * 2 + 1)) = some v1 ∧ DataW.trod enc P w base spare held n i [v0] = some y0 ∧ DataW.trod enc P w base spare held n i [v1] = some y1 := by
  rcases open_slice ht h with h0 | ⟨a, len, cap, m, n, D, Pl, hcs, hb, hl, hm, hmm, hx, hi⟩
  · exact .inl h0.1
  · refine .inr ⟨a, len, cap, hcs, hl, hm, fun k hil => ?_⟩
    have him : k < m := by rw [hmm]; split <;> omega
    obtain ⟨cs', hc, ht'⟩ := hi k him
    rw [hC] at hc
    obtain ⟨xs, n', _, _, hlen, hxl, hf⟩ := DataW.trod_array he ht'
    obtain ⟨_, hcl, hat⟩ := World.cells?_some hc
    have one : ∀ j (hj : j < 2), ∃ v y, w.cell? (a.add (k * 2 + j)) = some v ∧ DataW.trod enc P w base spare held n' i [v] = some y := by
      intro j hj
      have hcell := hat j hj
      have hv : cs'[j]? = some (cs'[j]'(by omega)) := List.getElem?_eq_getElem (by omega)
      have h1 := hf j hj
      rw [hi1, Nat.mul_one, List.drop_eq_getElem_cons (by omega)] at h1
      have hys : xs[j]? = some (xs[j]'(by omega)) := List.getElem?_eq_getElem (by omega)
      refine ⟨_, _, ?_, h1.trans hys⟩
      rw [← Go.Deep.add_add, hcell, hv]
    obtain ⟨v0, y0, a0, b0⟩ := one 0 (by omega)
    obtain ⟨v1, y1, a1, b1⟩ := one 1 (by omega)
    exact ⟨n', v0, v1, y0, y1, a0, a1, b0, b1⟩
end

/-- what the walk is told of a slice of integers that came in -/
def IsRow (k : IntKind) (w : World) (a : Option Addr) (len cap : Nat) (zs : List Int) : Prop :=
  (a = none ∧ len = 0 ∧ cap = 0 ∧ zs = []) ∨
  ∃ x, a = some x ∧ len ≤ cap ∧ cap ≤ maxLen ∧ zs.length = cap ∧ (∀ i, i < zs.length → w.cell? (x.add i) = some (.int k (zs.getD i 0))) ∧ ∀ n ∈ zs, (Lit.int k n).wf = true

set_option maxRecDepth 100000 in
theorem lifted (os : Os) (started : os.Started) (H : Type) (enc : TypeId × Value → H) :
    ReturnsInHanded {} Try.checked os 3 .any (Rows.sourceKeepsSpec.pre6 enc Try.prog Try.f3 Rows.sourceKeepsRow.domain false) (Rows.sourceKeepsSpec.post enc Try.prog Try.f3 false true false false) := by
  refine returnsInHanded_of_change (C := Try.checked) own started (by kernel_rfl) Try.func3
    (ChangeSpec.witness6 (enc := enc) (C := Try.checked) false ⟨#[], #[.slice none 0 0, .slice none 0 0], []⟩ 8 (by kernel_rfl) (by kernel_rfl) (by kernel_rfl) (by kernel_rfl)) ?_
  intro W base args ds gs before hval0 hW hcnd _
  have hval : ∀ (j : Nat) t v, Try.f3.params[j]? = some t → args[j]? = some v → Value.okWide Try.prog W .any base t v := hval0
  have hW' := hW
  obtain ⟨p, q, hA0, hV, rfl, hfz, hnd⟩ := hW
  have hA : DataW.TrodAll enc Try.prog W 0 (fun _ => true) true Try.f3.params.toList args.toList ds p := hA0
  rw [Try.params3] at hA hval
  obtain ⟨v0, vs0, d0, ds0, p0, q0, hargs, rfl, rfl, h0, r0⟩ := trodAll_cons hA
  obtain ⟨v1, vs1, d1, ds1, p1, q1, rfl, rfl, rfl, h1, r1⟩ := trodAll_cons r0
  obtain ⟨rfl, rfl, rfl⟩ := trodAll_nil r1
  obtain rfl : args = #[v0, v1] := by cases args; simp_all
  obtain ⟨rfl, rfl⟩ := trodVars_none hV
  obtain ⟨a0, len0, cap0, rfl⟩ := okWide_slice Try.underlying22 (hval 0 22 v0 rfl rfl)
  obtain ⟨a1, len1, cap1, rfl⟩ := okWide_slice Try.underlying23 (hval 1 23 v1 rfl rfl)
  have k0 := h0
  have lt0 : ∀ x ∈ p0, x.block < W.heap.size := by obtain ⟨m, hm⟩ := k0; exact DataW.trod_lt m _ _ _ hm
  have k1 := h1
  have lt1 : ∀ x ∈ p1, x.block < W.heap.size := by obtain ⟨m, hm⟩ := k1; exact DataW.trod_lt m _ _ _ hm
  obtain ⟨z0, w0⟩ : ∃ zs, IsRow .i64 W a0 len0 cap0 zs := by
    obtain ⟨fuel, hf⟩ := h0
    rcases open_ints Try.underlying22 Try.underlying3 (by kernel_rfl) hf with ⟨hcs, _⟩ | ⟨x, l, c, zs, hcs, _, hl, hm, hz, _, hcell, hwz⟩
    · simp [Value.cells] at hcs
      obtain ⟨rfl, rfl, rfl⟩ := hcs
      exact ⟨[], .inl ⟨rfl, rfl, rfl, rfl⟩⟩
    · simp [Value.cells] at hcs
      obtain ⟨rfl, rfl, rfl⟩ := hcs
      exact ⟨zs, .inr ⟨_, rfl, hl, hm, by simpa using hz, hcell, hwz⟩⟩
  have hl0 : len0 ≤ 9223372036854775807 := by
    rcases w0 with ⟨_, h2, _⟩ | ⟨_, _, h2, h3, _⟩
    · omega
    · unfold maxLen at h3; omega
  have hz0 : Rd W a0 len0 (ints (z0.take len0)) := by
    rcases w0 with ⟨h1, h2, _⟩ | ⟨x, h1, h2, _, h4, h5, _⟩
    · exact rd_in (.inl ⟨h1, h2⟩)
    · exact rd_in (.inr ⟨x, h1, by omega, h5⟩)
  obtain ⟨zs, hz, hlen⟩ : ∃ zs, PairsAt W a1 len1 zs ∧ len1 ≤ 9223372036854775807 := by
    obtain ⟨fuel, hf⟩ := h1
    rcases open_slice_pairs Try.underlying23 Try.underlying31 (by kernel_rfl) (by kernel_rfl) hf with hcs | ⟨a, l, c, hcs, hl, hm, hi⟩
    · simp [Value.cells] at hcs
      obtain ⟨rfl, rfl, rfl⟩ := hcs
      exact ⟨[], ⟨rfl, fun h => by omega⟩, by omega⟩
    · simp [Value.cells] at hcs
      obtain ⟨rfl, rfl, rfl⟩ := hcs
      have hi3 : ∀ i, i < len1 → ∃ z : Int × Int, W.cell? (a.add (i * 2 + 0)) = some (.int .i64 z.1) ∧ W.cell? (a.add (i * 2 + 1)) = some (.int .i64 z.2) := by
        intro i hil
        obtain ⟨n, u0, u1, y0, y1, hc0, hc1, ht0, ht1⟩ := hi i hil
        obtain ⟨n0, e0, _, _⟩ := DataW.trod_int (k := .i64) Try.underlying3 ht0
        obtain ⟨n1, e1, _, _⟩ := DataW.trod_int (k := .i64) Try.underlying3 ht1
        simp only [List.cons.injEq, and_true] at e0 e1
        subst e0 e1
        exact ⟨(n0, n1), hc0, hc1⟩
      refine ⟨(List.range len1).map fun i => if h : i < len1 then Classical.choose (hi3 i h) else (0, 0), ⟨by simp, fun h0 => ?_⟩, by simpa [maxLen] using Nat.le_trans hl hm⟩
      obtain ⟨ab, ao, sp⟩ := a
      have hsp : sp = none := by
        obtain ⟨z, hz0, _⟩ := hi3 0 h0
        simpa [Addr.add] using World.cell?_spot hz0
      subst hsp
      refine ⟨ab, ao, rfl, ?_, fun i z hzi => ?_⟩
      · obtain ⟨z, hz0, _⟩ := hi3 0 h0
        rw [Addr.add_mid] at hz0
        exact World.block_lt_of_cell? W _ hz0
      · rw [List.getElem?_map] at hzi
        rcases Nat.lt_or_ge i len1 with hil | hil
        · rw [List.getElem?_range hil, Option.map_some, Option.some.injEq, dif_pos hil] at hzi
          have hch := Classical.choose_spec (hi3 i hil)
          rw [hzi] at hch
          obtain ⟨g0, g1⟩ := hch
          rw [Addr.add_mid] at g0 g1
          exact ⟨g0, g1⟩
        · rw [List.getElem?_eq_none (by simpa using hil)] at hzi
          cases hzi
  clear hA0 hval0
  refine (skeeps_walk a0 a1 len0 cap0 len1 cap1 _ zs W hz0 hl0 hz hlen).mono fun e W' ⟨he, hk⟩ => ?_
  subst he
  have bel := hk.below
  exact ⟨_, rfl, _, _, _, [], _, [], hW', trodAll_mk1 (shut_bool Try.underlying4 _), (trodAll_cons_mk (Below.trod laidOut (by kernel_rfl) (of_decide_eq_true (by kernel_rfl)) k0 bel lt0) (trodAll_cons_mk (Below.trod laidOut (by kernel_rfl) (of_decide_eq_true (by kernel_rfl)) k1 bel lt1) trodAll_mk0)), rfl, bel.frame _, fun h => by cases h⟩

theorem over : Rows.sourceKeepsRow.holds Try.pinned (OpenSpec.ofChange Rows.sourceKeepsSpec) :=
  OpenClaim.holds_of_wide 3 Try.f3 rfl rfl rfl rfl rfl rfl rfl ⟨rfl, rfl, rfl, rfl, rfl⟩ rfl rfl rfl rfl rfl (by kernel_rfl) Try.func3 (by kernel_rfl)
    (of_decide_eq_true (by kernel_rfl)) (by unfold Func.isWrapper; first | (rw [if_pos (by decide +kernel)]; kernel_rfl) | (rw [if_neg (by decide +kernel)]; exact ⟨rfl, rfl⟩))
    (fun os started H enc _ => lifted os started H enc)

/-- The statement. -/
theorem proved : Rows.SourceKeepsSaid := over
end Go.Proofs.Ytplfijhianmohaa.sourceKeeps
