/-
  LinkPlays returns true at every input, and what came in reads as it did: whatever is sent, taken, doubled and spoilt, each call answers, and what is under way is, as the document's own link has it. No condition.
-/
import Derived.Test.YtfbejbkacpkalaaRows
import Derived.Test.YtfbejbkacpkalaaLinkPW
import Derived.WalkKit
import Derived.ProofKit
import Derived.OpenShut
import Derived.ShutString
import Derived.ChangeOld
import Derived.Below
import Derived.Deep.Slices
import Derived.Deep.Fields
import Derived.ChangeSame
namespace Go.Proofs.Ytfbejbkacpkalaa.linkPlays
open Go.ChangeShapes Go.WideShapes Go.ChangeAt Go.RowKit Go.Deep
set_option linter.unusedVariables false

theorem own : ownKnob Try.prog.godebug = none := by kernel_rfl
theorem laidOut : laidOutB Try.prog = true := by kernel_rfl

section
variable {H : Type} {enc : TypeId × Value → H} {P : Program} {w : World} {base : Nat} {spare : Nat → Bool} {held : Bool}
/-- A slice of structs of one-cell fields: each field's cell, and its reading. -/
theorem open_slice_fields {t e : TypeId} {fs : Array Field} {fuel : Nat} {cs : List Value} {x : DataW H × List MemPlace} (ht : P.underlying t = some (.slice e)) (he : P.underlying e = some (.struct fs))
    (hone : oneCellFields P fs = true) (hC : P.cellsOf e = fs.size) (h : DataW.trod enc P w base spare held fuel t cs = some x) :
    cs = [.slice none 0 0] ∨
    ∃ (a : Addr) (len cap : Nat), cs = [.slice (some a) len cap] ∧ len ≤ cap ∧ cap ≤ maxLen ∧
      ∀ i, i < len → ∃ n : Nat, ∀ (j : Nat) (f : Field), fs[j]? = some f → ∃ (v : Value) (y : DataW H × List MemPlace), w.cell? (a.add (i * fs.size + j)) = some v ∧ DataW.trod enc P w base spare held n f.type [v] = some y := by
  rcases open_slice ht h with h0 | ⟨a, len, cap, m, n, D, Pl, hcs, hb, hl, hm, hmm, hx, hi⟩
  · exact .inl h0.1
  · refine .inr ⟨a, len, cap, hcs, hl, hm, fun i hil => ?_⟩
    have him : i < m := by rw [hmm]; split <;> omega
    obtain ⟨cs', hc, ht'⟩ := hi i him
    rw [hC] at hc
    obtain ⟨ys, n', hn', hy, hlen, hyl, hf⟩ := DataW.trod_struct he ht'
    obtain ⟨_, hcl, hat⟩ := World.cells?_some hc
    refine ⟨n', fun j f hj => ?_⟩
    obtain ⟨ho, hk⟩ := hone_of hone j f hj
    have hjl : j < fs.size := (Array.getElem?_eq_some_iff.1 hj).1
    have hcell := hat j hjl
    have hv : cs'[j]? = some (cs'[j]'(by omega)) := List.getElem?_eq_getElem (by omega)
    have h1 := hf j f hj
    rw [ho, hk] at h1
    have hone' : (cs'.drop j).take 1 = [cs'[j]'(by omega)] := by
      rw [List.drop_eq_getElem_cons (by omega)]
      rfl
    rw [hone'] at h1
    have hys : ys[j]? = some (ys[j]'(by omega)) := List.getElem?_eq_getElem (by omega)
    refine ⟨_, _, ?_, h1.trans hys⟩
    rw [← Go.Deep.add_add, hcell, hv]
end

set_option maxRecDepth 100000 in
theorem lifted (os : Os) (started : os.Started) (H : Type) (enc : TypeId × Value → H) :
    ReturnsInHanded {} Try.checked os 5 .any (Rows.linkPlaysSpec.pre6 enc Try.prog Try.f5 Rows.linkPlaysRow.domain false) (Rows.linkPlaysSpec.post enc Try.prog Try.f5 false true false false) := by
  refine returnsInHanded_of_change (C := Try.checked) own started (by kernel_rfl) Try.func5
    (ChangeSpec.witness6 (enc := enc) (C := Try.checked) false ⟨#[], #[.slice none 0 0], []⟩ 8 (by kernel_rfl) (by kernel_rfl) (by kernel_rfl) (by kernel_rfl)) ?_
  intro W base args ds gs before hval0 hW hcnd _
  have hval : ∀ (j : Nat) t v, Try.f5.params[j]? = some t → args[j]? = some v → Value.okWide Try.prog W .any base t v := hval0
  have hW' := hW
  obtain ⟨p, q, hA0, hV, rfl, hfz, hnd⟩ := hW
  have hA : DataW.TrodAll enc Try.prog W 0 (fun _ => true) true Try.f5.params.toList args.toList ds p := hA0
  rw [Try.params5] at hA hval
  obtain ⟨v0, vs0, d0, ds0, p0, q0, hargs, rfl, rfl, h0, r0⟩ := trodAll_cons hA
  obtain ⟨rfl, rfl, rfl⟩ := trodAll_nil r0
  obtain rfl : args = #[v0] := by cases args; simp_all
  obtain ⟨rfl, rfl⟩ := trodVars_none hV
  obtain ⟨a0, len0, cap0, rfl⟩ := okWide_slice Try.underlying42 (hval 0 42 v0 rfl rfl)
  have k0 := h0
  have lt0 : ∀ x ∈ p0, x.block < W.heap.size := by obtain ⟨m, hm⟩ := k0; exact DataW.trod_lt m _ _ _ hm
  obtain ⟨zs, hz, hlen⟩ : ∃ zs, ActsAt W a0 len0 zs ∧ len0 ≤ 9223372036854775807 := by
    obtain ⟨fuel, hf⟩ := h0
    rcases open_slice_fields Try.underlying42 Try.underlying47 (by kernel_rfl) (by kernel_rfl) hf with hcs | ⟨a, l, c, hcs, hl, hm, hi⟩
    · simp [Value.cells] at hcs
      obtain ⟨rfl, rfl, rfl⟩ := hcs
      exact ⟨[], ⟨rfl, fun h => by omega⟩, by omega⟩
    · simp [Value.cells] at hcs
      obtain ⟨rfl, rfl, rfl⟩ := hcs
      have hi3 : ∀ i, i < len0 → ∃ z : Int × Int × Int, W.cell? (a.add (i * 3 + 0)) = some (.int .i64 z.1) ∧ W.cell? (a.add (i * 3 + 1)) = some (.int .i64 z.2.1) ∧ W.cell? (a.add (i * 3 + 2)) = some (.int .i64 z.2.2) ∧ (Lit.int .i64 z.2.2).wf = true := by
        intro i hil
        obtain ⟨n, hj⟩ := hi i hil
        obtain ⟨u0, y0, hc0, ht0⟩ := hj 0 _ rfl
        obtain ⟨u1, y1, hc1, ht1⟩ := hj 1 _ rfl
        obtain ⟨u2, y2, hc2, ht2⟩ := hj 2 _ rfl
        obtain ⟨n0, e0, _, _⟩ := DataW.trod_int (k := .i64) Try.underlying3 ht0
        obtain ⟨n1, e1, _, _⟩ := DataW.trod_int (k := .i64) Try.underlying3 ht1
        obtain ⟨n2, e2, _, w2⟩ := DataW.trod_int (k := .i64) Try.underlying3 ht2
        simp only [List.cons.injEq, and_true] at e0 e1 e2
        subst e0 e1 e2
        exact ⟨(n0, n1, n2), hc0, hc1, hc2, w2⟩
      refine ⟨(List.range len0).map fun i => if h : i < len0 then Classical.choose (hi3 i h) else (0, 0, 0), ⟨by simp, fun h0 => ?_⟩, by simpa [maxLen] using Nat.le_trans hl hm⟩
      obtain ⟨ab, ao, sp⟩ := a
      have hsp : sp = none := by
        obtain ⟨z, hz0, _⟩ := hi3 0 h0
        simpa [Addr.add] using World.cell?_spot hz0
      subst hsp
      refine ⟨ab, ao, rfl, ?_, fun i z hzi => ?_⟩
      · obtain ⟨z, hz0, _⟩ := hi3 0 h0
        rw [Addr.add_mid] at hz0
        exact World.block_lt_of_cell? W _ hz0
      · rw [List.getElem?_map] at hzi
        rcases Nat.lt_or_ge i len0 with hil | hil
        · rw [List.getElem?_range hil, Option.map_some, Option.some.injEq, dif_pos hil] at hzi
          have hch := Classical.choose_spec (hi3 i hil)
          rw [hzi] at hch
          obtain ⟨g0, g1, g2, g3⟩ := hch
          rw [Addr.add_mid] at g0 g1 g2
          refine ⟨g0, g1, g2, ?_⟩
          simpa [Lit.wf, IntKind.min, IntKind.max, IntKind.bits, IntKind.signed] using g3
        · rw [List.getElem?_eq_none (by simpa using hil)] at hzi
          cases hzi
  clear hA0 hval0
  refine (plays_walk a0 len0 cap0 zs W hz hlen).mono fun e W' ⟨he, hk⟩ => ?_
  subst he
  have bel := hk.below
  exact ⟨_, rfl, _, _, _, [], _, [], hW', trodAll_mk1 (shut_bool Try.underlying4 _), (trodAll_cons_mk (Below.trod laidOut (by kernel_rfl) (of_decide_eq_true (by kernel_rfl)) k0 bel lt0) trodAll_mk0), rfl, bel.frame _, fun h => by cases h⟩

theorem over : Rows.linkPlaysRow.holds Try.pinned (OpenSpec.ofChange Rows.linkPlaysSpec) :=
  OpenClaim.holds_of_wide 5 Try.f5 rfl rfl rfl rfl rfl rfl rfl ⟨rfl, rfl, rfl, rfl, rfl⟩ rfl rfl rfl rfl rfl (by kernel_rfl) Try.func5 (by kernel_rfl)
    (of_decide_eq_true (by kernel_rfl)) (by unfold Func.isWrapper; first | (rw [if_pos (by decide +kernel)]; kernel_rfl) | (rw [if_neg (by decide +kernel)]; exact ⟨rfl, rfl⟩))
    (fun os started H enc _ => lifted os started H enc)

/-- The statement. -/
theorem proved : Rows.LinkPlaysSaid := over
end Go.Proofs.Ytfbejbkacpkalaa.linkPlays
