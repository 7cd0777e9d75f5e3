/-
  A region that draws its order, walked once: operations that yield the same value in every world that meets S are taken as soon as they may come up;
  the others come up one at a time; a tail that is forced behind all of these is walked as a plain list (S is not asked of it).
-/
import Derived.Test.YtplfijhianmohaaBase
import Derived.StillTail
import Derived.OrdersHeld
namespace Go.Proofs.Ytplfijhianmohaa
open Go.RowKit

variable {P : Program} {ops : Array Oper} {md : Region.Mode} {S : World → Prop} {Q : Exit → Act → World → Prop}

def wpHL (P : Program) (md : Region.Mode) (ops : Array Oper) (Q : Exit → Act → World → Prop) (S : World → Prop) (n : Nat) (L : Array Bool → Act → World → Prop) : Nat → Array Bool → Act → World → Prop
  | 0, listed, a, w => L listed a w
  | f + 1, listed, a, w =>
    Region.ready md ops listed ≠ [] ∧ ∀ i ∈ Region.ready md ops listed, i < n ∧ wpOp P ops Q i (fun a' w' => S w' ∧ wpHL P md ops Q S n L f (listed.setIfInBounds i true) a' w') a w

theorem wpAny_of_wpHL {n g : Nat} {L : Array Bool → Act → World → Prop} (hL : ∀ listed a w, L listed a w → wpAny P md ops Q g listed a w) :
    ∀ (f : Nat) (listed : Array Bool) (a : Act) (w : World), wpHL P md ops Q S n L f listed a w → wpAny P md ops Q (f + g) listed a w
  | 0, listed, a, w, h => by rw [Nat.zero_add]; exact hL _ _ _ h
  | f + 1, listed, a, w, h => by
    rw [show f + 1 + g = (f + g) + 1 by omega]
    exact ⟨fun h0 => absurd h0 h.1, fun i hi => wpOp_mono (fun a' w' h' => wpAny_of_wpHL hL f _ a' w' h'.2) (h.2 i hi).2⟩

theorem wpHL_first {n i : Nat} {oi : Oper} {v : Value} {L : Array Bool → Act → World → Prop} (hi : ops[i]? = some oi) (hsel : ∀ (j : Nat) (o : Oper) cs b, ops[j]? = some o → o.op ≠ .select cs b)
    (hs : Region.sinkB md ops n = true) (hc : Region.chainB md ops n = true) (hn : n < ops.size) (hin : i < n)
    (hdone : ∀ listed a w, L listed a w → ∀ j ∈ Region.ready md ops listed, n ≤ j) (hQ : ∀ c a w, Q (.panic c) (a.put oi.dst v) w → Q (.panic c) a w) :
    ∀ (f : Nat) (listed : Array Bool) (a : Act) (w : World), HeadInv md ops n listed →
      (∀ j oj, ops[j]? = some oj → j ≠ i → listed.getD j true = false → (∀ e ∈ oj.after, Region.binds md e = true → e.on ≠ i) → oi.apart ops oj = true) →
      i ∈ Region.ready md ops listed → YieldsIf P ops S oi v a → S w →
      wpHL P md ops Q S n L f (listed.setIfInBounds i true) (a.put oi.dst v) w → wpHL P md ops Q S n L (f + 1) listed a w := by
  intro f
  induction f with
  | zero =>
    intro listed a w inv _ hr hy hS H
    have hun := (mem_ready.1 hr).1
    refine ⟨fun h => (by rw [h] at hr; cases hr), fun j hj => ?_⟩
    have hjn : j < n := by
      rcases Nat.lt_or_ge j n with h | h
      · exact h
      · exact absurd hj (tail_waits hs hc hn inv _ i rfl hin hun j h)
    refine ⟨hjn, ?_⟩
    by_cases hji : j = i
    · subst hji; exact hy.wpOp hi hS ⟨hS, H⟩
    · have := hdone _ _ _ H j (ready_mono hj hji)
      omega
  | succ f ih =>
    intro listed a w inv hfree hr hy hS H
    have hun := (mem_ready.1 hr).1
    refine ⟨fun h => (by rw [h] at hr; cases hr), fun j hj => ?_⟩
    have hjn : j < n := by
      rcases Nat.lt_or_ge j n with h | h
      · exact h
      · exact absurd hj (tail_waits hs hc hn inv _ i rfl hin hun j h)
    refine ⟨hjn, ?_⟩
    by_cases hji : j = i
    · subst hji; exact hy.wpOp hi hS ⟨hS, H⟩
    · have h1 := (H.2 j (ready_mono hj hji)).2
      obtain ⟨hjun, oj, hoj, hall⟩ := mem_ready.1 hj
      have hnot : ∀ e ∈ oj.after, Region.binds md e = true → e.on ≠ i := fun e he hb heq => by
        have h1 := hall e he hb
        rw [heq, getD_both hun] at h1
        cases h1
      have h2 := wpOp_putIf hoj (hfree j oj hoj hji hjun hnot) (fun cs b => hsel i oi cs b hi) (fun cs b => hsel j oj cs b hoj) hQ hy h1
      have hfree' : ∀ k ok, ops[k]? = some ok → k ≠ i → (listed.setIfInBounds j true).getD k true = false →
          (∀ e ∈ ok.after, Region.binds md e = true → e.on ≠ i) → oi.apart ops ok = true := fun k ok hk hki hun hno => by
        refine hfree k ok hk hki ?_ hno
        by_cases hjk : j = k
        · subst hjk; exact hjun
        · rw [getD_set_ne true hjk] at hun; exact hun
      refine wpOp_mono (fun a' w' h3 => ⟨h3.2.1, ih (listed.setIfInBounds j true) a' w' (inv.set hj hjn) hfree' (ready_mono hr (Ne.symm hji)) h3.1 h3.2.1 ?_⟩) h2
      rw [Array.setIfInBounds_comm _ _ hji]
      exact h3.2.2

/-- one operation of a list -/
def wpO (P : Program) (ops : Array Oper) (Q : Exit → Act → World → Prop) (o : Oper) (K : Act → World → Prop) (a : Act) (w : World) : Prop :=
  if Region.wanted o (yielded ops a.tmps) then o.wp P a w K Q ∨ (o.asks P a w ∧ LetsOut Q) else K (a.put o.dst undef) w

/-- The walk: an operation marked false yields one value wherever S holds; one marked true is carried out, and S is shown anew. -/
def wpT (P : Program) (ops : Array Oper) (Q : Exit → Act → World → Prop) (S : World → Prop) (L : Act → World → Prop) : List (Oper × Bool) → Act → World → Prop
  | [], a, w => L a w
  | (o, false) :: rest, a, w => ∃ v, YieldsIf P ops S o v a ∧ wpT P ops Q S L rest (a.put o.dst v) w
  | (o, true) :: rest, a, w => wpO P ops Q o (fun a' w' => S w' ∧ wpT P ops Q S L rest a' w') a w

def picked (l : List Oper) (p : List (Nat × Bool)) : List (Oper × Bool) := p.filterMap fun (i, b) => (l[i]?).map fun o => (o, b)

def Region.orderB (md : Region.Mode) (ops : Array Oper) (n g : Nat) : List (Nat × Bool) → Array Bool → Bool
  | [], listed => Region.seqB md ops g n listed
  | (k, false) :: p, listed => decide (k < n) && (Region.ready md ops listed).contains k && Region.free md ops listed k && Region.orderB md ops n g p (listed.setIfInBounds k true)
  | (k, true) :: p, listed => decide (k < n) && decide (Region.ready md ops listed = [k]) && Region.orderB md ops n g p (listed.setIfInBounds k true)

def Region.htB (md : Region.Mode) (ops : Array Oper) (n : Nat) (p : List (Nat × Bool)) : Bool :=
  Region.noSelect ops && decide (n < ops.size) && decide (p.length = n) && Region.sinkB md ops n && Region.chainB md ops n && Region.orderB md ops n (ops.size - n) p (Array.replicate ops.size false)

theorem wpHL_of_wpT {l : List Oper} {n g : Nat} {Lq : Act → World → Prop} (hsel : Region.noSelect l.toArray = true) (hs : Region.sinkB md l.toArray n = true) (hc : Region.chainB md l.toArray n = true) (hn : n < l.toArray.size)
    (hQ : ∀ c a d v w, Q (.panic c) (a.put d v) w → Q (.panic c) a w) :
    ∀ (p : List (Nat × Bool)) (listed : Array Bool) (a : Act) (w : World), HeadInv md l.toArray n listed → Region.orderB md l.toArray n g p listed = true → S w →
      wpT P l.toArray Q S Lq (picked l p) a w → wpHL P md l.toArray Q S n (fun listed' a' w' => Region.seqB md l.toArray g n listed' = true ∧ Lq a' w') p.length listed a w
  | [], listed, a, w, _, hB, _, h => ⟨by simpa [Region.orderB] using hB, by simpa [picked, wpT] using h⟩
  | (k, false) :: p, listed, a, w, inv, hB, hS, h => by
    simp only [Region.orderB, Bool.and_eq_true, decide_eq_true_eq] at hB
    obtain ⟨⟨⟨hk, hr⟩, hf⟩, hB'⟩ := hB
    have hr' : k ∈ Region.ready md l.toArray listed := by simpa using hr
    obtain ⟨_, o, ho, _⟩ := mem_ready.1 hr'
    have ho' : l[k]? = some o := by simpa using ho
    have hp : picked l ((k, false) :: p) = (o, false) :: picked l p := by simp [picked, ho']
    rw [hp] at h
    obtain ⟨v, hy, hK⟩ := h
    exact wpHL_first ho (Region.noSelect_spec hsel) hs hc hn hk (fun listed' a' w' hL => seqB_ready hL.1) (fun c a w => hQ c a _ _ w) p.length listed a w inv (Region.free_spec ho hf) hr' hy hS
      (wpHL_of_wpT hsel hs hc hn hQ p _ _ _ (inv.set hr' hk) hB' hS hK)
  | (k, true) :: p, listed, a, w, inv, hB, hS, h => by
    simp only [Region.orderB, Bool.and_eq_true, decide_eq_true_eq] at hB
    obtain ⟨⟨hk, hr⟩, hB'⟩ := hB
    have hr' : k ∈ Region.ready md l.toArray listed := by rw [hr]; simp
    obtain ⟨_, o, ho, _⟩ := mem_ready.1 hr'
    have ho' : l[k]? = some o := by simpa using ho
    have hp : picked l ((k, true) :: p) = (o, true) :: picked l p := by simp [picked, ho']
    rw [hp] at h
    refine ⟨fun h0 => (by rw [h0] at hr'; cases hr'), fun i hi => ?_⟩
    rw [hr] at hi
    obtain rfl : i = k := by simpa using hi
    refine ⟨hk, ?_⟩
    have hw : wpOp P l.toArray Q i (fun a' w' => S w' ∧ wpT P l.toArray Q S Lq (picked l p) a' w') a w := by
      unfold wpOp
      simp only [ho]
      exact h
    exact wpOp_mono (fun a' w' h' => ⟨h'.1, wpHL_of_wpT hsel hs hc hn hQ p _ _ _ (inv.set hr' hk) hB' h'.1 h'.2⟩) hw

/-- THE LAW. n: how many operations stand ahead of the tail; p: these, in an order in which they may come up, true: it is carried out. -/
theorem wp_region_ht {id : Nat} {a : Act} {w : World} {l : List Oper} (S : World → Prop) (n : Nat) (p : List (Nat × Bool)) (hm : P.follows .mixedOrders = true) (hB : Region.htB .any l.toArray n p = true)
    (hQ : ∀ c a d v w, Q (.panic c) (a.put d v) w → Q (.panic c) a w) (hS : S w.drew)
    (h : wpT P l.toArray Q S (wpList P l.toArray Q (l.drop n)) (picked l p) a w.drew) : (Code.region id l.toArray true).wp P Q a w := by
  simp only [Region.htB, Bool.and_eq_true, decide_eq_true_eq] at hB
  obtain ⟨⟨⟨⟨⟨hsel, hn⟩, hpl⟩, hs⟩, hc⟩, hord⟩ := hB
  have hn' : n < l.length := by simpa using hn
  have inv0 : HeadInv .any l.toArray n (Array.replicate l.toArray.size false) :=
    ⟨by simp, fun j oj _ hl => (by rw [getD_replicate_false] at hl; cases hl), fun t _ ht => getD_in (by simpa using ht) (getD_replicate_false _ _)⟩
  have H := wpHL_of_wpT hsel hs hc hn hQ p _ a w.drew inv0 hord hS h
  refine wp_region_any hm ?_
  have hdl : (l.drop n).length = l.toArray.size - n := by simp
  have := wpAny_of_wpHL (Q := Q) (g := l.toArray.size - n) (fun listed a' w' hL => by
    have := wpAny_of_seq (md := .any) (Q' := Q) (l.drop n) n listed a' w' (fun j => by simp [List.getElem?_drop]) (by rw [hdl]; exact hL.1) hL.2
    rwa [hdl] at this) _ _ _ _ H
  rw [hpl, show n + (l.toArray.size - n) = l.toArray.size by omega] at this
  exact this

/-! ### The moves -/
section moves
variable {L : Act → World → Prop} {o : Oper} {rest : List (Oper × Bool)} {a : Act} {w : World}
theorem wpT_nil (h : L a w) : wpT P ops Q S L [] a w := h
/-- held: no guard, or one that says yes -/
theorem wpT_held (v : Value) (hw : Region.wanted o (yielded ops a.tmps) = true) (hy : ∀ w, S w → (execOp a.eval o).run P w = .ok (.value v) w) (h : wpT P ops Q S L rest (a.put o.dst v) w) :
    wpT P ops Q S L ((o, false) :: rest) a w := ⟨v, .inl ⟨hw, hy⟩, h⟩
theorem wpT_skip (hw : Region.wanted o (yielded ops a.tmps) = false) (h : wpT P ops Q S L rest (a.put o.dst undef) w) :
    wpT P ops Q S L ((o, false) :: rest) a w := ⟨undef, .inr ⟨hw, rfl⟩, h⟩
theorem wpT_skip_loud (hw : Region.wanted o (yielded ops a.tmps) = false) (hS : S w) (h : wpT P ops Q S L rest (a.put o.dst undef) w) :
    wpT P ops Q S L ((o, true) :: rest) a w := by
  show wpO P ops Q o _ a w
  unfold wpO
  rw [if_neg (by rw [hw]; simp)]
  exact ⟨hS, h⟩
theorem wpT_loud (hw : Region.wanted o (yielded ops a.tmps) = true) (h : ∀ K : Act → World → Prop, (∀ a' w', S w' → wpT P ops Q S L rest a' w' → K a' w') → o.wp P a w K Q) :
    wpT P ops Q S L ((o, true) :: rest) a w := by
  show wpO P ops Q o _ a w
  unfold wpO
  rw [if_pos hw]
  exact .inl (h _ fun a' w' h1 h2 => ⟨h1, h2⟩)
end moves
end Go.Proofs.Ytplfijhianmohaa
