/-
  A part of the proof: lemmas, and contracts of functions; their conditions stand in them.
-/
import Derived.Test.YtglbkndbbhamcaaGreatJ03
namespace Go.Proofs.YtglbkndbbhamcaaGreat
section
open Go.RowKit
variable {P : Program} {ops : Array Oper} {md : Region.Mode} {S : World → Prop} {Q : Exit → Act → World → Prop}
inductive RQ where
  | nil
  | held (k : Nat) (t : RQ)
  | loud (k : Nat) (t : RQ)
  | two (i : Nat) (t : RQ) (j : Nat) (u : RQ)
  | three (i : Nat) (t : RQ) (j : Nat) (u : RQ) (k : Nat) (v : RQ)
  | four (i : Nat) (t : RQ) (j : Nat) (u : RQ) (k : Nat) (v : RQ) (m : Nat) (x : RQ)
inductive RO where
  | nil
  | held (o : Oper) (t : RO)
  | loud (o : Oper) (t : RO)
  | two (o : Oper) (t : RO) (o' : Oper) (u : RO)
  | three (o : Oper) (t : RO) (o' : Oper) (u : RO) (o'' : Oper) (v : RO)
  | four (o : Oper) (t : RO) (o' : Oper) (u : RO) (o'' : Oper) (v : RO) (o3 : Oper) (x : RO)
def RQ.size : RQ → Nat
  | .nil => 0
  | .held _ t => t.size + 1
  | .loud _ t => t.size + 1
  | .two _ t _ _ => t.size + 1
  | .three _ t _ _ _ _ => t.size + 1
  | .four _ t _ _ _ _ _ _ => t.size + 1
def RQ.pick (l : List Oper) : RQ → RO
  | .nil => .nil
  | .held k t => match l[k]? with | some o => .held o (t.pick l) | none => .nil
  | .loud k t => match l[k]? with | some o => .loud o (t.pick l) | none => .nil
  | .two i t j u => match l[i]?, l[j]? with | some o, some o' => .two o (t.pick l) o' (u.pick l) | _, _ => .nil
  | .three i t j u k v => match l[i]?, l[j]?, l[k]? with | some o, some o', some o'' => .three o (t.pick l) o' (u.pick l) o'' (v.pick l) | _, _, _ => .nil
  | .four i t j u k v m x => match l[i]?, l[j]?, l[k]?, l[m]? with | some o, some o', some o'', some o3 => .four o (t.pick l) o' (u.pick l) o'' (v.pick l) o3 (x.pick l) | _, _, _, _ => .nil
def wpQ (P : Program) (ops : Array Oper) (Q : Exit → Act → World → Prop) (S : World → Prop) (L : Act → World → Prop) : RO → Act → World → Prop
  | .nil, a, w => L a w
  | .held o t, a, w => ∃ v, YieldsIf P ops S o v a ∧ wpQ P ops Q S L t (a.put o.dst v) w
  | .loud o t, a, w => wpO P ops Q o (fun a' w' => S w' ∧ wpQ P ops Q S L t a' w') a w
  | .two o t o' u, a, w => wpO P ops Q o (fun a' w' => S w' ∧ wpQ P ops Q S L t a' w') a w ∧ wpO P ops Q o' (fun a' w' => S w' ∧ wpQ P ops Q S L u a' w') a w
  | .three o t o' u o'' v, a, w => wpO P ops Q o (fun a' w' => S w' ∧ wpQ P ops Q S L t a' w') a w ∧ wpO P ops Q o' (fun a' w' => S w' ∧ wpQ P ops Q S L u a' w') a w ∧ wpO P ops Q o'' (fun a' w' => S w' ∧ wpQ P ops Q S L v a' w') a w
  | .four o t o' u o'' v o3 x, a, w => wpO P ops Q o (fun a' w' => S w' ∧ wpQ P ops Q S L t a' w') a w ∧ wpO P ops Q o' (fun a' w' => S w' ∧ wpQ P ops Q S L u a' w') a w ∧ wpO P ops Q o'' (fun a' w' => S w' ∧ wpQ P ops Q S L v a' w') a w ∧ wpO P ops Q o3 (fun a' w' => S w' ∧ wpQ P ops Q S L x a' w') a w
def Region.treeQ (md : Region.Mode) (ops : Array Oper) (n g : Nat) : RQ → Array Bool → Bool
  | .nil, listed => Region.seqB md ops g n listed
  | .held k t, listed => decide (k < n) && (Region.ready md ops listed).contains k && Region.free md ops listed k && Region.treeQ md ops n g t (listed.setIfInBounds k true)
  | .loud k t, listed => decide (k < n) && decide (Region.ready md ops listed = [k]) && Region.treeQ md ops n g t (listed.setIfInBounds k true)
  | .two i t j u, listed => decide (i < n) && decide (j < n) && decide (Region.ready md ops listed = [i, j]) && decide (t.size = u.size) && Region.treeQ md ops n g t (listed.setIfInBounds i true) && Region.treeQ md ops n g u (listed.setIfInBounds j true)
  | .three i t j u k v, listed => decide (i < n) && decide (j < n) && decide (k < n) && decide (Region.ready md ops listed = [i, j, k]) && decide (t.size = u.size) && decide (t.size = v.size) && Region.treeQ md ops n g t (listed.setIfInBounds i true) && Region.treeQ md ops n g u (listed.setIfInBounds j true) && Region.treeQ md ops n g v (listed.setIfInBounds k true)
  | .four i t j u k v m x, listed => decide (i < n) && decide (j < n) && decide (k < n) && decide (m < n) && decide (Region.ready md ops listed = [i, j, k, m]) && decide (t.size = u.size) && decide (t.size = v.size) && decide (t.size = x.size) && Region.treeQ md ops n g t (listed.setIfInBounds i true) && Region.treeQ md ops n g u (listed.setIfInBounds j true) && Region.treeQ md ops n g v (listed.setIfInBounds k true) && Region.treeQ md ops n g x (listed.setIfInBounds m true)
def Region.rqB (md : Region.Mode) (ops : Array Oper) (n : Nat) (p : RQ) : Bool :=
  Region.noSelect ops && decide (n < ops.size) && decide (p.size = n) && Region.sinkB md ops n && Region.chainB md ops n && Region.treeQ md ops n (ops.size - n) p (Array.replicate ops.size false)
theorem wpOp_of_wpO4 {l : List Oper} {k : Nat} {o : Oper} {K : Act → World → Prop} {a : Act} {w : World} (ho : l[k]? = some o) (h : wpO P l.toArray Q o K a w) : wpOp P l.toArray Q k K a w := by
  have ho' : l.toArray[k]? = some o := by simpa using ho
  unfold wpOp
  simp only [ho']
  exact h
theorem wpHL_of_wpQ {l : List Oper} {n g : Nat} {Lq : Act → World → Prop} (hsel : Region.noSelect l.toArray = true) (hs : Region.sinkB md l.toArray n = true) (hc : Region.chainB md l.toArray n = true) (hn : n < l.toArray.size)
    (hQ : ∀ c a d v w, Q (.panic c) (a.put d v) w → Q (.panic c) a w) :
    ∀ (p : RQ) (listed : Array Bool) (a : Act) (w : World), HeadInv md l.toArray n listed → Region.treeQ md l.toArray n g p listed = true → S w →
      wpQ P l.toArray Q S Lq (p.pick l) a w → wpHL P md l.toArray Q S n (fun listed' a' w' => Region.seqB md l.toArray g n listed' = true ∧ Lq a' w') p.size listed a w
  | .nil, listed, a, w, _, hB, _, h => ⟨by simpa [Region.treeQ] using hB, by simpa [RQ.pick, wpQ] using h⟩
  | .held k p, listed, a, w, inv, hB, hS, h => by
    simp only [Region.treeQ, Bool.and_eq_true, decide_eq_true_eq] at hB
    obtain ⟨⟨⟨hk, hr⟩, hf⟩, hB'⟩ := hB
    have hr' : k ∈ Region.ready md l.toArray listed := by simpa using hr
    obtain ⟨_, o, ho, _⟩ := mem_ready.1 hr'
    have ho' : l[k]? = some o := by simpa using ho
    have hp : (RQ.held k p).pick l = .held o (p.pick l) := by simp [RQ.pick, ho']
    rw [hp] at h
    obtain ⟨v, hy, hK⟩ := h
    exact wpHL_first ho (Region.noSelect_spec hsel) hs hc hn hk (fun listed' a' w' hL => seqB_ready hL.1) (fun c a w => hQ c a _ _ w) p.size listed a w inv (Region.free_spec ho hf) hr' hy hS
      (wpHL_of_wpQ hsel hs hc hn hQ p _ _ _ (inv.set hr' hk) hB' hS hK)
  | .loud k p, listed, a, w, inv, hB, hS, h => by
    simp only [Region.treeQ, Bool.and_eq_true, decide_eq_true_eq] at hB
    obtain ⟨⟨hk, hr⟩, hB'⟩ := hB
    have hr' : k ∈ Region.ready md l.toArray listed := by rw [hr]; simp
    obtain ⟨_, o, ho, _⟩ := mem_ready.1 hr'
    have ho' : l[k]? = some o := by simpa using ho
    have hp : (RQ.loud k p).pick l = .loud o (p.pick l) := by simp [RQ.pick, ho']
    rw [hp] at h
    refine ⟨fun h0 => (by rw [h0] at hr'; cases hr'), fun i hi => ?_⟩
    rw [hr] at hi
    obtain rfl : i = k := by simpa using hi
    exact ⟨hk, wpOp_mono (fun a' w' h' => ⟨h'.1, wpHL_of_wpQ hsel hs hc hn hQ p _ _ _ (inv.set hr' hk) hB' h'.1 h'.2⟩) (wpOp_of_wpO4 ho' h)⟩
  | .two i p j u, listed, a, w, inv, hB, hS, h => by
    simp only [Region.treeQ, Bool.and_eq_true, decide_eq_true_eq] at hB
    obtain ⟨⟨⟨⟨⟨hi, hj⟩, hr⟩, hsz⟩, hB1⟩, hB2⟩ := hB
    have hri : i ∈ Region.ready md l.toArray listed := by rw [hr]; simp
    have hrj : j ∈ Region.ready md l.toArray listed := by rw [hr]; simp
    obtain ⟨_, o, ho, _⟩ := mem_ready.1 hri
    obtain ⟨_, o', ho', _⟩ := mem_ready.1 hrj
    have hol : l[i]? = some o := by simpa using ho
    have hol' : l[j]? = some o' := by simpa using ho'
    have hp : (RQ.two i p j u).pick l = .two o (p.pick l) o' (u.pick l) := by simp [RQ.pick, hol, hol']
    rw [hp] at h
    obtain ⟨h1, h2⟩ := h
    refine ⟨fun h0 => (by rw [h0] at hri; cases hri), fun k hk => ?_⟩
    rw [hr] at hk
    have hk' : k = i ∨ k = j := by simpa using hk
    rcases hk' with rfl | rfl
    · exact ⟨hi, wpOp_mono (fun a' w' h' => ⟨h'.1, wpHL_of_wpQ hsel hs hc hn hQ p _ _ _ (inv.set hri hi) hB1 h'.1 h'.2⟩) (wpOp_of_wpO4 hol h1)⟩
    · refine ⟨hj, wpOp_mono (fun a' w' h' => ⟨h'.1, ?_⟩) (wpOp_of_wpO4 hol' h2)⟩
      have := wpHL_of_wpQ hsel hs hc hn hQ u _ _ _ (inv.set hrj hj) hB2 h'.1 h'.2
      rwa [← hsz] at this
  | .three i p j u k v, listed, a, w, inv, hB, hS, h => by
    simp only [Region.treeQ, Bool.and_eq_true, decide_eq_true_eq] at hB
    obtain ⟨⟨⟨⟨⟨⟨⟨⟨hi, hj⟩, hk⟩, hr⟩, hsz⟩, hsz2⟩, hB1⟩, hB2⟩, hB3⟩ := hB
    have hri : i ∈ Region.ready md l.toArray listed := by rw [hr]; simp
    have hrj : j ∈ Region.ready md l.toArray listed := by rw [hr]; simp
    have hrk : k ∈ Region.ready md l.toArray listed := by rw [hr]; simp
    obtain ⟨_, o, ho, _⟩ := mem_ready.1 hri
    obtain ⟨_, o', ho', _⟩ := mem_ready.1 hrj
    obtain ⟨_, o'', ho'', _⟩ := mem_ready.1 hrk
    have hol : l[i]? = some o := by simpa using ho
    have hol' : l[j]? = some o' := by simpa using ho'
    have hol'' : l[k]? = some o'' := by simpa using ho''
    have hp : (RQ.three i p j u k v).pick l = .three o (p.pick l) o' (u.pick l) o'' (v.pick l) := by simp [RQ.pick, hol, hol', hol'']
    rw [hp] at h
    obtain ⟨h1, h2, h3⟩ := h
    refine ⟨fun h0 => (by rw [h0] at hri; cases hri), fun q hq => ?_⟩
    rw [hr] at hq
    have hq' : q = i ∨ q = j ∨ q = k := by simpa using hq
    rcases hq' with rfl | rfl | rfl
    · exact ⟨hi, wpOp_mono (fun a' w' h' => ⟨h'.1, wpHL_of_wpQ hsel hs hc hn hQ p _ _ _ (inv.set hri hi) hB1 h'.1 h'.2⟩) (wpOp_of_wpO4 hol h1)⟩
    · refine ⟨hj, wpOp_mono (fun a' w' h' => ⟨h'.1, ?_⟩) (wpOp_of_wpO4 hol' h2)⟩
      have := wpHL_of_wpQ hsel hs hc hn hQ u _ _ _ (inv.set hrj hj) hB2 h'.1 h'.2
      rwa [← hsz] at this
    · refine ⟨hk, wpOp_mono (fun a' w' h' => ⟨h'.1, ?_⟩) (wpOp_of_wpO4 hol'' h3)⟩
      have := wpHL_of_wpQ hsel hs hc hn hQ v _ _ _ (inv.set hrk hk) hB3 h'.1 h'.2
      rwa [← hsz2] at this
  | .four i p j u k v m x, listed, a, w, inv, hB, hS, h => by
    simp only [Region.treeQ, Bool.and_eq_true, decide_eq_true_eq] at hB
    obtain ⟨⟨⟨⟨⟨⟨⟨⟨⟨⟨⟨hi, hj⟩, hk⟩, hm⟩, hr⟩, hsz⟩, hsz2⟩, hsz3⟩, hB1⟩, hB2⟩, hB3⟩, hB4⟩ := hB
    have hri : i ∈ Region.ready md l.toArray listed := by rw [hr]; simp
    have hrj : j ∈ Region.ready md l.toArray listed := by rw [hr]; simp
    have hrk : k ∈ Region.ready md l.toArray listed := by rw [hr]; simp
    have hrm : m ∈ Region.ready md l.toArray listed := by rw [hr]; simp
    obtain ⟨_, o, ho, _⟩ := mem_ready.1 hri
    obtain ⟨_, o', ho', _⟩ := mem_ready.1 hrj
    obtain ⟨_, o'', ho'', _⟩ := mem_ready.1 hrk
    obtain ⟨_, o3, ho3, _⟩ := mem_ready.1 hrm
    have hol : l[i]? = some o := by simpa using ho
    have hol' : l[j]? = some o' := by simpa using ho'
    have hol'' : l[k]? = some o'' := by simpa using ho''
    have hol3 : l[m]? = some o3 := by simpa using ho3
    have hp : (RQ.four i p j u k v m x).pick l = .four o (p.pick l) o' (u.pick l) o'' (v.pick l) o3 (x.pick l) := by simp [RQ.pick, hol, hol', hol'', hol3]
    rw [hp] at h
    obtain ⟨h1, h2, h3, h4⟩ := h
    refine ⟨fun h0 => (by rw [h0] at hri; cases hri), fun q hq => ?_⟩
    rw [hr] at hq
    have hq' : q = i ∨ q = j ∨ q = k ∨ q = m := by simpa using hq
    rcases hq' with rfl | rfl | rfl | rfl
    · exact ⟨hi, wpOp_mono (fun a' w' h' => ⟨h'.1, wpHL_of_wpQ hsel hs hc hn hQ p _ _ _ (inv.set hri hi) hB1 h'.1 h'.2⟩) (wpOp_of_wpO4 hol h1)⟩
    · refine ⟨hj, wpOp_mono (fun a' w' h' => ⟨h'.1, ?_⟩) (wpOp_of_wpO4 hol' h2)⟩
      have := wpHL_of_wpQ hsel hs hc hn hQ u _ _ _ (inv.set hrj hj) hB2 h'.1 h'.2
      rwa [← hsz] at this
    · refine ⟨hk, wpOp_mono (fun a' w' h' => ⟨h'.1, ?_⟩) (wpOp_of_wpO4 hol'' h3)⟩
      have := wpHL_of_wpQ hsel hs hc hn hQ v _ _ _ (inv.set hrk hk) hB3 h'.1 h'.2
      rwa [← hsz2] at this
    · refine ⟨hm, wpOp_mono (fun a' w' h' => ⟨h'.1, ?_⟩) (wpOp_of_wpO4 hol3 h4)⟩
      have := wpHL_of_wpQ hsel hs hc hn hQ x _ _ _ (inv.set hrm hm) hB4 h'.1 h'.2
      rwa [← hsz3] at this
theorem wp_region_rq {id : Nat} {a : Act} {w : World} {l : List Oper} (S : World → Prop) (n : Nat) (p : RQ) (hm : P.follows .mixedOrders = true) (hB : Region.rqB .any l.toArray n p = true)
    (hQ : ∀ c a d v w, Q (.panic c) (a.put d v) w → Q (.panic c) a w) (hS : S w.drew)
    (h : wpQ P l.toArray Q S (wpList P l.toArray Q (l.drop n)) (p.pick l) a w.drew) : (Code.region id l.toArray true).wp P Q a w := by
  simp only [Region.rqB, Bool.and_eq_true, decide_eq_true_eq] at hB
  obtain ⟨⟨⟨⟨⟨hsel, hn⟩, hpl⟩, hs⟩, hc⟩, hord⟩ := hB
  have hn' : n < l.length := by simpa using hn
  have inv0 : HeadInv .any l.toArray n (Array.replicate l.toArray.size false) :=
    ⟨by simp, fun j oj _ hl => (by rw [getD_replicate_false] at hl; cases hl), fun t _ ht => getD_in (by simpa using ht) (getD_replicate_false _ _)⟩
  have H := wpHL_of_wpQ hsel hs hc hn hQ p _ a w.drew inv0 hord hS h
  refine wp_region_any hm ?_
  have hdl : (l.drop n).length = l.toArray.size - n := by simp
  have := wpAny_of_wpHL (Q := Q) (g := l.toArray.size - n) (fun listed a' w' hL => by
    have := wpAny_of_seq (md := .any) (Q' := Q) (l.drop n) n listed a' w' (fun j => by simp [List.getElem?_drop]) (by rw [hdl]; exact hL.1) hL.2
    rwa [hdl] at this) _ _ _ _ H
  rw [hpl, show n + (l.toArray.size - n) = l.toArray.size by omega] at this
  exact this
section moves
variable {L : Act → World → Prop} {o o' : Oper} {rest rest' : RO} {a : Act} {w : World}
theorem wpQ_nil (h : L a w) : wpQ P ops Q S L .nil a w := h
theorem wpQ_held (v : Value) (hw : Region.wanted o (yielded ops a.tmps) = true) (hy : ∀ w, S w → (execOp a.eval o).run P w = .ok (.value v) w) (h : wpQ P ops Q S L rest (a.put o.dst v) w) :
    wpQ P ops Q S L (.held o rest) a w := ⟨v, .inl ⟨hw, hy⟩, h⟩
theorem wpQ_loud (hw : Region.wanted o (yielded ops a.tmps) = true) (h : ∀ K : Act → World → Prop, (∀ a' w', S w' → wpQ P ops Q S L rest a' w' → K a' w') → o.wp P a w K Q) :
    wpQ P ops Q S L (.loud o rest) a w := by
  show wpO P ops Q o _ a w
  unfold wpO
  rw [if_pos hw]
  exact .inl (h _ fun a' w' h1 h2 => ⟨h1, h2⟩)
theorem wpQ_three {o'' : Oper} {rest'' : RO} (h1 : wpQ P ops Q S L (.loud o rest) a w) (h2 : wpQ P ops Q S L (.loud o' rest') a w) (h3 : wpQ P ops Q S L (.loud o'' rest'') a w) : wpQ P ops Q S L (.three o rest o' rest' o'' rest'') a w := ⟨h1, h2, h3⟩
theorem wpQ_four {o'' o3 : Oper} {rest'' rest3 : RO} (h1 : wpQ P ops Q S L (.loud o rest) a w) (h2 : wpQ P ops Q S L (.loud o' rest') a w) (h3 : wpQ P ops Q S L (.loud o'' rest'') a w) (h4 : wpQ P ops Q S L (.loud o3 rest3) a w) : wpQ P ops Q S L (.four o rest o' rest' o'' rest'' o3 rest3) a w := ⟨h1, h2, h3, h4⟩
theorem wpQ_two (h1 : wpQ P ops Q S L (.loud o rest) a w) (h2 : wpQ P ops Q S L (.loud o' rest') a w) : wpQ P ops Q S L (.two o rest o' rest') a w := ⟨h1, h2⟩
end moves
end
end Go.Proofs.YtglbkndbbhamcaaGreat
