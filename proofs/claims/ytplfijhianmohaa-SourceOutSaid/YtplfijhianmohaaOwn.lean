/-
  Plain laws on rows of one's own and lists of blocks: what is apart.
-/
import Derived.Test.YtplfijhianmohaaBytes
import Derived.Test.YtplfijhianmohaaRegion
namespace Go.Proofs.Ytplfijhianmohaa
open Go.RowKit

/-- l' is l, and blocks that are new to w. -/
def Grow (w : World) (l l' : List Nat) : Prop := ∀ x ∈ l', x ∈ l ∨ w.heap.size ≤ x
theorem Grow.refl (w : World) (l : List Nat) : Grow w l l := fun _ h => .inl h
theorem Grow.trans {w w1 : World} {l l1 l2 : List Nat} (h : Grow w l l1) (hs : w.heap.size ≤ w1.heap.size) (k : Grow w1 l1 l2) : Grow w l l2 := fun x hx => by
  rcases k x hx with h1 | h1
  · exact h x h1
  · exact .inr (by omega)
theorem Keep.grow {l l' : List Nat} {w w1 w2 : World} (h : Keep l w w1) (k : Keep l' w1 w2) (hg : Grow w l l') : Keep l w w2 := h.trans k hg

theorem own_ne {w : World} {b n m s s' base base' : Nat} {v u : Value} {xs ys : List Value} {e e' : TypeId} (h : w.ownsRow base e s v n xs) (h' : w.ownsRow base' e' s' u m ys) (hne : e ≠ e') (hb : v.ownBlock = some b) : u.ownBlock ≠ some b := by
  rcases h.2 with ⟨rfl, _⟩ | ⟨g, cap, cur, rfl, _, hg, _⟩
  · simp [Value.ownBlock] at hb
  · obtain rfl : g = b := by simpa [Value.ownBlock] using hb
    rcases h'.2 with ⟨rfl, _⟩ | ⟨g', cap', cur', rfl, _, hg', _⟩
    · simp [Value.ownBlock]
    · simp only [Value.ownBlock, ne_eq, Option.some.injEq]
      rintro rfl
      exact Blk.ne_ (t := e) hg hg' hne rfl
theorem own_blk_ne {w : World} {g n s base : Nat} {v : Value} {xs : List Value} {e t : TypeId} {cs : Array Value} (h : w.ownsRow base e s v n xs) (hg : Blk w g t cs) (hne : e ≠ t) : v.ownBlock ≠ some g := by
  rcases h.2 with ⟨rfl, _⟩ | ⟨g', cap', cur', rfl, _, hg', _⟩
  · simp [Value.ownBlock]
  · simp only [Value.ownBlock, ne_eq, Option.some.injEq]
    rintro rfl
    exact Blk.ne_ (t := e) hg' hg hne rfl

theorem own_mem {w : World} {base : Nat} {e : TypeId} {v : Value} {n s : Nat} {xs : List Value} (h : w.ownsRow base e s v n xs) {g : Nat} (hg : g ∈ v.ownBlock.toList) : base ≤ g ∧ g < w.heap.size := h.lt g (by simpa using hg)

theorem own_set {w : World} {base : Nat} {e : TypeId} {v : Value} {n s : Nat} {xs : List Value} (h : w.ownsRow base e s v n xs) {b o : Nat} (hb : b ∉ v.ownBlock.toList) (u : Value) : (w.setCell ⟨b, o, none⟩ u).ownsRow base e s v n xs :=
  own_keep h ((Keep.refl [b] w).setCell (p := ⟨b, o, none⟩) (.inl (by simp)) u) (by intro g hg; simp only [List.mem_singleton]; rintro rfl; exact hb (by simpa using hg))


section
variable {P : Program} {t e : TypeId} {z : Value} {bytes : Nat}
/-- 'copy(b[off:], x)', b a row of one's own with room for all of x -/
theorem Elem.run_copyOwn (E : Elem P t e z bytes) (w : World) (rt : TypeId) (base : Nat) (A : Option Addr) (n c : Nat) (xs : List Value) (hown : w.ownsRow base e 1 (.slice A n c) n xs) (off : Nat)
    (S : Option Addr) (m sc : Nat) (ys : List Value) (hr : Rd w S m ys) (h1 : ∀ u ∈ ys, u.oneCell' = true) (hm : off + m ≤ n) :
    ∃ w', (Builtin.copy_ #[t, t] rt #[.slice (cutA A off c) (n - off) (c - off), .slice S m sc]).run P w = .ok (.int .i64 (m : Nat)) w' ∧ w'.ownsRow base e 1 (.slice A n c) n (laid xs off ys) ∧ Keep (Value.slice A n c).ownBlock.toList w w' := by
  obtain ⟨i, hi, hz, hsz, hby⟩ := E.info
  have hsz' : (P.info? e).map (·.size) = some 1 := by rw [hi]; simp [hsz]
  have hl : ys.length = m := hr.1
  rcases Nat.eq_zero_or_pos m with h0 | h0
  · subst h0
    obtain rfl : ys = [] := List.eq_nil_of_length_eq_zero hl
    exact ⟨w, run_copy_none w t t rt e _ _ _ _ _ _ E.und hsz' (Nat.zero_min _), by rw [laid_nil]; exact hown, Keep.refl _ _⟩
  · obtain ⟨b, o', rfl, hb, hc⟩ := hr.2 h0
    rcases hown.2 with ⟨he, h0'⟩ | ⟨g, cap, cur, he, hbg, hg, hn, hcm, hs, ht⟩
    · omega
    · injection he with hA _ hcap
      subst hA hcap
      rw [cutA_at g 0 off c (by omega), Nat.zero_add]
      have hs1 : cur.size = c := by simpa using hs
      have ht1 : cur.toList.take n = xs := by simpa using ht
      have hrun := run_copy_row (P := P) w t t rt e g off (n - off) (c - off) ⟨b, o', none⟩ m sc cur e ys E.und hsz' hg (by rw [hl]; show m = min m (n - off); omega) (fun j v hv => by rw [Addr.add_mid]; exact hc j v hv) (by rw [hs1]; omega) h1
      rw [hl] at hrun
      refine ⟨_, hrun, own_of_blk (cs := (cur.toList.take off ++ ys ++ cur.toList.drop (off + m)).toArray) (setRow_heap w g _ _ e _ hg) hbg hn (by simpa [maxLen] using hcm) (by simp [hs1]; omega) ?_, ⟨rfl, rfl, rfl, by simp [World.setRow], fun k hk hn => setRow_other w g k _ (by simpa [Value.ownBlock, eq_comm] using hn)⟩⟩
      unfold laid
      rw [← ht1, hl]
      have hcl : cur.toList.length = c := by simpa using hs1
      apply List.ext_getElem?
      intro j
      simp only [List.getElem?_take, List.getElem?_append, List.length_append, List.length_take, hcl, hl, List.getElem?_drop]
      repeat' split
      all_goals first | rfl | omega | (congr 1; omega)
theorem Elem.wp1_copyOwn (E : Elem P t e z bytes) {w : World} {o : Oper} {a : Act} {K : Act → World → Prop} {Q : Exit → Act → World → Prop} (d s : Operand)
    (ho : o.op = .call { callee := .builtin .copy, args := #[d, s], argTypes := #[t, t] })
    (base : Nat) (A : Option Addr) (n c : Nat) (xs : List Value) (off : Nat) (hd : a.eval d = .slice (cutA A off c) (n - off) (c - off)) (hown : w.ownsRow base e 1 (.slice A n c) n xs)
    (S : Option Addr) (m sc : Nat) (ys : List Value) (hx : a.eval s = .slice S m sc) (hr : Rd w S m ys) (h1 : ∀ u ∈ ys, u.oneCell' = true) (hm : off + m ≤ n)
    (h : ∀ w', w'.ownsRow base e 1 (.slice A n c) n (laid xs off ys) → Keep (Value.slice A n c).ownBlock.toList w w' → K (a.put o.dst (.int .i64 (m : Nat))) w') : o.wp P a w K Q := by
  obtain ⟨w', hrun, h2, h3⟩ := E.run_copyOwn w o.type base A n c xs hown off S m sc ys hr h1 hm
  unfold Oper.wp execOp
  simp only [ho, resolve, invoke, builtin, Sem.run_bind, Sem.run_pure, Result.andThen_ok, List.map_toArray, List.map_cons, List.map_nil, hd, hx, hrun]
  exact h w' h2 h3
end
end Go.Proofs.Ytplfijhianmohaa
