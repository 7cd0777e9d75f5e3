/-
  Laws for the walk: make, slice, append, copy of slices whose elements are one cell each, in the words Keep, Rd, ownsRow.
-/
import Derived.Test.YtplfijhianmohaaBase
namespace Go.Proofs.Ytplfijhianmohaa
open Go.RowKit

/-- t is a slice type; its elements, of type e, are one cell each; z is their zero; so many bytes. -/
structure Elem (P : Program) (t e : TypeId) (z : Value) (bytes : Nat) : Prop where
  und : P.underlying t = some (.slice e)
  info : ∃ i, P.info? e = some i ∧ i.zero = some z ∧ i.size = 1 ∧ i.bytes = bytes
  one : z.cells = #[z]

theorem Elem.of {P : Program} {t e : TypeId} {z : Value} {bytes : Nat} (hu : P.underlying t = some (.slice e)) (h : (P.info? e).map (fun i => (i.zero, i.size, i.bytes)) = some (some z, 1, bytes)) (h1 : z.cells = #[z]) : Elem P t e z bytes := by
  obtain ⟨i, h2, h3, h4, h5⟩ := info_parts h
  exact ⟨hu, ⟨i, h2, h3, h4, h5⟩, h1⟩

theorem madeCells_one (z : Value) (n : Nat) : madeCells #[z] n = Array.replicate n z := by
  rw [← Array.toList_inj, toList_madeCells_one]; simp

variable {P : Program} {t e : TypeId} {z : Value} {bytes : Nat}

theorem Elem.run_make (E : Elem P t e z bytes) (kl kc : IntKind) (n c : Nat) (hnc : n ≤ c) (hb : bytes * c ≤ 281474976710656) (h63 : c ≤ 9223372036854775807) (w : World) :
    (Instr.makeSlice t (.int kl (n : Int)) (.int kc (c : Int))).run P w = .ok (.slice (some ⟨w.heap.size, 0, none⟩) n c) (w.alloc (.cells (Array.replicate c z) e)) := by
  obtain ⟨i, hi, hz, h1, rfl⟩ := E.info
  have hb' : (i.bytes : Int) * (c : Int) ≤ 281474976710656 := by
    have h : ((i.bytes * c : Nat) : Int) ≤ 281474976710656 := by omega
    rwa [Int.natCast_mul] at h
  have hr := Go.run_make (P := P) w t e i z E.und hi hz kl kc n c (by omega) (by omega) hb' (by omega)
  simp only [Int.toNat_natCast, h1, Nat.mul_one, E.one, madeCells_one] at hr
  exact hr

/-- 'make([]T, n)' -/
theorem Elem.wp_make (E : Elem P t e z bytes) {w : World} {ops : Array Oper} {rest : List Oper} {o : Oper} {a : Act} {Q : Exit → Act → World → Prop}
    (hg : o.guard = none) (l c : Operand) (hop : o.op = Op.makeSlice t l c) (kl kc : IntKind) (L C : Int) (m : Nat) (hl : a.eval l = .int kl L) (hc : a.eval c = .int kc C) (hL : L = (m : Int)) (hC : C = (m : Int))
    (hb : bytes * m ≤ 281474976710656) (h63 : m ≤ 9223372036854775807)
    (h : wpList P ops Q rest (a.put o.dst (.slice (some ⟨w.heap.size, 0, none⟩) m m)) (w.alloc (.cells (Array.replicate m z) e))) :
    wpList P ops Q (o :: rest) a w := by
  refine wpList_plain hg fun K hK => ?_
  have hrun := E.run_make kl kc m m (Nat.le_refl _) hb h63 w
  subst hL
  subst hC
  unfold Oper.wp
  simp [execOp, hop, hl, hc, hrun, Result.andThen]
  exact hK _ _ h

/-- The address of a cut. -/
def cutA (A : Option Addr) (k cap : Nat) : Option Addr := if cap = k then A else A.map (·.add k)
theorem cutA_zero (A : Option Addr) (cap : Nat) : cutA A 0 cap = A := by
  unfold cutA
  split
  · rfl
  · cases A <;> simp [Addr.add]
theorem cutA_at (g o k cap : Nat) (h : cap ≠ k) : cutA (some ⟨g, o, none⟩) k cap = some ⟨g, o + k, none⟩ := by
  unfold cutA
  rw [if_neg h]
  simp [Addr.add_mid]

theorem Rd.cutA {w : World} {A : Option Addr} {n : Nat} {xs : List Value} (h : Rd w A n xs) {k cap : Nat} (hk : k ≤ n) (hc : n ≤ cap) : Rd w (cutA A k cap) (n - k) (xs.drop k) := h.cut hk hc


theorem sliced_one (A : Option Addr) (l h cap : Nat) : sliced A l h cap 1 = .slice (Go.Proofs.Ytplfijhianmohaa.cutA A l cap) (h - l) (cap - l) := by
  unfold sliced Go.Proofs.Ytplfijhianmohaa.cutA
  rw [Nat.mul_one]

theorem Elem.run_size (E : Elem P t e z bytes) (w : World) : (sizeOf (P.elem t)).run P w = .ok 1 w := by
  obtain ⟨i, hi, hz, h1, hb⟩ := E.info
  have he : P.elem t = e := by simp [Program.elem, E.und]
  simp [sizeOf, typeInfo, he, hi, h1]

theorem Elem.und' (E : Elem P t e z bytes) : P.underlying t = some (.slice (P.elem t)) := by
  have he : P.elem t = e := by simp [Program.elem, E.und]
  rw [he]; exact E.und

theorem Elem.run_lh (E : Elem P t e z bytes) (A : Option Addr) (n cap : Nat) (kl kh : IntKind) (l h : Int) (h0 : 0 ≤ l) (h1 : l ≤ h) (h2 : h ≤ cap) (w : World) :
    (Instr.sliceAt t (.slice A n cap) (some (.int kl l)) (some (.int kh h)) none).run P w = .ok (.slice (cutA A l.toNat cap) (h.toNat - l.toNat) (cap - l.toNat)) w := by
  rw [run_sliceAt_slice _ _ _ _ _ _ E.und', run_slice_lh _ _ _ _ _ E.und' _ _ _ _ h0 h1 h2, E.run_size]
  simp only [Result.andThen, sliced_one]

theorem Elem.run_l (E : Elem P t e z bytes) (A : Option Addr) (n cap : Nat) (kl : IntKind) (l : Int) (h0 : 0 ≤ l) (h1 : l ≤ n) (w : World) :
    (Instr.sliceAt t (.slice A n cap) (some (.int kl l)) none none).run P w = .ok (.slice (cutA A l.toNat cap) (n - l.toNat) (cap - l.toNat)) w := by
  rw [run_sliceAt_slice _ _ _ _ _ _ E.und', run_slice_l _ _ _ _ _ E.und' _ _ h0 h1, E.run_size]
  simp only [Result.andThen, sliced_one]

theorem Elem.run_h (E : Elem P t e z bytes) (A : Option Addr) (n cap : Nat) (kh : IntKind) (h : Int) (h0 : 0 ≤ h) (h2 : h ≤ cap) (w : World) :
    (Instr.sliceAt t (.slice A n cap) none (some (.int kh h)) none).run P w = .ok (.slice A h.toNat cap) w := by
  rw [run_sliceAt_slice _ _ _ _ _ _ E.und', run_slice_h _ _ _ _ _ E.und' _ _ h0 h2, E.run_size]
  simp only [Result.andThen, sliced_one, cutA_zero, Nat.sub_zero]

/-- a slice expression whose run is known -/
theorem wp_slice_of {w : World} {ops : Array Oper} {rest : List Oper} {o : Oper} {a : Act} {Q : Exit → Act → World → Prop}
    (hg : o.guard = none) (x : Operand) (lo hi : Option Operand) (hop : o.op = Op.slice t x lo hi none) (v : Value)
    (hrun : ∀ W, (Instr.sliceAt t (a.eval x) (lo.map a.eval) (hi.map a.eval) none).run P W = .ok v W)
    (h : wpList P ops Q rest (a.put o.dst v) w) : wpList P ops Q (o :: rest) a w := by
  refine wpList_plain hg fun K hK => ?_
  unfold Oper.wp
  have hr := hrun w
  simp only [execOp, hop]
  simp [hr, Result.andThen]
  exact hK _ _ h

theorem not_mem_nil_block {A : Option Addr} : ∀ a, A = some a → a.block ∉ ([] : List Nat) := by simp

theorem run_append_of_nil (E : Elem P t e z bytes) (w : World) (base : Nat) (ty : TypeId) (v : Value) (n : Nat) (xs : List Value) (hown : w.ownsRow base e 1 v n xs) (c : Nat) : (Builtin.append_ #[t, t] ty #[v, .slice none 0 c]).run P w = .ok v w := by
  obtain ⟨i, hi, hz, h1, hb⟩ := E.info
  rcases hown.2 with ⟨rfl, rfl⟩ | ⟨g, cap, cur, rfl, _, _, hnc, _⟩
  · simp [Builtin.append_, run_underlying E.und, sizeOf, typeInfo, hi, Builtin.lenOf, Builtin.firstCells]
  · simp [Builtin.append_, run_underlying E.und, sizeOf, typeInfo, hi, Builtin.lenOf, Builtin.firstCells, hnc, storeCells]

/-- append onto a row of its own, the source nil, empty or not. -/
theorem Elem.run_app (E : Elem P t e z bytes) (w : World) (base : Nat) (ty : TypeId) (v : Value) (n : Nat) (xs : List Value) (hown : w.ownsRow base e 1 v n xs)
    (A : Option Addr) (m c : Nat) (news : List Value) (hr : Rd w A m news) (h1 : ∀ u ∈ news, u.oneCell' = true)
    (h63 : n + m ≤ 9223372036854775807) (hbytes : (n + m) * bytes ≤ 140737488355328) (hbase : base ≤ w.heap.size) :
    ∃ v' w', (Builtin.append_ #[t, t] ty #[v, .slice A m c]).run P w = .ok v' w' ∧ w'.ownsRow base e 1 v' (n + m) (xs ++ news) ∧ Keep v.ownBlock.toList w w' ∧
      (v'.ownBlock = v.ownBlock ∨ v'.ownBlock = some w.heap.size) ∧ (v' = .slice none 0 0 ↔ v = .slice none 0 0 ∧ m = 0) := by
  rcases Nat.eq_zero_or_pos m with h0 | h0
  · subst h0
    have hn : news = [] := List.eq_nil_of_length_eq_zero hr.1
    subst hn
    rcases A with _ | ad
    · exact ⟨v, w, run_append_of_nil E w base ty v n xs hown c, by simpa using hown, Keep.refl _ _, .inl rfl, by simp⟩
    · obtain ⟨i, hi, hz, hs, hb⟩ := E.info
      obtain ⟨v', w', h1, h2, h3, h4, h5⟩ := run_append_own_at (P := P) w base t ty e i z 1 bytes E.und hi hz hs hb (by rw [E.one]; rfl) (by omega) v n xs hown ad 0 c [] rfl (by simp) (by simp) (by simpa [maxLen] using h63) hbytes hbase
      exact ⟨v', w', h1, h2, Keep.ofGrown h3, h5, h4⟩
  · obtain ⟨b, o, rfl, hb, hc⟩ := hr.2 h0
    obtain ⟨i, hi, hz, hs, hby⟩ := E.info
    obtain ⟨v', w', h1, h2, h3, h4, h5⟩ := run_append_own_at (P := P) w base t ty e i z 1 bytes E.und hi hz hs hby (by rw [E.one]; rfl) (by omega) v n xs hown ⟨b, o, none⟩ m c news (by simpa using hr.1) (fun j u hu => by rw [Addr.add_mid]; exact hc j u hu) h1 (by simpa [maxLen] using h63) hbytes hbase
    exact ⟨v', w', h1, h2, Keep.ofGrown h3, h5, h4⟩

theorem Elem.wp1_app (E : Elem P t e z bytes) {w : World} {o : Oper} {a : Act} {K : Act → World → Prop} {Q : Exit → Act → World → Prop} (s x : Operand)
    (ho : o.op = .call { callee := .builtin .append, args := #[s, x], argTypes := #[t, t] })
    (base : Nat) (v : Value) (n : Nat) (xs : List Value) (hs : a.eval s = v) (hown : w.ownsRow base e 1 v n xs)
    (A : Option Addr) (m c : Nat) (news : List Value) (hx : a.eval x = .slice A m c) (hr : Rd w A m news) (h1 : ∀ u ∈ news, u.oneCell' = true)
    (h63 : n + m ≤ 9223372036854775807) (hbytes : (n + m) * bytes ≤ 140737488355328) (hbase : base ≤ w.heap.size)
    (h : ∀ v' w', w'.ownsRow base e 1 v' (n + m) (xs ++ news) → Keep v.ownBlock.toList w w' → (v'.ownBlock = v.ownBlock ∨ v'.ownBlock = some w.heap.size) → (v' = .slice none 0 0 ↔ v = .slice none 0 0 ∧ m = 0) → K (a.put o.dst v') w') : o.wp P a w K Q := by
  obtain ⟨v', w', hrun, h2, h3, h4, h5⟩ := E.run_app w base o.type v n xs hown A m c news hr h1 h63 hbytes hbase
  unfold Oper.wp execOp
  simp only [ho, resolve, invoke, builtin, Sem.run_bind, Sem.run_pure, Result.andThen_ok, List.map_toArray, List.map_cons, List.map_nil, hs, hx, hrun]
  exact h v' w' h2 h3 h4 h5

theorem Elem.wp_app (E : Elem P t e z bytes) {w : World} {ops : Array Oper} {rest : List Oper} {o : Oper} {a : Act} {Q : Exit → Act → World → Prop} (hgd : o.guard = none) (s x : Operand)
    (ho : o.op = .call { callee := .builtin .append, args := #[s, x], argTypes := #[t, t] })
    (base : Nat) (v : Value) (n : Nat) (xs : List Value) (hs : a.eval s = v) (hown : w.ownsRow base e 1 v n xs)
    (A : Option Addr) (m c : Nat) (news : List Value) (hx : a.eval x = .slice A m c) (hr : Rd w A m news) (h1 : ∀ u ∈ news, u.oneCell' = true)
    (h63 : n + m ≤ 9223372036854775807) (hbytes : (n + m) * bytes ≤ 140737488355328) (hbase : base ≤ w.heap.size)
    (h : ∀ v' w', w'.ownsRow base e 1 v' (n + m) (xs ++ news) → Keep v.ownBlock.toList w w' → (v'.ownBlock = v.ownBlock ∨ v'.ownBlock = some w.heap.size) → (v' = .slice none 0 0 ↔ v = .slice none 0 0 ∧ m = 0) → wpList P ops Q rest (a.put o.dst v') w') : wpList P ops Q (o :: rest) a w :=
  wpList_plain hgd fun _ hK => E.wp1_app s x ho base v n xs hs hown A m c news hx hr h1 h63 hbytes hbase fun v' w' h2 h3 h4 h5 => hK _ _ (h v' w' h2 h3 h4 h5)

theorem Elem.step_app (E : Elem P t e z bytes) {w : World} {ops : Array Oper} {o : Oper} {a : Act} {K : Act → World → Prop} {Q : Exit → Act → World → Prop} {X : Prop} (hgd : o.guard = none) (s x : Operand)
    (ho : o.op = .call { callee := .builtin .append, args := #[s, x], argTypes := #[t, t] })
    (base : Nat) (v : Value) (n : Nat) (xs : List Value) (hs : a.eval s = v) (hown : w.ownsRow base e 1 v n xs)
    (A : Option Addr) (m c : Nat) (news : List Value) (hx : a.eval x = .slice A m c) (hr : Rd w A m news) (h1 : ∀ u ∈ news, u.oneCell' = true)
    (h63 : n + m ≤ 9223372036854775807) (hbytes : (n + m) * bytes ≤ 140737488355328) (hbase : base ≤ w.heap.size)
    (h : ∀ v' w', w'.ownsRow base e 1 v' (n + m) (xs ++ news) → Keep v.ownBlock.toList w w' → (v'.ownBlock = v.ownBlock ∨ v'.ownBlock = some w.heap.size) → (v' = .slice none 0 0 ↔ v = .slice none 0 0 ∧ m = 0) → K (a.put o.dst v') w') :
    if Region.wanted o (yielded ops a.tmps) = true then Oper.wp P o a w K Q else X := by
  have hw : Region.wanted o (yielded ops a.tmps) = true := by simp [Region.wanted, hgd]
  rw [if_pos hw]
  exact E.wp1_app s x ho base v n xs hs hown A m c news hx hr h1 h63 hbytes hbase h

/-- copy into a row g that is known whole, from off on; the source may be nil or empty. -/
theorem Elem.wp_copy (E : Elem P t e z bytes) {w : World} {ops : Array Oper} {rest : List Oper} {o : Oper} {a : Act} {Q : Exit → Act → World → Prop} (hgd : o.guard = none) (d s : Operand)
    (ho : o.op = .call { callee := .builtin .copy, args := #[d, s], argTypes := #[t, t] })
    (D A : Option Addr) (dl dc sl sc : Nat) (hd : a.eval d = .slice D dl dc) (hs : a.eval s = .slice A sl sc)
    (g off : Nat) (cur : List Value) (tt : TypeId) (hg : Blk w g tt cur.toArray) (hD : 0 < dl → D = some ⟨g, off, none⟩) (hfit : off + dl ≤ cur.length)
    (ys : List Value) (hr : Rd w A sl ys) (h1 : ∀ v ∈ ys.take dl, v.oneCell' = true)
    (h : ∀ w', Blk w' g tt (splice cur off (ys.take dl)).toArray → Keep [g] w w' → wpList P ops Q rest (a.put o.dst (goInt (Nat.min sl dl))) w') :
    wpList P ops Q (o :: rest) a w := by
  obtain ⟨i, hi, hz, hsz, hby⟩ := E.info
  have hsz' : (P.info? e).map (·.size) = some 1 := by rw [hi]; simp [hsz]
  have hlen : (ys.take dl).length = Nat.min sl dl := by rw [List.length_take, hr.1]; exact Nat.min_comm _ _
  rw [← hlen] at h
  by_cases h0 : (ys.take dl).length = 0
  · have hnil : ys.take dl = [] := List.eq_nil_of_length_eq_zero h0
    refine wpList_copy_nothing hgd d s t t ho e E.und hsz' D A dl dc sl sc hd hs (by rw [← hlen]; exact h0) ?_
    have := h w (by rw [hnil]; simpa [splice] using hg) (Keep.refl _ _)
    rwa [h0] at this
  · have hdl : 0 < dl := by
      rcases Nat.eq_zero_or_pos dl with e | e
      · subst e; simp at h0
      · exact e
    have hsl : 0 < sl := by
      rcases Nat.eq_zero_or_pos sl with e | e
      · subst e
        have := hr.1
        simp only [List.length_take] at h0
        omega
      · exact e
    obtain rfl := hD hdl
    obtain ⟨b, o', rfl, hb, hc⟩ := hr.2 hsl
    refine wpList_copy_own hgd d s t t ho e E.und hsz' g off dl dc ⟨b, o', none⟩ sl sc hd hs cur.toArray tt hg (ys.take dl) hlen ?_ ?_ ?_ ?_
    · intro j v hv
      rw [Addr.add_mid]
      refine hc j v ?_
      rw [List.getElem?_take] at hv
      split at hv
      · exact hv
      · cases hv
    · simp only [List.length_take, List.size_toArray]
      omega
    · intro v hv
      exact h1 v hv
    · refine h _ ?_ ?_
      · show _ = _
        simpa [splice] using setRow_heap w g _ _ tt _ hg
      · exact ⟨rfl, rfl, rfl, by simp [World.setRow], fun k hk hn => setRow_other w g k _ (by simpa using hn)⟩

theorem splice_all {α : Type} (L cs : List α) (h : L.length = cs.length) : splice L 0 cs = cs := by simp [splice, ← h]

theorem own_of_blk {w : World} {base g n c : Nat} {e : TypeId} {xs : List Value} {cs : Array Value} (h : Blk w g e cs) (hb : base ≤ g) (hn : n ≤ c) (hc : c ≤ 9223372036854775807) (hs : cs.size = c) (hx : cs.toList.take n = xs) :
    w.ownsRow base e 1 (.slice (some ⟨g, 0, none⟩) n c) n xs := by
  refine ⟨?_, .inr ⟨g, c, cs, rfl, hb, h, hn, by simpa [maxLen] using hc, by omega, by simpa using hx⟩⟩
  rw [← hx]; simp; omega
theorem own_full {w : World} {base g n : Nat} {e : TypeId} {xs : List Value} {cs : Array Value} (h : Blk w g e cs) (hb : base ≤ g) (hc : n ≤ 9223372036854775807) (hs : cs.size = n) (hx : cs.toList = xs) :
    w.ownsRow base e 1 (.slice (some ⟨g, 0, none⟩) n n) n xs :=
  own_of_blk h hb (Nat.le_refl _) hc hs (by rw [hx]; exact List.take_of_length_le (by rw [← hx]; simp [hs]))
theorem own_base {w : World} {base base' : Nat} {e : TypeId} {v : Value} {n s : Nat} {xs : List Value} (h : w.ownsRow base e s v n xs) (hb : base' ≤ base) : w.ownsRow base' e s v n xs := by
  refine ⟨h.1, ?_⟩
  rcases h.2 with h2 | ⟨g, cap, cur, r1, r2, r⟩
  · exact .inl h2
  · exact .inr ⟨g, cap, cur, r1, by omega, r⟩
theorem own_keep {w w' : World} {base : Nat} {e : TypeId} {v : Value} {n s : Nat} {xs : List Value} {l : List Nat} (h : w.ownsRow base e s v n xs) (hk : Keep l w w') (hn : ∀ g, v.ownBlock = some g → g ∉ l) : w'.ownsRow base e s v n xs := by
  refine ⟨h.1, ?_⟩
  rcases h.2 with h2 | ⟨g, cap, cur, rfl, r2, r3, r⟩
  · exact .inl h2
  · exact .inr ⟨g, cap, cur, rfl, r2, Blk.keep (g := g) r3 hk (hn g rfl), r⟩
theorem own_keep0 {w w' : World} {base : Nat} {e : TypeId} {v : Value} {n s : Nat} {xs : List Value} (h : w.ownsRow base e s v n xs) (hk : Keep [] w w') : w'.ownsRow base e s v n xs := own_keep h hk (by simp)
theorem own_form {w : World} {base : Nat} {e : TypeId} {v : Value} {n s : Nat} {xs : List Value} (h : w.ownsRow base e s v n xs) : ∃ A c, v = .slice A n c ∧ n ≤ c ∧ c ≤ 9223372036854775807 ∧ (A = none → n = 0 ∧ c = 0) ∧ (∀ a, A = some a → ∃ g, a = ⟨g, 0, none⟩) := by
  rcases h.2 with ⟨rfl, rfl⟩ | ⟨g, cap, cur, rfl, _, _, hc, hm, _⟩
  · exact ⟨_, _, rfl, by omega, by omega, by simp, by simp⟩
  · exact ⟨_, _, rfl, hc, by simpa [maxLen] using hm, by simp, by intro a ha; injection ha with ha; exact ⟨g, ha.symm⟩⟩
theorem rd_new1 (w : World) (x : Value) (e : TypeId) : Rd (w.alloc (.cells #[x] e)) (some ⟨w.heap.size, 0, none⟩) 1 [x] := by
  have := Rd.of_blk (n := 1) (Blk.new w e #[x]) (by simp)
  simpa using this
theorem own_alloc {w : World} {base : Nat} {e : TypeId} {v : Value} {n s : Nat} {xs : List Value} (h : w.ownsRow base e s v n xs) (o : Obj) : (w.alloc o).ownsRow base e s v n xs :=
  own_keep0 h ((Keep.refl [] w).alloc o)
theorem fresh_of_own {w : World} {base : Nat} {e : TypeId} {v : Value} {n s : Nat} {xs : List Value} (h : w.ownsRow base e s v n xs) : ∀ g ∈ v.ownBlock.toList, base ≤ g := by
  intro g hg
  exact (h.lt g (by simpa using hg)).1
/-- one element appended: from w, over the box of the element, to w' -/
theorem Keep.one_more {w wr w' : World} {o : Obj} {v : Value} {base n s : Nat} {e : TypeId} {xs : List Value} (h : Keep [] w wr) (hown : wr.ownsRow base e s v n xs) (hb : w.heap.size ≤ base) (hk : Keep v.ownBlock.toList (wr.alloc o) w') : Keep [] w w' :=
  (h.alloc o).trans hk (fun x hx => .inr (Nat.le_trans hb (fresh_of_own hown x hx)))
end Go.Proofs.Ytplfijhianmohaa
