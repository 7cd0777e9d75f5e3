/-
  Rows whose elements are several cells each: append, cut; rows of ops; slices.Clone at ops.
-/
import Derived.Test.YtplfijhianmohaaFrame4
namespace Go.Proofs.Ytplfijhianmohaa
open Go.RowKit

/-- t is a slice type; its elements, of type e, are s cells each; z is their zero; so many bytes. -/
structure ElemN (P : Program) (t e : TypeId) (z : Value) (s bytes : Nat) : Prop where
  und : P.underlying t = some (.slice e)
  info : ∃ i, P.info? e = some i ∧ i.zero = some z ∧ i.size = s ∧ i.bytes = bytes
  cells : z.cells.size = s
  pos : 0 < s
theorem ElemN.of {P : Program} {t e : TypeId} {z : Value} {s bytes : Nat} (hu : P.underlying t = some (.slice e)) (h : (P.info? e).map (fun i => (i.zero, i.size, i.bytes)) = some (some z, s, bytes)) (h1 : z.cells.size = s) (hs : 0 < s) : ElemN P t e z s bytes := by
  obtain ⟨i, h2, h3, h4, h5⟩ := info_parts h
  exact ⟨hu, ⟨i, h2, h3, h4, h5⟩, h1, hs⟩
section
variable {P : Program} {t e : TypeId} {z : Value} {s bytes : Nat}

theorem ElemN.run_app (E : ElemN P t e z s bytes) (w : World) (base : Nat) (ty : TypeId) (v : Value) (n : Nat) (xs : List Value) (hown : w.ownsRow base e s v n xs)
    (ad : Addr) (m c : Nat) (news : List Value) (hr : Rd w (some ad) (m * s) news) (h1 : ∀ u ∈ news, u.oneCell' = true)
    (h63 : n + m ≤ 9223372036854775807) (hbytes : (n + m) * bytes ≤ 140737488355328) (hbase : base ≤ w.heap.size) :
    ∃ v' w', (Builtin.append_ #[t, t] ty #[v, .slice (some ad) m c]).run P w = .ok v' w' ∧ w'.ownsRow base e s v' (n + m) (xs ++ news) ∧ Keep v.ownBlock.toList w w' ∧
      (v'.ownBlock = v.ownBlock ∨ v'.ownBlock = some w.heap.size) ∧ (v' = .slice none 0 0 ↔ v = .slice none 0 0 ∧ m = 0) := by
  obtain ⟨i, hi, hz, hs, hb⟩ := E.info
  obtain ⟨v', w', h1, h2, h3, h4, h5⟩ := run_append_own_at (P := P) w base t ty e i z s bytes E.und hi hz hs hb E.cells E.pos v n xs hown ad m c news hr.1 (fun j u hu => by
    have hjl : j < news.length := (List.getElem?_eq_some_iff.1 hu).1
    obtain ⟨b, o, hA, _, hc⟩ := hr.2 (by rw [← hr.1]; omega)
    cases hA
    rw [Addr.add_mid]; exact hc j u hu) h1 (by simpa [maxLen] using h63) hbytes hbase
  exact ⟨v', w', h1, h2, Keep.ofGrown h3, h5, h4⟩

theorem ElemN.wp1_app (E : ElemN P t e z s bytes) {w : World} {o : Oper} {a : Act} {K : Act → World → Prop} {Q : Exit → Act → World → Prop} (sl x : Operand)
    (ho : o.op = .call { callee := .builtin .append, args := #[sl, x], argTypes := #[t, t] })
    (base : Nat) (v : Value) (n : Nat) (xs : List Value) (hs : a.eval sl = v) (hown : w.ownsRow base e s v n xs)
    (ad : Addr) (m c : Nat) (news : List Value) (hx : a.eval x = .slice (some ad) m c) (hr : Rd w (some ad) (m * s) news) (h1 : ∀ u ∈ news, u.oneCell' = true)
    (h63 : n + m ≤ 9223372036854775807) (hbytes : (n + m) * bytes ≤ 140737488355328) (hbase : base ≤ w.heap.size)
    (h : ∀ v' w', w'.ownsRow base e s v' (n + m) (xs ++ news) → Keep v.ownBlock.toList w w' → (v'.ownBlock = v.ownBlock ∨ v'.ownBlock = some w.heap.size) → (v' = .slice none 0 0 ↔ v = .slice none 0 0 ∧ m = 0) → K (a.put o.dst v') w') : o.wp P a w K Q := by
  obtain ⟨v', w', hrun, h2, h3, h4, h5⟩ := E.run_app w base o.type v n xs hown ad m c news hr h1 h63 hbytes hbase
  unfold Oper.wp execOp
  simp only [ho, resolve, invoke, builtin, Sem.run_bind, Sem.run_pure, Result.andThen_ok, List.map_toArray, List.map_cons, List.map_nil, hs, hx, hrun]
  exact h v' w' h2 h3 h4 h5

theorem ElemN.wp_app (E : ElemN P t e z s bytes) {w : World} {ops : Array Oper} {rest : List Oper} {o : Oper} {a : Act} {Q : Exit → Act → World → Prop} (hgd : o.guard = none) (sl x : Operand)
    (ho : o.op = .call { callee := .builtin .append, args := #[sl, x], argTypes := #[t, t] })
    (base : Nat) (v : Value) (n : Nat) (xs : List Value) (hs : a.eval sl = v) (hown : w.ownsRow base e s v n xs)
    (ad : Addr) (m c : Nat) (news : List Value) (hx : a.eval x = .slice (some ad) m c) (hr : Rd w (some ad) (m * s) news) (h1 : ∀ u ∈ news, u.oneCell' = true)
    (h63 : n + m ≤ 9223372036854775807) (hbytes : (n + m) * bytes ≤ 140737488355328) (hbase : base ≤ w.heap.size)
    (h : ∀ v' w', w'.ownsRow base e s v' (n + m) (xs ++ news) → Keep v.ownBlock.toList w w' → (v'.ownBlock = v.ownBlock ∨ v'.ownBlock = some w.heap.size) → (v' = .slice none 0 0 ↔ v = .slice none 0 0 ∧ m = 0) → wpList P ops Q rest (a.put o.dst v') w') : wpList P ops Q (o :: rest) a w :=
  wpList_plain hgd fun _ hK => E.wp1_app sl x ho base v n xs hs hown ad m c news hx hr h1 h63 hbytes hbase fun v' w' h2 h3 h4 h5 => hK _ _ (h v' w' h2 h3 h4 h5)

/-- The address of a cut. -/
def cutN (s : Nat) (A : Option Addr) (k cap : Nat) : Option Addr := if cap = k then A else A.map (·.add (k * s))
theorem Rd.cutN {w : World} {A : Option Addr} {n : Nat} {xs : List Value} (s : Nat) (h : Rd w A (n * s) xs) {k cap : Nat} (hk : k ≤ n) (hc : n ≤ cap) : Rd w (cutN s A k cap) ((n - k) * s) (xs.drop (k * s)) := by
  have hmul : k * s ≤ n * s := Nat.mul_le_mul_right _ hk
  refine ⟨by rw [List.length_drop, h.1, Nat.sub_mul], fun hn => ?_⟩
  have hkn : k < n := by
    rcases Nat.lt_or_ge k n with h1 | h1
    · exact h1
    · rw [show n - k = 0 by omega, Nat.zero_mul] at hn; omega
  have hs : 0 < s := by
    rcases Nat.eq_zero_or_pos s with e | e
    · subst e; simp at hn
    · exact e
  obtain ⟨b, o, rfl, hb, hcell⟩ := h.2 (Nat.mul_pos (by omega) hs)
  unfold Go.Proofs.Ytplfijhianmohaa.cutN
  rw [if_neg (by omega)]
  refine ⟨b, o + k * s, by simp [Addr.add_mid], hb, fun j u hu => ?_⟩
  rw [show o + k * s + j = o + (k * s + j) by omega]
  exact hcell _ u (by rw [← hu, List.getElem?_drop])

theorem ElemN.run_size (E : ElemN P t e z s bytes) (w : World) : (sizeOf (P.elem t)).run P w = .ok s w := by
  obtain ⟨i, hi, hz, h1, hb⟩ := E.info
  have he : P.elem t = e := by simp [Program.elem, E.und]
  simp [sizeOf, typeInfo, he, hi, h1]
theorem ElemN.und' (E : ElemN P t e z s bytes) : P.underlying t = some (.slice (P.elem t)) := by
  have he : P.elem t = e := by simp [Program.elem, E.und]
  rw [he]; exact E.und
theorem ElemN.run_l (E : ElemN P t e z s bytes) (A : Option Addr) (n cap : Nat) (kl : IntKind) (l : Int) (h0 : 0 ≤ l) (h1 : l ≤ n) (w : World) :
    (Instr.sliceAt t (.slice A n cap) (some (.int kl l)) none none).run P w = .ok (.slice (cutN s A l.toNat cap) (n - l.toNat) (cap - l.toNat)) w := by
  rw [run_sliceAt_slice _ _ _ _ _ _ E.und', run_slice_l _ _ _ _ _ E.und' _ _ h0 h1, E.run_size]
  simp only [Result.andThen, sliced, Go.Proofs.Ytplfijhianmohaa.cutN]
end

/-- an op, plain -/
structure POp where
  k : Int
  b : Int
  c : Int
  e : Int
  d : List UInt8
/-- its cells -/
def opc (p : Value × POp) : List Value := [.int .i64 p.2.k, .int .i64 p.2.b, .int .i64 p.2.c, .int .i64 p.2.e, p.1]
def opv (p : Value × POp) : Value := .agg #[.int .i64 p.2.k, .int .i64 p.2.b, .int .i64 p.2.c, .int .i64 p.2.e, p.1]
@[simp] theorem length_opc (p : Value × POp) : (opc p).length = 5 := rfl
theorem length_opcs (os : List (Value × POp)) : (os.flatMap opc).length = os.length * 5 := by
  induction os with
  | nil => rfl
  | cons p os ih => rw [List.flatMap_cons, List.length_append, ih, length_opc, List.length_cons, Nat.succ_mul]; omega
theorem opcs_drop (os : List (Value × POp)) (k : Nat) : (os.flatMap opc).drop (k * 5) = (os.drop k).flatMap opc := by
  induction k generalizing os with
  | zero => simp
  | succ k ih =>
    cases os with
    | nil => simp
    | cons p os => rw [List.flatMap_cons, List.drop_succ_cons, ← ih, Nat.succ_mul, List.drop_append, List.drop_of_length_le (by simp)]; simp
theorem opcs_get (os : List (Value × POp)) (i j : Nat) (hi : i < os.length) (hj : j < 5) : (os.flatMap opc)[i * 5 + j]? = (opc os[i])[j]? := by
  have h1 := opcs_drop os i
  have h2 : ((os.flatMap opc).drop (i * 5))[j]? = (os.flatMap opc)[i * 5 + j]? := List.getElem?_drop
  rw [← h2, h1, List.drop_eq_getElem_cons hi, List.flatMap_cons, List.getElem?_append_left (by simpa using hj)]
theorem opc_one (p : Value × POp) (h : p.1.oneCell' = true) : ∀ u ∈ opc p, u.oneCell' = true := by
  intro u hu
  simp only [opc, List.mem_cons, List.not_mem_nil, or_false] at hu
  rcases hu with rfl | rfl | rfl | rfl | rfl <;> first | rfl | exact h
theorem opcs_one (os : List (Value × POp)) (h : ∀ p ∈ os, p.1.oneCell' = true) : ∀ u ∈ os.flatMap opc, u.oneCell' = true := by
  intro u hu
  obtain ⟨p, hp, hu⟩ := List.mem_flatMap.1 hu
  exact opc_one p (h p hp) u hu
theorem own_one {w : World} {base n : Nat} {v : Value} {e : TypeId} {xs : List Value} (h : w.ownsRow base e 1 v n xs) : v.oneCell' = true := by
  obtain ⟨A, c, rfl, _⟩ := own_form h; rfl

theorem elemOps : ElemN Try.prog 27 58 (.agg #[.int .i64 0, .int .i64 0, .int .i64 0, .int .i64 0, .slice none 0 0]) 5 56 := ElemN.of Try.underlying27 (by kernel_rfl) rfl (by omega)

/-- the ops of a row, cell by cell -/
def OpsRd (w : World) (A : Option Addr) (n : Nat) (os : List (Value × POp)) : Prop := Rd w A (n * 5) (os.flatMap opc) ∧ os.length = n
theorem OpsRd.at_ {w : World} {A : Option Addr} {n : Nat} {os : List (Value × POp)} (h : OpsRd w A n os) {i : Nat} (hi : i < n) (hl : i < os.length) :
    ∃ b o, A = some ⟨b, o, none⟩ ∧ b < w.heap.size ∧ w.cell? ⟨b, o + i * 5, none⟩ = some (.int .i64 os[i].2.k) ∧ w.cell? ⟨b, o + i * 5 + 1, none⟩ = some (.int .i64 os[i].2.b) ∧ w.cell? ⟨b, o + i * 5 + 2, none⟩ = some (.int .i64 os[i].2.c) ∧
      w.cell? ⟨b, o + i * 5 + 3, none⟩ = some (.int .i64 os[i].2.e) ∧ w.cell? ⟨b, o + i * 5 + 4, none⟩ = some os[i].1 := by
  obtain ⟨b, o, rfl, hb, hc⟩ := h.1.2 (by omega)
  have hg := fun j hj => opcs_get os i j hl hj
  refine ⟨b, o, rfl, hb, ?_, ?_, ?_, ?_, ?_⟩
  · have := hc (i * 5 + 0) _ ((hg 0 (by omega)).trans rfl); simpa [Nat.add_assoc] using this
  · have := hc (i * 5 + 1) _ ((hg 1 (by omega)).trans rfl); simpa [Nat.add_assoc] using this
  · have := hc (i * 5 + 2) _ ((hg 2 (by omega)).trans rfl); simpa [Nat.add_assoc] using this
  · have := hc (i * 5 + 3) _ ((hg 3 (by omega)).trans rfl); simpa [Nat.add_assoc] using this
  · have := hc (i * 5 + 4) _ ((hg 4 (by omega)).trans rfl); simpa [Nat.add_assoc] using this
theorem OpsRd.keepIf {w w' : World} {A : Option Addr} {n : Nat} {os : List (Value × POp)} {l : List Nat} (h : OpsRd w A n os) (hk : Keep l w w') (hg : ∀ a, A = some a → a.block ∉ l) : OpsRd w' A n os := ⟨h.1.keepIf hk hg, h.2⟩
theorem OpsRd.keep {w w' : World} {A : Option Addr} {n : Nat} {os : List (Value × POp)} (h : OpsRd w A n os) (hk : Keep [] w w') : OpsRd w' A n os := ⟨h.1.keep hk, h.2⟩
theorem Rd.of_ownN {w : World} {A : Option Addr} {n c s base : Nat} {e : TypeId} {xs : List Value} (h : w.ownsRow base e s (.slice A n c) n xs) : Rd w A (n * s) xs := by
  refine ⟨h.1, fun hn => ?_⟩
  rcases h.2 with ⟨he, h0⟩ | ⟨g, cap, cur, he, hb, hg, hc, hm, hs, ht⟩
  · subst h0; simp at hn
  · injection he with hA
    subst hA
    refine ⟨g, 0, rfl, Blk.lt (t := e) hg, fun j u hu => ?_⟩
    rw [Nat.zero_add, Blk.cell (t := e) hg]
    rw [← ht, List.getElem?_take] at hu
    split at hu
    · simpa using hu
    · cases hu
theorem OpsRd.of_own {w : World} {A : Option Addr} {n c base : Nat} {os : List (Value × POp)} (h : w.ownsRow base 58 5 (.slice A n c) n (os.flatMap opc)) (hl : os.length = n) : OpsRd w A n os := ⟨Rd.of_ownN h, hl⟩

set_option maxHeartbeats 1000000 in
theorem CloneOps_any (A : Option Addr) (n c : Nat) (os : List (Value × POp)) (w : World) (ha : OpsRd w A n os) (h1 : ∀ p ∈ os, p.1.oneCell' = true) (hn : n ≤ 1000000) :
    Calls Try.prog 31 #[.slice A n c] w fun e w' => ∃ v, e = .returned v ∧ w'.ownsRow w.heap.size 58 5 v n (os.flatMap opc) ∧ Keep [] w w' := by
  have heq := fun (W : World) => Lib.run_eql_slice_nil (P := Try.prog) W 27 58 A n c 0 0 Try.underlying27
  rcases A with _ | ad
  · obtain rfl : n = 0 := by
      rcases Nat.eq_zero_or_pos n with e | e
      · exact e
      · obtain ⟨b, o, h, _⟩ := ha.1.2 (by omega)
        cases h
    obtain rfl : os = [] := List.eq_nil_of_length_eq_zero ha.2
    go_enter Try.func31, Try.ntmps31
    go_wp2
    go_ret
    exact ⟨_, rfl, World.ownsRow_nil _ _ _ _, Keep.refl _ _⟩
  · have hr := ha.1.keep ((Keep.refl _ w).alloc (.cells #[] 58))
    have ho : (w.alloc (.cells #[] 58)).ownsRow w.heap.size 58 5 (.slice (some ⟨w.heap.size, 0, none⟩) 0 0) 0 [] := World.ownsRow_made _ _ _ (Nat.le_refl _) (by simp [maxLen]) rfl
    go_enter Try.func31, Try.ntmps31
    go_wp2_with (at_builtin; refine elemOps.wp_app rfl _ _ rfl w.heap.size _ 0 [] rfl ho ad n c (os.flatMap opc) rfl hr (opcs_one os h1) (by omega) (by omega) (by simp) ?_)
    intro v' w' hown hk _ _
    go_wp2
    go_ret
    exact ⟨_, rfl, by simpa using hown, ((Keep.refl _ w).alloc _).trans hk (by simp [Value.ownBlock])⟩
end Go.Proofs.Ytplfijhianmohaa
