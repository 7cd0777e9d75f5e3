/-
  Laws for the walk: append within the capacity of a row that is known whole; clear.
-/
import Derived.Test.YtfbejbkacpkalaaLaw
namespace Go.Proofs.Ytfbejbkacpkalaa
open Go.RowKit
variable {P : Program} {t e : TypeId} {z : Value} {bytes : Nat}

/-- 'append(s[:k], x...)' where there is room: s lies in row g. -/
theorem Elem.wp1_room (E : Elem P t e z bytes) {w : World} {o : Oper} {a : Act} {K : Act → World → Prop} {Q : Exit → Act → World → Prop} (s x : Operand)
    (ho : o.op = .call { callee := .builtin .append, args := #[s, x], argTypes := #[t, t] })
    (g k cap : Nat) (cur : List Value) (hs : a.eval s = .slice (some ⟨g, 0, none⟩) k cap) (hg : Blk w g e cur.toArray) (hcap : cap ≤ cur.length)
    (A : Option Addr) (m c : Nat) (news : List Value) (hx : a.eval x = .slice A m c) (hr : Rd w A m news) (h1 : ∀ u ∈ news, u.oneCell' = true) (hroom : k + m ≤ cap)
    (h : ∀ w', Blk w' g e (cur.take k ++ news ++ cur.drop (k + m)).toArray → Keep [g] w w' → K (a.put o.dst (.slice (some ⟨g, 0, none⟩) (k + m) cap)) w') : o.wp P a w K Q := by
  obtain ⟨i, hi, hz, hsz, hby⟩ := E.info
  have hlen : news.length = m := hr.1
  have key : ∃ w', (Builtin.append_ #[t, t] o.type #[.slice (some ⟨g, 0, none⟩) k cap, .slice A m c]).run P w = .ok (.slice (some ⟨g, 0, none⟩) (k + m) cap) w' ∧ Blk w' g e (cur.take k ++ news ++ cur.drop (k + m)).toArray ∧ Keep [g] w w' := by
    rcases Nat.eq_zero_or_pos m with h0 | h0
    · subst h0
      obtain rfl : news = [] := List.eq_nil_of_length_eq_zero hlen
      refine ⟨w, ?_, by simpa using hg, Keep.refl _ _⟩
      have hk : k ≤ cap := by omega
      rcases A with _ | ad
      · simp [Builtin.append_, run_underlying E.und, sizeOf, typeInfo, hi, Builtin.lenOf, Builtin.firstCells, hk, storeCells]
      · have := run_append_room (P := P) w t o.type e i E.und hi g k cap cur.toArray hg ad 0 c [] (by simp) (by simp) (by simp) hroom (by simp [hsz]; omega)
        rw [this]
        congr 1
        simp only [hsz, Nat.mul_one, List.append_nil, List.length_nil, Nat.add_zero, List.take_append_drop]
        exact setRow_self w g _ e (0, 0) hg
    · obtain ⟨b, o', rfl, hb, hc⟩ := hr.2 h0
      have := run_append_room (P := P) w t o.type e i E.und hi g k cap cur.toArray hg ⟨b, o', none⟩ m c news (by simp [hsz, hlen]) (fun j u hu => by rw [Addr.add_mid]; exact hc j u hu) h1 hroom (by simp [hsz]; omega)
      refine ⟨_, this, ?_, ?_⟩
      · show _ = _
        simp only [hsz, Nat.mul_one, hlen]
        simpa using setRow_heap w g _ _ e _ hg
      · exact ⟨rfl, rfl, rfl, by simp [World.setRow], fun k hk hn => setRow_other w g k _ (by simpa using hn)⟩
  obtain ⟨w', hrun, h2, h3⟩ := key
  unfold Oper.wp execOp
  simp only [ho, resolve, invoke, builtin, Sem.run_bind, Sem.run_pure, Result.andThen_ok, List.map_toArray, List.map_cons, List.map_nil, hs, hx, hrun]
  exact h w' h2 h3

theorem Elem.wp_room (E : Elem P t e z bytes) {w : World} {ops : Array Oper} {rest : List Oper} {o : Oper} {a : Act} {Q : Exit → Act → World → Prop} (hgd : o.guard = none) (s x : Operand)
    (ho : o.op = .call { callee := .builtin .append, args := #[s, x], argTypes := #[t, t] })
    (g k cap : Nat) (cur : List Value) (hs : a.eval s = .slice (some ⟨g, 0, none⟩) k cap) (hg : Blk w g e cur.toArray) (hcap : cap ≤ cur.length)
    (A : Option Addr) (m c : Nat) (news : List Value) (hx : a.eval x = .slice A m c) (hr : Rd w A m news) (h1 : ∀ u ∈ news, u.oneCell' = true) (hroom : k + m ≤ cap)
    (h : ∀ w', Blk w' g e (cur.take k ++ news ++ cur.drop (k + m)).toArray → Keep [g] w w' → wpList P ops Q rest (a.put o.dst (.slice (some ⟨g, 0, none⟩) (k + m) cap)) w') : wpList P ops Q (o :: rest) a w :=
  wpList_plain hgd fun _ hK => E.wp1_room s x ho g k cap cur hs hg hcap A m c news hx hr h1 hroom fun w' h2 h3 => hK _ _ (h w' h2 h3)

theorem Elem.run_zero (E : Elem P t e z bytes) (w : World) : (zeroValue e).run P w = .ok z w := by
  obtain ⟨i, hi, hz, hsz, hby⟩ := E.info
  simp [zeroValue, typeInfo, hi, hz]

theorem zeroCells_one (z : Value) (n : Nat) : (Builtin.zeroCells #[z] n).toList = List.replicate n z := by
  rw [List.eq_replicate_iff]
  refine ⟨by simp [Builtin.zeroCells], ?_⟩
  intro b hb
  simp only [Builtin.zeroCells, Array.toList_map, List.mem_map] at hb
  obtain ⟨i, _, rfl⟩ := hb
  have : i % (#[z] : Array Value).size = 0 := by simp [Nat.mod_one]
  rw [this]; rfl

/-- 'clear(s)', s a part of row g -/
theorem Elem.run_clear (E : Elem P t e z bytes) (w : World) (rt : TypeId) (D : Option Addr) (n c : Nat) (g off : Nat) (cur : List Value) (tt : TypeId) (hg : Blk w g tt cur.toArray) (hD : 0 < n → D = some ⟨g, off, none⟩) (hfit : off + n ≤ cur.length) (h1 : z.oneCell' = true) :
    ∃ w', (Builtin.clear_ #[t] rt #[.slice D n c]).run P w = .ok (.tuple #[]) w' ∧ Blk w' g tt (splice cur off (List.replicate n z)).toArray ∧ Keep [g] w w' := by
  obtain ⟨i, hi, hz, hsz, hby⟩ := E.info
  rcases Nat.eq_zero_or_pos n with h0 | h0
  · subst h0
    refine ⟨w, ?_, by simpa [splice] using hg, Keep.refl _ _⟩
    cases D <;> simp [Builtin.clear_, run_underlying E.und]
  · obtain rfl := hD h0
    obtain ⟨n', rfl⟩ : ∃ n', n = n' + 1 := ⟨n - 1, by omega⟩
    have hst := run_storeCells_at P g off tt (List.replicate (n' + 1) z) 0 cur.toArray w hg (by simpa using hfit) (by intro v hv; rw [(List.mem_replicate.1 hv).2]; exact h1)
    refine ⟨w.setRow g (splice cur off (List.replicate (n' + 1) z)).toArray, ?_, ?_, ?_⟩
    · simp only [Builtin.clear_, List.getElem?_toArray, List.getElem?_cons_zero, Sem.run_bind, run_underlying E.und, Result.andThen_ok, E.run_zero, E.one, zeroCells_one, hst]
      simp [splice]
    · show _ = _
      simpa [splice] using setRow_heap w g _ _ tt _ hg
    · exact ⟨rfl, rfl, rfl, by simp [World.setRow], fun k hk hn => setRow_other w g k _ (by simpa using hn)⟩
theorem exec_slice_of {o : Oper} {a : Act} {w : World} (x : Operand) (lo hi : Option Operand) (hop : o.op = Op.slice t x lo hi none) (v : Value)
    (hrun : (Instr.sliceAt t (a.eval x) (lo.map a.eval) (hi.map a.eval) none).run P w = .ok v w) : (execOp a.eval o).run P w = .ok (.value v) w := by
  simp only [execOp, hop]
  simp [hrun, Result.andThen]
end Go.Proofs.Ytfbejbkacpkalaa
