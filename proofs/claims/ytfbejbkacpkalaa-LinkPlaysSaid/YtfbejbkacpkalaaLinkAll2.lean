/-
  Contract of the law's 'all': the frames under way, in order.
-/
import Derived.Test.YtfbejbkacpkalaaLinkAll
namespace Go.Proofs.Ytfbejbkacpkalaa
open Go.RowKit Go.Shelf

attribute [local go_sem] Oper.semAt_some

theorem run_equalIn_func_nil {P : Program} (w : World) (d : Nat) (t : TypeId) (ps rs : Array TypeId) (vd : Bool) (f : Fn) (ta lb : Array Value) (h : P.underlying t = some (.func ps rs vd)) :
    (Op.equalIn (d + 1) t (.func f ta lb) .nilFunc).run P w = .ok false w := by
  simp [Op.equalIn, run_underlying h]
theorem run_eql_func_nil {P : Program} (w : World) (t : TypeId) (ps rs : Array TypeId) (vd : Bool) (f : Fn) (ta lb : Array Value) (h : P.underlying t = some (.func ps rs vd)) :
    (binOp .eql t (.func f ta lb) .nilFunc).run P w = .ok (.bool false) w := by
  simp only [binOp]
  simp [Op.equal, Op.maxDepth, run_equalIn_func_nil w 9999 t ps rs vd f ta lb h]

theorem Elem.wpIn_app {P : Program} {t e : TypeId} {z : Value} {bytes : Nat} (E : Elem P t e z bytes) {F : Fence} {n' : Nat} {w : World} {ops : Array Oper} {rest : List Oper} {o : Oper} {a : Act} {Q : Exit → Act → World → Prop} (hgd : o.guard = none) (s x : Operand)
    (ho : o.op = .call { callee := .builtin .append, args := #[s, x], argTypes := #[t, t] })
    (base : Nat) (v : Value) (n : Nat) (xs : List Value) (hs : a.eval s = v) (hown : w.ownsRow base e 1 v n xs)
    (A : Option Addr) (m c : Nat) (news : List Value) (hx : a.eval x = .slice A m c) (hr : Rd w A m news) (h1 : ∀ u ∈ news, u.oneCell' = true)
    (h63 : n + m ≤ 9223372036854775807) (hbytes : (n + m) * bytes ≤ 140737488355328) (hbase : base ≤ w.heap.size)
    (h : ∀ v' w', w'.ownsRow base e 1 v' (n + m) (xs ++ news) → Keep v.ownBlock.toList w w' → (v'.ownBlock = v.ownBlock ∨ v'.ownBlock = some w.heap.size) → wpListIn F n' P ops Q rest (a.put o.dst v') w') : wpListIn F n' P ops Q (o :: rest) a w := by
  obtain ⟨v', w', hrun, h2, h3, h4, _⟩ := E.run_app w base o.type v n xs hown A m c news hr h1 h63 hbytes hbase
  refine wpListIn_plain hgd fun K hK => ?_
  refine ⟨?_, ?_⟩
  · simp [Oper.about, ho, resolve, Target.leads, Sem.run_pure]
  · rw [Oper.semAt_plain F _ _ (by rw [ho]; intro c h; cases h)]
    simp only [execOp, ho, resolve, invoke, builtin, Sem.run_bind, Sem.run_pure, Result.andThen_ok, List.map_toArray, List.map_cons, List.map_nil, hs, hx, hrun]
    exact hK _ _ (h v' w' h2 h3 h4)

theorem Keep.fromCells {l : List Nat} {W W' : World} (h : Keep l W W') (hl : ∀ g ∈ l, ∀ o, W.heap[g]? = some o → o.isCells = true) (B : Nat) : KeepsFrom B W W' :=
  ⟨h.size, fun k o _ hk ho => (h.block k (Array.getElem?_eq_some_iff.1 hk).1 (fun hm => by rw [hl k hm o hk] at ho; cases ho)).trans hk⟩
theorem own_cells {w : World} {base : Nat} {e : TypeId} {v : Value} {n s : Nat} {xs : List Value} (h : w.ownsRow base e s v n xs) : ∀ g ∈ v.ownBlock.toList, ∀ o, w.heap[g]? = some o → o.isCells = true := by
  intro g hg o ho
  rcases h.2 with ⟨rfl, _⟩ | ⟨g', cap, cur, rfl, _, hgb, _⟩
  · simp [Value.ownBlock] at hg
  · obtain rfl : g' = g := by simpa [Value.ownBlock, eq_comm] using hg
    rw [hgb] at ho; cases ho; rfl
theorem boxed_keep {W W' : World} {B : Nat} {t : TypeId} {v : Value} {l : List Nat} (h : Boxed W B t v) (hk : Keep l W W') (hB : B ∉ l) : Boxed W' B t v := (hk.block B h.lt hB).trans h
theorem boxed_putObj {W : World} {B l : Nat} {t : TypeId} {v : Value} {o : Obj} (o' : Obj) (h : Boxed W B t v) (hl : W.heap[l]? = some o) (ho : o.isCells = false) : Boxed (W.putObj l o') B t v := by
  refine (World.putObj_heap_other ?_).trans h
  rintro rfl
  rw [show W.heap[B]? = _ from h] at hl; cases hl; cases ho
theorem Keep.putObj {l : List Nat} {w W : World} (h : Keep l w W) {g : Nat} (hg : w.heap.size ≤ g) (o' : Obj) : Keep l w (W.putObj g o') :=
  ⟨h.os, h.tape, h.output, by rw [World.putObj_size]; exact h.size, fun k hk hn => (World.putObj_heap_other (by omega)).trans (h.block k hk hn)⟩

/-- what the loop of 'all' keeps: its two result cells, its row, the rows handed over -/
structure Coll (w : World) (B2 B3 B5 n₀ : Nat) (pre : List Rnd) (W : World) : Prop where
  out : ∃ ov, Boxed W B5 34 ov ∧ W.ownsRow n₀ 28 1 ov pre.length (pre.map (·.2.1))
  own : ∀ x ∈ pre, W.ownsRow n₀ 5 1 x.2.1 x.2.2.length (bys x.2.2)
  r2 : Boxed W B2 34 (.slice none 0 0)
  r3 : Boxed W B3 4 (.bool false)
  keep : Keep [] w W
theorem Coll.kept {w A B : World} {B2 B3 B5 n₀ : Nat} {pre : List Rnd} (h : Coll w B2 B3 B5 n₀ pre A) (hk : Keep [] A B) : Coll w B2 B3 B5 n₀ pre B := by
  obtain ⟨ov, h1, h2⟩ := h.out
  exact ⟨⟨ov, boxed_keep h1 hk (by simp), own_keep0 h2 hk⟩, fun x hx => own_keep0 (h.own x hx) hk, boxed_keep h.r2 hk (by simp), boxed_keep h.r3 hk (by simp), h.keep.trans0 hk⟩
theorem Coll.turned {w W : World} {B2 B3 B5 n₀ l : Nat} {pre : List Rnd} {o o' : Obj} (h : Coll w B2 B3 B5 n₀ pre W) (hl : w.heap.size ≤ l) (hg : W.heap[l]? = some o) (ho : o.isCells = false) : Coll w B2 B3 B5 n₀ pre (W.putObj l o') := by
  obtain ⟨ov, h1, h2⟩ := h.out
  exact ⟨⟨ov, boxed_putObj o' h1 hg ho, ownsRow_putObj h2 o' hg ho⟩, fun x hx => ownsRow_putObj (h.own x hx) o' hg ho, boxed_putObj o' h.r2 hg ho, boxed_putObj o' h.r3 hg ho, h.keep.putObj hl o'⟩

set_option maxRecDepth 100000 in
set_option maxHeartbeats 2000000 in
theorem all_any (w : World) (b : Nat) (v : Value) (ls : List (Value × List UInt8)) (hL : Lk w b v ls) :
    Calls Try.prog 14 #[.pointer (some ⟨b, 0, none⟩)] w fun e w' => ∃ A m c ls', e = .returned (.tuple #[.slice A m c, .bool true]) ∧ Rws w' A m ls' ∧ ls'.map (·.2) = ls.map (·.2) ∧ Keep [] w w' := by
  refine (callsIn_wide (n := 3)).1 ?_
  refine callsIn_of_wp_marks Try.func14 rfl trivial ?_ rfl
  simp only [Try.ntmps14, List.size_toArray, List.length_cons, List.length_nil, Nat.reduceAdd, Nat.reduceSub, Array.replicate_succ, Array.replicate_zero, List.push_toArray, List.append_toArray, List.nil_append, List.cons_append]
  gi_wp2_with (refine ⟨trivial, ?_⟩; refine (All_in _ _ _ rfl).mono ?_; rintro e w' ⟨rfl, rfl⟩)
  rw [run_eql_func_nil _ _ _ _ _ _ _ _ Try.underlying57]
  gi_wp2
  obtain ⟨w1, hw1⟩ : ∃ w1, w1 = w.alloc (.cells #[.slice none 0 0] 34) := ⟨_, rfl⟩
  obtain ⟨w2, hw2⟩ : ∃ w2, w2 = w1.alloc (.cells #[.bool false] 4) := ⟨_, rfl⟩
  obtain ⟨w3, hw3⟩ : ∃ w3, w3 = w2.alloc (.cells #[.pointer (some ⟨b, 0, none⟩)] 25) := ⟨_, rfl⟩
  obtain ⟨w4, hw4⟩ : ∃ w4, w4 = w3.alloc (.cells #[.slice none 0 0] 34) := ⟨_, rfl⟩
  rw [← hw1, ← hw2, ← hw3, ← hw4]
  have s1 : w1.heap.size = w.heap.size + 1 := by rw [hw1, World.size_alloc]
  have s2 : w2.heap.size = w.heap.size + 2 := by rw [hw2, World.size_alloc, s1]
  have s3 : w3.heap.size = w.heap.size + 3 := by rw [hw3, World.size_alloc, s2]
  have s4 : w4.heap.size = w.heap.size + 4 := by rw [hw4, World.size_alloc, s3]
  have k1 : Keep [] w w1 := by rw [hw1]; exact (Keep.refl _ _).alloc _
  have k2 : Keep [] w1 w2 := by rw [hw2]; exact (Keep.refl _ _).alloc _
  have k3 : Keep [] w2 w3 := by rw [hw3]; exact (Keep.refl _ _).alloc _
  have k4 : Keep [] w3 w4 := by rw [hw4]; exact (Keep.refl _ _).alloc _
  have kw : Keep [] w w4 := ((k1.trans0 k2).trans0 k3).trans0 k4
  have b2 : Boxed w4 w.heap.size 34 (.slice none 0 0) := boxed_keep (by rw [hw1]; exact Boxed.new w _ _) ((k2.trans0 k3).trans0 k4) (by simp)
  have b3 : Boxed w4 (w.heap.size + 1) 4 (.bool false) := boxed_keep (by rw [hw2, ← s1]; exact Boxed.new w1 _ _) (k3.trans0 k4) (by simp)
  have bc : Boxed w4 (w.heap.size + 1 + 1) 25 (.pointer (some ⟨b, 0, none⟩)) := boxed_keep (by rw [hw3, ← s1]; rw [show w1.heap.size + 1 = w2.heap.size by omega]; exact Boxed.new w2 _ _) k4 (by simp)
  have b5 : Boxed w4 (w.heap.size + 1 + 1 + 1) 34 (.slice none 0 0) := by rw [hw4, show w.heap.size + 1 + 1 + 1 = w3.heap.size by omega]; exact Boxed.new w3 _ _
  have h0 : Coll w w.heap.size (w.heap.size + 1) (w.heap.size + 1 + 1 + 1) w.heap.size [] w4 := ⟨⟨_, b5, World.ownsRow_nil _ _ _ _⟩, by simp, b2, b3, kw⟩
  have hL4 : Lk w4 b v ls := hL.same fun g hg => kw.block g (hL.fp_lt g hg) (by simp)
  refine wpIn_rangeF (n := 3) (gf := 32) (lb := #[.pointer (some ⟨w.heap.size + 1 + 1, 0, none⟩)]) rfl (enters_of Try.func32 (by kernel_rfl) rfl)
    (All1_seq 2 w.heap.size (w.heap.size + 1 + 1) b v ls w4 hL4 bc hL.fp_lt (by omega))
    (fun A B C h k => ⟨h.1.trans k.1, fun hb => k.2 (h.2 hb)⟩)
    (fun W l o o' hl hg ho => ⟨(Below.refl _ W).grown (grownBy_putObj' W l o') (by have := (Array.getElem?_eq_some_iff.1 hg).1; omega) (fun k e => by cases e; omega), fun hb => boxed_putObj o' hb hg ho⟩)
    (fun _ => rfl) (Coll w w.heap.size (w.heap.size + 1) (w.heap.size + 1 + 1 + 1) w.heap.size) (fun s A B h hk => h.kept hk) (fun s W l o o' h hl hg ho => h.turned (by omega) hg ho)
    (fun pre x W l o o' h hl hg ho => ⟨h.1, h.2.1, ownsRow_putObj h.2.2 o' hg ho⟩) h0
    (fun x => { tmps := #[.pointer (some ⟨b, 0, none⟩), undef, .pointer (some ⟨w.heap.size, 0, none⟩), .pointer (some ⟨w.heap.size + 1, 0, none⟩), .func (.func 32) #[] #[.pointer (some ⟨w.heap.size + 1 + 1, 0, none⟩)], .pointer (some ⟨w.heap.size + 1 + 1 + 1, 0, none⟩),
      .int .i64 (x.1 : Nat), x.2.1, .pointer (some ⟨b, 0, none⟩), .func (.func 32) #[] #[.pointer (some ⟨w.heap.size + 1 + 1, 0, none⟩)], .func (.func 32) #[] #[.pointer (some ⟨w.heap.size + 1 + 1, 0, none⟩)], .bool false, .func (.func 32) #[] #[.pointer (some ⟨w.heap.size + 1 + 1, 0, none⟩)], .int .i64 (x.1 : Nat), x.2.1,
      undef, undef, undef, undef, undef, undef, undef, undef, undef, undef, undef, undef, undef], defers := [] }) ?assign ?body ?done
  case assign =>
    rintro l ⟨k, u, bs⟩ W K hK
    dsimp only [rndArgs] at hK ⊢
    gi_wp2
    exact hK
  case body =>
    rintro l pre ⟨k, u, bs⟩ W hI ⟨hk, hk64, ho⟩
    dsimp only at hk hk64 ho ⊢
    subst hk
    obtain ⟨ov, h1, h2⟩ := hI.out
    obtain ⟨UA, uc, rfl, _⟩ := own_form ho
    obtain ⟨OA, oc, hov, _⟩ := own_form h2
    have hc5 := h1.cell
    have hf5 := h1.frozen
    have hsz := hI.keep.size
    have hal : Keep [] W (W.alloc (.cells #[.slice UA bs.length uc] 28)) := (Keep.refl _ _).alloc _
    have hne : (w.heap.size + 1 + 1 + 1) ∉ ov.ownBlock.toList := fun hm => h1.not_row (by decide) h2 (Eq.symm (by simpa using hm))
    have HN := hide hne
    clear hne
    have H2 := hide h2
    have H1 := hide h1
    clear h1 h2
    rw [hov] at hc5
    have HO := hide ho
    clear ho h0 hL4 b2 b3 bc b5 kw k1 k2 k3 k4 hw4 hw3 hw2 hw1
    gi_wp2_with (gi_at_builtin; refine elemRows.wpIn_app rfl _ _ rfl w.heap.size ov pre.length (pre.map (·.2.1)) hov.symm (own_alloc (unhide H2) _) _ 1 1 [_] rfl (rd_new1 _ _ _) (by simp [Value.oneCell']) (by omega) (by omega) (by simp; omega) ?_; intro v' w' hv' hk' hat; (obtain ⟨VA, vc, rfl, _⟩ := own_form hv'); (have hx5 := boxed_keep (boxed_keep (unhide H1) hal (by simp)) hk' (unhide HN)); (have hc5' := hx5.cell); have hf5' := hx5.frozen)
    have h1 := unhide H1
    have h2 := unhide H2
    have ho := unhide HO
    have hK : Keep ((w.heap.size + 1 + 1 + 1) :: ov.ownBlock.toList) W (w'.setCell ⟨w.heap.size + 1 + 1 + 1, 0, none⟩ (.slice VA (pre.length + 1) vc)) :=
      ((hal.mono (m := (w.heap.size + 1 + 1 + 1) :: ov.ownBlock.toList) (by simp)).trans hk' (fun x hx => .inl (List.mem_cons_of_mem _ hx))).setCell (.inl (by simp)) _
    have hge : ∀ g ∈ (w.heap.size + 1 + 1 + 1) :: ov.ownBlock.toList, w.heap.size ≤ g := by
      intro g hg
      rcases List.mem_cons.1 hg with rfl | hg
      · omega
      · exact (own_mem h2 hg).1
    have hrow : ∀ {u : Value} {xs : List Value} {m : Nat}, W.ownsRow w.heap.size 5 1 u m xs → ∀ g, u.ownBlock = some g → g ∉ (w.heap.size + 1 + 1 + 1) :: ov.ownBlock.toList := by
      intro u xs m hu g hg hm
      rcases List.mem_cons.1 hm with rfl | hm
      · exact h1.not_row (by decide) hu hg.symm
      · exact own_ne hu h2 (by decide) hg (by simpa using hm)
    have hbox : ∀ {B : Nat} {t : TypeId} {u : Value}, Boxed W B t u → t ≠ 28 → B ≠ w.heap.size + 1 + 1 + 1 → B ∉ (w.heap.size + 1 + 1 + 1) :: ov.ownBlock.toList := by
      intro B t u hB ht hne hm
      rcases List.mem_cons.1 hm with e | hm
      · exact hne e
      · exact hB.not_row ht h2 (Eq.symm (by simpa using hm))
    refine ⟨hK.fromCells ?_ _, ⟨?_, fun hb => boxed_keep hb hK (hbox hb (by decide) (by omega))⟩, ⟨?_, ?_, ?_, ?_, ?_⟩⟩
    · intro g hg o hgo
      rcases List.mem_cons.1 hg with rfl | hg
      · rw [show W.heap[_]? = _ from h1] at hgo; cases hgo; rfl
      · exact own_cells h2 g hg o hgo
    · exact ⟨hK.os, hK.tape, hK.output, hK.size, fun k hk => hK.block k (Nat.lt_of_lt_of_le hk hsz) (fun hm => by have := hge k hm; omega)⟩
    · refine ⟨_, hx5.set _, ?_⟩
      rw [List.length_append, List.map_append]
      exact own_set hv' (fun hm => hx5.not_row (by decide) hv' (Eq.symm (by simpa using hm))) _
    · intro x hx
      rcases List.mem_append.1 hx with hx | hx
      · exact own_keep (hI.own x hx) hK (hrow (hI.own x hx))
      · obtain rfl := List.mem_singleton.1 hx
        exact own_keep ho hK (hrow ho)
    · exact boxed_keep hI.r2 hK (hbox hI.r2 (by decide) (by omega))
    · exact boxed_keep hI.r3 hK (hbox hI.r3 (by decide) (by omega))
    · exact hI.keep.trans hK (fun x hx => .inr (hge x hx))
  case done =>
    intro D xs W hD hS hI hdef
    obtain ⟨ov, h1, h2⟩ := hI.out
    have hc5 := h1.cell
    have hc2 := hI.r2.cell
    have hf2 := hI.r2.frozen
    have hc3 := hI.r3.cell
    have hf3 := hI.r3.frozen
    obtain ⟨OA, oc, hov, _⟩ := own_form h2
    have H1 := hide h1
    have H2 := hide h2
    clear h1 h2 hL4 b2 b3 bc b5 h0 hw4 hw3 hw2 hw1 k1 k2 k3 k4 kw
    rw [hov] at hc5
    gi_wp2
    have h1 := unhide H1
    have h2 := unhide H2
    obtain ⟨W2, hW2⟩ : ∃ W2, W2 = (W.setCell ⟨w.heap.size, 0, none⟩ (.slice OA xs.length oc)).setCell ⟨w.heap.size + 1, 0, none⟩ (.bool true) := ⟨_, rfl⟩
    rw [← hW2]
    have hK : Keep [w.heap.size, w.heap.size + 1] W W2 := by rw [hW2]; exact ((Keep.refl _ _).setCell (.inl (by simp)) _).setCell (.inl (by simp)) _
    have hdef2 : W2.heap[D]? = some (.deferred (some [])) := (hK.block D (Array.getElem?_eq_some_iff.1 hdef).1 (by simp; omega)).trans hdef
    have r2 : Boxed W2 w.heap.size 34 (.slice OA xs.length oc) := by
      rw [hW2]
      exact boxed_keep (hI.r2.set _) ((Keep.refl [w.heap.size + 1] _).setCell (.inl (by simp)) _) (by simp)
    have r3 : Boxed W2 (w.heap.size + 1) 4 (.bool true) := by
      rw [hW2]
      exact Boxed.set _ (boxed_keep hI.r3 ((Keep.refl [w.heap.size] _).setCell (.inl (by simp)) _) (by simp))
    have hrow : ∀ {u : Value} {xs : List Value} {m : Nat} {e : TypeId}, W.ownsRow w.heap.size e 1 u m xs → e ≠ 34 → e ≠ 4 → ∀ g, u.ownBlock = some g → g ∉ [w.heap.size, w.heap.size + 1] := by
      intro u xs m e hu he he' g hg hm
      simp only [List.mem_cons, List.not_mem_nil, or_false] at hm
      rcases hm with rfl | rfl
      · exact hI.r2.not_row (Ne.symm he) hu hg.symm
      · exact hI.r3.not_row (Ne.symm he') hu hg.symm
    have h2' := own_keep h2 hK (hrow h2 (by decide) (by decide))
    have ho' := fun x hx => own_keep (hI.own x hx) hK (hrow (hI.own x hx) (by decide) (by decide))
    have hkw : Keep [] w W2 := hI.keep.trans hK (fun x hx => .inr (by simp at hx; omega))
    have q2 := (boxed_putObj (.deferred none) r2 hdef2 rfl).cell
    have q3 := (boxed_putObj (.deferred none) r3 hdef2 rfl).cell
    refine ⟨by simp, .inl ⟨_, _, rfl, run_takeDeferred hdef2, ?_⟩⟩
    rw [hov] at h2'
    refine ⟨.tuple #[.slice OA xs.length oc, .bool true], ?_, OA, xs.length, oc, xs.map (·.2), rfl, ⟨?_, ?_⟩, ?_, hkw.putObj (by omega) _⟩
    · simp [results, Try.results14, go_sem, q2, q3]
    · have := Rd.of_own (ownsRow_putObj h2' (.deferred none) hdef2 rfl)
      rw [List.map_map]; exact this
    · intro p hp
      obtain ⟨x, hx, rfl⟩ := List.mem_map.1 hp
      refine Bts.of_own (ownsRow_putObj (ho' x hx) (.deferred none) hdef2 rfl) ?_
      have hm : x.2.2 ∈ ls.map (·.2) := by rw [← hS]; exact List.mem_map.2 ⟨x, hx, rfl⟩
      obtain ⟨p, hp, he⟩ := List.mem_map.1 hm
      rw [← he]
      exact hL.small p hp
    · rw [← hS, List.map_map]; rfl
end Go.Proofs.Ytfbejbkacpkalaa
