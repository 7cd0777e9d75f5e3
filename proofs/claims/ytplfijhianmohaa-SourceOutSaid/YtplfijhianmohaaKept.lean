/-
  Contract of the law's 'kept': the ops that a source keeps, in order.
-/
import Derived.Test.YtplfijhianmohaaSrcOps
import Derived.Test.YtplfijhianmohaaRange2
namespace Go.Proofs.Ytplfijhianmohaa
open Go.RowKit Go.Shelf

attribute [local go_sem] Oper.semAt_some

theorem run_equalIn_func_nil {P : Program} (w : World) (d : Nat) (t : TypeId) (ps rs : Array TypeId) (vd : Bool) (f : Fn) (ta lb : Array Value) (h : P.underlying t = some (.func ps rs vd)) :
    (Op.equalIn (d + 1) t (.func f ta lb) .nilFunc).run P w = .ok false w := by
  simp [Op.equalIn, run_underlying h]
theorem run_eql_func_nil {P : Program} (w : World) (t : TypeId) (ps rs : Array TypeId) (vd : Bool) (f : Fn) (ta lb : Array Value) (h : P.underlying t = some (.func ps rs vd)) :
    (binOp .eql t (.func f ta lb) .nilFunc).run P w = .ok (.bool false) w := by
  simp only [binOp]
  simp [Op.equal, Op.maxDepth, run_equalIn_func_nil w 9999 t ps rs vd f ta lb h]

theorem ElemN.wpIn_app {P : Program} {t e : TypeId} {z : Value} {s bytes : Nat} (E : ElemN P t e z s bytes) {F : Fence} {n' : Nat} {w : World} {ops : Array Oper} {rest : List Oper} {o : Oper} {a : Act} {Q : Exit → Act → World → Prop} (hgd : o.guard = none) (sl x : Operand)
    (ho : o.op = .call { callee := .builtin .append, args := #[sl, x], argTypes := #[t, t] })
    (base : Nat) (v : Value) (n : Nat) (xs : List Value) (hs : a.eval sl = v) (hown : w.ownsRow base e s v n xs)
    (ad : Addr) (m c : Nat) (news : List Value) (hx : a.eval x = .slice (some ad) m c) (hr : Rd w (some ad) (m * s) news) (h1 : ∀ u ∈ news, u.oneCell' = true)
    (h63 : n + m ≤ 9223372036854775807) (hbytes : (n + m) * bytes ≤ 140737488355328) (hbase : base ≤ w.heap.size)
    (h : ∀ v' w', w'.ownsRow base e s v' (n + m) (xs ++ news) → Keep v.ownBlock.toList w w' → (v'.ownBlock = v.ownBlock ∨ v'.ownBlock = some w.heap.size) → wpListIn F n' P ops Q rest (a.put o.dst v') w') : wpListIn F n' P ops Q (o :: rest) a w := by
  obtain ⟨v', w', hrun, h2, h3, h4, _⟩ := E.run_app w base o.type v n xs hown ad m c news hr h1 h63 hbytes hbase
  refine wpListIn_plain hgd fun K hK => ?_
  refine ⟨?_, ?_⟩
  · simp [Oper.about, ho, resolve, Target.leads, Sem.run_pure]
  · rw [Oper.semAt_plain F _ _ (by rw [ho]; intro c h; cases h)]
    simp only [execOp, ho, resolve, invoke, builtin, Sem.run_bind, Sem.run_pure, Result.andThen_ok, List.map_toArray, List.map_cons, List.map_nil, hs, hx, hrun]
    exact hK _ _ (h v' w' h2 h3 h4)

theorem Keep.fromCells {l : List Nat} {W W' : World} (h : Keep l W W') (hl : ∀ g ∈ l, ∀ o, W.heap[g]? = some o → o.isCells = true) (B : Nat) : KeepsFrom B W W' :=
  ⟨h.size, fun k o _ hk ho => (h.block k (Array.getElem?_eq_some_iff.1 hk).1 (fun hm => by rw [hl k hm o hk] at ho; cases ho)).trans hk⟩
theorem own_cells {w : World} {base : Nat} {e : TypeId} {v : Value} {n s : Nat} {xs : List Value} (h : w.ownsRow base e s v n xs) : ∀ g ∈ v.ownBlock.toList, ∀ o, w.heap[g]? = some o → o.isCells = true := by
  intro g hg o ho
  rcases h.2 with ⟨rfl, _⟩ | ⟨g', cap, cur, rfl, _, hgb, _⟩
  · simp [Value.ownBlock] at hg
  · obtain rfl : g' = g := by simpa [Value.ownBlock, eq_comm] using hg
    rw [hgb] at ho; cases ho; rfl
theorem boxed_keep {W W' : World} {B : Nat} {t : TypeId} {v : Value} {l : List Nat} (h : Boxed W B t v) (hk : Keep l W W') (hB : B ∉ l) : Boxed W' B t v := (hk.block B h.lt hB).trans h
theorem boxed_putObj {W : World} {B l : Nat} {t : TypeId} {v : Value} {o : Obj} (o' : Obj) (h : Boxed W B t v) (hl : W.heap[l]? = some o) (ho : o.isCells = false) : Boxed (W.putObj l o') B t v := by
  refine (World.putObj_heap_other ?_).trans h
  rintro rfl
  rw [show W.heap[B]? = _ from h] at hl; cases hl; cases ho
theorem Keep.putObj {l : List Nat} {w W : World} (h : Keep l w W) {g : Nat} (hg : w.heap.size ≤ g) (o' : Obj) : Keep l w (W.putObj g o') :=
  ⟨h.os, h.tape, h.output, by rw [World.putObj_size]; exact h.size, fun k hk hn => (World.putObj_heap_other (by omega)).trans (h.block k hk hn)⟩

/-- what the loop of 'kept' keeps: its cells, its row, the ops handed over -/
structure KCol (w : World) (Bf B4 B5 B7 n₀ fr : Nat) (pre : List OpRnd) (W : World) : Prop where
  out : ∃ ov, Boxed W B7 27 ov ∧ W.ownsRow n₀ 58 5 ov pre.length ((pre.map opPr).flatMap opc)
  own : ∀ x ∈ pre, W.ownsRow n₀ 5 1 (opHd x) x.2.2.d.length (bys x.2.2.d)
  rf : Boxed W Bf 3 (.int .i64 (fr : Nat))
  r4 : Boxed W B4 27 (.slice none 0 0)
  r5 : Boxed W B5 4 (.bool false)
  keep : Keep [] w W
theorem KCol.kept {w A B : World} {Bf B4 B5 B7 n₀ fr : Nat} {pre : List OpRnd} (h : KCol w Bf B4 B5 B7 n₀ fr pre A) (hk : Keep [] A B) : KCol w Bf B4 B5 B7 n₀ fr pre B := by
  obtain ⟨ov, h1, h2⟩ := h.out
  exact ⟨⟨ov, boxed_keep h1 hk (by simp), own_keep0 h2 hk⟩, fun x hx => own_keep0 (h.own x hx) hk, boxed_keep h.rf hk (by simp), boxed_keep h.r4 hk (by simp), boxed_keep h.r5 hk (by simp), h.keep.trans0 hk⟩
theorem KCol.turned {w W : World} {Bf B4 B5 B7 n₀ fr l : Nat} {pre : List OpRnd} {o o' : Obj} (h : KCol w Bf B4 B5 B7 n₀ fr pre W) (hl : w.heap.size ≤ l) (hg : W.heap[l]? = some o) (ho : o.isCells = false) : KCol w Bf B4 B5 B7 n₀ fr pre (W.putObj l o') := by
  obtain ⟨ov, h1, h2⟩ := h.out
  exact ⟨⟨ov, boxed_putObj o' h1 hg ho, ownsRow_putObj h2 o' hg ho⟩, fun x hx => ownsRow_putObj (h.own x hx) o' hg ho, boxed_putObj o' h.rf hg ho, boxed_putObj o' h.r4 hg ho, boxed_putObj o' h.r5 hg ho, h.keep.putObj hl o'⟩

set_option maxRecDepth 100000 in
set_option maxHeartbeats 4000000 in
theorem kept_any (w0 w : World) (s view size epoch seq acked done : Nat) (L : Value) (os : List (Value × POp)) (h : Src w0 w s view size epoch seq acked done L os) (hfew : os.length ≤ 500) :
    Calls Try.prog 13 #[.pointer (some ⟨s, 0, none⟩), .int .i64 ((done + 1 : Nat) : Int)] w fun e w' => ∃ A m c os', e = .returned (.tuple #[.slice A m c, .bool true]) ∧ OpsRd w' A m os' ∧ os'.map (·.2) = os.map (·.2) ∧ (∀ p ∈ os', Bts w' p.1 p.2.d) ∧ Keep [] w w' := by
  refine (callsIn_wide (n := 3)).1 ?_
  refine callsIn_of_wp_marks Try.func13 rfl trivial ?_ rfl
  simp only [Try.ntmps13, List.size_toArray, List.length_cons, List.length_nil, Nat.reduceAdd, Nat.reduceSub, Array.replicate_succ, Array.replicate_zero, List.push_toArray, List.append_toArray, List.nil_append, List.cons_append]
  obtain ⟨fr, hfr⟩ : ∃ fr, fr = done + 1 := ⟨_, rfl⟩
  rw [← hfr]
  have HFR := hide hfr
  clear hfr
  gi_wp2_with (refine ⟨trivial, ?_⟩; refine (Ops_in _ _ _ rfl).mono ?_; rintro e w' ⟨rfl, rfl⟩)
  rw [run_eql_func_nil _ _ _ _ _ _ _ _ Try.underlying69]
  gi_wp2
  obtain ⟨w1, hw1⟩ : ∃ w1, w1 = w.alloc (.cells #[.int .i64 fr] 3) := ⟨_, rfl⟩
  obtain ⟨w2, hw2⟩ : ∃ w2, w2 = w1.alloc (.cells #[.slice none 0 0] 27) := ⟨_, rfl⟩
  obtain ⟨w3, hw3⟩ : ∃ w3, w3 = w2.alloc (.cells #[.bool false] 4) := ⟨_, rfl⟩
  obtain ⟨w4, hw4⟩ : ∃ w4, w4 = w3.alloc (.cells #[.pointer (some ⟨s, 0, none⟩)] 25) := ⟨_, rfl⟩
  obtain ⟨w5, hw5⟩ : ∃ w5, w5 = w4.alloc (.cells #[.slice none 0 0] 27) := ⟨_, rfl⟩
  rw [← hw1, ← hw2, ← hw3, ← hw4, ← hw5]
  have s1 : w1.heap.size = w.heap.size + 1 := by rw [hw1, World.size_alloc]
  have s2 : w2.heap.size = w.heap.size + 2 := by rw [hw2, World.size_alloc, s1]
  have s3 : w3.heap.size = w.heap.size + 3 := by rw [hw3, World.size_alloc, s2]
  have s4 : w4.heap.size = w.heap.size + 4 := by rw [hw4, World.size_alloc, s3]
  have s5 : w5.heap.size = w.heap.size + 5 := by rw [hw5, World.size_alloc, s4]
  have k1 : Keep [] w w1 := by rw [hw1]; exact (Keep.refl _ _).alloc _
  have k2 : Keep [] w1 w2 := by rw [hw2]; exact (Keep.refl _ _).alloc _
  have k3 : Keep [] w2 w3 := by rw [hw3]; exact (Keep.refl _ _).alloc _
  have k4 : Keep [] w3 w4 := by rw [hw4]; exact (Keep.refl _ _).alloc _
  have k5 : Keep [] w4 w5 := by rw [hw5]; exact (Keep.refl _ _).alloc _
  have kw : Keep [] w w5 := (((k1.trans0 k2).trans0 k3).trans0 k4).trans0 k5
  have bf : Boxed w5 w.heap.size 3 (.int .i64 fr) := boxed_keep (by rw [hw1]; exact Boxed.new w _ _) (((k2.trans0 k3).trans0 k4).trans0 k5) (by simp)
  have b4 : Boxed w5 (w.heap.size + 1) 27 (.slice none 0 0) := boxed_keep (by rw [hw2, ← s1]; exact Boxed.new w1 _ _) ((k3.trans0 k4).trans0 k5) (by simp)
  have b5 : Boxed w5 (w.heap.size + 1 + 1) 4 (.bool false) := boxed_keep (by rw [hw3, show w.heap.size + 1 + 1 = w2.heap.size by omega]; exact Boxed.new w2 _ _) (k4.trans0 k5) (by simp)
  have bc : Boxed w5 (w.heap.size + 1 + 1 + 1) 25 (.pointer (some ⟨s, 0, none⟩)) := boxed_keep (by rw [hw4, show w.heap.size + 1 + 1 + 1 = w3.heap.size by omega]; exact Boxed.new w3 _ _) k5 (by simp)
  have b7 : Boxed w5 (w.heap.size + 1 + 1 + 1 + 1) 27 (.slice none 0 0) := by rw [hw5, show w.heap.size + 1 + 1 + 1 + 1 = w4.heap.size by omega]; exact Boxed.new w4 _ _
  have h0 : KCol w w.heap.size (w.heap.size + 1) (w.heap.size + 1 + 1) (w.heap.size + 1 + 1 + 1 + 1) w.heap.size fr [] w5 := ⟨⟨_, b7, World.ownsRow_nil _ _ _ _⟩, by simp, bf, b4, b5, kw⟩
  have hseq := Ops1_seq 2 w.heap.size (w.heap.size + 1 + 1 + 1) w0 s view size epoch seq acked done L os w5 (h.keep0 kw) bc h.under h.keep.size (by omega)
  rw [← unhide HFR] at hseq
  refine wpIn_rangeF2 (n := 3) (gf := 52) (lb := #[.pointer (some ⟨w.heap.size + 1 + 1 + 1, 0, none⟩)]) rfl (enters_of Try.func52 (by kernel_rfl) rfl)
    hseq
    (fun A B C h k => ⟨h.1.trans k.1, fun hb => k.2 (h.2 hb)⟩)
    (fun W l o o' hl hg ho => ⟨(Below.refl _ W).grown (grownBy_putObj' W l o') (by have := (Array.getElem?_eq_some_iff.1 hg).1; omega) (fun k e => by cases e; omega), fun hb => boxed_putObj o' hb hg ho⟩)
    (fun _ => rfl) (KCol w w.heap.size (w.heap.size + 1) (w.heap.size + 1 + 1) (w.heap.size + 1 + 1 + 1 + 1) w.heap.size fr) (fun s A B h hk => h.kept hk) (fun s W l o o' h hl hg ho => h.turned (by omega) hg ho)
    (fun pre x W l o o' h hl hg ho => ⟨h.1, h.2.1, h.2.2.1, ownsRow_putObj h.2.2.2 o' hg ho⟩)
    (fun pre x A B h hk => ⟨h.1, h.2.1, h.2.2.1, own_keep0 h.2.2.2 hk⟩)
    (fun A B hA hk => ⟨⟨hk.os, hk.tape, hk.output, hk.size, fun k hk' => hk.block k (by omega) (by simp)⟩, fun hb => boxed_keep hb hk (by simp)⟩) h0
    (fun x N => { tmps := #[.pointer (some ⟨s, 0, none⟩), .int .i64 fr, undef, .pointer (some ⟨w.heap.size, 0, none⟩), .pointer (some ⟨w.heap.size + 1, 0, none⟩), .pointer (some ⟨w.heap.size + 1 + 1, 0, none⟩),
      .func (.func 52) #[] #[.pointer (some ⟨w.heap.size + 1 + 1 + 1, 0, none⟩)], .pointer (some ⟨w.heap.size + 1 + 1 + 1 + 1, 0, none⟩), .int .i64 (x.1 : Nat), .pointer (some ⟨N, 0, none⟩), .pointer (some ⟨s, 0, none⟩),
      .func (.func 52) #[] #[.pointer (some ⟨w.heap.size + 1 + 1 + 1, 0, none⟩)], .func (.func 52) #[] #[.pointer (some ⟨w.heap.size + 1 + 1 + 1, 0, none⟩)], .bool false, .func (.func 52) #[] #[.pointer (some ⟨w.heap.size + 1 + 1 + 1, 0, none⟩)],
      .int .i64 (x.1 : Nat), .agg #[.int .i64 x.2.2.k, .int .i64 x.2.2.b, .int .i64 x.2.2.c, .int .i64 x.2.2.e, .slice x.2.1.1 x.2.2.d.length x.2.1.2],
      undef, undef, undef, undef, undef, undef, undef, undef, undef, undef, undef, undef, undef, undef, undef, undef], defers := [] })
    (fun x W => W.alloc (.cells #[.int .i64 x.2.2.k, .int .i64 x.2.2.b, .int .i64 x.2.2.c, .int .i64 x.2.2.e, .slice x.2.1.1 x.2.2.d.length x.2.1.2] 58)) (fun x W => (Keep.refl _ _).alloc _)
    (fun x N W => Blk W N 58 #[.int .i64 x.2.2.k, .int .i64 x.2.2.b, .int .i64 x.2.2.c, .int .i64 x.2.2.e, .slice x.2.1.1 x.2.2.d.length x.2.1.2]) (fun x W => Blk.new _ _ _) (fun x N W l o o' h hl hg ho => (World.putObj_heap_other (by rintro rfl; unfold Blk at h; rw [h] at hg; cases hg; cases ho)).trans h) ?assign ?body ?done
  case assign =>
    rintro l ⟨k, ⟨UA, uc⟩, pk, pb, pc, pe, pd⟩ W K hK
    dsimp only [opArgs] at hK ⊢
    gi_wp2
    exact hK
  case body =>
    rintro l pre ⟨k, ⟨UA, uc⟩, pk, pb, pc, pe, pd⟩ N W hI ⟨hk, ⟨hlim, hk6⟩, hd6, ho⟩ hG hN
    dsimp only at hk hlim hk6 hd6 ho hG ⊢
    subst hk
    change W.ownsRow w.heap.size 5 1 (.slice UA pd.length uc) pd.length (bys pd) at ho
    obtain ⟨ov, h1, h2⟩ := hI.out
    obtain ⟨OA, oc, hov, _⟩ := own_form h2
    have hc7 := h1.cell
    have hf7 := h1.frozen
    have hcf := hI.rf.cell
    have hsz := hI.keep.size
    obtain ⟨x0, x1, x2, x3, x4⟩ := op_cells hG
    have hal : Keep [] W (W.alloc (.cells #[.int .i64 pk, .int .i64 pb, .int .i64 pc, .int .i64 pe, .slice UA pd.length uc] 58)) := (Keep.refl _ _).alloc _
    have hne : (w.heap.size + 1 + 1 + 1 + 1) ∉ ov.ownBlock.toList := fun hm => h1.not_row (by decide) h2 (Eq.symm (by simpa using hm))
    have hrdB : Rd (W.alloc (.cells #[.int .i64 pk, .int .i64 pb, .int .i64 pc, .int .i64 pe, .slice UA pd.length uc] 58)) (some ⟨W.heap.size, 0, none⟩) (1 * 5) (opc (.slice UA pd.length uc, ⟨pk, pb, pc, pe, pd⟩)) := by
      have := Rd.of_blk (n := 5) (Blk.new W 58 #[.int .i64 pk, .int .i64 pb, .int .i64 pc, .int .i64 pe, .slice UA pd.length uc]) (by simp)
      simpa [opc] using this
    have HN := hide hne
    clear hne
    have H2 := hide h2
    have H1 := hide h1
    have HOV := hide hov
    clear h1 h2
    rw [hov] at hc7
    clear hov
    have HO := hide ho
    clear ho h0 bf b4 bc b5 b7 kw k1 k2 k3 k4 k5 hw5 hw4 hw3 hw2 hw1 hseq
    gi_wp2_with (gi_at_builtin; refine elemOps.wpIn_app rfl _ _ rfl w.heap.size ov pre.length ((pre.map opPr).flatMap opc) (unhide HOV).symm (own_alloc (unhide H2) _) ⟨W.heap.size, 0, none⟩ 1 1 (opc (.slice UA pd.length uc, ⟨pk, pb, pc, pe, pd⟩)) rfl hrdB (opc_one _ rfl) (by omega) (by omega) (by simp; omega) ?_; intro v' w' hv' hk' hat; (obtain ⟨VA, vc, rfl, _⟩ := own_form hv'); (have hx7 := boxed_keep (boxed_keep (unhide H1) hal (by simp)) hk' (unhide HN)); (have hc7' := hx7.cell); have hf7' := hx7.frozen)
    have h1 := unhide H1
    have h2 := unhide H2
    have ho := unhide HO
    have hK : Keep ((w.heap.size + 1 + 1 + 1 + 1) :: ov.ownBlock.toList) W (w'.setCell ⟨w.heap.size + 1 + 1 + 1 + 1, 0, none⟩ (.slice VA (pre.length + 1) vc)) :=
      ((hal.mono (m := (w.heap.size + 1 + 1 + 1 + 1) :: ov.ownBlock.toList) (by simp)).trans hk' (fun x hx => .inl (List.mem_cons_of_mem _ hx))).setCell (.inl (by simp)) _
    have hge : ∀ g ∈ (w.heap.size + 1 + 1 + 1 + 1) :: ov.ownBlock.toList, w.heap.size ≤ g := by
      intro g hg
      rcases List.mem_cons.1 hg with rfl | hg
      · omega
      · exact (own_mem h2 hg).1
    have hrow : ∀ {u : Value} {xs : List Value} {m : Nat}, W.ownsRow w.heap.size 5 1 u m xs → ∀ g, u.ownBlock = some g → g ∉ (w.heap.size + 1 + 1 + 1 + 1) :: ov.ownBlock.toList := by
      intro u xs m hu g hg hm
      rcases List.mem_cons.1 hm with rfl | hm
      · exact h1.not_row (by decide) hu hg.symm
      · exact own_ne hu h2 (by decide) hg (by simpa using hm)
    have hbox : ∀ {B : Nat} {t : TypeId} {u : Value}, Boxed W B t u → t ≠ 58 → B ≠ w.heap.size + 1 + 1 + 1 + 1 → B ∉ (w.heap.size + 1 + 1 + 1 + 1) :: ov.ownBlock.toList := by
      intro B t u hB ht hne hm
      rcases List.mem_cons.1 hm with e | hm
      · exact hne e
      · exact hB.not_row ht h2 (Eq.symm (by simpa using hm))
    refine ⟨hK.fromCells ?_ _, ⟨?_, fun hb => boxed_keep hb hK (hbox hb (by decide) (by omega))⟩, ⟨?_, ?_, ?_, ?_, ?_, ?_⟩⟩
    · intro g hg o hgo
      rcases List.mem_cons.1 hg with rfl | hg
      · rw [show W.heap[_]? = _ from h1] at hgo; cases hgo; rfl
      · exact own_cells h2 g hg o hgo
    · exact ⟨hK.os, hK.tape, hK.output, hK.size, fun k hk => hK.block k (Nat.lt_of_lt_of_le hk hsz) (fun hm => by have := hge k hm; omega)⟩
    · refine ⟨_, hx7.set _, ?_⟩
      rw [List.length_append, List.map_append, List.flatMap_append]
      exact own_set (by simpa [opPr, opHd] using hv') (fun hm => hx7.not_row (by decide) hv' (Eq.symm (by simpa using hm))) _
    · intro x hx
      rcases List.mem_append.1 hx with hx | hx
      · exact own_keep (hI.own x hx) hK (hrow (hI.own x hx))
      · obtain rfl := List.mem_singleton.1 hx
        exact own_keep ho hK (hrow ho)
    · exact boxed_keep hI.rf hK (hbox hI.rf (by decide) (by omega))
    · exact boxed_keep hI.r4 hK (hbox hI.r4 (by decide) (by omega))
    · exact boxed_keep hI.r5 hK (hbox hI.r5 (by decide) (by omega))
    · exact hI.keep.trans hK (fun x hx => .inr (hge x hx))
  case done =>
    intro D xs W hD hS hI hdef
    obtain ⟨ov, h1, h2⟩ := hI.out
    have hc7 := h1.cell
    have hc4 := hI.r4.cell
    have hf4 := hI.r4.frozen
    have hc5 := hI.r5.cell
    have hf5 := hI.r5.frozen
    obtain ⟨OA, oc, hov, _⟩ := own_form h2
    have H1 := hide h1
    have H2 := hide h2
    have hds := (Array.getElem?_eq_some_iff.1 hdef).1
    clear h1 h2 bf b4 b5 b7 bc h0 hw5 hw4 hw3 hw2 hw1 k1 k2 k3 k4 k5 kw hseq
    rw [hov] at hc7
    gi_wp2
    have h1 := unhide H1
    have h2 := unhide H2
    obtain ⟨W2, hW2⟩ : ∃ W2, W2 = (W.setCell ⟨w.heap.size + 1, 0, none⟩ (.slice OA xs.length oc)).setCell ⟨w.heap.size + 1 + 1, 0, none⟩ (.bool true) := ⟨_, rfl⟩
    rw [← hW2]
    have hK : Keep [w.heap.size + 1, w.heap.size + 1 + 1] W W2 := by rw [hW2]; exact ((Keep.refl _ _).setCell (.inl (by simp)) _).setCell (.inl (by simp)) _
    have hdef2 : W2.heap[D]? = some (.deferred (some [])) := (hK.block D hds (by simp; omega)).trans hdef
    have r4 : Boxed W2 (w.heap.size + 1) 27 (.slice OA xs.length oc) := by
      rw [hW2]
      exact boxed_keep (hI.r4.set _) ((Keep.refl [w.heap.size + 1 + 1] _).setCell (.inl (by simp)) _) (by simp)
    have r5 : Boxed W2 (w.heap.size + 1 + 1) 4 (.bool true) := by
      rw [hW2]
      exact Boxed.set _ (boxed_keep hI.r5 ((Keep.refl [w.heap.size + 1] _).setCell (.inl (by simp)) _) (by simp))
    have hrow : ∀ {u : Value} {xs : List Value} {m q : Nat} {e : TypeId}, W.ownsRow w.heap.size e q u m xs → e ≠ 27 → e ≠ 4 → ∀ g, u.ownBlock = some g → g ∉ [w.heap.size + 1, w.heap.size + 1 + 1] := by
      intro u xs m q e hu he he' g hg hm
      simp only [List.mem_cons, List.not_mem_nil, or_false] at hm
      rcases hm with rfl | rfl
      · exact hI.r4.not_row (Ne.symm he) hu hg.symm
      · exact hI.r5.not_row (Ne.symm he') hu hg.symm
    have h2' := own_keep h2 hK (hrow h2 (by decide) (by decide))
    have ho' := fun x hx => own_keep (hI.own x hx) hK (hrow (hI.own x hx) (by decide) (by decide))
    have hkw : Keep [] w W2 := hI.keep.trans hK (fun x hx => .inr (by simp at hx; omega))
    have q4 := (boxed_putObj (.deferred none) r4 hdef2 rfl).cell
    have q5 := (boxed_putObj (.deferred none) r5 hdef2 rfl).cell
    refine ⟨by simp, .inl ⟨_, _, rfl, run_takeDeferred hdef2, ?_⟩⟩
    rw [hov] at h2'
    refine ⟨.tuple #[.slice OA xs.length oc, .bool true], ?_, OA, xs.length, oc, xs.map opPr, rfl, ?_, ?_, ?_, hkw.putObj (by omega) _⟩
    · simp [results, Try.results13, go_sem, q4, q5]
    · exact OpsRd.of_own (ownsRow_putObj h2' (.deferred none) hdef2 rfl) (by simp)
    · rw [← hS, List.map_map]; rfl
    · intro p hp
      obtain ⟨x, hx, rfl⟩ := List.mem_map.1 hp
      refine Bts.of_own (ownsRow_putObj (ho' x hx) (.deferred none) hdef2 rfl) ?_
      have hm : x.2.2 ∈ os.map (·.2) := by rw [← hS]; exact List.mem_map.2 ⟨x, hx, rfl⟩
      obtain ⟨p, hp, he⟩ := List.mem_map.1 hm
      have := h.small p hp
      rw [he] at this
      omega
end Go.Proofs.Ytplfijhianmohaa
