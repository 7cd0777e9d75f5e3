/-
  Parts of the proof: Contracts of window.Window of ops: none, at, Peek, Next, New. Contracts of window.Window of ops: Cut, Pop, Put, New. Contracts of window.Window of ops: Put, New. Contracts of window.Window of ops: All, as a function to range over; Len; New.
-/
import Derived.Test.YtglbkndbbhamcaaGreatK14
import Derived.Test.YtglbkndbbhamcaaGreatK38
import Derived.Test.YtglbkndbbhamcaaGreatK10
import Derived.Test.YtglbkndbbhamcaaGreatK13
import Derived.Test.YtglbkndbbhamcaaGreatK33
import Derived.Test.YtglbkndbbhamcaaGreatK22
namespace Go.Proofs.YtglbkndbbhamcaaGreat
open Go.RowKit
section
variable (w : World) (base x : Nat) (L : Value) (F : List Nat) (next : Nat) (sl : List PSlot) (h : WinIs w base x L F next sl)
include h
theorem noneW_is : Calls Tryz.prog 80 #[.pointer (some ⟨x, 0, none⟩)] w fun e w' => e = .returned (.bool false) ∧ w = w' := by
  obtain ⟨g, c, rfl, hc⟩ := h.form
  obtain ⟨c0, c1⟩ := h.cells
  have hp := h.pos
  have hn : ((sl.length : Nat) : Int) ≠ 0 := by omega
  have hnb : (((sl.length : Nat) : Int) == 0) = false := by simpa using hn
  generalize sl.length = m at *
  clear h
  go_enter Tryz.func80, Tryz.ntmps80
  go_wp2
  go_ret
  exact ⟨rfl, rfl⟩
theorem NextW_is : Calls Tryz.prog 44 #[.pointer (some ⟨x, 0, none⟩)] w fun e w' => e = .returned (.int .i64 (next : Nat)) ∧ w = w' := by
  obtain ⟨c0, c1⟩ := h.cells
  clear h
  go_enter Tryz.func44, Tryz.ntmps44
  go_wp2
  go_ret
  exact ⟨rfl, rfl⟩
theorem atW_is (g c : Nat) (hL : L = .slice (some ⟨g, 0, none⟩) sl.length c) (n : Nat) (hn : n ≤ 4000000000) :
    Calls Tryz.prog 81 #[.pointer (some ⟨x, 0, none⟩), .int .i64 (n : Nat)] w fun e w' => e = .returned (.pointer (some ⟨g, n % sl.length * 6, none⟩)) ∧ Keep [] w w' := by
  subst hL
  obtain ⟨c0, c1⟩ := h.cells
  have hp := h.pos
  have hf := h.few
  have hlt : n % sl.length < sl.length := Nat.mod_lt _ hp
  generalize sl.length = m at *
  clear h
  obtain ⟨i, hi⟩ : ∃ i, i = n % m := ⟨_, rfl⟩
  have hw : IntKind.i64.wrap ((n : Int).tmod (m : Nat)) = (i : Nat) := by
    rw [Int.tmod_eq_emod_of_nonneg (by omega), IntKind.wrap_i64, hi]
    have : ((n : Int) % (m : Nat)) = ((n % m : Nat) : Int) := by simp
    omega
  have hw2 : (n : Int).tmod (m : Nat) = (i : Nat) := by
    rw [Int.tmod_eq_emod_of_nonneg (by omega), hi]; simp
  rw [← hi] at hlt ⊢
  have hltI : ((i : Nat) : Int) < (m : Nat) := by omega
  have hm0 : m ≠ 0 := by omega
  clear hi
  go_enter Tryz.func81, Tryz.ntmps81
  go_wp2_with fail
  refine wp_region_ht (fun w' => w'.cell? ⟨x, 0, none⟩ = some (.slice (some ⟨g, 0, none⟩) m c)) 11 [(0, false), (1, false), (2, false), (3, false), (4, false), (5, false), (6, false), (7, false), (8, false), (9, false), (10, false)]
    (by kernel_rfl) (by kernel_rfl) (fun _ _ d _ _ h => by cases d <;> exact h) c0 ?_
  simp only [picked, List.filterMap_cons, List.filterMap_nil, List.getElem?_cons_zero, List.getElem?_cons_succ, Option.map_some, List.drop_succ_cons, List.drop_zero]
  iterate 11 (refine wpT_held ?_ (by rfl) ?_ ?_; rotate_left; (focus (intro W hW; go_simp; first | done | with_reducible rfl)); simp only [Act.put, PU])
  refine wpT_nil ?_
  go_wp2_with fail
  go_ret
  exact ⟨by simp, (Keep.refl _ _).drew⟩
theorem WinIs.slot (g c : Nat) (hL : L = .slice (some ⟨g, 0, none⟩) sl.length c) (i : Nat) (hi : i < sl.length) :
    w.cell? ⟨g, i * 6, none⟩ = some (.int .i64 sl[i].o.k) ∧ w.cell? ⟨g, i * 6 + 1, none⟩ = some (.int .i64 sl[i].o.b) ∧ w.cell? ⟨g, i * 6 + 2, none⟩ = some (.int .i64 sl[i].o.c) ∧ w.cell? ⟨g, i * 6 + 3, none⟩ = some (.int .i64 sl[i].o.e) ∧ w.cell? ⟨g, i * 6 + 4, none⟩ = some sl[i].v ∧ w.cell? ⟨g, i * 6 + 5, none⟩ = some (.bool sl[i].is) := by
  subst hL
  have hr := h.row
  refine ⟨?_, ?_, ?_, ?_, ?_, ?_⟩
  · exact own_cellN hr (by rw [show i * 6 = i * 6 + 0 from rfl, flat_get length_slc sl i 0 hi (by omega)]; rfl)
  · exact own_cellN hr (by rw [flat_get length_slc sl i 1 hi (by omega)]; rfl)
  · exact own_cellN hr (by rw [flat_get length_slc sl i 2 hi (by omega)]; rfl)
  · exact own_cellN hr (by rw [flat_get length_slc sl i 3 hi (by omega)]; rfl)
  · exact own_cellN hr (by rw [flat_get length_slc sl i 4 hi (by omega)]; rfl)
  · exact own_cellN hr (by rw [flat_get length_slc sl i 5 hi (by omega)]; rfl)
set_option maxHeartbeats 2000000 in
set_option maxRecDepth 20000 in
theorem PeekW_is : Calls Tryz.prog 82 #[.pointer (some ⟨x, 0, none⟩)] w fun e w' => ∃ q, sl.getD (next % sl.length) PSlot.none_ = q ∧ e = .returned (.tuple #[.agg #[.int .i64 q.o.k, .int .i64 q.o.b, .int .i64 q.o.c, .int .i64 q.o.e, q.v], .bool q.is]) ∧ (∃ A c, q.v = .slice A q.o.d.length c) ∧ Keep [] w w' := by
  obtain ⟨g, c, hL, hc⟩ := h.form
  have hN := fun W (hk : Keep [] w W) => noneW_is W base x L F next sl (h.keep0 hk)
  have hA := fun W (hk : Keep [] w W) => atW_is W base x L F next sl (h.keep0 hk) g c hL next (by have := h.nb; omega)
  have hlt : next % sl.length < sl.length := Nat.mod_lt _ h.pos
  have hsl := fun W (hk : Keep [] w W) => (h.keep0 hk).slot W base x L F next sl g c hL (next % sl.length) hlt
  have hq : sl.getD (next % sl.length) PSlot.none_ = sl[next % sl.length] := by rw [List.getD_eq_getElem?_getD, List.getElem?_eq_getElem hlt]; rfl
  have hdat := h.dat sl[next % sl.length] (List.getElem_mem _)
  have hc1 := fun W (hk : Keep [] w W) => (h.keep0 hk).cells.2
  rw [hq]
  clear hq
  generalize sl[next % sl.length] = q at *
  obtain ⟨qv, ⟨k, b, cc, e, d⟩, is⟩ := q
  simp only at hsl hdat
  obtain ⟨QA, qc, rfl, _⟩ := own_form hdat
  generalize next % sl.length = i at *
  clear h hdat
  have hkA : Keep [] w (w.alloc (.cells #[.int .i64 0, .int .i64 0, .int .i64 0, .int .i64 0, .slice none 0 0] 46)) := (Keep.refl _ _).alloc _
  have hc1A := hc1 _ hkA
  go_enter Tryz.func82, Tryz.ntmps82
  go_wp2_with (first
    | (go_at_call 80; refine (hN _ hkA).mono ?_; clear hN; rintro e w' ⟨rfl, rfl⟩)
    | (go_at_call 81; refine (hA _ hkA).mono ?_; clear hA; rintro e w1 ⟨rfl, hk1⟩))
  have hk1w := hkA.trans0 hk1
  have hbz := (Blk.new w 46 #[.int .i64 0, .int .i64 0, .int .i64 0, .int .i64 0, .slice none 0 0]).keep0 hk1
  have q0 := hbz.frozen 0
  have q1 := hbz.frozen 1
  have q2 := hbz.frozen 2
  have q3 := hbz.frozen 3
  have q4 := hbz.frozen 4
  obtain ⟨z0, z1, z2, z3, z4⟩ := op_cells hbz
  have h5 := hbz.put5 (.int .i64 k) (.int .i64 b) (.int .i64 cc) (.int .i64 e) (.slice QA d.length qc)
  have hk5 := Keep.put5 w1 w.heap.size (.int .i64 k) (.int .i64 b) (.int .i64 cc) (.int .i64 e) (.slice QA d.length qc)
  unfold put5 at h5 hk5
  have hkZ := (hk1w.trans hk5 (fun x hx => .inr (by simp at hx; omega))).drew
  replace h5 := h5.drew
  refine wp_region_ht (fun w' => w'.cell? ⟨g, i * 6, none⟩ = some (.int .i64 k) ∧ w'.cell? ⟨g, i * 6 + 1, none⟩ = some (.int .i64 b) ∧ w'.cell? ⟨g, i * 6 + 2, none⟩ = some (.int .i64 cc) ∧ w'.cell? ⟨g, i * 6 + 3, none⟩ = some (.int .i64 e) ∧ w'.cell? ⟨g, i * 6 + 4, none⟩ = some (.slice QA d.length qc) ∧ w'.cell? ⟨g, i * 6 + 5, none⟩ = some (.bool is)) 9 [(0, false), (1, false), (2, false), (3, false), (4, false), (5, false), (6, false), (7, false), (8, true)]
    (by kernel_rfl) (by kernel_rfl) (fun _ _ d _ _ h => by cases d <;> exact h) (hsl _ (hk1w.trans0 (Keep.refl _ _).drew)) ?_
  simp only [picked, List.filterMap_cons, List.filterMap_nil, List.getElem?_cons_zero, List.getElem?_cons_succ, Option.map_some, List.drop_succ_cons, List.drop_zero]
  iterate 8 (refine wpT_held ?_ (by rfl) ?_ ?_; rotate_left; (focus (intro W hW; obtain ⟨hW0, hW1, hW2, hW3, hW4, hW5⟩ := hW; go_simp; first | done | with_reducible rfl)); simp only [Act.put, PU])
  refine wpT_loud (by rfl) (fun K hK => ?_)
  go_wp2_with fail
  refine hK _ _ ((hsl _ hkZ)) ?_
  clear hK K
  try simp only [Act.put, PU]
  refine wpT_nil ?_
  go_wp2_with fail
  obtain ⟨g0, g1, g2, g3, g4⟩ := op_cells h5
  exact bodyPost_ret (v := .tuple #[.agg #[.int .i64 k, .int .i64 b, .int .i64 cc, .int .i64 e, .slice QA d.length qc], .bool is]) (by simp [results, Tryz.results82, go_sem, g0, g1, g2, g3, g4]) rfl ⟨_, rfl, rfl, ⟨_, _, rfl⟩, hkZ⟩
end
end Go.Proofs.YtglbkndbbhamcaaGreat
namespace Go.Proofs.YtglbkndbbhamcaaGreat
open Go.RowKit
theorem slots_set6 (sl : List PSlot) (i : Nat) (hi : i < sl.length) (y : PSlot) :
    ((((((sl.flatMap slc).set (i * 6) (.int .i64 y.o.k)).set (i * 6 + 1) (.int .i64 y.o.b)).set (i * 6 + 2) (.int .i64 y.o.c)).set (i * 6 + 3) (.int .i64 y.o.e)).set (i * 6 + 4) y.v).set (i * 6 + 5) (.bool y.is) = (sl.set i y).flatMap slc := by
  rw [show (sl.flatMap slc).set (i * 6) (.int .i64 y.o.k) = (sl.flatMap slc).set (i * 6 + 0) (.int .i64 y.o.k) from rfl, flat_set length_slc sl i 0 hi (by omega) _ ⟨sl[i].v, ⟨y.o.k, sl[i].o.b, sl[i].o.c, sl[i].o.e, sl[i].o.d⟩, sl[i].is⟩ rfl,
    flat_set length_slc _ i 1 (by simpa using hi) (by omega) _ ⟨sl[i].v, ⟨y.o.k, y.o.b, sl[i].o.c, sl[i].o.e, sl[i].o.d⟩, sl[i].is⟩ (by simp [slc]), List.set_set,
    flat_set length_slc _ i 2 (by simpa using hi) (by omega) _ ⟨sl[i].v, ⟨y.o.k, y.o.b, y.o.c, sl[i].o.e, sl[i].o.d⟩, sl[i].is⟩ (by simp [slc]), List.set_set,
    flat_set length_slc _ i 3 (by simpa using hi) (by omega) _ ⟨sl[i].v, ⟨y.o.k, y.o.b, y.o.c, y.o.e, sl[i].o.d⟩, sl[i].is⟩ (by simp [slc]), List.set_set,
    flat_set length_slc _ i 4 (by simpa using hi) (by omega) _ ⟨y.v, ⟨y.o.k, y.o.b, y.o.c, y.o.e, sl[i].o.d⟩, sl[i].is⟩ (by simp [slc]), List.set_set,
    flat_set length_slc _ i 5 (by simpa using hi) (by omega) _ y (by simp [slc]), List.set_set]
def put6 (w : World) (g i : Nat) (y : PSlot) : World :=
  (((((w.setCell ⟨g, i * 6, none⟩ (.int .i64 y.o.k)).setCell ⟨g, i * 6 + 1, none⟩ (.int .i64 y.o.b)).setCell ⟨g, i * 6 + 2, none⟩ (.int .i64 y.o.c)).setCell ⟨g, i * 6 + 3, none⟩ (.int .i64 y.o.e)).setCell ⟨g, i * 6 + 4, none⟩ y.v).setCell ⟨g, i * 6 + 5, none⟩ (.bool y.is)
theorem Keep.put6 (w : World) (g i : Nat) (y : PSlot) : Keep [g] w (Go.Proofs.YtglbkndbbhamcaaGreat.put6 w g i y) := by
  unfold Go.Proofs.YtglbkndbbhamcaaGreat.put6
  exact ((((((Keep.refl [g] w).setCell (.inl (by simp)) _).setCell (.inl (by simp)) _).setCell (.inl (by simp)) _).setCell (.inl (by simp)) _).setCell (.inl (by simp)) _).setCell (.inl (by simp)) _
theorem WinIs.setSlot {w w2 : World} {base x : Nat} {L : Value} {F : List Nat} {next : Nat} {sl : List PSlot} (h : WinIs w base x L F next sl) (hk : Keep [] w w2) (g c : Nat) (hL : L = .slice (some ⟨g, 0, none⟩) sl.length c) (i : Nat) (hi : i < sl.length) (y : PSlot)
    (hy : w2.ownsRow base 5 1 y.v y.o.d.length (bys y.o.d)) (hzn : y.is = false → y = PSlot.none_) :
    ∃ F', WinIs (put6 w2 g i y) base x L F' next (sl.set i y) ∧ Keep F w (put6 w2 g i y) ∧ ∀ z ∈ F', z ∈ F ∨ z ∈ y.v.ownBlock.toList := by
  have h2 := h.keep0 hk
  have hk6 := Keep.put6 w2 g i y
  have hxg : x ∉ [g] := fun hm => h2.xL (by rw [hL]; simp at hm; simp [Value.ownBlock, hm])
  have hst : ∀ {q : Value} {n : Nat} {ys : List Value}, w2.ownsRow base 5 1 q n ys → (put6 w2 g i y).ownsRow base 5 1 q n ys := fun hq => own_keep hq hk6 (fun z hz hm => by
    simp at hm; subst hm; exact own_ne hq h2.row (by decide) hz (by rw [hL]; rfl))
  have hrow : (put6 w2 g i y).ownsRow base 159 6 L (sl.set i y).length ((sl.set i y).flatMap slc) := by
    rw [← slots_set6 sl i hi y, List.length_set]
    have hr := h2.row
    subst hL
    exact own_setAtN (own_setAtN (own_setAtN (own_setAtN (own_setAtN (own_setAtN hr _ _) _ _) _ _) _ _) _ _) _ _
  refine ⟨_, ⟨h2.blk.keep hk6 hxg, hrow, fun q hq => ?_, rfl, h.base, by simpa using h.pos, by simpa using h.few, fun q hq hf => ?_, h.nb⟩, ?_, fun z hz => ?_⟩
  · rcases List.mem_or_eq_of_mem_set hq with hq | rfl
    · exact hst (h2.dat q hq)
    · exact hst hy
  · rcases List.mem_or_eq_of_mem_set hq with hq | rfl
    · exact h.zero q hq hf
    · exact hzn hf
  · exact hk.zero.trans (hk6.sub (m := F) (fun z hz => by simp at hz; subst hz; exact h.inL _ (by rw [hL]; simp [Value.ownBlock]))) (fun z hz => .inl hz)
  · simp only [List.mem_cons, List.mem_append, List.mem_flatMap] at hz
    rcases hz with rfl | hz | ⟨q, hq, hz⟩
    · exact .inl h.inX
    · exact .inl (h.inL _ hz)
    · rcases List.mem_or_eq_of_mem_set hq with hq | rfl
      · exact .inl (h.inQ hq _ hz)
      · exact .inr hz
theorem WinIs.setNext {w : World} {base x : Nat} {L : Value} {F : List Nat} {next : Nat} {sl : List PSlot} (h : WinIs w base x L F next sl) (n : Nat) (hn : 1 ≤ n ∧ n ≤ 2000000000) :
    WinIs (w.setCell ⟨x, 1, none⟩ (.int .i64 n)) base x L F n sl ∧ Keep F w (w.setCell ⟨x, 1, none⟩ (.int .i64 n)) := by
  have hk : Keep [x] w (w.setCell ⟨x, 1, none⟩ (.int .i64 n)) := (Keep.refl _ _).setCell (p := ⟨x, 1, none⟩) (.inl (by simp)) _
  exact ⟨⟨by simpa using h.blk.set 1 (.int .i64 n), own_keep h.row hk (fun z hz hm => by simp at hm; subst hm; exact h.xL (by simpa using hz)), fun q hq => own_keep (h.dat q hq) hk (fun z hz hm => by simp at hm; subst hm; exact h.xQ hq (by simpa using hz)),
    h.foot, h.base, h.pos, h.few, h.zero, hn⟩, hk.sub (fun z hz => by simp at hz; subst hz; exact h.inX)⟩
theorem PSlot.none_dat (w : World) (base : Nat) : w.ownsRow base 5 1 PSlot.none_.v PSlot.none_.o.d.length (bys PSlot.none_.o.d) := World.ownsRow_nil _ _ _ _
section
variable (w : World) (base x : Nat) (L : Value) (F : List Nat) (next : Nat) (sl : List PSlot) (h : WinIs w base x L F next sl)
include h
set_option maxHeartbeats 2000000 in
set_option maxRecDepth 20000 in
theorem CutW_ok (hq : (sl.getD (next % sl.length) PSlot.none_).is = true) : Calls Tryz.prog 84 #[.pointer (some ⟨x, 0, none⟩)] w fun e w' => e = .returned (.bool true) ∧ ∃ F', WinIs w' base x L F' next (sl.set (next % sl.length) PSlot.none_) ∧ Keep F w w' ∧ ∀ z ∈ F', z ∈ F := by
  obtain ⟨g, c, hL, hc⟩ := h.form
  have hlt : next % sl.length < sl.length := Nat.mod_lt _ h.pos
  have hP := PeekW_is w base x L F next sl h
  have hA := fun W (hk : Keep [] w W) => atW_is W base x L F next sl (h.keep0 hk) g c hL next (by have := h.nb; omega)
  have hres := fun W (hk : Keep [] w W) => h.setSlot hk g c hL (next % sl.length) hlt PSlot.none_ (PSlot.none_dat W base) (fun _ => rfl)
  have hc1 := fun W (hk : Keep [] w W) => (h.keep0 hk).cells.2
  have hxl := h.blk.lt
  have hsl := fun W (hk : Keep [] w W) => (h.keep0 hk).slot W base x L F next sl g c hL (next % sl.length) hlt
  have hfz : ∀ W, Keep [] w W → ∀ j, W.frozen? ⟨g, j, none⟩ = false := fun W hk j => own_frozenN (by have := (h.keep0 hk).row; rw [hL] at this; exact this) j
  clear h
  generalize sl[next % sl.length] = q0 at hsl
  obtain ⟨q0v, q0o, q0i⟩ := q0
  simp only at hsl
  obtain ⟨i, hi⟩ : ∃ i, i = next % sl.length := ⟨_, rfl⟩
  rw [← hi] at hA hres hsl hlt
  have HI := hide hi
  have HQ := hide hq
  clear hq hi
  go_enter Tryz.func84, Tryz.ntmps84
  go_wp2_with (first
    | (go_at_call 82
       refine hP.mono ?_
       clear hP
       rintro e w1 ⟨q, hq, rfl, ⟨QA, qc, hqv⟩, hk1⟩
       rw [← hq, unhide HQ, hq, hqv]
       clear hq hqv
       have k1 := hc1 w1 hk1
       have hx1 : x < w1.heap.size := Nat.lt_of_lt_of_le hxl hk1.size)
    | (go_at_call 81
       refine (hA _ (by exact hk1.alloc _)).mono ?_
       clear hA
       rintro e w2 ⟨rfl, hk2⟩
       have hk2w := (hk1.alloc _).trans0 hk2
       obtain ⟨s0, s1, s2, s3, s4, s5⟩ := hsl w2 hk2w
       have f0 := hfz w2 hk2w (i * 6)
       have f1 := hfz w2 hk2w (i * 6 + 1)
       have f2 := hfz w2 hk2w (i * 6 + 2)
       have f3 := hfz w2 hk2w (i * 6 + 3)
       have f4 := hfz w2 hk2w (i * 6 + 4)
       have f5 := hfz w2 hk2w (i * 6 + 5)))
  go_ret
  obtain ⟨F', r1, r2, r3⟩ := hres w2 hk2w
  simp only [put6, PSlot.none_, POp.zero] at r1 r2
  rw [← unhide HI]
  simp only [PSlot.none_, POp.zero]
  refine ⟨rfl, F', r1, r2, fun z hz => (r3 z hz).resolve_right (by simp [PSlot.none_, Value.ownBlock])⟩
set_option maxHeartbeats 2000000 in
set_option maxRecDepth 20000 in
theorem PopW_ok (hq : (sl.getD (next % sl.length) PSlot.none_).is = true) (hn : next ≤ 1000000000) : Calls Tryz.prog 85 #[.pointer (some ⟨x, 0, none⟩)] w fun e w' => ∃ v b, e = .returned (.tuple #[v, b]) ∧ ∃ F', WinIs w' base x L F' (next + 1) (sl.set (next % sl.length) PSlot.none_) ∧ Keep F w w' ∧ ∀ z ∈ F', z ∈ F := by
  have hP := PeekW_is w base x L F next sl h
  have hC := fun W (hk : Keep [] w W) => CutW_ok W base x L F next sl (h.keep0 hk) hq
  have hlt := h.lt
  have hxl := h.blk.lt
  go_enter Tryz.func85, Tryz.ntmps85
  have hkA : Keep [] w (w.alloc (.cells #[.int .i64 0, .int .i64 0, .int .i64 0, .int .i64 0, .slice none 0 0] 46)) := (Keep.refl _ _).alloc _
  have hPA := PeekW_is _ base x L F next sl (h.keep0 hkA)
  have hbz := Blk.new w 46 #[.int .i64 0, .int .i64 0, .int .i64 0, .int .i64 0, .slice none 0 0]
  go_wp2_with (first
    | (go_at_call 82
       refine hPA.mono ?_
       clear hPA hP
       rintro e w1 ⟨q, hq', rfl, ⟨QA, qc, hqv⟩, hk1⟩
       rw [hqv]
       clear hq' hqv
       have hC1 := hC _ ((hkA.trans0 hk1).alloc (.cells #[.int .i64 q.o.k, .int .i64 q.o.b, .int .i64 q.o.c, .int .i64 q.o.e, .slice QA q.o.d.length qc] 46))
       have hbv := Blk.new w1 46 #[.int .i64 q.o.k, .int .i64 q.o.b, .int .i64 q.o.c, .int .i64 q.o.e, .slice QA q.o.d.length qc]
       replace hbz := hbz.keep0 (hk1.alloc (.cells #[.int .i64 q.o.k, .int .i64 q.o.b, .int .i64 q.o.c, .int .i64 q.o.e, .slice QA q.o.d.length qc] 46))
       clear hC)
    | (go_at_call 84
       refine hC1.mono ?_
       clear hC1
       rintro e w2 ⟨rfl, F', h2, hk2, hF2⟩
       have hs1 := (hkA.trans0 hk1).size
       have hzn : w.heap.size ∉ F := fun hm => by have := hlt _ hm; omega
       have hvn : w1.heap.size ∉ F := fun hm => by have := hlt _ hm; omega
       replace hbz := hbz.keep hk2 hzn
       replace hbv := hbv.keep hk2 hvn
       obtain ⟨v0, v1, v2, v3, v4⟩ := op_cells hbv
       obtain ⟨z0, z1, z2, z3, z4⟩ := op_cells hbz
       have f0 := hbz.frozen 0
       have f1 := hbz.frozen 1
       have f2 := hbz.frozen 2
       have f3 := hbz.frozen 3
       have f4 := hbz.frozen 4
       have k1 := h2.cells.2
       have g1 := h2.blk.frozen 1
       have hne1 : x ≠ w.heap.size := by omega
       have hne2 : x ≠ w1.heap.size := by omega))
  obtain ⟨h3, hk3⟩ := h2.setNext (next + 1) (by omega)
  have hk3x : Keep [x] w2 (w2.setCell ⟨x, 1, none⟩ (.int .i64 (next + 1 : Nat))) := (Keep.refl _ _).setCell (p := ⟨x, 1, none⟩) (.inl (by simp)) _
  have hbz3 := hbz.keep hk3x (by simpa using fun e => hne1 e.symm)
  have h5 := hbz3.put5 (.int .i64 q.o.k) (.int .i64 q.o.b) (.int .i64 q.o.c) (.int .i64 q.o.e) (.slice QA q.o.d.length qc)
  have hk5 := Keep.put5 (w2.setCell ⟨x, 1, none⟩ (.int .i64 (next + 1 : Nat))) w.heap.size (.int .i64 q.o.k) (.int .i64 q.o.b) (.int .i64 q.o.c) (.int .i64 q.o.e) (.slice QA q.o.d.length qc)
  have h4 := h3.keep hk5 (fun z hz hm => by simp at hm; subst hm; exact hzn (hF2 _ hz))
  unfold put5 at h5 hk5 h4
  obtain ⟨g0, g1, g2, g3, g4⟩ := op_cells h5
  have hcast : ((next + 1 : Nat) : Int) = (next : Nat) + 1 := by omega
  rw [hcast] at g0 g1 g2 g3 g4 h4 hk5 hk3
  refine bodyPost_ret (v := .tuple #[.agg #[.int .i64 q.o.k, .int .i64 q.o.b, .int .i64 q.o.c, .int .i64 q.o.e, .slice QA q.o.d.length qc], .bool q.is]) (by simp [results, Tryz.results85, go_sem, g0, g1, g2, g3, g4]) rfl ⟨_, _, rfl, F', h4, ?_, hF2⟩
  exact ((((hkA.trans0 hk1).alloc _).zero.trans hk2 (fun z hz => .inl hz)).trans hk3 (fun z hz => .inl (hF2 z hz))).trans hk5 (fun z hz => .inr (by simp at hz; omega))
end
end Go.Proofs.YtglbkndbbhamcaaGreat
namespace Go.Proofs.YtglbkndbbhamcaaGreat
open Go.RowKit
theorem elemSlot : ElemN Tryz.prog 151 159 (.agg #[.int .i64 0, .int .i64 0, .int .i64 0, .int .i64 0, .slice none 0 0, .bool false]) 6 64 := ElemN.of Tryz.underlying151 (by kernel_rfl) rfl (by omega)
section
variable (w : World) (base x : Nat) (L : Value) (F : List Nat) (next : Nat) (sl : List PSlot) (h : WinIs w base x L F next sl)
include h
set_option maxRecDepth 20000 in
theorem PutW_seq (n : Nat) (hn : n < next) (k b c e : Int) (A : Option Addr) (dl dc : Nat) : Calls Tryz.prog 35 #[.pointer (some ⟨x, 0, none⟩), .int .i64 (n : Nat), .agg #[.int .i64 k, .int .i64 b, .int .i64 c, .int .i64 e, .slice A dl dc]] w fun r w' => r = .returned (.int .i64 9) ∧ Keep [] w w' := by
  have hN := fun W (hk : Keep [] w W) => noneW_is W base x L F next sl (h.keep0 hk)
  have hkA : Keep [] w (w.alloc (.cells #[.int .i64 k, .int .i64 b, .int .i64 c, .int .i64 e, .slice A dl dc] 46)) := (Keep.refl _ _).alloc _
  have k1 := (h.keep0 hkA).cells.2
  have hlt : ((n : Nat) : Int) < (next : Nat) := by omega
  go_enter Tryz.func35, Tryz.ntmps35
  go_wp2_with (refine (hN _ hkA).mono ?_; clear hN; rintro r w' ⟨rfl, rfl⟩)
  go_ret
  exact ⟨rfl, hkA⟩
set_option maxRecDepth 20000 in
theorem PutW_win (n : Nat) (hn : next + sl.length ≤ n) (hn2 : n ≤ 2147483647) (k b c e : Int) (A : Option Addr) (dl dc : Nat) : Calls Tryz.prog 35 #[.pointer (some ⟨x, 0, none⟩), .int .i64 (n : Nat), .agg #[.int .i64 k, .int .i64 b, .int .i64 c, .int .i64 e, .slice A dl dc]] w fun r w' => r = .returned (.int .i64 10) ∧ Keep [] w w' := by
  have hN := fun W (hk : Keep [] w W) => noneW_is W base x L F next sl (h.keep0 hk)
  have hkA : Keep [] w (w.alloc (.cells #[.int .i64 k, .int .i64 b, .int .i64 c, .int .i64 e, .slice A dl dc] 46)) := (Keep.refl _ _).alloc _
  obtain ⟨g, lc, hL, hc⟩ := h.form
  obtain ⟨k0, k1⟩ := (h.keep0 hkA).cells
  have hnb := h.nb
  have hlt : ¬ ((n : Nat) : Int) < (next : Nat) := by omega
  have hge : ((next : Nat) : Int) + (sl.length : Nat) ≤ (n : Nat) := by omega
  rw [hL] at k0
  generalize sl.length = m at *
  clear hn hL h
  go_enter Tryz.func35, Tryz.ntmps35
  go_wp2_with (refine (hN _ hkA).mono ?_; clear hN; rintro r w' ⟨rfl, rfl⟩)
  refine wp_region_ht (fun w' => w'.cell? ⟨x, 0, none⟩ = some (.slice (some ⟨g, 0, none⟩) m lc) ∧ w'.cell? ⟨x, 1, none⟩ = some (.int .i64 (next : Nat))) 11 [(0, false), (1, false), (2, false), (3, false), (4, false), (5, false), (6, false), (7, false), (8, false), (9, false), (10, false)]
    (by kernel_rfl) (by kernel_rfl) (fun _ _ d _ _ h => by cases d <;> exact h) ⟨k0, k1⟩ ?_
  simp only [picked, List.filterMap_cons, List.filterMap_nil, List.getElem?_cons_zero, List.getElem?_cons_succ, Option.map_some, List.drop_succ_cons, List.drop_zero]
  iterate 11 (refine wpT_held ?_ (by rfl) ?_ ?_; rotate_left; (focus (intro W hW; obtain ⟨hW0, hW1⟩ := hW; go_simp; first | done | with_reducible rfl)); simp only [Act.put, PU])
  refine wpT_nil ?_
  go_wp2_with fail
  go_ret
  exact ⟨rfl, hkA.drew⟩
set_option maxHeartbeats 4000000 in
set_option maxRecDepth 20000 in
theorem PutW_ok (n : Nat) (hn1 : next ≤ n) (hn : n < next + sl.length) (hn2 : n ≤ 2147483647) (hq : (sl.getD (n % sl.length) PSlot.none_).is = false) (k b c e : Int) (A : Option Addr) (dc : Nat) (d : List UInt8) (hd : w.ownsRow base 5 1 (.slice A d.length dc) d.length (bys d)) :
    Calls Tryz.prog 35 #[.pointer (some ⟨x, 0, none⟩), .int .i64 (n : Nat), .agg #[.int .i64 k, .int .i64 b, .int .i64 c, .int .i64 e, .slice A d.length dc]] w fun r w' => r = .returned (.int .i64 0) ∧
      ∃ F', WinIs w' base x L F' next (sl.set (n % sl.length) ⟨.slice A d.length dc, ⟨k, b, c, e, d⟩, true⟩) ∧ Keep F w w' ∧ ∀ z ∈ F', z ∈ F ∨ z ∈ (Value.slice A d.length dc).ownBlock.toList := by
  have hN := fun W (hk : Keep [] w W) => noneW_is W base x L F next sl (h.keep0 hk)
  have hkA : Keep [] w (w.alloc (.cells #[.int .i64 k, .int .i64 b, .int .i64 c, .int .i64 e, .slice A d.length dc] 46)) := (Keep.refl _ _).alloc _
  have hbO := Blk.new w 46 #[.int .i64 k, .int .i64 b, .int .i64 c, .int .i64 e, .slice A d.length dc]
  obtain ⟨g, lc, hL, hc⟩ := h.form
  obtain ⟨k0, k1⟩ := (h.keep0 hkA).cells
  have hi : n % sl.length < sl.length := Nat.mod_lt _ h.pos
  have hA := fun W (hk : Keep [] w W) => atW_is W base x L F next sl (h.keep0 hk) g lc hL n (by omega)
  have hres := fun W (hk : Keep [] w W) => h.setSlot hk g lc hL (n % sl.length) hi ⟨.slice A d.length dc, ⟨k, b, c, e, d⟩, true⟩ (own_keep0 hd hk) (fun h => by cases h)
  have hsl := fun W (hk : Keep [] w W) => (h.keep0 hk).slot W base x L F next sl g lc hL (n % sl.length) hi
  have hfz : ∀ W, Keep [] w W → ∀ j, W.frozen? ⟨g, j, none⟩ = false := fun W hk j => own_frozenN (by have := (h.keep0 hk).row; rw [hL] at this; exact this) j
  have hqi : sl[n % sl.length].is = false := by rw [List.getD_eq_getElem?_getD, List.getElem?_eq_getElem hi] at hq; exact hq
  have hlt : ¬ ((n : Nat) : Int) < (next : Nat) := by omega
  have hge : ((n : Nat) : Int) < ((next : Nat) : Int) + (sl.length : Nat) := by omega
  rw [hL] at k0
  generalize sl[n % sl.length] = q0 at hsl hqi
  obtain ⟨q0v, q0o, q0i⟩ := q0
  simp only at hsl hqi
  subst hqi
  obtain ⟨i, hi'⟩ : ∃ i, i = n % sl.length := ⟨_, rfl⟩
  rw [← hi'] at hA hres hsl hi
  have HI := hide hi'
  obtain ⟨m, hm⟩ : ∃ m, m = sl.length := ⟨_, rfl⟩
  have hm16 : m ≤ 16 := by rw [hm]; exact h.few
  have hnb := h.nb
  rw [← hm] at k0 hge
  have HM := hide hm
  clear hq hi' hn hm hL h
  go_enter Tryz.func35, Tryz.ntmps35
  go_wp2_with (refine (hN _ hkA).mono ?_; clear hN; rintro r w' ⟨rfl, rfl⟩)
  have hA1 := hA _ hkA.drew
  refine wp_region_ht (fun w' => w'.cell? ⟨x, 0, none⟩ = some (.slice (some ⟨g, 0, none⟩) m lc) ∧ w'.cell? ⟨x, 1, none⟩ = some (.int .i64 (next : Nat))) 11 [(0, false), (1, false), (2, false), (3, false), (4, false), (5, false), (6, false), (7, false), (8, false), (9, false), (10, false)]
    (by kernel_rfl) (by kernel_rfl) (fun _ _ d _ _ h => by cases d <;> exact h) ⟨k0, k1⟩ ?_
  simp only [picked, List.filterMap_cons, List.filterMap_nil, List.getElem?_cons_zero, List.getElem?_cons_succ, Option.map_some, List.drop_succ_cons, List.drop_zero]
  iterate 11 (refine wpT_held ?_ (by rfl) ?_ ?_; rotate_left; (focus (intro W hW; obtain ⟨hW0, hW1⟩ := hW; go_simp; first | done | with_reducible rfl)); simp only [Act.put, PU])
  refine wpT_nil ?_
  go_wp2_with (go_at_call 81
               refine hA1.mono ?_
               clear hA1
               rintro r w1 ⟨rfl, hk1⟩
               have hk1w := hkA.drew.trans0 hk1
               obtain ⟨s0, s1, s2, s3, s4, s5⟩ := hsl w1 hk1w)
  have hbO1 := hbO.keep0 ((Keep.refl _ _).drew.trans0 hk1)
  have hA2 := hA w1.drew hk1w.drew
  obtain ⟨o0, o1, o2, o3, o4⟩ := op_cells hbO1.drew
  clear s0 s1 s2 s3 s4 s5
  refine wp_region_ht (fun w' => w'.cell? ⟨w.heap.size, 0, none⟩ = some (.int .i64 k) ∧ w'.cell? ⟨w.heap.size, 1, none⟩ = some (.int .i64 b) ∧ w'.cell? ⟨w.heap.size, 2, none⟩ = some (.int .i64 c) ∧ w'.cell? ⟨w.heap.size, 3, none⟩ = some (.int .i64 e) ∧ w'.cell? ⟨w.heap.size, 4, none⟩ = some (.slice A d.length dc)) 5 [(0, false), (1, false), (3, false), (4, false), (2, true)]
    (by kernel_rfl) (by kernel_rfl) (fun _ _ d _ _ h => by cases d <;> exact h) ⟨o0, o1, o2, o3, o4⟩ ?_
  simp only [picked, List.filterMap_cons, List.filterMap_nil, List.getElem?_cons_zero, List.getElem?_cons_succ, Option.map_some, List.drop_succ_cons, List.drop_zero]
  iterate 4 (refine wpT_held ?_ (by rfl) ?_ ?_; rotate_left; (focus (intro W hW; obtain ⟨hW0, hW1, hW2, hW3, hW4⟩ := hW; go_simp; first | done | with_reducible rfl)); simp only [Act.put, PU])
  refine wpT_loud (by rfl) (fun K hK => ?_)
  go_wp2_with (refine hA2.mono ?_; clear hA2; rintro r w2 ⟨rfl, hk2⟩)
  have hk2w := hk1w.drew.trans0 hk2
  refine hK _ _ ((op_cells (hbO1.drew.keep0 hk2))) ?_
  clear hK K
  try simp only [Act.put, PU]
  refine wpT_nil ?_
  obtain ⟨s0, s1, s2, s3, s4, s5⟩ := hsl w2 hk2w
  have f0 := hfz w2 hk2w (i * 6)
  have f1 := hfz w2 hk2w (i * 6 + 1)
  have f2 := hfz w2 hk2w (i * 6 + 2)
  have f3 := hfz w2 hk2w (i * 6 + 3)
  have f4 := hfz w2 hk2w (i * 6 + 4)
  have f5 := hfz w2 hk2w (i * 6 + 5)
  go_wp2_with fail
  go_ret
  obtain ⟨F', r1, r2, r3⟩ := hres w2 hk2w
  simp only [put6] at r1 r2
  rw [← unhide HI]
  exact ⟨rfl, F', r1, r2, r3⟩
end
end Go.Proofs.YtglbkndbbhamcaaGreat
namespace Go.Proofs.YtglbkndbbhamcaaGreat
open Go.RowKit Go.Shelf
attribute [local go_sem] Oper.semAt_some
theorem WinIs.putObj {W : World} {base x k next : Nat} {L : Value} {F : List Nat} {sl : List PSlot} {o : Obj} (h : WinIs W base x L F next sl) (o' : Obj) (hl : W.heap[k]? = some o) (ho : o.isCells = false) : WinIs (W.putObj k o') base x L F next sl :=
  ⟨blk_putObj o' h.blk hl ho, ownsRow_putObj h.row o' hl ho, fun q hq => ownsRow_putObj (h.dat q hq) o' hl ho, h.foot, h.base, h.pos, h.few, h.zero, h.nb⟩
abbrev WRnd := Nat × PSlot
def wrArgs (x : WRnd) : Array Value := #[.int .i64 (x.1 : Nat), .agg #[.int .i64 x.2.o.k, .int .i64 x.2.o.b, .int .i64 x.2.o.c, .int .i64 x.2.o.e, x.2.v]]
def wrKeep (base x bc next : Nat) (L : Value) (F : List Nat) (sl : List PSlot) (W W' : World) : Prop :=
  (Boxed W bc 77 (.pointer (some ⟨x, 0, none⟩)) → Boxed W' bc 77 (.pointer (some ⟨x, 0, none⟩))) ∧ (WinIs W base x L F next sl → WinIs W' base x L F next sl)
def cyc (next : Nat) (sl : List PSlot) (k : Nat) : Nat := (List.range k).countP (fun j => (sl.getD ((next + j) % sl.length) PSlot.none_).is)
theorem cyc_succ (next : Nat) (sl : List PSlot) (k : Nat) : cyc next sl (k + 1) = cyc next sl k + if (sl.getD ((next + k) % sl.length) PSlot.none_).is then 1 else 0 := by
  unfold cyc
  rw [List.range_succ, List.countP_append, List.countP_singleton]
theorem cyc_le (next : Nat) (sl : List PSlot) (k : Nat) : cyc next sl k ≤ k := by
  unfold cyc
  have := List.countP_le_length (p := fun j => (sl.getD ((next + j) % sl.length) PSlot.none_).is) (l := List.range k)
  simpa using this
theorem WAll_in (n : Nat) (v : Value) (w : World) (hv : v.oneCell' = true) :
    CallsIn Fence.wide n Tryz.prog 92 #[v] w fun e w' => e = .returned (.func (.func 149) #[] #[.pointer (some ⟨w.heap.size, 0, none⟩)]) ∧ w' = w.alloc (.cells #[v] 77) := by
  refine (callsIn_wide (n := n)).2 ?_
  go_enter Tryz.func92, Tryz.ntmps92
  go_wp2
  go_ret
  exact ⟨rfl, rfl⟩
set_option maxRecDepth 100000 in
set_option maxHeartbeats 2000000 in
theorem WAll1_seq (n bc base x next : Nat) (L : Value) (F : List Nat) (sl : List PSlot) (w : World) (hs : WinIs w base x L F next sl) (hbc : Boxed w bc 77 (.pointer (some ⟨x, 0, none⟩))) :
    SeqF n Tryz.prog 149 #[.pointer (some ⟨bc, 0, none⟩)] wrArgs (fun pre _ _ => pre.length ≤ 16) (wrKeep base x bc next L F sl) (fun xs => xs.length = cyc next sl sl.length) w := by
  intro l J W hW hJ hY h0
  replace hs := hs.keep0 hW
  replace hbc : Boxed W bc 77 (.pointer (some ⟨x, 0, none⟩)) := (hW.block bc hbc.lt (by simp)).trans hbc
  have hcb := hbc.cell
  obtain ⟨g, lc, hL, hlc⟩ := hs.form
  have hT := callsIn_wide (n := n - 1).2 (noneW_is W base x L F next sl hs)
  have hc1 := hs.cells.2
  have hnb := hs.nb
  have hfew := hs.few
  have hpos := hs.pos
  obtain ⟨m, hm⟩ : ∃ m, m = sl.length := ⟨_, rfl⟩
  have hm16 : m ≤ 16 := by omega
  have HM := hide hm
  refine callsIn_of_wp Tryz.func149 rfl trivial ?_ rfl
  simp only [Tryz.ntmps149, List.size_toArray, List.length_cons, List.length_nil, Nat.reduceAdd, Nat.reduceSub, Array.replicate_succ, Array.replicate_zero, List.push_toArray, List.append_toArray, List.nil_append, List.cons_append]
  gi_wp2_with (refine ⟨trivial, fun h => by simp [Fence.wide] at h, ?_⟩; refine hT.mono ?_; clear hT; rintro e w' ⟨rfl, rfl⟩)
  gi_loopw [3, 4] (fun i _ wr => ∃ (k : Nat) (pre : List WRnd), k ≤ m ∧ i = .int .i64 ((next + k : Nat)) ∧ J pre wr ∧ Hid (pre.length = cyc next sl k) ∧ WinIs wr base x L F next sl ∧ Boxed wr bc 77 (.pointer (some ⟨x, 0, none⟩)))
    (fun i _ _ => next + m - (intOf i).toNat)
  case atStart => exact ⟨0, [], Nat.zero_le _, rfl, h0, rfl, hs, hbc⟩
  case round =>
    clear hs hbc h0 hcb hc1
    obtain ⟨k, pre, hk, rfl, hJp, hpl, hs, hbc⟩ := hrel
    have hcb := hbc.cell
    obtain ⟨c0, c1⟩ := hs.cells
    rw [hL, ← hm] at c0
    obtain ⟨z, hz⟩ : ∃ z, z = next + k := ⟨_, rfl⟩
    have HZ := hide hz
    rw [← hz]
    by_cases hlt : k < m
    · have hzI : ((z : Nat) : Int) < ((next : Nat) : Int) + (m : Nat) := by omega
      have hz4 : z ≤ 4000000000 := by omega
      have hA := fun W (h : WinIs W base x L F next sl) => callsIn_wide (n := n - 1).2 (atW_is W base x L F next sl h g lc hL z hz4)
      have hi : z % sl.length < sl.length := Nat.mod_lt _ hpos
      have hsl := fun W (h : WinIs W base x L F next sl) => h.slot W base x L F next sl g lc hL (z % sl.length) hi
      have hcy := cyc_succ next sl k
      have hgd : sl.getD ((next + k) % sl.length) PSlot.none_ = sl[z % sl.length] := by rw [← hz, List.getD_eq_getElem?_getD, List.getElem?_eq_getElem hi]; rfl
      have hdat := hs.dat sl[z % sl.length] (List.getElem_mem _)
      rw [hgd] at hcy
      clear hgd
      generalize sl[z % sl.length] = q at *
      obtain ⟨qv, ⟨qk, qb, qc, qe, qd⟩, is⟩ := q
      simp only at hsl hcy hdat
      obtain ⟨QA, qcap, rfl, _⟩ := own_form hdat
      have HCY := hide hcy
      have HS := hide hs
      have hsD := hs.keep0 (Keep.refl [] wr).drew
      have hbD : Boxed wr.drew bc 77 (.pointer (some ⟨x, 0, none⟩)) := boxed_keep hbc (Keep.refl [] _).drew (by simp)
      clear hz hm hcy hs hlt hdat
      gi_wp2
      refine wpIn_wide.2 ?_
      refine wp_region_ht (fun w' => w'.cell? ⟨bc, 0, none⟩ = some (.pointer (some ⟨x, 0, none⟩)) ∧ w'.cell? ⟨x, 0, none⟩ = some (.slice (some ⟨g, 0, none⟩) m lc) ∧ w'.cell? ⟨x, 1, none⟩ = some (.int .i64 (next : Nat))) 11 [(0, false), (1, false), (2, false), (3, false), (4, false), (5, false), (6, false), (7, false), (8, false), (9, false), (10, false)]
        (by kernel_rfl) (by kernel_rfl) (fun _ _ d _ _ h => by cases d <;> exact h) ⟨hcb, c0, c1⟩ ?_
      simp only [picked, List.filterMap_cons, List.filterMap_nil, List.getElem?_cons_zero, List.getElem?_cons_succ, Option.map_some, List.drop_succ_cons, List.drop_zero]
      iterate 11 (refine wpT_held ?_ (by rfl) ?_ ?_; rotate_left; (focus (intro W hW; obtain ⟨hW0, hW1, hW2⟩ := hW; go_simp; first | done | with_reducible rfl)); simp only [Act.put, PU])
      refine wpT_nil ?_
      go_wp2_with fail
      have hcbD := hbD.cell
      cases is
      · gi_wp2_with (
          refine ⟨trivial, fun h => by simp [Fence.wide] at h, ?_⟩
          refine (hA _ hsD).mono ?_
          clear hA
          rintro e w1 ⟨rfl, hk1⟩
          have hs1 := hsD.keep0 hk1
          have hb1 := boxed_keep hbD hk1 (by simp)
          have hJ1 := hJ _ _ _ hJp ((Keep.refl [] wr).drew.trans0 hk1)
          obtain ⟨s0, s1, s2, s3, s4, s5⟩ := hsl w1 hs1
          have HS1 := hide hs1
          clear hs1)
        refine ⟨fun f h => (by cases h), ?_⟩
        gi_wp2
        go_roundw
        case rel => exact ⟨k + 1, pre, by have := unhide HZ; omega, by have := unhide HZ; subst this; go_num, hJ1, by show _ = _; rw [unhide hpl, unhide HCY]; rfl, unhide HS1, hb1⟩
        case measure => simp [intOf]; have := unhide HZ; omega
      · gi_wp2_with (
          refine ⟨trivial, fun h => by simp [Fence.wide] at h, ?_⟩
          refine (hA _ hsD).mono ?_
          clear hA
          rintro e w1 ⟨rfl, hk1⟩
          have hs1 := hsD.keep0 hk1
          have hb1 := boxed_keep hbD hk1 (by simp)
          have hJ1 := hJ _ _ _ hJp ((Keep.refl [] wr).drew.trans0 hk1)
          obtain ⟨s0, s1, s2, s3, s4, s5⟩ := hsl w1 hs1
          have HS1 := hide hs1
          clear hs1
          obtain ⟨fn, tmps, assign, body, hy, hR⟩ := hY pre (z, ⟨.slice QA qd.length qcap, ⟨qk, qb, qc, qe, qd⟩, true⟩) w1 hJ1 (by have := cyc_le next sl k; rw [unhide hpl]; omega)
          dsimp only [wrArgs] at hy)
        refine ⟨fun h => by simp [Fence.wide] at h, hR.mono ?_⟩
        rintro e W3 ⟨rfl, hJ3, hb3, hs3⟩
        have hs4 := hide (hs3 (unhide HS1))
        have hb4 := hb3 hb1
        clear hy hR hs3 hb3
        gi_wp2
        go_roundw
        case rel => exact ⟨k + 1, _, by have := unhide HZ; omega, by have := unhide HZ; subst this; go_num, hJ3, by show _ = _; rw [List.length_append, unhide hpl, unhide HCY]; rfl, unhide hs4, hb4⟩
        case measure => simp [intOf]; have := unhide HZ; omega
    · obtain rfl : m = k := by omega
      have hzI : ¬ ((z : Nat) : Int) < ((next : Nat) : Int) + (m : Nat) := by omega
      clear hz hm
      gi_wp2
      refine wpIn_wide.2 ?_
      refine wp_region_ht (fun w' => w'.cell? ⟨bc, 0, none⟩ = some (.pointer (some ⟨x, 0, none⟩)) ∧ w'.cell? ⟨x, 0, none⟩ = some (.slice (some ⟨g, 0, none⟩) m lc) ∧ w'.cell? ⟨x, 1, none⟩ = some (.int .i64 (next : Nat))) 11 [(0, false), (1, false), (2, false), (3, false), (4, false), (5, false), (6, false), (7, false), (8, false), (9, false), (10, false)]
        (by kernel_rfl) (by kernel_rfl) (fun _ _ d _ _ h => by cases d <;> exact h) ⟨hcb, c0, c1⟩ ?_
      simp only [picked, List.filterMap_cons, List.filterMap_nil, List.getElem?_cons_zero, List.getElem?_cons_succ, Option.map_some, List.drop_succ_cons, List.drop_zero]
      iterate 11 (refine wpT_held ?_ (by rfl) ?_ ?_; rotate_left; (focus (intro W hW; obtain ⟨hW0, hW1, hW2⟩ := hW; go_simp; first | done | with_reducible rfl)); simp only [Act.put, PU])
      refine wpT_nil ?_
      go_wp2_with fail
      gi_wp2
      go_end0
      exact ⟨⟨_, rfl⟩, pre, by rw [unhide hpl, ← unhide HM], hJ _ _ _ hJp (Keep.refl [] _).drew⟩
end Go.Proofs.YtglbkndbbhamcaaGreat
