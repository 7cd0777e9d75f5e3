/-
  A part of the proof: lemmas, and contracts of functions; their conditions stand in them.
-/
import Derived.Test.YtglbkndbbhamcaaGreatJ39
import Derived.Test.YtglbkndbbhamcaaGreatJ14
import Derived.Test.YtglbkndbbhamcaaGreatJ34
import Derived.Test.YtglbkndbbhamcaaGreatJ23
import Derived.Test.YtglbkndbbhamcaaGreatJ10
namespace Go.Proofs.YtglbkndbbhamcaaGreat
section
open Go.RowKit
theorem slots_set6 (sl : List PSlot) (i : Nat) (hi : i < sl.length) (y : PSlot) :
    ((((((sl.flatMap slc).set (i * 6) (.int .i64 y.o.k)).set (i * 6 + 1) (.int .i64 y.o.b)).set (i * 6 + 2) (.int .i64 y.o.c)).set (i * 6 + 3) (.int .i64 y.o.e)).set (i * 6 + 4) y.v).set (i * 6 + 5) (.bool y.is) = (sl.set i y).flatMap slc := by
  rw [show (sl.flatMap slc).set (i * 6) (.int .i64 y.o.k) = (sl.flatMap slc).set (i * 6 + 0) (.int .i64 y.o.k) from rfl, flat_set length_slc sl i 0 hi (by omega) _ ⟨sl[i].v, ⟨y.o.k, sl[i].o.b, sl[i].o.c, sl[i].o.e, sl[i].o.d⟩, sl[i].is⟩ rfl,
    flat_set length_slc _ i 1 (by simpa using hi) (by omega) _ ⟨sl[i].v, ⟨y.o.k, y.o.b, sl[i].o.c, sl[i].o.e, sl[i].o.d⟩, sl[i].is⟩ (by simp [slc]), List.set_set,
    flat_set length_slc _ i 2 (by simpa using hi) (by omega) _ ⟨sl[i].v, ⟨y.o.k, y.o.b, y.o.c, sl[i].o.e, sl[i].o.d⟩, sl[i].is⟩ (by simp [slc]), List.set_set,
    flat_set length_slc _ i 3 (by simpa using hi) (by omega) _ ⟨sl[i].v, ⟨y.o.k, y.o.b, y.o.c, y.o.e, sl[i].o.d⟩, sl[i].is⟩ (by simp [slc]), List.set_set,
    flat_set length_slc _ i 4 (by simpa using hi) (by omega) _ ⟨y.v, ⟨y.o.k, y.o.b, y.o.c, y.o.e, sl[i].o.d⟩, sl[i].is⟩ (by simp [slc]), List.set_set,
    flat_set length_slc _ i 5 (by simpa using hi) (by omega) _ y (by simp [slc]), List.set_set]
def put6 (w : World) (g i : Nat) (y : PSlot) : World :=
  (((((w.setCell ⟨g, i * 6, none⟩ (.int .i64 y.o.k)).setCell ⟨g, i * 6 + 1, none⟩ (.int .i64 y.o.b)).setCell ⟨g, i * 6 + 2, none⟩ (.int .i64 y.o.c)).setCell ⟨g, i * 6 + 3, none⟩ (.int .i64 y.o.e)).setCell ⟨g, i * 6 + 4, none⟩ y.v).setCell ⟨g, i * 6 + 5, none⟩ (.bool y.is)
theorem Keep.put6 (w : World) (g i : Nat) (y : PSlot) : Keep [g] w (Go.Proofs.YtglbkndbbhamcaaGreat.put6 w g i y) := by
  unfold Go.Proofs.YtglbkndbbhamcaaGreat.put6
  exact ((((((Keep.refl [g] w).setCell (.inl (by simp)) _).setCell (.inl (by simp)) _).setCell (.inl (by simp)) _).setCell (.inl (by simp)) _).setCell (.inl (by simp)) _).setCell (.inl (by simp)) _
theorem WinIs.setSlot {w w2 : World} {base x : Nat} {L : Value} {F : List Nat} {next : Nat} {sl : List PSlot} (h : WinIs w base x L F next sl) (hk : Keep [] w w2) (g c : Nat) (hL : L = .slice (some ⟨g, 0, none⟩) sl.length c) (i : Nat) (hi : i < sl.length) (y : PSlot)
    (hy : w2.ownsRow base 5 1 y.v y.o.d.length (bys y.o.d)) (hzn : y.is = false → y = PSlot.none_) :
    ∃ F', WinIs (put6 w2 g i y) base x L F' next (sl.set i y) ∧ Keep F w (put6 w2 g i y) ∧ ∀ z ∈ F', z ∈ F ∨ z ∈ y.v.ownBlock.toList := by
  have h2 := h.keep0 hk
  have hk6 := Keep.put6 w2 g i y
  have hxg : x ∉ [g] := fun hm => h2.xL (by rw [hL]; simp at hm; simp [Value.ownBlock, hm])
  have hst : ∀ {q : Value} {n : Nat} {ys : List Value}, w2.ownsRow base 5 1 q n ys → (put6 w2 g i y).ownsRow base 5 1 q n ys := fun hq => own_keep hq hk6 (fun z hz hm => by
    simp at hm; subst hm; exact own_ne hq h2.row (by decide) hz (by rw [hL]; rfl))
  have hrow : (put6 w2 g i y).ownsRow base 159 6 L (sl.set i y).length ((sl.set i y).flatMap slc) := by
    rw [← slots_set6 sl i hi y, List.length_set]
    have hr := h2.row
    subst hL
    exact own_setAtN (own_setAtN (own_setAtN (own_setAtN (own_setAtN (own_setAtN hr _ _) _ _) _ _) _ _) _ _) _ _
  refine ⟨_, ⟨h2.blk.keep hk6 hxg, hrow, fun q hq => ?_, rfl, h.base, by simpa using h.pos, by simpa using h.few, fun q hq hf => ?_, h.nb⟩, ?_, fun z hz => ?_⟩
  · rcases List.mem_or_eq_of_mem_set hq with hq | rfl
    · exact hst (h2.dat q hq)
    · exact hst hy
  · rcases List.mem_or_eq_of_mem_set hq with hq | rfl
    · exact h.zero q hq hf
    · exact hzn hf
  · exact hk.zero.trans (hk6.sub (m := F) (fun z hz => by simp at hz; subst hz; exact h.inL _ (by rw [hL]; simp [Value.ownBlock]))) (fun z hz => .inl hz)
  · simp only [List.mem_cons, List.mem_append, List.mem_flatMap] at hz
    rcases hz with rfl | hz | ⟨q, hq, hz⟩
    · exact .inl h.inX
    · exact .inl (h.inL _ hz)
    · rcases List.mem_or_eq_of_mem_set hq with hq | rfl
      · exact .inl (h.inQ hq _ hz)
      · exact .inr hz
theorem WinIs.setNext {w : World} {base x : Nat} {L : Value} {F : List Nat} {next : Nat} {sl : List PSlot} (h : WinIs w base x L F next sl) (n : Nat) (hn : 1 ≤ n ∧ n ≤ 2000000000) :
    WinIs (w.setCell ⟨x, 1, none⟩ (.int .i64 n)) base x L F n sl ∧ Keep F w (w.setCell ⟨x, 1, none⟩ (.int .i64 n)) := by
  have hk : Keep [x] w (w.setCell ⟨x, 1, none⟩ (.int .i64 n)) := (Keep.refl _ _).setCell (p := ⟨x, 1, none⟩) (.inl (by simp)) _
  exact ⟨⟨by simpa using h.blk.set 1 (.int .i64 n), own_keep h.row hk (fun z hz hm => by simp at hm; subst hm; exact h.xL (by simpa using hz)), fun q hq => own_keep (h.dat q hq) hk (fun z hz hm => by simp at hm; subst hm; exact h.xQ hq (by simpa using hz)),
    h.foot, h.base, h.pos, h.few, h.zero, hn⟩, hk.sub (fun z hz => by simp at hz; subst hz; exact h.inX)⟩
theorem PSlot.none_dat (w : World) (base : Nat) : w.ownsRow base 5 1 PSlot.none_.v PSlot.none_.o.d.length (bys PSlot.none_.o.d) := World.ownsRow_nil _ _ _ _
section
variable (w : World) (base x : Nat) (L : Value) (F : List Nat) (next : Nat) (sl : List PSlot) (h : WinIs w base x L F next sl)
include h
set_option maxHeartbeats 2000000 in
set_option maxRecDepth 20000 in
theorem CutW_ok (hq : (sl.getD (next % sl.length) PSlot.none_).is = true) : Calls Tryz.prog 84 #[.pointer (some ⟨x, 0, none⟩)] w fun e w' => e = .returned (.bool true) ∧ ∃ F', WinIs w' base x L F' next (sl.set (next % sl.length) PSlot.none_) ∧ Keep F w w' ∧ ∀ z ∈ F', z ∈ F := by
  obtain ⟨g, c, hL, hc⟩ := h.form
  have hlt : next % sl.length < sl.length := Nat.mod_lt _ h.pos
  have hP := PeekW_is w base x L F next sl h
  have hA := fun W (hk : Keep [] w W) => atW_is W base x L F next sl (h.keep0 hk) g c hL next (by have := h.nb; omega)
  have hres := fun W (hk : Keep [] w W) => h.setSlot hk g c hL (next % sl.length) hlt PSlot.none_ (PSlot.none_dat W base) (fun _ => rfl)
  have hc1 := fun W (hk : Keep [] w W) => (h.keep0 hk).cells.2
  have hxl := h.blk.lt
  have hsl := fun W (hk : Keep [] w W) => (h.keep0 hk).slot W base x L F next sl g c hL (next % sl.length) hlt
  have hfz : ∀ W, Keep [] w W → ∀ j, W.frozen? ⟨g, j, none⟩ = false := fun W hk j => own_frozenN (by have := (h.keep0 hk).row; rw [hL] at this; exact this) j
  clear h
  generalize sl[next % sl.length] = q0 at hsl
  obtain ⟨q0v, q0o, q0i⟩ := q0
  simp only at hsl
  obtain ⟨i, hi⟩ : ∃ i, i = next % sl.length := ⟨_, rfl⟩
  rw [← hi] at hA hres hsl hlt
  have HI := hide hi
  have HQ := hide hq
  clear hq hi
  go_enter Tryz.func84, Tryz.ntmps84
  go_wp2_with (first
    | (go_at_call 82
       refine hP.mono ?_
       clear hP
       rintro e w1 ⟨q, hq, rfl, ⟨QA, qc, hqv⟩, hk1⟩
       rw [← hq, unhide HQ, hq, hqv]
       clear hq hqv
       have k1 := hc1 w1 hk1
       have hx1 : x < w1.heap.size := Nat.lt_of_lt_of_le hxl hk1.size)
    | (go_at_call 81
       refine (hA _ (by exact hk1.alloc _)).mono ?_
       clear hA
       rintro e w2 ⟨rfl, hk2⟩
       have hk2w := (hk1.alloc _).trans0 hk2
       obtain ⟨s0, s1, s2, s3, s4, s5⟩ := hsl w2 hk2w
       have f0 := hfz w2 hk2w (i * 6)
       have f1 := hfz w2 hk2w (i * 6 + 1)
       have f2 := hfz w2 hk2w (i * 6 + 2)
       have f3 := hfz w2 hk2w (i * 6 + 3)
       have f4 := hfz w2 hk2w (i * 6 + 4)
       have f5 := hfz w2 hk2w (i * 6 + 5)))
  go_ret
  obtain ⟨F', r1, r2, r3⟩ := hres w2 hk2w
  simp only [put6, PSlot.none_, POp.zero] at r1 r2
  rw [← unhide HI]
  simp only [PSlot.none_, POp.zero]
  refine ⟨rfl, F', r1, r2, fun z hz => (r3 z hz).resolve_right (by simp [PSlot.none_, Value.ownBlock])⟩
set_option maxHeartbeats 2000000 in
set_option maxRecDepth 20000 in
theorem PopW_ok (hq : (sl.getD (next % sl.length) PSlot.none_).is = true) (hn : next ≤ 1000000000) : Calls Tryz.prog 85 #[.pointer (some ⟨x, 0, none⟩)] w fun e w' => ∃ v b, e = .returned (.tuple #[v, b]) ∧ ∃ F', WinIs w' base x L F' (next + 1) (sl.set (next % sl.length) PSlot.none_) ∧ Keep F w w' ∧ ∀ z ∈ F', z ∈ F := by
  have hP := PeekW_is w base x L F next sl h
  have hC := fun W (hk : Keep [] w W) => CutW_ok W base x L F next sl (h.keep0 hk) hq
  have hlt := h.lt
  have hxl := h.blk.lt
  go_enter Tryz.func85, Tryz.ntmps85
  have hkA : Keep [] w (w.alloc (.cells #[.int .i64 0, .int .i64 0, .int .i64 0, .int .i64 0, .slice none 0 0] 46)) := (Keep.refl _ _).alloc _
  have hPA := PeekW_is _ base x L F next sl (h.keep0 hkA)
  have hbz := Blk.new w 46 #[.int .i64 0, .int .i64 0, .int .i64 0, .int .i64 0, .slice none 0 0]
  go_wp2_with (first
    | (go_at_call 82
       refine hPA.mono ?_
       clear hPA hP
       rintro e w1 ⟨q, hq', rfl, ⟨QA, qc, hqv⟩, hk1⟩
       rw [hqv]
       clear hq' hqv
       have hC1 := hC _ ((hkA.trans0 hk1).alloc (.cells #[.int .i64 q.o.k, .int .i64 q.o.b, .int .i64 q.o.c, .int .i64 q.o.e, .slice QA q.o.d.length qc] 46))
       have hbv := Blk.new w1 46 #[.int .i64 q.o.k, .int .i64 q.o.b, .int .i64 q.o.c, .int .i64 q.o.e, .slice QA q.o.d.length qc]
       replace hbz := hbz.keep0 (hk1.alloc (.cells #[.int .i64 q.o.k, .int .i64 q.o.b, .int .i64 q.o.c, .int .i64 q.o.e, .slice QA q.o.d.length qc] 46))
       clear hC)
    | (go_at_call 84
       refine hC1.mono ?_
       clear hC1
       rintro e w2 ⟨rfl, F', h2, hk2, hF2⟩
       have hs1 := (hkA.trans0 hk1).size
       have hzn : w.heap.size ∉ F := fun hm => by have := hlt _ hm; omega
       have hvn : w1.heap.size ∉ F := fun hm => by have := hlt _ hm; omega
       replace hbz := hbz.keep hk2 hzn
       replace hbv := hbv.keep hk2 hvn
       obtain ⟨v0, v1, v2, v3, v4⟩ := op_cells hbv
       obtain ⟨z0, z1, z2, z3, z4⟩ := op_cells hbz
       have f0 := hbz.frozen 0
       have f1 := hbz.frozen 1
       have f2 := hbz.frozen 2
       have f3 := hbz.frozen 3
       have f4 := hbz.frozen 4
       have k1 := h2.cells.2
       have g1 := h2.blk.frozen 1
       have hne1 : x ≠ w.heap.size := by omega
       have hne2 : x ≠ w1.heap.size := by omega))
  obtain ⟨h3, hk3⟩ := h2.setNext (next + 1) (by omega)
  have hk3x : Keep [x] w2 (w2.setCell ⟨x, 1, none⟩ (.int .i64 (next + 1 : Nat))) := (Keep.refl _ _).setCell (p := ⟨x, 1, none⟩) (.inl (by simp)) _
  have hbz3 := hbz.keep hk3x (by simpa using fun e => hne1 e.symm)
  have h5 := hbz3.put5 (.int .i64 q.o.k) (.int .i64 q.o.b) (.int .i64 q.o.c) (.int .i64 q.o.e) (.slice QA q.o.d.length qc)
  have hk5 := Keep.put5 (w2.setCell ⟨x, 1, none⟩ (.int .i64 (next + 1 : Nat))) w.heap.size (.int .i64 q.o.k) (.int .i64 q.o.b) (.int .i64 q.o.c) (.int .i64 q.o.e) (.slice QA q.o.d.length qc)
  have h4 := h3.keep hk5 (fun z hz hm => by simp at hm; subst hm; exact hzn (hF2 _ hz))
  unfold put5 at h5 hk5 h4
  obtain ⟨g0, g1, g2, g3, g4⟩ := op_cells h5
  have hcast : ((next + 1 : Nat) : Int) = (next : Nat) + 1 := by omega
  rw [hcast] at g0 g1 g2 g3 g4 h4 hk5 hk3
  refine bodyPost_ret (v := .tuple #[.agg #[.int .i64 q.o.k, .int .i64 q.o.b, .int .i64 q.o.c, .int .i64 q.o.e, .slice QA q.o.d.length qc], .bool q.is]) (by simp [results, Tryz.results85, go_sem, g0, g1, g2, g3, g4]) rfl ⟨_, _, rfl, F', h4, ?_, hF2⟩
  exact ((((hkA.trans0 hk1).alloc _).zero.trans hk2 (fun z hz => .inl hz)).trans hk3 (fun z hz => .inl (hF2 z hz))).trans hk5 (fun z hz => .inr (by simp at hz; omega))
end
end
section
open Go.RowKit
theorem elemSlot : ElemN Tryz.prog 151 159 (.agg #[.int .i64 0, .int .i64 0, .int .i64 0, .int .i64 0, .slice none 0 0, .bool false]) 6 64 := ElemN.of Tryz.underlying151 (by kernel_rfl) rfl (by omega)
section
variable (w : World) (base x : Nat) (L : Value) (F : List Nat) (next : Nat) (sl : List PSlot) (h : WinIs w base x L F next sl)
include h
set_option maxRecDepth 20000 in
theorem PutW_seq (n : Nat) (hn : n < next) (k b c e : Int) (A : Option Addr) (dl dc : Nat) : Calls Tryz.prog 35 #[.pointer (some ⟨x, 0, none⟩), .int .i64 (n : Nat), .agg #[.int .i64 k, .int .i64 b, .int .i64 c, .int .i64 e, .slice A dl dc]] w fun r w' => r = .returned (.int .i64 9) ∧ Keep [] w w' := by
  have hN := fun W (hk : Keep [] w W) => noneW_is W base x L F next sl (h.keep0 hk)
  have hkA : Keep [] w (w.alloc (.cells #[.int .i64 k, .int .i64 b, .int .i64 c, .int .i64 e, .slice A dl dc] 46)) := (Keep.refl _ _).alloc _
  have k1 := (h.keep0 hkA).cells.2
  have hlt : ((n : Nat) : Int) < (next : Nat) := by omega
  go_enter Tryz.func35, Tryz.ntmps35
  go_wp2_with (refine (hN _ hkA).mono ?_; clear hN; rintro r w' ⟨rfl, rfl⟩)
  go_ret
  exact ⟨rfl, hkA⟩
set_option maxRecDepth 20000 in
theorem PutW_win (n : Nat) (hn : next + sl.length ≤ n) (hn2 : n ≤ 2147483647) (k b c e : Int) (A : Option Addr) (dl dc : Nat) : Calls Tryz.prog 35 #[.pointer (some ⟨x, 0, none⟩), .int .i64 (n : Nat), .agg #[.int .i64 k, .int .i64 b, .int .i64 c, .int .i64 e, .slice A dl dc]] w fun r w' => r = .returned (.int .i64 10) ∧ Keep [] w w' := by
  have hN := fun W (hk : Keep [] w W) => noneW_is W base x L F next sl (h.keep0 hk)
  have hkA : Keep [] w (w.alloc (.cells #[.int .i64 k, .int .i64 b, .int .i64 c, .int .i64 e, .slice A dl dc] 46)) := (Keep.refl _ _).alloc _
  obtain ⟨g, lc, hL, hc⟩ := h.form
  obtain ⟨k0, k1⟩ := (h.keep0 hkA).cells
  have hnb := h.nb
  have hlt : ¬ ((n : Nat) : Int) < (next : Nat) := by omega
  have hge : ((next : Nat) : Int) + (sl.length : Nat) ≤ (n : Nat) := by omega
  rw [hL] at k0
  generalize sl.length = m at *
  clear hn hL h
  go_enter Tryz.func35, Tryz.ntmps35
  go_wp2_with (refine (hN _ hkA).mono ?_; clear hN; rintro r w' ⟨rfl, rfl⟩)
  refine wp_region_ht (fun w' => w'.cell? ⟨x, 0, none⟩ = some (.slice (some ⟨g, 0, none⟩) m lc) ∧ w'.cell? ⟨x, 1, none⟩ = some (.int .i64 (next : Nat))) 11 [(0, false), (1, false), (2, false), (3, false), (4, false), (5, false), (6, false), (7, false), (8, false), (9, false), (10, false)]
    (by kernel_rfl) (by kernel_rfl) (fun _ _ d _ _ h => by cases d <;> exact h) ⟨k0, k1⟩ ?_
  simp only [PI]
  iterate 11 (refine wpT_held ?_ (by rfl) ?_ ?_; rotate_left; (focus (rintro W ⟨hW0, hW1⟩; go_simp; try with_reducible rfl)); simp only [Act.put, PU])
  refine wpT_nil ?_
  go_wp2_with fail
  go_ret
  exact ⟨rfl, hkA.drew⟩
set_option maxHeartbeats 4000000 in
set_option maxRecDepth 20000 in
theorem PutW_ok (n : Nat) (hn1 : next ≤ n) (hn : n < next + sl.length) (hn2 : n ≤ 2147483647) (hq : (sl.getD (n % sl.length) PSlot.none_).is = false) (k b c e : Int) (A : Option Addr) (dc : Nat) (d : List UInt8) (hd : w.ownsRow base 5 1 (.slice A d.length dc) d.length (bys d)) :
    Calls Tryz.prog 35 #[.pointer (some ⟨x, 0, none⟩), .int .i64 (n : Nat), .agg #[.int .i64 k, .int .i64 b, .int .i64 c, .int .i64 e, .slice A d.length dc]] w fun r w' => r = .returned (.int .i64 0) ∧
      ∃ F', WinIs w' base x L F' next (sl.set (n % sl.length) ⟨.slice A d.length dc, ⟨k, b, c, e, d⟩, true⟩) ∧ Keep F w w' ∧ ∀ z ∈ F', z ∈ F ∨ z ∈ (Value.slice A d.length dc).ownBlock.toList := by
  have hN := fun W (hk : Keep [] w W) => noneW_is W base x L F next sl (h.keep0 hk)
  have hkA : Keep [] w (w.alloc (.cells #[.int .i64 k, .int .i64 b, .int .i64 c, .int .i64 e, .slice A d.length dc] 46)) := (Keep.refl _ _).alloc _
  have hbO := Blk.new w 46 #[.int .i64 k, .int .i64 b, .int .i64 c, .int .i64 e, .slice A d.length dc]
  obtain ⟨g, lc, hL, hc⟩ := h.form
  obtain ⟨k0, k1⟩ := (h.keep0 hkA).cells
  have hi : n % sl.length < sl.length := Nat.mod_lt _ h.pos
  have hA := fun W (hk : Keep [] w W) => atW_is W base x L F next sl (h.keep0 hk) g lc hL n (by omega)
  have hres := fun W (hk : Keep [] w W) => h.setSlot hk g lc hL (n % sl.length) hi ⟨.slice A d.length dc, ⟨k, b, c, e, d⟩, true⟩ (own_keep0 hd hk) (fun h => by cases h)
  have hsl := fun W (hk : Keep [] w W) => (h.keep0 hk).slot W base x L F next sl g lc hL (n % sl.length) hi
  have hfz : ∀ W, Keep [] w W → ∀ j, W.frozen? ⟨g, j, none⟩ = false := fun W hk j => own_frozenN (by have := (h.keep0 hk).row; rw [hL] at this; exact this) j
  have hqi : sl[n % sl.length].is = false := by rw [List.getD_eq_getElem?_getD, List.getElem?_eq_getElem hi] at hq; exact hq
  have hlt : ¬ ((n : Nat) : Int) < (next : Nat) := by omega
  have hge : ((n : Nat) : Int) < ((next : Nat) : Int) + (sl.length : Nat) := by omega
  rw [hL] at k0
  generalize sl[n % sl.length] = q0 at hsl hqi
  obtain ⟨q0v, q0o, q0i⟩ := q0
  simp only at hsl hqi
  subst hqi
  obtain ⟨i, hi'⟩ : ∃ i, i = n % sl.length := ⟨_, rfl⟩
  rw [← hi'] at hA hres hsl hi
  have HI := hide hi'
  obtain ⟨m, hm⟩ : ∃ m, m = sl.length := ⟨_, rfl⟩
  have hm16 : m ≤ 16 := by rw [hm]; exact h.few
  have hnb := h.nb
  rw [← hm] at k0 hge
  have HM := hide hm
  clear hq hi' hn hm hL h
  go_enter Tryz.func35, Tryz.ntmps35
  go_wp2_with (refine (hN _ hkA).mono ?_; clear hN; rintro r w' ⟨rfl, rfl⟩)
  have hA1 := hA _ hkA.drew
  refine wp_region_ht (fun w' => w'.cell? ⟨x, 0, none⟩ = some (.slice (some ⟨g, 0, none⟩) m lc) ∧ w'.cell? ⟨x, 1, none⟩ = some (.int .i64 (next : Nat))) 11 [(0, false), (1, false), (2, false), (3, false), (4, false), (5, false), (6, false), (7, false), (8, false), (9, false), (10, false)]
    (by kernel_rfl) (by kernel_rfl) (fun _ _ d _ _ h => by cases d <;> exact h) ⟨k0, k1⟩ ?_
  simp only [PI]
  iterate 11 (refine wpT_held ?_ (by rfl) ?_ ?_; rotate_left; (focus (rintro W ⟨hW0, hW1⟩; go_simp; try with_reducible rfl)); simp only [Act.put, PU])
  refine wpT_nil ?_
  go_wp2_with (go_at_call 81
               refine hA1.mono ?_
               clear hA1
               rintro r w1 ⟨rfl, hk1⟩
               have hk1w := hkA.drew.trans0 hk1
               obtain ⟨s0, s1, s2, s3, s4, s5⟩ := hsl w1 hk1w)
  have hbO1 := hbO.keep0 ((Keep.refl _ _).drew.trans0 hk1)
  have hA2 := hA w1.drew hk1w.drew
  obtain ⟨o0, o1, o2, o3, o4⟩ := op_cells hbO1.drew
  clear s0 s1 s2 s3 s4 s5
  refine wp_region_ht (fun w' => w'.cell? ⟨w.heap.size, 0, none⟩ = some (.int .i64 k) ∧ w'.cell? ⟨w.heap.size, 1, none⟩ = some (.int .i64 b) ∧ w'.cell? ⟨w.heap.size, 2, none⟩ = some (.int .i64 c) ∧ w'.cell? ⟨w.heap.size, 3, none⟩ = some (.int .i64 e) ∧ w'.cell? ⟨w.heap.size, 4, none⟩ = some (.slice A d.length dc)) 5 [(0, false), (1, false), (3, false), (4, false), (2, true)]
    (by kernel_rfl) (by kernel_rfl) (fun _ _ d _ _ h => by cases d <;> exact h) ⟨o0, o1, o2, o3, o4⟩ ?_
  simp only [PI]
  iterate 4 (refine wpT_held ?_ (by rfl) ?_ ?_; rotate_left; (focus (rintro W ⟨hW0, hW1, hW2, hW3, hW4⟩; go_simp; try with_reducible rfl)); simp only [Act.put, PU])
  refine wpT_loud (by rfl) (fun K hK => ?_)
  go_wp2_with (refine hA2.mono ?_; clear hA2; rintro r w2 ⟨rfl, hk2⟩)
  have hk2w := hk1w.drew.trans0 hk2
  refine hK _ _ ((op_cells (hbO1.drew.keep0 hk2))) ?_
  clear hK K
  try simp only [Act.put, PU]
  refine wpT_nil ?_
  obtain ⟨s0, s1, s2, s3, s4, s5⟩ := hsl w2 hk2w
  have f0 := hfz w2 hk2w (i * 6)
  have f1 := hfz w2 hk2w (i * 6 + 1)
  have f2 := hfz w2 hk2w (i * 6 + 2)
  have f3 := hfz w2 hk2w (i * 6 + 3)
  have f4 := hfz w2 hk2w (i * 6 + 4)
  have f5 := hfz w2 hk2w (i * 6 + 5)
  go_wp2_with fail
  go_ret
  obtain ⟨F', r1, r2, r3⟩ := hres w2 hk2w
  simp only [put6] at r1 r2
  rw [← unhide HI]
  exact ⟨rfl, F', r1, r2, r3⟩
end
end
section
open Go.RowKit Go.Shelf
attribute [local go_sem] Oper.semAt_some
theorem WinIs.putObj {W : World} {base x k next : Nat} {L : Value} {F : List Nat} {sl : List PSlot} {o : Obj} (h : WinIs W base x L F next sl) (o' : Obj) (hl : W.heap[k]? = some o) (ho : o.isCells = false) : WinIs (W.putObj k o') base x L F next sl :=
  ⟨blk_putObj o' h.blk hl ho, ownsRow_putObj h.row o' hl ho, fun q hq => ownsRow_putObj (h.dat q hq) o' hl ho, h.foot, h.base, h.pos, h.few, h.zero, h.nb⟩
abbrev WRnd := Nat × PSlot
def wrArgs (x : WRnd) : Array Value := #[.int .i64 (x.1 : Nat), .agg #[.int .i64 x.2.o.k, .int .i64 x.2.o.b, .int .i64 x.2.o.c, .int .i64 x.2.o.e, x.2.v]]
def wrKeep (base x bc next : Nat) (L : Value) (F : List Nat) (sl : List PSlot) (W W' : World) : Prop :=
  (Boxed W bc 77 (.pointer (some ⟨x, 0, none⟩)) → Boxed W' bc 77 (.pointer (some ⟨x, 0, none⟩))) ∧ (WinIs W base x L F next sl → WinIs W' base x L F next sl)
def cyc (next : Nat) (sl : List PSlot) (k : Nat) : Nat := (List.range k).countP (fun j => (sl.getD ((next + j) % sl.length) PSlot.none_).is)
theorem cyc_succ (next : Nat) (sl : List PSlot) (k : Nat) : cyc next sl (k + 1) = cyc next sl k + if (sl.getD ((next + k) % sl.length) PSlot.none_).is then 1 else 0 := by
  unfold cyc
  rw [List.range_succ, List.countP_append, List.countP_singleton]
theorem cyc_le (next : Nat) (sl : List PSlot) (k : Nat) : cyc next sl k ≤ k := by
  unfold cyc
  have := List.countP_le_length (p := fun j => (sl.getD ((next + j) % sl.length) PSlot.none_).is) (l := List.range k)
  simpa using this
theorem WAll_in (n : Nat) (v : Value) (w : World) (hv : v.oneCell' = true) :
    CallsIn Fence.wide n Tryz.prog 92 #[v] w fun e w' => e = .returned (.func (.func 149) #[] #[.pointer (some ⟨w.heap.size, 0, none⟩)]) ∧ w' = w.alloc (.cells #[v] 77) := by
  refine (callsIn_wide (n := n)).2 ?_
  go_enter Tryz.func92, Tryz.ntmps92
  go_wp2
  go_ret
  exact ⟨rfl, rfl⟩
set_option maxRecDepth 100000 in
set_option maxHeartbeats 2000000 in
theorem WAll1_seq (n bc base x next : Nat) (L : Value) (F : List Nat) (sl : List PSlot) (w : World) (hs : WinIs w base x L F next sl) (hbc : Boxed w bc 77 (.pointer (some ⟨x, 0, none⟩))) :
    SeqF n Tryz.prog 149 #[.pointer (some ⟨bc, 0, none⟩)] wrArgs (fun pre _ _ => pre.length ≤ 16) (wrKeep base x bc next L F sl) (fun xs => xs.length = cyc next sl sl.length) w := by
  intro l J W hW hJ hY h0
  replace hs := hs.keep0 hW
  replace hbc : Boxed W bc 77 (.pointer (some ⟨x, 0, none⟩)) := (hW.block bc hbc.lt (by simp)).trans hbc
  have hcb := hbc.cell
  obtain ⟨g, lc, hL, hlc⟩ := hs.form
  have hT := callsIn_wide (n := n - 1).2 (noneW_is W base x L F next sl hs)
  have hc1 := hs.cells.2
  have hnb := hs.nb
  have hfew := hs.few
  have hpos := hs.pos
  obtain ⟨m, hm⟩ : ∃ m, m = sl.length := ⟨_, rfl⟩
  have hm16 : m ≤ 16 := by omega
  have HM := hide hm
  refine callsIn_of_wp Tryz.func149 rfl trivial ?_ rfl
  simp only [Tryz.ntmps149, List.size_toArray, List.length_cons, List.length_nil, Nat.reduceAdd, Nat.reduceSub, Array.replicate_succ, Array.replicate_zero, List.push_toArray, List.append_toArray, List.nil_append, List.cons_append]
  gi_wp2_with (refine ⟨trivial, fun h => by simp [Fence.wide] at h, ?_⟩; refine hT.mono ?_; clear hT; rintro e w' ⟨rfl, rfl⟩)
  gi_loopw [3, 4] (fun i _ wr => ∃ (k : Nat) (pre : List WRnd), k ≤ m ∧ i = .int .i64 ((next + k : Nat)) ∧ J pre wr ∧ Hid (pre.length = cyc next sl k) ∧ WinIs wr base x L F next sl ∧ Boxed wr bc 77 (.pointer (some ⟨x, 0, none⟩)))
    (fun i _ _ => next + m - (intOf i).toNat)
  case atStart => exact ⟨0, [], Nat.zero_le _, rfl, h0, rfl, hs, hbc⟩
  case round =>
    clear hs hbc h0 hcb hc1
    obtain ⟨k, pre, hk, rfl, hJp, hpl, hs, hbc⟩ := hrel
    have hcb := hbc.cell
    obtain ⟨c0, c1⟩ := hs.cells
    rw [hL, ← hm] at c0
    obtain ⟨z, hz⟩ : ∃ z, z = next + k := ⟨_, rfl⟩
    have HZ := hide hz
    rw [← hz]
    by_cases hlt : k < m
    · have hzI : ((z : Nat) : Int) < ((next : Nat) : Int) + (m : Nat) := by omega
      have hz4 : z ≤ 4000000000 := by omega
      have hA := fun W (h : WinIs W base x L F next sl) => callsIn_wide (n := n - 1).2 (atW_is W base x L F next sl h g lc hL z hz4)
      have hi : z % sl.length < sl.length := Nat.mod_lt _ hpos
      have hsl := fun W (h : WinIs W base x L F next sl) => h.slot W base x L F next sl g lc hL (z % sl.length) hi
      have hcy := cyc_succ next sl k
      have hgd : sl.getD ((next + k) % sl.length) PSlot.none_ = sl[z % sl.length] := by rw [← hz, List.getD_eq_getElem?_getD, List.getElem?_eq_getElem hi]; rfl
      have hdat := hs.dat sl[z % sl.length] (List.getElem_mem _)
      rw [hgd] at hcy
      clear hgd
      generalize sl[z % sl.length] = q at *
      obtain ⟨qv, ⟨qk, qb, qc, qe, qd⟩, is⟩ := q
      simp only at hsl hcy hdat
      obtain ⟨QA, qcap, rfl, _⟩ := own_form hdat
      have HCY := hide hcy
      have HS := hide hs
      have hsD := hs.keep0 (Keep.refl [] wr).drew
      have hbD : Boxed wr.drew bc 77 (.pointer (some ⟨x, 0, none⟩)) := boxed_keep hbc (Keep.refl [] _).drew (by simp)
      clear hz hm hcy hs hlt hdat
      gi_wp2
      refine wpIn_wide.2 ?_
      refine wp_region_ht (fun w' => w'.cell? ⟨bc, 0, none⟩ = some (.pointer (some ⟨x, 0, none⟩)) ∧ w'.cell? ⟨x, 0, none⟩ = some (.slice (some ⟨g, 0, none⟩) m lc) ∧ w'.cell? ⟨x, 1, none⟩ = some (.int .i64 (next : Nat))) 11 [(0, false), (1, false), (2, false), (3, false), (4, false), (5, false), (6, false), (7, false), (8, false), (9, false), (10, false)]
        (by kernel_rfl) (by kernel_rfl) (fun _ _ d _ _ h => by cases d <;> exact h) ⟨hcb, c0, c1⟩ ?_
      simp only [PI]
      iterate 11 (refine wpT_held ?_ (by rfl) ?_ ?_; rotate_left; (focus (rintro W ⟨hW0, hW1, hW2⟩; go_simp; try with_reducible rfl)); simp only [Act.put, PU])
      refine wpT_nil ?_
      go_wp2_with fail
      have hcbD := hbD.cell
      cases is
      · gi_wp2_with (
          refine ⟨trivial, fun h => by simp [Fence.wide] at h, ?_⟩
          refine (hA _ hsD).mono ?_
          clear hA
          rintro e w1 ⟨rfl, hk1⟩
          have hs1 := hsD.keep0 hk1
          have hb1 := boxed_keep hbD hk1 (by simp)
          have hJ1 := hJ _ _ _ hJp ((Keep.refl [] wr).drew.trans0 hk1)
          obtain ⟨s0, s1, s2, s3, s4, s5⟩ := hsl w1 hs1
          have HS1 := hide hs1
          clear hs1)
        refine ⟨fun f h => (by cases h), ?_⟩
        gi_wp2
        go_roundw
        case rel => exact ⟨k + 1, pre, by have := unhide HZ; omega, by have := unhide HZ; subst this; go_num, hJ1, by show _ = _; rw [unhide hpl, unhide HCY]; rfl, unhide HS1, hb1⟩
        case measure => simp [intOf]; have := unhide HZ; omega
      · gi_wp2_with (
          refine ⟨trivial, fun h => by simp [Fence.wide] at h, ?_⟩
          refine (hA _ hsD).mono ?_
          clear hA
          rintro e w1 ⟨rfl, hk1⟩
          have hs1 := hsD.keep0 hk1
          have hb1 := boxed_keep hbD hk1 (by simp)
          have hJ1 := hJ _ _ _ hJp ((Keep.refl [] wr).drew.trans0 hk1)
          obtain ⟨s0, s1, s2, s3, s4, s5⟩ := hsl w1 hs1
          have HS1 := hide hs1
          clear hs1
          obtain ⟨fn, tmps, assign, body, hy, hR⟩ := hY pre (z, ⟨.slice QA qd.length qcap, ⟨qk, qb, qc, qe, qd⟩, true⟩) w1 hJ1 (by have := cyc_le next sl k; rw [unhide hpl]; omega)
          dsimp only [wrArgs] at hy)
        refine ⟨fun h => by simp [Fence.wide] at h, hR.mono ?_⟩
        rintro e W3 ⟨rfl, hJ3, hb3, hs3⟩
        have hs4 := hide (hs3 (unhide HS1))
        have hb4 := hb3 hb1
        clear hy hR hs3 hb3
        gi_wp2
        go_roundw
        case rel => exact ⟨k + 1, _, by have := unhide HZ; omega, by have := unhide HZ; subst this; go_num, hJ3, by show _ = _; rw [List.length_append, unhide hpl, unhide HCY]; rfl, unhide hs4, hb4⟩
        case measure => simp [intOf]; have := unhide HZ; omega
    · obtain rfl : m = k := by omega
      have hzI : ¬ ((z : Nat) : Int) < ((next : Nat) : Int) + (m : Nat) := by omega
      clear hz hm
      gi_wp2
      refine wpIn_wide.2 ?_
      refine wp_region_ht (fun w' => w'.cell? ⟨bc, 0, none⟩ = some (.pointer (some ⟨x, 0, none⟩)) ∧ w'.cell? ⟨x, 0, none⟩ = some (.slice (some ⟨g, 0, none⟩) m lc) ∧ w'.cell? ⟨x, 1, none⟩ = some (.int .i64 (next : Nat))) 11 [(0, false), (1, false), (2, false), (3, false), (4, false), (5, false), (6, false), (7, false), (8, false), (9, false), (10, false)]
        (by kernel_rfl) (by kernel_rfl) (fun _ _ d _ _ h => by cases d <;> exact h) ⟨hcb, c0, c1⟩ ?_
      simp only [PI]
      iterate 11 (refine wpT_held ?_ (by rfl) ?_ ?_; rotate_left; (focus (rintro W ⟨hW0, hW1, hW2⟩; go_simp; try with_reducible rfl)); simp only [Act.put, PU])
      refine wpT_nil ?_
      go_wp2_with fail
      gi_wp2
      go_end0
      exact ⟨⟨_, rfl⟩, pre, by rw [unhide hpl, ← unhide HM], hJ _ _ _ hJp (Keep.refl [] _).drew⟩
end
section
open Go.RowKit Go.Shelf
attribute [local go_sem] Oper.semAt_some
structure KLen (w : World) (pre : List WRnd) (W : World) : Prop where
  cnt : Boxed W w.heap.size 3 (.int .i64 (pre.length : Nat))
  keep : Keep [] w W
theorem KLen.kept {w A B : World} {pre : List WRnd} (h : KLen w pre A) (hk : Keep [] A B) : KLen w pre B := ⟨boxed_keep h.cnt hk (by simp), h.keep.trans0 hk⟩
theorem KLen.turned {w W : World} {k : Nat} {pre : List WRnd} {o o' : Obj} (h : KLen w pre W) (hl : w.heap.size ≤ k) (hg : W.heap[k]? = some o) (ho : o.isCells = false) : KLen w pre (W.putObj k o') :=
  ⟨boxed_putObj o' h.cnt hg ho, h.keep.putObj hl o'⟩
set_option maxRecDepth 100000 in
set_option maxHeartbeats 2000000 in
theorem LenW_is (w : World) (base x next : Nat) (L : Value) (F : List Nat) (sl : List PSlot) (h : WinIs w base x L F next sl) :
    Calls Tryz.prog 43 #[.pointer (some ⟨x, 0, none⟩)] w fun e w' => e = .returned (.int .i64 (cyc next sl sl.length : Nat)) ∧ Keep [] w w' := by
  refine (callsIn_wide (n := 3)).1 ?_
  refine callsIn_of_wp_marks Tryz.func43 rfl trivial ?_ rfl
  simp only [Tryz.ntmps43, List.size_toArray, List.length_cons, List.length_nil, Nat.reduceAdd, Nat.reduceSub, Array.replicate_succ, Array.replicate_zero, List.push_toArray, List.append_toArray, List.nil_append, List.cons_append]
  gi_wp2_with (first
    | (refine ⟨trivial, ?_⟩; refine (WAll_in _ _ _ rfl).mono ?_; rintro e w' ⟨rfl, rfl⟩))
  obtain ⟨w1, hw1⟩ : ∃ w1, w1 = w.alloc (.cells #[.int .i64 0] 3) := ⟨_, rfl⟩
  obtain ⟨w2, hw2⟩ : ∃ w2, w2 = w1.alloc (.cells #[.pointer (some ⟨x, 0, none⟩)] 77) := ⟨_, rfl⟩
  rw [← hw1, ← hw2]
  have s1 : w1.heap.size = w.heap.size + 1 := by rw [hw1, World.size_alloc]
  have s2 : w2.heap.size = w.heap.size + 2 := by rw [hw2, World.size_alloc, s1]
  have k1 : Keep [] w w1 := by rw [hw1]; exact (Keep.refl _ _).alloc _
  have k2 : Keep [] w1 w2 := by rw [hw2]; exact (Keep.refl _ _).alloc _
  have kw : Keep [] w w2 := k1.trans0 k2
  have b2 : Boxed w2 w.heap.size 3 (.int .i64 0) := boxed_keep (by rw [hw1]; exact Boxed.new w _ _) k2 (by simp)
  have bc : Boxed w2 (w.heap.size + 1) 77 (.pointer (some ⟨x, 0, none⟩)) := by rw [hw2, ← s1]; exact Boxed.new w1 _ _
  have h0 : KLen w [] w2 := ⟨b2, kw⟩
  have hlt := h.lt
  have hseq := WAll1_seq 2 (w.heap.size + 1) base x next L F sl w2 (h.keep0 kw) bc
  refine wpIn_rangeF (n := 3) (gf := 149) (lb := #[.pointer (some ⟨w.heap.size + 1, 0, none⟩)]) rfl (enters_of Tryz.func149 (by kernel_rfl) rfl)
    hseq
    (fun A B C h k => ⟨fun hb => k.1 (h.1 hb), fun hb => k.2 (h.2 hb)⟩)
    (fun W l o o' hl hg' ho => ⟨fun hb => boxed_putObj o' hb hg' ho, fun hw => hw.putObj o' hg' ho⟩)
    (fun _ => rfl) (KLen w) (fun s A B h hk => h.kept hk) (fun s W l o o' h hl hg' ho => h.turned (by omega) hg' ho)
    (fun pre x W l o o' h hl hg' ho => h) h0
    (fun y => { tmps := #[.pointer (some ⟨x, 0, none⟩), undef, .pointer (some ⟨w.heap.size, 0, none⟩), .pointer (some ⟨x, 0, none⟩),
      .func (.func 149) #[] #[.pointer (some ⟨w.heap.size + 1, 0, none⟩)], .int .i64 (y.1 : Nat), .agg #[.int .i64 y.2.o.k, .int .i64 y.2.o.b, .int .i64 y.2.o.c, .int .i64 y.2.o.e, y.2.v], undef, undef, undef], defers := [] }) ?assign ?body ?done
  case assign =>
    rintro l ⟨k, z⟩ W K hK
    dsimp only [wrArgs] at hK ⊢
    gi_wp2
    simpa using hK
  case body =>
    rintro l pre ⟨k, z⟩ W hI hle
    dsimp only
    obtain ⟨q, hq⟩ : ∃ q, q = pre.length := ⟨_, rfl⟩
    have hbx := hI.cnt
    have hqs : q ≤ 16 := by rw [hq]; exact hle
    rw [← hq] at hbx
    have hc2 := hbx.cell
    have hf2 := hbx.frozen
    have hltB := hbx.lt
    have HI := hide hI
    have HQ := hide hq
    clear h0 b2 bc kw k1 k2 hw1 hw2 hseq hI hq
    gi_wp2
    have hI := unhide HI
    have hk3 : Keep [w.heap.size] W (W.setCell ⟨w.heap.size, 0, none⟩ (.int .i64 ((q : Nat) + 1))) := (Keep.refl _ _).setCell (p := ⟨w.heap.size, 0, none⟩) (.inl (by simp)) _
    refine ⟨hk3.fromCells (fun g hg o ho => ?_) _, ⟨fun hb => boxed_keep hb hk3 (by simp), fun hw => hw.keep hk3 (fun x hx => by have := hlt x hx; simp; omega)⟩, ⟨?_, hI.keep.trans hk3 (fun x hx => .inr (by simp at hx; omega))⟩⟩
    · rw [List.mem_singleton.1 hg] at ho
      rw [show W.heap[_]? = _ from hbx] at ho; cases ho; rfl
    · have := hbx.set (.int .i64 ((q : Nat) + 1))
      rw [List.length_append, ← unhide HQ]
      simpa using this
  case done =>
    intro D' xs W hD' hS hI hdef
    have hbx := hI.cnt
    rw [hS] at hbx
    obtain ⟨q, hq⟩ : ∃ q, q = cyc next sl sl.length := ⟨_, rfl⟩
    rw [← hq] at hbx
    have HQ := hide hq
    clear hq
    have hc2 := hbx.cell
    have hf2 := hbx.frozen
    have HI := hide hI
    clear h0 b2 bc kw k1 k2 hw1 hw2 hseq hI
    gi_wp2
    have hI := unhide HI
    have hKs : Keep [w.heap.size] W (W.setCell ⟨w.heap.size, 0, none⟩ (.int .i64 (q : Nat))) := (Keep.refl _ _).setCell (p := ⟨w.heap.size, 0, none⟩) (.inl (by simp)) _
    have hdef2 : (W.setCell ⟨w.heap.size, 0, none⟩ (.int .i64 (q : Nat))).heap[D']? = some (.deferred (some [])) := (hKs.block D' (Array.getElem?_eq_some_iff.1 hdef).1 (by simp; omega)).trans hdef
    have q6 := (boxed_putObj (.deferred none) (hbx.set (.int .i64 (q : Nat))) hdef2 rfl).cell
    have hkw := (hI.keep.trans hKs (fun x hx => .inr (by simp at hx; omega))).putObj (g := D') (by omega) (.deferred none)
    refine ⟨by simp, .inl ⟨_, _, rfl, run_takeDeferred hdef2, ?_⟩⟩
    refine ⟨.int .i64 (q : Nat), ?_, by rw [unhide HQ], hkw⟩
    simp [results, Tryz.results43, go_sem, q6]
theorem emptyW_row (m : Nat) : (madeCells #[.int .i64 0, .int .i64 0, .int .i64 0, .int .i64 0, .slice none 0 0, .bool false] (m * 6)).toList = (emptyW m).flatMap slc := by
  apply List.ext_getElem?
  intro j
  by_cases hj : j < m * 6
  · have h1 : (emptyW m)[j / 6]'(by simp [emptyW]; omega) = PSlot.none_ := by simp [emptyW]
    have h2 := flat_get length_slc (emptyW m) (j / 6) (j % 6) (by simp [emptyW]; omega) (by omega)
    rw [show j / 6 * 6 + j % 6 = j by omega, h1] at h2
    rw [h2]
    have : j % 6 = 0 ∨ j % 6 = 1 ∨ j % 6 = 2 ∨ j % 6 = 3 ∨ j % 6 = 4 ∨ j % 6 = 5 := by omega
    rw [Array.getElem?_toList, madeCells, Array.getElem?_map, Array.getElem?_range, if_pos hj]
    simp only [Option.map_some, List.size_toArray, List.length_cons, List.length_nil]
    rcases this with h | h | h | h | h | h <;> (rw [show j % (0 + 1 + 1 + 1 + 1 + 1 + 1) = j % 6 from rfl, h]; rfl)
  · rw [List.getElem?_eq_none (by rw [Array.length_toList, size_madeCells]; omega), List.getElem?_eq_none (by rw [flat_length length_slc]; simp [emptyW]; omega)]
set_option maxRecDepth 20000 in
theorem NewWin_ok (m next : Nat) (h1 : 1 ≤ m) (h2 : m ≤ 16) (h3 : 1 ≤ next ∧ next ≤ 1000000000) (w : World) :
    Calls Tryz.prog 30 #[.int .i64 (m : Nat), .int .i64 (next : Nat)] w fun e w' => ∃ x, e = .returned (.pointer (some ⟨x, 0, none⟩)) ∧ ∃ F, WinAt w' w.heap.size x F next (emptyW m) ∧ Keep [] w w' := by
  have i1 : ¬ ((m : Nat) : Int) < 1 := by omega
  have i2 : ¬ (16 : Int) < ((m : Nat) : Int) := by omega
  have i3 : ¬ ((next : Nat) : Int) < 1 := by omega
  have i4 : ¬ (2147483647 : Int) < ((next : Nat) : Int) := by omega
  go_enter Tryz.func30, Tryz.ntmps30
  go_wp2_with (at_make; refine elemSlot.wp_make rfl _ _ rfl .i64 .i64 m rfl rfl (by omega) (by omega) ?_; intro w1 g1 hg1 hs1 hb1 hk1; obtain rfl : g1 = w.heap.size := hg1; clear hs1)
  go_ret
  have hb2 : w1.ownsRow w.heap.size 159 6 (.slice (some ⟨w.heap.size, 0, none⟩) m m) m ((emptyW m).flatMap slc) :=
    ⟨by rw [flat_length length_slc]; simp [emptyW], .inr ⟨w.heap.size, m, _, rfl, Nat.le_refl _, hb1, Nat.le_refl _, by simp [maxLen]; omega, by rw [size_madeCells], by rw [← emptyW_row]; exact List.take_of_length_le (by rw [Array.length_toList, size_madeCells]; exact Nat.le_refl _)⟩⟩
  refine ⟨_, rfl, ⟨_, _, Blk.new _ _ _, by have := own_alloc hb2 (.cells #[.slice (some ⟨w.heap.size, 0, none⟩) m m, .int .i64 (next : Nat)] 153); simpa [emptyW] using this, fun q hq => ?_, rfl, hk1.size, by simpa [emptyW] using h1, by simpa [emptyW] using h2, fun q hq _ => ?_, by omega⟩, hk1.alloc _⟩
  · rw [List.eq_of_mem_replicate hq]; exact PSlot.none_dat _ _
  · exact List.eq_of_mem_replicate hq
theorem NewWin_no (m : Int) (next : Nat) (h : m < 1 ∨ 16 < m) (w : World) :
    Calls Tryz.prog 30 #[.int .i64 m, .int .i64 (next : Nat)] w fun e w' => e = .returned (.pointer none) ∧ w = w' := by
  rcases h with h | h
  · go_enter Tryz.func30, Tryz.ntmps30
    go_wp2
    go_ret
    exact ⟨rfl, rfl⟩
  · have h2 : ¬ m < 1 := by omega
    go_enter Tryz.func30, Tryz.ntmps30
    go_wp2
    go_ret
    exact ⟨rfl, rfl⟩
end
section
open Go.RowKit Go.Shelf
structure ReplicaIs (w : World) (base r s d x : Nat) (Fs Fx : List Nat) (B : Nat) (R : RS) : Prop where
  blk : Blk w r 80 #[.pointer (some ⟨s, 0, none⟩), .pointer (some ⟨x, 0, none⟩)]
  st : StoreAt w base s d Fs B R.S
  win : WinAt w base x Fx R.next R.sl
  ap : Apart Fs Fx
  rs : r ∉ Fs
  rx : r ∉ Fx
  rb : base ≤ r
  mode : R.S.st.mode = 1
  view : 1 ≤ R.S.st.view ∧ R.S.st.view ≤ 2147483647
def repF (r : Nat) (Fs Fx : List Nat) : List Nat := r :: (Fs ++ Fx)
namespace ReplicaIs
variable {w w' : World} {base r s d x : Nat} {Fs Fx l : List Nat} {B : Nat} {R : RS}
theorem keep (h : ReplicaIs w base r s d x Fs Fx B R) (hk : Keep l w w') (ha : Apart (repF r Fs Fx) l) : ReplicaIs w' base r s d x Fs Fx B R :=
  ⟨h.blk.keep hk (ha r (by simp [repF])), h.st.keep hk (fun y hy => ha y (by simp [repF, hy])), h.win.keep hk (fun y hy => ha y (by simp [repF, hy])), h.ap, h.rs, h.rx, h.rb, h.mode, h.view⟩
theorem keep0 (h : ReplicaIs w base r s d x Fs Fx B R) (hk : Keep [] w w') : ReplicaIs w' base r s d x Fs Fx B R := h.keep hk Apart.nil_right
theorem lt (h : ReplicaIs w base r s d x Fs Fx B R) : ∀ y ∈ repF r Fs Fx, y < w.heap.size := fun y hy => by
  simp only [repF, List.mem_cons, List.mem_append] at hy
  rcases hy with rfl | hy | hy
  · exact h.blk.lt
  · exact h.st.lt y hy
  · exact h.win.lt y hy
theorem ge (h : ReplicaIs w base r s d x Fs Fx B R) : ∀ y ∈ repF r Fs Fx, base ≤ y := fun y hy => by
  simp only [repF, List.mem_cons, List.mem_append] at hy
  rcases hy with rfl | hy | hy
  · exact h.rb
  · exact h.st.ge y hy
  · exact h.win.ge y hy
theorem cells (h : ReplicaIs w base r s d x Fs Fx B R) : w.cell? ⟨r, 0, none⟩ = some (.pointer (some ⟨s, 0, none⟩)) ∧ w.cell? ⟨r, 1, none⟩ = some (.pointer (some ⟨x, 0, none⟩)) := ⟨by simpa using h.blk.cell 0, by simpa using h.blk.cell 1⟩
theorem setSt (h : ReplicaIs w base r s d x Fs Fx B R) {Fs' : List Nat} {S' : PS} (hs : StoreAt w' base s d Fs' B S') (hk : Keep Fs w w') (hg : Grow w Fs Fs') (hm : S'.st.mode = 1) (hv : S'.st.view = R.S.st.view) : ReplicaIs w' base r s d x Fs' Fx B ⟨S', R.next, R.sl⟩ :=
  ⟨h.blk.keep hk h.rs, hs, h.win.keep hk h.ap.symm, h.ap.grow hg h.win.lt, fun hr => (hg r hr).elim h.rs (by have := h.blk.lt; omega), h.rx, h.rb, hm, hv ▸ h.view⟩
theorem setWin (h : ReplicaIs w base r s d x Fs Fx B R) {Fx' : List Nat} {n : Nat} {sl : List PSlot} (hx : WinAt w' base x Fx' n sl) (hk : Keep Fx w w') (hg : ∀ y ∈ Fx', y ∈ Fx ∨ (y ∉ Fs ∧ y ≠ r)) : ReplicaIs w' base r s d x Fs Fx' B ⟨R.S, n, sl⟩ :=
  ⟨h.blk.keep hk h.rx, h.st.keep hk h.ap, hx, fun y hy hm => (hg y hm).elim (h.ap y hy) (fun h' => h'.1 hy), h.rs, fun hr => (hg r hr).elim h.rx (fun h' => h'.2 rfl), h.rb, h.mode, h.view⟩
end ReplicaIs
theorem StatusAt_is (w : World) (base s d : Nat) (F : List Nat) (B : Nat) (S : PS) (h : StoreAt w base s d F B S) : Calls Tryz.prog 12 #[.pointer (some ⟨s, 0, none⟩)] w fun e w' => e = .returned (.agg #[.int .i64 S.st.mode, .int .i64 S.st.view, .int .i64 S.st.epoch, .int .i64 S.st.seq, .int .i64 S.st.done, .int .i64 S.st.mount, .int .i64 S.st.gen, .int .i64 (freeCount S.us : Nat), .int .i64 (liveN S : Nat), .int .i64 (pendCount S.I.ol : Nat)]) ∧ Keep [] w w' := by
  obtain ⟨g, t, p, m, Fd, Ft, Fw, Fm, L0, L1, h, rfl⟩ := h
  exact StatusS_is w base s d g t p m Fd Ft Fw Fm L0 L1 B S h
section
variable (w : World) (base r s d x : Nat) (Fs Fx : List Nat) (B : Nat) (R : RS) (h : ReplicaIs w base r s d x Fs Fx B R)
include h
set_option maxHeartbeats 2000000 in
set_option maxRecDepth 20000 in
theorem answerR_ok (hs : R.S.st.seq ≤ 2147483647) (he : R.S.st.epoch ≤ 2147483647) (hd : R.S.st.done ≤ R.S.st.seq) :
    Calls Tryz.prog 37 #[.pointer (some ⟨r, 0, none⟩)] w fun e w' => ∃ u, e = .returned (.tuple #[u, .int .i64 0]) ∧ w'.ownsRow w.heap.size 5 1 u 25 (bys (frBytes 8 R.S.st.view R.S.st.seq 0 0 R.S.st.epoch R.S.st.done [])) ∧ Keep [] w w' := by
  have hS := StatusAt_is w base s d Fs B R.S h.st
  have hE := fun W => Encode_may 8 R.S.st.view R.S.st.seq 0 0 R.S.st.epoch R.S.st.done none 0 0 [] W (Rd.nil _ _) ⟨by have := h.view; omega, .inr (.inr (.inr (.inl ⟨rfl, by omega, rfl, rfl, by omega, by omega, rfl⟩)))⟩
  obtain ⟨c0, c1⟩ := h.cells
  unfold frv at hE
  generalize R.S.st = st at *
  obtain ⟨mode, view, epoch, seq, done, mount, gen⟩ := st
  simp only at hS hE hs he hd ⊢
  go_enter Tryz.func37, Tryz.ntmps37
  go_wp2_with (first
    | (go_at_call 12; refine hS.mono ?_; clear hS; rintro e w1 ⟨rfl, hk1⟩)
    | (go_at_call 57; refine (hE _).mono ?_; clear hE; rintro e w2 ⟨u, rfl, hu, hk2⟩))
  go_ret2
  exact ⟨u, rfl, own_base hu (by have := hk1.size; simp; omega), (hk1.alloc _).trans0 hk2⟩
theorem readyR_ok : Calls Tryz.prog 31 #[.pointer (some ⟨r, 0, none⟩)] w fun e w' => e = .returned (.int .i64 0) ∧ Keep [] w w' := by
  have hS := StatusAt_is w base s d Fs B R.S h.st
  have hm := h.mode
  have hD : Calls Tryz.prog 73 #[.pointer (some ⟨s, 0, none⟩)] w fun e w' => e = .returned (.pointer (some ⟨d, 0, none⟩)) ∧ w = w' := by
    obtain ⟨g, t, p, m, Fd, Ft, Fw, Fm, L0, L1, h2, hf⟩ := h.st
    exact DiskS_is w base s d g t p m Fd Ft Fw Fm L0 L1 B R.S h2
  have hO : Calls Tryz.prog 74 #[.pointer (some ⟨d, 0, none⟩)] w fun e w' => e = .returned (.bool false) ∧ w = w' := by
    obtain ⟨g, t, p, m, Fd, Ft, Fw, Fm, L0, L1, h2, hf⟩ := h.st
    have := Off_is w base d Fd R.S.D h2.log.disk
    rwa [h2.log.off] at this
  obtain ⟨c0, c1⟩ := h.cells
  rw [hm] at hS
  clear hm
  have hfd := fun (a b c e f g h' i j : Value) W => run_field_one (P := Tryz.prog) Tryz.underlying48 0 rfl Tryz.isAgg3 #[.int .i64 1, a, b, c, e, f, g, h', i, j] rfl W
  go_enter Tryz.func31, Tryz.ntmps31
  go_wp2_with (first
    | (go_at_call 73; refine hD.mono ?_; clear hD; rintro e w' ⟨rfl, rfl⟩)
    | (go_at_call 74; refine hO.mono ?_; clear hO; rintro e w' ⟨rfl, rfl⟩)
    | (go_at_call 12; refine hS.mono ?_; clear hS; rintro e w1 ⟨rfl, hk1⟩))
  go_ret
  exact ⟨rfl, hk1⟩
end
theorem readyR_nil (w : World) : Calls Tryz.prog 31 #[.pointer none] w fun e w' => e = .returned (.int .i64 3) ∧ w = w' := by
  go_enter Tryz.func31, Tryz.ntmps31
  go_wp2
  go_ret
  exact ⟨rfl, rfl⟩
end
end Go.Proofs.YtglbkndbbhamcaaGreat
