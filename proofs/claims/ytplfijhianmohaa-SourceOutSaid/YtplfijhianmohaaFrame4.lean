/-
  Contracts of frame: Of.
-/
import Derived.Test.YtplfijhianmohaaFrame3
import Derived.Test.YtplfijhianmohaaRegion2
namespace Go.Proofs.Ytplfijhianmohaa
open Go.RowKit

/-- an op as a value -/
theorem op_cells {w : World} {g : Nat} {x0 x1 x2 x3 x4 : Value} (h : Blk w g 58 #[x0, x1, x2, x3, x4]) :
    w.cell? ⟨g, 0, none⟩ = some x0 ∧ w.cell? ⟨g, 1, none⟩ = some x1 ∧ w.cell? ⟨g, 2, none⟩ = some x2 ∧ w.cell? ⟨g, 3, none⟩ = some x3 ∧ w.cell? ⟨g, 4, none⟩ = some x4 :=
  ⟨by simpa using h.cell 0, by simpa using h.cell 1, by simpa using h.cell 2, by simpa using h.cell 3, by simpa using h.cell 4⟩

/-- a frame stored cell by cell -/
def put8 (w : World) (g : Nat) (x0 x1 x2 x3 x4 x5 x6 x7 : Value) : World :=
  (((((((w.setCell ⟨g, 0, none⟩ x0).setCell ⟨g, 1, none⟩ x1).setCell ⟨g, 2, none⟩ x2).setCell ⟨g, 3, none⟩ x3).setCell ⟨g, 4, none⟩ x4).setCell ⟨g, 5, none⟩ x5).setCell ⟨g, 6, none⟩ x6).setCell ⟨g, 7, none⟩ x7
theorem Blk.put8 {w : World} {g : Nat} {t : TypeId} {y0 y1 y2 y3 y4 y5 y6 y7 : Value} (h : Blk w g t #[y0, y1, y2, y3, y4, y5, y6, y7]) (x0 x1 x2 x3 x4 x5 x6 x7 : Value) :
    Blk (Go.Proofs.Ytplfijhianmohaa.put8 w g x0 x1 x2 x3 x4 x5 x6 x7) g t #[x0, x1, x2, x3, x4, x5, x6, x7] := by
  have := (((((((h.set 0 x0).set 1 x1).set 2 x2).set 3 x3).set 4 x4).set 5 x5).set 6 x6).set 7 x7
  simpa [Go.Proofs.Ytplfijhianmohaa.put8] using this
theorem Keep.put8 (w : World) (g : Nat) (x0 x1 x2 x3 x4 x5 x6 x7 : Value) : Keep [g] w (Go.Proofs.Ytplfijhianmohaa.put8 w g x0 x1 x2 x3 x4 x5 x6 x7) :=
  (((((((((Keep.refl [g] w).setCell (p := ⟨g, 0, none⟩) (.inl (by simp)) _).setCell (p := ⟨g, 1, none⟩) (.inl (by simp)) _).setCell (p := ⟨g, 2, none⟩) (.inl (by simp)) _).setCell (p := ⟨g, 3, none⟩) (.inl (by simp)) _).setCell (p := ⟨g, 4, none⟩) (.inl (by simp)) _).setCell (p := ⟨g, 5, none⟩) (.inl (by simp)) _).setCell (p := ⟨g, 6, none⟩) (.inl (by simp)) _).setCell (p := ⟨g, 7, none⟩) (.inl (by simp)) _)

set_option maxHeartbeats 8000000 in
set_option maxRecDepth 20000 in
theorem Of_yes (v s : Int) (k b c e : Int) (A : Option Addr) (n m : Nat) (xs : List UInt8) (w : World) (ha : Rd w A n (bys xs)) (hn : n ≤ 140737488355328) (hk : k ≠ 8 ∧ k ≠ 9) (hmay : FrMay k v s b c e 0 xs) :
    Calls Try.prog 35 #[.int .i64 v, .int .i64 s, .agg #[.int .i64 k, .int .i64 b, .int .i64 c, .int .i64 e, .slice A n m]] w fun r w' => ∃ u, r = .returned (.tuple #[.agg #[.int .i64 k, .int .i64 v, .int .i64 s, .int .i64 b, .int .i64 c, .int .i64 e, .int .i64 0, u], .bool true]) ∧
      w'.ownsRow w.heap.size 5 1 u n (bys xs) ∧ Keep [] w w' := by
  have hCl := fun W (hk : Keep [] w W) => Clone_any A n m xs W (ha.keep hk) hn
  have hbl := Blk.new w 58 #[.int .i64 k, .int .i64 b, .int .i64 c, .int .i64 e, .slice A n m]
  have hM := fun (B : Option Addr) (c' : Nat) W (hb : Rd W B n (bys xs)) => May_any k v s b c e 0 B n c' xs W hb
  rw [decide_eq_true hmay] at hM
  unfold frv at hM
  have hk8 : (k == 8) = false := by simpa using hk.1
  have hk9 : (k == 9) = false := by simpa using hk.2
  clear hk
  go_enter Try.func35, Try.ntmps35
  go_wp2
  have hbA := hbl.alloc (.cells #[.int .i64 0, .int .i64 0, .int .i64 0, .int .i64 0, .int .i64 0, .int .i64 0, .int .i64 0, .slice none 0 0] 54)
  have hkA : Keep [] w ((w.alloc (.cells #[.int .i64 k, .int .i64 b, .int .i64 c, .int .i64 e, .slice A n m] 58)).alloc (.cells #[.int .i64 0, .int .i64 0, .int .i64 0, .int .i64 0, .int .i64 0, .int .i64 0, .int .i64 0, .slice none 0 0] 54)) := ((Keep.refl _ _).alloc _).alloc _
  have hsz : w.heap.size + 2 ≤ ((w.alloc (.cells #[.int .i64 k, .int .i64 b, .int .i64 c, .int .i64 e, .slice A n m] 58)).alloc (.cells #[.int .i64 0, .int .i64 0, .int .i64 0, .int .i64 0, .int .i64 0, .int .i64 0, .int .i64 0, .slice none 0 0] 54)).heap.size := by simp
  have hz6 := Blk.new (w.alloc (.cells #[.int .i64 k, .int .i64 b, .int .i64 c, .int .i64 e, .slice A n m] 58)) 54 #[.int .i64 0, .int .i64 0, .int .i64 0, .int .i64 0, .int .i64 0, .int .i64 0, .int .i64 0, .slice none 0 0]
  rw [show (w.alloc (.cells #[.int .i64 k, .int .i64 b, .int .i64 c, .int .i64 e, .slice A n m] 58)).heap.size = w.heap.size + 1 by simp] at hz6
  generalize (w.alloc (.cells #[.int .i64 k, .int .i64 b, .int .i64 c, .int .i64 e, .slice A n m] 58)).alloc _ = W at *
  clear hbl
  obtain ⟨c0, c1, c2, c3, c4⟩ := op_cells hbA
  refine wp_region_rt (fun w' => Keep [] W w' ∧ w'.cell? ⟨w.heap.size, 0, none⟩ = some (.int .i64 k) ∧ w'.cell? ⟨w.heap.size, 1, none⟩ = some (.int .i64 b) ∧ w'.cell? ⟨w.heap.size, 2, none⟩ = some (.int .i64 c) ∧ w'.cell? ⟨w.heap.size, 3, none⟩ = some (.int .i64 e) ∧ w'.cell? ⟨w.heap.size, 4, none⟩ = some (.slice A n m)) 15 (.held 0 (.held 1 (.held 2 (.held 3 (.held 4 (.held 5 (.held 6 (.held 7 (.held 8 (.held 9 (.held 10 (.held 11 (.two 12 (.held 13 (.loud 14 .nil)) 14 (.loud 12 (.held 13 .nil)))))))))))))))
    (by kernel_rfl) (by kernel_rfl) (fun _ _ d _ _ h => by cases d <;> exact h) ⟨(Keep.refl _ _).drew, c0, c1, c2, c3, c4⟩ ?_
  simp only [RT.pick, List.getElem?_cons_zero, List.getElem?_cons_succ, List.drop_succ_cons, List.drop_zero]
  iterate 12 (refine wpR_held ?_ (by rfl) ?_ ?_; rotate_left; (focus (intro W hW; obtain ⟨hW0, hW1, hW2, hW3, hW4, hW5⟩ := hW; go_simp; first | done | with_reducible rfl)); simp only [Act.put, List.setIfInBounds_toArray, List.set_cons_zero, List.set_cons_succ])
  refine wpR_two ?_ ?_
  · refine wpR_loud (by rfl) (fun K hK => ?_)
    go_wp2_with (refine (hCl _ hkA.drew).mono ?_; rintro r w2 ⟨u, rfl, hu, hk2, _⟩; obtain ⟨UA, uc, rfl, _⟩ := own_form hu)
    replace hk2 : Keep [] W w2 := (Keep.refl _ _).drew.trans0 hk2
    have hb2 := hbA.keep0 hk2
    obtain ⟨d0, d1, d2, d3, d4⟩ := op_cells hb2
    refine hK _ _ (⟨hk2, d0, d1, d2, d3, d4⟩) ?_
    clear hK K
    try simp only [Act.put, List.setIfInBounds_toArray, List.set_cons_zero, List.set_cons_succ]
    iterate 1 (refine wpR_held ?_ (by rfl) ?_ ?_; rotate_left; (focus (intro W hW; obtain ⟨hW0, hW1, hW2, hW3, hW4, hW5⟩ := hW; go_simp; first | done | with_reducible rfl)); simp only [Act.put, List.setIfInBounds_toArray, List.set_cons_zero, List.set_cons_succ])
    refine wpR_loud (by rfl) (fun K hK => ?_)
    go_wp2_with fail
    have hk2A : Keep [] W (w2.alloc (.cells #[.int .i64 0, .int .i64 0, .int .i64 0, .int .i64 0, .int .i64 0, .int .i64 0, .int .i64 0, .slice none 0 0] 54)) := hk2.alloc _
    obtain ⟨e0, e1, e2, e3, e4⟩ := op_cells (hbA.keep0 hk2A)
    refine hK _ _ (⟨hk2A, e0, e1, e2, e3, e4⟩) ?_
    clear hK K
    try simp only [Act.put, List.setIfInBounds_toArray, List.set_cons_zero, List.set_cons_succ]
    refine wpR_nil ?_
    have hF := Blk.new w2 54 #[.int .i64 k, .int .i64 v, .int .i64 s, .int .i64 b, .int .i64 c, .int .i64 e, .int .i64 0, .slice UA n uc]
    have hM1 := hM UA uc _ ((Rd.of_own hu).keep ((Keep.refl _ _).alloc (.cells #[.int .i64 k, .int .i64 v, .int .i64 s, .int .i64 b, .int .i64 c, .int .i64 e, .int .i64 0, .slice UA n uc] 54)))
    clear c0 c1 c2 c3 c4 d0 d1 d2 d3 d4 e0 e1 e2 e3 e4
    go_wp2_with (
      (refine hM1.mono ?_)
      rintro r w3 ⟨rfl, hk3⟩
      obtain ⟨f0, f1, f2, f3, f4, f5, f6, f7⟩ := frame_cells (hF.keep0 hk3)
      have hz := hz6.keep0 ((hk2.alloc _).trans0 hk3)
      obtain ⟨z0, z1, z2, z3, z4, z5, z6, z7⟩ := frame_cells hz
      have q0 := hz.frozen 0
      have q1 := hz.frozen 1
      have q2 := hz.frozen 2
      have q3 := hz.frozen 3
      have q4 := hz.frozen 4
      have q5 := hz.frozen 5
      have q6 := hz.frozen 6
      have q7 := hz.frozen 7)
    have h8 := hz.put8 (.int .i64 k) (.int .i64 v) (.int .i64 s) (.int .i64 b) (.int .i64 c) (.int .i64 e) (.int .i64 0) (.slice UA n uc)
    have hk8' := Keep.put8 w3 (w.heap.size + 1) (.int .i64 k) (.int .i64 v) (.int .i64 s) (.int .i64 b) (.int .i64 c) (.int .i64 e) (.int .i64 0) (.slice UA n uc)
    unfold put8 at h8 hk8'
    obtain ⟨g0, g1, g2, g3, g4, g5, g6, g7⟩ := frame_cells h8
    have hkw : Keep [] w w3 := (hkA.trans0 hk2).trans0 (((Keep.refl _ _).alloc _).trans0 hk3)
    refine bodyPost_ret (v := .tuple #[.agg #[.int .i64 k, .int .i64 v, .int .i64 s, .int .i64 b, .int .i64 c, .int .i64 e, .int .i64 0, .slice UA n uc], .bool true]) (by simp [results, Try.results35, go_sem, g0, g1, g2, g3, g4, g5, g6, g7]) rfl ⟨_, rfl, ?_, hkw.trans hk8' (fun x hx => .inr (by simp at hx; omega))⟩
    refine own_keep (own_keep0 (own_base hu (by simp; omega)) (((Keep.refl _ _).alloc _).trans0 hk3)) hk8' (fun g hg hm => ?_)
    have h1 := (own_mem hu (g := g) (by simpa using hg)).1
    simp at hm h1
    omega
  · refine wpR_loud (by rfl) (fun K hK => ?_)
    go_wp2_with fail
    have hkAA : Keep [] W (W.alloc (.cells #[.int .i64 0, .int .i64 0, .int .i64 0, .int .i64 0, .int .i64 0, .int .i64 0, .int .i64 0, .slice none 0 0] 54)).drew := ((Keep.refl [] W).alloc _).drew
    obtain ⟨e0, e1, e2, e3, e4⟩ := op_cells (hbA.keep0 hkAA)
    have hz8 := (Blk.new W 54 #[.int .i64 0, .int .i64 0, .int .i64 0, .int .i64 0, .int .i64 0, .int .i64 0, .int .i64 0, .slice none 0 0]).drew
    refine hK _ _ (⟨hkAA, e0, e1, e2, e3, e4⟩) ?_
    clear hK K
    try simp only [Act.put, List.setIfInBounds_toArray, List.set_cons_zero, List.set_cons_succ]
    refine wpR_loud (by rfl) (fun K hK => ?_)
    go_wp2_with (refine (hCl _ (hkA.trans0 hkAA)).mono ?_; rintro r w2 ⟨u, rfl, hu, hk2, _⟩; obtain ⟨UA, uc, rfl, _⟩ := own_form hu)
    have hkW2 : Keep [] W w2 := hkAA.trans0 hk2
    obtain ⟨d0, d1, d2, d3, d4⟩ := op_cells (hbA.keep0 hkW2)
    refine hK _ _ (⟨hkW2, d0, d1, d2, d3, d4⟩) ?_
    clear hK K
    try simp only [Act.put, List.setIfInBounds_toArray, List.set_cons_zero, List.set_cons_succ]
    iterate 1 (refine wpR_held ?_ (by rfl) ?_ ?_; rotate_left; (focus (intro W hW; obtain ⟨hW0, hW1, hW2, hW3, hW4, hW5⟩ := hW; go_simp; first | done | with_reducible rfl)); simp only [Act.put, List.setIfInBounds_toArray, List.set_cons_zero, List.set_cons_succ])
    refine wpR_nil ?_
    have hz9 := hz8.keep0 hk2
    have hz9l := hz9.lt
    obtain ⟨y0, y1, y2, y3, y4, y5, y6, y7⟩ := frame_cells hz9
    have p0 := hz9.frozen 0
    have p1 := hz9.frozen 1
    have p2 := hz9.frozen 2
    have p3 := hz9.frozen 3
    have p4 := hz9.frozen 4
    have p5 := hz9.frozen 5
    have p6 := hz9.frozen 6
    have p7 := hz9.frozen 7
    have hF := hz9.put8 (.int .i64 k) (.int .i64 v) (.int .i64 s) (.int .i64 b) (.int .i64 c) (.int .i64 e) (.int .i64 0) (.slice UA n uc)
    have hkX := Keep.put8 w2 W.heap.size (.int .i64 k) (.int .i64 v) (.int .i64 s) (.int .i64 b) (.int .i64 c) (.int .i64 e) (.int .i64 0) (.slice UA n uc)
    have huX := own_keep hu hkX (fun g hg hm => by
      have h1 := (own_mem hu (g := g) (by simpa using hg)).1
      simp at hm h1
      omega)
    have hzX := (hz6.keep0 hkW2).keep hkX (by have := hz6.lt; simp; omega)
    have hM1 := hM UA uc _ (Rd.of_own huX)
    unfold put8 at hF hkX huX hzX hM1
    clear c0 c1 c2 c3 c4 d0 d1 d2 d3 d4 e0 e1 e2 e3 e4
    go_wp2_with (
      (refine hM1.mono ?_)
      rintro r w3 ⟨rfl, hk3⟩
      obtain ⟨f0, f1, f2, f3, f4, f5, f6, f7⟩ := frame_cells (hF.keep0 hk3)
      clear y0 y1 y2 y3 y4 y5 y6 y7 p0 p1 p2 p3 p4 p5 p6 p7
      have hz := hzX.keep0 hk3
      obtain ⟨z0, z1, z2, z3, z4, z5, z6, z7⟩ := frame_cells hz
      have q0 := hz.frozen 0
      have q1 := hz.frozen 1
      have q2 := hz.frozen 2
      have q3 := hz.frozen 3
      have q4 := hz.frozen 4
      have q5 := hz.frozen 5
      have q6 := hz.frozen 6
      have q7 := hz.frozen 7)
    have h8 := hz.put8 (.int .i64 k) (.int .i64 v) (.int .i64 s) (.int .i64 b) (.int .i64 c) (.int .i64 e) (.int .i64 0) (.slice UA n uc)
    have hk8' := Keep.put8 w3 (w.heap.size + 1) (.int .i64 k) (.int .i64 v) (.int .i64 s) (.int .i64 b) (.int .i64 c) (.int .i64 e) (.int .i64 0) (.slice UA n uc)
    unfold put8 at h8 hk8'
    obtain ⟨g0, g1, g2, g3, g4, g5, g6, g7⟩ := frame_cells h8
    have hkw : Keep [] w w3 := (((hkA.trans0 hkW2).trans hkX (fun x hx => .inr (by simp at hx; omega))).trans0 hk3)
    refine bodyPost_ret (v := .tuple #[.agg #[.int .i64 k, .int .i64 v, .int .i64 s, .int .i64 b, .int .i64 c, .int .i64 e, .int .i64 0, .slice UA n uc], .bool true]) (by simp [results, Try.results35, go_sem, g0, g1, g2, g3, g4, g5, g6, g7]) rfl ⟨_, rfl, ?_, hkw.trans hk8' (fun x hx => .inr (by simp at hx; omega))⟩
    refine own_keep (own_keep0 (own_base huX (by simp; omega)) hk3) hk8' (fun g hg hm => ?_)
    have h1 := (own_mem hu (g := g) (by simpa using hg)).1
    simp at hm h1
    omega
set_option maxHeartbeats 8000000 in
set_option maxRecDepth 20000 in
theorem Of_no (v s : Int) (k b c e : Int) (A : Option Addr) (n m : Nat) (xs : List UInt8) (w : World) (ha : Rd w A n (bys xs)) (hn : n ≤ 140737488355328) (hmay : ¬ FrMay k v s b c e 0 xs) :
    Calls Try.prog 35 #[.int .i64 v, .int .i64 s, .agg #[.int .i64 k, .int .i64 b, .int .i64 c, .int .i64 e, .slice A n m]] w fun r w' => r = .returned (.tuple #[.agg #[.int .i64 0, .int .i64 0, .int .i64 0, .int .i64 0, .int .i64 0, .int .i64 0, .int .i64 0, .slice none 0 0], .bool false]) ∧ Keep [] w w' := by
  have hCl := fun W (hk : Keep [] w W) => Clone_any A n m xs W (ha.keep hk) hn
  have hbl := Blk.new w 58 #[.int .i64 k, .int .i64 b, .int .i64 c, .int .i64 e, .slice A n m]
  have hM := fun (B : Option Addr) (c' : Nat) W (hb : Rd W B n (bys xs)) => May_any k v s b c e 0 B n c' xs W hb
  rw [decide_eq_false hmay] at hM
  unfold frv at hM
  go_enter Try.func35, Try.ntmps35
  go_wp2
  have hbA := hbl.alloc (.cells #[.int .i64 0, .int .i64 0, .int .i64 0, .int .i64 0, .int .i64 0, .int .i64 0, .int .i64 0, .slice none 0 0] 54)
  have hkA : Keep [] w ((w.alloc (.cells #[.int .i64 k, .int .i64 b, .int .i64 c, .int .i64 e, .slice A n m] 58)).alloc (.cells #[.int .i64 0, .int .i64 0, .int .i64 0, .int .i64 0, .int .i64 0, .int .i64 0, .int .i64 0, .slice none 0 0] 54)) := ((Keep.refl _ _).alloc _).alloc _
  have hsz : w.heap.size + 2 ≤ ((w.alloc (.cells #[.int .i64 k, .int .i64 b, .int .i64 c, .int .i64 e, .slice A n m] 58)).alloc (.cells #[.int .i64 0, .int .i64 0, .int .i64 0, .int .i64 0, .int .i64 0, .int .i64 0, .int .i64 0, .slice none 0 0] 54)).heap.size := by simp
  have hz6 := Blk.new (w.alloc (.cells #[.int .i64 k, .int .i64 b, .int .i64 c, .int .i64 e, .slice A n m] 58)) 54 #[.int .i64 0, .int .i64 0, .int .i64 0, .int .i64 0, .int .i64 0, .int .i64 0, .int .i64 0, .slice none 0 0]
  rw [show (w.alloc (.cells #[.int .i64 k, .int .i64 b, .int .i64 c, .int .i64 e, .slice A n m] 58)).heap.size = w.heap.size + 1 by simp] at hz6
  generalize (w.alloc (.cells #[.int .i64 k, .int .i64 b, .int .i64 c, .int .i64 e, .slice A n m] 58)).alloc _ = W at *
  clear hbl
  obtain ⟨c0, c1, c2, c3, c4⟩ := op_cells hbA
  refine wp_region_rt (fun w' => Keep [] W w' ∧ w'.cell? ⟨w.heap.size, 0, none⟩ = some (.int .i64 k) ∧ w'.cell? ⟨w.heap.size, 1, none⟩ = some (.int .i64 b) ∧ w'.cell? ⟨w.heap.size, 2, none⟩ = some (.int .i64 c) ∧ w'.cell? ⟨w.heap.size, 3, none⟩ = some (.int .i64 e) ∧ w'.cell? ⟨w.heap.size, 4, none⟩ = some (.slice A n m)) 15 (.held 0 (.held 1 (.held 2 (.held 3 (.held 4 (.held 5 (.held 6 (.held 7 (.held 8 (.held 9 (.held 10 (.held 11 (.two 12 (.held 13 (.loud 14 .nil)) 14 (.loud 12 (.held 13 .nil)))))))))))))))
    (by kernel_rfl) (by kernel_rfl) (fun _ _ d _ _ h => by cases d <;> exact h) ⟨(Keep.refl _ _).drew, c0, c1, c2, c3, c4⟩ ?_
  simp only [RT.pick, List.getElem?_cons_zero, List.getElem?_cons_succ, List.drop_succ_cons, List.drop_zero]
  iterate 12 (refine wpR_held ?_ (by rfl) ?_ ?_; rotate_left; (focus (intro W hW; obtain ⟨hW0, hW1, hW2, hW3, hW4, hW5⟩ := hW; go_simp; first | done | with_reducible rfl)); simp only [Act.put, List.setIfInBounds_toArray, List.set_cons_zero, List.set_cons_succ])
  refine wpR_two ?_ ?_
  · refine wpR_loud (by rfl) (fun K hK => ?_)
    go_wp2_with (refine (hCl _ hkA.drew).mono ?_; rintro r w2 ⟨u, rfl, hu, hk2, _⟩; obtain ⟨UA, uc, rfl, _⟩ := own_form hu)
    replace hk2 : Keep [] W w2 := (Keep.refl _ _).drew.trans0 hk2
    have hb2 := hbA.keep0 hk2
    obtain ⟨d0, d1, d2, d3, d4⟩ := op_cells hb2
    refine hK _ _ (⟨hk2, d0, d1, d2, d3, d4⟩) ?_
    clear hK K
    try simp only [Act.put, List.setIfInBounds_toArray, List.set_cons_zero, List.set_cons_succ]
    iterate 1 (refine wpR_held ?_ (by rfl) ?_ ?_; rotate_left; (focus (intro W hW; obtain ⟨hW0, hW1, hW2, hW3, hW4, hW5⟩ := hW; go_simp; first | done | with_reducible rfl)); simp only [Act.put, List.setIfInBounds_toArray, List.set_cons_zero, List.set_cons_succ])
    refine wpR_loud (by rfl) (fun K hK => ?_)
    go_wp2_with fail
    have hk2A : Keep [] W (w2.alloc (.cells #[.int .i64 0, .int .i64 0, .int .i64 0, .int .i64 0, .int .i64 0, .int .i64 0, .int .i64 0, .slice none 0 0] 54)) := hk2.alloc _
    obtain ⟨e0, e1, e2, e3, e4⟩ := op_cells (hbA.keep0 hk2A)
    refine hK _ _ (⟨hk2A, e0, e1, e2, e3, e4⟩) ?_
    clear hK K
    try simp only [Act.put, List.setIfInBounds_toArray, List.set_cons_zero, List.set_cons_succ]
    refine wpR_nil ?_
    have hF := Blk.new w2 54 #[.int .i64 k, .int .i64 v, .int .i64 s, .int .i64 b, .int .i64 c, .int .i64 e, .int .i64 0, .slice UA n uc]
    have hM1 := hM UA uc _ ((Rd.of_own hu).keep ((Keep.refl _ _).alloc (.cells #[.int .i64 k, .int .i64 v, .int .i64 s, .int .i64 b, .int .i64 c, .int .i64 e, .int .i64 0, .slice UA n uc] 54)))
    clear c0 c1 c2 c3 c4 d0 d1 d2 d3 d4 e0 e1 e2 e3 e4
    go_wp2_with (
      (refine hM1.mono ?_)
      rintro r w3 ⟨rfl, hk3⟩
      obtain ⟨f0, f1, f2, f3, f4, f5, f6, f7⟩ := frame_cells (hF.keep0 hk3)
      have hz := hz6.keep0 ((hk2.alloc _).trans0 hk3)
      obtain ⟨z0, z1, z2, z3, z4, z5, z6, z7⟩ := frame_cells hz
      have q0 := hz.frozen 0
      have q1 := hz.frozen 1
      have q2 := hz.frozen 2
      have q3 := hz.frozen 3
      have q4 := hz.frozen 4
      have q5 := hz.frozen 5
      have q6 := hz.frozen 6
      have q7 := hz.frozen 7)
    have h8 := hz.put8 (.int .i64 0) (.int .i64 0) (.int .i64 0) (.int .i64 0) (.int .i64 0) (.int .i64 0) (.int .i64 0) (.slice none 0 0)
    have hk8' := Keep.put8 w3 (w.heap.size + 1) (.int .i64 0) (.int .i64 0) (.int .i64 0) (.int .i64 0) (.int .i64 0) (.int .i64 0) (.int .i64 0) (.slice none 0 0)
    unfold put8 at h8 hk8'
    obtain ⟨g0, g1, g2, g3, g4, g5, g6, g7⟩ := frame_cells h8
    have hkw : Keep [] w w3 := (hkA.trans0 hk2).trans0 (((Keep.refl _ _).alloc _).trans0 hk3)
    exact bodyPost_ret (v := .tuple #[.agg #[.int .i64 0, .int .i64 0, .int .i64 0, .int .i64 0, .int .i64 0, .int .i64 0, .int .i64 0, .slice none 0 0], .bool false]) (by simp [results, Try.results35, go_sem, g0, g1, g2, g3, g4, g5, g6, g7]) rfl ⟨rfl, hkw.trans hk8' (fun x hx => .inr (by simp at hx; omega))⟩
  · refine wpR_loud (by rfl) (fun K hK => ?_)
    go_wp2_with fail
    have hkAA : Keep [] W (W.alloc (.cells #[.int .i64 0, .int .i64 0, .int .i64 0, .int .i64 0, .int .i64 0, .int .i64 0, .int .i64 0, .slice none 0 0] 54)).drew := ((Keep.refl [] W).alloc _).drew
    obtain ⟨e0, e1, e2, e3, e4⟩ := op_cells (hbA.keep0 hkAA)
    have hz8 := (Blk.new W 54 #[.int .i64 0, .int .i64 0, .int .i64 0, .int .i64 0, .int .i64 0, .int .i64 0, .int .i64 0, .slice none 0 0]).drew
    refine hK _ _ (⟨hkAA, e0, e1, e2, e3, e4⟩) ?_
    clear hK K
    try simp only [Act.put, List.setIfInBounds_toArray, List.set_cons_zero, List.set_cons_succ]
    refine wpR_loud (by rfl) (fun K hK => ?_)
    go_wp2_with (refine (hCl _ (hkA.trans0 hkAA)).mono ?_; rintro r w2 ⟨u, rfl, hu, hk2, _⟩; obtain ⟨UA, uc, rfl, _⟩ := own_form hu)
    have hkW2 : Keep [] W w2 := hkAA.trans0 hk2
    obtain ⟨d0, d1, d2, d3, d4⟩ := op_cells (hbA.keep0 hkW2)
    refine hK _ _ (⟨hkW2, d0, d1, d2, d3, d4⟩) ?_
    clear hK K
    try simp only [Act.put, List.setIfInBounds_toArray, List.set_cons_zero, List.set_cons_succ]
    iterate 1 (refine wpR_held ?_ (by rfl) ?_ ?_; rotate_left; (focus (intro W hW; obtain ⟨hW0, hW1, hW2, hW3, hW4, hW5⟩ := hW; go_simp; first | done | with_reducible rfl)); simp only [Act.put, List.setIfInBounds_toArray, List.set_cons_zero, List.set_cons_succ])
    refine wpR_nil ?_
    have hz9 := hz8.keep0 hk2
    have hz9l := hz9.lt
    obtain ⟨y0, y1, y2, y3, y4, y5, y6, y7⟩ := frame_cells hz9
    have p0 := hz9.frozen 0
    have p1 := hz9.frozen 1
    have p2 := hz9.frozen 2
    have p3 := hz9.frozen 3
    have p4 := hz9.frozen 4
    have p5 := hz9.frozen 5
    have p6 := hz9.frozen 6
    have p7 := hz9.frozen 7
    have hF := hz9.put8 (.int .i64 k) (.int .i64 v) (.int .i64 s) (.int .i64 b) (.int .i64 c) (.int .i64 e) (.int .i64 0) (.slice UA n uc)
    have hkX := Keep.put8 w2 W.heap.size (.int .i64 k) (.int .i64 v) (.int .i64 s) (.int .i64 b) (.int .i64 c) (.int .i64 e) (.int .i64 0) (.slice UA n uc)
    have huX := own_keep hu hkX (fun g hg hm => by
      have h1 := (own_mem hu (g := g) (by simpa using hg)).1
      simp at hm h1
      omega)
    have hzX := (hz6.keep0 hkW2).keep hkX (by have := hz6.lt; simp; omega)
    have hM1 := hM UA uc _ (Rd.of_own huX)
    unfold put8 at hF hkX huX hzX hM1
    clear c0 c1 c2 c3 c4 d0 d1 d2 d3 d4 e0 e1 e2 e3 e4
    go_wp2_with (
      (refine hM1.mono ?_)
      rintro r w3 ⟨rfl, hk3⟩
      obtain ⟨f0, f1, f2, f3, f4, f5, f6, f7⟩ := frame_cells (hF.keep0 hk3)
      clear y0 y1 y2 y3 y4 y5 y6 y7 p0 p1 p2 p3 p4 p5 p6 p7
      have hz := hzX.keep0 hk3
      obtain ⟨z0, z1, z2, z3, z4, z5, z6, z7⟩ := frame_cells hz
      have q0 := hz.frozen 0
      have q1 := hz.frozen 1
      have q2 := hz.frozen 2
      have q3 := hz.frozen 3
      have q4 := hz.frozen 4
      have q5 := hz.frozen 5
      have q6 := hz.frozen 6
      have q7 := hz.frozen 7)
    have h8 := hz.put8 (.int .i64 0) (.int .i64 0) (.int .i64 0) (.int .i64 0) (.int .i64 0) (.int .i64 0) (.int .i64 0) (.slice none 0 0)
    have hk8' := Keep.put8 w3 (w.heap.size + 1) (.int .i64 0) (.int .i64 0) (.int .i64 0) (.int .i64 0) (.int .i64 0) (.int .i64 0) (.int .i64 0) (.slice none 0 0)
    unfold put8 at h8 hk8'
    obtain ⟨g0, g1, g2, g3, g4, g5, g6, g7⟩ := frame_cells h8
    have hkw : Keep [] w w3 := (((hkA.trans0 hkW2).trans hkX (fun x hx => .inr (by simp at hx; omega))).trans0 hk3)
    exact bodyPost_ret (v := .tuple #[.agg #[.int .i64 0, .int .i64 0, .int .i64 0, .int .i64 0, .int .i64 0, .int .i64 0, .int .i64 0, .slice none 0 0], .bool false]) (by simp [results, Try.results35, go_sem, g0, g1, g2, g3, g4, g5, g6, g7]) rfl ⟨rfl, hkw.trans hk8' (fun x hx => .inr (by simp at hx; omega))⟩
end Go.Proofs.Ytplfijhianmohaa
