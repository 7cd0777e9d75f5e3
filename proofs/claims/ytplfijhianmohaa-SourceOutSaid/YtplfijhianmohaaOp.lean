/-
  Contract of frame.Op.
-/
import Derived.Test.YtplfijhianmohaaFrame4
import Derived.Test.YtplfijhianmohaaOps
namespace Go.Proofs.Ytplfijhianmohaa
open Go.RowKit

def put5 (w : World) (g : Nat) (x0 x1 x2 x3 x4 : Value) : World :=
  ((((w.setCell ⟨g, 0, none⟩ x0).setCell ⟨g, 1, none⟩ x1).setCell ⟨g, 2, none⟩ x2).setCell ⟨g, 3, none⟩ x3).setCell ⟨g, 4, none⟩ x4
theorem Blk.put5 {w : World} {g : Nat} {t : TypeId} {y0 y1 y2 y3 y4 : Value} (h : Blk w g t #[y0, y1, y2, y3, y4]) (x0 x1 x2 x3 x4 : Value) : Blk (Go.Proofs.Ytplfijhianmohaa.put5 w g x0 x1 x2 x3 x4) g t #[x0, x1, x2, x3, x4] := by
  have := ((((h.set 0 x0).set 1 x1).set 2 x2).set 3 x3).set 4 x4
  simpa [Go.Proofs.Ytplfijhianmohaa.put5] using this
theorem Keep.put5 (w : World) (g : Nat) (x0 x1 x2 x3 x4 : Value) : Keep [g] w (Go.Proofs.Ytplfijhianmohaa.put5 w g x0 x1 x2 x3 x4) :=
  ((((((Keep.refl [g] w).setCell (p := ⟨g, 0, none⟩) (.inl (by simp)) _).setCell (p := ⟨g, 1, none⟩) (.inl (by simp)) _).setCell (p := ⟨g, 2, none⟩) (.inl (by simp)) _).setCell (p := ⟨g, 3, none⟩) (.inl (by simp)) _).setCell (p := ⟨g, 4, none⟩) (.inl (by simp)) _)

set_option maxHeartbeats 4000000 in
set_option maxRecDepth 20000 in
theorem Op_yes (k v s b c e d : Int) (A : Option Addr) (n m : Nat) (xs : List UInt8) (w : World) (ha : Rd w A n (bys xs)) (hn : n ≤ 140737488355328) (hk8 : k ≠ 8) (hk9 : k ≠ 9) (hmay : FrMay k v s b c e d xs) :
    Calls Try.prog 28 #[frv k v s b c e d (.slice A n m)] w fun r w' => ∃ u, r = .returned (.tuple #[.agg #[.int .i64 k, .int .i64 b, .int .i64 c, .int .i64 e, u], .bool true]) ∧
      w'.ownsRow w.heap.size 5 1 u n (bys xs) ∧ Keep [] w w' := by
  have hCl := fun W (hk : Keep [] w W) => Clone_any A n m xs W (ha.keep hk) hn
  have hM := fun W (hk : Keep [] w W) => May_any k v s b c e d A n m xs W (ha.keep hk)
  rw [decide_eq_true hmay] at hM
  unfold frv at hM
  unfold frv
  have hbl := Blk.new w 54 #[.int .i64 k, .int .i64 v, .int .i64 s, .int .i64 b, .int .i64 c, .int .i64 e, .int .i64 d, .slice A n m]
  have hbA := hbl.alloc (.cells #[.int .i64 0, .int .i64 0, .int .i64 0, .int .i64 0, .slice none 0 0] 58)
  have hz0 := Blk.new (w.alloc (.cells #[.int .i64 k, .int .i64 v, .int .i64 s, .int .i64 b, .int .i64 c, .int .i64 e, .int .i64 d, .slice A n m] 54)) 58 #[.int .i64 0, .int .i64 0, .int .i64 0, .int .i64 0, .slice none 0 0]
  rw [show (w.alloc (.cells #[.int .i64 k, .int .i64 v, .int .i64 s, .int .i64 b, .int .i64 c, .int .i64 e, .int .i64 d, .slice A n m] 54)).heap.size = w.heap.size + 1 by simp] at hz0
  have hkA : Keep [] w ((w.alloc (.cells #[.int .i64 k, .int .i64 v, .int .i64 s, .int .i64 b, .int .i64 c, .int .i64 e, .int .i64 d, .slice A n m] 54)).alloc (.cells #[.int .i64 0, .int .i64 0, .int .i64 0, .int .i64 0, .slice none 0 0] 58)) := ((Keep.refl _ _).alloc _).alloc _
  have hM1 := hM _ hkA
  have e8 : (k == 8) = false := by simpa using hk8
  have e9 : (k == 9) = false := by simpa using hk9
  clear hM hk8 hk9 hmay
  go_enter Try.func28, Try.ntmps28
  go_wp2_with (
    (refine hM1.mono ?_)
    clear hM1
    rintro r w2 ⟨rfl, hk2⟩
    have hB2 := hbA.keep0 hk2
    have hz2 := hz0.keep0 hk2
    have hkw2 := hkA.trans0 hk2
    obtain ⟨c0, c1, c2, c3, c4, c5, c6, c7⟩ := frame_cells hB2
    have hlt := hB2.lt)
  have hkD : Keep [] w2 w2.drew := (Keep.refl _ _).drew
  obtain ⟨d0, d1, d2, d3, d4, d5, d6, d7⟩ := frame_cells (hB2.keep0 hkD)
  clear c0 c1 c2 c3 c4 c5 c6 c7
  refine wp_region_ht (fun w' => w'.cell? ⟨w.heap.size, 0, none⟩ = some (.int .i64 k) ∧ w'.cell? ⟨w.heap.size, 3, none⟩ = some (.int .i64 b) ∧ w'.cell? ⟨w.heap.size, 4, none⟩ = some (.int .i64 c) ∧ w'.cell? ⟨w.heap.size, 5, none⟩ = some (.int .i64 e) ∧ w'.cell? ⟨w.heap.size, 7, none⟩ = some (.slice A n m)) 11 [(0, false), (1, false), (2, false), (3, false), (4, false), (5, false), (6, false), (7, false), (8, false), (9, false), (10, true)]
    (by kernel_rfl) (by kernel_rfl) (fun _ _ d _ _ h => by cases d <;> exact h) ⟨d0, d3, d4, d5, d7⟩ ?_
  simp only [picked, List.filterMap_cons, List.filterMap_nil, List.getElem?_cons_zero, List.getElem?_cons_succ, Option.map_some, List.drop_succ_cons, List.drop_zero]
  iterate 10 (refine wpT_held ?_ (by rfl) ?_ ?_; rotate_left; (focus (intro W hW; obtain ⟨hW1, hW2, hW3, hW4, hW5⟩ := hW; go_simp; first | done | with_reducible rfl)); simp only [Act.put, List.setIfInBounds_toArray, List.set_cons_zero, List.set_cons_succ])
  refine wpT_loud (by rfl) (fun K hK => ?_)
  have hC1 := hCl _ (hkw2.trans0 hkD)
  go_wp2_with (
    (refine hC1.mono ?_)
    clear hC1
    rintro r w3 ⟨u, rfl, hu, hk3, _⟩
    obtain ⟨UA, uc, rfl, _⟩ := own_form hu)
  replace hk3 : Keep [] w2 w3 := hkD.trans0 hk3
  obtain ⟨f0, f1, f2, f3, f4, f5, f6, f7⟩ := frame_cells (hB2.keep0 hk3)
  refine hK _ _ (⟨f0, f3, f4, f5, f7⟩) ?_
  clear hK K
  try simp only [Act.put, List.setIfInBounds_toArray, List.set_cons_zero, List.set_cons_succ]
  refine wpT_nil ?_
  have hz := hz2.keep0 hk3
  have hzl := hz.lt
  obtain ⟨z0, z1, z2, z3, z4⟩ := op_cells hz
  have q0 := hz.frozen 0
  have q1 := hz.frozen 1
  have q2 := hz.frozen 2
  have q3 := hz.frozen 3
  have q4 := hz.frozen 4
  clear hCl hbl hbA hz0 hkA
  go_wp2
  have h8 := hz.put5 (.int .i64 k) (.int .i64 b) (.int .i64 c) (.int .i64 e) (.slice UA n uc)
  have hk8' := Keep.put5 w3 (w.heap.size + 1) (.int .i64 k) (.int .i64 b) (.int .i64 c) (.int .i64 e) (.slice UA n uc)
  unfold put5 at h8 hk8'
  obtain ⟨g0, g1, g2, g3, g4⟩ := op_cells h8
  refine bodyPost_ret (v := .tuple #[.agg #[.int .i64 k, .int .i64 b, .int .i64 c, .int .i64 e, .slice UA n uc], .bool true]) (by simp [results, Try.results28, go_sem, g0, g1, g2, g3, g4]) rfl ⟨_, rfl, ?_, (hkw2.trans0 hk3).trans hk8' (fun x hx => .inr (by simp at hx; omega))⟩
  refine own_keep (own_base hu (by have := hkw2.size; simpa using this)) hk8' (fun g hg hm => ?_)
  have h1 := (own_mem hu (g := g) (by simpa using hg)).1
  have h2 := hz2.lt
  simp at hm h1
  omega
end Go.Proofs.Ytplfijhianmohaa
