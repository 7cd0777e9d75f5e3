/-
  The reference's link (keelsonref22.Link): its form in the world; contracts of there and Take.
-/
import Derived.Test.YtfbejbkacpkalaaLinkTW
namespace Go.Proofs.Ytfbejbkacpkalaa
open Go.RowKit

def Rf.rp (b : Nat) (Lv Sv : Value) (ms : List (Value × List UInt8)) : List Nat := b :: (Lv.ownBlock.toList ++ (Sv.ownBlock.toList ++ ms.filterMap (·.1.ownBlock)))
/-- The reference's link at block b: the row of its frames, the row of what was sent. -/
structure Rf (w0 w : World) (b : Nat) (Lv Sv : Value) (ms : List (Value × List UInt8)) (s : Nat) : Prop where
  blk : Blk w b 45 #[Lv, Sv]
  row : w.ownsRow w0.heap.size 28 1 Lv ms.length (ms.map (·.1))
  sent : ∃ ss, w.ownsRow w0.heap.size 28 1 Sv s ss
  own : ∀ p ∈ ms, w.ownsRow w0.heap.size 5 1 p.1 p.2.length (bys p.2)
  small : ∀ p ∈ ms, p.2.length ≤ 140737488355328
  apart : ∀ g, Lv.ownBlock = some g → Sv.ownBlock ≠ some g
  few : ms.length ≤ 64
  new : w0.heap.size ≤ b
  keep : Keep [] w0 w
namespace Rf
variable {w0 w w' w1 : World} {b s : Nat} {Lv Sv : Value} {ms : List (Value × List UInt8)}
theorem same (h : Rf w0 w b Lv Sv ms s) (hs : ∀ g ∈ Rf.rp b Lv Sv ms, w'.heap[g]? = w.heap[g]?) (hk : Keep [] w0 w') : Rf w0 w' b Lv Sv ms s := by
  obtain ⟨ss, hss⟩ := h.sent
  refine ⟨(hs b (by simp [Rf.rp])).trans h.blk, own_same h.row fun g hg => hs g (by simp [Rf.rp, hg]), ⟨ss, own_same hss fun g hg => hs g (by simp [Rf.rp, hg])⟩, fun p hp => own_same (h.own p hp) fun g hg => hs g ?_, h.small, h.apart, h.few, h.new, hk⟩
  simp only [Rf.rp, List.mem_cons, List.mem_append, List.mem_filterMap]
  exact .inr (.inr (.inr ⟨p, hp, hg⟩))
theorem rp_lt (h : Rf w0 w b Lv Sv ms s) : ∀ g ∈ Rf.rp b Lv Sv ms, g < w.heap.size := by
  obtain ⟨ss, hss⟩ := h.sent
  intro g hg
  simp only [Rf.rp, List.mem_cons, List.mem_append, List.mem_filterMap] at hg
  rcases hg with rfl | hg | hg | ⟨p, hp, hg⟩
  · exact h.blk.lt
  · exact (own_mem h.row hg).2
  · exact (own_mem hss hg).2
  · exact (own_mem (h.own p hp) (by simp [hg])).2
theorem keep0 (h : Rf w0 w b Lv Sv ms s) (hk : Keep [] w w') : Rf w0 w' b Lv Sv ms s := h.same (fun g hg => hk.block g (h.rp_lt g hg) (by simp)) (h.keep.trans0 hk)
theorem b_row (h : Rf w0 w b Lv Sv ms s) : b ∉ Lv.ownBlock.toList := fun hm => own_blk_ne h.row h.blk (by decide) (by simpa using hm)
theorem b_sent (h : Rf w0 w b Lv Sv ms s) : b ∉ Sv.ownBlock.toList := fun hm => by
  obtain ⟨ss, hss⟩ := h.sent
  exact own_blk_ne hss h.blk (by decide) (by simpa using hm)
theorem b_own (h : Rf w0 w b Lv Sv ms s) {p : Value × List UInt8} (hp : p ∈ ms) : b ∉ p.1.ownBlock.toList := fun hm => own_blk_ne (h.own p hp) h.blk (by decide) (by simpa using hm)

/-- the field L is given a row made anew -/
theorem setL {v' : Value} {ms' : List (Value × List UInt8)} (h : Rf w0 w b Lv Sv ms s) (hk : Keep [] w w1) (hv : w1.ownsRow w.heap.size 28 1 v' ms'.length (ms'.map (·.1)))
    (hms : ∀ p ∈ ms', p ∈ ms ∨ (w1.ownsRow w.heap.size 5 1 p.1 p.2.length (bys p.2) ∧ p.2.length ≤ 140737488355328)) (hfew : ms'.length ≤ 64) :
    Rf w0 (w1.setCell ⟨b, 0, none⟩ v') b v' Sv ms' s ∧ Keep [b] w (w1.setCell ⟨b, 0, none⟩ v') ∧ Grow w (Rf.rp b Lv Sv ms) (Rf.rp b v' Sv ms') := by
  have h1 := h.keep0 hk
  obtain ⟨ss, hss⟩ := h1.sent
  have hsz := h.keep.size
  have hbl := h.blk.lt
  have hvn : ∀ g ∈ v'.ownBlock.toList, w.heap.size ≤ g := fun g hg => (own_mem hv hg).1
  have hbv : b ∉ v'.ownBlock.toList := fun hm => by have := hvn b hm; omega
  have hown : ∀ p ∈ ms', w1.ownsRow w0.heap.size 5 1 p.1 p.2.length (bys p.2) := fun p hp => by
    rcases hms p hp with h2 | h2
    · exact h1.own p h2
    · exact own_base h2.1 hsz
  refine ⟨⟨?_, own_set (own_base hv hsz) hbv _, ⟨ss, own_set hss h1.b_sent _⟩, fun p hp => own_set (hown p hp) (fun hm => own_blk_ne (hown p hp) h1.blk (by decide) (by simpa using hm)) _, fun p hp => ?_, fun g hg hs => ?_, hfew, h.new, (h.keep.trans0 hk).setCell (.inr h.new) _⟩,
    (hk.mono (m := [b]) (by simp)).setCell (.inl (by simp)) _, fun x hx => ?_⟩
  · have := h1.blk.set 0 v'
    simpa using this
  · rcases hms p hp with h2 | h2
    · exact h.small p h2
    · exact h2.2
  · have h3 := hvn g (by simp [hg])
    obtain ⟨ss0, hss0⟩ := h.sent
    have := (own_mem hss0 (g := g) (by simp [hs])).2
    omega
  · simp only [Rf.rp, List.mem_cons, List.mem_append, List.mem_filterMap] at hx ⊢
    rcases hx with hx | hx | hx | ⟨p, hp, hx⟩
    · exact .inl (.inl hx)
    · exact .inr (hvn x hx)
    · exact .inl (.inr (.inr (.inl hx)))
    · rcases hms p hp with h2 | h2
      · exact .inl (.inr (.inr (.inr ⟨p, h2, hx⟩)))
      · exact .inr (own_mem h2.1 (g := x) (by simp [hx])).1
end Rf

theorem Keep.more {w wr w' : World} {v : Value} {base n s : Nat} {e : TypeId} {xs : List Value} (h : Keep [] w wr) (hown : wr.ownsRow base e s v n xs) (hb : w.heap.size ≤ base) (hk : Keep v.ownBlock.toList wr w') : Keep [] w w' :=
  h.trans hk (fun x hx => .inr (Nat.le_trans hb (own_mem hown hx).1))

theorem there_any (w0 w : World) (b s : Nat) (Lv Sv : Value) (ms : List (Value × List UInt8)) (h : Rf w0 w b Lv Sv ms s) (i : Int) :
    Calls Try.prog 31 #[.pointer (some ⟨b, 0, none⟩), .int .i64 i] w fun e w' => e = .returned (.bool (decide (0 ≤ i ∧ i < ms.length))) ∧ w = w' := by
  have hc : w.cell? ⟨b, 0, none⟩ = some Lv := by simpa using h.blk.cell 0
  have hfew := h.few
  obtain ⟨A, c, rfl, _⟩ := own_form h.row
  go_enter Try.func31, Try.ntmps31
  have hT := Within_any i 0 ((ms.length : Nat) - 1) w
  go_wp2_with (refine hT.mono ?_; clear hT; rintro e w' ⟨rfl, rfl⟩)
  go_ret
  exact ⟨ret_bool (by rw [← Bool.decide_and]; exact decide_eq_decide.2 (by omega)), rfl⟩

theorem RTake_out (w0 w : World) (b s : Nat) (Lv Sv : Value) (ms : List (Value × List UInt8)) (h : Rf w0 w b Lv Sv ms s) (i : Int) (hi : ¬ (0 ≤ i ∧ i < ms.length)) :
    Calls Try.prog 19 #[.pointer (some ⟨b, 0, none⟩), .int .i64 i] w fun e w' => e = .returned (.tuple #[.slice none 0 0, .bool false]) ∧ w = w' := by
  have hT := there_any w0 w b s Lv Sv ms h i
  rw [decide_eq_false hi] at hT
  go_enter Try.func19, Try.ntmps19
  go_wp2_with (refine hT.mono ?_; clear hT; rintro e w' ⟨rfl, rfl⟩)
  go_ret2
  exact ⟨rfl, rfl⟩

theorem Rf.at_ {w0 w : World} {b s : Nat} {Lv Sv : Value} {ms : List (Value × List UInt8)} (h : Rf w0 w b Lv Sv ms s) {i : Nat} (hi : i < ms.length) :
    ∃ g c A cp, Lv = .slice (some ⟨g, 0, none⟩) ms.length c ∧ ms.length ≤ c ∧ c ≤ 9223372036854775807 ∧ w.cell? ⟨g, i, none⟩ = some ms[i].1 ∧ ms[i].1 = .slice A ms[i].2.length cp := by
  have hul : ms[i] ∈ ms := List.getElem_mem _
  obtain ⟨A, cp, hu', _⟩ := own_form (h.own _ hul)
  rcases h.row.2 with ⟨_, h0⟩ | ⟨g, c, cur, he, _, hg, hn', hc, hs, ht⟩
  · omega
  · refine ⟨g, c, A, cp, he, hn', hc, ?_, hu'⟩
    rw [Blk.cell (t := 28) hg]
    have h1 : (cur.toList.take (ms.length * 1))[i]? = some ms[i].1 := by rw [ht]; simp [hi]
    rw [List.getElem?_take_of_lt (by omega)] at h1
    simpa using h1
theorem Rf.one {w0 w : World} {b s : Nat} {Lv Sv : Value} {ms : List (Value × List UInt8)} (h : Rf w0 w b Lv Sv ms s) : ∀ y ∈ ms.map (·.1), y.oneCell' = true := by
  intro y hy
  obtain ⟨p, hp, rfl⟩ := List.mem_map.1 hy
  obtain ⟨A, c', e, _⟩ := own_form (h.own p hp)
  rw [e]; rfl

set_option maxHeartbeats 2000000 in
theorem RTake_in (w0 w : World) (b s : Nat) (Lv Sv : Value) (ms : List (Value × List UInt8)) (h : Rf w0 w b Lv Sv ms s) (i n : Nat) (u : Value) (bs : List UInt8) (hn : ms.length = n) (hi : i < n) (hub : ms[i]'(by omega) = (u, bs)) :
    Calls Try.prog 19 #[.pointer (some ⟨b, 0, none⟩), .int .i64 (i : Nat)] w fun e w' => ∃ v', e = .returned (.tuple #[u, .bool true]) ∧ Rf w0 w' b v' Sv (ms.eraseIdx i) s ∧ Keep [b] w w' ∧ Grow w (Rf.rp b Lv Sv ms) (Rf.rp b v' Sv (ms.eraseIdx i)) := by
  have hT := there_any w0 w b s Lv Sv ms h (i : Nat)
  rw [decide_eq_true (by omega)] at hT
  obtain ⟨g, c, PA, pc, rfl, hnc, hc63, hcg, hpf⟩ := h.at_ (i := i) (by omega)
  have hfew := h.few
  have h1c := h.one
  have hcb : w.cell? ⟨b, 0, none⟩ = some (.slice (some ⟨g, 0, none⟩) ms.length c) := by simpa using h.blk.cell 0
  have hfb := h.blk.frozen 0
  have hbl := h.blk.lt
  have hrd := Rd.of_own h.row
  rw [hn] at hcb hnc hfew hrd
  rw [hub] at hcg hpf
  simp only at hcg hpf
  subst hpf
  have hw1 : IntKind.i64.wrap ((i : Nat) + 1 : Int) = ((i + 1 : Nat) : Int) := by rw [IntKind.wrap_i64]; omega
  have HN := hide hn
  clear hub hn
  go_enter Try.func19, Try.ntmps19
  go_wp2_with (refine hT.mono ?_; clear hT; rintro e w' ⟨rfl, rfl⟩)
  refine wp_region_ht (fun w' => w'.cell? ⟨b, 0, none⟩ = some (.slice (some ⟨g, 0, none⟩) n c)) 17 [(0, false), (2, false), (3, false), (4, false), (5, false), (6, false), (7, false), (9, false), (10, false), (11, false), (12, false), (13, false), (14, false), (15, false), (1, true), (8, true), (16, true)]
    (by kernel_rfl) (by kernel_rfl) (fun _ _ d _ _ h => by cases d <;> exact h) hcb ?_
  simp only [picked, List.filterMap_cons, List.filterMap_nil, List.getElem?_cons_zero, List.getElem?_cons_succ, Option.map_some, List.drop_succ_cons, List.drop_zero]
  iterate 6 (refine wpT_held ?_ (by rfl) ?_ ?_; rotate_left; (focus (intro W hW; go_simp; first | done | with_reducible rfl)); simp only [Act.put, List.setIfInBounds_toArray, List.set_cons_zero, List.set_cons_succ])
  refine wpT_held (.slice (some ⟨g, 0, none⟩) i c) (by rfl) (fun W _ => exec_slice_of (.tmp 23) none (some (.tmp 24)) rfl _ (elemRows.run_h (some ⟨g, 0, none⟩) n c .i64 (i : Nat) (by omega) (by omega) W)) ?_
  simp only [Act.put, List.setIfInBounds_toArray, List.set_cons_zero, List.set_cons_succ]
  iterate 5 (refine wpT_held ?_ (by rfl) ?_ ?_; rotate_left; (focus (intro W hW; go_simp; first | done | with_reducible rfl)); simp only [Act.put, List.setIfInBounds_toArray, List.set_cons_zero, List.set_cons_succ])
  refine wpT_held (.int .i64 ((i + 1 : Nat) : Int)) (by rfl) (fun W _ => by go_simp) ?_
  simp only [Act.put, List.setIfInBounds_toArray, List.set_cons_zero, List.set_cons_succ]
  refine wpT_held (.slice (cutA (some ⟨g, 0, none⟩) (i + 1) c) (n - (i + 1)) (c - (i + 1))) (by rfl) (fun W _ => exec_slice_of (.tmp 30) (some (.tmp 32)) none rfl _ (elemRows.run_l (some ⟨g, 0, none⟩) n c .i64 ((i + 1 : Nat) : Int) (by omega) (by omega) W)) ?_
  simp only [Act.put, List.setIfInBounds_toArray, List.set_cons_zero, List.set_cons_succ]
  refine wpT_loud (by rfl) (fun K hK => ?_)
  go_wp2_with fail
  have hkA : Keep [] w (w.alloc (.cells #[] 28)).drew := ((Keep.refl [] w).alloc _).drew
  have hoA : (w.alloc (.cells #[] 28)).drew.ownsRow w.heap.size 28 1 (.slice (some ⟨w.heap.size, 0, none⟩) 0 0) 0 [] := own_of_blk (Blk.new w 28 #[]).drew (Nat.le_refl _) (by omega) (by omega) rfl rfl
  refine hK _ _ ((hkA.cell hbl (by simp) _).trans hcb) ?_
  clear hK K
  try simp only [Act.put, List.setIfInBounds_toArray, List.set_cons_zero, List.set_cons_succ]
  refine wpT_loud (by rfl) (fun K hK => ?_)
  refine elemRows.wp1_app (.tmp 19) (.tmp 25) (by rfl) w.heap.size _ 0 [] (by rfl) hoA (some ⟨g, 0, none⟩) i c ((ms.map (·.1)).take i) (by rfl) ((hrd.keep hkA).take (by omega)) (fun y hy => h1c y (List.mem_of_mem_take hy)) (by omega) (by omega) hkA.size ?_
  intro v2 w2 hv2 hk2 _ _
  have hkB := hkA.more hoA (Nat.le_refl _) hk2
  obtain ⟨VA, vc, rfl, _⟩ := own_form hv2
  refine hK _ _ ((hkB.cell hbl (by simp) _).trans hcb) ?_
  clear hK K hk2
  try simp only [Act.put, List.setIfInBounds_toArray, List.set_cons_zero, List.set_cons_succ]
  refine wpT_loud (by rfl) (fun K hK => ?_)
  refine elemRows.wp1_app (.tmp 26) (.tmp 33) (by rfl) w.heap.size _ (0 + i) _ (by rfl) hv2 (cutA (some ⟨g, 0, none⟩) (i + 1) c) (n - (i + 1)) (c - (i + 1)) ((ms.map (·.1)).drop (i + 1)) (by rfl) ((hrd.keep hkB).cutA (by omega) hnc) (fun y hy => h1c y (List.mem_of_mem_drop hy)) (by omega) (by omega) hkB.size ?_
  intro v3 w3 hv3 hk3 _ _
  have hkC := hkB.more hv2 (Nat.le_refl _) hk3
  obtain ⟨VB, vd, rfl, _⟩ := own_form hv3
  refine hK _ _ ((hkC.cell hbl (by simp) _).trans hcb) ?_
  clear hK K hk3
  try simp only [Act.put, List.setIfInBounds_toArray, List.set_cons_zero, List.set_cons_succ]
  refine wpT_nil ?_
  have hcb3 := (hkC.cell hbl (by simp) 0).trans hcb
  have hfb3 := (hkC.frozen hbl (by simp) 0).trans hfb
  have hlen : 0 + i + (n - (i + 1)) = n - 1 := by omega
  rw [hlen] at hv3 ⊢
  have HV := hide hv3
  clear hv3 hv2 hoA
  go_wp2
  go_ret2
  have hle : (ms.eraseIdx i).length = n - 1 := by rw [List.length_eraseIdx, if_pos (by have := unhide HN; omega), unhide HN]
  have hmap : (ms.eraseIdx i).map (·.1) = [] ++ (ms.map (·.1)).take i ++ (ms.map (·.1)).drop (i + 1) := by
    rw [← eraseIdx_map', List.eraseIdx_eq_take_drop_succ, List.nil_append]
  obtain ⟨h2, h3, h4⟩ := h.setL (v' := .slice VB (n - 1) vd) (ms' := ms.eraseIdx i) hkC (by rw [hle, hmap]; exact unhide HV) (fun p hp => .inl (List.mem_of_mem_eraseIdx hp)) (by omega)
  exact ⟨rfl, _, h2, h3, h4⟩
end Go.Proofs.Ytfbejbkacpkalaa
