/-
  Contract of the reference's Double.
-/
import Derived.Test.YtfbejbkacpkalaaRefL
namespace Go.Proofs.Ytfbejbkacpkalaa
open Go.RowKit

theorem RDouble_no (w0 w : World) (b s : Nat) (Lv Sv : Value) (ms : List (Value × List UInt8)) (h : Rf w0 w b Lv Sv ms s) (i : Int) (hi : ¬ (0 ≤ i ∧ i < ms.length) ∨ ms.length = 64) :
    Calls Try.prog 20 #[.pointer (some ⟨b, 0, none⟩), .int .i64 i] w fun e w' => e = .returned (.bool false) ∧ w = w' := by
  have hT := there_any w0 w b s Lv Sv ms h i
  have hcb : w.cell? ⟨b, 0, none⟩ = some Lv := by simpa using h.blk.cell 0
  by_cases hh : 0 ≤ i ∧ i < ms.length
  · have h64 : ms.length = 64 := hi.resolve_left (fun h => h hh)
    obtain ⟨A, c, rfl, _⟩ := own_form h.row
    rw [decide_eq_true hh] at hT
    rw [h64] at hcb
    go_enter Try.func20, Try.ntmps20
    go_wp2_with (refine hT.mono ?_; clear hT; rintro e w' ⟨rfl, rfl⟩)
    go_ret
    exact ⟨rfl, rfl⟩
  · rw [decide_eq_false hh] at hT
    go_enter Try.func20, Try.ntmps20
    go_wp2_with (refine hT.mono ?_; clear hT; rintro e w' ⟨rfl, rfl⟩)
    go_ret
    exact ⟨rfl, rfl⟩

set_option maxHeartbeats 2000000 in
theorem RDouble_in (w0 w : World) (b s : Nat) (Lv Sv : Value) (ms : List (Value × List UInt8)) (h : Rf w0 w b Lv Sv ms s) (i n : Nat) (u : Value) (bs : List UInt8) (hn : ms.length = n) (hi : i < n) (hub : ms[i]'(by omega) = (u, bs)) (hfew : n < 64) :
    Calls Try.prog 20 #[.pointer (some ⟨b, 0, none⟩), .int .i64 (i : Nat)] w fun e w' => ∃ v' u', e = .returned (.bool true) ∧ Rf w0 w' b v' Sv (doubled i ms (u', bs)) s ∧ Keep [b] w w' ∧ Grow w (Rf.rp b Lv Sv ms) (Rf.rp b v' Sv (doubled i ms (u', bs))) := by
  have hT := there_any w0 w b s Lv Sv ms h (i : Nat)
  rw [decide_eq_true (by omega)] at hT
  obtain ⟨g, c, PA, pc, rfl, hnc, hc63, hcg, hpf⟩ := h.at_ (i := i) (by omega)
  have hul : (u, bs) ∈ ms := by rw [← hub]; exact List.getElem_mem _
  have hsm := h.small _ hul
  have hup := Rd.of_own (c := pc) (A := PA) (by have := h.own _ hul; rw [hub] at hpf; simp only at hpf; rw [hpf] at this; exact this)
  have hpc : bs.length ≤ pc := by
    obtain ⟨A, c', hv, h2, _⟩ := own_form (h.own _ hul)
    rw [hub] at hpf
    simp only at hpf hv
    rw [hpf] at hv
    injection hv with _ _ h3
    simp only at h2
    omega
  have h1c := h.one
  have hcb : w.cell? ⟨b, 0, none⟩ = some (.slice (some ⟨g, 0, none⟩) ms.length c) := by simpa using h.blk.cell 0
  have hfb := h.blk.frozen 0
  have hbl := h.blk.lt
  have hrd := Rd.of_own h.row
  rw [hn] at hcb hnc hrd
  rw [hub] at hcg hpf
  simp only at hcg hpf hsm hup
  subst hpf
  have hgl : g < w.heap.size := (own_mem h.row (g := g) (by simp [Value.ownBlock])).2
  have hw1 : IntKind.i64.wrap ((i : Nat) + 1 : Int) = ((i + 1 : Nat) : Int) := by rw [IntKind.wrap_i64]; omega
  have HN := hide hn
  clear hub hul hn
  go_enter Try.func20, Try.ntmps20
  go_wp2_with (refine hT.mono ?_; clear hT; rintro e w' ⟨rfl, rfl⟩)
  refine wp_region_ht (fun w' => w'.cell? ⟨b, 0, none⟩ = some (.slice (some ⟨g, 0, none⟩) n c) ∧ w'.cell? ⟨g, i, none⟩ = some (.slice PA bs.length pc)) 15 [(0, false), (1, false), (2, false), (3, false), (4, false), (5, false), (6, false), (7, false), (8, false), (9, false), (10, false), (11, false), (12, false), (13, false), (14, false)]
    (by kernel_rfl) (by kernel_rfl) (fun _ _ d _ _ h => by cases d <;> exact h) ⟨hcb, hcg⟩ ?_
  simp only [picked, List.filterMap_cons, List.filterMap_nil, List.getElem?_cons_zero, List.getElem?_cons_succ, Option.map_some, List.drop_succ_cons, List.drop_zero]
  iterate 15 (refine wpT_held ?_ (by rfl) ?_ ?_; rotate_left; (focus (intro W hW; obtain ⟨hW1, hW2⟩ := hW; go_simp; first | done | with_reducible rfl)); simp only [Act.put, List.setIfInBounds_toArray, List.set_cons_zero, List.set_cons_succ])
  refine wpT_nil ?_
  have hTP := Part_any PA bs.length pc bs 0 (bs.length : Nat) w.drew hup.drew (by omega) (by omega) (by omega) hpc hsm
  simp only [Int.sub_zero, Int.toNat_natCast, Int.toNat_zero, List.drop_zero, List.take_length] at hTP
  go_wp2_with (first
    | (at_builtin; refine elemRows.wp_app rfl _ _ rfl w.heap.size _ 0 [] rfl (unhide HOA) (some ⟨g, 0, none⟩) (i + 1) c ((ms.map (·.1)).take (i + 1)) rfl ((hrd.keep hkA).take (by omega)) (fun y hy => h1c y (List.mem_of_mem_take hy)) (by omega) (by omega) hkA.size ?_)
    | (
      (refine hTP.mono ?_)
      (clear hTP)
      (rintro e w1 ⟨u1, rfl, hu1, hk1⟩)
      obtain ⟨UA, uc, rfl, _⟩ := own_form hu1
      have hk1w : Keep [] w w1 := (Keep.refl [] w).drew.trans0 hk1
      have hkA : Keep [] w (w1.alloc (.cells #[] 28)) := hk1w.alloc _
      have hcbA := (hkA.cell hbl (by simp) 0).trans hcb
      have hic : ((i : Nat) : Int) + 1 ≤ (c : Nat) := by omega
      have hsz1 := hk1w.size
      have hoA : (w1.alloc (.cells #[] 28)).ownsRow w.heap.size 28 1 (.slice (some ⟨w1.heap.size, 0, none⟩) 0 0) 0 [] := own_of_blk (Blk.new w1 28 #[]) hsz1 (by omega) (by omega) rfl rfl
      have HOA := hide hoA
      clear hoA))
  intro v2 w2 hv2 hk2 _ _
  have hkB := hkA.more (unhide HOA) (Nat.le_refl _) hk2
  have hu2 : w2.ownsRow w.heap.size 5 1 (.slice UA bs.length uc) bs.length (bys bs) := own_keep (own_base (own_alloc hu1 _) (Nat.le_refl _)) hk2 (fun y hy hm => own_ne (own_alloc hu1 (.cells #[] 28)) (unhide HOA) (by decide) hy (by simpa using hm))
  obtain ⟨VA, vc, rfl, _⟩ := own_form hv2
  have hcbB := (hkB.cell hbl (by simp) 0).trans hcb
  clear hk2
  go_wp2_with (at_builtin; refine elemRows.wp_app rfl _ _ rfl w.heap.size _ (i + 1) ((ms.map (·.1)).take (i + 1)) rfl (own_alloc hv2 _) _ 1 1 [_] rfl (rd_new1 _ _ _) (by simp [Value.oneCell']) (by omega) (by omega) (by have := hkB.size; simp; omega) ?_)
  intro v3 w3 hv3 hk3 _ _
  have hkC := hkB.one_more hv2 (Nat.le_refl _) hk3
  have hu3 : w3.ownsRow w.heap.size 5 1 (.slice UA bs.length uc) bs.length (bys bs) := own_keep (own_alloc hu2 _) hk3 (fun y hy hm => own_ne hu2 hv2 (by decide) hy (by simpa using hm))
  obtain ⟨VB, vd, rfl, _⟩ := own_form hv3
  have hcbC := (hkC.cell hbl (by simp) 0).trans hcb
  have hic1 : ((i : Nat) : Int) + 1 ≤ (n : Nat) := by omega
  clear hk3
  have htn : (((i : Nat) : Int) + 1).toNat = i + 1 := by omega
  have hsl : ∀ W, (Instr.sliceAt 34 (.slice (some ⟨g, 0, none⟩) n c) (some (.int .i64 (((i : Nat) : Int) + 1))) none none).run Try.prog W = .ok (.slice (cutA (some ⟨g, 0, none⟩) (i + 1) c) (n - (i + 1)) (c - (i + 1))) W := fun W => by
    have := elemRows.run_l (some ⟨g, 0, none⟩) n c .i64 (((i : Nat) : Int) + 1) (by omega) (by omega) W
    rwa [htn] at this
  have HSL := hide hsl
  clear hsl htn
  go_wp2_with (first
    | (refine wp_slice_of (by rfl) (.tmp 52) (some (.tmp 54)) none (by rfl) (.slice (cutA (some ⟨g, 0, none⟩) (i + 1) c) (n - (i + 1)) (c - (i + 1))) ?hs ?_; (case hs => exact unhide HSL))
    | (at_builtin; refine elemRows.wp_app rfl _ _ rfl w.heap.size _ (i + 1 + 1) _ rfl hv3 (cutA (some ⟨g, 0, none⟩) (i + 1) c) (n - (i + 1)) (c - (i + 1)) ((ms.map (·.1)).drop (i + 1)) rfl ((hrd.keep hkC).cutA (by omega) hnc) (fun y hy => h1c y (List.mem_of_mem_drop hy)) (by omega) (by omega) hkC.size ?_))
  intro v4 w4 hv4 hk4 _ _
  have hkD := hkC.more hv3 (Nat.le_refl _) hk4
  have hu4 : w4.ownsRow w.heap.size 5 1 (.slice UA bs.length uc) bs.length (bys bs) := own_keep hu3 hk4 (fun y hy hm => own_ne hu3 hv3 (by decide) hy (by simpa using hm))
  have hsum : i + 1 + 1 + (n - (i + 1)) = n + 1 := by omega
  rw [hsum] at hv4
  obtain ⟨VC, ve, rfl, _⟩ := own_form hv4
  have hcbD := (hkD.cell hbl (by simp) 0).trans hcb
  have hfbD := (hkD.frozen hbl (by simp) 0).trans hfb
  have HV := hide hv4
  clear hk4 hv4 hv3 hv2 hsum
  go_wp2
  go_ret
  have hle : (doubled i ms (.slice UA bs.length uc, bs)).length = n + 1 := by rw [length_doubled _ _ _ (by have := unhide HN; omega), unhide HN]
  have hmap : (doubled i ms (.slice UA bs.length uc, bs)).map (·.1) = (ms.map (·.1)).take (i + 1) ++ .slice UA bs.length uc :: (ms.map (·.1)).drop (i + 1) := doubled_map _ _ _ _
  have hmem : ∀ p ∈ doubled i ms (.slice UA bs.length uc, bs), p ∈ ms ∨ p = (.slice UA bs.length uc, bs) := by
    intro p hp
    unfold doubled at hp
    rcases List.mem_append.1 hp with hp | hp
    · exact .inl (List.mem_of_mem_take hp)
    · rcases List.mem_cons.1 hp with hp | hp
      · exact .inr hp
      · exact .inl (List.mem_of_mem_drop hp)
  obtain ⟨h2, h3, h4⟩ := h.setL (v' := .slice VC (n + 1) ve) (ms' := doubled i ms (.slice UA bs.length uc, bs)) hkD (by rw [hle, hmap]; exact unhide HV)
    (fun p hp => (hmem p hp).imp id (fun e => by rw [e]; exact ⟨hu4, hsm⟩)) (by omega)
  exact ⟨_, _, rfl, h2, h3, h4⟩
end Go.Proofs.Ytfbejbkacpkalaa
