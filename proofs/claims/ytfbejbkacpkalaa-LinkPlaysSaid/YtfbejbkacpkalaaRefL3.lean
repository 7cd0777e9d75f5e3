/-
  Contract of the reference's Spoil.
-/
import Derived.Test.YtfbejbkacpkalaaRefL2
namespace Go.Proofs.Ytfbejbkacpkalaa
open Go.RowKit

theorem RSpoil_no (w0 w : World) (b s : Nat) (Lv Sv : Value) (ms : List (Value × List UInt8)) (h : Rf w0 w b Lv Sv ms s) (i bit : Int) (hi : ¬ (0 ≤ i ∧ i < ms.length)) :
    Calls Try.prog 22 #[.pointer (some ⟨b, 0, none⟩), .int .i64 i, .int .i64 bit] w fun e w' => e = .returned (.bool false) ∧ w = w' := by
  have hT := there_any w0 w b s Lv Sv ms h i
  rw [decide_eq_false hi] at hT
  go_enter Try.func22, Try.ntmps22
  go_wp2_with (refine hT.mono ?_; clear hT; rintro e w' ⟨rfl, rfl⟩)
  go_ret
  exact ⟨rfl, rfl⟩

theorem RSpoil_nil (w0 w : World) (b s : Nat) (Lv Sv : Value) (ms : List (Value × List UInt8)) (h : Rf w0 w b Lv Sv ms s) (i : Nat) (bit : Int) (hi : i < ms.length) (hno : ms[i].2.length = 0 ∨ bit < 0) :
    Calls Try.prog 22 #[.pointer (some ⟨b, 0, none⟩), .int .i64 (i : Nat), .int .i64 bit] w fun e w' => e = .returned (.bool false) ∧ w = w' := by
  have hT := there_any w0 w b s Lv Sv ms h (i : Nat)
  rw [decide_eq_true (by omega)] at hT
  obtain ⟨g, c, PA, pc, rfl, hnc, hc63, hcg, hpf⟩ := h.at_ hi
  rw [hpf] at hcg
  have hcb : w.cell? ⟨b, 0, none⟩ = some (.slice (some ⟨g, 0, none⟩) ms.length c) := by simpa using h.blk.cell 0
  have hsm := h.small _ (List.getElem_mem hi)
  clear hpf
  generalize ms[i].2.length = m at *
  clear h
  generalize ms.length = n at hi hcb hnc
  rcases hno with hno | hno
  · subst hno
    go_enter Try.func22, Try.ntmps22
    go_wp2_with (refine hT.mono ?_; clear hT; rintro e w' ⟨rfl, rfl⟩)
    go_ret
    exact ⟨rfl, rfl⟩
  · by_cases hm0 : (m : Int) = 0
    all_goals
      go_enter Try.func22, Try.ntmps22
      go_wp2_with (refine hT.mono ?_; clear hT; rintro e w' ⟨rfl, rfl⟩)
      go_ret
      exact ⟨rfl, rfl⟩

theorem own_setAt {w : World} {base g n c : Nat} {e : TypeId} {xs : List Value} (h : w.ownsRow base e 1 (.slice (some ⟨g, 0, none⟩) n c) n xs) (i : Nat) (u : Value) : (w.setCell ⟨g, i, none⟩ u).ownsRow base e 1 (.slice (some ⟨g, 0, none⟩) n c) n (xs.set i u) := by
  rcases h.2 with ⟨he, _⟩ | ⟨g', cap, cur, he, hb, hg, hn, hm, hs, ht⟩
  · cases he
  · cases he
    refine own_of_blk (Blk.set (t := e) hg i u) hb hn hm (by simpa using hs) ?_
    rw [Array.toList_setIfInBounds, List.take_set, show cur.toList.take n = xs by simpa using ht]

/-- the i-th frame is given a row made anew -/
theorem Rf.setAt {w0 w w1 : World} {b s g n c i : Nat} {Sv u : Value} {ms : List (Value × List UInt8)} {bs : List UInt8} (h : Rf w0 w b (.slice (some ⟨g, 0, none⟩) n c) Sv ms s) (hn : ms.length = n) (hk : Keep [] w w1)
    (hu : w1.ownsRow w.heap.size 5 1 u bs.length (bys bs)) (hs : bs.length ≤ 140737488355328) :
    Rf w0 (w1.setCell ⟨g, i, none⟩ u) b (.slice (some ⟨g, 0, none⟩) n c) Sv (ms.set i (u, bs)) s ∧ Keep [g] w (w1.setCell ⟨g, i, none⟩ u) ∧ Grow w (Rf.rp b (.slice (some ⟨g, 0, none⟩) n c) Sv ms) (Rf.rp b (.slice (some ⟨g, 0, none⟩) n c) Sv (ms.set i (u, bs))) := by
  have h1 := h.keep0 hk
  obtain ⟨ss, hss⟩ := h1.sent
  have hsz := h.keep.size
  have hgb : g ≠ b := fun e => h.b_row (by simp [Value.ownBlock, e])
  have hgn : w0.heap.size ≤ g := (own_mem h.row (g := g) (by simp [Value.ownBlock])).1
  have hgl : g < w.heap.size := (own_mem h.row (g := g) (by simp [Value.ownBlock])).2
  have hun : ∀ y ∈ u.ownBlock.toList, w.heap.size ≤ y := fun y hy => (own_mem hu hy).1
  have hrow := h1.row
  rw [hn] at hrow
  have hk2 : Keep [g] w (w1.setCell ⟨g, i, none⟩ u) := (hk.mono (m := [g]) (by simp)).setCell (.inl (by simp)) _
  refine ⟨⟨?_, ?_, ⟨ss, own_set hss (fun hm => h1.apart g rfl (by simpa using hm)) _⟩, fun p hp => ?_, fun p hp => ?_, h1.apart, by rw [List.length_set]; exact h.few, h.new, (h.keep.trans0 hk).setCell (.inr hgn) _⟩, hk2, fun y hy => ?_⟩
  · exact h1.blk.far (Ne.symm hgb) _
  · rw [List.length_set, hn, List.map_set]
    exact own_setAt hrow i u
  · rcases List.mem_or_eq_of_mem_set hp with hp | rfl
    · exact own_set (h1.own p hp) (fun hm => own_ne (h1.own p hp) h1.row (by decide) (by simpa using hm) (by simp [Value.ownBlock])) _
    · exact own_set (own_base hu hsz) (fun hm => by have := hun g hm; omega) _
  · rcases List.mem_or_eq_of_mem_set hp with hp | rfl
    · exact h.small p hp
    · exact hs
  · simp only [Rf.rp, List.mem_cons, List.mem_append, List.mem_filterMap] at hy ⊢
    rcases hy with hy | hy | hy | ⟨p, hp, hy⟩
    · exact .inl (.inl hy)
    · exact .inl (.inr (.inl hy))
    · exact .inl (.inr (.inr (.inl hy)))
    · rcases List.mem_or_eq_of_mem_set hp with hp | rfl
      · exact .inl (.inr (.inr (.inr ⟨p, hp, hy⟩)))
      · exact .inr (hun y (by simp [hy]))

set_option maxHeartbeats 4000000 in
theorem RSpoil_in (w0 w : World) (b s : Nat) (Lv Sv : Value) (ms : List (Value × List UInt8)) (h : Rf w0 w b Lv Sv ms s) (i n : Nat) (bit : Int) (u : Value) (bs : List UInt8) (hn : ms.length = n) (hi : i < n) (hub : ms[i]'(by omega) = (u, bs)) (hm0 : 0 < bs.length) (hb0 : 0 ≤ bit) (hb63 : bit ≤ 9223372036854775807) :
    Calls Try.prog 22 #[.pointer (some ⟨b, 0, none⟩), .int .i64 (i : Nat), .int .i64 bit] w fun e w' => ∃ u', e = .returned (.bool true) ∧ Rf w0 w' b Lv Sv (ms.set i (u', flipAt bs (bit % (8 * bs.length)).toNat)) s ∧ Keep Lv.ownBlock.toList w w' ∧
      Grow w (Rf.rp b Lv Sv ms) (Rf.rp b Lv Sv (ms.set i (u', flipAt bs (bit % (8 * bs.length)).toNat))) := by
  have hT := there_any w0 w b s Lv Sv ms h (i : Nat)
  rw [decide_eq_true (by omega)] at hT
  obtain ⟨g, c, PA, pc, rfl, hnc, hc63, hcg, hpf⟩ := h.at_ (i := i) (by omega)
  have hul : (u, bs) ∈ ms := by rw [← hub]; exact List.getElem_mem _
  have hsm := h.small _ hul
  have hup := Rd.of_own (c := pc) (A := PA) (by have := h.own _ hul; rw [hub] at hpf; simp only at hpf; rw [hpf] at this; exact this)
  have hpc : bs.length ≤ pc := by
    obtain ⟨A, c', hv, h2, _⟩ := own_form (h.own _ hul)
    rw [hub] at hpf
    simp only at hpf hv
    rw [hpf] at hv
    injection hv with _ _ h3
    simp only at h2
    omega
  have hcb : w.cell? ⟨b, 0, none⟩ = some (.slice (some ⟨g, 0, none⟩) ms.length c) := by simpa using h.blk.cell 0
  have hbl := h.blk.lt
  rw [hn] at hcb hnc
  rw [hub] at hcg hpf
  simp only at hcg hpf hsm hup
  subst hpf
  have hgl : g < w.heap.size := (own_mem h.row (g := g) (by simp [Value.ownBlock])).2
  have hfg : w.frozen? ⟨g, i, none⟩ = false := by
    rcases h.row.2 with ⟨he, _⟩ | ⟨g', cap, cur, he, _, hg, _⟩
    · cases he
    · cases he; exact Blk.frozen (t := 28) hg i
  obtain ⟨K, hK, hK8⟩ : ∃ K : Nat, bit % (8 * (bs.length : Int)) = (K : Int) ∧ K < 8 * bs.length :=
    ⟨(bit % (8 * (bs.length : Int))).toNat, by have := Int.emod_nonneg bit (b := 8 * (bs.length : Int)) (by omega); omega, by have := Int.emod_lt_of_pos bit (b := 8 * (bs.length : Int)) (by omega); have := Int.emod_nonneg bit (b := 8 * (bs.length : Int)) (by omega); omega⟩
  have ht : bit.tmod (8 * (bs.length : Int)) = (K : Int) := by rw [Int.tmod_eq_emod_of_nonneg hb0]; exact hK
  rw [hK, Int.toNat_natCast]
  obtain ⟨y, hy⟩ : ∃ y, y = bs.getD (K / 8) 0 := ⟨_, rfl⟩
  obtain ⟨m, hm⟩ : ∃ m, m = bs.length := ⟨_, rfl⟩
  have hTP := Part_any PA bs.length pc bs 0 (bs.length : Nat) w.drew hup.drew (by omega) (by omega) (by omega) hpc hsm
  simp only [Int.sub_zero, Int.toNat_natCast, Int.toNat_zero, List.drop_zero, List.take_length] at hTP
  have HSM := hide hsm
  rw [← hm] at hsm hm0 ht hK8 hcg hpc hTP
  have hw8 : IntKind.i64.wrap (8 * (m : Int)) = 8 * (m : Int) := by rw [IntKind.wrap_i64]; omega
  have hm8 : ¬ (8 * (m : Int) = 0) := by omega
  have hmz : (((m : Nat) : Int) == 0) = false := by rw [beq_eq_false_iff_ne]; omega
  obtain ⟨q, hq⟩ : ∃ q, q = K / 8 := ⟨_, rfl⟩
  obtain ⟨r, hr⟩ : ∃ r, r = K % 8 := ⟨_, rfl⟩
  have hqm : q < m := by omega
  have hr8 : r < 8 := by omega
  rw [← hq] at hy
  have HY := hide hy
  have HN := hide hn
  have HM := hide hm
  have HQ := hide hq
  have HR := hide hr
  clear hy hn hm hub hK hul hq hr
  go_enter Try.func22, Try.ntmps22
  go_wp2_with (refine hT.mono ?_; clear hT; rintro e w' ⟨rfl, rfl⟩)
  refine wp_region_ht (fun w' => w'.cell? ⟨b, 0, none⟩ = some (.slice (some ⟨g, 0, none⟩) n c) ∧ w'.cell? ⟨g, i, none⟩ = some (.slice PA m pc)) 15 [(0, false), (1, false), (2, false), (3, false), (4, false), (5, false), (6, false), (7, false), (8, false), (9, false), (10, false), (11, false), (12, false), (13, false), (14, false)]
    (by kernel_rfl) (by kernel_rfl) (fun _ _ d _ _ h => by cases d <;> exact h) ⟨hcb, hcg⟩ ?_
  simp only [picked, List.filterMap_cons, List.filterMap_nil, List.getElem?_cons_zero, List.getElem?_cons_succ, Option.map_some, List.drop_succ_cons, List.drop_zero]
  iterate 15 (refine wpT_held ?_ (by rfl) ?_ ?_; rotate_left; (focus (intro W hW; obtain ⟨hW1, hW2⟩ := hW; go_simp; first | done | with_reducible rfl)); simp only [Act.put, List.setIfInBounds_toArray, List.set_cons_zero, List.set_cons_succ])
  refine wpT_nil ?_
  go_wp2_with (
      (refine hTP.mono ?_)
      (clear hTP)
      (rintro e w1 ⟨u1, rfl, hu1, hk1⟩)
      obtain ⟨ug, uc, rfl⟩ : ∃ ug uc, u1 = .slice (some ⟨ug, 0, none⟩) m uc := (by
        rcases hu1.2 with ⟨_, h0⟩ | ⟨ug, cap, cur, he, _⟩
        · omega
        · exact ⟨ug, cap, he⟩))
  have hk1w : Keep [] w w1 := (Keep.refl [] w).drew.trans0 hk1
  have hug : w.heap.size ≤ ug := (own_mem hu1 (g := ug) (by simp [Value.ownBlock])).1
  have hu1' : w1.ownsRow w.heap.size 5 1 (.slice (some ⟨ug, 0, none⟩) m uc) m (bys bs) := hu1
  have hcy : w1.cell? ⟨ug, q, none⟩ = some (.int .u8 (y.toNat : Nat)) := by
    rcases hu1'.2 with ⟨he, _⟩ | ⟨ug', cap, cur, he, _, hg, _, _, hs, ht⟩
    · cases he
    · cases he
      rw [Blk.cell (t := 5) hg]
      have h2 : (cur.toList.take (m * 1))[q]? = some (by8 y) := by
        have hql : q < bs.length := by have := unhide HM; omega
        rw [ht, unhide HY]; simp [bys, hql]
      rw [List.getElem?_take_of_lt (by omega)] at h2
      simpa [by8] using h2
  have hfu : w1.frozen? ⟨ug, q, none⟩ = false := by
    rcases hu1'.2 with ⟨he, _⟩ | ⟨ug', cap, cur, he, _, hg, _⟩
    · cases he
    · cases he; exact Blk.frozen (t := 5) hg q
  have hcb1 := (hk1w.cell hbl (by simp) 0).trans hcb
  have hcg1 := (hk1w.cell hgl (by simp) i).trans hcg
  have hfg1 := (hk1w.frozen hgl (by simp) i).trans hfg
  have hp : IntKind.u8.wrap ((2 : Int) ^ r) = ((1 <<< (UInt8.ofNat r) : UInt8).toNat : Nat) := by
    rcases r with _ | _ | _ | _ | _ | _ | _ | _ | r <;> first | rfl | decide | omega
  obtain ⟨p, hp1⟩ : ∃ p : UInt8, p = 1 <<< (UInt8.ofNat r) := ⟨_, rfl⟩
  rw [← hp1] at hp
  have HP := hide hp1
  obtain ⟨z, hz⟩ : ∃ z : UInt8, z = y ^^^ p := ⟨_, rfl⟩
  have hx : bits BinOp.xor IntKind.u8 (y.toNat : Nat) (p.toNat : Nat) = (z.toNat : Nat) := by rw [hz]; exact xor_u8 y p
  have HZ := hide hz
  clear hp1 hz
  have hbug : b ≠ ug := by omega
  have hgug : g ≠ ug := by omega
  have hcb2 : (w1.setCell ⟨ug, q, none⟩ (.int .u8 (z.toNat : Nat))).cell? ⟨b, 0, none⟩ = some (.slice (some ⟨g, 0, none⟩) n c) := (((Keep.refl [ug] w1).setCell (.inl (by simp)) _).cell (hk1w.lt hbl) (by simpa using hbug) 0).trans hcb1
  have hcg2 : (w1.setCell ⟨ug, q, none⟩ (.int .u8 (z.toNat : Nat))).cell? ⟨g, i, none⟩ = some (.slice PA m pc) := (((Keep.refl [ug] w1).setCell (.inl (by simp)) _).cell (hk1w.lt hgl) (by simpa using hgug) i).trans hcg1
  have HU := hide hu1'
  clear hu1 hu1' hbug hgug
  refine wp_region_ht (fun w' => w'.cell? ⟨ug, q, none⟩ = some (.int .u8 (y.toNat : Nat))) 12 [(0, false), (1, false), (2, false), (3, false), (4, false), (5, false), (6, false), (7, false), (8, false), (9, false), (10, false), (11, false)]
    (by kernel_rfl) (by kernel_rfl) (fun _ _ d _ _ h => by cases d <;> exact h) hcy ?_
  simp only [picked, List.filterMap_cons, List.filterMap_nil, List.getElem?_cons_zero, List.getElem?_cons_succ, Option.map_some, List.drop_succ_cons, List.drop_zero]
  iterate 2 (refine wpT_held ?_ (by rfl) ?_ ?_; rotate_left; (focus (intro W hW; go_simp; first | done | with_reducible rfl)); simp only [Act.put, List.setIfInBounds_toArray, List.set_cons_zero, List.set_cons_succ])
  refine wpT_held (.int .i64 (q : Nat)) (by rfl) (fun W _ => by go_simp; rw [IntKind.wrap_i64]; have := unhide HQ; omega) ?_
  simp only [Act.put, List.setIfInBounds_toArray, List.set_cons_zero, List.set_cons_succ]
  iterate 2 (refine wpT_held ?_ (by rfl) ?_ ?_; rotate_left; (focus (intro W hW; go_simp; first | done | with_reducible rfl)); simp only [Act.put, List.setIfInBounds_toArray, List.set_cons_zero, List.set_cons_succ])
  refine wpT_held (.int .i64 (q : Nat)) (by rfl) (fun W _ => by go_simp; rw [IntKind.wrap_i64]; have := unhide HQ; omega) ?_
  simp only [Act.put, List.setIfInBounds_toArray, List.set_cons_zero, List.set_cons_succ]
  iterate 3 (refine wpT_held ?_ (by rfl) ?_ ?_; rotate_left; (focus (intro W hW; go_simp; first | done | with_reducible rfl)); simp only [Act.put, List.setIfInBounds_toArray, List.set_cons_zero, List.set_cons_succ])
  refine wpT_held (.int .i64 (r : Nat)) (by rfl) (fun W _ => by go_simp; rw [Int.tmod_eq_emod_of_nonneg (by omega)]; have := unhide HR; omega) ?_
  simp only [Act.put, List.setIfInBounds_toArray, List.set_cons_zero, List.set_cons_succ]
  refine wpT_held (.int .u8 (p.toNat : Nat)) (by rfl) (fun W _ => by go_simp) ?_
  simp only [Act.put, List.setIfInBounds_toArray, List.set_cons_zero, List.set_cons_succ]
  refine wpT_held (.int .u8 (z.toNat : Nat)) (by rfl) (fun W _ => by go_simp) ?_
  simp only [Act.put, List.setIfInBounds_toArray, List.set_cons_zero, List.set_cons_succ]
  refine wpT_nil ?_
  go_wp2
  go_ret
  have em := unhide HM
  subst em
  have hf : flipAt bs K = bs.set q z := by
    unfold flipAt
    rw [unhide HZ, unhide HP, ← unhide HQ, ← unhide HR, ← unhide HY]
  rw [hf]
  have hu2 : (w1.setCell ⟨ug, q, none⟩ (.int .u8 (z.toNat : Nat))).ownsRow w.heap.size 5 1 (.slice (some ⟨ug, 0, none⟩) bs.length uc) (bs.set q z).length (bys (bs.set q z)) := by
    rw [List.length_set]
    have := own_setAt (unhide HU) q (by8 z)
    rwa [show (bys bs).set q (by8 z) = bys (bs.set q z) by simp [bys]] at this
  obtain ⟨h2, h3, h4⟩ := h.setAt (i := i) rfl (hk1w.setCell (.inr hug) (.int .u8 (z.toNat : Nat))) hu2 (by rw [List.length_set]; exact unhide HSM)
  exact ⟨_, rfl, h2.keep0 (Keep.refl _ _).drew, h3.drew, h4⟩
end Go.Proofs.Ytfbejbkacpkalaa
