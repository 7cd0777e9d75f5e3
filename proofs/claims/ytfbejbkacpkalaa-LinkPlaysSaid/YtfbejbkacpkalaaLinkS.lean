/-
  Contract of link.Link's Spoil, where there is a bit to turn.
-/
import Derived.Test.YtfbejbkacpkalaaLinkD
namespace Go.Proofs.Ytfbejbkacpkalaa
open Go.RowKit

theorem xor_u8 (y p : UInt8) : bits BinOp.xor IntKind.u8 (y.toNat : Nat) (p.toNat : Nat) = ((y ^^^ p).toNat : Nat) := by
  have h1 : (BitVec.ofInt 8 ((y.toNat : Nat) : Int)).toNat = y.toNat := by
    rw [BitVec.ofInt_natCast, BitVec.toNat_ofNat]; exact Nat.mod_eq_of_lt y.toNat_lt
  have h2 : (BitVec.ofInt 8 ((p.toNat : Nat) : Int)).toNat = p.toNat := by
    rw [BitVec.ofInt_natCast, BitVec.toNat_ofNat]; exact Nat.mod_eq_of_lt p.toNat_lt
  have h3 := (y ^^^ p).toNat_lt
  show IntKind.u8.wrap ((BitVec.ofInt 8 ((y.toNat : Nat) : Int) ^^^ BitVec.ofInt 8 ((p.toNat : Nat) : Int)).toNat : Int) = _
  rw [BitVec.toNat_xor, h1, h2, IntKind.wrap_u8, ← UInt8.toNat_xor]
  omega

theorem Lnk.spoilt {w0 w : World} {b ug i q cp : Nat} {v : Value} {ls : List (Value × List UInt8)} {bs : List UInt8} (h : Lnk w0 w b v ls) (hi : i < ls.length) (hu : ls[i] = (.slice (some ⟨ug, 0, none⟩) bs.length cp, bs)) (z : UInt8) :
    Lnk w0 (w.setCell ⟨ug, q, none⟩ (by8 z)) b v (ls.set i (.slice (some ⟨ug, 0, none⟩) bs.length cp, bs.set q z)) ∧ Keep [ug] w (w.setCell ⟨ug, q, none⟩ (by8 z)) := by
  have hL := h.lk
  have hul : (Value.slice (some ⟨ug, 0, none⟩) bs.length cp, bs) ∈ ls := by rw [← hu]; exact List.getElem_mem _
  have hown := hL.own _ hul
  have hk : Keep [ug] w (w.setCell ⟨ug, q, none⟩ (by8 z)) := (Keep.refl _ _).setCell (.inl (by simp)) _
  have hmap : (ls.set i (.slice (some ⟨ug, 0, none⟩) bs.length cp, bs.set q z)).map (·.1) = ls.map (·.1) := by
    rw [List.map_set]
    apply List.ext_getElem?
    intro j
    rw [List.getElem?_set]
    split
    · subst_vars
      simp [hi, hu]
    · rfl
  have hfm : (ls.set i (.slice (some ⟨ug, 0, none⟩) bs.length cp, bs.set q z)).filterMap (·.1.ownBlock) = ls.filterMap (·.1.ownBlock) := by
    have h1 : ∀ L : List (Value × List UInt8), L.filterMap (·.1.ownBlock) = (L.map (·.1)).filterMap Value.ownBlock := fun L => by rw [List.filterMap_map]; rfl
    rw [h1, h1, hmap]
  have hugb : ug ≠ b := fun e => hL.own_not_b hul (by simp [Value.ownBlock, e])
  have hugv : ug ∉ v.ownBlock.toList := hL.own_not_v hul (by simp [Value.ownBlock])
  have hother : ∀ j (hj : j < ls.length), j ≠ i → ls[j].1.ownBlock ≠ some ug := by
    intro j hj hne he
    have hp := List.pairwise_filterMap.1 hL.nodup
    rw [List.pairwise_iff_getElem] at hp
    have hie : ls[i].1.ownBlock = some ug := by rw [hu]; rfl
    rcases Nat.lt_or_gt_of_ne hne with hlt | hlt
    · exact hp j i hj hi hlt ug he ug hie rfl
    · exact hp i j hi hj hlt ug hie ug he rfl
  have hnew : (w.setCell ⟨ug, q, none⟩ (by8 z)).ownsRow 0 5 1 (.slice (some ⟨ug, 0, none⟩) bs.length cp) bs.length (bys (bs.set q z)) := by
    rcases hown.2 with ⟨he, _⟩ | ⟨g, cap, cur, he, _, hg, hn, hm, hs, ht⟩
    · cases he
    · cases he
      refine own_of_blk (Blk.set (t := 5) hg q (by8 z)) (Nat.zero_le _) hn hm (by simpa using hs) ?_
      simp only [bys] at ht ⊢
      rw [Array.toList_setIfInBounds, List.take_set, show cur.toList.take bs.length = bs.map by8 by simpa using ht, List.map_set]
  refine ⟨⟨⟨?_, ?_, ?_, ?_, by rw [hfm]; exact hL.nodup, by rw [List.length_set]; exact hL.few⟩, fun y hy => h.new y ?_, h.keep.trans hk (fun y hy => .inr ?_)⟩, hk⟩
  · exact hL.blk.far (fun e => hugb e.symm) _
  · rw [List.length_set, hmap]
    exact own_set hL.row hugv _
  · intro p hp
    obtain ⟨j, hj, rfl⟩ := List.mem_iff_getElem.1 hp
    rw [List.length_set] at hj
    rw [List.getElem_set]
    split
    · simpa using hnew
    · rename_i hne
      exact own_set (hL.own _ (List.getElem_mem hj)) (fun hm => hother j hj (Ne.symm hne) (by simpa using hm)) _
  · intro p hp
    rcases List.mem_or_eq_of_mem_set hp with hp | rfl
    · exact hL.small p hp
    · simpa using hL.small _ hul
  · simpa only [Lk.fp, hfm] using hy
  · simp only [List.mem_singleton] at hy
    subst hy
    refine h.new y ?_
    simp only [Lk.fp, List.mem_cons, List.mem_append, List.mem_filterMap]
    exact .inr (.inr ⟨_, hul, rfl⟩)

set_option maxHeartbeats 2000000 in
theorem Spoil_in (w0 w : World) (b : Nat) (v : Value) (ls : List (Value × List UInt8)) (h : Lnk w0 w b v ls) (i : Nat) (bit : Int) (u : Value) (bs : List UInt8) (hi : i < ls.length) (hub : ls[i] = (u, bs)) (hm0 : 0 < bs.length) (hb0 : 0 ≤ bit) (hb63 : bit ≤ 9223372036854775807) :
    Calls Try.prog 21 #[.pointer (some ⟨b, 0, none⟩), .int .i64 (i : Nat), .int .i64 bit] w fun e w' => e = .returned (.bool true) ∧ Lnk w0 w' b v (ls.set i (u, flipAt bs (bit % (8 * bs.length)).toNat)) ∧ Keep u.ownBlock.toList w w' := by
  have hL := h.lk
  have hT := has_any w b v ls hL (i : Nat)
  rw [decide_eq_true (by omega)] at hT
  obtain ⟨g, c, A, cp, hv, hcg, hu, hsm⟩ := hL.frame hi hub
  have hcb : w.cell? ⟨b, 0, none⟩ = some v := by simpa using hL.blk.cell 0
  have hul : (u, bs) ∈ ls := by rw [← hub]; exact List.getElem_mem _
  have hown := hL.own _ hul
  simp only at hown
  obtain ⟨K, hK, hK8⟩ : ∃ K : Nat, bit % (8 * (bs.length : Int)) = (K : Int) ∧ K < 8 * bs.length :=
    ⟨(bit % (8 * (bs.length : Int))).toNat, by have := Int.emod_nonneg bit (b := 8 * (bs.length : Int)) (by omega); omega, by have := Int.emod_lt_of_pos bit (b := 8 * (bs.length : Int)) (by omega); have := Int.emod_nonneg bit (b := 8 * (bs.length : Int)) (by omega); omega⟩
  have ht : bit.tmod (8 * (bs.length : Int)) = (K : Int) := by rw [Int.tmod_eq_emod_of_nonneg hb0]; exact hK
  rw [hK, Int.toNat_natCast]
  obtain ⟨ug, rfl, hcu⟩ : ∃ ug, A = some ⟨ug, 0, none⟩ ∧ w.cell? ⟨ug, K / 8, none⟩ = some (by8 (bs.getD (K / 8) 0)) := by
    rcases hown.2 with ⟨_, h0⟩ | ⟨ug, cap, cur, he, _, hg, hn', hc, hs, ht⟩
    · omega
    · rw [hu] at he
      injection he with h1
      refine ⟨ug, h1, ?_⟩
      rw [Blk.cell (t := 5) hg]
      have h2 : (cur.toList.take (bs.length * 1))[K / 8]? = some (by8 (bs.getD (K / 8) 0)) := by rw [ht]; simp [bys, show K / 8 < bs.length by omega]
      rw [List.getElem?_take_of_lt (by omega)] at h2
      simpa using h2
  obtain ⟨y, hy⟩ : ∃ y, y = bs.getD (K / 8) 0 := ⟨_, rfl⟩
  rw [← hy] at hcu
  obtain ⟨n, hn⟩ : ∃ n, n = ls.length := ⟨_, rfl⟩
  obtain ⟨m, hm⟩ : ∃ m, m = bs.length := ⟨_, rfl⟩
  rw [← hm] at hsm hm0 ht hK8 hu
  rw [← hn] at hi hv
  subst hu hv
  have hw8 : IntKind.i64.wrap (8 * (m : Int)) = 8 * (m : Int) := by rw [IntKind.wrap_i64]; omega
  have hm8 : ¬ (8 * (m : Int) = 0) := by omega
  have hKm : K / 8 < m := by omega
  have hmz : (((m : Nat) : Int) == 0) = false := by rw [beq_eq_false_iff_ne]; omega
  have hyb := hy
  have HY := hide hy
  have HN := hide hn
  have HM := hide hm
  have HO := hide hown
  have HU := hide hub
  clear hy hyb hn hm hown hub hK hul
  have hcy : w.cell? ⟨ug, K / 8, none⟩ = some (.int .u8 (y.toNat : Nat)) := hcu
  clear hcu
  go_enter Try.func21, Try.ntmps21
  go_wp2_with (refine hT.mono ?_; clear hT; rintro e w' ⟨rfl, rfl⟩)
  obtain ⟨q, hq⟩ : ∃ q, q = K / 8 := ⟨_, rfl⟩
  obtain ⟨r, hr⟩ : ∃ r, r = K % 8 := ⟨_, rfl⟩
  rw [← hq] at hKm hcy
  have HQ := hide hq
  have HR := hide hr
  have hr8 : r < 8 := by omega
  clear hq hr
  refine wp_region_ht (fun w' => w'.cell? ⟨b, 0, none⟩ = some (.slice (some ⟨g, 0, none⟩) n c) ∧ w'.cell? ⟨g, i, none⟩ = some (.slice (some ⟨ug, 0, none⟩) m cp) ∧ w'.cell? ⟨ug, q, none⟩ = some (.int .u8 (y.toNat : Nat))) 14
    [(0, false), (1, false), (2, false), (3, false), (4, false), (5, false), (6, false), (7, false), (8, false), (9, false), (10, false), (11, false), (12, false), (13, false)]
    (by kernel_rfl) (by kernel_rfl) (fun _ _ d _ _ h => by cases d <;> exact h) ⟨hcb, hcg, hcy⟩ ?_
  simp only [picked, List.filterMap_cons, List.filterMap_nil, List.getElem?_cons_zero, List.getElem?_cons_succ, Option.map_some, List.drop_succ_cons, List.drop_zero]
  iterate 8 (refine wpT_held ?_ (by rfl) ?_ ?_; rotate_left; (focus (intro W hW; obtain ⟨hW1, hW2, hW3⟩ := hW; go_simp; first | done | with_reducible rfl)); simp only [Act.put, List.setIfInBounds_toArray, List.set_cons_zero, List.set_cons_succ])
  refine wpT_held (.int .i64 (q : Nat)) (by rfl) (fun W _ => by go_simp; rw [IntKind.wrap_i64]; have := unhide HQ; omega) ?_
  simp only [Act.put, List.setIfInBounds_toArray, List.set_cons_zero, List.set_cons_succ]
  iterate 3 (refine wpT_held ?_ (by rfl) ?_ ?_; rotate_left; (focus (intro W hW; obtain ⟨hW1, hW2, hW3⟩ := hW; go_simp; first | done | with_reducible rfl)); simp only [Act.put, List.setIfInBounds_toArray, List.set_cons_zero, List.set_cons_succ])
  refine wpT_held (.int .i64 (r : Nat)) (by rfl) (fun W _ => by go_simp; rw [Int.tmod_eq_emod_of_nonneg (by omega)]; have := unhide HR; omega) ?_
  simp only [Act.put, List.setIfInBounds_toArray, List.set_cons_zero, List.set_cons_succ]
  have hp : IntKind.u8.wrap ((2 : Int) ^ r) = ((1 <<< (UInt8.ofNat r) : UInt8).toNat : Nat) := by
    rcases r with _ | _ | _ | _ | _ | _ | _ | _ | r <;> first | rfl | decide | omega
  refine wpT_held (.int .u8 ((1 <<< (UInt8.ofNat r) : UInt8).toNat : Nat)) (by rfl) (fun W _ => by go_simp) ?_
  simp only [Act.put, List.setIfInBounds_toArray, List.set_cons_zero, List.set_cons_succ]
  refine wpT_nil ?_
  obtain ⟨p, hp1⟩ : ∃ p : UInt8, p = 1 <<< (UInt8.ofNat r) := ⟨_, rfl⟩
  rw [← hp1]
  have HP := hide hp1
  have hfu : w.frozen? ⟨ug, q, none⟩ = false := by
    rcases (unhide HO).2 with ⟨h, _⟩ | ⟨ug', cap, cur, he, _, hg, _⟩
    · cases h
    · cases he; exact Blk.frozen (t := 5) hg q
  clear hp hp1
  go_wp2
  rw [xor_u8]
  go_ret
  have hm := unhide HM
  subst hm
  have hq := unhide HQ
  have hr := unhide HR
  obtain ⟨hA, hB⟩ := h.spoilt (q := q) (unhide HN ▸ hi) (unhide HU) (y ^^^ p)
  have hf : flipAt bs K = bs.set q (y ^^^ p) := by
    unfold flipAt
    rw [unhide HP, hr, hq, ← unhide HY]
  rw [hf]
  exact ⟨rfl, hA.keep0 (Keep.refl _ _).drew, hB.drew⟩
end Go.Proofs.Ytfbejbkacpkalaa
