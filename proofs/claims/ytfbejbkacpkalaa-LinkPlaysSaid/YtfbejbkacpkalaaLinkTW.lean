/-
  LinkTurns: the walk.
-/
import Derived.Test.YtfbejbkacpkalaaLinkS
import Derived.Test.YtfbejbkacpkalaaLinkRW
namespace Go.Proofs.Ytfbejbkacpkalaa
open Go.RowKit

theorem bit_ne (r : Nat) (h : r < 8) : (1 <<< (UInt8.ofNat r) : UInt8) ≠ 0 := by
  rcases r with _ | _ | _ | _ | _ | _ | _ | _ | r <;> first | decide | omega
@[simp] theorem length_flipAt (bs : List UInt8) (k : Nat) : (flipAt bs k).length = bs.length := by simp [flipAt]
theorem flip_flip (bs : List UInt8) (k : Nat) (h : k < 8 * bs.length) : flipAt (flipAt bs k) k = bs := by
  unfold flipAt
  have hk : k / 8 < bs.length := by omega
  apply List.ext_getElem?
  intro j
  simp only [List.getElem?_set, List.length_set, List.getD_eq_getElem?_getD]
  split
  · subst_vars
    simp [hk, UInt8.xor_assoc]
  · rfl
theorem flip_ne (bs : List UInt8) (k : Nat) (h : k < 8 * bs.length) : flipAt bs k ≠ bs := by
  intro he
  have hk : k / 8 < bs.length := by omega
  have h1 := congrArg (fun l : List UInt8 => l[k / 8]?) he
  simp only [flipAt, List.getElem?_set_self hk, List.getD_eq_getElem?_getD, List.getElem?_eq_getElem hk, Option.getD_some, Option.some.injEq] at h1
  have h2 : bs[k / 8] ^^^ (bs[k / 8] ^^^ (1 <<< UInt8.ofNat (k % 8))) = bs[k / 8] ^^^ bs[k / 8] := by rw [h1]
  rw [← UInt8.xor_assoc, UInt8.xor_self, UInt8.zero_xor] at h2
  exact bit_ne (k % 8) (by omega) h2

/-- the rows that LinkTurns builds -/
def rows7 (X : Int) (m : Nat) : List (List UInt8) := (List.range m).map fun i => rowOf (X + (i : Nat)) ++ [7]
theorem rows7_succ (X : Int) (m : Nat) : rows7 X (m + 1) = rows7 X m ++ [rowOf (X + (m : Nat)) ++ [7]] := by simp [rows7, List.range_succ]
@[simp] theorem length_rows7 (X : Int) (m : Nat) : (rows7 X m).length = m := by simp [rows7]
theorem rows7_small (X : Int) (m : Nat) : ∀ r ∈ rows7 X m, 0 < r.length ∧ r.length ≤ 64 := by
  intro r hr
  obtain ⟨i, _, rfl⟩ := List.mem_map.1 hr
  simp [rowOf]
  omega

theorem doubled_at {α : Type} (L : List α) (i : Nat) (x : α) (hi : i < L.length) (j : Nat) : (doubled i L x)[j]? = if j ≤ i then L[j]? else if j = i + 1 then some x else L[j - 1]? := by
  unfold doubled
  rw [List.getElem?_append]
  have hl : (L.take (i + 1)).length = i + 1 := by simp; omega
  rw [hl]
  split
  · rw [if_pos (by omega), List.getElem?_take_of_lt (by omega)]
  · rw [if_neg (by omega)]
    rcases Nat.eq_or_lt_of_le (show i + 1 ≤ j by omega) with h | h
    · subst h; simp
    · rw [if_neg (by omega)]
      obtain ⟨q, hq⟩ : ∃ q, j - (i + 1) = q + 1 := ⟨j - (i + 1) - 1, by omega⟩
      rw [hq, List.getElem?_cons_succ, List.getElem?_drop]
      congr 1
      omega
theorem doubled_map {α β : Type} (f : α → β) (L : List α) (i : Nat) (x : α) : (doubled i L x).map f = doubled i (L.map f) (f x) := by simp [doubled, List.map_take, List.map_drop]
@[simp] theorem length_doubled {α : Type} (L : List α) (i : Nat) (x : α) (hi : i < L.length) : (doubled i L x).length = L.length + 1 := by simp [doubled]; omega

theorem fp_set {b i : Nat} {v u : Value} {ls : List (Value × List UInt8)} {x z : List UInt8} (hi : i < ls.length) (hu : ls[i] = (u, x)) : Lk.fp b v (ls.set i (u, z)) = Lk.fp b v ls := by
  have hmap : (ls.set i (u, z)).map (·.1) = ls.map (·.1) := by
    rw [List.map_set]
    apply List.ext_getElem?
    intro j
    rw [List.getElem?_set]
    split
    · subst_vars
      simp [hi, hu]
    · rfl
  have h1 : ∀ L : List (Value × List UInt8), L.filterMap (·.1.ownBlock) = (L.map (·.1)).filterMap Value.ownBlock := fun L => by rw [List.filterMap_map]; rfl
  unfold Lk.fp
  rw [h1, h1, hmap]
theorem fp_mem {b i : Nat} {v u : Value} {ls : List (Value × List UInt8)} {x : List UInt8} (hi : i < ls.length) (hu : ls[i] = (u, x)) : ∀ y ∈ u.ownBlock.toList, y ∈ Lk.fp b v ls := by
  intro y hy
  simp only [Lk.fp, List.mem_cons, List.mem_append, List.mem_filterMap]
  exact .inr (.inr ⟨_, List.getElem_mem hi, by rw [hu]; simpa using hy⟩)

set_option maxHeartbeats 8000000 in
set_option maxRecDepth 100000 in
theorem turns_walk (x n at_ bit : Int) (w : World) (hbit : -9223372036854775808 ≤ bit ∧ bit ≤ 9223372036854775807) :
    Calls Try.prog 6 #[.int .i64 x, .int .i64 n, .int .i64 at_, .int .i64 bit] w fun e w' => e = .returned (.bool true) ∧ Keep [] w w' := by
  by_cases hneg : bit < 0
  · go_enter Try.func6, Try.ntmps6
    go_wp2_with (refine (New_own _).mono ?_; rintro e w1 ⟨b, rfl, hL1⟩)
    have hT := Spoil_out w1 b _ _ hL1.lk 0 0 (by simp)
    go_wp2_with (refine hT.mono ?_; clear hT; rintro e w' ⟨rfl, rfl⟩)
    go_wp2_with (refine (awake_any _).mono ?_; rintro e w9 ⟨rfl, hk9⟩)
    go_ret
    exact ⟨rfl, hL1.keep.trans0 hk9⟩
  obtain ⟨k0, hk, hk10⟩ : ∃ k : Nat, n % 10 = (k : Int) ∧ k < 10 := ⟨(n % 10).toNat, by omega, by omega⟩
  have HR : ∀ W : World, Calls Try.prog 8 #[.int .i64 n, .int .i64 10] W fun e w' => e = .returned (.int .i64 (k0 : Nat)) ∧ W = w' := fun W => by
    rw [← hk]; exact Round_any _ _ _ (by omega) (by omega)
  obtain ⟨X, hX, hX0, hX1⟩ : ∃ X : Int, x % 100000 = X ∧ 0 ≤ X ∧ X < 100000 := ⟨_, rfl, by omega, by omega⟩
  have HX : ∀ W : World, Calls Try.prog 8 #[.int .i64 x, .int .i64 100000] W fun e w' => e = .returned (.int .i64 X) ∧ W = w' := fun W => by
    rw [← hX]; exact Round_any _ _ _ (by omega) (by omega)
  obtain ⟨k, hk1, hk1', hk11⟩ : ∃ k : Nat, (1 : Int) + (k0 : Nat) = (k : Nat) ∧ 1 ≤ k ∧ k ≤ 10 := ⟨k0 + 1, by omega, by omega, by omega⟩
  clear hk hX
  go_enter Try.func6, Try.ntmps6
  go_wp2_with (refine (New_own _).mono ?_; rintro e w1 ⟨b, rfl, hL1⟩)
  go_wp2_with (refine (HR _).mono ?_; clear HR; rintro e w' ⟨rfl, rfl⟩)
  clear hk10 hk1
  have hF : ∀ y ∈ Lk.fp b (.slice none 0 0) [], y < w1.heap.size := hL1.lk.fp_lt
  go_loopw [11, 12] (fun v i wr => ∃ m fs, m ≤ k ∧ i = .int .i64 (m : Nat) ∧ Hold wr w1.heap.size (Lk.fp b (.slice none 0 0) []) v fs ∧ Hid (fs.length = m) ∧ Hid (fs.map (·.2) = rows7 X m) ∧ Keep [] w1 wr) (fun _ i _ => k - (intOf i).toNat)
  case atStart => exact ⟨0, [], Nat.zero_le _, rfl, Hold.nil _ _ _, rfl, rfl, Keep.refl _ _⟩
  case round =>
    obtain ⟨m, fs, hm, rfl, hH, hl, hmap, hkw⟩ := hrel
    have hsz := hkw.size
    by_cases hlt : m < k
    · have hT := HX wr
      go_wp2_with (refine hT.mono ?_; clear hT; rintro e w' ⟨rfl, rfl⟩)
      have hT := row_any (X + (m : Nat)) wr
      go_wp2_with (first
        | (at_builtin; refine elem8.wp_app rfl _ _ rfl wr.heap.size _ (rowOf (X + (m : Nat))).length (bys (rowOf (X + (m : Nat)))) rfl (own_alloc hu _) _ 1 1 [.int .u8 7] rfl (rd_new1 _ _ _) (by simp [Value.oneCell']) (by have := rowOf_small (X + (m : Nat)); omega) (by have := (rows7_small X (m + 1)) (rowOf (X + (m : Nat)) ++ [7]) (by rw [rows7_succ]; simp); simp at this; omega) (by have := hk2.size; simp; omega) ?_)
        | (refine hT.mono ?_; clear hT; rintro e w2 ⟨u, rfl, hu, hk2⟩; obtain ⟨UA, uc, rfl, _⟩ := own_form hu))
      intro u3 w3 hu3 hk3 _ _
      have hkw3 := hk2.one_more hu (Nat.le_refl _) hk3
      have hu4 : w3.ownsRow wr.heap.size 5 1 u3 (rowOf (X + (m : Nat)) ++ [7]).length (bys (rowOf (X + (m : Nat)) ++ [7])) := by
        rw [List.length_append, bys_append]; exact hu3
      obtain ⟨VA3, vc3, rfl, _⟩ := own_form hu3
      clear hu3 hk3 hu
      go_wp2_with (at_builtin; refine elemRows.wp_app rfl _ _ rfl w1.heap.size _ fs.length (fs.map (·.1)) rfl (own_alloc (own_keep0 hH.row hkw3) _) _ 1 1 [_] rfl (rd_new1 _ _ _) (by simp [Value.oneCell']) (by have := unhide hl; omega) (by have := unhide hl; omega) (by have := hkw3.size; simp; omega) ?_)
      intro v' w4 hv' hk4 hat _
      have hP := hH.push hF hsz hkw3 hu4 (by have := (rows7_small X (m + 1)) (rowOf (X + (m : Nat)) ++ [7]) (by rw [rows7_succ]; simp); omega) hk4 hv'
      obtain ⟨VA, vc, rfl, _⟩ := own_form hv'
      have hkw4 := (hkw.trans0 hkw3).one_more (own_keep0 hH.row hkw3) (Nat.le_refl _) hk4
      clear hk4 hH hu4
      go_wp2
      go_roundw
      case rel => exact ⟨m + 1, _, by omega, by go_num, hP.1, by show _ = _; rw [List.length_append, unhide hl]; rfl, by show _ = _; rw [List.map_append, unhide hmap, rows7_succ]; rfl, hkw4⟩
      case measure => simp [intOf]; omega
    · obtain rfl : k = m := by omega
      have hL2 := hL1.keep0 hkw
      obtain ⟨FA, fc, hv, hfc, hfc63, _⟩ := own_form hH.row
      rw [unhide hl] at hv
      have hfck : k ≤ fc := by have := unhide hl; omega
      obtain ⟨i, hi, hik⟩ : ∃ i : Nat, at_ % ((k : Nat) : Int) = (i : Int) ∧ i < k := ⟨(at_ % ((k : Nat) : Int)).toNat, by have := Int.emod_nonneg at_ (b := ((k : Nat) : Int)) (by omega); omega, by have := Int.emod_lt_of_pos at_ (b := ((k : Nat) : Int)) (by omega); omega⟩
      have HI : ∀ W : World, Calls Try.prog 8 #[.int .i64 at_, .int .i64 (k : Nat)] W fun e w' => e = .returned (.int .i64 (i : Nat)) ∧ W = w' := fun W => by
        rw [← hi]; exact Round_any _ _ _ (by omega) (by omega)
      have hS := Send_grow w wr b _ _ hL2 FA k fc fs (by have := hH.rws (by rw [unhide hl]; exact hv); rwa [unhide hl] at this) (fun p e => hH.off_b _ (by rw [hv, e]; simp [Value.ownBlock])) hH.offs_b (by omega)
      subst hv
      clear hi
      go_wp2_with (refine (HI _).mono ?_; clear HI; rintro e w' ⟨rfl, rfl⟩)
      obtain ⟨ri, hri⟩ : ∃ ri, (rows7 X k)[i]? = some ri := ⟨(rows7 X k)[i]'(by simpa using hik), by simp [hik]⟩
      have hrm := rows7_small X k ri (List.mem_of_getElem? hri)
      obtain ⟨K, hK, hK8⟩ : ∃ K : Nat, (bit % (8 * (ri.length : Int))).toNat = K ∧ K < 8 * ri.length := ⟨_, rfl, by have := Int.emod_lt_of_pos bit (b := 8 * (ri.length : Int)) (by omega); have := Int.emod_nonneg bit (b := 8 * (ri.length : Int)) (by omega); omega⟩
      go_wp2_with (refine hS.mono ?_; clear hS; rintro e w2 ⟨v2, l2, rfl, hL3, hm2, hk2, hg2⟩; have hm3 : l2.map (·.2) = rows7 X k := (by rw [hm2, unhide hmap]; exact List.take_of_length_le (by simp; omega)); have hll : l2.length = k := (by have := congrArg List.length hm3; simpa using this); rw [hll]; have HM3 := hide hm3; have HL2 := hide hll; clear hm2 hm3 hll)
      have hT := Double_in w w2 b v2 l2 hL3 i k (unhide HL2) hik (by omega)
      rw [unhide HM3, hri, Option.getD_some] at hT
      go_wp2_with (refine hT.mono ?_; clear hT; rintro e w3 ⟨v3, u3, rfl, hL4, hk3, hg3⟩)
      obtain ⟨l3, hl3⟩ : ∃ l3, l3 = doubled i l2 (u3, ri) := ⟨_, rfl⟩
      rw [← hl3] at hL4 hg3
      have hl3n : l3.length = k + 1 := by rw [hl3, length_doubled _ _ _ (by have := unhide HL2; omega), unhide HL2]
      have hl3m : l3.map (·.2) = doubled i (rows7 X k) ri := by rw [hl3, doubled_map, unhide HM3]
      have HL3 := hide hl3n
      have HM4 := hide hl3m
      have hT := Len_any w3 b v3 l3 hL4.lk
      rw [hl3n] at hT
      simp only [Int.natCast_add, Int.natCast_one] at hT
      clear hl3 hl3n hl3m
      go_wp2_with (refine hT.mono ?_; clear hT; rintro e w' ⟨rfl, rfl⟩)
      obtain ⟨us, hus⟩ : ∃ us, l3[i]'(by have := unhide HL3; omega) = (us, ri) := by
        have hi3 : i < l3.length := by have := unhide HL3; omega
        refine ⟨l3[i].1, ?_⟩
        have h1 : (l3.map (·.2))[i]? = some ri := by rw [unhide HM4, doubled_at _ _ _ (by simpa using hik), if_pos (Nat.le_refl _), hri]
        rw [List.getElem?_map, List.getElem?_eq_getElem hi3, Option.map_some, Option.some.injEq] at h1
        rw [← h1]
      have hT := Spoil_in w w3 b v3 l3 hL4 i bit us ri (by have := unhide HL3; omega) hus (by omega) (by omega) (by omega)
      rw [hK] at hT
      have HUS := hide hus
      clear hus
      go_wp2_with (refine hT.mono ?_; clear hT; rintro e w4 ⟨rfl, hL5, hk4⟩; have hTA := all_any w4 b v3 _ hL5.lk)
      go_wp2_with (refine hTA.mono ?_; clear hTA; rintro e w5 ⟨TA, tn, tc, ls5, rfl, hR5, hm5, hk5⟩; have htn : tn = k + 1 := (by have h1 := hR5.len; have h2 := congrArg List.length hm5; simp at h2; have := unhide HL3; omega); subst htn)
      have hi3 : i < l3.length := by have := unhide HL3; omega
      have hH4 := ((hH.turn hk2 fp_bv hg2).turn hk3 fp_bv hg3).turn hk4 (fp_mem hi3 (unhide HUS)) (Grow.refl _ _)
      have hH5 := hH4.keep0 hk5
      have hm6 : ls5.map (·.2) = (doubled i (rows7 X k) ri).set i (flipAt ri K) := by
        rw [hm5, List.map_set, unhide HM4]
      have hat : ∀ j, (ls5.map (·.2))[j]? = if j = i then (if j < k + 1 then some (flipAt ri K) else none) else if j ≤ i then (rows7 X k)[j]? else (rows7 X k)[j - 1]? := by
        intro j
        rw [hm6, List.getElem?_set, doubled_at _ _ _ (by simpa using hik), length_doubled _ _ _ (by simpa using hik), length_rows7]
        by_cases hji : j = i
        · subst hji; simp
        · rw [if_neg (Ne.symm hji), if_neg hji]
          by_cases hle : j ≤ i
          · rw [if_pos hle, if_pos hle]
          · rw [if_neg hle, if_neg hle]
            by_cases he : j = i + 1
            · subst he; simp [hri]
            · rw [if_neg he]
      clear hm6
      have HAT := hide hat
      clear hat hm5
      go_loopw [16, 17] (fun o j wr' => ∃ jn oj : Nat, jn ≤ k + 1 ∧ j = .int .i64 (jn : Nat) ∧ o = .int .i64 (oj : Nat) ∧ Hid (oj = if jn ≤ i then 0 else 1) ∧ Keep [] w5 wr') (fun _ j _ => k + 1 - (intOf j).toNat)
      case atStart => exact ⟨0, 0, Nat.zero_le _, rfl, rfl, by show _ = _; simp, Keep.refl _ _⟩
      case round =>
        obtain ⟨j, oj, hj, rfl, rfl, ho, hkr⟩ := hrel
        by_cases hjk : j < k + 1
        · have hR6 := hR5.keep hkr
          have hH6 := hH5.keep0 hkr
          have h5l := hR6.len
          obtain ⟨b1, o1, rfl, _, hct, hbt⟩ := hR6.at_ hjk (by omega)
          have hatj := (unhide HAT) j
          rw [List.getElem?_map, List.getElem?_eq_getElem (by omega), Option.map_some] at hatj
          generalize ls5[j] = tp at hct hbt hatj
          obtain ⟨tv, tb⟩ := tp
          simp only at hct hbt hatj
          obtain ⟨PA, pn, pc, rfl, hpc, hpn, hpr⟩ := hbt
          have hpl : tb.length = pn := by simpa using hpr.1
          have hjk1 : ((j : Nat) : Int) < (k : Nat) + 1 := by omega
          by_cases hji : i = j
          · subst hji
            rw [if_pos rfl, if_pos (by omega), Option.some.injEq] at hatj
            subst hatj
            obtain ⟨g, rfl, hcr, hbr⟩ := hH6.cell (i := i) (by have := unhide hl; omega)
            have hfi : fs[i]'(by have := unhide hl; omega) = ((fs[i]'(by have := unhide hl; omega)).1, ri) := by
              have h1 := hri
              rw [← unhide hmap, List.getElem?_map, List.getElem?_eq_getElem (by have := unhide hl; omega), Option.map_some, Option.some.injEq] at h1
              rw [← h1]
            rw [hfi] at hcr hbr
            generalize (fs[i]'(by have := unhide hl; omega)).1 = rv at hcr hbr
            obtain ⟨QA, qn, qc, rfl, hqc, hqn, hqr⟩ := hbr
            have hql : ri.length = qn := by simpa using hqr.1
            rw [length_flipAt, hql] at hpl
            subst hpl
            have h0 : oj = 0 := by have := unhide ho; simpa using this
            subst h0
            have HFN := flip_ne ri K hK8
            have hTB := Bytes_k _ _ _ _ wr.drew (Bts.drewN (k := 1) ⟨PA, qn, pc, rfl, hpc, hpn, hpr⟩) (Bts.drewN (k := 1) ⟨QA, qn, qc, rfl, hqc, hqn, hqr⟩)
            rw [decide_eq_false HFN] at hTB
            clear hfi hql HFN
            go_wp2
            refine wp_region_ht (fun w' => w'.cell? ⟨b1, o1 + i, none⟩ = some (.slice PA qn pc) ∧ w'.cell? ⟨g, i, none⟩ = some (.slice QA qn qc)) 20
              [(0, false), (1, false), (2, false), (3, false), (4, false), (5, false), (6, false), (7, false), (8, false), (9, false), (10, false), (11, false), (12, false), (13, false), (14, false), (15, false), (16, false), (17, false), (18, false), (19, false)]
              (by kernel_rfl) (by kernel_rfl) (fun _ _ d _ _ h => by cases d <;> exact h) ⟨hct, hcr⟩ ?_
            simp only [picked, List.filterMap_cons, List.filterMap_nil, List.getElem?_cons_zero, List.getElem?_cons_succ, Option.map_some, List.drop_succ_cons, List.drop_zero]
            iterate 20 (refine wpT_held ?_ (by rfl) ?_ ?_; rotate_left; (focus (intro W hW; obtain ⟨hW1, hW2⟩ := hW; go_simp; first | done | with_reducible rfl)); simp only [Act.put, List.setIfInBounds_toArray, List.set_cons_zero, List.set_cons_succ])
            refine wpT_nil ?_
            go_wp2_with (refine hTB.mono ?_; clear hTB; rintro e w6 ⟨rfl, hk6⟩)
            go_roundw
            case rel => exact ⟨i + 1, 1, by omega, by go_num, rfl, by show _ = _; rw [if_neg (by omega)], (hkr.drew.trans0 hk6)⟩
            case measure => simp [intOf]; omega
          · rw [if_neg (fun h => hji h.symm)] at hatj
            obtain ⟨jr, hjr, hjrk, hjo⟩ : ∃ jr : Nat, (rows7 X k)[jr]? = some tb ∧ jr < k ∧ ((j : Nat) : Int) - (oj : Nat) = (jr : Nat) := by
              have ho' := unhide ho
              by_cases hle : j ≤ i
              · rw [if_pos hle] at hatj ho'
                exact ⟨j, hatj.symm, by omega, by omega⟩
              · rw [if_neg hle] at hatj ho'
                exact ⟨j - 1, hatj.symm, by omega, by omega⟩
            obtain ⟨g, rfl, hcr, hbr⟩ := hH6.cell (i := jr) (by have := unhide hl; omega)
            have hfi : fs[jr]'(by have := unhide hl; omega) = ((fs[jr]'(by have := unhide hl; omega)).1, tb) := by
              have h1 := hjr
              rw [← unhide hmap, List.getElem?_map, List.getElem?_eq_getElem (by have := unhide hl; omega), Option.map_some, Option.some.injEq] at h1
              rw [← h1]
            rw [hfi] at hcr hbr
            generalize (fs[jr]'(by have := unhide hl; omega)).1 = rv at hcr hbr
            obtain ⟨QA, qn, qc, rfl, hqc, hqn, hqr⟩ := hbr
            have hTB := Bytes_k _ _ _ _ wr.drew (Bts.drewN (k := 1) ⟨PA, pn, pc, rfl, hpc, hpn, hpr⟩) (Bts.drewN (k := 1) ⟨QA, qn, qc, rfl, hqc, hqn, hqr⟩)
            rw [decide_eq_true rfl] at hTB
            have hoj : oj ≤ 1 := by have := unhide ho; split at this <;> omega
            clear hfi hatj hjr
            have hne : ((((j : Nat) : Int)) == ((i : Nat) : Int)) = false := by rw [beq_eq_false_iff_ne]; omega
            go_wp2
            refine wp_region_ht (fun w' => w'.cell? ⟨b1, o1 + j, none⟩ = some (.slice PA pn pc) ∧ w'.cell? ⟨g, jr, none⟩ = some (.slice QA qn qc)) 10
              [(0, false), (1, false), (2, false), (3, false), (4, false), (5, false), (6, false), (7, false), (8, false), (9, false)]
              (by kernel_rfl) (by kernel_rfl) (fun _ _ d _ _ h => by cases d <;> exact h) ⟨hct, hcr⟩ ?_
            simp only [picked, List.filterMap_cons, List.filterMap_nil, List.getElem?_cons_zero, List.getElem?_cons_succ, Option.map_some, List.drop_succ_cons, List.drop_zero]
            iterate 7 (refine wpT_held ?_ (by rfl) ?_ ?_; rotate_left; (focus (intro W hW; obtain ⟨hW1, hW2⟩ := hW; go_simp; first | done | with_reducible rfl)); simp only [Act.put, List.setIfInBounds_toArray, List.set_cons_zero, List.set_cons_succ])
            refine wpT_held (.int .i64 (jr : Nat)) (by rfl) (fun W _ => by go_simp; rw [IntKind.wrap_i64]; omega) ?_
            simp only [Act.put, List.setIfInBounds_toArray, List.set_cons_zero, List.set_cons_succ]
            iterate 2 (refine wpT_held ?_ (by rfl) ?_ ?_; rotate_left; (focus (intro W hW; obtain ⟨hW1, hW2⟩ := hW; go_simp; first | done | with_reducible rfl)); simp only [Act.put, List.setIfInBounds_toArray, List.set_cons_zero, List.set_cons_succ])
            refine wpT_nil ?_
            go_wp2_with (refine hTB.mono ?_; clear hTB; rintro e w6 ⟨rfl, hk6⟩)
            go_roundw
            case rel => exact ⟨j + 1, oj, by omega, by go_num, rfl, by have := unhide ho; show _ = _; rw [this]; split <;> split <;> omega, (hkr.drew.trans0 hk6)⟩
            case measure => simp [intOf]; omega
        · clear hR5 HAT
          have hL6 := (hL5.keep0 hk5).keep0 hkr
          have hH6 := hH5.keep0 hkr
          have hset : (l3.set i (us, flipAt ri K))[i]'(by simpa using hi3) = (us, flipAt ri K) := List.getElem_set_self _
          have hT := Spoil_in w wr b v3 _ hL6 i bit us (flipAt ri K) (by simpa using hi3) hset (by rw [length_flipAt]; omega) (by omega) (by omega)
          have hback : (l3.set i (us, flipAt ri K)).set i (us, flipAt (flipAt ri K) (bit % (8 * ((flipAt ri K).length : Nat))).toNat) = l3 := by
            rw [List.set_set, length_flipAt, hK, flip_flip ri K hK8]
            apply List.ext_getElem?
            intro y
            rw [List.getElem?_set]
            split
            · subst_vars
              simp [hi3, unhide HUS]
            · rfl
          rw [hback] at hT
          clear hset hback
          go_wp2_with (refine hT.mono ?_; clear hT; rintro e w6 ⟨rfl, hL7, hk6⟩)
          have hH7 := hH6.turn hk6 (fp_mem hi3 (unhide HUS)) (Grow.refl _ _)
          have hT := Take_sub w w6 b v3 l3 hL7 (i : Nat) i us ri rfl hi3 (unhide HUS)
          go_wp2_with (refine hT.mono ?_; clear hT; rintro e w7 ⟨v7, rfl, hL8, hk7, ho7, hs7⟩)
          have hH8 := hH7.turn hk7 fp_bv (Grow.of_sub hs7)
          have hlen8 : (l3.eraseIdx i).length = k := by rw [List.length_eraseIdx, if_pos hi3, unhide HL3]; omega
          obtain ⟨ub, hub⟩ : ∃ ub, (l3.eraseIdx i)[i]'(by omega) = (ub, ri) := by
            refine ⟨((l3.eraseIdx i)[i]'(by omega)).1, ?_⟩
            have h1 : ((l3.eraseIdx i).map (·.2))[i]? = some ri := by
              rw [← eraseIdx_map', unhide HM4, List.getElem?_eraseIdx, if_neg (by omega), doubled_at _ _ _ (by simpa using hik), if_neg (by omega), if_pos rfl]
            rw [List.getElem?_map, List.getElem?_eq_getElem (by omega), Option.map_some, Option.some.injEq] at h1
            rw [← h1]
          have hT := Take_sub w w7 b v7 _ hL8 (i : Nat) i ub ri rfl (by omega) hub
          go_wp2_with (
              (refine hT.mono ?_)
              (clear hT)
              (rintro e w8 ⟨v8, rfl, hL9, hk8, ho8, hs8⟩)
              have hH9 := hH8.turn hk8 fp_bv (Grow.of_sub hs8)
              have hif : i < fs.length := by have := unhide hl; omega
              have hfi : fs[i].2 = ri := by
                have h1 := hri
                rw [← unhide hmap, List.getElem?_map, List.getElem?_eq_getElem hif, Option.map_some, Option.some.injEq] at h1
                exact h1
              obtain ⟨g, rfl, hcg, hbg⟩ := hH9.cell hif
              rw [hfi] at hbg
              generalize fs[i].1 = pv at hcg hbg
              obtain ⟨PA, pn, pc, rfl, hpc, hpn, hpr⟩ := hbg
              have hba : Bts w8 us ri := Bts.of_own (hL8.lk.row_stays ho7 hk8) (by omega)
              have hbb : Bts w8 ub ri := Bts.of_own ho8 (by omega)
              have hbp : Bts w8 (.slice PA pn pc) ri := ⟨PA, pn, pc, rfl, hpc, hpn, hpr⟩
              have hTA := Bytes_k us _ ri ri w8 hba hbp
              rw [decide_eq_true rfl] at hTA
              clear hfi hpr)
          go_wp2_with (
              (refine hTA.mono ?_)
              (clear hTA)
              (rintro e w9 ⟨rfl, hk9⟩)
              have hcg9 := (hk9.cell (cell_lt hcg) (by simp) i).trans hcg
              have hTB := Bytes_k ub _ ri ri w9 (hbb.keep hk9) (hbp.keep hk9)
              rw [decide_eq_true rfl] at hTB)
          go_wp2_with (refine hTB.mono ?_; clear hTB; rintro e w10 ⟨rfl, hk10⟩)
          have hL10 := (hL9.keep0 hk9).keep0 hk10
          have hlen9 : ((l3.eraseIdx i).eraseIdx i).length = k - 1 := by rw [List.length_eraseIdx, if_pos (by omega), hlen8]
          have hT := Len_any w10 b v8 _ hL10.lk
          rw [hlen9] at hT
          rw [show (((k - 1 : Nat) : Int)) = ((k : Nat) : Int) - 1 by omega] at hT
          go_wp2_with (refine hT.mono ?_; clear hT; rintro e w' ⟨rfl, rfl⟩)
          go_wp2_with (refine (awake_any _).mono ?_; rintro e w11 ⟨rfl, hk11⟩)
          go_ret
          exact ⟨rfl, hL10.keep.trans0 hk11⟩
end Go.Proofs.Ytfbejbkacpkalaa
