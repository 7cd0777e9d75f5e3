/-
  Contracts of the reference's row: Put, One.
-/
import Derived.Test.YtplfijhianmohaaRefRow
namespace Go.Proofs.Ytplfijhianmohaa
open Go.RowKit

theorem byte_and (y : Nat) (hy : y ≤ 9223372036854775807) : Value.int .u8 (bits BinOp.and IntKind.i64 ((y : Nat) : Int) 255 % 256) = by8 (UInt8.ofNat (y % 256)) := by
  rw [and255 _ (by omega) (by omega)]
  unfold by8
  rw [UInt8.toNat_ofNat']
  congr 1

set_option maxHeartbeats 4000000 in
set_option maxRecDepth 20000 in
theorem PutR (w : World) (base r a k : Nat) (v : Value) (bs : List UInt8) (h : RefAt w base r v bs a) (hk : k = 1 ∨ k = 4) (A : Option Addr) (m c : Nat) (zs : List Nat) (hr : Rd w A m (nats zs))
    (hA : ∀ p, A = some p → p.block ∉ r :: v.ownBlock.toList) (hz : ∀ z ∈ zs, z < 256 ^ k) (hm0 : 0 < m) (hm : a + k * m ≤ bs.length) :
    Calls Try.prog 49 #[.pointer (some ⟨r, 0, none⟩), .int .i64 (k : Nat), .slice A m c] w fun e w' => e = .returned (.bool true) ∧ RefAt w' base r v (laid bs a (zs.flatMap (le k))) (a + k * m) ∧ Keep (r :: v.ownBlock.toList) w w' := by
  have hk1 : 1 ≤ k ∧ k ≤ 4 := by omega
  have hkm : m ≤ k * m := Nat.le_mul_of_pos_left _ (by omega)
  obtain ⟨g, gc, rfl, hc⟩ := own_some h.own (by omega)
  have hfew := h.few
  have hTm := fun W => most_is k hk W
  obtain ⟨M, hM⟩ : ∃ M : Nat, M = 256 ^ k - 1 := ⟨_, rfl⟩
  have hTw := fun (z : Nat) (hz : z < 256 ^ k) W => WithinR_is (z : Nat) 0 (M : Nat) true (by rw [decide_eq_true_eq, hM]; generalize 256 ^ k = y at *; omega) W
  rw [← hM] at hTm
  obtain ⟨n, hn⟩ : ∃ n, n = bs.length := ⟨_, rfl⟩
  rw [← hn] at hm hc hfew
  have h0 := h.c0
  have h1 := h.c1
  rw [← hn] at h0
  have HN := hide hn
  have hl : zs.length = m := by simpa using hr.1
  have hmk : IntKind.i64.wrap (((m : Nat) : Int) * (k : Nat)) = ((k * m : Nat) : Int) := by
    rw [← Int.natCast_mul, IntKind.wrap_i64, Nat.mul_comm m k]; generalize k * m = y at *; omega
  obtain ⟨T, hTT⟩ : ∃ T, T = k * m := ⟨_, rfl⟩
  rw [← hTT] at hmk hm hkm
  have hs : IntKind.i64.wrap ((n : Nat) - (a : Nat) : Int) = (n : Nat) - (a : Nat) := by rw [IntKind.wrap_i64]; omega
  have HL := hide hl
  have HTT := hide hTT
  have HM := hide hM
  clear hk hn hl hTT hM
  have hm63 : m ≤ 65536 := by omega
  have hle := h.le
  rw [← unhide HN] at hle
  have hd1 : decide (((M : Nat) : Int) < 0) = false := by rw [decide_eq_false_iff_not]; omega
  have hd2 : decide (n < m) = false := by rw [decide_eq_false_iff_not]; omega
  go_enter Try.func49, Try.ntmps49
  go_wp2_with (refine (hTm _).mono ?_; clear hTm; rintro e w' ⟨rfl, rfl⟩)
  refine wp_region_ht (fun w' => w'.cell? ⟨r, 0, none⟩ = some (.slice (some ⟨g, 0, none⟩) n gc) ∧ w'.cell? ⟨r, 1, none⟩ = some (.int .i64 a)) 27 [(0, false), (1, false), (2, false), (3, false), (4, false), (5, false), (6, false), (7, false), (8, false), (9, false), (10, false), (11, false), (12, false), (13, false), (14, false), (15, false), (16, false), (17, false), (18, false), (19, false), (20, false), (21, false), (22, false), (23, false), (24, false), (25, false), (26, false)]
    (by kernel_rfl) (by kernel_rfl) (fun _ _ d _ _ h => by cases d <;> exact h) ⟨h0, h1⟩ ?_
  simp only [picked, List.filterMap_cons, List.filterMap_nil, List.getElem?_cons_zero, List.getElem?_cons_succ, Option.map_some, List.drop_succ_cons, List.drop_zero]
  iterate 27 (refine wpT_held ?_ (by rfl) ?_ ?_; rotate_left; (focus (intro W hW; obtain ⟨hW1, hW2⟩ := hW; go_simp; first | done | with_reducible rfl)); simp only [Act.put, List.setIfInBounds_toArray, List.set_cons_zero, List.set_cons_succ])
  refine wpT_nil ?_
  clear hs hmk
  go_wp2
  go_loop [8] (fun i => ∃ j : Nat, j ≤ m ∧ i = .int .i64 j) (fun i => m - (intOf i).toNat)
  case atStart => exact ⟨0, Nat.zero_le _, rfl⟩
  case round =>
    obtain ⟨j, hj, rfl⟩ := hrel
    by_cases hlt : j < m
    · obtain ⟨b, o, u, rfl, hx, hb, hcx⟩ := hr.at_ hlt
      have hjl : j < zs.length := by rw [unhide HL]; exact hlt
      simp only [nats, List.getElem?_map, List.getElem?_eq_getElem hjl, Option.map_some, Option.some.injEq] at hx
      subst hx
      have hzj := hz _ (List.getElem_mem hjl)
      generalize zs[j] = z at *
      have hTz := hTw z hzj w.drew
      have HZ := hide hzj
      clear hzj
      go_wp2_with (refine hTz.mono ?_; clear hTz; rintro e w' ⟨rfl, rfl⟩)
      go_round
      case rel => exact ⟨j + 1, by omega, by go_num⟩
      case measure => simp [intOf]; omega
    · obtain rfl : m = j := by omega
      clear hTw hd1 hd2
      go_wp2
      obtain ⟨L, hL⟩ : ∃ L, L = r :: (Value.slice (some ⟨g, 0, none⟩) bs.length gc).ownBlock.toList := ⟨_, rfl⟩
      have hgL : g ∈ L := by rw [hL]; simp [Value.ownBlock]
      have hrL : r ∈ L := by rw [hL]; simp
      rw [← hL] at hA
      have HLL := hide hL
      clear hL
      go_loopw [9] (fun i wr => ∃ j : Nat, j ≤ m ∧ i = .int .i64 j ∧ RefAt wr base r (.slice (some ⟨g, 0, none⟩) bs.length gc) (laid bs a ((zs.take j).flatMap (le k))) (a + k * j) ∧ Keep L w wr) (fun i _ => m - (intOf i).toNat)
      case atStart => exact ⟨0, Nat.zero_le _, rfl, by simpa using h.drew, (Keep.refl _ _).drew⟩
      case round =>
        obtain ⟨j, hj, rfl, hR, hkp⟩ := hrel
        by_cases hlt : j < m
        · obtain ⟨b, o, u, rfl, hx, hb, hcx⟩ := hr.at_ hlt
          have hbL : b ∉ L := hA _ rfl
          replace hcx := (hkp.cell hb hbL (o + j)).trans hcx
          have hjl : j < zs.length := by rw [unhide HL]; exact hlt
          simp only [nats, List.getElem?_map, List.getElem?_eq_getElem hjl, Option.map_some, Option.some.injEq] at hx
          subst hx
          have hzj := hz _ (List.getElem_mem hjl)
          have hfl : ((zs.take j).flatMap (le k)).length = k * j := by rw [flat_le_length, List.length_take]; congr 1; omega
          have hfs : (zs.take (j + 1)).flatMap (le k) = (zs.take j).flatMap (le k) ++ le k zs[j] := by rw [List.take_succ_eq_append_getElem hjl, List.flatMap_append]; simp
          have hkj : k * j + k ≤ k * m := by rw [← Nat.mul_succ]; exact Nat.mul_le_mul_left _ hlt
          have hmn : a + k * m ≤ n := by rw [← unhide HTT]; exact hm
          have hbn := unhide HN
          generalize zs[j] = z at *
          have hz4 : z < 256 ^ 4 := Nat.lt_of_lt_of_le hzj (Nat.pow_le_pow_right (by omega) hk1.2)
          obtain ⟨t, ht⟩ : ∃ t, t = a + k * j := ⟨_, rfl⟩
          obtain ⟨F, hF⟩ : ∃ F, F = (zs.take j).flatMap (le k) := ⟨_, rfl⟩
          rw [← hF] at hR hfl hfs
          rw [← ht] at hR
          have htn : t + k ≤ n := by omega
          have hFl : a + F.length = t := by omega
          have hz63 : z ≤ 9223372036854775807 := by omega
          have hown := hR.own
          have hll : (laid bs a F).length = bs.length := length_laid _ _ _ (by omega)
          rw [hll] at hown
          have hblk := hR.blk
          have HFS := hide hfs
          have HT := hide ht
          have HFL := hide hFl
          have HZ6 := hide hz63
          have HBN := hide hbn
          have HFK := hide hfl
          rw [← hbn] at hown hblk
          clear hfs ht hFl hz63 hz4 hzj hF hll hkj hmn hbn hfl hR
          go_wp2
          go_loopw [10, 11] (fun x i wi => ∃ q : Nat, q ≤ k ∧ i = .int .i64 q ∧ x = .int .i64 ((z / 256 ^ q : Nat) : Int) ∧ Blk wi r 92 #[.slice (some ⟨g, 0, none⟩) n gc, .int .i64 ((t + q : Nat) : Int)] ∧ wi.ownsRow base 5 1 (.slice (some ⟨g, 0, none⟩) n gc) n (bys (laid bs a (F ++ le q z))) ∧ Keep L w wi) (fun _ i _ => k - (intOf i).toNat)
          case atStart => exact ⟨0, Nat.zero_le _, rfl, by simp, by simpa using hblk, by simpa using hown, hkp⟩
          case round =>
            clear hblk hown hcx hkp
            obtain ⟨q, hq, rfl, rfl, hblk, hown, hkp⟩ := hrel
            have h0 : wr.cell? ⟨r, 0, none⟩ = some (.slice (some ⟨g, 0, none⟩) n gc) := by simpa using hblk.cell 0
            have h1 : wr.cell? ⟨r, 1, none⟩ = some (.int .i64 ((t + q : Nat) : Int)) := by simpa using hblk.cell 1
            have hf1 := hblk.frozen 1
            by_cases hq4 : q < k
            · have hbl : (bys (laid bs a (F ++ le q z))).length = n := by
                rw [length_bys, length_laid _ _ _ (by rw [List.length_append, length_le]; have := unhide HFL; have := unhide HBN; omega)]; exact (unhide HBN).symm
              have hcell : wr.cell? ⟨g, t + q, none⟩ = some ((bys (laid bs a (F ++ le q z)))[t + q]'(by rw [hbl]; omega)) := own_cell hown (List.getElem?_eq_getElem _)
              have hfz := own_frozen hown (t + q)
              generalize (bys (laid bs a (F ++ le q z)))[t + q]'_ = u at hcell
              have hs1 : IntKind.i64.wrap ((t : Nat) + (q : Nat) : Int) = (t : Nat) + (q : Nat) := by rw [IntKind.wrap_i64]; omega
              have hb0 : (0 : Int) ≤ (t : Nat) + (q : Nat) := by omega
              have hb1 : ((t : Nat) : Int) + (q : Nat) < (n : Nat) := by omega
              have hb2 : (((t : Nat) : Int) + (q : Nat)).toNat = t + q := by omega
              have hb3 : t + q < n := by omega
              have hrl := hblk.lt
              have hyl : z / 256 ^ q ≤ z := Nat.div_le_self _ _
              have hby := byte_and (z / 256 ^ q) (by have := unhide HZ6; omega)
              have hds : z / 256 ^ q / 256 = z / 256 ^ (q + 1) := by rw [Nat.div_div_eq_div_mul, Nat.pow_succ]
              have hdi : ((z / 256 ^ q : Nat) : Int) / 256 = ((z / 256 ^ (q + 1) : Nat) : Int) := by rw [← hds]; omega
              have HDI := hide hdi
              have HBY := hide hby
              have hrg : r ≠ g := fun e => own_blk_ne hown hblk (by decide) (by simp [Value.ownBlock, e])
              have HBL := hide hbl
              clear hbl hds hdi hby hyl
              generalize hyq : z / 256 ^ q = y at *
              have HYQ := hide hyq
              clear hyq
              go_wp2
              refine wp_region_ht (fun w' => w'.cell? ⟨r, 0, none⟩ = some (.slice (some ⟨g, 0, none⟩) n gc) ∧ w'.cell? ⟨r, 1, none⟩ = some (.int .i64 ((t + q : Nat) : Int))) 11 [(0, false), (1, false), (2, false), (3, false), (4, false), (5, false), (6, false), (7, false), (8, false), (9, false), (10, false)]
                (by kernel_rfl) (by kernel_rfl) (fun _ _ d _ _ h => by cases d <;> exact h) ⟨h0, h1⟩ ?_
              simp only [picked, List.filterMap_cons, List.filterMap_nil, List.getElem?_cons_zero, List.getElem?_cons_succ, Option.map_some, List.drop_succ_cons, List.drop_zero]
              iterate 11 (refine wpT_held ?_ (by rfl) ?_ ?_; rotate_left; (focus (intro W hW; obtain ⟨hW1, hW2⟩ := hW; go_simp; first | done | with_reducible rfl)); simp only [Act.put, List.setIfInBounds_toArray, List.set_cons_zero, List.set_cons_succ])
              refine wpT_nil ?_
              clear hs1 hb2
              go_wp2
              have hFL := unhide HFL
              have hBN := unhide HBN
              go_roundw
              case rel =>
                refine ⟨q + 1, by omega, by go_num, by rw [unhide HDI], ?_, ?_, ((hkp.setCell (p := ⟨g, t + q, none⟩) (.inl hgL) _).setCell (p := ⟨r, 1, none⟩) (.inl hrL) _).drew⟩
                · have := (((hblk.far (p := ⟨g, t + q, none⟩) hrg (.int .u8 (bits BinOp.and IntKind.i64 ((y : Nat) : Int) 255 % 256))).set 1 (.int .i64 ((t + (q + 1) : Nat) : Int))).drew)
                  simpa [Int.add_assoc] using this
                · rw [unhide HBY, le_succ, ← List.append_assoc, unhide HYQ]
                  have h2 := own_lay hown (by rw [List.length_append, length_le]; omega) (UInt8.ofNat (y % 256)) (t + q) (by rw [List.length_append, length_le]; omega)
                  exact own_keep0 (own_set h2 (by simpa [Value.ownBlock] using hrg) _) (Keep.refl _ _).drew
              case measure => simp [intOf]; omega
            · obtain rfl : k = q := by omega
              go_wp2
              have hnm : r ∉ (Value.slice (some ⟨g, 0, none⟩) n gc).ownBlock.toList := fun hm => own_blk_ne hown hblk (by decide) (by simpa using hm)
              have hFL := unhide HFL
              have hFK := unhide HFK
              have hBN := unhide HBN
              have hT := unhide HT
              have hFS := unhide HFS
              subst hBN
              have hll : (laid bs a (F ++ le k z)).length = bs.length := length_laid _ _ _ (by rw [List.length_append, length_le]; omega)
              go_roundw
              case rel =>
                refine ⟨j + 1, by omega, by go_num, ?_, hkp⟩
                rw [hFS, show a + k * (j + 1) = t + k by rw [Nat.mul_succ]; omega]
                exact ⟨hblk, by rw [hll]; exact hown, h.base, by omega, by omega⟩
              case measure => simp [intOf]; omega
        · obtain rfl : m = j := by omega
          go_wp2
          go_ret
          rw [List.take_of_length_le (Nat.le_of_eq (unhide HL))] at hR
          exact ⟨rfl, hR, by rw [← unhide HLL]; exact hkp⟩
end Go.Proofs.Ytplfijhianmohaa
