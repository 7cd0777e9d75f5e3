/-
  Contracts of row.Row: Put.
-/
import Derived.Test.YtplfijhianmohaaRow2
namespace Go.Proofs.Ytplfijhianmohaa
open Go.RowKit

def nats (zs : List Nat) : List Value := zs.map fun z => .int .i64 (z : Nat)
@[simp] theorem length_nats (zs : List Nat) : (nats zs).length = zs.length := by simp [nats]
theorem flat_le_length (k : Nat) (zs : List Nat) : (zs.flatMap (le k)).length = k * zs.length := by
  induction zs with
  | nil => simp
  | cons z zs ih => rw [List.flatMap_cons, List.length_append, ih, length_le, List.length_cons, Nat.mul_succ]; omega

set_option maxHeartbeats 4000000 in
set_option maxRecDepth 20000 in
theorem Put_row (w : World) (base r a k : Nat) (v : Value) (bs : List UInt8) (h : RowAt w base r v bs a) (hk : k = 1 ∨ k = 2 ∨ k = 4) (A : Option Addr) (m c : Nat) (zs : List Nat) (hr : Rd w A m (nats zs))
    (hA : ∀ p, A = some p → p.block ∉ r :: v.ownBlock.toList) (hz : ∀ z ∈ zs, z < 256 ^ k) (hm0 : 0 < m) (hm : a + k * m ≤ bs.length) :
    Calls Try.prog 54 #[.pointer (some ⟨r, 0, none⟩), .int .i64 (k : Nat), .slice A m c] w fun e w' => e = .returned (.bool true) ∧ RowAt w' base r v (laid bs a (zs.flatMap (le k))) (a + k * m) ∧ Keep (r :: v.ownBlock.toList) w w' := by
  have hk1 : 1 ≤ k ∧ k ≤ 4 := by omega
  have hkm : m ≤ k * m := Nat.le_mul_of_pos_left _ (by omega)
  obtain ⟨g, gc, rfl, hc⟩ := own_some h.own (by omega)
  have hfew := h.few
  have hT := Left_any w base r a _ bs h
  have hTw := fun W => wide_any k hk W
  obtain ⟨n, hn⟩ : ∃ n, n = bs.length := ⟨_, rfl⟩
  rw [← hn] at hT hm hc hfew
  have HN := hide hn
  have hl : zs.length = m := by simpa using hr.1
  have hq : decide ((((n : Nat) : Int) - (a : Nat)) / (k : Nat) < (m : Nat)) = false := by
    rw [decide_eq_false_iff_not, Int.not_lt, Int.le_ediv_iff_mul_le (by omega)]
    rw [← Int.natCast_mul, Nat.mul_comm]
    omega
  have HL := hide hl
  clear hk hn hl
  have hm63 : m ≤ 65536 := by omega
  have hle := h.le
  rw [← unhide HN] at hle
  clear hkm
  have HM := hide hm
  clear hm
  go_enter Try.func54, Try.ntmps54
  go_wp2_with (first | (refine (hTw _).mono ?_; clear hTw; rintro e w' ⟨rfl, rfl⟩) | (refine hT.mono ?_; clear hT; rintro e w' ⟨rfl, rfl⟩))
  go_loop [8, 30] (fun _ i => ∃ j : Nat, j ≤ m ∧ i = .int .i64 j) (fun _ i => m - (intOf i).toNat)
  case atStart => exact ⟨0, Nat.zero_le _, rfl⟩
  case round =>
    obtain ⟨j, hj, rfl⟩ := hrel
    by_cases hlt : j < m
    · obtain ⟨b, o, u, rfl, hx, hb, hcx⟩ := hr.at_ hlt
      have hjl : j < zs.length := by rw [unhide HL]; exact hlt
      simp only [nats, List.getElem?_map, List.getElem?_eq_getElem hjl, Option.map_some, Option.some.injEq] at hx
      subst hx
      have hzj := hz _ (List.getElem_mem hjl)
      generalize zs[j] = z at *
      have hz8 : ((((z : Nat) : Int) / 2 ^ (8 * k)) != 0) = false := by
        have hp : ((2 : Int) ^ (8 * k)) = ((256 ^ k : Nat) : Int) := by rw [Int.natCast_pow, show ((256 : Nat) : Int) = 2 ^ 8 by rfl, Int.pow_mul]
        rw [hp, ← Int.natCast_ediv, Nat.div_eq_of_lt hzj]; rfl
      have HZ := hide hzj
      clear hzj
      go_wp2
      go_round
      case rel => exact ⟨j + 1, by omega, by go_num⟩
      case measure => simp [intOf]; omega
    · obtain rfl : m = j := by omega
      clear hq
      go_wp2
      obtain ⟨L, hL⟩ : ∃ L, L = r :: (Value.slice (some ⟨g, 0, none⟩) bs.length gc).ownBlock.toList := ⟨_, rfl⟩
      have hgL : g ∈ L := by rw [hL]; simp [Value.ownBlock]
      have hrL : r ∈ L := by rw [hL]; simp
      rw [← hL] at hA
      have HLL := hide hL
      clear hL
      go_loopw [46] (fun i wr => ∃ j : Nat, j ≤ m ∧ i = .int .i64 j ∧ RowAt wr base r (.slice (some ⟨g, 0, none⟩) bs.length gc) (laid bs a ((zs.take j).flatMap (le k))) (a + k * j) ∧ Keep L w wr) (fun i _ => m - (intOf i).toNat)
      case atStart => exact ⟨0, Nat.zero_le _, rfl, by simpa using h.drew, (Keep.refl _ _).drew⟩
      case round =>
        obtain ⟨j, hj, rfl, hR, hkp⟩ := hrel
        by_cases hlt : j < m
        · obtain ⟨b, o, u, rfl, hx, hb, hcx⟩ := hr.at_ hlt
          have hbL : b ∉ L := hA _ rfl
          replace hcx := (hkp.cell hb hbL (o + j)).trans hcx
          have hjl : j < zs.length := by rw [unhide HL]; exact hlt
          simp only [nats, List.getElem?_map, List.getElem?_eq_getElem hjl, Option.map_some, Option.some.injEq] at hx
          subst hx
          have hzj := hz _ (List.getElem_mem hjl)
          have hfl : ((zs.take j).flatMap (le k)).length = k * j := by rw [flat_le_length, List.length_take]; congr 1; omega
          have hfs : (zs.take (j + 1)).flatMap (le k) = (zs.take j).flatMap (le k) ++ le k zs[j] := by rw [List.take_succ_eq_append_getElem hjl, List.flatMap_append]; simp
          have hkj : k * j + k ≤ k * m := by rw [← Nat.mul_succ]; exact Nat.mul_le_mul_left _ hlt
          have hmn := unhide HM
          have hbn := unhide HN
          generalize zs[j] = z at *
          have hz4 : z < 256 ^ 4 := Nat.lt_of_lt_of_le hzj (Nat.pow_le_pow_right (by omega) hk1.2)
          obtain ⟨t, ht⟩ : ∃ t, t = a + k * j := ⟨_, rfl⟩
          obtain ⟨F, hF⟩ : ∃ F, F = (zs.take j).flatMap (le k) := ⟨_, rfl⟩
          rw [← hF] at hR hfl hfs
          rw [← ht] at hR
          have htn : t + k ≤ n := by omega
          have hFl : a + F.length = t := by omega
          have hz63 : z ≤ 9223372036854775807 := by omega
          have hown := hR.own
          have hll : (laid bs a F).length = bs.length := length_laid _ _ _ (by omega)
          rw [hll] at hown
          have hblk := hR.blk
          have HFS := hide hfs
          have HT := hide ht
          have HFL := hide hFl
          have HZ6 := hide hz63
          have HBN := hide hbn
          have HFK := hide hfl
          rw [← hbn] at hown hblk
          clear hfs ht hFl hz63 hz4 hzj hF hll hkj hmn hbn hfl hR
          go_wp2
          go_loopw [51] (fun i wi => ∃ q : Nat, q ≤ k ∧ i = .int .i64 q ∧ Blk wi r 97 #[.slice (some ⟨g, 0, none⟩) n gc, .int .i64 t] ∧ wi.ownsRow base 5 1 (.slice (some ⟨g, 0, none⟩) n gc) n (bys (laid bs a (F ++ le q z))) ∧ Keep L w wi) (fun i _ => k - (intOf i).toNat)
          case atStart => exact ⟨0, Nat.zero_le _, rfl, hblk, by simpa using hown, hkp⟩
          case round =>
            clear hblk hown hcx hkp
            obtain ⟨q, hq, rfl, hblk, hown, hkp⟩ := hrel
            have h0 : wr.cell? ⟨r, 0, none⟩ = some (.slice (some ⟨g, 0, none⟩) n gc) := by simpa using hblk.cell 0
            have h1 : wr.cell? ⟨r, 1, none⟩ = some (.int .i64 t) := by simpa using hblk.cell 1
            have hf1 := hblk.frozen 1
            by_cases hq4 : q < k
            · have hbl : (bys (laid bs a (F ++ le q z))).length = n := by
                rw [length_bys, length_laid _ _ _ (by rw [List.length_append, length_le]; have := unhide HFL; have := unhide HBN; omega)]; exact (unhide HBN).symm
              have hcell : wr.cell? ⟨g, t + q, none⟩ = some ((bys (laid bs a (F ++ le q z)))[t + q]'(by rw [hbl]; omega)) := own_cell hown (List.getElem?_eq_getElem _)
              have hfz := own_frozen hown (t + q)
              generalize (bys (laid bs a (F ++ le q z)))[t + q]'_ = u at hcell
              have hs1 : IntKind.i64.wrap ((t : Nat) + (q : Nat) : Int) = (t : Nat) + (q : Nat) := by rw [IntKind.wrap_i64]; omega
              have hs2 : IntKind.i64.wrap (8 * (q : Nat) : Int) = 8 * (q : Nat) := by rw [IntKind.wrap_i64]; omega
              have hb0 : (0 : Int) ≤ (t : Nat) + (q : Nat) := by omega
              have hb1 : ((t : Nat) : Int) + (q : Nat) < (n : Nat) := by omega
              have hb2 : (((t : Nat) : Int) + (q : Nat)).toNat = t + q := by omega
              have HBL := hide hbl
              clear hbl
              go_wp2
              refine wp_region_ht (fun w' => w'.cell? ⟨r, 0, none⟩ = some (.slice (some ⟨g, 0, none⟩) n gc) ∧ w'.cell? ⟨r, 1, none⟩ = some (.int .i64 t)) 16 [(0, false), (1, false), (2, false), (3, false), (4, false), (5, false), (6, false), (7, false), (8, false), (9, false), (10, false), (11, false), (12, false), (13, false), (14, false), (15, false)]
                (by kernel_rfl) (by kernel_rfl) (fun _ _ d _ _ h => by cases d <;> exact h) ⟨h0, h1⟩ ?_
              simp only [picked, List.filterMap_cons, List.filterMap_nil, List.getElem?_cons_zero, List.getElem?_cons_succ, Option.map_some, List.drop_succ_cons, List.drop_zero]
              iterate 16 (refine wpT_held ?_ (by rfl) ?_ ?_; rotate_left; (focus (intro W hW; obtain ⟨hW1, hW2⟩ := hW; go_simp; first | done | with_reducible rfl)); simp only [Act.put, List.setIfInBounds_toArray, List.set_cons_zero, List.set_cons_succ])
              refine wpT_nil ?_
              clear hs1 hs2
              go_wp2
              have hrg : r ≠ g := fun e => own_blk_ne hown hblk (by decide) (by simp [Value.ownBlock, e])
              have hFL := unhide HFL
              have hBN := unhide HBN
              go_roundw
              case rel =>
                refine ⟨q + 1, by omega, by go_num, (hblk.far (p := ⟨g, t + q, none⟩) hrg _).drew, ?_, (hkp.setCell (p := ⟨g, t + q, none⟩) (.inl hgL) _).drew⟩
                rw [byte_of _ _ (unhide HZ6) (by omega), le_succ, ← List.append_assoc]
                exact own_keep0 (own_lay hown (by rw [List.length_append, length_le]; omega) _ _ (by rw [List.length_append, length_le]; omega)) (Keep.refl _ _).drew
              case measure => simp [intOf]; omega
            · obtain rfl : k = q := by omega
              have hrl := hblk.lt
              go_wp2
              have hnm : r ∉ (Value.slice (some ⟨g, 0, none⟩) n gc).ownBlock.toList := fun hm => own_blk_ne hown hblk (by decide) (by simpa using hm)
              have hFL := unhide HFL
              have hFK := unhide HFK
              have hBN := unhide HBN
              have hT := unhide HT
              have hFS := unhide HFS
              subst hBN
              have hll : (laid bs a (F ++ le k z)).length = bs.length := length_laid _ _ _ (by rw [List.length_append, length_le]; omega)
              go_roundw
              case rel =>
                refine ⟨j + 1, by omega, by go_num, ?_, hkp.setCell (p := ⟨r, 1, none⟩) (.inl hrL) _⟩
                rw [hFS, show a + k * (j + 1) = t + k by rw [Nat.mul_succ]; omega]
                refine ⟨?_, by rw [hll]; exact own_set hown hnm _, h.base, by omega, by omega⟩
                have := hblk.set 1 (.int .i64 ((t + k : Nat)))
                simpa using this
              case measure => simp [intOf]; omega
        · obtain rfl : m = j := by omega
          go_wp2
          go_ret
          rw [List.take_of_length_le (Nat.le_of_eq (unhide HL))] at hR
          exact ⟨rfl, hR, by rw [← unhide HLL]; exact hkp⟩
end Go.Proofs.Ytplfijhianmohaa
