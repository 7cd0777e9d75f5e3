/-
  LinkOrder: the walk.
-/
import Derived.Test.YtfbejbkacpkalaaLinkO
namespace Go.Proofs.Ytfbejbkacpkalaa
open Go.RowKit

theorem cell_lt {w : World} {a : Addr} {v : Value} (h : w.cell? a = some v) : a.block < w.heap.size := by
  unfold World.cell? at h
  split at h
  · rename_i hb; exact (Array.getElem?_eq_some_iff.1 hb).1
  · cases h
theorem addr_block (a : Addr) (n : Nat) : (a.add n).block = a.block := by unfold Addr.add; split <;> rfl
theorem ones_succ (m : Nat) : ones (List.range (m + 1)) = ones (List.range m) ++ [[UInt8.ofNat m]] := by simp [ones, List.range_succ]

set_option maxHeartbeats 4000000 in
set_option maxRecDepth 100000 in
theorem order_walk (x n : Int) (A : Option Addr) (len cap : Nat) (zs : List Int) (w : World)
    (hrow : (A = none ∧ len = 0) ∨ ∃ a, A = some a ∧ len ≤ zs.length ∧ ∀ i, i < zs.length → w.cell? (a.add i) = some (.int .i64 (zs.getD i 0)) ∧ a.block < w.heap.size) (hlen : len ≤ 9223372036854775807) :
    Calls Try.prog 3 #[.int .i64 x, .int .i64 n, .slice A len cap] w fun e w' => e = .returned (.bool true) ∧ Keep [] w w' := by
  by_cases hbig : 40 < len
  · go_enter Try.func3, Try.ntmps3
    have hb : (40 : Int) < (len : Nat) := by omega
    go_wp2_with (refine (awake_any _).mono ?_; rintro e w' ⟨rfl, hk⟩)
    go_ret
    exact ⟨rfl, hk⟩
  have hb : ¬ (40 : Int) < (len : Nat) := by omega
  obtain ⟨k, hk, hk41⟩ : ∃ k : Nat, n % 41 = (k : Int) ∧ k < 41 := ⟨(n % 41).toNat, by omega, by omega⟩
  have HR : Calls Try.prog 8 #[.int .i64 n, .int .i64 41] w fun e w' => e = .returned (.int .i64 (k : Nat)) ∧ w = w' := by
    rw [← hk]; exact Round_any _ _ _ (by omega) (by omega)
  clear hk
  go_enter Try.func3, Try.ntmps3
  go_wp2_with (refine HR.mono ?_; clear HR; rintro e w' ⟨rfl, rfl⟩)
  go_wp2_with (refine (New_own _).mono ?_; rintro e w1 ⟨b, rfl, hL1⟩)
  go_loopw [9] (fun i wr => ∃ m v ls, m ≤ k ∧ i = .int .i64 (m : Nat) ∧ Lnk w wr b v ls ∧ ls.length = m ∧ Hid (ls.map (·.2) = ones (List.range m))) (fun i _ => k - (intOf i).toNat)
  case atStart => exact ⟨0, _, _, Nat.zero_le _, rfl, hL1, rfl, rfl⟩
  case round =>
    obtain ⟨m, v, ls, hm, rfl, hL, hl, hmap⟩ := hrel
    have HL := hide hl
    clear hl hL1
    by_cases hlt : m < k
    · have hu8 : ((m : Nat) : Int) = ((UInt8.ofNat m).toNat : Nat) := by
        rw [UInt8.toNat_ofNat']
        omega
      have hT := Send_byte w wr b v ls hL (UInt8.ofNat m) _ hu8 m (unhide HL) (by omega)
      clear hu8
      go_wp2_with (refine hT.mono ?_; clear hT; rintro e w' ⟨v', ls', rfl, hL', hl', hmap'⟩)
      go_roundw
      case rel => exact ⟨m + 1, v', ls', by omega, by go_num, hL', hl', by show _ = _; rw [hmap', unhide hmap, ones_succ]⟩
      case measure => simp [intOf]; omega
    · obtain rfl : k = m := by omega
      go_wp2
      have hM : Blk (wr.alloc (.cells #[.bool false, .bool false, .bool false, .bool false, .bool false, .bool false, .bool false, .bool false, .bool false, .bool false, .bool false, .bool false, .bool false, .bool false, .bool false, .bool false, .bool false, .bool false, .bool false, .bool false, .bool false, .bool false, .bool false, .bool false, .bool false, .bool false, .bool false, .bool false, .bool false, .bool false, .bool false, .bool false, .bool false, .bool false, .bool false, .bool false, .bool false, .bool false, .bool false, .bool false, .bool false] 29)) wr.heap.size 29 (marks k (List.range k)) := by
        rw [marks_all]; exact Blk.new _ _ _
      have hL2 := hL.keep0 ((Keep.refl _ _).alloc (.cells #[.bool false, .bool false, .bool false, .bool false, .bool false, .bool false, .bool false, .bool false, .bool false, .bool false, .bool false, .bool false, .bool false, .bool false, .bool false, .bool false, .bool false, .bool false, .bool false, .bool false, .bool false, .bool false, .bool false, .bool false, .bool false, .bool false, .bool false, .bool false, .bool false, .bool false, .bool false, .bool false, .bool false, .bool false, .bool false, .bool false, .bool false, .bool false, .bool false, .bool false, .bool false] 29))
      have hgn := hL.keep.size
      obtain ⟨g, hg⟩ : ∃ g, g = wr.heap.size := ⟨_, rfl⟩
      rw [← hg] at hM hgn
      simp only [← hg]
      generalize wr.alloc _ = wa at *
      clear hL hg hlt wr
      go_loopw [11] (fun i wr => ∃ j v ls L, j ≤ len ∧ i = .int .i64 (j : Nat) ∧ Lnk w wr b v ls ∧ Hid (ls.map (·.2) = ones L) ∧ Blk wr g 29 (marks k L) ∧ Hid (L.Pairwise (· < ·)) ∧ Hid (∀ x ∈ L, x < k)) (fun i _ => len - (intOf i).toNat)
      case atStart => exact ⟨0, v, ls, List.range k, Nat.zero_le _, rfl, hL2, hmap, hM, List.pairwise_lt_range, fun x hx => List.mem_range.1 hx⟩
      case round =>
        clear hmap hM hL2 HL
        obtain ⟨j, v, ls, L, hj, rfl, hL, hmap, hM, hs, hlk⟩ := hrel
        have hll : ls.length = L.length := by have := congrArg List.length (unhide hmap); simpa [ones] using this
        by_cases hgo : j < len ∧ 0 < L.length
        · obtain ⟨hjl, h0⟩ := hgo
          focus
            rcases hrow with ⟨_, hl0⟩ | ⟨a, hA, hzl, hcell⟩
            · omega
            subst hA
            have hcz := (hcell j (by omega)).1
            have hab := (hcell j (by omega)).2
            obtain ⟨z, hz⟩ : ∃ z, z = zs.getD j 0 := ⟨_, rfl⟩
            rw [← hz] at hcz
            have hcw : wr.cell? (a.add j) = some (.int .i64 z) := (hL.keep.cellA (by rw [addr_block]; exact hab) (by simp)).trans hcz
            clear hcell hz
            obtain ⟨q, hq, hqL⟩ : ∃ q : Nat, z % ((L.length : Nat) : Int) = (q : Int) ∧ q < L.length := ⟨(z % ((L.length : Nat) : Int)).toNat, by have := Int.emod_nonneg z (b := ((L.length : Nat) : Int)) (by omega); omega, by have := Int.emod_lt_of_pos z (b := ((L.length : Nat) : Int)) (by omega); omega⟩
            have hTR : ∀ W : World, Calls Try.prog 8 #[.int .i64 z, .int .i64 (L.length : Nat)] W fun e w' => e = .returned (.int .i64 (q : Nat)) ∧ W = w' := fun W => by
              rw [← hq]; exact Round_any _ _ _ (by omega) (by have := hL.lk.few; omega)
            obtain ⟨u, l, hul, hlq⟩ : ∃ u l, ls[q]'(by omega) = (u, [UInt8.ofNat l]) ∧ L[q] = l := by
              refine ⟨(ls[q]'(by omega)).1, L[q], ?_, rfl⟩
              have h1 : (ls.map (·.2))[q]'(by simp; omega) = [UInt8.ofNat L[q]] := by simp only [unhide hmap]; simp [ones]
              rw [List.getElem_map] at h1
              rw [← h1]
            have hLd : Lnk w wr.drew b v ls := hL.keep0 (Keep.refl _ _).drew
            have hTT := Take_own w wr.drew b v ls hLd (q : Nat) q u _ rfl (by omega) hul
            have hlk' : l < k := by rw [← hlq]; exact unhide hlk _ (List.getElem_mem _)
            have hfar : (a.add j).block ∉ b :: v.ownBlock.toList := fun hm => by
              have := hL.bv_new _ hm
              rw [addr_block] at this
              omega
            have HQ := hide hlq
            have HH := hide hul
            have HF := hide hfar
            clear hq hul hlq hfar
            have hT := Len_any wr b v ls hL.lk
            have hT2 := Len_any wr.drew b v ls hLd.lk
            rw [hll] at hT hT2
            go_wp2_with (refine hT.mono ?_; clear hT; rintro e w' ⟨rfl, rfl⟩)
            refine wp_region_ht (fun w' => w'.cell? (a.add j) = some (.int .i64 z)) 13 [(0, false), (1, false), (2, false), (3, false), (4, false), (5, false), (6, true), (7, true), (8, true), (9, false), (10, false), (11, false), (12, false)]
              (by kernel_rfl) (by kernel_rfl) (fun _ _ d _ _ h => by cases d <;> exact h) hcw ?_
            simp only [picked, List.filterMap_cons, List.filterMap_nil, List.getElem?_cons_zero, List.getElem?_cons_succ, Option.map_some, List.drop_succ_cons, List.drop_zero]
            iterate 6 (refine wpT_held ?_ (by rfl) ?_ ?_; rotate_left; (focus (intro W hW; go_simp; first | done | with_reducible rfl)); simp only [Act.put, List.setIfInBounds_toArray, List.set_cons_zero, List.set_cons_succ])
            refine wpT_loud (by rfl) (fun K hK => ?_)
            go_wp2_with (refine hT2.mono ?_; clear hT2; rintro e w' ⟨rfl, rfl⟩)
            refine hK _ _ hcw ?_
            clear hK K
            try simp only [Act.put, List.setIfInBounds_toArray, List.set_cons_zero, List.set_cons_succ]
            refine wpT_loud (by rfl) (fun K hK => ?_)
            go_wp2_with (refine (hTR _).mono ?_; clear hTR; rintro e w' ⟨rfl, rfl⟩)
            refine hK _ _ hcw ?_
            clear hK K
            try simp only [Act.put, List.setIfInBounds_toArray, List.set_cons_zero, List.set_cons_succ]
            refine wpT_loud (by rfl) (fun K hK => ?_)
            go_wp2_with (refine hTT.mono ?_; clear hTT; rintro e w2 ⟨v2, rfl, hL2, hv2, hk2, ho2⟩)
            refine hK _ _ ((hk2.cellA (by rw [addr_block]; exact Nat.lt_of_lt_of_le hab hL.keep.size) (unhide HF)).trans hcw) ?_
            clear hK K
            try simp only [Act.put, List.setIfInBounds_toArray, List.set_cons_zero, List.set_cons_succ]
            iterate 4 (refine wpT_held ?_ (by rfl) ?_ ?_; rotate_left; (focus (intro W hW; go_simp; first | done | with_reducible rfl)); simp only [Act.put, List.setIfInBounds_toArray, List.set_cons_zero, List.set_cons_succ])
            refine wpT_nil ?_
            have hM2 := hM.drew.keep hk2 (hL.lk.far_blk hM (by decide) (by decide))
            obtain ⟨g1, c1, rfl, hcu⟩ := own_one ho2
            have hl8 : ((UInt8.ofNat l).toNat : Int) = (l : Nat) := by rw [UInt8.toNat_ofNat']; omega
            rw [hl8] at hcu
            have hcg : w2.cell? ⟨g, l, none⟩ = some (.bool false) := by
              rw [hM2.cell, marks_get _ _ _ (by omega)]
              have : l ∈ L := by rw [← unhide HQ]; exact List.getElem_mem _
              simp [this]
            have hfg := hM2.frozen l
            clear hl8
            have HLK := hide hlk'
            go_wp2
            go_roundw
            case rel =>
              have hl := unhide HQ
              refine ⟨j + 1, v2, ls.eraseIdx q, L.eraseIdx q, by omega, by go_num, hL2.far hM2 (by omega) (by decide) (by decide) (by decide) _ _, ?_, ?_, ?_, ?_⟩
              · show _ = _
                rw [← eraseIdx_map', unhide hmap]
                exact eraseIdx_map' _ _ _
              · have := hM2.set l (.bool true)
                rwa [← hl, marks_take k L (unhide hs) (unhide hlk) q hqL (by omega), hl] at this
              · exact List.Pairwise.sublist (List.eraseIdx_sublist _ _) (unhide hs)
              · exact fun x hx => unhide hlk x (List.mem_of_mem_eraseIdx hx)
            case measure => simp [intOf]; omega
        · have hfin : True := trivial
          by_cases hjl : j < len
          have h0 : L.length = 0 := by omega
          have hT := Len_any wr b v ls hL.lk
          rw [hll, h0] at hT
          go_wp2_with (refine hT.mono ?_; clear hT; rintro e w' ⟨rfl, rfl⟩)
          clear h0
          rotate_left
          go_wp2
          all_goals
            have hlast : ∀ x ∈ L, (-1 : Int) < (x : Nat) := fun x _ => by omega
            go_loopw [14] (fun i wr => ∃ last v ls L, i = .int .i64 last ∧ -1 ≤ last ∧ Lnk w wr b v ls ∧ Hid (ls.map (·.2) = ones L) ∧ Blk wr g 29 (marks k L) ∧ Hid (L.Pairwise (· < ·)) ∧ Hid (∀ x ∈ L, x < k) ∧ Hid (∀ x ∈ L, last < ((x : Nat) : Int))) (fun i _ => ((k : Int) - intOf i).toNat)
            case atStart => exact ⟨-1, v, ls, L, rfl, by omega, hL, hmap, hM, hs, hlk, hlast⟩
            case round =>
              clear hL hmap hM hs hlk hlast hll hgo
              obtain ⟨last, v, ls, L, rfl, hl1, hL, hmap, hM, hs, hlk, hlast⟩ := hrel
              have hll : ls.length = L.length := by have := congrArg List.length (unhide hmap); simpa [ones] using this
              have hT := Len_any wr b v ls hL.lk
              rw [hll] at hT
              cases L with
              | nil =>
                go_wp2_with (refine hT.mono ?_; clear hT; rintro e w' ⟨rfl, rfl⟩)
                clear hmap hs hlk hlast
                go_loopw [18] (fun i wr' => wr' = wr ∧ ∃ m, m ≤ k ∧ i = .int .i64 (m : Nat)) (fun i _ => k - (intOf i).toNat)
                case atStart => exact ⟨rfl, 0, Nat.zero_le _, rfl⟩
                case round =>
                  obtain ⟨rfl, m, hm, rfl⟩ := hrel
                  by_cases hmk : m < k
                  · have hcg : wr.cell? ⟨g, m, none⟩ = some (.bool true) := by
                      rw [hM.cell, marks_get _ _ _ (by omega)]
                      simp [hmk]
                    go_wp2
                    go_roundw
                    case rel => exact ⟨trivial, m + 1, by omega, by go_num⟩
                    case measure => simp [intOf]; omega
                  · go_wp2_with (refine (awake_any _).mono ?_; rintro e w' ⟨rfl, hk⟩)
                    go_ret
                    exact ⟨rfl, hL.keep.trans0 hk⟩
              | cons l L =>
                cases ls with
                | nil => simp at hll
                | cons p ls =>
                  have hp2 : p.2 = [UInt8.ofNat l] := by have := unhide hmap; simp [ones] at this; exact this.1
                  have hmap2 : ls.map (·.2) = ones L := by have := unhide hmap; simp [ones] at this ⊢; exact this.2
                  have hls : ls.length = L.length := by simpa using hll
                  obtain ⟨u, bs⟩ := p
                  simp only at hp2
                  subst hp2
                  have hT2 := hT
                  simp only [List.length_cons, Int.natCast_add, Int.natCast_one] at hT hT2
                  have hTT := Take_own w wr b v _ hL 0 0 u _ rfl (by simp) rfl
                  have hfew : L.length ≤ 64 := by have := hL.lk.few; simp at this; omega
                  have HP := hide hmap2
                  have HS := hide hls
                  clear hmap2 hls hll
                  go_wp2_with (refine hT.mono ?_; clear hT; rintro e w' ⟨rfl, rfl⟩)
                  go_wp2_with (refine hT2.mono ?_; clear hT2; rintro e w' ⟨rfl, rfl⟩)
                  have hlk' : l < k := unhide hlk _ List.mem_cons_self
                  have hlast' : last < ((l : Nat) : Int) := unhide hlast _ List.mem_cons_self
                  have hl8 : ((UInt8.ofNat l).toNat : Int) = (l : Nat) := by rw [UInt8.toNat_ofNat']; omega
                  have hgn := hL.lk.far_blk hM (by decide) (by decide)
                  have hcg0 : wr.cell? ⟨g, l, none⟩ = some (.bool false) := by
                    rw [hM.cell, marks_get _ _ _ (by omega)]
                    simp
                  have H8 := hide hl8
                  have HG := hide hgn
                  clear hl8 hgn
                  go_wp2_with (refine hTT.mono ?_; clear hTT; rintro e w2 ⟨v2, rfl, hL2, hv2, hk2, ho2⟩; (obtain ⟨g1, c1, rfl, hcu⟩ := own_one ho2); rw [unhide H8] at hcu; (have hM2 := hM.keep hk2 (unhide HG)); (have hcg := (hk2.cell hM.lt (unhide HG) l).trans hcg0); have hT := Len_any w2 b v2 ls hL2.lk; rw [unhide HS] at hT; have hfg := hM2.frozen l)
                  go_wp2_with (refine hT.mono ?_; clear hT; rintro e w' ⟨rfl, rfl⟩)
                  have hss := List.pairwise_cons.1 (unhide hs)
                  refine ⟨?_, by simp [intOf]; omega⟩
                  focus
                    refine ⟨(l : Nat), v2, ls, L, rfl, by omega, hL2.far hM2 (by omega) (by decide) (by decide) (by decide) _ _, HP, ?_, ?_, ?_, ?_⟩
                    · have := hM2.set l (.bool true)
                      have hh := marks_take k (l :: L) (unhide hs) (unhide hlk) 0 (by simp) (by omega)
                      simp only [List.getElem_cons_zero, List.eraseIdx_cons_zero] at hh
                      rwa [hh] at this
                    · exact hss.2
                    · exact fun x hx => unhide hlk x (List.mem_cons_of_mem _ hx)
                    · exact fun x hx => by have := hss.1 x hx; omega
end Go.Proofs.Ytfbejbkacpkalaa
