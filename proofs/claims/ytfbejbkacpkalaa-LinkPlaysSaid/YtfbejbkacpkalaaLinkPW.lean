/-
  LinkPlays: the walk.
-/
import Derived.Test.YtfbejbkacpkalaaRefL4
namespace Go.Proofs.Ytfbejbkacpkalaa
open Go.RowKit

/-- The program's link and the reference's, side by side: apart in memory, alike in what they hold. -/
structure Both (w0 w : World) (b b2 : Nat) (v Lv Sv : Value) (ls ms : List (Value × List UInt8)) (s : Nat) : Prop where
  l : Lnk w0 w b v ls
  r : Rf w0 w b2 Lv Sv ms s
  off : ∀ g ∈ Rf.rp b2 Lv Sv ms, g ∉ Lk.fp b v ls
  same : ls.map (·.2) = ms.map (·.2)
namespace Both
variable {w0 w w' : World} {b b2 s s' : Nat} {v v' Lv Lv' Sv Sv' : Value} {ls ls' ms ms' : List (Value × List UInt8)}
theorem keep0 (h : Both w0 w b b2 v Lv Sv ls ms s) (hk : Keep [] w w') : Both w0 w' b b2 v Lv Sv ls ms s := ⟨h.l.keep0 hk, h.r.keep0 hk, h.off, h.same⟩
/-- the program's link turns -/
theorem turnL (h : Both w0 w b b2 v Lv Sv ls ms s) {l : List Nat} (hL : Lnk w0 w' b v' ls') (hk : Keep l w w') (hl : ∀ x ∈ l, x ∈ Lk.fp b v ls) (hg : Grow w (Lk.fp b v ls) (Lk.fp b v' ls')) :
    Rf w0 w' b2 Lv Sv ms s ∧ ∀ g ∈ Rf.rp b2 Lv Sv ms, g ∉ Lk.fp b v' ls' :=
  ⟨h.r.same (fun g hg' => hk.block g (h.r.rp_lt g hg') (fun hm => h.off g hg' (hl g hm))) hL.keep, fun g hg' hm => by
    rcases hg g hm with h1 | h1
    · exact h.off g hg' h1
    · have := h.r.rp_lt g hg'; omega⟩
/-- the reference's turns -/
theorem turnR (hL : Lnk w0 w b v ls) (hR : Rf w0 w b2 Lv Sv ms s) (ho : ∀ g ∈ Rf.rp b2 Lv Sv ms, g ∉ Lk.fp b v ls) {l : List Nat} (hR' : Rf w0 w' b2 Lv' Sv' ms' s') (hk : Keep l w w') (hl : ∀ x ∈ l, x ∈ Rf.rp b2 Lv Sv ms) (hg : Grow w (Rf.rp b2 Lv Sv ms) (Rf.rp b2 Lv' Sv' ms'))
    (hs : ls.map (·.2) = ms'.map (·.2)) : Both w0 w' b b2 v Lv' Sv' ls ms' s' :=
  ⟨⟨hL.lk.same fun g hg' => hk.block g (hL.lk.fp_lt g hg') (fun hm => ho g (hl g hm) hg'), hL.new, hR'.keep⟩, hR', fun g hg' hm => by
    rcases hg g hg' with h1 | h1
    · exact ho g h1 hm
    · have := hL.lk.fp_lt g hm; omega, hs⟩
end Both

theorem rp_b {b : Nat} {Lv Sv : Value} {ms : List (Value × List UInt8)} : ∀ x ∈ [b], x ∈ Rf.rp b Lv Sv ms := fun x hx => by simp at hx; simp [Rf.rp, hx]
theorem rp_bs {b : Nat} {Lv Sv : Value} {ms : List (Value × List UInt8)} : ∀ x ∈ b :: Sv.ownBlock.toList, x ∈ Rf.rp b Lv Sv ms := fun x hx => by
  simp only [Rf.rp, List.mem_cons, List.mem_append] at hx ⊢; rcases hx with h | h <;> simp [h]
theorem rp_l {b : Nat} {Lv Sv : Value} {ms : List (Value × List UInt8)} : ∀ x ∈ Lv.ownBlock.toList, x ∈ Rf.rp b Lv Sv ms := fun x hx => by simp [Rf.rp, hx]

theorem Rf.rws {w0 w : World} {b n c s : Nat} {A : Option Addr} {Sv : Value} {ms : List (Value × List UInt8)} (h : Rf w0 w b (.slice A n c) Sv ms s) (hn : ms.length = n) : Rws w A n ms := by
  subst hn
  exact ⟨Rd.of_own h.row, fun p hp => Bts.of_own (h.own p hp) (h.small p hp)⟩

/-- acts as they lie: each three numbers -/
def ActsAt (w : World) (A : Option Addr) (len : Nat) (zs : List (Int × Int × Int)) : Prop :=
  zs.length = len ∧ (0 < len → ∃ ab ao, A = some ⟨ab, ao, none⟩ ∧ ab < w.heap.size ∧ ∀ i z, zs[i]? = some z → w.cell? ⟨ab, ao + i * 3, none⟩ = some (.int .i64 z.1) ∧ w.cell? ⟨ab, ao + i * 3 + 1, none⟩ = some (.int .i64 z.2.1) ∧
    w.cell? ⟨ab, ao + i * 3 + 2, none⟩ = some (.int .i64 z.2.2) ∧ (-9223372036854775808 ≤ z.2.2 ∧ z.2.2 ≤ 9223372036854775807))

set_option maxHeartbeats 8000000 in
set_option maxRecDepth 100000 in
theorem plays_walk (A : Option Addr) (len cap : Nat) (zs : List (Int × Int × Int)) (w : World) (hz : ActsAt w A len zs) (hlen : len ≤ 9223372036854775807) :
    Calls Try.prog 5 #[.slice A len cap] w fun e w' => e = .returned (.bool true) ∧ Keep [] w w' := by
  by_cases hbig : (120 : Int) < (len : Nat)
  · go_enter Try.func5, Try.ntmps5
    go_wp2_with (refine (awake_any _).mono ?_; rintro e w' ⟨rfl, hk⟩)
    go_ret
    exact ⟨rfl, hk⟩
  go_enter Try.func5, Try.ntmps5
  go_wp2_with (refine (New_own _).mono ?_; rintro e w1 ⟨b, rfl, hL1⟩)
  have hL2 := hL1.keep0 ((Keep.refl [] w1).alloc (.cells #[.slice none 0 0, .slice none 0 0] 45))
  have hR2 : Rf w (w1.alloc (.cells #[.slice none 0 0, .slice none 0 0] 45)) w1.heap.size (.slice none 0 0) (.slice none 0 0) [] 0 :=
    ⟨Blk.new w1 _ _, World.ownsRow_nil _ _ _ _, ⟨[], World.ownsRow_nil _ _ _ _⟩, by simp, by simp, by simp [Value.ownBlock], by simp, hL1.keep.size, hL1.keep.alloc _⟩
  have hB2 : Both w (w1.alloc (.cells #[.slice none 0 0, .slice none 0 0] 45)) b w1.heap.size (.slice none 0 0) (.slice none 0 0) (.slice none 0 0) [] [] 0 :=
    ⟨hL2, hR2, by have := hL1.lk.blk.lt; simp [Rf.rp, Lk.fp, Value.ownBlock]; omega, rfl⟩
  clear hL2 hR2
  obtain ⟨b2, hb2⟩ : ∃ b2, b2 = w1.heap.size := ⟨_, rfl⟩
  rw [← hb2] at hB2
  simp only [← hb2]
  generalize w1.alloc _ = wa at *
  clear hb2 hL1
  go_loopw [5] (fun i wr => ∃ j v Lv Sv ls ms s, j ≤ len ∧ i = .int .i64 (j : Nat) ∧ Both w wr b b2 v Lv Sv ls ms s ∧ s ≤ 9 * j) (fun i _ => len - (intOf i).toNat)
  case atStart => exact ⟨0, _, _, _, _, _, 0, Nat.zero_le _, rfl, hB2, Nat.le_refl _⟩
  case round =>
    clear hB2
    obtain ⟨j, v, Lv, Sv, ls, ms, s, hj, rfl, hB, hs9⟩ := hrel
    by_cases hjl : j < len
    · obtain ⟨ab, ao, hA, hab, hcell⟩ := hz.2 (by omega)
      subst hA
      obtain ⟨z, hzj⟩ : ∃ z, zs[j]? = some z := ⟨zs[j]'(by rw [hz.1]; exact hjl), by simp [hz.1, hjl]⟩
      obtain ⟨hz0, hz1, hz2, hzr⟩ := hcell j z hzj
      replace hz0 := (hB.l.keep.cell hab (by simp) _).trans hz0
      replace hz1 := (hB.l.keep.cell hab (by simp) _).trans hz1
      replace hz2 := (hB.l.keep.cell hab (by simp) _).trans hz2
      obtain ⟨z0, z1, z2⟩ := z
      simp only at hz0 hz1 hz2 hzr
      have hkx : Keep [] wr (wr.alloc (.cells #[.int .i64 z0, .int .i64 z1, .int .i64 z2] 47)) := (Keep.refl _ _).alloc _
      have hX : Blk (wr.alloc (.cells #[.int .i64 z0, .int .i64 z1, .int .i64 z2] 47)) wr.heap.size 47 #[.int .i64 z0, .int .i64 z1, .int .i64 z2] := Blk.new _ _ _
      have hBx := hB.keep0 hkx
      have hkind : z0 = 1 ∨ z0 = 2 ∨ z0 = 3 ∨ z0 = 4 ∨ ((z0 == 1) = false ∧ (z0 == 2) = false ∧ (z0 == 3) = false ∧ (z0 == 4) = false) := by
        simp only [beq_eq_false_iff_ne]; omega
      rcases hkind with hz | hz | hz | hz | ⟨hk1, hk2, hk3, hk4⟩
      rotate_left 1
      -- Take
      subst hz
      have hs10 : s ≤ 9 * (j + 1) := by omega
      have hsame := hB.same
      have hlen2 : ls.length = ms.length := by have := congrArg List.length hsame; simpa using this
      have HS := hide hsame
      have HLN := hide hlen2
      clear hsame hlen2
      by_cases hin : 0 ≤ z1 ∧ z1 < ls.length
      obtain ⟨k, rfl⟩ := Int.eq_ofNat_of_zero_le hin.1
      have hkl : k < ls.length := by omega
      have hkm : k < ms.length := by have := unhide HLN; omega
      obtain ⟨u, bs, hub⟩ : ∃ u bs, ls[k] = (u, bs) := ⟨_, _, rfl⟩
      obtain ⟨u', hub'⟩ : ∃ u', ms[k] = (u', bs) := by
        refine ⟨ms[k].1, ?_⟩
        have h1 : (ms.map (·.2))[k]? = some bs := by rw [← unhide HS]; simp [hkl, hub]
        rw [List.getElem?_map, List.getElem?_eq_getElem hkm, Option.map_some, Option.some.injEq] at h1
        rw [← h1]
      have hT := Take_sub w _ b v ls hBx.l (k : Nat) k u bs rfl hkl hub
      have hsm := hBx.l.lk.small _ (List.getElem_mem hkl)
      rw [hub] at hsm
      have hom := hBx.r.own _ (List.getElem_mem hkm)
      rw [hub'] at hom
      simp only at hsm hom
      have hxf := hBx.l.lk.far_blk hX (by decide) (by decide)
      have HKM := hide hkm
      have HUB := hide hub'
      have HXF := hide hxf
      clear hkl hub hxf hin
      go_wp2_with (
          (refine hT.mono ?_)
          (clear hT)
          (rintro e w2 ⟨v2, rfl, hL2, hk2, ho2, hs2⟩)
          have hX2 := hX.keep hk2 (unhide HXF)
          have hxc : w2.cell? ⟨wr.heap.size, 1, none⟩ = some (.int .i64 (k : Nat)) := (by simpa using hX2.cell 1)
          obtain ⟨hR2, hoff2⟩ := hBx.turnL hL2 hk2 fp_bv (Grow.of_sub hs2)
          have hT2 := RTake_in w w2 b2 s Lv Sv ms hR2 k ms.length u' bs rfl (unhide HKM) (unhide HUB))
      have hou := hR2.own (u', bs) (by have := List.getElem_mem (unhide HKM); rwa [unhide HUB] at this)
      go_wp2_with (
          (refine hT2.mono ?_)
          (clear hT2)
          (rintro e w3 ⟨Lv3, rfl, hR3, hk3, hg3⟩)
          have hTB := Bytes_k u u' bs bs w3 (Bts.of_own (own_keep ho2 hk3 (fun y hy hm => own_blk_ne ho2 hR2.blk (by decide) (by simp at hm; rw [hy, hm]))) hsm) (Bts.of_own (own_keep hou hk3 (fun y hy hm => own_blk_ne hou hR2.blk (by decide) (by simp at hm; rw [hy, hm]))) hsm)
          rw [decide_eq_true rfl] at hTB)
      go_wp2_with (refine hTB.mono ?_; clear hTB; rintro e w4 ⟨rfl, hk4⟩)
      obtain ⟨v, Lv, Sv, ls, ms, s, hBx, hs10⟩ : ∃ v Lv Sv ls ms s, Both w w4 b b2 v Lv Sv ls ms s ∧ s ≤ 9 * (j + 1) :=
        ⟨_, _, _, _, _, _, (Both.turnR hL2 hR2 hoff2 hR3 hk3 rp_b hg3 (by rw [← eraseIdx_map', unhide HS]; exact eraseIdx_map' _ _ _)).keep0 hk4, hs10⟩
      rotate_left
      -- no such frame
      have hin' : ¬ (0 ≤ z1 ∧ z1 < ms.length) := by rw [← unhide HLN]; exact hin
      have hT := Take_out _ b v ls hBx.l.lk z1 hin
      have hT2 := RTake_out w _ b2 s Lv Sv ms hBx.r z1 hin'
      have hTB := Bytes_k (.slice none 0 0) (.slice none 0 0) [] [] (wr.alloc (.cells #[.int .i64 2, .int .i64 z1, .int .i64 z2] 47)) ⟨none, 0, 0, rfl, by omega, by omega, Rd.nil _ _⟩ ⟨none, 0, 0, rfl, by omega, by omega, Rd.nil _ _⟩
      rw [decide_eq_true rfl] at hTB
      clear hin hin'
      go_wp2_with (refine hT.mono ?_; clear hT; rintro e w2 ⟨rfl, rfl⟩)
      go_wp2_with (refine hT2.mono ?_; clear hT2; rintro e w2 ⟨rfl, rfl⟩)
      go_wp2_with (refine hTB.mono ?_; clear hTB; rintro e w4 ⟨rfl, hk4⟩)
      replace hBx := hBx.keep0 hk4
      rotate_left
      -- Double
      subst hz
      have hs10 : s ≤ 9 * (j + 1) := by omega
      have hsame := hB.same
      have hlen2 : ls.length = ms.length := by have := congrArg List.length hsame; simpa using this
      have hfew := hB.l.lk.few
      have HS := hide hsame
      have HLN := hide hlen2
      clear hsame hlen2
      by_cases hin : (0 ≤ z1 ∧ z1 < ls.length) ∧ ls.length < 64
      obtain ⟨hin, hroom⟩ := hin
      obtain ⟨k, rfl⟩ := Int.eq_ofNat_of_zero_le hin.1
      have hkl : k < ls.length := by omega
      have hkm : k < ms.length := by have := unhide HLN; omega
      obtain ⟨u, bs, hub⟩ : ∃ u bs, ls[k] = (u, bs) := ⟨_, _, rfl⟩
      obtain ⟨u', hub'⟩ : ∃ u', ms[k] = (u', bs) := by
        refine ⟨ms[k].1, ?_⟩
        have h1 : (ms.map (·.2))[k]? = some bs := by rw [← unhide HS]; simp [hkl, hub]
        rw [List.getElem?_map, List.getElem?_eq_getElem hkm, Option.map_some, Option.some.injEq] at h1
        rw [← h1]
      have hT := Double_in w _ b v ls (hBx.keep0 (Keep.refl _ _).drew).l k ls.length rfl hkl hroom
      rw [show (ls.map (·.2))[k]?.getD [] = bs by simp [hkl, hub]] at hT
      have hxf := hBx.l.lk.far_blk hX (by decide) (by decide)
      have hxc0 : (wr.alloc (.cells #[.int .i64 3, .int .i64 (k : Nat), .int .i64 z2] 47)).cell? ⟨wr.heap.size, 1, none⟩ = some (.int .i64 (k : Nat)) := by rw [hX.cell]; rfl
      have HKM := hide hkm
      have HUB := hide hub'
      have HXF := hide hxf
      clear hkl hub hxf hin
      focus go_wp2
      refine wp_region_ht (fun w' => w'.cell? ⟨wr.heap.size, 1, none⟩ = some (.int .i64 (k : Nat))) 7 [(0, false), (1, false), (2, false), (4, false), (5, false), (6, false), (3, true)]
        (by kernel_rfl) (by kernel_rfl) (fun _ _ d _ _ h => by cases d <;> exact h) hxc0 ?_
      simp only [picked, List.filterMap_cons, List.filterMap_nil, List.getElem?_cons_zero, List.getElem?_cons_succ, Option.map_some, List.drop_succ_cons, List.drop_zero]
      iterate 6 (refine wpT_held ?_ (by rfl) ?_ ?_; rotate_left; (focus (intro W hW; go_simp; first | done | with_reducible rfl)); simp only [Act.put, List.setIfInBounds_toArray, List.set_cons_zero, List.set_cons_succ])
      refine wpT_loud (by rfl) (fun K hK => ?_)
      go_wp2_with (refine hT.mono ?_; clear hT; rintro e w2 ⟨v2, u2, rfl, hL2, hk2, hg2⟩)
      have hX2 := hX.drew.keep hk2 (unhide HXF)
      refine hK _ _ (by rw [hX2.cell]; rfl) ?_
      clear hK K
      try simp only [Act.put, List.setIfInBounds_toArray, List.set_cons_zero, List.set_cons_succ]
      refine wpT_nil ?_
      obtain ⟨hR2, hoff2⟩ := (hBx.keep0 (Keep.refl _ _).drew).turnL hL2 hk2 fp_bv hg2
      have hT2 := RDouble_in w w2 b2 s Lv Sv ms hR2 k ms.length u' bs rfl (unhide HKM) (unhide HUB) (by have := unhide HLN; omega)
      go_wp2_with (refine hT2.mono ?_; clear hT2; rintro e w3 ⟨Lv3, u3, rfl, hR3, hk3, hg3⟩)
      obtain ⟨v, Lv, Sv, ls, ms, s, hBx, hs10⟩ : ∃ v Lv Sv ls ms s, Both w w3 b b2 v Lv Sv ls ms s ∧ s ≤ 9 * (j + 1) :=
        ⟨_, _, _, _, _, _, Both.turnR hL2 hR2 hoff2 hR3 hk3 rp_b hg3 (by rw [doubled_map, doubled_map, unhide HS]), hs10⟩
      rotate_left
      -- none is doubled
      have hT : Calls Try.prog 16 #[.pointer (some ⟨b, 0, none⟩), .int .i64 z1] (wr.alloc (.cells #[.int .i64 3, .int .i64 z1, .int .i64 z2] 47)).drew fun e w' => e = .returned (.bool false) ∧ (wr.alloc (.cells #[.int .i64 3, .int .i64 z1, .int .i64 z2] 47)).drew = w' := by
        by_cases h1 : 0 ≤ z1 ∧ z1 < ls.length
        · exact Double_full _ b v ls (hBx.keep0 (Keep.refl _ _).drew).l.lk z1 (by omega)
        · exact Double_out _ b v ls (hBx.keep0 (Keep.refl _ _).drew).l.lk z1 h1
      have hT2 := RDouble_no w _ b2 s Lv Sv ms (hBx.keep0 (Keep.refl _ _).drew).r z1 (by have := unhide HLN; omega)
      have hxc0 : (wr.alloc (.cells #[.int .i64 3, .int .i64 z1, .int .i64 z2] 47)).cell? ⟨wr.heap.size, 1, none⟩ = some (.int .i64 z1) := by rw [hX.cell]; rfl
      clear hin
      focus go_wp2
      refine wp_region_ht (fun w' => w'.cell? ⟨wr.heap.size, 1, none⟩ = some (.int .i64 z1)) 7 [(0, false), (1, false), (2, false), (4, false), (5, false), (6, false), (3, true)]
        (by kernel_rfl) (by kernel_rfl) (fun _ _ d _ _ h => by cases d <;> exact h) hxc0 ?_
      simp only [picked, List.filterMap_cons, List.filterMap_nil, List.getElem?_cons_zero, List.getElem?_cons_succ, Option.map_some, List.drop_succ_cons, List.drop_zero]
      iterate 6 (refine wpT_held ?_ (by rfl) ?_ ?_; rotate_left; (focus (intro W hW; go_simp; first | done | with_reducible rfl)); simp only [Act.put, List.setIfInBounds_toArray, List.set_cons_zero, List.set_cons_succ])
      refine wpT_loud (by rfl) (fun K hK => ?_)
      go_wp2_with (refine hT.mono ?_; clear hT; rintro e w2 ⟨rfl, rfl⟩)
      refine hK _ _ hxc0 ?_
      clear hK K
      try simp only [Act.put, List.setIfInBounds_toArray, List.set_cons_zero, List.set_cons_succ]
      refine wpT_nil ?_
      go_wp2_with (refine hT2.mono ?_; clear hT2; rintro e w3 ⟨rfl, rfl⟩)
      replace hBx := hBx.keep0 (Keep.refl _ _).drew
      rotate_left
      -- Spoil
      subst hz
      have hs10 : s ≤ 9 * (j + 1) := by omega
      have hsame := hB.same
      have hlen2 : ls.length = ms.length := by have := congrArg List.length hsame; simpa using this
      have HS := hide hsame
      have HLN := hide hlen2
      clear hsame hlen2
      have hxc0 : (wr.alloc (.cells #[.int .i64 4, .int .i64 z1, .int .i64 z2] 47)).cell? ⟨wr.heap.size, 1, none⟩ = some (.int .i64 z1) := by rw [hX.cell]; rfl
      have hxc1 : (wr.alloc (.cells #[.int .i64 4, .int .i64 z1, .int .i64 z2] 47)).cell? ⟨wr.heap.size, 2, none⟩ = some (.int .i64 z2) := by rw [hX.cell]; rfl
      by_cases hin : (0 ≤ z1 ∧ z1 < ls.length) ∧ 0 ≤ z2 ∧ 0 < (ls.map (·.2.length)).getD z1.toNat 0
      obtain ⟨hin, hz20, hbn⟩ := hin
      obtain ⟨k, rfl⟩ := Int.eq_ofNat_of_zero_le hin.1
      have hkl : k < ls.length := by omega
      have hkm : k < ms.length := by have := unhide HLN; omega
      obtain ⟨u, bs, hub⟩ : ∃ u bs, ls[k] = (u, bs) := ⟨_, _, rfl⟩
      have hbs0 : 0 < bs.length := by simpa [hkl, hub] using hbn
      obtain ⟨u', hub'⟩ : ∃ u', ms[k] = (u', bs) := by
        refine ⟨ms[k].1, ?_⟩
        have h1 : (ms.map (·.2))[k]? = some bs := by rw [← unhide HS]; simp [hkl, hub]
        rw [List.getElem?_map, List.getElem?_eq_getElem hkm, Option.map_some, Option.some.injEq] at h1
        rw [← h1]
      have hBd := hBx.keep0 (Keep.refl _ _).drew
      have hT := Spoil_in w _ b v ls hBd.l k z2 u bs hkl hub hbs0 hz20 hzr.2
      have hxf : wr.heap.size ∉ u.ownBlock.toList := fun hm => by
        have h1 := hBx.l.lk.own _ (List.getElem_mem hkl)
        rw [hub] at h1
        exact own_blk_ne h1 hX (by decide) (by simpa using hm)
      have hfm := fp_mem (b := b) (v := v) hkl hub
      have hgs := fp_set (b := b) (v := v) (z := flipAt bs (z2 % (8 * bs.length)).toNat) hkl hub
      have HKM := hide hkm
      have HUB := hide hub'
      have HXF := hide hxf
      have HFM := hide hfm
      have HGS := hide hgs
      have HBD := hide hBd
      have HB0 := hide hbs0
      clear hkl hub hxf hin hbn hub' hfm hgs hBd hbs0
      focus go_wp2
      refine wp_region_ht (fun w' => w'.cell? ⟨wr.heap.size, 1, none⟩ = some (.int .i64 (k : Nat)) ∧ w'.cell? ⟨wr.heap.size, 2, none⟩ = some (.int .i64 z2)) 11 [(0, false), (1, false), (2, false), (3, false), (4, false), (6, false), (7, false), (8, false), (9, false), (10, false), (5, true)]
        (by kernel_rfl) (by kernel_rfl) (fun _ _ d _ _ h => by cases d <;> exact h) ⟨hxc0, hxc1⟩ ?_
      simp only [picked, List.filterMap_cons, List.filterMap_nil, List.getElem?_cons_zero, List.getElem?_cons_succ, Option.map_some, List.drop_succ_cons, List.drop_zero]
      iterate 10 (refine wpT_held ?_ (by rfl) ?_ ?_; rotate_left; (focus (intro W hW; obtain ⟨hW1, hW2⟩ := hW; go_simp; first | done | with_reducible rfl)); simp only [Act.put, List.setIfInBounds_toArray, List.set_cons_zero, List.set_cons_succ])
      refine wpT_loud (by rfl) (fun K hK => ?_)
      go_wp2_with (refine hT.mono ?_; clear hT; rintro e w2 ⟨rfl, hL2, hk2⟩)
      have hX2 := hX.drew.keep hk2 (unhide HXF)
      refine hK _ _ ⟨by rw [hX2.cell]; rfl, by rw [hX2.cell]; rfl⟩ ?_
      clear hK K
      try simp only [Act.put, List.setIfInBounds_toArray, List.set_cons_zero, List.set_cons_succ]
      refine wpT_nil ?_
      obtain ⟨hR2, hoff2⟩ := (unhide HBD).turnL hL2 hk2 (unhide HFM) (by rw [unhide HGS]; exact Grow.refl _ _)
      have hT2 := RSpoil_in w w2 b2 s Lv Sv ms hR2 k ms.length z2 u' bs rfl (unhide HKM) (unhide HUB) (unhide HB0) hz20 hzr.2
      go_wp2_with (refine hT2.mono ?_; clear hT2; rintro e w3 ⟨u3, rfl, hR3, hk3, hg3⟩)
      obtain ⟨v, Lv, Sv, ls, ms, s, hBx, hs10⟩ : ∃ v Lv Sv ls ms s, Both w w3 b b2 v Lv Sv ls ms s ∧ s ≤ 9 * (j + 1) :=
        ⟨_, _, _, _, _, _, Both.turnR hL2 hR2 hoff2 hR3 hk3 rp_l hg3 (by rw [List.map_set, List.map_set, unhide HS]), hs10⟩
      rotate_left
      -- nothing to spoil
      have hT : Calls Try.prog 21 #[.pointer (some ⟨b, 0, none⟩), .int .i64 z1, .int .i64 z2] (wr.alloc (.cells #[.int .i64 4, .int .i64 z1, .int .i64 z2] 47)).drew fun e w' => e = .returned (.bool false) ∧ (wr.alloc (.cells #[.int .i64 4, .int .i64 z1, .int .i64 z2] 47)).drew = w' := by
        by_cases h1 : 0 ≤ z1 ∧ z1 < ls.length
        · obtain ⟨k, rfl⟩ := Int.eq_ofNat_of_zero_le h1.1
          have hkl : k < ls.length := by omega
          refine Spoil_no _ b v ls (hBx.keep0 (Keep.refl _ _).drew).l.lk k z2 hkl ?_
          rcases Int.lt_or_le z2 0 with h2 | h2
          · exact .inr h2
          · refine .inl ?_
            have h3 : ¬ 0 < ls[k].2.length := fun h => hin ⟨h1, h2, by simpa [hkl] using h⟩
            omega
        · exact Spoil_out _ b v ls (hBx.keep0 (Keep.refl _ _).drew).l.lk z1 z2 h1
      have hT2 : Calls Try.prog 22 #[.pointer (some ⟨b2, 0, none⟩), .int .i64 z1, .int .i64 z2] (wr.alloc (.cells #[.int .i64 4, .int .i64 z1, .int .i64 z2] 47)).drew fun e w' => e = .returned (.bool false) ∧ (wr.alloc (.cells #[.int .i64 4, .int .i64 z1, .int .i64 z2] 47)).drew = w' := by
        have hLN := unhide HLN
        by_cases h1 : 0 ≤ z1 ∧ z1 < ms.length
        · obtain ⟨k, rfl⟩ := Int.eq_ofNat_of_zero_le h1.1
          have hkm : k < ms.length := by omega
          have hkl : k < ls.length := by omega
          refine RSpoil_nil w _ b2 s Lv Sv ms (hBx.keep0 (Keep.refl _ _).drew).r k z2 hkm ?_
          rcases Int.lt_or_le z2 0 with h2 | h2
          · exact .inr h2
          · refine .inl ?_
            have h3 : ¬ 0 < ls[k].2.length := fun h => hin ⟨by omega, h2, by simpa [hkl] using h⟩
            have h4 : (ms.map (·.2))[k]? = some ls[k].2 := by rw [← unhide HS]; simp [hkl]
            rw [List.getElem?_map, List.getElem?_eq_getElem hkm, Option.map_some, Option.some.injEq] at h4
            rw [h4]
            omega
        · exact RSpoil_no w _ b2 s Lv Sv ms (hBx.keep0 (Keep.refl _ _).drew).r z1 z2 h1
      clear hin
      focus go_wp2
      refine wp_region_ht (fun w' => w'.cell? ⟨wr.heap.size, 1, none⟩ = some (.int .i64 z1) ∧ w'.cell? ⟨wr.heap.size, 2, none⟩ = some (.int .i64 z2)) 11 [(0, false), (1, false), (2, false), (3, false), (4, false), (6, false), (7, false), (8, false), (9, false), (10, false), (5, true)]
        (by kernel_rfl) (by kernel_rfl) (fun _ _ d _ _ h => by cases d <;> exact h) ⟨hxc0, hxc1⟩ ?_
      simp only [picked, List.filterMap_cons, List.filterMap_nil, List.getElem?_cons_zero, List.getElem?_cons_succ, Option.map_some, List.drop_succ_cons, List.drop_zero]
      iterate 10 (refine wpT_held ?_ (by rfl) ?_ ?_; rotate_left; (focus (intro W hW; obtain ⟨hW1, hW2⟩ := hW; go_simp; first | done | with_reducible rfl)); simp only [Act.put, List.setIfInBounds_toArray, List.set_cons_zero, List.set_cons_succ])
      refine wpT_loud (by rfl) (fun K hK => ?_)
      go_wp2_with (refine hT.mono ?_; clear hT; rintro e w2 ⟨rfl, rfl⟩)
      refine hK _ _ ⟨hxc0, hxc1⟩ ?_
      clear hK K
      try simp only [Act.put, List.setIfInBounds_toArray, List.set_cons_zero, List.set_cons_succ]
      refine wpT_nil ?_
      go_wp2_with (refine hT2.mono ?_; clear hT2; rintro e w3 ⟨rfl, rfl⟩)
      replace hBx := hBx.keep0 (Keep.refl _ _).drew
      rotate_left
      -- none of these
      have hs10 : s ≤ 9 * (j + 1) := by omega
      rotate_left
      -- Send
      focus
        subst hz
        obtain ⟨k, hk, hk9⟩ : ∃ k : Nat, z1 % 9 = (k : Int) ∧ k < 9 := ⟨(z1 % 9).toNat, by omega, by omega⟩
        have HR : ∀ W : World, Calls Try.prog 8 #[.int .i64 z1, .int .i64 9] W fun e w' => e = .returned (.int .i64 (k : Nat)) ∧ W = w' := fun W => by
          rw [← hk]; exact Round_any _ _ _ (by omega) (by omega)
        obtain ⟨X, hXe, hX0, hX1⟩ : ∃ X : Int, z2 % 100000 = X ∧ 0 ≤ X ∧ X < 100000 := ⟨_, rfl, by omega, by omega⟩
        have HX : ∀ W : World, Calls Try.prog 8 #[.int .i64 z2, .int .i64 100000] W fun e w' => e = .returned (.int .i64 X) ∧ W = w' := fun W => by
          rw [← hXe]; exact Round_any _ _ _ (by omega) (by omega)
        clear hk hXe
        obtain ⟨wo, rfl⟩ : ∃ wo : World, wo = wr := ⟨_, rfl⟩
        focus go_wp2
        generalize wo.alloc _ = W0 at *
        have hF : ∀ y ∈ Lk.fp b v ls ++ Rf.rp b2 Lv Sv ms, y < W0.heap.size := fun y hy => (List.mem_append.1 hy).elim (hBx.l.lk.fp_lt y) (hBx.r.rp_lt y)
        go_loopw [7, 8] (fun v7 i wl => ∃ m fs, m ≤ k ∧ i = .int .i64 (m : Nat) ∧ Hold wl W0.heap.size (Lk.fp b v ls ++ Rf.rp b2 Lv Sv ms) v7 fs ∧ Hid (fs.length = m) ∧ Hid (fs.map (·.2) = rowsUp X m) ∧ Keep [] W0 wl) (fun _ i _ => k - (intOf i).toNat)
        case atStart => exact ⟨0, [], Nat.zero_le _, rfl, Hold.nil _ _ _, rfl, rfl, Keep.refl _ _⟩
        case round =>
          obtain ⟨m, fs, hm, rfl, hH, hl, hmap, hkw⟩ := hrel
          have hsz := hkw.size
          have hXw := hX.keep0 hkw
          have hxc0 : wr.cell? ⟨wo.heap.size, 1, none⟩ = some (.int .i64 z1) := by rw [hXw.cell]; rfl
          have hxc1 : wr.cell? ⟨wo.heap.size, 2, none⟩ = some (.int .i64 z2) := by rw [hXw.cell]; rfl
          by_cases hlt : m < k
          · go_wp2_with (refine (HR _).mono ?_; clear HR; rintro e w' ⟨rfl, rfl⟩)
            have hT := HX wr
            go_wp2_with (refine hT.mono ?_; clear hT; rintro e w' ⟨rfl, rfl⟩)
            have hT := row_any (X + (m : Nat)) wr
            go_wp2_with (first
              | (at_builtin; refine elemRows.wp_app rfl _ _ rfl W0.heap.size _ fs.length (fs.map (·.1)) rfl (own_alloc (own_keep0 hH.row hk2) _) _ 1 1 [_] rfl (rd_new1 _ _ _) (by simp [Value.oneCell']) (by have := unhide hl; omega) (by have := unhide hl; omega) (by have := hk2.size; simp; omega) ?_)
              | (refine hT.mono ?_; clear hT; rintro e w2 ⟨u, rfl, hu, hk2⟩; obtain ⟨UA, uc, rfl, _⟩ := own_form hu))
            intro v' w3 hv' hk3 hat _
            have hP := hH.push hF hsz hk2 hu (rowOf_small _) hk3 hv'
            obtain ⟨VA, vc, rfl, _⟩ := own_form hv'
            have hkw3 := (hkw.trans0 hk2).one_more (own_keep0 hH.row hk2) (Nat.le_refl _) hk3
            clear hk3 hu hH
            go_wp2
            go_roundw
            case rel => exact ⟨m + 1, _, by omega, by go_num, hP.1, by show _ = _; rw [List.length_append, unhide hl]; rfl, by show _ = _; rw [List.map_append, unhide hmap, rowsUp_succ]; rfl, hkw3⟩
            case measure => simp [intOf]; omega
          · obtain rfl : k = m := by omega
            have hBw := hBx.keep0 hkw
            obtain ⟨FA, fc, hv, hfc, hfc63, _⟩ := own_form hH.row
            rw [unhide hl] at hv
            have hHl := hH.sub (F' := Lk.fp b v ls) (fun x hx => List.mem_append_left _ hx)
            have hS := Send_grow w wr b _ _ hBw.l FA k fc fs (by have := hH.rws (by rw [unhide hl]; exact hv); rwa [unhide hl] at this) (fun p e => hHl.off_b _ (by rw [hv, e]; simp [Value.ownBlock])) hHl.offs_b (by omega)
            have hfck : k ≤ fc := by have := unhide hl; omega
            subst hv
            go_wp2_with (refine (HR _).mono ?_; clear HR; rintro e w' ⟨rfl, rfl⟩)
            clear hxc0 hxc1
            go_wp2_with (refine hS.mono ?_; clear hS; rintro e w2 ⟨v2, l2, rfl, hL2, hm2, hk2, hg2⟩)
            obtain ⟨hR2, hoff2⟩ := hBw.turnL hL2 hk2 fp_bv hg2
            have hH2 := (hH.turn (F' := Lk.fp b v2 l2 ++ Rf.rp b2 Lv Sv ms) hk2 (fun x hx => List.mem_append_left _ (fp_bv x hx)) (fun x hx => (List.mem_append.1 hx).elim (fun h => (hg2 x h).imp (List.mem_append_left _) id) (fun h => .inl (List.mem_append_right _ h)))).sub (F' := b2 :: Sv.ownBlock.toList) (fun x hx => List.mem_append_right _ (rp_bs x hx))
            have hT2 := RSend_any w w2 b2 s Lv Sv ms hR2 FA k fc fs (by have := hH2.rws (A := FA) (c := fc) (by rw [unhide hl]); rwa [unhide hl] at this) (fun p e => hH2.off _ (by rw [e]; simp [Value.ownBlock])) hH2.offs (by omega)
            have hmm : sendM (ls.map (·.2)) (fs.map (·.2)) = sendM (ms.map (·.2)) (fs.map (·.2)) := by rw [hBw.same]
            have HMM := hide (hm2.trans hmm)
            have hll : l2.length = (sendM (ms.map (·.2)) (fs.map (·.2))).length := by rw [← unhide HMM, List.length_map]
            have HLL := hide hll
            clear hmm hll hm2
            go_wp2_with (
              (refine hT2.mono ?_)
              (clear hT2)
              (rintro e w3 ⟨Lv3, Sv3, ms3, s3, rfl, hR3, hs3, hm3, hk3, hg3⟩)
              have hll : l2.length = ms3.length := (by rw [unhide HLL, ← hm3, List.length_map])
              rw [hll])
            obtain ⟨v, Lv, Sv, ls, ms, s, hBx, hs10⟩ : ∃ v Lv Sv ls ms s, Both w w3 b b2 v Lv Sv ls ms s ∧ s ≤ 9 * (j + 1) :=
              ⟨_, _, _, _, _, _, Both.turnR hL2 hR2 hoff2 hR3 hk3 rp_bs hg3 (by rw [unhide HMM, hm3]), by omega⟩
            have hTA := all_any _ b v ls hBx.l.lk
            go_wp2_with (refine hTA.mono ?_; clear hTA; rintro e w2 ⟨TA, tn, tc, ls2, rfl, hR2, hm2, hk2⟩)
            have hBy := hBx.keep0 hk2
            have hcL : w2.cell? ⟨b2, 0, none⟩ = some Lv := by simpa using hBy.r.blk.cell 0
            have hbl2 := hBy.r.blk.lt
            have hfew := hBy.l.lk.few
            have hn : ls.length = ms.length := by have := congrArg List.length hBy.same; simpa using this
            obtain ⟨LA, lc, hLv, _⟩ := own_form hBy.r.row
            rw [← hn] at hLv
            subst hLv
            have hTL := Len_any w2.drew b v ls hBy.l.lk.drew
            have htn : tn = ls.length := by have h1 := hR2.len; have h2 := congrArg List.length hm2; simp at h2; omega
            have hTB := fun W (hk : Keep [] w2 W) => Blocks_k TA LA tn ls.length tc lc ls2 ms W (hR2.keep hk) ((hBy.r.rws hn.symm).keep hk) (by omega) (by omega) (hm2.trans hBy.same)
            have HN := hide hn
            have HTN := hide htn
            clear hn htn hm2
            refine wp_region_ht (fun w' => w'.cell? ⟨b2, 0, none⟩ = some (.slice LA ls.length lc)) 18 [(0, false), (1, false), (2, false), (3, false), (5, false), (6, false), (7, false), (8, false), (9, false), (4, true), (10, false), (11, false), (12, false), (13, false), (14, false), (15, false), (16, false), (17, false)]
              (by kernel_rfl) (by kernel_rfl) (fun _ _ d _ _ h => by cases d <;> exact h) hcL ?_
            simp only [picked, List.filterMap_cons, List.filterMap_nil, List.getElem?_cons_zero, List.getElem?_cons_succ, Option.map_some, List.drop_succ_cons, List.drop_zero]
            iterate 9 (refine wpT_held ?_ (by rfl) ?_ ?_; rotate_left; (focus (intro W hW; go_simp; first | done | with_reducible rfl)); simp only [Act.put, List.setIfInBounds_toArray, List.set_cons_zero, List.set_cons_succ])
            refine wpT_loud (by rfl) (fun K hK => ?_)
            go_wp2_with (refine hTL.mono ?_; clear hTL; rintro e w' ⟨rfl, rfl⟩)
            refine hK _ _ hcL ?_
            clear hK K
            try simp only [Act.put, List.setIfInBounds_toArray, List.set_cons_zero, List.set_cons_succ]
            iterate 8 (refine wpT_held ?_ (by rfl) ?_ ?_; rotate_left; (focus (intro W hW; go_simp; first | done | with_reducible rfl)); simp only [Act.put, List.setIfInBounds_toArray, List.set_cons_zero, List.set_cons_succ])
            refine wpT_nil ?_
            have hTB2 := hTB w2.drew (Keep.refl _ _).drew
            go_wp2_with (refine hTB2.mono ?_; clear hTB2; rintro e w3 ⟨rfl, hk3'⟩)
            go_roundw
            case rel => exact ⟨j + 1, _, _, _, _, _, s, by omega, by go_num, hBy.keep0 ((Keep.refl _ _).drew.trans0 hk3'), by omega⟩
            case measure => simp [intOf]; omega
      all_goals
        have hTA := all_any _ b v ls hBx.l.lk
        go_wp2_with (refine hTA.mono ?_; clear hTA; rintro e w2 ⟨TA, tn, tc, ls2, rfl, hR2, hm2, hk2⟩)
        have hBy := hBx.keep0 hk2
        have hcL : w2.cell? ⟨b2, 0, none⟩ = some Lv := by simpa using hBy.r.blk.cell 0
        have hbl2 := hBy.r.blk.lt
        have hfew := hBy.l.lk.few
        have hn : ls.length = ms.length := by have := congrArg List.length hBy.same; simpa using this
        obtain ⟨LA, lc, hLv, _⟩ := own_form hBy.r.row
        rw [← hn] at hLv
        subst hLv
        have hTL := Len_any w2.drew b v ls hBy.l.lk.drew
        have htn : tn = ls.length := by have h1 := hR2.len; have h2 := congrArg List.length hm2; simp at h2; omega
        have hTB := fun W (hk : Keep [] w2 W) => Blocks_k TA LA tn ls.length tc lc ls2 ms W (hR2.keep hk) ((hBy.r.rws hn.symm).keep hk) (by omega) (by omega) (hm2.trans hBy.same)
        have HN := hide hn
        have HTN := hide htn
        clear hn htn hm2
        refine wp_region_ht (fun w' => w'.cell? ⟨b2, 0, none⟩ = some (.slice LA ls.length lc)) 18 [(0, false), (1, false), (2, false), (3, false), (5, false), (6, false), (7, false), (8, false), (9, false), (4, true), (10, false), (11, false), (12, false), (13, false), (14, false), (15, false), (16, false), (17, false)]
          (by kernel_rfl) (by kernel_rfl) (fun _ _ d _ _ h => by cases d <;> exact h) hcL ?_
        simp only [picked, List.filterMap_cons, List.filterMap_nil, List.getElem?_cons_zero, List.getElem?_cons_succ, Option.map_some, List.drop_succ_cons, List.drop_zero]
        iterate 9 (refine wpT_held ?_ (by rfl) ?_ ?_; rotate_left; (focus (intro W hW; go_simp; first | done | with_reducible rfl)); simp only [Act.put, List.setIfInBounds_toArray, List.set_cons_zero, List.set_cons_succ])
        refine wpT_loud (by rfl) (fun K hK => ?_)
        go_wp2_with (refine hTL.mono ?_; clear hTL; rintro e w' ⟨rfl, rfl⟩)
        refine hK _ _ hcL ?_
        clear hK K
        try simp only [Act.put, List.setIfInBounds_toArray, List.set_cons_zero, List.set_cons_succ]
        iterate 8 (refine wpT_held ?_ (by rfl) ?_ ?_; rotate_left; (focus (intro W hW; go_simp; first | done | with_reducible rfl)); simp only [Act.put, List.setIfInBounds_toArray, List.set_cons_zero, List.set_cons_succ])
        refine wpT_nil ?_
        have hTB2 := hTB w2.drew (Keep.refl _ _).drew
        go_wp2_with (refine hTB2.mono ?_; clear hTB2; rintro e w3 ⟨rfl, hk3'⟩)
        go_roundw
        case rel => exact ⟨j + 1, _, _, _, _, _, s, by omega, by go_num, hBy.keep0 ((Keep.refl _ _).drew.trans0 hk3'), by omega⟩
        case measure => simp [intOf]; omega
    · go_wp2_with (refine (awake_any _).mono ?_; rintro e w' ⟨rfl, hk⟩)
      go_ret
      exact ⟨rfl, hB.l.keep.trans0 hk⟩
end Go.Proofs.Ytfbejbkacpkalaa
