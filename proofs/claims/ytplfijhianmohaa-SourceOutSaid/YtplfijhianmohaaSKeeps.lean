/-
  SourceKeeps: the walk.
-/
import Derived.Test.YtplfijhianmohaaSLaw
import Derived.Test.YtplfijhianmohaaSIn
namespace Go.Proofs.Ytplfijhianmohaa
open Go.RowKit

/-- pairs of numbers as they lie -/
def PairsAt (w : World) (A : Option Addr) (len : Nat) (zs : List (Int × Int)) : Prop :=
  zs.length = len ∧ (0 < len → ∃ ab ao, A = some ⟨ab, ao, none⟩ ∧ ab < w.heap.size ∧ ∀ i z, zs[i]? = some z → w.cell? ⟨ab, ao + i * 2, none⟩ = some (.int .i64 z.1) ∧ w.cell? ⟨ab, ao + i * 2 + 1, none⟩ = some (.int .i64 z.2))

theorem Round_nat (x : Int) (m : Nat) (z : Int) (hz : z = (m : Nat)) (hm : 1 ≤ m ∧ m ≤ 1000000) (w : World) :
    Calls Try.prog 10 #[.int .i64 x, .int .i64 z] w fun e w' => ∃ q : Nat, q < m ∧ e = .returned (.int .i64 (q : Nat)) ∧ w = w' := by
  subst hz
  refine (Round_any x (m : Nat) w (by omega) (by omega)).mono ?_
  rintro e w' ⟨rfl, rfl⟩
  have h1 := Int.emod_nonneg x (show ((m : Nat) : Int) ≠ 0 by omega)
  have h2 := Int.emod_lt_of_pos x (show (0 : Int) < ((m : Nat) : Int) by omega)
  exact ⟨(x % (m : Nat)).toNat, by omega, by rw [Int.toNat_of_nonneg h1], rfl⟩

set_option maxHeartbeats 8000000 in
set_option maxRecDepth 100000 in
theorem skeeps_walk (A B : Option Addr) (len cap m capB : Nat) (zs : List Int) (ps : List (Int × Int)) (w : World) (hz : Rd w A len (ints zs)) (hlc : len ≤ 9223372036854775807) (hp : PairsAt w B m ps) (hmc : m ≤ 9223372036854775807) :
    Calls Try.prog 3 #[.slice A len cap, .slice B m capB] w fun e w' => e = .returned (.bool true) ∧ Keep [] w w' := by
  by_cases hlen : len ≤ 60 ∧ m ≤ 30
  rotate_left
  · have hA := awake_any w
    go_enter Try.func3, Try.ntmps3
    by_cases hlen' : len ≤ 60
    · go_wp2_with (refine hA.mono ?_; clear hA; rintro e w1 ⟨rfl, hk1⟩)
      go_ret
      exact ⟨rfl, hk1⟩
    · go_wp2_with (refine hA.mono ?_; clear hA; rintro e w1 ⟨rfl, hk1⟩)
      go_ret
      exact ⟨rfl, hk1⟩
  obtain ⟨hlen, hm⟩ := hlen
  have H1 := NewS_yes 1 8 (by omega) (by omega) w
  go_enter Try.func3, Try.ntmps3
  go_wp2_with (first
    | (refine H1.mono ?_
       clear H1
       rintro e w1 ⟨s, rfl, hS⟩
       have hT := said_any w w1 s 1 8 (by omega) hS A len cap zs hz hlen)
    | (refine hT.mono ?_
       clear hT
       rintro e w2 ⟨OA, oc, L, os, oz, rfl, hS2, hos, hoz, hO⟩
       have hE := saidUp_ep zs len
       generalize (saidUp zs len).2 = ep at hE hS2))
  clear hS
  have hoc : len ≤ oc ∧ oc ≤ 9223372036854775807 := by
    obtain ⟨OA', oc', h1, h2, h3, _⟩ := own_form hO.row
    have hl : oz.length = len := by have := congrArg List.length hoz; rwa [List.length_map, saidUp_len] at this
    simp only [Value.slice.injEq] at h1
    obtain ⟨_, h1, h1'⟩ := h1
    omega
  have HOS := hide hos
  have HOZ := hide hoz
  clear hos hoz
  go_loopw [8, 9] (fun dn i wr => ∃ (k D Q : Nat) (L : Value), k ≤ m ∧ i = .int .i64 k ∧ dn = .int .i64 D ∧ D ≤ len ∧ Src w wr s 1 8 ep len Q D L (os.drop D) ∧ OHold wr w.heap.size (s :: L.ownBlock.toList) (.slice OA len oc) oz) (fun _ i _ => (m - (intOf i)).toNat)
  case atStart => exact ⟨0, 0, 0, L, by omega, rfl, rfl, by omega, hS2, hO⟩
  case round =>
    clear hS2 hO
    obtain ⟨k, D, Q, L, hk, rfl, rfl, hDl, hS, hO⟩ := hrel
    by_cases hlt : k < m
    · obtain ⟨pb, po, hB, hpb, hcell⟩ := hp.2 (by omega)
      subst hB
      obtain ⟨z, hzk⟩ : ∃ z, ps[k]? = some z := ⟨ps[k]'(by rw [hp.1]; exact hlt), by simp [hp.1, hlt]⟩
      obtain ⟨hz0, hz1⟩ := hcell k z hzk
      replace hz0 := (hS.keep.cell hpb (by simp) _).trans hz0
      replace hz1 := (hS.keep.cell hpb (by simp) _).trans hz1
      obtain ⟨z0, z1⟩ := z
      simp only at hz0 hz1
      have hR := Round_nat z0 (len + 1) ((len : Nat) + 1) (by omega) (by omega) wr
      go_wp2_with (first
        | (refine hR.mono ?_
           clear hR
           rintro e w' ⟨q, hq, rfl, rfl⟩
           have hR2 := Round_nat z1 (q + 1) ((q : Nat) + 1) (by omega) (by omega) wr)
        | (refine hR2.mono ?_
           clear hR2
           rintro e w' ⟨d, hd, rfl, rfl⟩
           have hA := ack_any 1 q 0 d (by omega) (by omega) (by omega) (by omega) wr)
        | (refine hA.mono ?_
           clear hA
           rintro e w3 ⟨y, rfl, hy, hk3⟩
           obtain ⟨YA, yc, rfl, _⟩ := own_form hy
           have hT := Take_ok decodeWord w w3 s 1 8 ep len Q D L (os.drop D) (hS.keep0 hk3) YA yc q 0 d (Rd.of_own hy) (by omega) (by omega) (by omega) (by omega)))
      refine hT.mono ?_
      clear hT
      rintro e w4 ⟨L', rfl, hS4, hk4, hfr4⟩
      have hO4 : OHold w4 w.heap.size (s :: L'.ownBlock.toList) (.slice OA len oc) oz := by
        refine (hO.keep0 hk3).turn hk4 (by simp) (fun g hg => ?_)
        rw [List.mem_cons] at hg
        rcases hg with rfl | hg
        · exact .inl (by simp)
        · exact .inr (hfr4 g hg)
      obtain ⟨D', hD'⟩ : ∃ D', D' = max D d := ⟨_, rfl⟩
      obtain ⟨Q', hQ'⟩ : ∃ Q', Q' = max D' q := ⟨_, rfl⟩
      have hdr : (os.drop D).drop (max D d - D) = os.drop D' := by rw [List.drop_drop, hD']; congr 1; omega
      rw [hdr, ← hD', ← hQ'] at hS4
      have hD'l : D' ≤ len := by omega
      have hDc : (D < d ∧ D' = d) ∨ (d ≤ D ∧ D' = D) := by omega
      have hQc : (D' < q ∧ Q' = q) ∨ (q ≤ D' ∧ D' = Q') := by omega
      clear hdr hD' hQ' hS hO hy hk3 hk4 hfr4 hz0 hz1 hcell hzk
      obtain ⟨CA, hCA⟩ : ∃ CA, CA = cutN 5 OA D' oc := ⟨_, rfl⟩
      have hsl : ∀ W, (Instr.sliceAt 27 (.slice OA len oc) (some (.int .i64 (D' : Nat))) none none).run Try.prog W = .ok (.slice CA (len - D') (oc - D')) W := fun W => by
        rw [elemOps.run_l OA len oc .i64 (D' : Nat) (by omega) (by omega) W, hCA, Int.toNat_natCast]
      have hrd : OpsRd w4 CA (len - D') (oz.drop D') := by
        have hozl : oz.length = len := by have := congrArg List.length (unhide HOZ); rwa [List.length_map, saidUp_len] at this
        have h1 := hO4.rd (A := OA) (c := oc) (by rw [hozl])
        rw [hozl] at h1
        have h2 := h1.1.cutN 5 hD'l hoc.1
        rw [opcs_drop] at h2
        exact ⟨by rw [hCA]; exact h2, by rw [List.length_drop, hozl]⟩
      have hbts := hO4.bts
      have hosl : (os.drop D').length = len - D' := by have := congrArg List.length (unhide HOS); rw [List.length_map, saidUp_len] at this; rw [List.length_drop, this]
      have hK := kept_any w w4 s 1 8 ep len Q' D' L' (os.drop D') hS4 (by omega)
      have hmap : (oz.drop D').map (·.2) = (os.drop D').map (·.2) := by rw [List.map_drop, List.map_drop, unhide HOS, unhide HOZ]
      have hsm : ∀ o ∈ (os.drop D').map (·.2), o.d.length ≤ 64 := by
        intro o ho
        obtain ⟨p, hp, rfl⟩ := List.mem_map.1 ho
        exact hS4.small p hp
      have HCA := hide hCA
      clear hCA
      rw [show ((D' + 1 : Nat) : Int) = (D' : Int) + 1 from rfl] at hK
      rcases hDc with ⟨hd1, hd2⟩ | ⟨hd1, hd2⟩ <;> subst hd2 <;> (rcases hQc with ⟨hq1, hq2⟩ | ⟨hq1, hq2⟩ <;> subst hq2)
      all_goals
        go_wp2_with (first
          | (refine hK.mono ?_
             clear hK
             rintro e w5 ⟨KA, km, kc, os', rfl, hrd5, hmap5, hbt5, hk5⟩
             have hS5 := hS4.keep0 hk5
             have hkm : km = len - D' := by
               have e1 := hrd5.2
               have e2 := congrArg List.length hmap5
               rw [List.length_map, List.length_map, hosl] at e2
               omega
             subst hkm
             have hQ1 := Done_is _ _ _ _ _ _ _ _ _ _ _ hS5
             have hQ2 := Acked_is _ _ _ _ _ _ _ _ _ _ _ hS5
             have hQ3 := Seq_is _ _ _ _ _ _ _ _ _ _ _ hS5
             have hOS := Ops_same KA CA (len - D') kc (oc - D') os' (oz.drop D') w5 hrd5 (hrd.keep hk5) hbt5 (fun p hp => (hbts p (List.mem_of_mem_drop hp)).keep hk5) (hmap5.trans hmap.symm) (fun p hp => hsm p.2 (by rw [← hmap5]; exact List.mem_map_of_mem hp)) (by omega)
             clear hmap5)
          | (refine hQ1.mono ?_
             clear hQ1
             rintro e w' ⟨rfl, rfl⟩)
          | (refine hQ2.mono ?_
             clear hQ2
             rintro e w' ⟨rfl, rfl⟩)
          | (refine hQ3.mono ?_
             clear hQ3
             rintro e w' ⟨rfl, rfl⟩)
          | (refine hOS.mono ?_
             clear hOS
             rintro e w6 ⟨rfl, hk6⟩))
      all_goals
        go_roundw
        case rel => exact ⟨k + 1, D', _, L', by omega, by go_num, rfl, by omega, hS5.keep0 hk6, hO4.keep0 (hk5.trans0 hk6)⟩
        case measure => simp [intOf]; omega
    · have hA := awake_any wr
      go_wp2_with (refine hA.mono ?_; clear hA; rintro e w1 ⟨rfl, hk1⟩)
      go_ret
      exact ⟨rfl, hS.keep.trans0 hk1⟩
end Go.Proofs.Ytplfijhianmohaa
