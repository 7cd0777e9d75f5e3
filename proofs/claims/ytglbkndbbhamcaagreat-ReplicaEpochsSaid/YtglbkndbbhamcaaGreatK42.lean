/-
  Parts of the proof: A stream of ops out of parts, plain; contract of the law's 'ops'. Contracts: keelsonalike.Frame, where they are alike; the law's 'tells'.
-/
import Derived.Test.YtglbkndbbhamcaaGreatK15
import Derived.Test.YtglbkndbbhamcaaGreatK10
import Derived.Test.YtglbkndbbhamcaaGreatK38
import Derived.Test.YtglbkndbbhamcaaGreatK41
namespace Go.Proofs.YtglbkndbbhamcaaGreat
open Go.RowKit
def partOp (B : Nat) (z : Int × Int × Int) (ep : Nat) : POp × Nat :=
  if z.1 = 0 then (⟨3, 0, 0, ((ep : Nat) : Int) + 1, []⟩, ep + 1) else if z.1 = 1 then (⟨2, z.2.1 % (B : Nat), 1 + z.2.2 % ((B : Nat) - z.2.1 % (B : Nat)), 0, []⟩, ep) else (⟨1, z.2.1 % (B : Nat), 0, 0, fillOf z.2.2⟩, ep)
def strm (B : Nat) (zs : List (Int × Int × Int)) : Nat → List POp × Nat
  | 0 => ([], 0)
  | n + 1 => ((strm B zs n).1 ++ [(partOp B (zs.getD n (0, 0, 0)) (strm B zs n).2).1], (partOp B (zs.getD n (0, 0, 0)) (strm B zs n).2).2)
theorem strm_len (B : Nat) (zs : List (Int × Int × Int)) (n : Nat) : (strm B zs n).1.length = n := by
  induction n with
  | zero => rfl
  | succ n ih => simp [strm, ih]
theorem strm_ep (B : Nat) (zs : List (Int × Int × Int)) (n : Nat) : (strm B zs n).2 ≤ n := by
  induction n with
  | zero => simp [strm]
  | succ n ih =>
    simp only [strm, partOp]
    split
    · simp; exact ih
    · split <;> simp <;> omega
theorem strm_get (B : Nat) (zs : List (Int × Int × Int)) (n i : Nat) (h : i < n) : (strm B zs n).1[i]? = some (partOp B (zs.getD i (0, 0, 0)) (strm B zs i).2).1 := by
  induction n with
  | zero => omega
  | succ n ih =>
    have hl := strm_len B zs n
    simp only [strm]
    rcases Nat.lt_or_ge i n with hlt | hge
    · rw [List.getElem?_append_left (by omega), ih hlt]
    · obtain rfl : i = n := by omega
      rw [List.getElem?_append_right (by omega), hl]
      simp
theorem strm_next (B : Nat) (zs : List (Int × Int × Int)) (i : Nat) : (strm B zs (i + 1)).2 = (partOp B (zs.getD i (0, 0, 0)) (strm B zs i).2).2 := rfl
theorem partOp_ep (B : Nat) (z : Int × Int × Int) (ep : Nat) : ((partOp B z ep).1.k = 3 ∧ (partOp B z ep).1.e = ((ep : Nat) : Int) + 1 ∧ (partOp B z ep).2 = ep + 1) ∨ ((partOp B z ep).1.k ≠ 3 ∧ (partOp B z ep).2 = ep) := by
  unfold partOp
  split
  · exact .inl ⟨rfl, rfl, rfl⟩
  · split
    · exact .inr ⟨by simp, rfl⟩
    · exact .inr ⟨by simp, rfl⟩
theorem partOp_for (B : Nat) (hB : 1 ≤ B ∧ B ≤ 64) (z : Int × Int × Int) (ep : Nat) (he : ep ≤ 1000000) : OpFor B (partOp B z ep).1 ∧ ∃ k b c e : Nat, ∃ xs, (partOp B z ep).1 = ⟨k, b, c, e, xs⟩ ∧ OpMay k b c e xs.length ∧ (b + max c 1 ≤ B ∨ k = 3) := by
  have h1 := Int.emod_nonneg z.2.1 (show ((B : Nat) : Int) ≠ 0 by omega)
  have h2 := Int.emod_lt_of_pos z.2.1 (show (0 : Int) < ((B : Nat) : Int) by omega)
  have h3 := Int.emod_nonneg z.2.2 (show ((B : Nat) : Int) - z.2.1 % (B : Nat) ≠ 0 by omega)
  have h4 := Int.emod_lt_of_pos z.2.2 (show (0 : Int) < ((B : Nat) : Int) - z.2.1 % (B : Nat) by omega)
  unfold partOp
  split
  · refine ⟨.inr (.inr ⟨rfl, ?_, ?_⟩), 3, 0, 0, ep + 1, [], by simp, .inr (.inr ⟨rfl, rfl, rfl, by omega, by omega, rfl⟩), .inr rfl⟩
    · dsimp only; omega
    · dsimp only; omega
  · split
    · refine ⟨.inr (.inl ⟨rfl, ?_, ?_, ?_⟩), 2, (z.2.1 % (B : Nat)).toNat, (1 + z.2.2 % ((B : Nat) - z.2.1 % (B : Nat))).toNat, 0, [], ?_, .inr (.inl ⟨rfl, by omega, by omega, by omega, rfl, rfl⟩), .inl (by omega)⟩
      · exact h1
      · dsimp only; omega
      · dsimp only; omega
      · simp only [POp.mk.injEq, and_true]; refine ⟨rfl, ?_, ?_, rfl⟩ <;> omega
    · refine ⟨.inl ⟨rfl, h1, h2, by simp⟩, 1, (z.2.1 % (B : Nat)).toNat, 0, 0, fillOf z.2.2, ?_, .inl ⟨rfl, by omega, rfl, rfl, by simp⟩, .inl (by omega)⟩
      simp only [POp.mk.injEq, and_true]; refine ⟨rfl, ?_, rfl, rfl⟩; omega
def PartsAt (w : World) (A : Option Addr) (len : Nat) (zs : List (Int × Int × Int)) : Prop :=
  zs.length = len ∧ (0 < len → ∃ ab ao, A = some ⟨ab, ao, none⟩ ∧ ab < w.heap.size ∧ ∀ i z, zs[i]? = some z → w.cell? ⟨ab, ao + i * 3, none⟩ = some (.int .i64 z.1) ∧ w.cell? ⟨ab, ao + i * 3 + 1, none⟩ = some (.int .i64 z.2.1) ∧
    w.cell? ⟨ab, ao + i * 3 + 2, none⟩ = some (.int .i64 z.2.2))
theorem PartsAt.keep0 {w w' : World} {A : Option Addr} {len : Nat} {zs : List (Int × Int × Int)} (h : PartsAt w A len zs) (hk : Keep [] w w') : PartsAt w' A len zs :=
  ⟨h.1, fun h0 => by
    obtain ⟨ab, ao, e, hb, hc⟩ := h.2 h0
    exact ⟨ab, ao, e, hk.lt hb, fun i z hz => by
      obtain ⟨a, b, c⟩ := hc i z hz
      exact ⟨(hk.cell hb (by simp) _).trans a, (hk.cell hb (by simp) _).trans b, (hk.cell hb (by simp) _).trans c⟩⟩⟩
set_option maxHeartbeats 8000000 in
set_option maxRecDepth 20000 in
theorem opsL_any (w0 : World) (B : Nat) (hB : 1 ≤ B ∧ B ≤ 64) (A : Option Addr) (len cap : Nat) (zs : List (Int × Int × Int)) (hz : PartsAt w0 A len zs) (hlen : len ≤ 60) :
    Calls Tryz.prog 9 #[.int .i64 (B : Nat), .slice A len cap] w0 fun e w' => ∃ OA oc oz, e = .returned (.slice OA len oc) ∧ oz.map (·.2) = (strm B zs len).1 ∧ OHold w' w0.heap.size [] (.slice OA len oc) oz ∧ Keep [] w0 w' := by
  have hzl : zs.length = len := hz.1
  have HZL := hide hzl
  clear hzl
  go_enter Tryz.func9, Tryz.ntmps9
  go_wp2
  go_loopw [5, 6, 7] (fun v ep i wr => ∃ j oz, j ≤ len ∧ i = .int .i64 (j : Nat) ∧ ep = .int .i64 ((strm B zs j).2 : Nat) ∧ Hid (oz.map (·.2) = (strm B zs j).1) ∧ Hid (oz.length = j) ∧ OHold wr w0.heap.size [] v oz ∧ Keep [] w0 wr) (fun _ _ i _ => len - (intOf i).toNat)
  case atStart => exact ⟨0, [], Nat.zero_le _, rfl, rfl, rfl, rfl, OHold.nil _ _ _, Keep.refl _ _⟩
  case round =>
    obtain ⟨j, oz, hj, rfl, rfl, hoz, hol, hO, hkw⟩ := hrel
    obtain ⟨VA, vc, hvv, _⟩ := own_form hO.row
    rw [unhide hol] at hvv
    subst hvv
    by_cases hlt : j < len
    · obtain ⟨b, o, hA', hb, hc⟩ := hz.2 (by omega)
      subst hA'
      have hjl : j < zs.length := by rw [unhide HZL]; exact hlt
      obtain ⟨c0, c1, c2⟩ := hc j zs[j] (List.getElem?_eq_getElem hjl)
      replace c0 := (hkw.cell (b := b) hb (by simp) _).trans c0
      replace c1 := (hkw.cell (b := b) hb (by simp) _).trans c1
      replace c2 := (hkw.cell (b := b) hb (by simp) _).trans c2
      have hgd : zs.getD j (0, 0, 0) = zs[j] := by rw [List.getD_eq_getElem?_getD, List.getElem?_eq_getElem hjl]; rfl
      have hepj := strm_ep B zs j
      have hbw := hkw.lt hb
      clear hc
      generalize zs[j] = z at *
      obtain ⟨zk, zb, zn⟩ := z
      simp only at c0 c1 c2
      obtain ⟨bb, hbb, hbbB⟩ : ∃ bb : Nat, zb % (B : Nat) = (bb : Int) ∧ bb < B := ⟨(zb % (B : Nat)).toNat, by have := Int.emod_nonneg zb (show ((B : Nat) : Int) ≠ 0 by omega); omega, by have := Int.emod_nonneg zb (show ((B : Nat) : Int) ≠ 0 by omega); have := Int.emod_lt_of_pos zb (show (0 : Int) < ((B : Nat) : Int) by omega); omega⟩
      have HR : ∀ W : World, Calls Tryz.prog 13 #[.int .i64 zb, .int .i64 (B : Nat)] W fun e w' => e = .returned (.int .i64 (bb : Nat)) ∧ W = w' := fun W => by
        rw [← hbb]; exact Round_any _ _ _ (by omega) (by omega)
      obtain ⟨nn, hnn, hnn2⟩ : ∃ nn : Nat, zn % ((B : Nat) - (bb : Nat)) = (nn : Int) ∧ nn < B := ⟨(zn % ((B : Nat) - (bb : Nat))).toNat, by have := Int.emod_nonneg zn (show ((B : Nat) : Int) - (bb : Nat) ≠ 0 by omega); omega, by have := Int.emod_nonneg zn (show ((B : Nat) : Int) - (bb : Nat) ≠ 0 by omega); have := Int.emod_lt_of_pos zn (show (0 : Int) < ((B : Nat) : Int) - (bb : Nat) by omega); omega⟩
      have HRn : ∀ W : World, Calls Tryz.prog 13 #[.int .i64 zn, .int .i64 ((B : Nat) - (bb : Nat))] W fun e w' => e = .returned (.int .i64 (nn : Nat)) ∧ W = w' := fun W => by
        rw [← hnn]; exact Round_any _ _ _ (by omega) (by omega)
      have hF := Fill_any zn wr
      have HBB := hide hbb
      have HNN := hide hnn
      have HGD := hide hgd
      have hv0 := hO.row
      clear hbb hnn hgd
      by_cases hq0 : zk = 0
      · subst hq0
        have hkA : Keep [] wr (wr.alloc (.cells #[.int .i64 3, .int .i64 0, .int .i64 0, .int .i64 (((strm B zs j).2 : Nat) + 1), .slice none 0 0] 46)) := (Keep.refl _ _).alloc _
        have hrdB : Rd (wr.alloc (.cells #[.int .i64 3, .int .i64 0, .int .i64 0, .int .i64 (((strm B zs j).2 : Nat) + 1), .slice none 0 0] 46)) (some ⟨wr.heap.size, 0, none⟩) (1 * 5) (opc ((.slice none 0 0), ⟨3, 0, 0, ((strm B zs j).2 : Nat) + 1, []⟩)) := by
          have := Rd.of_blk (n := 5) (Blk.new wr 46 #[.int .i64 3, .int .i64 0, .int .i64 0, .int .i64 (((strm B zs j).2 : Nat) + 1), .slice none 0 0]) (by simp)
          simpa [opc] using this
        go_wp2_with (first
          | (refine (HR _).mono ?_; clear HR; rintro r w' ⟨rfl, rfl⟩)
          | (at_builtin; refine elemOps.wp_app rfl _ _ rfl w0.heap.size _ oz.length (oz.flatMap opc) rfl (own_alloc hv0 _) ⟨wr.heap.size, 0, none⟩ 1 1 (opc ((.slice none 0 0), ⟨3, 0, 0, ((strm B zs j).2 : Nat) + 1, []⟩)) rfl hrdB (opc_one _ rfl) (by have := unhide hol; omega) (by have := unhide hol; omega) (by have := hkw.size; simp; omega) ?_))
        intro v' w6 hv' hk6 _ _
        obtain ⟨VA', vc', hvv', _⟩ := own_form hv'
        subst hvv'
        have hO6 := (hO.keep0 hkA).snoc ((.slice none 0 0 : Value), (⟨3, 0, 0, ((strm B zs j).2 : Nat) + 1, []⟩ : POp)) (World.ownsRow_nil _ _ _ _) (by simp) hv' hk6
        have hkw6 : Keep [] w0 w6 := (hkw.trans0 hkA).trans hk6 (fun x hx => .inr (own_mem (hO.keep0 hkA).row (by simpa using hx)).1)
        go_wp2
        go_round
        case rel =>
          have hs1 : (strm B zs (j + 1)).1 = (strm B zs j).1 ++ [(⟨3, 0, 0, ((strm B zs j).2 : Nat) + 1, []⟩ : POp)] := by simp only [strm, unhide HGD, partOp]; rfl
          have hs2 : (strm B zs (j + 1)).2 = (strm B zs j).2 + 1 := by simp only [strm, unhide HGD, partOp]; rfl
          refine ⟨j + 1, oz ++ [((.slice none 0 0 : Value), (⟨3, 0, 0, ((strm B zs j).2 : Nat) + 1, []⟩ : POp))], by omega, by go_num, by rw [hs2]; go_num, ?_, ?_, hO6, hkw6⟩
          · show _ = _; rw [List.map_append, unhide hoz, hs1]; rfl
          · show _ = _; rw [List.length_append, unhide hol]; rfl
        case measure => simp [intOf]; omega
      · by_cases hq1 : zk = 1
        · subst hq1
          have hkA : Keep [] wr (wr.alloc (.cells #[.int .i64 2, .int .i64 bb, .int .i64 (1 + (nn : Nat)), .int .i64 0, .slice none 0 0] 46)) := (Keep.refl _ _).alloc _
          have hrdB : Rd (wr.alloc (.cells #[.int .i64 2, .int .i64 bb, .int .i64 (1 + (nn : Nat)), .int .i64 0, .slice none 0 0] 46)) (some ⟨wr.heap.size, 0, none⟩) (1 * 5) (opc ((.slice none 0 0), ⟨2, (bb : Nat), 1 + (nn : Nat), 0, []⟩)) := by
            have := Rd.of_blk (n := 5) (Blk.new wr 46 #[.int .i64 2, .int .i64 bb, .int .i64 (1 + (nn : Nat)), .int .i64 0, .slice none 0 0]) (by simp)
            simpa [opc] using this
          go_wp2_with (first
            | (go_at_call 13; first | (refine (HR _).mono ?_; clear HR; rintro r w' ⟨rfl, rfl⟩) | (refine (HRn _).mono ?_; clear HRn; rintro r w' ⟨rfl, rfl⟩))
            | (at_builtin; refine elemOps.wp_app rfl _ _ rfl w0.heap.size _ oz.length (oz.flatMap opc) rfl (own_alloc hv0 _) ⟨wr.heap.size, 0, none⟩ 1 1 (opc ((.slice none 0 0), ⟨2, (bb : Nat), 1 + (nn : Nat), 0, []⟩)) rfl hrdB (opc_one _ rfl) (by have := unhide hol; omega) (by have := unhide hol; omega) (by have := hkw.size; simp; omega) ?_))
          intro v' w6 hv' hk6 _ _
          obtain ⟨VA', vc', hvv', _⟩ := own_form hv'
          subst hvv'
          have hO6 := (hO.keep0 hkA).snoc ((.slice none 0 0 : Value), (⟨2, (bb : Nat), 1 + (nn : Nat), 0, []⟩ : POp)) (World.ownsRow_nil _ _ _ _) (by simp) hv' hk6
          have hkw6 : Keep [] w0 w6 := (hkw.trans0 hkA).trans hk6 (fun x hx => .inr (own_mem (hO.keep0 hkA).row (by simpa using hx)).1)
          go_wp2
          go_round
          case rel =>
            have hs1 : (strm B zs (j + 1)).1 = (strm B zs j).1 ++ [(⟨2, (bb : Nat), 1 + (nn : Nat), 0, []⟩ : POp)] := by simp only [strm, unhide HGD, partOp]; try simp [unhide HBB, unhide HNN]
            have hs2 : (strm B zs (j + 1)).2 = (strm B zs j).2 := by simp only [strm, unhide HGD, partOp]; try simp [unhide HBB, unhide HNN]
            refine ⟨j + 1, oz ++ [((.slice none 0 0 : Value), (⟨2, (bb : Nat), 1 + (nn : Nat), 0, []⟩ : POp))], by omega, by go_num, by rw [hs2], ?_, ?_, hO6, hkw6⟩
            · show _ = _; rw [List.map_append, unhide hoz, hs1]; rfl
            · show _ = _; rw [List.length_append, unhide hol]; rfl
          case measure => simp [intOf]; omega
        · go_wp2_with (first
            | (go_at_call 13; refine (HR _).mono ?_; clear HR; rintro r w' ⟨rfl, rfl⟩)
            | (go_at_call 18
               refine hF.mono ?_
               clear hF
               rintro r w2 ⟨u, rfl, hu, hk2⟩
               obtain ⟨UA, uc, rfl, _⟩ := own_form hu
               have hkA := hk2.alloc (.cells #[.int .i64 1, .int .i64 bb, .int .i64 0, .int .i64 0, .slice UA 64 uc] 46)
               have hrdB : Rd (w2.alloc (.cells #[.int .i64 1, .int .i64 bb, .int .i64 0, .int .i64 0, .slice UA 64 uc] 46)) (some ⟨w2.heap.size, 0, none⟩) (1 * 5) (opc ((.slice UA 64 uc), ⟨1, (bb : Nat), 0, 0, fillOf zn⟩)) := by
                 have := Rd.of_blk (n := 5) (Blk.new w2 46 #[.int .i64 1, .int .i64 bb, .int .i64 0, .int .i64 0, .slice UA 64 uc]) (by simp)
                 simpa [opc] using this)
            | (at_builtin; refine elemOps.wp_app rfl _ _ rfl w0.heap.size _ oz.length (oz.flatMap opc) rfl (own_alloc (own_keep0 hv0 hk2) _) ⟨w2.heap.size, 0, none⟩ 1 1 (opc ((.slice UA 64 uc), ⟨1, (bb : Nat), 0, 0, fillOf zn⟩)) rfl hrdB (opc_one _ rfl) (by have := unhide hol; omega) (by have := unhide hol; omega) (by have := hkw.size; have := hk2.size; simp; omega) ?_))
          intro v' w6 hv' hk6 _ _
          obtain ⟨VA', vc', hvv', _⟩ := own_form hv'
          subst hvv'
          have hO6 := (hO.keep0 hkA).snoc ((.slice UA 64 uc : Value), (⟨1, (bb : Nat), 0, 0, fillOf zn⟩ : POp)) (own_base (own_alloc (by simpa using hu) _) hkw.size) (by simp) hv' hk6
          have hkw6 : Keep [] w0 w6 := (hkw.trans0 hkA).trans hk6 (fun x hx => .inr (own_mem (hO.keep0 hkA).row (by simpa using hx)).1)
          go_wp2
          go_round
          case rel =>
            have hs1 : (strm B zs (j + 1)).1 = (strm B zs j).1 ++ [(⟨1, (bb : Nat), 0, 0, fillOf zn⟩ : POp)] := by simp only [strm, unhide HGD, partOp]; try simp [hq0, hq1, unhide HBB]
            have hs2 : (strm B zs (j + 1)).2 = (strm B zs j).2 := by simp only [strm, unhide HGD, partOp]; try simp [hq0, hq1, unhide HBB]
            refine ⟨j + 1, oz ++ [((.slice UA 64 uc : Value), (⟨1, (bb : Nat), 0, 0, fillOf zn⟩ : POp))], by omega, by go_num, by rw [hs2], ?_, ?_, hO6, hkw6⟩
            · show _ = _; rw [List.map_append, unhide hoz, hs1]; rfl
            · show _ = _; rw [List.length_append, unhide hol]; rfl
          case measure => simp [intOf]; omega
    · obtain rfl : j = len := by omega
      go_wp2
      go_ret
      exact ⟨VA, vc, oz, rfl, unhide hoz, hO, hkw⟩
end Go.Proofs.YtglbkndbbhamcaaGreat
namespace Go.Proofs.YtglbkndbbhamcaaGreat
open Go.RowKit Go.Shelf
set_option maxHeartbeats 2000000 in
theorem FrameA_same (k v s b c e d : Int) (A A' : Option Addr) (n n' m m' : Nat) (xs : List UInt8) (w : World) (ha : Rd w A n (bys xs)) (ha' : Rd w A' n' (bys xs)) (hn : n ≤ 1000000) :
    Calls Tryz.prog 45 #[.agg #[.int .i64 k, .int .i64 v, .int .i64 s, .int .i64 b, .int .i64 c, .int .i64 e, .int .i64 d, .slice A n m], .agg #[.int .i64 k, .int .i64 v, .int .i64 s, .int .i64 b, .int .i64 c, .int .i64 e, .int .i64 d, .slice A' n' m']] w fun r w' => r = .returned (.bool true) ∧ Keep [] w w' := by
  have h1 : xs.length = n := by simpa using ha.1
  have h2 : xs.length = n' := by simpa using ha'.1
  have hT := fun W (hk : Keep [] w W) => Bytes_any A A' n n' m m' xs xs W (ha.keep hk) (ha'.keep hk) (by omega) (by omega)
  simp only [decide_true] at hT
  clear h1 h2
  go_enter Tryz.func45, Tryz.ntmps45
  go_wp2_with (refine (hT _ (((Keep.refl _ _).alloc _).alloc _)).mono ?_; clear hT; rintro e w' ⟨rfl, k, rfl⟩)
  go_ret
  exact ⟨rfl, (((Keep.refl _ _).alloc _).alloc _).drewN _⟩
set_option maxHeartbeats 4000000 in
set_option maxRecDepth 20000 in
theorem tells_ok (w : World) (base s d : Nat) (Fs : List Nat) (B : Nat) (S : PS) (h : StoreAt w base s d Fs B S) (A : Option Addr) (c : Nat) (ha : Rd w A 25 (bys (frBytes 8 S.st.view S.st.seq 0 0 S.st.epoch S.st.done [])))
    (hm : FrMay 8 S.st.view S.st.seq 0 0 S.st.epoch S.st.done []) :
    Calls Tryz.prog 16 #[.slice A 25 c, .pointer (some ⟨s, 0, none⟩)] w fun e w' => e = .returned (.bool true) ∧ Keep [] w w' := by
  have hD := Decode_fr 8 S.st.view S.st.seq 0 0 S.st.epoch S.st.done [] hm A 25 c w ha
  have hS := fun W (hk : Keep [] w W) => StatusAt_is W base s d Fs B S (h.keep0 hk)
  generalize S.st = st at *
  obtain ⟨mode, view, epoch, seq, done, mount, gen⟩ := st
  simp only at hD hS hm
  go_enter Tryz.func16, Tryz.ntmps16
  go_wp2_with (first
    | (go_at_call 21
       refine hD.mono ?_
       clear hD
       rintro e w1 ⟨UA, uc, rfl, hu, hk1⟩
       have hkA := hk1.alloc (.cells #[.int .i64 ((8 : Nat) : Int), .int .i64 view, .int .i64 seq, .int .i64 ((0 : Nat) : Int), .int .i64 ((0 : Nat) : Int), .int .i64 epoch, .int .i64 done, .slice UA 0 uc] 59)
       have hS1 := hS _ hkA)
    | (go_at_call 12
       refine hS1.mono ?_
       clear hS1
       rintro e w2 ⟨rfl, hk2⟩
       have hkB := hk2.alloc (.cells #[.int .i64 mode, .int .i64 view, .int .i64 epoch, .int .i64 seq, .int .i64 done, .int .i64 mount, .int .i64 gen, .int .i64 (freeCount S.us : Nat), .int .i64 (liveN S : Nat), .int .i64 (pendCount S.I.ol : Nat)] 48)
       obtain ⟨f0, f1, f2, f3, f4, f5, f6, f7⟩ := frame_cells ((Blk.new w1 59 #[.int .i64 ((8 : Nat) : Int), .int .i64 view, .int .i64 seq, .int .i64 ((0 : Nat) : Int), .int .i64 ((0 : Nat) : Int), .int .i64 epoch, .int .i64 done, .slice UA 0 uc]).keep0 hkB)
       have hT : ∀ W, Calls Tryz.prog 45 #[.agg #[.int .i64 8, .int .i64 view, .int .i64 seq, .int .i64 0, .int .i64 0, .int .i64 epoch, .int .i64 done, .slice UA 0 uc], .agg #[.int .i64 8, .int .i64 view, .int .i64 seq, .int .i64 0, .int .i64 0, .int .i64 epoch, .int .i64 done, .slice none 0 0]] W fun r w' => r = .returned (.bool true) ∧ Keep [] W w' := fun W => FrameA_same 8 view seq 0 0 epoch done UA none 0 0 uc 0 [] W (Rd.nil _ _) (Rd.nil _ _) (by omega))
    | (go_at_call 45
       refine (hT _).mono ?_
       clear hT
       rintro e w3 ⟨rfl, hk3⟩))
  go_ret
  exact ⟨rfl, (hkA.trans0 hkB).trans0 hk3⟩
end Go.Proofs.YtglbkndbbhamcaaGreat
