/-
  A part of the proof: lemmas, and contracts of functions; their conditions stand in them.
-/
import Derived.Test.YtglbkndbbhamcaaGreatJ49
import Derived.Test.YtglbkndbbhamcaaGreatJ31
import Derived.Test.YtglbkndbbhamcaaGreatJ35
import Derived.Test.YtglbkndbbhamcaaGreatJ13
import Derived.Test.YtglbkndbbhamcaaGreatJ25
import Derived.Test.YtglbkndbbhamcaaGreatJ36
import Derived.Test.YtglbkndbbhamcaaGreatJ14
import Derived.Test.YtglbkndbbhamcaaGreatJ20
import Derived.Test.YtglbkndbbhamcaaGreatJ38
namespace Go.Proofs.YtglbkndbbhamcaaGreat
section
open Go.RowKit Go.Shelf
structure PPart where
  a : Nat
  v : Value
  bs : List UInt8
def ptc (q : PPart) : List Value := [.int .i64 q.a, q.v]
theorem length_ptc (q : PPart) : (ptc q).length = 2 := rfl
set_option maxHeartbeats 2000000 in
set_option maxRecDepth 20000 in
theorem blank_ok (w : World) (g B : Nat) (hg : GeomAt w g B) (over : Bool) :
    Calls Tryz.prog 111 #[.pointer (some ⟨g, 0, none⟩), .bool over] w fun e w' => ∃ (v : Value) (ps : List PPart), e = .returned v ∧ w'.ownsRow w.heap.size 203 2 v ps.length (ps.flatMap ptc) ∧ ps.length = pgs B ∧
      (∀ q ∈ ps, q.bs.length = 64 ∧ q.a < 6 + 4 * pgs B ∧ w'.ownsRow w.heap.size 5 1 q.v 64 (bys q.bs)) ∧ Keep [] w w' := by
  have hpb := pgs_bounds hg.pos hg.few
  have hPg := PagesG_is w g B hg
  have hC := fun W (hk : Keep [] w W) => ConfigG_is W g B (hg.keep0 hk)
  have hPa := fun (k : Nat) (hk : k < pgs B) W (hK : Keep [] w W) => PageG_is W g B (hg.keep0 hK) over k 0 (by omega) hk
  have hfd := fun W => run_field_one (P := Tryz.prog) Tryz.underlying25 0 rfl Tryz.isAgg3 #[.int .i64 B, .int .i64 8, .int .i64 24] rfl W
  have hB64 := hg.few
  have hpB : pgs B = (B + 14) / 15 := rfl
  have HPB := hide hpB
  clear hpB
  generalize pgs B = P at *
  cases over
  · simp only [Bool.false_eq_true, if_false, if_true] at hPa
    go_enter Tryz.func111, Tryz.ntmps111
    go_wp2_with (go_at_call 118; refine hPg.mono ?_; clear hPg; rintro e w1 ⟨rfl, hk1⟩)
    go_loopw [4, 6, 7, 8, 9, 13] (fun v _ _ _ _ i wr => ∃ (k : Nat) (ps : List PPart), k ≤ P ∧ i = .int .i64 (k : Nat) ∧ wr.ownsRow w.heap.size 203 2 v k (ps.flatMap ptc) ∧ Hid (ps.length = k) ∧
      (∀ q ∈ ps, q.bs.length = 64 ∧ q.a < 6 + 4 * P ∧ wr.ownsRow w.heap.size 5 1 q.v 64 (bys q.bs)) ∧ Keep [] w wr) (fun _ _ _ _ _ i _ => P - (intOf i).toNat)
    case atStart => exact ⟨0, [], Nat.zero_le _, rfl, World.ownsRow_nil _ _ _ _, rfl, by simp, hk1⟩
    case round =>
      clear hk1
      obtain ⟨k, ps, hk, rfl, hv, hpl, hps, hkr⟩ := hrel
      by_cases hlt : k < P
      · have hltI : ((k : Nat) : Int) < (P : Nat) := by omega
        have hkB : 15 * k < B := by have := unhide HPB; omega
        obtain ⟨n, hmin, hn0, hn15⟩ : ∃ n : Nat, min ((B : Int) - ((k : Nat) : Int) * 15) 15 = (n : Nat) ∧ 0 < n ∧ n ≤ 15 := ⟨min (B - k * 15) 15, by omega, by omega, by omega⟩
        obtain ⟨VA, vc, rfl, _⟩ := own_form hv
        go_wp2_with (go_at_call 119; refine (hC _ hkr).mono ?_; rintro e w2 ⟨rfl, hk2⟩)
        clear hmin
        have hkA : Keep [] w2 (w2.alloc (.cells #[Value.int .i64 0] 3)) := (Keep.refl _ _).alloc _
        have hRp := Repeat_one (some ⟨w2.heap.size, 0, none⟩) 1 (0) n hn0 (by omega) _ (rd_new1 w2 (Value.int .i64 0) 3)
        go_wp2_with (first
          | (go_at_call 160
             refine hRp.mono ?_
             clear hRp
             rintro e w3 ⟨RV, rfl, hRV, hk3⟩
             obtain ⟨RA, rc, rfl, _⟩ := own_form hRV
             replace hk3 := (hk2.trans0 hkA).trans0 hk3
             have hPE := PageE_ok RA n rc (List.replicate n (0)) w3 (by rw [show ints (List.replicate n (0)) = List.replicate n (Value.int .i64 (0)) by simp [ints, i64]]; exact Rd.of_own hRV) (fun z hz => by rw [List.eq_of_mem_replicate hz]; omega) hn15)
          | (go_at_call 159
             refine hPE.mono ?_
             clear hPE
             rintro e w4 ⟨u, bs, rfl, hbl, hu, hk4⟩
             obtain ⟨UA, uc, rfl, _⟩ := own_form hu
             have hk45 := hk4
             replace hk4 := hk3.trans0 hk4)
          | (go_at_call 161
             refine (hPa k hlt _ (hkr.trans0 hk4)).mono ?_
             rintro e w5 ⟨rfl, hk5⟩
             replace hk45 := hk5
             replace hk5 := hk4.trans0 hk5)
          | (at_builtin
             have hrd := Rd.of_blk (n := 2) (Blk.new w5 203 #[Value.int .i64 ((6 + 2 * (k + 0) + 0 : Nat)), .slice UA 64 uc]) (by simp)
             refine elemPart.wp_app rfl (.tmp 31) (.tmp 38) rfl w.heap.size (.slice VA k vc) k (ps.flatMap ptc) rfl (own_alloc (own_keep0 hv hk5) _) _ 1 1 _ rfl hrd (by simp [Value.oneCell']) (by omega) (by omega) (Nat.le_trans hkr.size (Nat.le_trans hk5.size (by simp))) ?_
             rintro v' w7 hv7 hk7 _ _))
        have hkA5 : Keep [] w5 (w5.alloc (.cells #[Value.int .i64 ((6 + 2 * (k + 0) + 0 : Nat)), .slice UA 64 uc] 203)) := (Keep.refl _ _).alloc _
        have hvF : ∀ x ∈ (Value.slice VA k vc).ownBlock.toList, w.heap.size ≤ x := fun x hx => (own_mem hv hx).1
        have hdat : ∀ {q : Value} {n : Nat} {ys : List Value}, w5.ownsRow w.heap.size 5 1 q n ys → w7.ownsRow w.heap.size 5 1 q n ys := fun hq =>
          own_keep (own_keep0 hq hkA5) hk7 (fun x hx hm => own_ne (own_keep0 hq hkA5) (own_keep0 hv (hk5.trans0 hkA5)) (by decide) hx (by simpa using hm))
        go_roundw
        case rel =>
          refine ⟨k + 1, ps ++ [⟨6 + 2 * (k + 0) + 0, Value.slice UA 64 uc, bs⟩], by omega, by go_num, ?_, by show _ = _; rw [List.length_append, unhide hpl]; rfl, fun q hq => ?_, (hkr.trans0 (hk5.trans0 hkA5)).trans hk7 (fun x hx => .inr (hvF x hx))⟩
          · rw [List.flatMap_append]
            exact hv7
          · rcases List.mem_append.1 hq with hq | hq
            · obtain ⟨q1, q2, q3⟩ := hps q hq
              exact ⟨q1, q2, hdat (own_keep0 q3 hk5)⟩
            · simp only [List.mem_singleton] at hq
              subst hq
              exact ⟨hbl, by simp only; omega, hdat (own_keep0 (own_base hu (Nat.le_trans hkr.size hk3.size)) hk45)⟩
        case measure => simp [intOf]; omega
      · obtain rfl : k = P := by omega
        obtain ⟨VA, vc, rfl, _⟩ := own_form hv
        go_wp2_with fail
        go_ret
        have e := unhide hpl
        exact ⟨_, ps, rfl, by rw [e]; exact hv, e, hps, hkr⟩
  · simp only [Bool.false_eq_true, if_false, if_true] at hPa
    go_enter Tryz.func111, Tryz.ntmps111
    go_wp2_with (go_at_call 118; refine hPg.mono ?_; clear hPg; rintro e w1 ⟨rfl, hk1⟩)
    go_loopw [4, 6, 7, 8, 9, 13] (fun v _ _ _ _ i wr => ∃ (k : Nat) (ps : List PPart), k ≤ P ∧ i = .int .i64 (k : Nat) ∧ wr.ownsRow w.heap.size 203 2 v k (ps.flatMap ptc) ∧ Hid (ps.length = k) ∧
      (∀ q ∈ ps, q.bs.length = 64 ∧ q.a < 6 + 4 * P ∧ wr.ownsRow w.heap.size 5 1 q.v 64 (bys q.bs)) ∧ Keep [] w wr) (fun _ _ _ _ _ i _ => P - (intOf i).toNat)
    case atStart => exact ⟨0, [], Nat.zero_le _, rfl, World.ownsRow_nil _ _ _ _, rfl, by simp, hk1⟩
    case round =>
      clear hk1
      obtain ⟨k, ps, hk, rfl, hv, hpl, hps, hkr⟩ := hrel
      by_cases hlt : k < P
      · have hltI : ((k : Nat) : Int) < (P : Nat) := by omega
        have hkB : 15 * k < B := by have := unhide HPB; omega
        obtain ⟨n, hmin, hn0, hn15⟩ : ∃ n : Nat, min ((B : Int) - ((k : Nat) : Int) * 15) 15 = (n : Nat) ∧ 0 < n ∧ n ≤ 15 := ⟨min (B - k * 15) 15, by omega, by omega, by omega⟩
        obtain ⟨VA, vc, rfl, _⟩ := own_form hv
        go_wp2_with (go_at_call 119; refine (hC _ hkr).mono ?_; rintro e w2 ⟨rfl, hk2⟩)
        clear hmin
        have hkA : Keep [] w2 (w2.alloc (.cells #[Value.int .i64 (-1)] 3)) := (Keep.refl _ _).alloc _
        have hRp := Repeat_one (some ⟨w2.heap.size, 0, none⟩) 1 (-1) n hn0 (by omega) _ (rd_new1 w2 (Value.int .i64 (-1)) 3)
        go_wp2_with (first
          | (go_at_call 160
             refine hRp.mono ?_
             clear hRp
             rintro e w3 ⟨RV, rfl, hRV, hk3⟩
             obtain ⟨RA, rc, rfl, _⟩ := own_form hRV
             replace hk3 := (hk2.trans0 hkA).trans0 hk3
             have hPE := PageE_ok RA n rc (List.replicate n (-1)) w3 (by rw [show ints (List.replicate n (-1)) = List.replicate n (Value.int .i64 (-1)) by simp [ints, i64]]; exact Rd.of_own hRV) (fun z hz => by rw [List.eq_of_mem_replicate hz]; omega) hn15)
          | (go_at_call 159
             refine hPE.mono ?_
             clear hPE
             rintro e w4 ⟨u, bs, rfl, hbl, hu, hk4⟩
             obtain ⟨UA, uc, rfl, _⟩ := own_form hu
             have hk45 := hk4
             replace hk4 := hk3.trans0 hk4)
          | (go_at_call 161
             refine (hPa k hlt _ (hkr.trans0 hk4)).mono ?_
             rintro e w5 ⟨rfl, hk5⟩
             replace hk45 := hk5
             replace hk5 := hk4.trans0 hk5)
          | (at_builtin
             have hrd := Rd.of_blk (n := 2) (Blk.new w5 203 #[Value.int .i64 ((6 + 2 * (k + P) + 0 : Nat)), .slice UA 64 uc]) (by simp)
             refine elemPart.wp_app rfl (.tmp 31) (.tmp 38) rfl w.heap.size (.slice VA k vc) k (ps.flatMap ptc) rfl (own_alloc (own_keep0 hv hk5) _) _ 1 1 _ rfl hrd (by simp [Value.oneCell']) (by omega) (by omega) (Nat.le_trans hkr.size (Nat.le_trans hk5.size (by simp))) ?_
             rintro v' w7 hv7 hk7 _ _))
        have hkA5 : Keep [] w5 (w5.alloc (.cells #[Value.int .i64 ((6 + 2 * (k + P) + 0 : Nat)), .slice UA 64 uc] 203)) := (Keep.refl _ _).alloc _
        have hvF : ∀ x ∈ (Value.slice VA k vc).ownBlock.toList, w.heap.size ≤ x := fun x hx => (own_mem hv hx).1
        have hdat : ∀ {q : Value} {n : Nat} {ys : List Value}, w5.ownsRow w.heap.size 5 1 q n ys → w7.ownsRow w.heap.size 5 1 q n ys := fun hq =>
          own_keep (own_keep0 hq hkA5) hk7 (fun x hx hm => own_ne (own_keep0 hq hkA5) (own_keep0 hv (hk5.trans0 hkA5)) (by decide) hx (by simpa using hm))
        go_roundw
        case rel =>
          refine ⟨k + 1, ps ++ [⟨6 + 2 * (k + P) + 0, Value.slice UA 64 uc, bs⟩], by omega, by go_num, ?_, by show _ = _; rw [List.length_append, unhide hpl]; rfl, fun q hq => ?_, (hkr.trans0 (hk5.trans0 hkA5)).trans hk7 (fun x hx => .inr (hvF x hx))⟩
          · rw [List.flatMap_append]
            exact hv7
          · rcases List.mem_append.1 hq with hq | hq
            · obtain ⟨q1, q2, q3⟩ := hps q hq
              exact ⟨q1, q2, hdat (own_keep0 q3 hk5)⟩
            · simp only [List.mem_singleton] at hq
              subst hq
              exact ⟨hbl, by simp only; omega, hdat (own_keep0 (own_base hu (Nat.le_trans hkr.size hk3.size)) hk45)⟩
        case measure => simp [intOf]; omega
      · obtain rfl : k = P := by omega
        obtain ⟨VA, vc, rfl, _⟩ := own_form hv
        go_wp2_with fail
        go_ret
        have e := unhide hpl
        exact ⟨_, ps, rfl, by rw [e]; exact hv, e, hps, hkr⟩
end
section
open Go.RowKit Go.Shelf
theorem seg_zeros (n k : Nat) (hk : k < n) : seg 64 (List.replicate (n * 64) (0 : UInt8)) k = List.replicate 64 0 := by
  unfold seg
  rw [List.drop_replicate, List.take_replicate]
  congr 1
  have : (k + 1) * 64 ≤ n * 64 := Nat.mul_le_mul_right _ hk
  omega
set_option maxHeartbeats 2000000 in
set_option maxRecDepth 20000 in
theorem Supers_ok (w : World) (base d : Nat) (F : List Nat) (n : Nat) (hn : 2 ≤ n) (h : DiskAt w base d F (PDisk.new n)) :
    Calls Tryz.prog 106 #[.pointer (some ⟨d, 0, none⟩)] w fun e w' => ∃ A0 c0 A1 c1, e = .returned (.tuple #[.agg #[.slice A0 64 c0, .slice A1 64 c1], .int .i64 0]) ∧
      w'.ownsRow w.heap.size 5 1 (.slice A0 64 c0) 64 (bys zeros64) ∧ w'.ownsRow w.heap.size 5 1 (.slice A1 64 c1) 64 (bys zeros64) ∧ Keep [] w w' := by
  have hR := fun (k : Nat) (hk : k < 2) W (hK : Keep [] w W) => ReadD_ok W base d F (PDisk.new n) (h.keep0 hK) rfl k (by show k < n; omega) (by show (List.replicate n false)[k]? = _; rw [List.getElem?_replicate, if_pos (by omega)])
  have hz : ∀ k, k < 2 → seg 64 (PDisk.new n).now k = zeros64 := fun k hk => seg_zeros n k (by omega)
  go_enter Tryz.func106, Tryz.ntmps106
  go_wp2_with fail
  have hb0 := Blk.new w 191 #[.slice none 0 0, .slice none 0 0]
  have hk0 : Keep [] w (w.alloc (.cells #[.slice none 0 0, .slice none 0 0] 191)) := (Keep.refl _ _).alloc _
  generalize w.alloc (.cells #[.slice none 0 0, .slice none 0 0] 191) = wA at *
  go_loopw [3, 4, 5] (fun _ _ i wr => ∃ (k : Nat) (S0 S1 : Value), k ≤ 2 ∧ i = .int .i64 (k : Nat) ∧ Blk wr w.heap.size 191 #[S0, S1] ∧ (0 < k → ∃ A c, S0 = .slice A 64 c ∧ wr.ownsRow w.heap.size 5 1 S0 64 (bys zeros64)) ∧ (1 < k → ∃ A c, S1 = .slice A 64 c ∧ wr.ownsRow w.heap.size 5 1 S1 64 (bys zeros64)) ∧ Keep [] w wr) (fun _ _ i _ => 2 - (intOf i).toNat)
  case atStart => exact ⟨0, _, _, by omega, rfl, hb0, by omega, by omega, hk0⟩
  case round =>
    clear hb0 hk0
    obtain ⟨k, S0, S1, hk, rfl, hb, h0, h1, hkr⟩ := hrel
    have q0 : wr.cell? ⟨w.heap.size, 0, none⟩ = some S0 := by simpa using hb.cell 0
    have q1 : wr.cell? ⟨w.heap.size, 1, none⟩ = some S1 := by simpa using hb.cell 1
    have hne : ∀ {q : Value} {n : Nat} {ys : List Value} {W : World}, Blk W w.heap.size 191 #[S0, S1] → W.ownsRow w.heap.size 5 1 q n ys → ∀ x, q.ownBlock = some x → x ∉ [w.heap.size] := fun hB hq x hx hm => by
      simp at hm; subst hm
      exact own_blk_ne hq hB (by decide) hx
    by_cases hk0 : k = 0
    · subst hk0
      have hRk := hR 0 (by omega) wr hkr
      rw [hz 0 (by omega)] at hRk
      go_wp2_with (
        (refine hRk.mono ?_)
        clear hRk q0 q1
        rintro e w2 ⟨u, rfl, hu, hk2⟩
        obtain ⟨UA, uc, rfl, _⟩ := own_form hu
        have hb2 := hb.keep0 hk2
        have q0 : w2.cell? ⟨w.heap.size, 0, none⟩ = some S0 := by simpa using hb2.cell 0
        have f0 := hb2.frozen 0)
      have hbs := hb2.set 0 (.slice UA 64 uc)
      have hks : Keep [w.heap.size] w2 (w2.setCell ⟨w.heap.size, 0, none⟩ (.slice UA 64 uc)) := (Keep.refl _ _).setCell (p := ⟨w.heap.size, 0, none⟩) (.inl (by simp)) _
      have huB := own_base hu hkr.size
      go_roundw
      case rel => exact ⟨1, .slice UA 64 uc, S1, by omega, rfl, by simpa using hbs, fun _ => ⟨UA, uc, rfl, own_keep huB hks (hne hb2 huB)⟩, by omega, (hkr.trans0 hk2).trans hks (fun x hx => .inr (by simp at hx; omega))⟩
      case measure => simp [intOf]
    · by_cases hk1 : k = 1
      · subst hk1
        obtain ⟨A0, c0, rfl, hw0⟩ := h0 (by omega)
        have hRk := hR 1 (by omega) wr hkr
        rw [hz 1 (by omega)] at hRk
        go_wp2_with (
          (refine hRk.mono ?_)
          clear hRk q0 q1
          rintro e w2 ⟨u, rfl, hu, hk2⟩
          obtain ⟨UA, uc, rfl, _⟩ := own_form hu
          have hb2 := hb.keep0 hk2
          have q1 : w2.cell? ⟨w.heap.size, 1, none⟩ = some S1 := by simpa using hb2.cell 1
          have f1 := hb2.frozen 1)
        have hbs := hb2.set 1 (.slice UA 64 uc)
        have hks : Keep [w.heap.size] w2 (w2.setCell ⟨w.heap.size, 1, none⟩ (.slice UA 64 uc)) := (Keep.refl _ _).setCell (p := ⟨w.heap.size, 1, none⟩) (.inl (by simp)) _
        have huB := own_base hu hkr.size
        have hw2 := own_keep0 hw0 hk2
        go_roundw
        case rel => exact ⟨2, .slice A0 64 c0, .slice UA 64 uc, by omega, rfl, by simpa using hbs, fun _ => ⟨A0, c0, rfl, own_keep hw2 hks (hne hb2 hw2)⟩, fun _ => ⟨UA, uc, rfl, own_keep huB hks (hne hb2 huB)⟩, (hkr.trans0 hk2).trans hks (fun x hx => .inr (by simp at hx; omega))⟩
        case measure => simp [intOf]
      · obtain rfl : k = 2 := by omega
        obtain ⟨A0, c0, rfl, hw0⟩ := h0 (by omega)
        obtain ⟨A1, c1, rfl, hw1⟩ := h1 (by omega)
        have f0 := hb.frozen 0
        have f1 := hb.frozen 1
        clear h0 h1
        go_wp2_with fail
        have hbz := (hb.set 0 (.slice A0 64 c0)).set 1 (.slice A1 64 c1)
        have g0 : ((wr.setCell ⟨w.heap.size, 0, none⟩ (.slice A0 64 c0)).setCell ⟨w.heap.size, 1, none⟩ (.slice A1 64 c1)).cell? ⟨w.heap.size, 0, none⟩ = some (.slice A0 64 c0) := by simpa using hbz.cell 0
        have g1 : ((wr.setCell ⟨w.heap.size, 0, none⟩ (.slice A0 64 c0)).setCell ⟨w.heap.size, 1, none⟩ (.slice A1 64 c1)).cell? ⟨w.heap.size, 1, none⟩ = some (.slice A1 64 c1) := by simpa using hbz.cell 1
        have hks : Keep [w.heap.size] wr ((wr.setCell ⟨w.heap.size, 0, none⟩ (.slice A0 64 c0)).setCell ⟨w.heap.size, 1, none⟩ (.slice A1 64 c1)) := ((Keep.refl [w.heap.size] wr).setCell (p := ⟨w.heap.size, 0, none⟩) (.inl (by simp)) _).setCell (p := ⟨w.heap.size, 1, none⟩) (.inl (by simp)) _
        refine bodyPost_ret (v := .tuple #[.agg #[.slice A0 64 c0, .slice A1 64 c1], .int .i64 0]) (by simp [results, Tryz.results106, go_sem, g0, g1]) rfl ⟨A0, c0, A1, c1, rfl, own_keep hw0 hks (hne hb hw0), own_keep hw1 hks (hne hb hw1), hkr.trans hks (fun x hx => .inr (by simp at hx; omega))⟩
set_option maxHeartbeats 2000000 in
set_option maxRecDepth 20000 in
theorem first_ok (w : World) (g B : Nat) (hg : GeomAt w g B) (mount : Nat) :
    Calls Tryz.prog 64 #[.pointer (some ⟨g, 0, none⟩), .int .i64 (mount : Nat)] w fun e w' => ∃ SA sc UA uc, e = .returned (.agg ((⟨1, 1, 1, 0, 0, 0, ⟨0, 0, 1, 0, mount⟩⟩ : PReg).cs (.slice SA (pgs B) sc) (.slice SA (pgs B) sc) (.slice (some ⟨UA, 0, none⟩) 8 uc)).toArray) ∧
      w'.ownsRow w.heap.size 3 1 (.slice SA (pgs B) sc) (pgs B) (nats (List.replicate (pgs B) 0)) ∧ w'.ownsRow w.heap.size 169 2 (.slice (some ⟨UA, 0, none⟩) 8 uc) 8 (((1, 0) :: List.replicate 7 (0, 0)).flatMap usec) ∧ Keep [] w w' := by
  have hpb := pgs_bounds hg.pos hg.few
  have hPa := fun W (hk : Keep [] w W) => PagesG_is W g B (hg.keep0 hk)
  have hC := fun W (hk : Keep [] w W) => ConfigG_is W g B (hg.keep0 hk)
  have hfd := fun W => run_field_one (P := Tryz.prog) Tryz.underlying25 1 rfl Tryz.isAgg3 #[.int .i64 B, .int .i64 8, .int .i64 24] rfl W
  generalize pgs B = P at *
  obtain ⟨wA, hwA⟩ : ∃ wA, wA = w.alloc (.cells #[.int .i64 0, .int .i64 0, .int .i64 0, .int .i64 0, .int .i64 0, .int .i64 0, .int .i64 0, .int .i64 0, .int .i64 0, .int .i64 0, .int .i64 0, .slice none 0 0, .slice none 0 0, .slice none 0 0] 135) := ⟨_, rfl⟩
  have hkA : Keep [] w wA := by rw [hwA]; exact (Keep.refl _ _).alloc _
  have hbA : Blk wA w.heap.size 135 #[.int .i64 0, .int .i64 0, .int .i64 0, .int .i64 0, .int .i64 0, .int .i64 0, .int .i64 0, .int .i64 0, .int .i64 0, .int .i64 0, .int .i64 0, .slice none 0 0, .slice none 0 0, .slice none 0 0] := by rw [hwA]; exact Blk.new _ _ _
  have hPg := hPa wA hkA
  have e4 : madeCells (Value.agg #[.int .i64 0, .int .i64 0]).cells (8 * 2) = Array.replicate 16 (.int .i64 0) := madeCells_rep (.int .i64 0) 2 16 (by omega)
  go_enter Tryz.func64, Tryz.ntmps64
  go_wp2_with fail
  rw [← hwA]
  clear hwA
  go_wp2_with (first
    | (go_at_call 118; refine hPg.mono ?_; clear hPg; rintro e w1 ⟨rfl, hk1⟩)
    | (at_make; refine elemIntsN.wp_make rfl _ _ rfl .i64 .i64 P rfl rfl (by omega) (by omega) ?_; intro w2 g2 hg2 hs2 hb2 hk2; obtain rfl : g2 = w1.heap.size := hg2; clear hs2; have hk2w := hkA.trans0 (hk1.trans0 hk2))
    | (go_at_call 119; refine (hC _ hk2w).mono ?_; rintro e w3 ⟨rfl, hk3⟩)
    | (at_make; refine elemUse.wp_make rfl _ _ rfl .i64 .i64 8 rfl rfl (by omega) (by omega) ?_; intro w4 g4 hg4 hs4 hb4 hk4; obtain rfl : g4 = w3.heap.size := hg4; clear hs4; rw [e4] at hb4; have hb4l := hb4.lt; have f4 := hb4.frozen 0; have c4 : w4.cell? ⟨w3.heap.size, 0, none⟩ = some (.int .i64 0) := by simpa using hb4.cell 0
       have hb4A := ((((hbA.keep0 hk1).keep0 hk2).keep0 hk3).keep0 hk4)
       have hneA : w.heap.size ≠ w3.heap.size := fun e => Blk.ne_ hb4A hb4 (by decide) e
       obtain ⟨r0, r1, r2, r3, r4, r5, r6, r7, r8, r9, r10, r11, r12, r13⟩ := reg_cells hb4A
       have z0 := hb4A.frozen 0
       have z1 := hb4A.frozen 1
       have z2 := hb4A.frozen 2
       have z3 := hb4A.frozen 3
       have z4 := hb4A.frozen 4
       have z5 := hb4A.frozen 5
       have z6 := hb4A.frozen 6
       have z7 := hb4A.frozen 7
       have z8 := hb4A.frozen 8
       have z9 := hb4A.frozen 9
       have z10 := hb4A.frozen 10
       have z11 := hb4A.frozen 11
       have z12 := hb4A.frozen 12
       have z13 := hb4A.frozen 13))
  have hk45 : Keep [w3.heap.size] w4 (w4.setCell ⟨w3.heap.size, 0, none⟩ (.int .i64 1)) := (Keep.refl _ _).setCell (.inl (by simp)) _
  have hb5 := hb4A.keep hk45 (by simpa using hneA)
  have hU5 := hb4.set 0 (.int .i64 1)
  have hS2 : w2.ownsRow w.heap.size 3 1 (.slice (some ⟨w1.heap.size, 0, none⟩) P P) P (nats (List.replicate P 0)) := own_made (e := 3) (s := 1) (z := .int .i64 0) hb2 (by omega) (Nat.le_trans hkA.size hk1.size) (by omega) (by simp [nats, i64]) rfl
  have hS4 := own_keep0 hS2 (hk3.trans0 hk4)
  have hS5 := own_keep hS4 hk45 (fun x hx hm => by simp at hm; subst hm; exact own_blk_ne hS4 hb4 (by decide) hx)
  generalize (w4.setCell ⟨w3.heap.size, 0, none⟩ (.int .i64 1)) = w5 at *
  have hz := ((((((((((((((hb5.set 0 (.int .i64 1)).set 1 (.int .i64 1)).set 2 (.int .i64 1)).set 3 (.int .i64 0)).set 4 (.int .i64 0)).set 5 (.int .i64 0)).set 6 (.int .i64 0)).set 7 (.int .i64 0)).set 8 (.int .i64 1)).set 9 (.int .i64 0)).set 10 (.int .i64 mount)).set 11 (.slice (some ⟨w1.heap.size, 0, none⟩) P P)).set 12 (.slice (some ⟨w1.heap.size, 0, none⟩) P P)).set 13 (.slice (some ⟨w3.heap.size, 0, none⟩) 8 8))
  have hkZ := (((((((((((((((Keep.refl [w.heap.size] w5).setCell (p := ⟨w.heap.size, 0, none⟩) (.inl (by simp)) (.int .i64 1)).setCell (p := ⟨w.heap.size, 1, none⟩) (.inl (by simp)) (.int .i64 1)).setCell (p := ⟨w.heap.size, 2, none⟩) (.inl (by simp)) (.int .i64 1)).setCell (p := ⟨w.heap.size, 3, none⟩) (.inl (by simp)) (.int .i64 0)).setCell (p := ⟨w.heap.size, 4, none⟩) (.inl (by simp)) (.int .i64 0)).setCell (p := ⟨w.heap.size, 5, none⟩) (.inl (by simp)) (.int .i64 0)).setCell (p := ⟨w.heap.size, 6, none⟩) (.inl (by simp)) (.int .i64 0)).setCell (p := ⟨w.heap.size, 7, none⟩) (.inl (by simp)) (.int .i64 0)).setCell (p := ⟨w.heap.size, 8, none⟩) (.inl (by simp)) (.int .i64 1)).setCell (p := ⟨w.heap.size, 9, none⟩) (.inl (by simp)) (.int .i64 0)).setCell (p := ⟨w.heap.size, 10, none⟩) (.inl (by simp)) (.int .i64 mount)).setCell (p := ⟨w.heap.size, 11, none⟩) (.inl (by simp)) (.slice (some ⟨w1.heap.size, 0, none⟩) P P)).setCell (p := ⟨w.heap.size, 12, none⟩) (.inl (by simp)) (.slice (some ⟨w1.heap.size, 0, none⟩) P P)).setCell (p := ⟨w.heap.size, 13, none⟩) (.inl (by simp)) (.slice (some ⟨w3.heap.size, 0, none⟩) 8 8))
  obtain ⟨y0, y1, y2, y3, y4, y5, y6, y7, y8, y9, y10, y11, y12, y13⟩ := reg_cells (by simpa using hz)
  have hw5 : Keep [] w w5 := ((hk2w.trans0 hk3).trans0 hk4).trans hk45 (fun x hx => .inr (by simp at hx; subst hx; exact Nat.le_trans hk2w.size hk3.size))
  have hUZ := hU5.keep hkZ (by simpa using fun e => hneA e.symm)
  refine bodyPost_ret (v := .agg #[.int .i64 1, .int .i64 1, .int .i64 1, .int .i64 0, .int .i64 0, .int .i64 0, .int .i64 0, .int .i64 0, .int .i64 1, .int .i64 0, .int .i64 mount, .slice (some ⟨w1.heap.size, 0, none⟩) P P, .slice (some ⟨w1.heap.size, 0, none⟩) P P, .slice (some ⟨w3.heap.size, 0, none⟩) 8 8]) (by simp [results, Tryz.results64, go_sem, y0, y1, y2, y3, y4, y5, y6, y7, y8, y9, y10, y11, y12, y13]) rfl
    ⟨some ⟨w1.heap.size, 0, none⟩, P, w3.heap.size, 8, rfl, own_keep hS5 hkZ (fun x hx hm => by simp at hm; subst hm; exact own_blk_ne hS5 hb5 (by decide) hx), ?_, hw5.trans hkZ (fun x hx => .inr (by simp at hx; omega))⟩
  exact ⟨by simp [usec], .inr ⟨w3.heap.size, 8, _, rfl, Nat.le_trans hk2w.size hk3.size, hUZ, Nat.le_refl _, by simp [maxLen], by simp, by simp [usec]⟩⟩
end
end Go.Proofs.YtglbkndbbhamcaaGreat
