/-
  Contracts: keelsonref1.Part, slices.Clone at bytes.
-/
import Derived.Test.YtplfijhianmohaaLaw
import Derived.Test.YtplfijhianmohaaRef1
namespace Go.Proofs.Ytplfijhianmohaa
open Go.RowKit
theorem elem8 : Elem Try.prog 34 5 (.int .u8 0) 1 := Elem.of Try.underlying34 (by kernel_rfl) rfl
theorem elemRows : Elem Try.prog 45 34 (.slice none 0 0) 24 := Elem.of Try.underlying45 (by kernel_rfl) rfl

set_option maxHeartbeats 400000 in
theorem Part_any (A : Option Addr) (n c : Nat) (xs : List UInt8) (f t : Int) (w : World) (ha : Rd w A n (bys xs)) (hf : 0 ≤ f) (hft : f ≤ t) (htn : t ≤ n) (hn : n ≤ c) (hc : n ≤ 140737488355328) :
    Calls Try.prog 37 #[.slice A n c, .int .i64 f, .int .i64 t] w fun e w' => ∃ v, e = .returned v ∧ w'.ownsRow w.heap.size 5 1 v (t - f).toNat (bys ((xs.drop f.toNat).take (t - f).toNat)) ∧ Keep [] w w' := by
  obtain ⟨m, hm⟩ : ∃ m : Nat, t - f = m := ⟨(t - f).toNat, by omega⟩
  have hm2 : (t - f).toNat = m := by omega
  rw [hm2]
  have hlen : xs.length = n := by simpa using ha.1
  have hcut := (ha.cutA (k := f.toNat) (cap := c) (by omega) (by omega)).take (k := m) (by omega)
  have hmn : m ≤ n := by omega
  have HM := hide hm
  have HL := hide hlen
  clear hm hm2 hlen
  go_enter Try.func37, Try.ntmps37
  go_wp2_with (first
    | (at_make; refine elem8.wp_make rfl _ _ rfl .i64 .i64 (t - f) (t - f) m rfl rfl (unhide HM) (unhide HM) (by omega) (by omega) ?_)
    | (refine wp_slice_of rfl (.tmp 13) (some (.tmp 14)) (some (.tmp 15)) rfl (.slice (cutA A f.toNat c) m (c - f.toNat)) ?hrun ?_)
    | (refine elem8.wp_copy rfl (.tmp 12) (.tmp 16) rfl (some ⟨w.heap.size, 0, none⟩) (cutA A f.toNat c) m m m (c - f.toNat) rfl rfl w.heap.size 0 (List.replicate m (.int .u8 0)) 5 ?hblk (fun _ => rfl) (by simp) _ ((hcut.keep ((Keep.refl _ w).alloc _))) ?hone ?_))
  case hrun =>
    intro W
    have := elem8.run_lh A n c .i64 .i64 f t hf hft (by omega) W
    rw [show t.toNat - f.toNat = m from by have := unhide HM; omega] at this
    exact this
  case hblk => simpa using Blk.new w 5 (Array.replicate m (.int .u8 0))
  case hone =>
    rw [bys_drop, bys_take]
    exact fun v hv => bys_one _ v (List.mem_of_mem_take hv)
  intro w2 hb2 hk2
  go_wp2
  go_ret
  have hl : ((xs.drop f.toNat).take m).length = m := by
    have h1 := unhide HM
    have h2 := unhide HL
    simp; omega
  rw [bys_drop, bys_take, List.take_of_length_le (by simpa using Nat.le_of_eq hl), splice_all _ _ (by simpa using hl.symm)] at hb2
  refine ⟨_, rfl, own_full hb2 (Nat.le_refl _) (by omega) (by simpa using hl) rfl, ?_⟩
  exact ((Keep.refl _ w).alloc _).trans hk2 (by simp)

set_option maxHeartbeats 400000 in
/-- slices.Clone of bytes: new memory (or nil). -/
theorem Clone_any (A : Option Addr) (n c : Nat) (xs : List UInt8) (w : World) (ha : Rd w A n (bys xs)) (hn : n ≤ 140737488355328) :
    Calls Try.prog 45 #[.slice A n c] w fun e w' => ∃ v, e = .returned v ∧ w'.ownsRow w.heap.size 5 1 v n (bys xs) ∧ Keep [] w w' ∧ (v = .slice none 0 0 ↔ A = none) := by
  have heq := fun (W : World) => Lib.run_eql_slice_nil (P := Try.prog) W 34 5 A n c 0 0 Try.underlying34
  rcases A with _ | ad
  · obtain rfl : n = 0 := by
      rcases Nat.eq_zero_or_pos n with e | e
      · exact e
      · obtain ⟨b, o, h, _⟩ := ha.2 e
        cases h
    obtain rfl : xs = [] := List.eq_nil_of_length_eq_zero (by simpa using ha.1)
    go_enter Try.func45, Try.ntmps45
    go_wp2
    go_ret
    exact ⟨_, rfl, World.ownsRow_nil _ _ _ _, Keep.refl _ _, by simp⟩
  · have hr := ha.keep ((Keep.refl _ w).alloc (.cells #[] 5))
    have ho : (w.alloc (.cells #[] 5)).ownsRow w.heap.size 5 1 (.slice (some ⟨w.heap.size, 0, none⟩) 0 0) 0 [] := own_full (Blk.new w 5 #[]) (Nat.le_refl _) (by omega) rfl rfl
    go_enter Try.func45, Try.ntmps45
    go_wp2_with (at_builtin; refine elem8.wp_app rfl _ _ rfl w.heap.size _ 0 [] rfl ho (some ad) n c (bys xs) rfl hr (bys_one _) (by omega) (by omega) (by simp) ?_)
    intro v' w' hown hk _ hnil
    go_wp2
    go_ret
    exact ⟨_, rfl, hown, ((Keep.refl _ w).alloc _).trans hk (by simp [Value.ownBlock]), by simp [hnil]⟩

/-- v is a slice of bytes that reads as bs. -/
def Bts (w : World) (v : Value) (bs : List UInt8) : Prop := ∃ A n c, v = .slice A n c ∧ n ≤ c ∧ n ≤ 140737488355328 ∧ Rd w A n (bys bs)
theorem Bts.keep {w w' : World} {v : Value} {bs : List UInt8} (h : Bts w v bs) (hk : Keep [] w w') : Bts w' v bs := by
  obtain ⟨A, n, c, e, h1, h2, h3⟩ := h
  exact ⟨A, n, c, e, h1, h2, h3.keep hk⟩
theorem Bts.keepIf {w w' : World} {v : Value} {bs : List UInt8} {l : List Nat} (h : Bts w v bs) (hk : Keep l w w') (hl : ∀ g ∈ v.ownBlock.toList, g ∉ l) : Bts w' v bs := by
  obtain ⟨A, n, c, rfl, h1, h2, h3⟩ := h
  exact ⟨A, n, c, rfl, h1, h2, h3.keepIf hk (fun a ha => hl _ (by simp [Value.ownBlock, ha]))⟩
theorem Bts.drewN {w : World} {v : Value} {bs : List UInt8} (h : Bts w v bs) (k : Nat) : Bts (w.drewN k) v bs := h
theorem Bts.of_own {w : World} {v : Value} {bs : List UInt8} {base n : Nat} (h : w.ownsRow base 5 1 v n (bys bs)) (hn : n ≤ 140737488355328) : Bts w v bs := by
  rcases h.2 with ⟨rfl, rfl⟩ | ⟨g, cap, cur, rfl, _, _, hc, _⟩
  · exact ⟨_, _, _, rfl, Nat.le_refl _, hn, Rd.of_own h⟩
  · exact ⟨_, _, _, rfl, hc, hn, Rd.of_own h⟩

set_option maxHeartbeats 400000 in
theorem Bytes_v (v u : Value) (xs ys : List UInt8) (w : World) (ha : Bts w v xs) (hb : Bts w u ys) :
    Calls Try.prog 38 #[v, u] w fun e w' => e = .returned (.bool (decide (xs = ys))) ∧ ∃ k, w.drewN k = w' := by
  obtain ⟨A, n, c, rfl, h1, h2, h3⟩ := ha
  obtain ⟨B, m, d, rfl, h4, h5, h6⟩ := hb
  exact Bytes_any A B n m c d xs ys w h3 h6 (by omega) (by omega)

/-- rows of bytes at A: headers and what they read as -/
def Rws (w : World) (A : Option Addr) (n : Nat) (ls : List (Value × List UInt8)) : Prop := Rd w A n (ls.map (·.1)) ∧ ∀ p ∈ ls, Bts w p.1 p.2
theorem Rws.keep {w w' : World} {A : Option Addr} {n : Nat} {ls : List (Value × List UInt8)} (h : Rws w A n ls) (hk : Keep [] w w') : Rws w' A n ls :=
  ⟨h.1.keep hk, fun p hp => (h.2 p hp).keep hk⟩
theorem Rws.drewN {w : World} {A : Option Addr} {n : Nat} {ls : List (Value × List UInt8)} (h : Rws w A n ls) (k : Nat) : Rws (w.drewN k) A n ls := h
theorem Rws.len {w : World} {A : Option Addr} {n : Nat} {ls : List (Value × List UInt8)} (h : Rws w A n ls) : ls.length = n := by simpa using h.1.1
theorem Rws.at_ {w : World} {A : Option Addr} {n : Nat} {ls : List (Value × List UInt8)} (h : Rws w A n ls) {j : Nat} (hj : j < n) (hl : j < ls.length) :
    ∃ b o, A = some ⟨b, o, none⟩ ∧ b < w.heap.size ∧ w.cell? ⟨b, o + j, none⟩ = some ls[j].1 ∧ Bts w ls[j].1 ls[j].2 := by
  obtain ⟨b, o, u, rfl, hx, hb, hc⟩ := h.1.at_ hj
  simp only [List.getElem?_map, List.getElem?_eq_getElem hl, Option.map_some, Option.some.injEq] at hx
  subst hx
  exact ⟨b, o, rfl, hb, hc, h.2 _ (List.getElem_mem hl)⟩

theorem map_take_succ {α β : Type} (f : α → β) (l : List α) (k : Nat) (h : k < l.length) : (l.map f).take (k + 1) = (l.map f).take k ++ [f l[k]] := by
  rw [List.take_succ_eq_append_getElem (by simpa using h)]; simp

set_option maxHeartbeats 400000 in
theorem Blocks_any (A B : Option Addr) (n m c d : Nat) (xs ys : List (Value × List UInt8)) (w : World) (ha : Rws w A n xs) (hb : Rws w B m ys) (hn : n ≤ 9223372036854775807) (hm : m ≤ 9223372036854775807) :
    Calls Try.prog 26 #[.slice A n c, .slice B m d] w fun e w' => e = .returned (.bool (decide (xs.map (·.2) = ys.map (·.2)))) ∧ ∃ k, w.drewN k = w' := by
  have hxn := ha.len
  have hym := hb.len
  by_cases hnm : n = m
  · subst hnm
    have HX := hide hxn
    have HY := hide hym
    clear hxn hym
    go_enter Try.func26, Try.ntmps26
    go_wp2
    go_loopw [5] (fun i wr => ∃ k : Nat, k ≤ n ∧ i = .int .i64 k ∧ Hid ((xs.map (·.2)).take k = (ys.map (·.2)).take k) ∧ ∃ t, wr = w.drewN t) (fun i _ => n - (intOf i).toNat)
    case atStart => exact ⟨0, Nat.zero_le _, rfl, by simp [Hid], 0, rfl⟩
    case round =>
      obtain ⟨k, hk, rfl, hpre, t, rfl⟩ := hrel
      by_cases hlt : k < n
      · have hxk : k < xs.length := by rw [unhide HX]; exact hlt
        have hyk : k < ys.length := by rw [unhide HY]; exact hlt
        obtain ⟨b1, o1, rfl, _, hc1, hr1⟩ := ha.at_ hlt hxk
        obtain ⟨b2, o2, rfl, _, hc2, hr2⟩ := hb.at_ hlt hyk
        obtain ⟨cx, hcx⟩ : ∃ c, c = xs[k] := ⟨_, rfl⟩
        obtain ⟨cy, hcy⟩ : ∃ c, c = ys[k] := ⟨_, rfl⟩
        rw [← hcx] at hc1 hr1
        rw [← hcy] at hc2 hr2
        obtain ⟨vx, bx⟩ := cx
        obtain ⟨vy, bY⟩ := cy
        have H1 := hide hcx
        have H2 := hide hcy
        clear hcx hcy
        have hbc := fun (W : World) (j : Nat) => Bytes_v vx vy bx bY (w.drewN j) hr1 hr2
        by_cases hcc : bx = bY
        · subst hcc
          simp only [decide_true] at hbc
          have HB := hide hbc
          clear hbc
          go_wp2
          go_quiet ((go_at_call 38; first | exact quiet_add_left (unhide HB w _) | exact quiet_left (unhide HB w _)))
          go_wp2
          go_roundw
          case rel =>
            refine ⟨k + 1, by omega, by go_num, ?_, _, rfl⟩
            show (xs.map (·.2)).take (k + 1) = (ys.map (·.2)).take (k + 1)
            rw [map_take_succ _ _ _ hxk, map_take_succ _ _ _ hyk, unhide hpre, ← unhide H1, ← unhide H2]
          case measure => simp [intOf]; omega
        · simp only [hcc, decide_false] at hbc
          have HB := hide hbc
          clear hbc
          go_wp2
          go_quiet ((go_at_call 38; first | exact quiet_add_left (unhide HB w _) | exact quiet_left (unhide HB w _)))
          go_wp2
          go_ret
          refine ⟨ret_bool ?_, ex_drewN _ _ _⟩
          symm
          rw [decide_eq_false_iff_not]
          intro e
          apply hcc
          have e1 : (xs.map (·.2))[k]? = (ys.map (·.2))[k]? := by rw [e]
          simp only [List.getElem?_map, List.getElem?_eq_getElem hxk, List.getElem?_eq_getElem hyk, Option.map_some, Option.some.injEq, ← unhide H1, ← unhide H2] at e1
          exact e1
      · have : k = n := by omega
        subst this
        go_wp2
        go_ret
        refine ⟨ret_bool ?_, _, rfl⟩
        symm
        rw [decide_eq_true_eq]
        have h := unhide hpre
        have h1 := unhide HX
        have h2 := unhide HY
        rw [List.take_of_length_le (by simp; omega), List.take_of_length_le (by simp; omega)] at h
        exact h
  · have hne : ((n : Int) != (m : Int)) = true := by simp; omega
    have hx : xs.map (·.2) ≠ ys.map (·.2) := fun e => by
      have := congrArg List.length e
      simp at this
      omega
    go_enter Try.func26, Try.ntmps26
    go_wp2
    go_ret
    exact ⟨ret_bool (by simp), 0, rfl⟩
end Go.Proofs.Ytplfijhianmohaa
