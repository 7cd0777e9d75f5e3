/-
  Contracts of row.Row: Lay, Take, Get.
-/
import Derived.Test.YtplfijhianmohaaRow
import Derived.Test.YtplfijhianmohaaNum
namespace Go.Proofs.Ytplfijhianmohaa
open Go.RowKit

set_option maxHeartbeats 1000000 in
set_option maxRecDepth 20000 in
theorem Take_row (w : World) (base r a m : Nat) (v : Value) (bs : List UInt8) (h : RowAt w base r v bs a) (hm : a + m ≤ bs.length) :
    Calls Try.prog 40 #[.pointer (some ⟨r, 0, none⟩), .int .i64 (m : Nat)] w fun e w' => ∃ u, e = .returned (.tuple #[u, .bool true]) ∧ w'.ownsRow w.heap.size 5 1 u m (bys ((bs.drop a).take m)) ∧ RowAt w' base r v bs (a + m) ∧ Keep [r] w w' := by
  obtain ⟨A, c, rfl, hc, hc63, _⟩ := own_form h.own
  have h0 := h.c0
  have h1 := h.c1
  have hfew := h.few
  have hrl := h.blk.lt
  have hT := Left_any w base r a _ bs h
  have hd := h.drew
  have hcut := ((Rd.of_own hd.own).cutA (k := a) (cap := c) (by omega) hc).take (k := m) (by omega)
  rw [bys_drop, bys_take] at hcut
  have hT2 := fun W (hk : Keep [] w.drew W) => Clone_any (cutA A a c) m (c - a) _ W (hcut.keep hk) (by omega)
  obtain ⟨n, hn⟩ : ∃ n, n = bs.length := ⟨_, rfl⟩
  rw [← hn] at h0 hT hm hc hfew
  have HN := hide hn
  have hrun := elem8.run_lh A n c .i64 .i64 (a : Nat) ((a : Nat) + (m : Nat) : Int) (by omega) (by omega) (by omega)
  rw [show ((a : Nat) + (m : Nat) : Int).toNat - ((a : Nat) : Int).toNat = m by omega, Int.toNat_natCast] at hrun
  have HR := hide hrun
  have hsum : IntKind.i64.wrap ((a : Nat) + (m : Nat) : Int) = (a : Nat) + (m : Nat) := by rw [IntKind.wrap_i64]; omega
  clear hn hrun
  go_enter Try.func40, Try.ntmps40
  go_wp2_with (refine hT.mono ?_; clear hT; rintro e w' ⟨rfl, rfl⟩)
  refine wp_region_ht (fun w' => w'.cell? ⟨r, 0, none⟩ = some (.slice A n c) ∧ w'.cell? ⟨r, 1, none⟩ = some (.int .i64 a)) 14 [(0, false), (1, false), (2, false), (3, false), (4, false), (5, false), (6, false), (7, false), (8, false), (9, false), (10, false), (11, false), (12, false), (13, false)]
    (by kernel_rfl) (by kernel_rfl) (fun _ _ d _ _ h => by cases d <;> exact h) ⟨h0, h1⟩ ?_
  simp only [picked, List.filterMap_cons, List.filterMap_nil, List.getElem?_cons_zero, List.getElem?_cons_succ, Option.map_some, List.drop_succ_cons, List.drop_zero]
  iterate 14 (refine wpT_held ?_ (by rfl) ?_ ?_; rotate_left; (focus (intro W hW; obtain ⟨hW1, hW2⟩ := hW; go_simp; first | done | with_reducible rfl)); simp only [Act.put, List.setIfInBounds_toArray, List.set_cons_zero, List.set_cons_succ])
  refine wpT_nil ?_
  clear hsum
  go_wp2_with (refine wp_slice_of rfl (.tmp 22) (some (.tmp 26)) (some (.tmp 32)) rfl (.slice (cutA A a c) m (c - a)) ?hrun ?_)
  case hrun =>
    intro W
    have h := unhide HR W
    exact h
  have hT3 := hT2 w.drew.drew (Keep.refl _ _).drew
  go_wp2_with (refine hT3.mono ?_; clear hT3; rintro e w2 ⟨u, rfl, hu, hk, _⟩; have h1' := (hk.cell (b := r) hrl (by simp) 1).trans h1; have hf' := (hd.keep0 ((Keep.refl _ _).drew.trans0 hk)).blk.frozen 1)
  go_ret2
  have hn := unhide HN
  have hh := ((hd.drew).keep0 hk).move (a + m) (by omega)
  rw [hn] at *
  exact ⟨_, rfl, own_set hu (fun hm => by have := (own_mem hu hm).1; simp at this; omega) _, by simpa using hh, ((Keep.refl _ _).drew.drew.trans0 hk).setCell (.inl (by simp)) _⟩

set_option maxHeartbeats 1000000 in
set_option maxRecDepth 20000 in
theorem Lay_row (w : World) (base r a : Nat) (v : Value) (bs : List UInt8) (h : RowAt w base r v bs a) (S : Option Addr) (m sc : Nat) (ys : List UInt8) (hr : Rd w S m (bys ys)) (hm : a + m ≤ bs.length) :
    Calls Try.prog 55 #[.pointer (some ⟨r, 0, none⟩), .slice S m sc] w fun e w' => e = .returned (.bool true) ∧ RowAt w' base r v (laid bs a ys) (a + m) ∧ Keep (r :: v.ownBlock.toList) w w' := by
  obtain ⟨A, c, rfl, hc, hc63, _⟩ := own_form h.own
  have h0 := h.c0
  have h1 := h.c1
  have hfew := h.few
  have hT := Left_any w base r a _ bs h
  have hd := h.drew
  have hl : ys.length = m := by simpa using hr.1
  obtain ⟨n, hn⟩ : ∃ n, n = bs.length := ⟨_, rfl⟩
  rw [← hn] at h0 hT hm hc hfew
  have HN := hide hn
  have HL := hide hl
  have han : a ≤ n := by omega
  have hrun := elem8.run_l (P := Try.prog) A n c .i64 (a : Nat) (by omega) (by omega)
  rw [Int.toNat_natCast] at hrun
  have HR := hide hrun
  clear hn hrun hl
  go_enter Try.func55, Try.ntmps55
  go_wp2_with (refine hT.mono ?_; clear hT; rintro e w' ⟨rfl, rfl⟩)
  refine wp_region_ht (fun w' => w'.cell? ⟨r, 0, none⟩ = some (.slice A n c) ∧ w'.cell? ⟨r, 1, none⟩ = some (.int .i64 a)) 15 [(0, false), (1, false), (2, false), (3, false), (4, false), (5, false), (6, false), (7, false), (8, false), (9, false), (10, false), (11, false), (12, false), (13, false), (14, true)]
    (by kernel_rfl) (by kernel_rfl) (fun _ _ d _ _ h => by cases d <;> exact h) ⟨h0, h1⟩ ?_
  simp only [picked, List.filterMap_cons, List.filterMap_nil, List.getElem?_cons_zero, List.getElem?_cons_succ, Option.map_some, List.drop_succ_cons, List.drop_zero]
  iterate 14 (refine wpT_held ?_ (by rfl) ?_ ?_; rotate_left; (focus (intro W hW; obtain ⟨hW1, hW2⟩ := hW; go_simp; first | done | with_reducible rfl)); simp only [Act.put, List.setIfInBounds_toArray, List.set_cons_zero, List.set_cons_succ])
  refine wpT_loud (by rfl) (fun K hK => ?_)
  refine elem8.wp1_copyOwn (.tmp 26) (.tmp 27) (by rfl) base A n c (bys bs) a (by rfl) (by have := hd.own; rwa [← unhide HN] at this) S m sc (bys ys) (by rfl) hr (bys_one _) hm ?_
  intro w2 hw2 hk2
  have hnm : r ∉ (Value.slice A n c).ownBlock.toList := by have := hd.not_mem; rwa [← unhide HN] at this
  have h1' := (hk2.cell (b := r) hd.blk.lt hnm 1).trans hd.c1
  have h0' := (hk2.cell (b := r) hd.blk.lt hnm 0).trans h0
  have hf' := (hk2.frozen (b := r) hd.blk.lt hnm 1).trans (hd.blk.frozen 1)
  refine hK _ _ (⟨h0', h1'⟩) ?_
  clear hK K
  try simp only [Act.put, List.setIfInBounds_toArray, List.set_cons_zero, List.set_cons_succ]
  refine wpT_nil ?_
  go_wp2
  all_goals
    go_ret
    try (have h' := h.symm; clear h; subst h')
    have hn := unhide HN
    have hl := unhide HL
    subst hn
    have hlen : (laid bs a ys).length = bs.length := length_laid _ _ _ (by omega)
    refine ⟨rfl, ⟨?_, ?_, hd.base, by omega, by omega⟩, ?_⟩
    · have := (hd.drew.blk.keep hk2 hnm).set 1 (.int .i64 ((a + m : Nat)))
      simpa using this
    · rw [hlen, bys_laid]
      exact own_set hw2 hnm _
    · exact ((((Keep.refl [] w).drew.drew).zero).trans hk2 (fun x hx => .inl (List.mem_cons_of_mem _ hx))).setCell (p := ⟨r, 1, none⟩) (.inl List.mem_cons_self) _

set_option maxHeartbeats 2000000 in
set_option maxRecDepth 20000 in
theorem Get_row (w : World) (base r a k : Nat) (v : Value) (bs : List UInt8) (h : RowAt w base r v bs a) (hk : k = 1 ∨ k = 2 ∨ k = 4) (hm : a + k ≤ bs.length) :
    Calls Try.prog 41 #[.pointer (some ⟨r, 0, none⟩), .int .i64 (k : Nat)] w fun e w' => e = .returned (.tuple #[.int .i64 (num ((bs.drop a).take k) : Nat), .bool true]) ∧ RowAt w' base r v bs (a + k) ∧ Keep [r] w w' := by
  have hk1 : 1 ≤ k ∧ k ≤ 4 := by omega
  obtain ⟨g, c, rfl, hc⟩ := own_some h.own (by omega)
  have hfew := h.few
  have hT := Left_any w base r a _ bs h
  have hTw := fun W => wide_any k hk W
  obtain ⟨n, hn⟩ : ∃ n, n = bs.length := ⟨_, rfl⟩
  rw [← hn] at hT hm hc hfew
  have HN := hide hn
  have hdl : (bs.drop a).length = n - a := by rw [List.length_drop, hn]
  have HD := hide hdl
  clear hk hn hdl
  go_enter Try.func41, Try.ntmps41
  go_wp2_with (first | (refine (hTw _).mono ?_; clear hTw; rintro e w' ⟨rfl, rfl⟩) | (refine hT.mono ?_; clear hT; rintro e w' ⟨rfl, rfl⟩))
  go_loopw [4, 6, 21] (fun t _ i wr => ∃ m : Nat, m ≤ k ∧ i = .int .i64 m ∧ t = .int .i64 (num ((bs.drop a).take m) : Nat) ∧ ∃ d, wr = w.drewN d) (fun _ _ i _ => k - (intOf i).toNat)
  case atStart => exact ⟨0, Nat.zero_le _, rfl, by simp, 1, rfl⟩
  case round =>
    obtain ⟨m, hm', rfl, rfl, d, rfl⟩ := hrel
    have hd : RowAt (w.drewN d) base r (.slice (some ⟨g, 0, none⟩) bs.length c) bs a := h.keep0 ((Keep.refl _ _).drewN _)
    have h0 := hd.c0
    rw [← unhide HN] at h0
    have h1 := hd.c1
    have hf1 := hd.blk.frozen 1
    by_cases hlt : m < k
    · have hml : m < (bs.drop a).length := by rw [unhide HD]; omega
      obtain ⟨x, hx⟩ : ∃ x, x = (bs.drop a)[m] := ⟨_, rfl⟩
      have hcx : (w.drewN d).cell? ⟨g, a + m, none⟩ = some (.int .u8 (x.toNat : Nat)) := by
        refine own_cell hd.own (i := a + m) ?_
        rw [hx, List.getElem_drop]
        exact bys_get _ _ (by have := unhide HN; omega)
      have hlen : ((bs.drop a).take m).length = m := by rw [List.length_take, unhide HD]; omega
      have hnl := num_lt ((bs.drop a).take m)
      rw [hlen] at hnl
      have hor := or_at _ m x (by omega) hnl
      have hsn : num ((bs.drop a).take (m + 1)) = num ((bs.drop a).take m) + 256 ^ m * x.toNat := by
        rw [List.take_succ_eq_append_getElem hml, num_snoc, hlen, hx]
      have HSN := hide hsn
      have HOR := hide hor
      have hs1 : IntKind.i64.wrap ((a : Nat) + (m : Nat) : Int) = (a : Nat) + (m : Nat) := by rw [IntKind.wrap_i64]; omega
      have hs2 : IntKind.i64.wrap (8 * (m : Nat) : Int) = 8 * (m : Nat) := by rw [IntKind.wrap_i64]; omega
      have hb0 : (0 : Int) ≤ (a : Nat) + (m : Nat) := by omega
      have hb1 : ((a : Nat) : Int) + (m : Nat) < (n : Nat) := by omega
      have hb2 : (((a : Nat) : Int) + (m : Nat)).toNat = a + m := by omega
      clear hx hlen hnl hor hsn hml
      generalize num ((bs.drop a).take m) = q at *
      go_wp2
      refine wp_region_ht (fun w' => w'.cell? ⟨r, 0, none⟩ = some (.slice (some ⟨g, 0, none⟩) n c) ∧ w'.cell? ⟨r, 1, none⟩ = some (.int .i64 a) ∧ w'.cell? ⟨g, a + m, none⟩ = some (.int .u8 (x.toNat : Nat))) 17 [(0, false), (1, false), (2, false), (3, false), (4, false), (5, false), (6, false), (7, false), (8, false), (9, false), (10, false), (11, false), (12, false), (13, false), (14, false), (15, false), (16, false)]
        (by kernel_rfl) (by kernel_rfl) (fun _ _ d _ _ h => by cases d <;> exact h) ⟨h0, h1, hcx⟩ ?_
      simp only [picked, List.filterMap_cons, List.filterMap_nil, List.getElem?_cons_zero, List.getElem?_cons_succ, Option.map_some, List.drop_succ_cons, List.drop_zero]
      iterate 17 (refine wpT_held ?_ (by rfl) ?_ ?_; rotate_left; (focus (intro W hW; obtain ⟨hW1, hW2, hW3⟩ := hW; go_simp; first | done | with_reducible rfl)); simp only [Act.put, List.setIfInBounds_toArray, List.set_cons_zero, List.set_cons_succ])
      refine wpT_nil ?_
      clear hs1 hs2 hb2
      go_wp2
      go_roundw
      case rel => exact ⟨m + 1, by omega, by go_num, by rw [unhide HOR, unhide HSN], _, rfl⟩
      case measure => simp [intOf]; omega
    · obtain rfl : k = m := by omega
      go_wp2
      go_ret2
      have hn := unhide HN
      have hh := hd.move (a + k) (by omega)
      exact ⟨rfl, by simpa using hh, ((Keep.refl _ _).drewN _).setCell (p := ⟨r, 1, none⟩) (.inl (by simp)) _⟩
end Go.Proofs.Ytplfijhianmohaa
