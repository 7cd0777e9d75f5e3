/-
  Contract of source.Source's Take, given Decode's.
-/
import Derived.Test.YtplfijhianmohaaDec
import Derived.Test.YtplfijhianmohaaSource3
namespace Go.Proofs.Ytplfijhianmohaa
open Go.RowKit

theorem DecPost.of_frame {w w' : World} {r : Ending} {k v s b c e d : Nat} {data : List UInt8} (hm : FrMay k v s b c e d data) (h : DecPost w (frBytes k v s b c e d data) r w') :
    Keep [] w w' ∧ ∃ u, r = .returned (.tuple #[.agg #[.int .i64 k, .int .i64 v, .int .i64 s, .int .i64 b, .int .i64 c, .int .i64 e, .int .i64 d, u], .int .i64 0]) ∧ w'.ownsRow w.heap.size 5 1 u data.length (bys data) := by
  obtain ⟨b1, b2, b3, b4, b5, b6, b7, b8⟩ := hm.bounds
  have hp := parse_frBytes k v s b c e d data (by omega) (by omega) (by omega) (by omega) (by omega) (by omega) (by omega)
  obtain ⟨hk, h | h⟩ := h
  · obtain ⟨_, _, u, h1, h2⟩ := h
    rw [hp] at h1 h2
    exact ⟨hk, u, h1, by simpa using h2⟩
  · exact absurd ⟨by rw [hp]; exact hm, by rw [hp]; rfl⟩ h.1

set_option maxHeartbeats 8000000 in
set_option maxRecDepth 20000 in
theorem Take_core (hD : DecodeWord) (w0 w : World) (s view size epoch seq acked done : Nat) (L : Value) (os : List (Value × POp)) (h : Src w0 w s view size epoch seq acked done L os) (A : Option Addr) (c q e d : Nat)
    (ha : Rd w A 25 (bys (frBytes 8 view q 0 0 e d []))) (hv : 1 ≤ view ∧ view ≤ 2147483647) (hq : q ≤ seq) (hd : d ≤ q) (he : e ≤ 2147483647) (D Q : Nat) (hDc : (done < d ∧ D = d) ∨ (d ≤ done ∧ D = done)) (hQc : (D < q ∧ Q = q) ∨ (q ≤ D ∧ Q = D)) (hDs : D ≤ seq) :
    Calls Try.prog 11 #[.pointer (some ⟨s, 0, none⟩), .slice A 25 c] w fun r w' => ∃ L', r = .returned (.int .i64 0) ∧ Src w0 w' s view size epoch seq Q D L' (os.drop (D - done)) ∧ Keep [s] w w' ∧
      ∀ g ∈ L'.ownBlock.toList, w.heap.size ≤ g := by
  have hfew := h.few
  have hlen := h.len
  have hT := hD A 25 c _ w ha (by omega) (by omega)
  obtain ⟨m, hm⟩ : ∃ m, m = D - done := ⟨_, rfl⟩
  have hx3 : IntKind.i64.wrap (((D : Nat) : Int) - ((done : Nat) : Int)) = (m : Nat) := by rw [IntKind.wrap_i64]; omega
  have hmo : m ≤ os.length := by omega
  obtain ⟨n, hn⟩ : ∃ n, n = os.length := ⟨_, rfl⟩
  obtain ⟨LA, lc, hL, hlc, hlc63⟩ : ∃ LA lc, L = .slice LA n lc ∧ n ≤ lc ∧ lc ≤ 9223372036854775807 := by
    obtain ⟨A, c, h1, h2, h3, _⟩ := own_form h.row
    exact ⟨A, c, by rw [hn]; exact h1, by omega, h3⟩
  subst hL
  have hSrc := h
  have hmn : m ≤ n := by omega
  have hn6 : n ≤ 1000000 := by omega
  have hmz : (0 : Int) ≤ (m : Nat) := by omega
  have hrd := h.rd rfl
  have HM := hide hm
  have HN := hide hn
  have HX3 := hide hx3
  have HLEN := hide hlen
  have hD0 : done ≤ D := by omega
  clear hm hn hx3 hlen hmo
  go_enter Try.func11, Try.ntmps11
  go_wp2_with (
    (refine hT.mono ?_)
    clear hT
    rintro r w1 hP
    obtain ⟨hk1, u, rfl, hu⟩ := DecPost.of_frame ⟨by omega, .inr (.inr (.inr (.inl ⟨rfl, by omega, rfl, rfl, by omega, by omega, rfl⟩)))⟩ hP
    obtain ⟨UA, uc, rfl, _⟩ := own_form hu)
  have hkW : Keep [] w (w1.alloc (.cells #[.int .i64 8, .int .i64 view, .int .i64 q, .int .i64 0, .int .i64 0, .int .i64 e, .int .i64 d, .slice UA 0 uc] 54)) := hk1.alloc _
  have hSW := h.keep0 hkW
  have hfr := Blk.new w1 54 #[.int .i64 8, .int .i64 view, .int .i64 q, .int .i64 0, .int .i64 0, .int .i64 e, .int .i64 d, .slice UA 0 uc]
  have hf5 := hk1.size
  generalize w1.alloc (.cells #[.int .i64 8, .int .i64 view, .int .i64 q, .int .i64 0, .int .i64 0, .int .i64 e, .int .i64 d, .slice UA 0 uc] 54) = W at *
  generalize w1.heap.size = f5 at *
  clear hu hk1 hP
  obtain ⟨c0, c1, c2, c3, c4, c5, c6⟩ := src_cells hSW.blk
  obtain ⟨e0, e1, e2, e3, e4, e5, e6, e7⟩ := frame_cells hfr
  refine wp_region_ht (fun w' => w'.cell? ⟨f5, 1, none⟩ = some (.int .i64 view) ∧ w'.cell? ⟨s, 0, none⟩ = some (.int .i64 view)) 6 [(0, false), (1, false), (2, false), (3, false), (4, false), (5, false)]
    (by kernel_rfl) (by kernel_rfl) (fun _ _ d _ _ h => by cases d <;> exact h) ⟨e1, c0⟩ ?_
  simp only [picked, List.filterMap_cons, List.filterMap_nil, List.getElem?_cons_zero, List.getElem?_cons_succ, Option.map_some, List.drop_succ_cons, List.drop_zero]
  iterate 6 (refine wpT_held ?_ (by rfl) ?_ ?_; rotate_left; (focus (intro W hW; obtain ⟨hW1, hW2⟩ := hW; go_simp; first | done | with_reducible rfl)); simp only [Act.put, List.setIfInBounds_toArray, List.set_cons_zero, List.set_cons_succ])
  refine wpT_nil ?_
  go_wp2
  refine wp_region_ht (fun w' => w'.cell? ⟨f5, 2, none⟩ = some (.int .i64 q) ∧ w'.cell? ⟨s, 3, none⟩ = some (.int .i64 seq)) 6 [(0, false), (1, false), (2, false), (3, false), (4, false), (5, false)]
    (by kernel_rfl) (by kernel_rfl) (fun _ _ d _ _ h => by cases d <;> exact h) ⟨e2, c3⟩ ?_
  simp only [picked, List.filterMap_cons, List.filterMap_nil, List.getElem?_cons_zero, List.getElem?_cons_succ, Option.map_some, List.drop_succ_cons, List.drop_zero]
  iterate 6 (refine wpT_held ?_ (by rfl) ?_ ?_; rotate_left; (focus (intro W hW; obtain ⟨hW1, hW2⟩ := hW; go_simp; first | done | with_reducible rfl)); simp only [Act.put, List.setIfInBounds_toArray, List.set_cons_zero, List.set_cons_succ])
  refine wpT_nil ?_
  go_wp2
  rcases hDc with ⟨hdd, hDe⟩ | ⟨hdd, hDe⟩ <;> subst hDe
  · refine wp_region_ht (fun w' => w'.cell? ⟨f5, 6, none⟩ = some (.int .i64 D) ∧ w'.cell? ⟨s, 5, none⟩ = some (.int .i64 done)) 6 [(0, false), (1, false), (2, false), (3, false), (4, false), (5, false)]
      (by kernel_rfl) (by kernel_rfl) (fun _ _ d _ _ h => by cases d <;> exact h) ⟨e6, c5⟩ ?_
    simp only [picked, List.filterMap_cons, List.filterMap_nil, List.getElem?_cons_zero, List.getElem?_cons_succ, Option.map_some, List.drop_succ_cons, List.drop_zero]
    iterate 6 (refine wpT_held ?_ (by rfl) ?_ ?_; rotate_left; (focus (intro W hW; obtain ⟨hW1, hW2⟩ := hW; go_simp; first | done | with_reducible rfl)); simp only [Act.put, List.setIfInBounds_toArray, List.set_cons_zero, List.set_cons_succ])
    refine wpT_nil ?_
    go_wp2
    have hx3 := unhide HX3
    refine wp_region_ht (fun w' => w'.cell? ⟨s, 5, none⟩ = some (.int .i64 done) ∧ w'.cell? ⟨s, 6, none⟩ = some (.slice LA n lc)) 13 [(0, false), (1, false), (2, false), (3, false), (4, false), (5, false), (6, false), (7, false), (8, false), (9, false), (10, false), (11, false), (12, true)]
      (by kernel_rfl) (by kernel_rfl) (fun _ _ d _ _ h => by cases d <;> exact h) ⟨c5, c6⟩ ?_
    simp only [picked, List.filterMap_cons, List.filterMap_nil, List.getElem?_cons_zero, List.getElem?_cons_succ, Option.map_some, List.drop_succ_cons, List.drop_zero]
    iterate 12 (refine wpT_held ?_ (by rfl) ?_ ?_; rotate_left; (focus (intro W hW; obtain ⟨hW1, hW2⟩ := hW; go_simp; first | done | with_reducible rfl)); simp only [Act.put, List.setIfInBounds_toArray, List.set_cons_zero, List.set_cons_succ])
    refine wpT_loud (by rfl) (fun K hK => ?_)
    clear hx3
    generalize hCA : (ite (lc = m) LA (Option.map (fun x => x.add (m * 5)) LA)) = CA
    have hcut : OpsRd W CA (n - m) (os.drop m) := ⟨by
      have h1 := (hSW.rd rfl).1.cutN 5 hmn hlc
      rw [opcs_drop] at h1
      rw [← hCA]; exact h1, by rw [List.length_drop, ← unhide HN]⟩
    have HCA := hide hCA
    clear hCA
    have hcl := CloneOps_any CA (n - m) (lc - m) (os.drop m) W.drew.drew.drew.drew (hcut.keep (Keep.refl _ _).drew.drew.drew.drew) (fun p hp => hSW.one p (List.mem_of_mem_drop hp)) (by omega)
    go_wp2_with (refine hcl.mono ?_; clear hcl; rintro r w3 ⟨v', rfl, hv', hk3⟩; obtain ⟨VA, vc, rfl, _⟩ := own_form hv')
    replace hk3 : Keep [] W w3 := (Keep.refl [] W).drew.drew.drew.drew.trans0 hk3
    have hS3 := hSW.keep0 hk3
    have hfr3 := hfr.keep0 hk3
    clear c0 c1 c2 c3 c4 c5 c6 e0 e1 e2 e3 e4 e5 e6 e7
    obtain ⟨c0, c1, c2, c3, c4, c5, c6⟩ := src_cells hS3.blk
    obtain ⟨e0, e1, e2, e3, e4, e5, e6, e7⟩ := frame_cells hfr3
    have hf6 := hS3.blk.frozen 6
    have hsl3 := hS3.lt
    refine hK _ _ (⟨c5, c6⟩) ?_
    clear hK K
    try simp only [Act.put, List.setIfInBounds_toArray, List.set_cons_zero, List.set_cons_succ]
    refine wpT_nil ?_
    go_wp2
    have hsf : s ≠ f5 := Blk.ne_ hS3.blk hfr3 (by decide)
    have hb6 : Blk (w3.setCell ⟨s, 6, none⟩ (.slice VA (n - m) vc)) s 64 #[.int .i64 view, .int .i64 size, .int .i64 epoch, .int .i64 seq, .int .i64 acked, .int .i64 done, .slice VA (n - m) vc] := by simpa using hS3.blk.set 6 (.slice VA (n - m) vc)
    have hfr6 := hfr3.far (p := ⟨s, 6, none⟩) (Ne.symm hsf) (.slice VA (n - m) vc)
    have e2' := (frame_cells hfr6).2.2.1
    have hk6 : Keep [s] w3 (w3.setCell ⟨s, 6, none⟩ (.slice VA (n - m) vc)) := (Keep.refl _ _).setCell (p := ⟨s, 6, none⟩) (.inl (by simp)) _
    clear c0 c1 c2 c3 c4 c5 c6 hf6 e0 e1 e2 e3 e4 e5 e6 e7
    have hsl6 := hb6.lt
    have hf5' := hb6.frozen 5
    have hc5' := (src_cells hb6).2.2.2.2.2.1
    have hf4' := hb6.frozen 4
    have hc4' := (src_cells hb6).2.2.2.2.1
    obtain ⟨W6, hW6⟩ : ∃ W6, W6 = w3.setCell ⟨s, 6, none⟩ (.slice VA (n - m) vc) := ⟨_, rfl⟩
    rw [← hW6] at hb6 hfr6 e2' hk6 hsl6 hf5' hc5' hf4' hc4'
    simp only [← hW6]
    clear hW6
    rcases hQc with ⟨hqq, hQe⟩ | ⟨hqq, hQe⟩
    all_goals (subst hQe)
    focus
      refine wp_region_ht (fun w' => w'.cell? ⟨f5, 2, none⟩ = some (.int .i64 Q)) 10 [(0, false), (1, false), (2, false), (3, false), (4, false), (5, false), (6, false), (7, false), (8, false), (9, true)]
        (by kernel_rfl) (by kernel_rfl) (fun _ _ d _ _ h => by cases d <;> exact h) e2' ?_
      simp only [picked, List.filterMap_cons, List.filterMap_nil, List.getElem?_cons_zero, List.getElem?_cons_succ, Option.map_some, List.drop_succ_cons, List.drop_zero]
      iterate 9 (refine wpT_held ?_ (by rfl) ?_ ?_; rotate_left; (focus (intro W hW; obtain hW1 := hW; go_simp; first | done | with_reducible rfl)); simp only [Act.put, List.setIfInBounds_toArray, List.set_cons_zero, List.set_cons_succ])
      refine wpT_loud (by rfl) (fun K hK => ?_)
      go_wp2_with fail
      have hfr7 := (hfr6.drew.far (p := ⟨s, 5, none⟩) (Ne.symm hsf) (.int .i64 D))
      refine hK _ _ ((frame_cells hfr7).2.2.1) ?_
      clear hK K
      try simp only [Act.put, List.setIfInBounds_toArray, List.set_cons_zero, List.set_cons_succ]
      refine wpT_nil ?_
      go_wp2
      go_ret
      have hk9 : Keep [s] w3 (((W6.setCell ⟨s, 5, none⟩ (.int .i64 D)).setCell ⟨s, 4, none⟩ (.int .i64 Q)).drew) := ((hk6.setCell (p := ⟨s, 5, none⟩) (.inl (by simp)) _).setCell (p := ⟨s, 4, none⟩) (.inl (by simp)) _).drew
      have hb9 : Blk (((W6.setCell ⟨s, 5, none⟩ (.int .i64 D)).setCell ⟨s, 4, none⟩ (.int .i64 Q)).drew) s 64 #[.int .i64 view, .int .i64 size, .int .i64 epoch, .int .i64 seq, .int .i64 Q, .int .i64 D, .slice VA (n - m) vc] := by
        have := ((hb6.set 5 (.int .i64 D)).set 4 (.int .i64 Q)).drew
        simpa using this
      have hbase : w.heap.size ≤ W.drew.drew.drew.drew.heap.size := hkW.size
      have hsV : ∀ g, (Value.slice VA (n - m) vc).ownBlock = some g → g ∉ [s] := fun g hg hm => by
        have h1 := (own_mem hv' (g := g) (by simpa using hg)).1
        have h2 := hSrc.lt
        simp at hm
        omega
      refine ⟨_, rfl, ⟨hb9, ?_, fun p hp => own_keep (hS3.data p (List.mem_of_mem_drop hp)) hk9 (fun g hg hm => by simp at hm; subst hm; exact hS3.data_s (List.mem_of_mem_drop hp) (by simpa using hg)), fun p hp => hSrc.small p (List.mem_of_mem_drop hp), hSrc.new, hS3.keep.trans hk9 (fun x hx => .inr (by simp at hx; subst hx; exact hSrc.new)), by rw [List.length_drop]; have := unhide HLEN; omega, hfew⟩, (hkW.trans0 hk3).zero.trans hk9 (fun x hx => .inl hx), fun g hg => ?_⟩
      · have h1 := own_keep (own_base hv' (Nat.le_trans hSrc.keep.size hbase)) hk9 hsV
        rw [show os.drop (D - done) = os.drop m by rw [unhide HM], List.length_drop, ← unhide HN]
        exact h1
      · exact Nat.le_trans hbase (own_mem hv' hg).1
    focus
      refine wp_region_ht (fun w' => w'.cell? ⟨f5, 2, none⟩ = some (.int .i64 q)) 10 [(0, false), (1, false), (2, false), (3, false), (4, false), (5, false), (6, false), (7, false), (8, false), (9, true)]
        (by kernel_rfl) (by kernel_rfl) (fun _ _ d _ _ h => by cases d <;> exact h) e2' ?_
      simp only [picked, List.filterMap_cons, List.filterMap_nil, List.getElem?_cons_zero, List.getElem?_cons_succ, Option.map_some, List.drop_succ_cons, List.drop_zero]
      iterate 9 (refine wpT_held ?_ (by rfl) ?_ ?_; rotate_left; (focus (intro W hW; obtain hW1 := hW; go_simp; first | done | with_reducible rfl)); simp only [Act.put, List.setIfInBounds_toArray, List.set_cons_zero, List.set_cons_succ])
      refine wpT_loud (by rfl) (fun K hK => ?_)
      go_wp2_with fail
      have hfr7 := (hfr6.drew.far (p := ⟨s, 5, none⟩) (Ne.symm hsf) (.int .i64 Q))
      refine hK _ _ ((frame_cells hfr7).2.2.1) ?_
      clear hK K
      try simp only [Act.put, List.setIfInBounds_toArray, List.set_cons_zero, List.set_cons_succ]
      refine wpT_nil ?_
      go_wp2
      go_ret
      have hk9 : Keep [s] w3 (((W6.setCell ⟨s, 5, none⟩ (.int .i64 Q)).setCell ⟨s, 4, none⟩ (.int .i64 Q)).drew) := ((hk6.setCell (p := ⟨s, 5, none⟩) (.inl (by simp)) _).setCell (p := ⟨s, 4, none⟩) (.inl (by simp)) _).drew
      have hb9 : Blk (((W6.setCell ⟨s, 5, none⟩ (.int .i64 Q)).setCell ⟨s, 4, none⟩ (.int .i64 Q)).drew) s 64 #[.int .i64 view, .int .i64 size, .int .i64 epoch, .int .i64 seq, .int .i64 Q, .int .i64 Q, .slice VA (n - m) vc] := by
        have := ((hb6.set 5 (.int .i64 Q)).set 4 (.int .i64 Q)).drew
        simpa using this
      have hbase : w.heap.size ≤ W.drew.drew.drew.drew.heap.size := hkW.size
      have hsV : ∀ g, (Value.slice VA (n - m) vc).ownBlock = some g → g ∉ [s] := fun g hg hm => by
        have h1 := (own_mem hv' (g := g) (by simpa using hg)).1
        have h2 := hSrc.lt
        simp at hm
        omega
      refine ⟨_, rfl, ⟨hb9, ?_, fun p hp => own_keep (hS3.data p (List.mem_of_mem_drop hp)) hk9 (fun g hg hm => by simp at hm; subst hm; exact hS3.data_s (List.mem_of_mem_drop hp) (by simpa using hg)), fun p hp => hSrc.small p (List.mem_of_mem_drop hp), hSrc.new, hS3.keep.trans hk9 (fun x hx => .inr (by simp at hx; subst hx; exact hSrc.new)), by rw [List.length_drop]; have := unhide HLEN; omega, hfew⟩, (hkW.trans0 hk3).zero.trans hk9 (fun x hx => .inl hx), fun g hg => ?_⟩
      · have h1 := own_keep (own_base hv' (Nat.le_trans hSrc.keep.size hbase)) hk9 hsV
        rw [show os.drop (Q - done) = os.drop m by rw [unhide HM], List.length_drop, ← unhide HN]
        exact h1
      · exact Nat.le_trans hbase (own_mem hv' hg).1
  · refine wp_region_ht (fun w' => w'.cell? ⟨f5, 6, none⟩ = some (.int .i64 d) ∧ w'.cell? ⟨s, 5, none⟩ = some (.int .i64 D)) 6 [(0, false), (1, false), (2, false), (3, false), (4, false), (5, false)]
      (by kernel_rfl) (by kernel_rfl) (fun _ _ d _ _ h => by cases d <;> exact h) ⟨e6, c5⟩ ?_
    simp only [picked, List.filterMap_cons, List.filterMap_nil, List.getElem?_cons_zero, List.getElem?_cons_succ, Option.map_some, List.drop_succ_cons, List.drop_zero]
    iterate 6 (refine wpT_held ?_ (by rfl) ?_ ?_; rotate_left; (focus (intro W hW; obtain ⟨hW1, hW2⟩ := hW; go_simp; first | done | with_reducible rfl)); simp only [Act.put, List.setIfInBounds_toArray, List.set_cons_zero, List.set_cons_succ])
    refine wpT_nil ?_
    go_wp2
    have hx3 : IntKind.i64.wrap 0 = 0 := rfl
    refine wp_region_ht (fun w' => w'.cell? ⟨s, 5, none⟩ = some (.int .i64 D) ∧ w'.cell? ⟨s, 6, none⟩ = some (.slice LA n lc)) 13 [(0, false), (1, false), (2, false), (3, false), (4, false), (5, false), (6, false), (7, false), (8, false), (9, false), (10, false), (11, false), (12, true)]
      (by kernel_rfl) (by kernel_rfl) (fun _ _ d _ _ h => by cases d <;> exact h) ⟨c5, c6⟩ ?_
    simp only [picked, List.filterMap_cons, List.filterMap_nil, List.getElem?_cons_zero, List.getElem?_cons_succ, Option.map_some, List.drop_succ_cons, List.drop_zero]
    iterate 12 (refine wpT_held ?_ (by rfl) ?_ ?_; rotate_left; (focus (intro W hW; obtain ⟨hW1, hW2⟩ := hW; go_simp; first | done | with_reducible rfl)); simp only [Act.put, List.setIfInBounds_toArray, List.set_cons_zero, List.set_cons_succ])
    refine wpT_loud (by rfl) (fun K hK => ?_)
    clear hx3
    have hcl := CloneOps_any LA n lc os W.drew.drew.drew.drew ((hSW.rd rfl).keep (Keep.refl _ _).drew.drew.drew.drew) hSW.one (by omega)
    go_wp2_with (refine hcl.mono ?_; clear hcl; rintro r w3 ⟨v', rfl, hv', hk3⟩; obtain ⟨VA, vc, rfl, _⟩ := own_form hv')
    replace hk3 : Keep [] W w3 := (Keep.refl [] W).drew.drew.drew.drew.trans0 hk3
    have hS3 := hSW.keep0 hk3
    have hfr3 := hfr.keep0 hk3
    clear c0 c1 c2 c3 c4 c5 c6 e0 e1 e2 e3 e4 e5 e6 e7
    obtain ⟨c0, c1, c2, c3, c4, c5, c6⟩ := src_cells hS3.blk
    obtain ⟨e0, e1, e2, e3, e4, e5, e6, e7⟩ := frame_cells hfr3
    have hf6 := hS3.blk.frozen 6
    have hsl3 := hS3.lt
    refine hK _ _ (⟨c5, c6⟩) ?_
    clear hK K
    try simp only [Act.put, List.setIfInBounds_toArray, List.set_cons_zero, List.set_cons_succ]
    refine wpT_nil ?_
    go_wp2
    have hsf : s ≠ f5 := Blk.ne_ hS3.blk hfr3 (by decide)
    have hb6 : Blk (w3.setCell ⟨s, 6, none⟩ (.slice VA (n) vc)) s 64 #[.int .i64 view, .int .i64 size, .int .i64 epoch, .int .i64 seq, .int .i64 acked, .int .i64 D, .slice VA (n) vc] := by simpa using hS3.blk.set 6 (.slice VA (n) vc)
    have hfr6 := hfr3.far (p := ⟨s, 6, none⟩) (Ne.symm hsf) (.slice VA (n) vc)
    have e2' := (frame_cells hfr6).2.2.1
    have hk6 : Keep [s] w3 (w3.setCell ⟨s, 6, none⟩ (.slice VA (n) vc)) := (Keep.refl _ _).setCell (p := ⟨s, 6, none⟩) (.inl (by simp)) _
    clear c0 c1 c2 c3 c4 c5 c6 hf6 e0 e1 e2 e3 e4 e5 e6 e7
    have hsl6 := hb6.lt
    have hf5' := hb6.frozen 5
    have hc5' := (src_cells hb6).2.2.2.2.2.1
    have hf4' := hb6.frozen 4
    have hc4' := (src_cells hb6).2.2.2.2.1
    obtain ⟨W6, hW6⟩ : ∃ W6, W6 = w3.setCell ⟨s, 6, none⟩ (.slice VA (n) vc) := ⟨_, rfl⟩
    rw [← hW6] at hb6 hfr6 e2' hk6 hsl6 hf5' hc5' hf4' hc4'
    simp only [← hW6]
    clear hW6
    rcases hQc with ⟨hqq, hQe⟩ | ⟨hqq, hQe⟩
    all_goals (subst hQe)
    focus
      refine wp_region_ht (fun w' => w'.cell? ⟨f5, 2, none⟩ = some (.int .i64 Q)) 10 [(0, false), (1, false), (2, false), (3, false), (4, false), (5, false), (6, false), (7, false), (8, false), (9, true)]
        (by kernel_rfl) (by kernel_rfl) (fun _ _ d _ _ h => by cases d <;> exact h) e2' ?_
      simp only [picked, List.filterMap_cons, List.filterMap_nil, List.getElem?_cons_zero, List.getElem?_cons_succ, Option.map_some, List.drop_succ_cons, List.drop_zero]
      iterate 9 (refine wpT_held ?_ (by rfl) ?_ ?_; rotate_left; (focus (intro W hW; obtain hW1 := hW; go_simp; first | done | with_reducible rfl)); simp only [Act.put, List.setIfInBounds_toArray, List.set_cons_zero, List.set_cons_succ])
      refine wpT_loud (by rfl) (fun K hK => ?_)
      go_wp2_with fail
      have hfr7 := (hfr6.drew.far (p := ⟨s, 5, none⟩) (Ne.symm hsf) (.int .i64 D))
      refine hK _ _ ((frame_cells hfr7).2.2.1) ?_
      clear hK K
      try simp only [Act.put, List.setIfInBounds_toArray, List.set_cons_zero, List.set_cons_succ]
      refine wpT_nil ?_
      go_wp2
      go_ret
      have hk9 : Keep [s] w3 (((W6.setCell ⟨s, 5, none⟩ (.int .i64 D)).setCell ⟨s, 4, none⟩ (.int .i64 Q)).drew) := ((hk6.setCell (p := ⟨s, 5, none⟩) (.inl (by simp)) _).setCell (p := ⟨s, 4, none⟩) (.inl (by simp)) _).drew
      have hb9 : Blk (((W6.setCell ⟨s, 5, none⟩ (.int .i64 D)).setCell ⟨s, 4, none⟩ (.int .i64 Q)).drew) s 64 #[.int .i64 view, .int .i64 size, .int .i64 epoch, .int .i64 seq, .int .i64 Q, .int .i64 D, .slice VA (n) vc] := by
        have := ((hb6.set 5 (.int .i64 D)).set 4 (.int .i64 Q)).drew
        simpa using this
      have hbase : w.heap.size ≤ W.drew.drew.drew.drew.heap.size := hkW.size
      have hsV : ∀ g, (Value.slice VA (n) vc).ownBlock = some g → g ∉ [s] := fun g hg hm => by
        have h1 := (own_mem hv' (g := g) (by simpa using hg)).1
        have h2 := hSrc.lt
        simp at hm
        omega
      refine ⟨_, rfl, ⟨hb9, ?_, fun p hp => own_keep (hS3.data p (List.mem_of_mem_drop hp)) hk9 (fun g hg hm => by simp at hm; subst hm; exact hS3.data_s (List.mem_of_mem_drop hp) (by simpa using hg)), fun p hp => hSrc.small p (List.mem_of_mem_drop hp), hSrc.new, hS3.keep.trans hk9 (fun x hx => .inr (by simp at hx; subst hx; exact hSrc.new)), by rw [Nat.sub_self, List.drop_zero]; exact unhide HLEN, hfew⟩, (hkW.trans0 hk3).zero.trans hk9 (fun x hx => .inl hx), fun g hg => ?_⟩
      · have h1 := own_keep (own_base hv' (Nat.le_trans hSrc.keep.size hbase)) hk9 hsV
        rw [Nat.sub_self, List.drop_zero, ← unhide HN]
        exact h1
      · exact Nat.le_trans hbase (own_mem hv' hg).1
    focus
      refine wp_region_ht (fun w' => w'.cell? ⟨f5, 2, none⟩ = some (.int .i64 q)) 10 [(0, false), (1, false), (2, false), (3, false), (4, false), (5, false), (6, false), (7, false), (8, false), (9, true)]
        (by kernel_rfl) (by kernel_rfl) (fun _ _ d _ _ h => by cases d <;> exact h) e2' ?_
      simp only [picked, List.filterMap_cons, List.filterMap_nil, List.getElem?_cons_zero, List.getElem?_cons_succ, Option.map_some, List.drop_succ_cons, List.drop_zero]
      iterate 9 (refine wpT_held ?_ (by rfl) ?_ ?_; rotate_left; (focus (intro W hW; obtain hW1 := hW; go_simp; first | done | with_reducible rfl)); simp only [Act.put, List.setIfInBounds_toArray, List.set_cons_zero, List.set_cons_succ])
      refine wpT_loud (by rfl) (fun K hK => ?_)
      go_wp2_with fail
      have hfr7 := (hfr6.drew.far (p := ⟨s, 5, none⟩) (Ne.symm hsf) (.int .i64 Q))
      refine hK _ _ ((frame_cells hfr7).2.2.1) ?_
      clear hK K
      try simp only [Act.put, List.setIfInBounds_toArray, List.set_cons_zero, List.set_cons_succ]
      refine wpT_nil ?_
      go_wp2
      go_ret
      have hk9 : Keep [s] w3 (((W6.setCell ⟨s, 5, none⟩ (.int .i64 Q)).setCell ⟨s, 4, none⟩ (.int .i64 Q)).drew) := ((hk6.setCell (p := ⟨s, 5, none⟩) (.inl (by simp)) _).setCell (p := ⟨s, 4, none⟩) (.inl (by simp)) _).drew
      have hb9 : Blk (((W6.setCell ⟨s, 5, none⟩ (.int .i64 Q)).setCell ⟨s, 4, none⟩ (.int .i64 Q)).drew) s 64 #[.int .i64 view, .int .i64 size, .int .i64 epoch, .int .i64 seq, .int .i64 Q, .int .i64 Q, .slice VA (n) vc] := by
        have := ((hb6.set 5 (.int .i64 Q)).set 4 (.int .i64 Q)).drew
        simpa using this
      have hbase : w.heap.size ≤ W.drew.drew.drew.drew.heap.size := hkW.size
      have hsV : ∀ g, (Value.slice VA (n) vc).ownBlock = some g → g ∉ [s] := fun g hg hm => by
        have h1 := (own_mem hv' (g := g) (by simpa using hg)).1
        have h2 := hSrc.lt
        simp at hm
        omega
      refine ⟨_, rfl, ⟨hb9, ?_, fun p hp => own_keep (hS3.data p (List.mem_of_mem_drop hp)) hk9 (fun g hg hm => by simp at hm; subst hm; exact hS3.data_s (List.mem_of_mem_drop hp) (by simpa using hg)), fun p hp => hSrc.small p (List.mem_of_mem_drop hp), hSrc.new, hS3.keep.trans hk9 (fun x hx => .inr (by simp at hx; subst hx; exact hSrc.new)), by rw [Nat.sub_self, List.drop_zero]; exact unhide HLEN, hfew⟩, (hkW.trans0 hk3).zero.trans hk9 (fun x hx => .inl hx), fun g hg => ?_⟩
      · have h1 := own_keep (own_base hv' (Nat.le_trans hSrc.keep.size hbase)) hk9 hsV
        rw [Nat.sub_self, List.drop_zero, ← unhide HN]
        exact h1
      · exact Nat.le_trans hbase (own_mem hv' hg).1
end Go.Proofs.Ytplfijhianmohaa
