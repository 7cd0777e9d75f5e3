/-
  Contract of slices.Insert of one element, at rows of bytes.
-/
import Derived.Test.YtfbejbkacpkalaaSlicesD
import Derived.Lib.Overlaps
import Derived.Lib.AppendZeros
namespace Go.Proofs.Ytfbejbkacpkalaa
open Go.RowKit

/-- 'append(s[:k], make([]T, m)...)' where there is no room: a new row. -/
theorem Elem.run_zeros {P : Program} {t e tn ty : TypeId} {z : Value} {bytes : Nat} (E : Elem P t e z bytes) {kn : IntKind} (htn : P.underlying tn = some (.int kn)) (w : World) (g k c : Nat) (cur : List Value) (hg : Blk w g e cur.toArray) (hk : k ≤ cur.length)
    (m : Nat) (hm : 0 < m) (hgrow : c < k + m) (h63 : k + m ≤ 9223372036854775807) (hb : (k + m) * bytes ≤ 140737488355328) :
    ∃ cap' w', (Builtin.append_ #[t, tn] ty #[.slice (some ⟨g, 0, none⟩) k c, .int .i64 (m : Nat)]).run P w = .ok (.slice (some ⟨w.heap.size, 0, none⟩) (k + m) cap') w' ∧ k + m ≤ cap' ∧ cap' ≤ 9223372036854775807 ∧
      Blk w' w.heap.size e (cur.take k ++ List.replicate (cap' - k) z).toArray ∧ Keep [] w w' := by
  obtain ⟨i, hi, hz, hs, rfl⟩ := E.info
  have hne : ¬ (k + m ≤ c) := by omega
  have h63' : ¬ (9223372036854775807 < ((k : Int) + (m : Int))) := by omega
  have h48' : ¬ (281474976710656 < Builtin.nextslicecap (k + m) c * i.bytes) := by have := growslice_fits hgrow hb; omega
  have hwm : IntKind.i64.wrap (m : Int) = m := by rw [IntKind.wrap_i64]; omega
  have h48i : ¬ (281474976710656 < (m : Int) * (i.bytes : Int)) := by
    rw [← Int.natCast_mul]
    have := Nat.mul_le_mul_right i.bytes (show m ≤ k + m by omega)
    omega
  have hneg : ¬ ((m : Int) < 0) := by omega
  have hm0 : ¬ m = 0 := by omega
  have hfo := run_firstCells_some (P := P) w.drew i.size k ⟨g, 0, none⟩ k c (cur.take k) (by simp [hs]; omega) (fun j v hj => by
    rw [Addr.add_mid]
    have := hg.drew.cell (0 + j)
    rw [this]
    rw [List.getElem?_take] at hj
    split at hj
    · simpa using hj
    · cases hj)
  refine ⟨grownCap w (k + m) c e, w.drew.alloc (.cells (cur.take k ++ List.replicate (grownCap w (k + m) c e - k) z).toArray e), ?_, grownCap_ge _ _ _ _, grownCap_le_maxLen _ _ _ _ h63, Blk.new w.drew e _, (Keep.refl _ _).drew.alloc _⟩
  have hcap := grownCap_ge w (k + m) c e
  simp [Builtin.append_, run_underlying E.und, run_underlying htn, sizeOf, typeInfo, zeroValue, hi, hz, asInt, asIntOf, hwm, hm0, hs, hneg, hne, h63', h48', h48i, Question.forced, newRow, grownCap]
  simp [hs] at hfo
  rw [hfo, E.one]
  unfold grownCap at hcap
  generalize (Question.appendCap (k + m) c e).cut (w.tape w.drawn (Question.appendCap (k + m) c e)) = N at hcap
  have he : (cur.take k).toArray ++ (Builtin.zeroCells #[z] m ++ Builtin.zeroCells #[z] (N - (k + m))) = (cur.take k ++ List.replicate (N - k) z).toArray := by
    apply Array.ext'
    simp only [Array.toList_append, zeroCells_one, List.replicate_append_replicate]
    rw [show m + (N - (k + m)) = N - k by omega]
  simp only [Result.andThen, he]
  rfl

theorem Elem.run_copy1 {P : Program} {t e : TypeId} {z : Value} {bytes : Nat} (E : Elem P t e z bytes) (w : World) (rt : TypeId) (g off dl dc sc xg : Nat) (x : Value) (cur : List Value) (tt : TypeId) (hg : Blk w g tt cur.toArray) (hdl : 0 < dl) (hfit : off + 1 ≤ cur.length)
    (hr : Rd w (some ⟨xg, 0, none⟩) 1 [x]) (h1 : x.oneCell' = true) :
    ∃ w', (Builtin.copy_ #[t, t] rt #[.slice (some ⟨g, off, none⟩) dl dc, .slice (some ⟨xg, 0, none⟩) 1 sc]).run P w = .ok (goInt 1) w' ∧ Blk w' g tt (splice cur off [x]).toArray ∧ Keep [g] w w' := by
  obtain ⟨i, hi, hz, hsz, hby⟩ := E.info
  have hsz' : (P.info? e).map (·.size) = some 1 := by rw [hi]; simp [hsz]
  obtain ⟨b, o', hv, hb, hc⟩ := hr.2 (by omega)
  cases hv
  have hrun := run_copy_row (P := P) w t t rt e g off dl dc ⟨xg, 0, none⟩ 1 sc cur.toArray tt [x] E.und hsz' hg (by rw [List.length_singleton]; exact (Nat.min_eq_left hdl).symm) (fun j v hj => by rw [Addr.add_mid]; exact hc j v hj) (by simpa using hfit) (by simpa using h1)
  refine ⟨_, hrun, ?_, ?_⟩
  · show _ = _
    simpa [splice] using setRow_heap w g _ _ tt _ hg
  · exact ⟨rfl, rfl, rfl, by simp [World.setRow], fun k hk hn => setRow_other w g k _ (by simpa using hn)⟩

theorem ins_list {α : Type} (cur : List α) (i n : Nat) (x : α) (hi : i < n) (hn : n ≤ cur.length) :
    (splice (splice cur (i + 1) ((cur.take n).drop i)) i [x]).take (n + 1) = (cur.take n).take i ++ x :: (cur.take n).drop i := by
  have hM : ((cur.take n).drop i).length = n - i := by simp; omega
  have h1 : (cur.take (i + 1)).length = i + 1 := by simp; omega
  have h2 : (cur.take i).length = i := by simp; omega
  have ht : (cur.take (i + 1) ++ ((cur.take n).drop i ++ cur.drop (i + 1 + ((cur.take n).drop i).length))).take i = cur.take i := by
    rw [List.take_append_of_le_length (by omega), List.take_take, Nat.min_eq_left (by omega)]
  have hd : (cur.take (i + 1) ++ ((cur.take n).drop i ++ cur.drop (i + 1 + ((cur.take n).drop i).length))).drop (i + 1) = (cur.take n).drop i ++ cur.drop (i + 1 + ((cur.take n).drop i).length) := by
    rw [List.drop_append_of_le_length (by omega), List.drop_of_length_le (by omega), List.nil_append]
  simp only [splice, List.length_singleton, ht, hd]
  rw [show cur.take i ++ ([x] ++ ((cur.take n).drop i ++ cur.drop (i + 1 + ((cur.take n).drop i).length))) = (cur.take i ++ x :: (cur.take n).drop i) ++ cur.drop (i + 1 + ((cur.take n).drop i).length) by simp,
    List.take_append_of_le_length (by simp; omega), List.take_of_length_le (by simp; omega), List.take_take, Nat.min_eq_left (by omega)]

theorem ins_list2 {α : Type} (L M : List α) (Z : List α) (x : α) (i n : Nat) (hL : L.length = i) (hM : M.length = n - i) (hi : i < n) (hZ : n + 1 - i ≤ Z.length) :
    (splice (splice (L ++ Z) i [x]) (i + 1) M).take (n + 1) = L ++ x :: M := by
  have h1 : splice (L ++ Z) i [x] = L ++ x :: Z.drop 1 := by
    simp only [splice, List.length_singleton]
    rw [List.take_append_of_le_length (by omega), List.take_of_length_le (by omega), List.drop_append, List.drop_eq_nil_of_le (by omega)]
    simp [hL]
  have h2 : (L ++ x :: Z.drop 1).take (i + 1) = L ++ [x] := by
    rw [List.take_append, List.take_of_length_le (by omega), hL]
    simp
  rw [h1]
  simp only [splice, h2]
  rw [← List.append_assoc, List.take_append_of_le_length (by simp; omega), List.take_of_length_le (by simp; omega)]
  simp

theorem overlaps_no (w : World) (xg g o la ca lb cb k : Nat) (x : Value) (cur : Array Value) (hx : Blk w xg 28 #[x]) (hg : Blk w g 28 cur) (hne : xg ≠ g) (hc : cur.size = k + 1) :
    (callFunc 33 #[.slice (some ⟨xg, 0, none⟩) la ca, .slice (some ⟨g, o, none⟩) lb cb]).run Try.prog w = .ok (.value (.bool false)) w := by
  obtain ⟨i, hi, hz, hs, _⟩ := elemRows.info
  rw [run_callFunc_extern Try.func33 (by kernel_rfl) (by kernel_rfl) (by kernel_rfl) (e := Extern.SlicesOverlaps.overlaps #[34, 34] #[4]) (by kernel_rfl),
    Lib.run_overlaps_apart w 34 4 28 elemRows.und 1 (fun w => by simp [sizeOf, typeInfo, hi, hs]) ⟨xg, 0, none⟩ ⟨g, o, none⟩ la ca lb cb hne 28 28 1 (k + 1) ?_ ?_ (by omega) (hx.frozen 0) (hx.frozen 1)]
  · rfl
  · simp [World.shape?, show w.heap[xg]? = _ from hx]
  · simp [World.shape?, show w.heap[g]? = _ from hg, hc]
/-- what Insert leaves: a row of its own (the old one or a new one) with x put in at i -/
def Put (g n i : Nat) (xs : List Value) (x : Value) (w : World) (e : Ending) (w' : World) : Prop :=
  ∃ v', e = .returned v' ∧ w'.ownsRow 0 28 1 v' (n + 1) (xs.take i ++ x :: xs.drop i) ∧ Keep [g] w w' ∧ (v'.ownBlock = some g ∨ ∃ g', v'.ownBlock = some g' ∧ w.heap.size ≤ g')

set_option maxHeartbeats 1000000 in
theorem Insert_end (w : World) (g n c xg : Nat) (xs : List Value) (x : Value) (hown : w.ownsRow 0 28 1 (.slice (some ⟨g, 0, none⟩) n c) n xs) (hx : Blk w xg 28 #[x]) (h1 : x.oneCell' = true) (hn : n ≤ 64) :
    Calls Try.prog 28 #[.slice (some ⟨g, 0, none⟩) n c, .int .i64 (n : Nat), .slice (some ⟨xg, 0, none⟩) 1 1] w (Put g n n xs x w) := by
  have hrx : Rd w (some ⟨xg, 0, none⟩) 1 [x] := by simpa using Rd.of_blk (n := 1) hx (by simp)
  have hnc : n ≤ c := by obtain ⟨A, c', hv, h, _⟩ := own_form hown; injection hv with _ _ h3; omega
  have hxl : xs.length = n := by simpa using hown.1
  have HO := hide hown
  clear hown
  have hc1 : ¬ c = n ∨ c = n := by omega
  have HL := hide hxl
  clear hxl
  go_enter Try.func28, Try.ntmps28
  rcases hc1 with hc1 | hc1
  all_goals
    go_wp2_with (at_builtin; refine elemRows.wp_app rfl _ _ rfl 0 _ n xs rfl (unhide HO) _ 1 1 [x] rfl hrx (by simpa using h1) (by omega) (by omega) (by omega) ?_)
    intro v' w' hv' hk' hat _
    obtain ⟨VA, vc, rfl, _⟩ := own_form hv'
    go_wp2
    go_ret
    refine ⟨_, rfl, ?_, by simpa [Value.ownBlock] using hk', ?_⟩
    · rw [List.take_of_length_le (Nat.le_of_eq (unhide HL)), List.drop_eq_nil_of_le (Nat.le_of_eq (unhide HL))]
      exact hv'
    · rcases hat with h | h
      · exact .inl h
      · exact .inr ⟨_, h, Nat.le_refl _⟩

set_option maxHeartbeats 1000000 in
theorem Insert_shift (w : World) (g n c i xg : Nat) (cur : List Value) (x : Value) (hg : Blk w g 28 cur.toArray) (hcl : cur.length = c) (hx : Blk w xg 28 #[x]) (hne : xg ≠ g) (h1 : x.oneCell' = true) (h1c : ∀ u ∈ cur.take n, u.oneCell' = true)
    (hi : i < n) (hroom : n + 1 ≤ c) (hc63 : c ≤ 9223372036854775807) :
    Calls Try.prog 28 #[.slice (some ⟨g, 0, none⟩) n c, .int .i64 (i : Nat), .slice (some ⟨xg, 0, none⟩) 1 1] w (Put g n i (cur.take n) x w) := by
  have hrx : Rd w (some ⟨xg, 0, none⟩) 1 [x] := by simpa using Rd.of_blk (n := 1) hx (by simp)
  obtain ⟨k, hk⟩ : ∃ k, c = k + 1 := ⟨c - 1, by omega⟩
  have hov := fun la ca lb cb => overlaps_no w xg g (i + 1) la ca lb cb k x cur.toArray hx hg hne (by simp; omega)
  have HC := hide hcl
  clear hcl hk
  have hic : ¬ c = i := by omega
  have hic1 : ¬ c = i + 1 := by omega
  have hin : ¬ i = n := by omega
  go_enter Try.func28, Try.ntmps28
  go_wp2_with (simp only [hov])
  refine wp_region_ht (fun _ => True) 8 [(0, false), (1, false), (2, false), (3, false), (4, false), (5, false), (6, false), (7, false)]
    (by kernel_rfl) (by kernel_rfl) (fun _ _ d _ _ h => by cases d <;> exact h) trivial ?_
  simp only [picked, List.filterMap_cons, List.filterMap_nil, List.getElem?_cons_zero, List.getElem?_cons_succ, Option.map_some, List.drop_succ_cons, List.drop_zero]
  have hw1 : IntKind.i64.wrap ((i : Nat) + 1 : Int) = ((i + 1 : Nat) : Int) := by rw [IntKind.wrap_i64]; omega
  iterate 3 (refine wpT_held ?_ (by rfl) ?_ ?_; rotate_left; (focus (intro W hW; go_simp; first | done | with_reducible rfl)); simp only [Act.put, List.setIfInBounds_toArray, List.set_cons_zero, List.set_cons_succ])
  refine wpT_held (.int .i64 ((i + 1 : Nat) : Int)) (by rfl) (fun W _ => by go_simp) ?_
  simp only [Act.put, List.setIfInBounds_toArray, List.set_cons_zero, List.set_cons_succ]
  refine wpT_held (.slice (cutA (some ⟨g, 0, none⟩) (i + 1) c) (n + 1 - (i + 1)) (c - (i + 1))) (by rfl) (fun W _ => exec_slice_of (.tmp 69) (some (.tmp 72)) none rfl _ (elemRows.run_l (some ⟨g, 0, none⟩) (n + 1) c .i64 ((i + 1 : Nat) : Int) (by omega) (by omega) W)) ?_
  simp only [Act.put, List.setIfInBounds_toArray, List.set_cons_zero, List.set_cons_succ]
  iterate 2 (refine wpT_held ?_ (by rfl) ?_ ?_; rotate_left; (focus (intro W hW; go_simp; first | done | with_reducible rfl)); simp only [Act.put, List.setIfInBounds_toArray, List.set_cons_zero, List.set_cons_succ])
  refine wpT_held (.slice (cutA (some ⟨g, 0, none⟩) i c) (n + 1 - i) (c - i)) (by rfl) (fun W _ => exec_slice_of (.tmp 74) (some (.tmp 75)) none rfl _ (elemRows.run_l (some ⟨g, 0, none⟩) (n + 1) c .i64 (i : Nat) (by omega) (by omega) W)) ?_
  simp only [Act.put, List.setIfInBounds_toArray, List.set_cons_zero, List.set_cons_succ]
  refine wpT_nil ?_
  rw [cutA_at _ _ _ _ hic, cutA_at _ _ _ _ hic1, Nat.zero_add, Nat.zero_add]
  have hl : cur.length = c := unhide HC
  have hys : ((cur.take (n + 1)).drop i).take (n + 1 - (i + 1)) = (cur.take n).drop i := by
    apply List.ext_getElem?
    intro j
    simp only [List.getElem?_take, List.getElem?_drop]
    split <;> split <;> first | rfl | (split <;> first | rfl | omega) | omega
  have hrs : Rd w.drew (some ⟨g, i, none⟩) (n + 1 - i) ((cur.take (n + 1)).drop i) := by
    have h2 := Rd.of_blk (n := n + 1) hg (by simp; omega)
    have h3 := h2.cutA (k := i) (cap := c) (by omega) (by omega)
    rw [cutA_at _ _ _ _ hic, Nat.zero_add] at h3
    exact h3.drew
  have hfit1 : i + 1 + (n + 1 - (i + 1)) ≤ cur.length := by omega
  clear hl
  refine elemRows.wp_copy rfl (.tmp 73) (.tmp 76) rfl _ _ (n + 1 - (i + 1)) _ (n + 1 - i) _ rfl rfl g (i + 1) cur _ hg.drew (fun _ => rfl) hfit1 _ hrs (fun u hu => h1c u (by rw [hys] at hu; exact List.mem_of_mem_drop hu)) ?_
  rw [hys]
  intro w2 hb2 hk2
  obtain ⟨cur2, hcur2⟩ : ∃ y, y = splice cur (i + 1) ((cur.take n).drop i) := ⟨_, rfl⟩
  rw [← hcur2] at hb2
  have hl2 : cur2.length = c := by
    have := unhide HC
    rw [hcur2]; simp [splice]; omega
  have H2 := hide hcur2
  have HL2 := hide hl2
  have hx2 := hx.drew.keep hk2 (by simpa using hne)
  have hrx2 : Rd w2 (some ⟨xg, 0, none⟩) 1 [x] := by simpa using Rd.of_blk (n := 1) hx2 (by simp)
  clear hcur2 hl2 hys hrs hfit1 hrx
  obtain ⟨w3, hrun, hb3, hk3⟩ := elemRows.run_copy1 w2 3 g i (n + 1 - i) (c - i) 1 xg x cur2 _ hb2 (by omega) (by have := unhide HL2; omega) hrx2 h1
  go_wp2
  go_ret
  have hl2 := unhide HL2
  have h2 := unhide H2
  have hl := unhide HC
  refine ⟨_, rfl, own_of_blk hb3 (Nat.zero_le _) hroom hc63 (by simp [splice]; omega) ?_, ((Keep.refl [g] w).drew.trans hk2 (fun _ h => .inl h)).trans hk3 (fun _ h => .inl h), .inl rfl⟩
  rw [h2]
  exact ins_list cur i n x hi (by omega)

set_option maxHeartbeats 1000000 in
theorem Insert_grow (w : World) (g n i xg : Nat) (cur : List Value) (x : Value) (hg : Blk w g 28 cur.toArray) (hcl : cur.length = n) (hx : Blk w xg 28 #[x]) (hne : xg ≠ g) (h1 : x.oneCell' = true) (h1c : ∀ u ∈ cur, u.oneCell' = true)
    (hi : i < n) (hn : n ≤ 64) :
    Calls Try.prog 28 #[.slice (some ⟨g, 0, none⟩) n n, .int .i64 (i : Nat), .slice (some ⟨xg, 0, none⟩) 1 1] w (Put g n i cur x w) := by
  obtain ⟨cap, w2, hz, hc1, hc2, hb2, hk2⟩ := elemRows.run_zeros (ty := 34) Try.underlying3 w g i n cur hg (by omega) (n + 1 - i) (by omega) (by omega) (by omega) (by omega)
  have hsum : i + (n + 1 - i) = n + 1 := by omega
  rw [hsum] at hz hc1
  clear hsum
  have hx2 := hx.keep0 hk2
  have hrx2 : Rd w2 (some ⟨xg, 0, none⟩) 1 [x] := by simpa using Rd.of_blk (n := 1) hx2 (by simp)
  obtain ⟨cur2, hcur2⟩ : ∃ y, y = cur.take i ++ List.replicate (cap - i) (.slice none 0 0) := ⟨_, rfl⟩
  rw [← hcur2] at hb2
  have hl2 : cur2.length = cap := by rw [hcur2]; simp; omega
  obtain ⟨w3, hr3, hb3, hk3⟩ := elemRows.run_copy1 w2 3 w.heap.size i (n + 1 - i) (cap - i) 1 xg x cur2 _ hb2 (by omega) (by omega) hrx2 h1
  have hgl := hg.lt
  have hgn : g ∉ [w.heap.size] := by simp; omega
  have hg3 := ((hg.keep0 hk2).keep hk3 hgn).drew
  have H2 := hide hcur2
  have HL2 := hide hl2
  have HC := hide hcl
  have HZ := hide hz
  clear hcur2 hl2 hcl hz hrx2 hx2 hgn
  have hin : ¬ i = n := by omega
  have hin' : ¬ n = i := by omega
  have hic : ¬ cap = i := by omega
  have hic1 : ¬ cap = i + 1 := by omega
  have hw : IntKind.i64.wrap ((n : Nat) + 1 - (i : Nat) : Int) = ((n + 1 - i : Nat) : Int) := by rw [IntKind.wrap_i64]; omega
  go_enter Try.func28, Try.ntmps28
  go_wp2_with (at_builtin; refine Lib.wpList_append_run _ rfl _ _ 34 3 rfl _ _ rfl rfl _ _ (unhide HZ) ?_)
  refine wp_region_ht (fun _ => True) 8 [(0, false), (1, false), (2, false), (3, false), (4, false), (5, false), (6, false), (7, false)]
    (by kernel_rfl) (by kernel_rfl) (fun _ _ d _ _ h => by cases d <;> exact h) trivial ?_
  simp only [picked, List.filterMap_cons, List.filterMap_nil, List.getElem?_cons_zero, List.getElem?_cons_succ, Option.map_some, List.drop_succ_cons, List.drop_zero]
  have hw1 : IntKind.i64.wrap ((i : Nat) + 1 : Int) = ((i + 1 : Nat) : Int) := by rw [IntKind.wrap_i64]; omega
  iterate 3 (refine wpT_held ?_ (by rfl) ?_ ?_; rotate_left; (focus (intro W hW; go_simp; first | done | with_reducible rfl)); simp only [Act.put, List.setIfInBounds_toArray, List.set_cons_zero, List.set_cons_succ])
  refine wpT_held (.int .i64 ((i + 1 : Nat) : Int)) (by rfl) (fun W _ => by go_simp) ?_
  simp only [Act.put, List.setIfInBounds_toArray, List.set_cons_zero, List.set_cons_succ]
  refine wpT_held (.slice (cutA (some ⟨w.heap.size, 0, none⟩) (i + 1) cap) (n + 1 - (i + 1)) (cap - (i + 1))) (by rfl) (fun W _ => exec_slice_of (.tmp 46) (some (.tmp 49)) none rfl _ (elemRows.run_l (some ⟨w.heap.size, 0, none⟩) (n + 1) cap .i64 ((i + 1 : Nat) : Int) (by omega) (by omega) W)) ?_
  simp only [Act.put, List.setIfInBounds_toArray, List.set_cons_zero, List.set_cons_succ]
  iterate 2 (refine wpT_held ?_ (by rfl) ?_ ?_; rotate_left; (focus (intro W hW; go_simp; first | done | with_reducible rfl)); simp only [Act.put, List.setIfInBounds_toArray, List.set_cons_zero, List.set_cons_succ])
  refine wpT_held (.slice (cutA (some ⟨g, 0, none⟩) i n) (n - i) (n - i)) (by rfl) (fun W _ => exec_slice_of (.tmp 51) (some (.tmp 52)) none rfl _ (elemRows.run_l (some ⟨g, 0, none⟩) n n .i64 (i : Nat) (by omega) (by omega) W)) ?_
  simp only [Act.put, List.setIfInBounds_toArray, List.set_cons_zero, List.set_cons_succ]
  refine wpT_nil ?_
  rw [cutA_at _ _ _ _ hin', cutA_at _ _ _ _ hic1, Nat.zero_add, Nat.zero_add]
  have hl : cur.length = n := unhide HC
  have hrs : Rd w3.drew (some ⟨g, i, none⟩) (n - i) (cur.drop i) := by
    have h2 := Rd.of_blk (n := n) hg3 (by simp; omega)
    have h3 := h2.cutA (k := i) (cap := n) (by omega) (by omega)
    rw [cutA_at _ _ _ _ hin', Nat.zero_add, List.take_of_length_le (by simp; omega)] at h3
    simpa using h3
  have hl3 : (splice cur2 i [x]).length = cap := by have := unhide HL2; simp [splice]; omega
  have HL3 := hide hl3
  have hfit : i + 1 + (n + 1 - (i + 1)) ≤ (splice cur2 i [x]).length := by omega
  clear hl hl3
  refine elemRows.wp_copy rfl (.tmp 50) (.tmp 53) rfl _ _ (n + 1 - (i + 1)) _ (n - i) _ rfl rfl w.heap.size (i + 1) _ _ hb3.drew (fun _ => rfl) hfit _ hrs (fun u hu => h1c u (List.mem_of_mem_drop (List.mem_of_mem_take hu))) ?_
  intro w4 hb4 hk4
  clear hrs hfit
  go_wp2
  go_ret
  have hl := unhide HC
  have h2 := unhide H2
  have hl2 := unhide HL2
  have hl3 := unhide HL3
  refine ⟨_, rfl, own_of_blk hb4 (Nat.zero_le _) hc1 hc2 (by simp [splice] at hl3 ⊢; omega) ?_, ?_, .inr ⟨_, rfl, Nat.le_refl _⟩⟩
  · simp only
    rw [h2, List.take_of_length_le (l := cur.drop i) (by simp; omega)]
    exact ins_list2 _ _ _ x i n (by simp; omega) (by simp; omega) hi (by simp; omega)
  · have k3 : Keep [] w w3 := hk2.trans hk3 (fun y hy => .inr (by simp at hy; omega))
    exact (k3.drew.trans hk4 (fun y hy => .inr (by simp at hy; omega))).zero
end Go.Proofs.Ytfbejbkacpkalaa
