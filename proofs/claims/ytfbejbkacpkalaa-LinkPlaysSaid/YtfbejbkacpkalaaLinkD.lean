/-
  Contracts of link.Link's Double and Spoil.
-/
import Derived.Test.YtfbejbkacpkalaaLinkB
import Derived.Test.YtfbejbkacpkalaaSlicesI
namespace Go.Proofs.Ytfbejbkacpkalaa
open Go.RowKit

theorem Insert_one (w : World) (g n c i xg : Nat) (xs : List Value) (x : Value) (hown : w.ownsRow 0 28 1 (.slice (some ⟨g, 0, none⟩) n c) n xs) (hx : Blk w xg 28 #[x]) (hne : xg ≠ g) (h1 : x.oneCell' = true) (h1c : ∀ u ∈ xs, u.oneCell' = true)
    (hi : i ≤ n) (hn : n ≤ 64) :
    Calls Try.prog 28 #[.slice (some ⟨g, 0, none⟩) n c, .int .i64 (i : Nat), .slice (some ⟨xg, 0, none⟩) 1 1] w (Put g n i xs x w) := by
  rcases Nat.lt_or_eq_of_le hi with hlt | rfl
  · obtain ⟨cur, hg, hnc, hc63, hcl, hct⟩ : ∃ cur : List Value, Blk w g 28 cur.toArray ∧ n ≤ c ∧ c ≤ 9223372036854775807 ∧ cur.length = c ∧ cur.take n = xs := by
      rcases hown.2 with ⟨h, _⟩ | ⟨g', c', cur, hv, _, hg, hn', hc, hs, ht⟩
      · cases h
      · cases hv
        exact ⟨cur.toList, hg, hn', hc, by simpa using hs, by simpa using ht⟩
    rcases Nat.lt_or_ge n c with hr | hr
    · have := Insert_shift w g n c i xg cur x hg hcl hx hne h1 (by rw [hct]; exact h1c) hlt hr hc63
      rwa [hct] at this
    · obtain rfl : n = c := by omega
      have ht : cur = xs := by rw [← hct, List.take_of_length_le (by omega)]
      subst ht
      exact Insert_grow w g n i xg cur x hg hcl hx hne h1 h1c hlt hn
  · exact Insert_end w g i c xg xs x hown hx h1 hn

def doubled (i : Nat) {α : Type} (L : List α) (x : α) : List α := L.take (i + 1) ++ x :: L.drop (i + 1)

/-- the link behind a Double -/
theorem Lk.put {w0 w w1 w3 : World} {b g i n c : Nat} {v' u : Value} {ls : List (Value × List UInt8)} {bs : List UInt8} {o : Obj} (h : Lnk w0 w b (.slice (some ⟨g, 0, none⟩) n c) ls) (hn : ls.length = n) (hfew : n < 64) (hi : i < n)
    (hk1 : Keep [] w w1) (hu : w1.ownsRow w.heap.size 5 1 u bs.length (bys bs)) (hs : bs.length ≤ 140737488355328)
    (hrow : w3.ownsRow 0 28 1 v' (n + 1) ((ls.map (·.1)).take (i + 1) ++ u :: (ls.map (·.1)).drop (i + 1))) (hk3 : Keep [g] (w1.alloc o) w3)
    (hat : v'.ownBlock = some g ∨ ∃ g', v'.ownBlock = some g' ∧ (w1.alloc o).heap.size ≤ g') :
    Lnk w0 (w3.setCell ⟨b, 0, none⟩ v') b v' (doubled i ls (u, bs)) ∧ Keep [b, g] w (w3.setCell ⟨b, 0, none⟩ v') ∧ Grow w (Lk.fp b (.slice (some ⟨g, 0, none⟩) n c) ls) (Lk.fp b v' (doubled i ls (u, bs))) := by
  have hL := h.lk
  have hbg : b ≠ g := fun e => hL.row_ne (by simp [Value.ownBlock, e])
  have hkA : Keep [] w (w1.alloc o) := hk1.alloc o
  have hsz := hkA.size
  have hmem : ∀ p, p ∈ doubled i ls (u, bs) ↔ p ∈ ls ∨ p = (u, bs) := by
    intro p
    unfold doubled
    rw [List.mem_append, List.mem_cons]
    conv => rhs; rw [← List.take_append_drop (i + 1) ls, List.mem_append]
    constructor
    · rintro (h | h | h)
      · exact .inl (.inl h)
      · exact .inr h
      · exact .inl (.inr h)
    · rintro ((h | h) | h)
      · exact .inl h
      · exact .inr (.inr h)
      · exact .inr (.inl h)
  have hbv : b ∉ v'.ownBlock.toList := by
    have hb := hL.blk.lt
    rcases hat with e | ⟨g', e, hg'⟩
    · rw [e]; simpa using hbg
    · rw [e]; simp; omega
  have hug : ∀ y ∈ u.ownBlock.toList, w.heap.size ≤ y := fun y hy => (own_mem hu hy).1
  have hgl : g < w.heap.size := (own_mem hL.row (g := g) (by simp [Value.ownBlock])).2
  have hown : ∀ p ∈ doubled i ls (u, bs), (w3.setCell ⟨b, 0, none⟩ v').ownsRow 0 5 1 p.1 p.2.length (bys p.2) := by
    intro p hp
    rcases (hmem p).1 hp with hp | rfl
    · refine own_set (own_keep (own_keep0 (hL.own p hp) hkA) hk3 (fun y hy => ?_)) (hL.own_not_b hp) _
      simp only [List.mem_singleton]; rintro rfl
      exact hL.own_not_v hp (by simpa using hy) (by simp [Value.ownBlock])
    · refine own_set (own_base (own_keep (own_alloc hu o) hk3 (fun y hy => ?_)) (Nat.zero_le _)) (fun hm => ?_) _
      · simp only [List.mem_singleton]; rintro rfl
        have := hug y (by simp [hy]); omega
      · have := hug b hm; have := hL.blk.lt; omega
  have hlen : (doubled i ls (u, bs)).length = n + 1 := by simp [doubled]; omega
  have hperm : (doubled i ls (u, bs)).filterMap (·.1.ownBlock) = (ls.take (i + 1)).filterMap (·.1.ownBlock) ++ (u.ownBlock.toList ++ (ls.drop (i + 1)).filterMap (·.1.ownBlock)) := by
    unfold doubled
    rw [List.filterMap_append, List.filterMap_cons]
    cases hq : u.ownBlock <;> simp [hq]
  have hsplit : ls.filterMap (·.1.ownBlock) = (ls.take (i + 1)).filterMap (·.1.ownBlock) ++ (ls.drop (i + 1)).filterMap (·.1.ownBlock) := by
    conv => lhs; rw [← List.take_append_drop (i + 1) ls, List.filterMap_append]
  have hlsl : ∀ y ∈ ls.filterMap (·.1.ownBlock), y < w.heap.size := by
    intro y hy
    obtain ⟨p, hp, hpy⟩ := List.mem_filterMap.1 hy
    exact (own_mem (hL.own p hp) (g := y) (by simp [hpy])).2
  have hk : Keep [b, g] w (w3.setCell ⟨b, 0, none⟩ v') := ((hkA.mono (m := [b, g]) (by simp)).trans hk3 (fun y hy => .inl (by simp at hy; simp [hy]))).setCell (.inl (by simp)) _
  have hgrow : Grow w (Lk.fp b (.slice (some ⟨g, 0, none⟩) n c) ls) (Lk.fp b v' (doubled i ls (u, bs))) := by
    intro y hy
    have hv0 : (Value.slice (some ⟨g, 0, none⟩) n c).ownBlock.toList = [g] := rfl
    simp only [Lk.fp, List.mem_cons, List.mem_append, hperm, hsplit, hv0, List.not_mem_nil, or_false] at hy ⊢
    rcases hy with hy | hy | hy | hy | hy
    · exact .inl (.inl hy)
    · rcases hat with e | ⟨g', e, hg'⟩
      · rw [e] at hy; exact .inl (.inr (.inl (by simpa using hy)))
      · rw [e] at hy
        obtain rfl : y = g' := by simpa using hy
        exact .inr (by omega)
    · exact .inl (.inr (.inr (.inl hy)))
    · exact .inr (hug y hy)
    · exact .inl (.inr (.inr (.inr hy)))
  refine ⟨⟨⟨?_, ?_, hown, ?_, ?_, by omega⟩, fun y hy => ?_, h.keep.trans hk (fun y hy => .inr (h.bv_new y (by simpa [Value.ownBlock] using hy)))⟩, hk, hgrow⟩
  · have := ((hL.blk.keep0 hkA).keep hk3 (by simpa using hbg)).set 0 v'
    simpa using this
  · rw [hlen]
    have : (doubled i ls (u, bs)).map (·.1) = (ls.map (·.1)).take (i + 1) ++ u :: (ls.map (·.1)).drop (i + 1) := by simp [doubled, List.map_take, List.map_drop]
    rw [this]
    exact own_set hrow hbv v'
  · intro p hp
    rcases (hmem p).1 hp with hp | rfl
    · exact hL.small p hp
    · exact hs
  · rw [hperm]
    have hnd := hL.nodup
    rw [hsplit, List.nodup_append] at hnd
    obtain ⟨n1, n2, n3⟩ := hnd
    have hune : ∀ y ∈ u.ownBlock.toList, y ∉ ls.filterMap (·.1.ownBlock) := fun y hy hm => by have := hug y hy; have := hlsl y hm; omega
    rw [hsplit] at hune
    rw [List.nodup_append, List.nodup_append]
    refine ⟨n1, ⟨by cases u.ownBlock <;> simp, n2, fun y hy z hz e => ?_⟩, fun y hy z hz e => ?_⟩
    · subst e; exact hune y hy (List.mem_append_right _ hz)
    · subst e
      rcases List.mem_append.1 hz with hz | hz
      · exact hune y hz (List.mem_append_left _ hy)
      · exact n3 y hy y hz rfl
  · rcases hgrow y hy with h1 | h1
    · exact h.new y h1
    · exact Nat.le_trans h.keep.size h1

set_option maxHeartbeats 2000000 in
theorem Double_in (w0 w : World) (b : Nat) (v : Value) (ls : List (Value × List UInt8)) (h : Lnk w0 w b v ls) (i n : Nat) (hn : ls.length = n) (hi : i < n) (hfew : n < 64) :
    Calls Try.prog 16 #[.pointer (some ⟨b, 0, none⟩), .int .i64 (i : Nat)] w fun e w' => ∃ v' u, e = .returned (.bool true) ∧ Lnk w0 w' b v' (doubled i ls (u, (ls.map (·.2))[i]?.getD [])) ∧
      Keep (b :: v.ownBlock.toList) w w' ∧ Grow w (Lk.fp b v ls) (Lk.fp b v' (doubled i ls (u, (ls.map (·.2))[i]?.getD []))) := by
  have hL := h.lk
  have hT := has_any w b v ls hL (i : Nat)
  rw [decide_eq_true (by omega)] at hT
  obtain ⟨u0, bs, hub⟩ : ∃ u bs, ls[i]'(by omega) = (u, bs) := ⟨_, _, rfl⟩
  have hbs : (ls.map (·.2))[i]?.getD [] = bs := by simp [show i < ls.length by omega, hub]
  rw [hbs]
  have hul : (u0, bs) ∈ ls := by rw [← hub]; exact List.getElem_mem _
  have hsm := hL.small _ hul
  obtain ⟨PA, pn, pc, rfl, hpc, hpn, hpr⟩ := Bts.of_own (hL.own _ hul) hsm
  have hpl : bs.length = pn := by simpa using hpr.1
  have h1c : ∀ y ∈ ls.map (·.1), y.oneCell' = true := by
    intro y hy
    obtain ⟨p, hp, rfl⟩ := List.mem_map.1 hy
    obtain ⟨A, c', e, _⟩ := own_form (hL.own p hp)
    rw [e]; rfl
  have hrow := hL.row
  have hcb := hL.blk.cell 0
  have hfb := hL.blk.frozen 0
  have hbl := hL.blk.lt
  rw [hn] at hrow
  obtain ⟨g, c, rfl, hcg⟩ : ∃ g c, v = .slice (some ⟨g, 0, none⟩) n c ∧ w.cell? ⟨g, i, none⟩ = some (.slice PA pn pc) := by
    rcases hrow.2 with ⟨_, h0⟩ | ⟨g, c, cur, rfl, _, hg, hn', hc, hs, ht⟩
    · omega
    · refine ⟨g, c, rfl, ?_⟩
      rw [Blk.cell (t := 28) hg]
      have h1 : (cur.toList.take (n * 1))[i]? = some (.slice PA pn pc) := by rw [ht]; simp [show i < ls.length by omega, hub]
      rw [List.getElem?_take_of_lt (by omega)] at h1
      simpa using h1
  have hbg : b ≠ g := fun e => hL.row_ne (by simp [Value.ownBlock, e])
  have hgl : g < w.heap.size := (own_mem hL.row (g := g) (by simp [Value.ownBlock])).2
  have hw1 : IntKind.i64.wrap ((i : Nat) + 1 : Int) = ((i + 1 : Nat) : Int) := by rw [IntKind.wrap_i64]; omega
  have hncap : n ≤ c := by obtain ⟨A, c', hv, h, _⟩ := own_form hrow; injection hv with _ _ h3; omega
  have HN := hide hn
  have HR := hide hrow
  have HP := hide hpl
  have HB := hide hbg
  simp only at hsm hpr
  clear hub hbs hul
  clear hn hrow hpl hbg
  go_enter Try.func16, Try.ntmps16
  go_wp2_with (refine hT.mono ?_; clear hT; rintro e w' ⟨rfl, rfl⟩)
  refine wp_region_ht (fun w' => w'.cell? ⟨b, 0, none⟩ = some (.slice (some ⟨g, 0, none⟩) n c)) 17 [(0, false), (1, false), (2, false), (3, false), (4, false), (5, false), (6, false), (7, false), (8, false), (9, false), (10, false), (11, false), (12, false), (13, true), (14, true), (15, true), (16, true)]
    (by kernel_rfl) (by kernel_rfl) (fun _ _ d _ _ h => by cases d <;> exact h) (by simpa using hcb) ?_
  simp only [picked, List.filterMap_cons, List.filterMap_nil, List.getElem?_cons_zero, List.getElem?_cons_succ, Option.map_some, List.drop_succ_cons, List.drop_zero]
  iterate 13 (refine wpT_held ?_ (by rfl) ?_ ?_; rotate_left; (focus (intro W hW; go_simp; first | done | with_reducible rfl)); simp only [Act.put, List.setIfInBounds_toArray, List.set_cons_zero, List.set_cons_succ])
  have hcb' : w.cell? ⟨b, 0, none⟩ = some (.slice (some ⟨g, 0, none⟩) n c) := by simpa using hcb
  refine wpT_loud (by rfl) (fun K hK => ?_)
  go_wp2_with fail
  refine hK _ _ hcb' ?_
  clear hK K
  try simp only [Act.put, List.setIfInBounds_toArray, List.set_cons_zero, List.set_cons_succ]
  refine wpT_loud (by rfl) (fun K hK => ?_)
  have hTC := Clone_any PA pn pc bs w.drew hpr.drew hpn
  go_wp2_with (refine hTC.mono ?_; clear hTC; rintro e w1 ⟨u, rfl, hu, hk1, _⟩; obtain ⟨UA, uc, rfl, _⟩ := own_form hu)
  replace hk1 : Keep [] w w1 := (Keep.refl [] w).drew.trans0 hk1
  refine hK _ _ ((hk1.cell hbl (by simp) _).trans hcb') ?_
  clear hK K
  try simp only [Act.put, List.setIfInBounds_toArray, List.set_cons_zero, List.set_cons_succ]
  refine wpT_loud (by rfl) (fun K hK => ?_)
  go_wp2_with fail
  have hka : Keep [] w (w1.alloc (.cells #[.slice UA pn uc] 28)) := hk1.alloc _
  refine hK _ _ ((hka.cell hbl (by simp) _).trans hcb') ?_
  clear hK K
  try simp only [Act.put, List.setIfInBounds_toArray, List.set_cons_zero, List.set_cons_succ]
  refine wpT_loud (by rfl) (fun K hK => ?_)
  have hTI := Insert_one (w1.alloc (.cells #[.slice UA pn uc] 28)) g n c (i + 1) w1.heap.size _ (.slice UA pn uc) (own_keep0 (unhide HR) hka) (Blk.new w1 _ _) (by have := hk1.size; omega) rfl h1c (by omega) (by omega)
  simp only [Int.natCast_add, Int.natCast_one] at hTI
  go_wp2_with (refine hTI.mono ?_; clear hTI; rintro e w3 ⟨v', rfl, hv', hk3, hat⟩; obtain ⟨VA, vc, rfl, _⟩ := own_form hv')
  have hb3 := (hk3.cell (hka.lt hbl) (by simpa using unhide HB) 0).trans ((hka.cell hbl (by simp) 0).trans hcb')
  refine hK _ _ hb3 ?_
  clear hK K
  try simp only [Act.put, List.setIfInBounds_toArray, List.set_cons_zero, List.set_cons_succ]
  refine wpT_nil ?_
  have hf3 := (hk3.frozen (hka.lt hbl) (by simpa using unhide HB) 0).trans ((hka.frozen hbl (by simp) 0).trans hfb)
  go_wp2
  go_ret
  have ep := unhide HP
  subst ep
  obtain ⟨hA, hB, hC⟩ := Lk.put h (unhide HN) hfew hi hk1 hu hsm hv' hk3 hat
  exact ⟨_, _, rfl, hA, hB.mono (fun y hy => .inl (by simpa [Value.ownBlock] using hy)), hC⟩

/-- a bit of a byte turned -/
def flipAt (bs : List UInt8) (k : Nat) : List UInt8 := bs.set (k / 8) (bs.getD (k / 8) 0 ^^^ (1 <<< (UInt8.ofNat (k % 8))))

theorem Spoil_out (w : World) (b : Nat) (v : Value) (ls : List (Value × List UInt8)) (h : Lk w b v ls) (i bit : Int) (hi : ¬ (0 ≤ i ∧ i < ls.length)) :
    Calls Try.prog 21 #[.pointer (some ⟨b, 0, none⟩), .int .i64 i, .int .i64 bit] w fun e w' => e = .returned (.bool false) ∧ w = w' := by
  have hT := has_any w b v ls h i
  rw [decide_eq_false hi] at hT
  go_enter Try.func21, Try.ntmps21
  go_wp2_with (refine hT.mono ?_; clear hT; rintro e w' ⟨rfl, rfl⟩)
  go_ret
  exact ⟨rfl, rfl⟩

theorem Lk.frame {w : World} {b : Nat} {v : Value} {ls : List (Value × List UInt8)} (h : Lk w b v ls) {i : Nat} (hi : i < ls.length) {u : Value} {bs : List UInt8} (hu : ls[i] = (u, bs)) :
    ∃ g c A cp, v = .slice (some ⟨g, 0, none⟩) ls.length c ∧ w.cell? ⟨g, i, none⟩ = some u ∧ u = .slice A bs.length cp ∧ bs.length ≤ 140737488355328 := by
  have hul : (u, bs) ∈ ls := by rw [← hu]; exact List.getElem_mem _
  obtain ⟨A, cp, hu', _⟩ := own_form (h.own _ hul)
  rcases h.row.2 with ⟨_, h0⟩ | ⟨g, c, cur, rfl, _, hg, hn', hc, hs, ht⟩
  · omega
  · refine ⟨g, c, A, cp, rfl, ?_, hu', h.small _ hul⟩
    rw [Blk.cell (t := 28) hg]
    have h1 : (cur.toList.take (ls.length * 1))[i]? = some u := by rw [ht]; simp [hi, hu]
    rw [List.getElem?_take_of_lt (by omega)] at h1
    simpa using h1

theorem Spoil_no (w : World) (b : Nat) (v : Value) (ls : List (Value × List UInt8)) (h : Lk w b v ls) (i : Nat) (bit : Int) (hi : i < ls.length) (hno : ls[i].2.length = 0 ∨ bit < 0) :
    Calls Try.prog 21 #[.pointer (some ⟨b, 0, none⟩), .int .i64 (i : Nat), .int .i64 bit] w fun e w' => e = .returned (.bool false) ∧ w = w' := by
  have hT := has_any w b v ls h (i : Nat)
  rw [decide_eq_true (by omega)] at hT
  obtain ⟨u, bs, hub⟩ : ∃ u bs, ls[i] = (u, bs) := ⟨_, _, rfl⟩
  rw [hub] at hno
  obtain ⟨g, c, A, cp, hv, hcg, hu, hsm⟩ := h.frame hi hub
  have hcb : w.cell? ⟨b, 0, none⟩ = some v := by simpa using h.blk.cell 0
  obtain ⟨n, hn⟩ : ∃ n, n = ls.length := ⟨_, rfl⟩
  obtain ⟨m, hm⟩ : ∃ m, m = bs.length := ⟨_, rfl⟩
  simp only at hno
  rw [← hn] at hi hv
  rw [← hm] at hu hsm hno
  subst hv hu
  clear hub h hn hm
  rcases hno with hno | hno
  · subst hno
    go_enter Try.func21, Try.ntmps21
    go_wp2_with (refine hT.mono ?_; clear hT; rintro e w' ⟨rfl, rfl⟩)
    go_ret
    exact ⟨rfl, rfl⟩
  · by_cases hm0 : (m : Int) = 0
    all_goals
      go_enter Try.func21, Try.ntmps21
      go_wp2_with (refine hT.mono ?_; clear hT; rintro e w' ⟨rfl, rfl⟩)
      go_ret
      exact ⟨rfl, rfl⟩
end Go.Proofs.Ytfbejbkacpkalaa
