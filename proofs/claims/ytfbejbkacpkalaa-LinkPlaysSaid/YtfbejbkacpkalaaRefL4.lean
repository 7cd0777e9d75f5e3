/-
  Contract of the reference's Send.
-/
import Derived.Test.YtfbejbkacpkalaaRefL3
namespace Go.Proofs.Ytfbejbkacpkalaa
open Go.RowKit

/-- the field Sent is given one row more -/
theorem Rf.setS {w0 w w1 w2 : World} {b s : Nat} {Lv Sv v' : Value} {ms : List (Value × List UInt8)} {ss' : List Value} {o : Obj} (h : Rf w0 w b Lv Sv ms s) (hk1 : Keep [] w w1) (hk2 : Keep Sv.ownBlock.toList (w1.alloc o) w2)
    (hv : w2.ownsRow w0.heap.size 28 1 v' (s + 1) ss') (hat : v'.ownBlock = Sv.ownBlock ∨ v'.ownBlock = some (w1.alloc o).heap.size) :
    Rf w0 (w2.setCell ⟨b, 1, none⟩ v') b Lv v' ms (s + 1) ∧ Keep (b :: Sv.ownBlock.toList) w (w2.setCell ⟨b, 1, none⟩ v') ∧ Grow w (Rf.rp b Lv Sv ms) (Rf.rp b Lv v' ms) ∧ Grow w Sv.ownBlock.toList v'.ownBlock.toList := by
  have hkA : Keep [] w (w1.alloc o) := hk1.alloc o
  have hA := h.keep0 hkA
  obtain ⟨ss, hss⟩ := hA.sent
  have hsz := hkA.size
  have hbl := h.blk.lt
  have hbv : b ∉ v'.ownBlock.toList := by
    rcases hat with e | e
    · rw [e]; exact h.b_sent
    · rw [e]; intro hm; have : b = (w1.alloc o).heap.size := by simpa using hm
      omega
  have hg : Grow w Sv.ownBlock.toList v'.ownBlock.toList := by
    intro x hx
    rcases hat with e | e
    · rw [e] at hx; exact .inl hx
    · rw [e] at hx
      obtain rfl : x = (w1.alloc o).heap.size := by simpa using hx
      exact .inr hsz
  have hk : Keep (b :: Sv.ownBlock.toList) w (w2.setCell ⟨b, 1, none⟩ v') := ((hkA.mono (m := b :: Sv.ownBlock.toList) (by simp)).trans hk2 (fun x hx => .inl (List.mem_cons_of_mem _ hx))).setCell (.inl (by simp)) _
  have hsv : ∀ x ∈ Sv.ownBlock.toList, w0.heap.size ≤ x := fun x hx => (own_mem hss hx).1
  have hLne : ∀ g, Lv.ownBlock = some g → g ∉ Sv.ownBlock.toList := fun g hg hm => h.apart g hg (by simpa using hm)
  refine ⟨⟨?_, own_set (own_keep hA.row hk2 hLne) hA.b_row _, ⟨ss', own_set hv hbv _⟩, fun p hp => ?_, h.small, fun g hg hs => ?_, h.few, h.new, h.keep.trans hk (fun x hx => .inr ?_)⟩, hk, fun x hx => ?_, hg⟩
  · have := (hA.blk.keep hk2 h.b_sent).set 1 v'
    simpa using this
  · refine own_set (own_keep (hA.own p hp) hk2 (fun g hg hm => ?_)) (hA.b_own hp) _
    exact own_ne (hA.own p hp) hss (by decide) hg (by simpa using hm)
  · rcases hat with e | e
    · rw [e] at hs; exact h.apart g hg hs
    · rw [e] at hs
      have h1 := (own_mem h.row (g := g) (by simp [hg])).2
      have : (w1.alloc o).heap.size = g := by simpa using hs
      omega
  · rcases List.mem_cons.1 hx with rfl | hx
    · exact h.new
    · exact hsv x hx
  · simp only [Rf.rp, List.mem_cons, List.mem_append] at hx ⊢
    rcases hx with hx | hx | hx | hx
    · exact .inl (.inl hx)
    · exact .inl (.inr (.inl hx))
    · rcases hg x hx with h1 | h1
      · exact .inl (.inr (.inr (.inl h1)))
      · exact .inr h1
    · exact .inl (.inr (.inr (.inr hx)))

set_option maxHeartbeats 8000000 in
theorem RSend_any (w0 w : World) (b s : Nat) (Lv Sv : Value) (ms : List (Value × List UInt8)) (h : Rf w0 w b Lv Sv ms s) (A : Option Addr) (n c : Nat) (fs : List (Value × List UInt8)) (hf : Rws w A n fs)
    (hA : ∀ a, A = some a → a.block ∉ b :: Sv.ownBlock.toList) (hfs : ∀ p ∈ fs, ∀ g ∈ p.1.ownBlock.toList, g ∉ b :: Sv.ownBlock.toList) (hsn : s + n ≤ 1000000) :
    Calls Try.prog 18 #[.pointer (some ⟨b, 0, none⟩), .slice A n c] w fun e w' => ∃ Lv' Sv' ms' s', e = .returned (.int .i64 (ms'.length : Nat)) ∧ Rf w0 w' b Lv' Sv' ms' s' ∧ s' ≤ s + n ∧
      ms'.map (·.2) = sendM (ms.map (·.2)) (fs.map (·.2)) ∧ Keep (b :: Sv.ownBlock.toList) w w' ∧ Grow w (Rf.rp b Lv Sv ms) (Rf.rp b Lv' Sv' ms') := by
  go_enter Try.func18, Try.ntmps18
  go_wp2
  go_loopw [5] (fun i wr => ∃ k Lv' Sv' ms' s', k ≤ n ∧ i = .int .i64 (k : Nat) ∧ Rf w0 wr b Lv' Sv' ms' s' ∧ s' ≤ s + k ∧ Hid (ms'.map (·.2) = ((ms ++ fs.take k).map (·.2)).take 64) ∧ Keep (b :: Sv.ownBlock.toList) w wr ∧ Grow w (Rf.rp b Lv Sv ms) (Rf.rp b Lv' Sv' ms') ∧ Grow w Sv.ownBlock.toList Sv'.ownBlock.toList) (fun i _ => n - (intOf i).toNat)
  case atStart =>
    refine ⟨0, Lv, Sv, ms, s, Nat.zero_le _, rfl, h, by omega, ?_, Keep.refl _ _, Grow.refl _ _, Grow.refl _ _⟩
    show _ = _
    rw [List.take_zero, List.append_nil, List.take_of_length_le (by simpa using h.few)]
  case round =>
    obtain ⟨k, L1, S1, m1, s1, hk, rfl, hR, hs1, hm, hkp, hgr, hgv⟩ := hrel
    have hcb : wr.cell? ⟨b, 0, none⟩ = some L1 := by simpa using hR.blk.cell 0
    have hcs : wr.cell? ⟨b, 1, none⟩ = some S1 := by simpa using hR.blk.cell 1
    obtain ⟨LA, lc, hL1, _⟩ := own_form hR.row
    obtain ⟨ss, hss⟩ := hR.sent
    obtain ⟨SA, sc, hS1, _⟩ := own_form hss
    have hfew := hR.few
    by_cases hlt : k < n ∧ m1.length < 64
    · obtain ⟨hlt, hroom⟩ := hlt
      have hkl : k < fs.length := by rw [hf.len]; exact hlt
      obtain ⟨b1, o1, rfl, hbl, hc1, hr1⟩ := hf.at_ hlt hkl
      have hb1n : b1 ∉ b :: Sv.ownBlock.toList := hA _ rfl
      have hct := (hkp.cell hbl hb1n (o1 + k)).trans hc1
      obtain ⟨p, hp⟩ : ∃ p, p = fs[k] := ⟨_, rfl⟩
      have hpm : p ∈ fs := by rw [hp]; exact List.getElem_mem hkl
      rw [← hp] at hct hr1
      have hB1 : Bts wr p.1 p.2 := hr1.keepIf hkp (hfs p hpm)
      have hpg := hfs p hpm
      obtain ⟨pv, pb⟩ := p
      obtain ⟨PA, pn, pc, hpv, hpc, hpn, hpr⟩ := hB1
      have hpl : pb.length = pn := by simpa using hpr.1
      simp only at hpv hpg
      subst hpv hL1 hS1
      have hpB : 0 < pn → ∀ y ∈ (Value.slice PA pn pc).ownBlock.toList, y < w.heap.size := fun h0 y hy => by
        obtain ⟨A', n', c', e, _, _, h⟩ := hr1
        cases e
        obtain ⟨bb, oo, e, hb, _⟩ := h.2 h0
        subst e
        obtain rfl : y = bb := by simpa [Value.ownBlock] using hy
        exact hb
      have hbl1 := hR.blk.lt
      have hfb1 := hR.blk.frozen 1
      have hblw : b1 < wr.heap.size := Nat.lt_of_lt_of_le hbl hkp.size
      have hb1S : b1 ∉ (Value.slice SA s1 sc).ownBlock.toList := fun hm => by
        rcases hgv b1 hm with h1 | h1
        · exact hb1n (List.mem_cons_of_mem _ h1)
        · omega
      have hbS := hR.b_sent
      have HPL := hide hpl
      have HB1 := hide hb1S
      have HBS := hide hbS
      have hsc : (ms ++ fs.take (k + 1)).map (·.2) = (ms ++ fs.take k).map (·.2) ++ [pb] := by rw [sent_succ _ _ _ hkl, ← hp]
      have HSC := hide hsc
      clear hpl hb1S hbS hsc hp hc1 hr1
      clear hkl
      go_wp2
      refine wp_region_ht (fun w' => w'.cell? ⟨b, 1, none⟩ = some (.slice SA s1 sc) ∧ w'.cell? ⟨b1, o1 + k, none⟩ = some (.slice PA pn pc)) 17 [(0, false), (1, false), (2, false), (3, false), (4, false), (5, false), (6, false), (7, false), (8, false), (9, false), (10, false), (11, false), (12, false), (13, false), (14, true), (15, true), (16, true)]
        (by kernel_rfl) (by kernel_rfl) (fun _ _ d _ _ h => by cases d <;> exact h) ⟨hcs, hct⟩ ?_
      simp only [picked, List.filterMap_cons, List.filterMap_nil, List.getElem?_cons_zero, List.getElem?_cons_succ, Option.map_some, List.drop_succ_cons, List.drop_zero]
      iterate 14 (refine wpT_held ?_ (by rfl) ?_ ?_; rotate_left; (focus (intro W hW; obtain ⟨hW1, hW2⟩ := hW; go_simp; first | done | with_reducible rfl)); simp only [Act.put, List.setIfInBounds_toArray, List.set_cons_zero, List.set_cons_succ])
      refine wpT_loud (by rfl) (fun K hK => ?_)
      have hTP := Part_any PA pn pc pb 0 (pn : Nat) wr.drew hpr.drew (by omega) (by omega) (by omega) hpc hpn
      simp only [Int.sub_zero, Int.toNat_natCast, Int.toNat_zero, List.drop_zero] at hTP
      rw [List.take_of_length_le (Nat.le_of_eq (unhide HPL))] at hTP
      go_wp2_with (refine hTP.mono ?_; clear hTP; rintro e w1 ⟨u, rfl, hu, hk1⟩; obtain ⟨UA, uc, rfl, _⟩ := own_form hu)
      replace hk1 : Keep [] wr w1 := (Keep.refl [] wr).drew.trans0 hk1
      refine hK _ _ ⟨(hk1.cell hbl1 (by simp) _).trans hcs, (hk1.cell hblw (by simp) _).trans hct⟩ ?_
      clear hK K
      try simp only [Act.put, List.setIfInBounds_toArray, List.set_cons_zero, List.set_cons_succ]
      refine wpT_loud (by rfl) (fun K hK => ?_)
      go_wp2_with fail
      have hka := hk1.alloc (.cells #[.slice UA pn uc] 28)
      refine hK _ _ ⟨(hka.cell hbl1 (by simp) _).trans hcs, (hka.cell hblw (by simp) _).trans hct⟩ ?_
      clear hK K
      try simp only [Act.put, List.setIfInBounds_toArray, List.set_cons_zero, List.set_cons_succ]
      refine wpT_loud (by rfl) (fun K hK => ?_)
      refine elemRows.wp1_app (.tmp 24) (.tmp 35) (by rfl) w0.heap.size _ s1 ss (by rfl) (own_keep0 hss hka) _ 1 1 [_] (by rfl) (rd_new1 _ _ _) (by simp [Value.oneCell']) (by omega) (by omega) (Nat.le_trans hR.keep.size hka.size) ?_
      intro v2 w2 hv2 hk2 hat _
      obtain ⟨VA, vc, rfl, _⟩ := own_form hv2
      have hcs2 := (hk2.cell (hka.lt hbl1) (unhide HBS) 1).trans ((hka.cell hbl1 (by simp) 1).trans hcs)
      have hfs2 := (hk2.frozen (hka.lt hbl1) (unhide HBS) 1).trans ((hka.frozen hbl1 (by simp) 1).trans hfb1)
      have hct2 := (hk2.cell (hka.lt hblw) (unhide HB1) (o1 + k)).trans ((hka.cell hblw (by simp) (o1 + k)).trans hct)
      refine hK _ _ ⟨hcs2, hct2⟩ ?_
      clear hK K
      try simp only [Act.put, List.setIfInBounds_toArray, List.set_cons_zero, List.set_cons_succ]
      refine wpT_nil ?_
      obtain ⟨hR2, hkS, hgS, hgvS⟩ := hR.setS hk1 hk2 hv2 hat
      go_wp2
      have hprS : Bts (w2.setCell ⟨b, 1, none⟩ (.slice VA (s1 + 1) vc)) (.slice PA pn pc) pb := by
        rcases Nat.eq_zero_or_pos pn with h0 | h0
        · have e := unhide HPL
          subst h0
          obtain rfl := List.eq_nil_of_length_eq_zero e
          exact ⟨PA, 0, pc, rfl, hpc, hpn, Rd.nil _ _⟩
        · exact Bts.keepIf ⟨PA, pn, pc, rfl, hpc, hpn, hpr⟩ hkS (fun y hy hm => by
            rcases List.mem_cons.1 hm with rfl | hm
            · exact hpg y hy List.mem_cons_self
            · rcases hgv y hm with h1 | h1
              · exact hpg y hy (List.mem_cons_of_mem _ h1)
              · have := hpB h0 y hy; omega)
      obtain ⟨W3, hW3⟩ : ∃ W3, W3 = w2.setCell ⟨b, 1, none⟩ (.slice VA (s1 + 1) vc) := ⟨_, rfl⟩
      have hct3 : W3.cell? ⟨b1, o1 + k, none⟩ = some (.slice PA pn pc) := by
        rw [hW3]
        exact (((Keep.refl [b] w2).setCell (.inl (by simp)) _).cell (hk2.lt (hka.lt hblw)) (by simp only [List.mem_singleton]; rintro rfl; exact hb1n List.mem_cons_self) _).trans hct2
      rw [← hW3] at hR2 hkS hprS ⊢
      have hcb3 : W3.cell? ⟨b, 0, none⟩ = some (.slice LA m1.length lc) := by simpa using hR2.blk.cell 0
      have hfb3 := hR2.blk.frozen 0
      have hb3 := hR2.blk.lt
      have hb13 : b1 < W3.heap.size := Nat.lt_of_lt_of_le hblw hkS.size
      have hrd3 := Rd.of_own hR2.row
      have h1c := hR2.one
      have hpr3 : Rd W3 PA pn (bys pb) := by
        obtain ⟨_, _, _, e, _, _, h⟩ := hprS
        cases e; exact h
      clear hW3 hk2 hv2 hu hka hk1 hcs2 hfs2 hct2 hprS hcs hct hcb hss
      refine wp_region_ht (fun w' => w'.cell? ⟨b, 0, none⟩ = some (.slice LA m1.length lc) ∧ w'.cell? ⟨b1, o1 + k, none⟩ = some (.slice PA pn pc)) 19 [(0, false), (2, false), (3, false), (4, false), (5, false), (7, false), (8, false), (9, false), (10, false), (11, false), (12, false), (13, false), (14, false), (15, false), (1, true), (6, true), (16, true), (17, true), (18, true)]
        (by kernel_rfl) (by kernel_rfl) (fun _ _ d _ _ h => by cases d <;> exact h) ⟨hcb3, hct3⟩ ?_
      simp only [picked, List.filterMap_cons, List.filterMap_nil, List.getElem?_cons_zero, List.getElem?_cons_succ, Option.map_some, List.drop_succ_cons, List.drop_zero]
      iterate 14 (refine wpT_held ?_ (by rfl) ?_ ?_; rotate_left; (focus (intro W hW; obtain ⟨hW1, hW2⟩ := hW; go_simp; first | done | with_reducible rfl)); simp only [Act.put, List.setIfInBounds_toArray, List.set_cons_zero, List.set_cons_succ])
      refine wpT_loud (by rfl) (fun K hK => ?_)
      go_wp2_with fail
      have hkA : Keep [] W3 (W3.alloc (.cells #[] 28)).drew := ((Keep.refl [] W3).alloc _).drew
      have hoA : (W3.alloc (.cells #[] 28)).drew.ownsRow W3.heap.size 28 1 (.slice (some ⟨W3.heap.size, 0, none⟩) 0 0) 0 [] := own_of_blk (Blk.new W3 28 #[]).drew (Nat.le_refl _) (by omega) (by omega) rfl rfl
      refine hK _ _ ⟨(hkA.cell hb3 (by simp) _).trans hcb3, (hkA.cell hb13 (by simp) _).trans hct3⟩ ?_
      clear hK K
      try simp only [Act.put, List.setIfInBounds_toArray, List.set_cons_zero, List.set_cons_succ]
      refine wpT_loud (by rfl) (fun K hK => ?_)
      refine elemRows.wp1_app (.tmp 40) (.tmp 44) (by rfl) W3.heap.size _ 0 [] (by rfl) hoA LA m1.length lc (m1.map (·.1)) (by rfl) (hrd3.keep hkA) h1c (by omega) (by omega) hkA.size ?_
      intro v4 w4 hv4 hk4 _ _
      rw [Nat.zero_add, List.nil_append] at hv4
      have hkB := hkA.more hoA (Nat.le_refl _) hk4
      obtain ⟨VB, vd, rfl, _⟩ := own_form hv4
      refine hK _ _ ⟨(hkB.cell hb3 (by simp) _).trans hcb3, (hkB.cell hb13 (by simp) _).trans hct3⟩ ?_
      clear hK K hk4 hoA
      try simp only [Act.put, List.setIfInBounds_toArray, List.set_cons_zero, List.set_cons_succ]
      refine wpT_loud (by rfl) (fun K hK => ?_)
      have hTP := Part_any PA pn pc pb 0 (pn : Nat) w4 (hpr3.keep hkB) (by omega) (by omega) (by omega) hpc hpn
      simp only [Int.sub_zero, Int.toNat_natCast, Int.toNat_zero, List.drop_zero] at hTP
      rw [List.take_of_length_le (Nat.le_of_eq (unhide HPL))] at hTP
      go_wp2_with (refine hTP.mono ?_; clear hTP; rintro e w5 ⟨u5, rfl, hu5, hk5⟩; obtain ⟨UB, ud, rfl, _⟩ := own_form hu5)
      have hkC := hkB.trans0 hk5
      refine hK _ _ ⟨(hkC.cell hb3 (by simp) _).trans hcb3, (hkC.cell hb13 (by simp) _).trans hct3⟩ ?_
      clear hK K
      try simp only [Act.put, List.setIfInBounds_toArray, List.set_cons_zero, List.set_cons_succ]
      refine wpT_loud (by rfl) (fun K hK => ?_)
      go_wp2_with fail
      have hkD := hkC.alloc (.cells #[.slice UB pn ud] 28)
      refine hK _ _ ⟨(hkD.cell hb3 (by simp) _).trans hcb3, (hkD.cell hb13 (by simp) _).trans hct3⟩ ?_
      clear hK K
      try simp only [Act.put, List.setIfInBounds_toArray, List.set_cons_zero, List.set_cons_succ]
      refine wpT_loud (by rfl) (fun K hK => ?_)
      have hv5 := own_keep0 hv4 hk5
      refine elemRows.wp1_app (.tmp 45) (.tmp 56) (by rfl) W3.heap.size _ m1.length _ (by rfl) (own_alloc hv5 _) _ 1 1 [_] (by rfl) (rd_new1 _ _ _) (by simp [Value.oneCell']) (by omega) (by omega) hkD.size ?_
      intro v6 w6 hv6 hk6 _ _
      have hkE := hkC.one_more hv5 (Nat.le_refl _) hk6
      have hu6 : w6.ownsRow W3.heap.size 5 1 (.slice UB pn ud) pn (bys pb) := own_keep (own_base (own_alloc hu5 _) hkB.size) hk6 (fun y hy hm => own_ne (own_alloc hu5 (.cells #[.slice UB pn ud] 28)) (own_alloc hv5 (.cells #[.slice UB pn ud] 28)) (by decide) hy (by simpa using hm))
      obtain ⟨VC, ve, rfl, _⟩ := own_form hv6
      have hcb6 := (hkE.cell hb3 (by simp) 0).trans hcb3
      have hfb6 := (hkE.frozen hb3 (by simp) 0).trans hfb3
      refine hK _ _ ⟨hcb6, (hkE.cell hb13 (by simp) _).trans hct3⟩ ?_
      clear hK K hk6
      try simp only [Act.put, List.setIfInBounds_toArray, List.set_cons_zero, List.set_cons_succ]
      refine wpT_nil ?_
      go_wp2
      go_roundw
      case rel =>
        have e := unhide HPL
        subst e
        obtain ⟨h2, h3, h4⟩ := hR2.setL (v' := .slice VC (m1.length + 1) ve) (ms' := m1 ++ [(.slice UB pb.length ud, pb)]) hkE (by rw [List.length_append, List.map_append]; exact hv6)
          (fun p hp => (List.mem_append.1 hp).imp id (fun h => by rw [List.mem_singleton.1 h]; exact ⟨hu6, hpn⟩)) (by simp; omega)
        refine ⟨k + 1, _, _, _, s1 + 1, by omega, by go_num, h2, by omega, ?_, ?_, ?_, ?_⟩
        · show _ = _
          rw [List.map_append, unhide HSC]
          exact take_snoc_lt _ _ _ _ (unhide hm) (by simpa using hroom)
        · have hk7 : Keep (b :: Sv.ownBlock.toList) w W3 := hkp.trans hkS (fun x hx => by
            rcases List.mem_cons.1 hx with rfl | hx
            · exact .inl List.mem_cons_self
            · exact (hgv x hx).imp (List.mem_cons_of_mem _) id)
          exact hk7.trans h3 (fun x hx => .inl (by simp at hx; simp [hx]))
        · exact (hgr.trans hkp.size hgS).trans (Nat.le_trans hkp.size hkS.size) h4
        · exact hgv.trans hkp.size hgvS
      case measure => simp [intOf]; omega
    · subst hL1
      have hend : m1.map (·.2) = sendM (ms.map (·.2)) (fs.map (·.2)) := by
        have hm' := unhide hm
        unfold sendM
        rw [hm', ← List.map_append]
        by_cases hkn : k = n
        · rw [List.take_of_length_le (l := fs) (by rw [hf.len]; omega)]
        · have h64 : 64 ≤ m1.length := by omega
          have hl := congrArg List.length hm'
          simp only [List.length_map, List.length_take] at hl
          have hsp : (ms ++ fs).map (·.2) = (ms ++ fs.take k).map (·.2) ++ (fs.drop k).map (·.2) := by
            rw [← List.map_append, List.append_assoc, List.take_append_drop]
          rw [hsp, List.take_append_of_le_length (by simp at hl ⊢; omega)]
      have HE := hide hend
      clear hend
      by_cases hkn : k < n
      · have h64 : ¬ (m1.length < 64) := by omega
        go_wp2
        go_ret
        exact ⟨_, _, m1, rfl, s1, hR, by omega, unhide HE, hkp, hgr⟩
      · go_wp2
        go_ret
        exact ⟨_, _, m1, rfl, s1, hR, by omega, unhide HE, hkp, hgr⟩
end Go.Proofs.Ytfbejbkacpkalaa
