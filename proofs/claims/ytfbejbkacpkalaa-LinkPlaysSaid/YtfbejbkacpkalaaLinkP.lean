/-
  Contracts of link.Link's methods.
-/
import Derived.Test.YtfbejbkacpkalaaLinkA
import Derived.Test.YtfbejbkacpkalaaRegion
namespace Go.Proofs.Ytfbejbkacpkalaa
open Go.RowKit

/-- The program's link at block b: its row v, the frames under way (their headers, their bytes). -/
structure Lk (w : World) (b : Nat) (v : Value) (ls : List (Value × List UInt8)) : Prop where
  blk : Blk w b 53 #[v]
  row : w.ownsRow 0 28 1 v ls.length (ls.map (·.1))
  own : ∀ p ∈ ls, w.ownsRow 0 5 1 p.1 p.2.length (bys p.2)
  small : ∀ p ∈ ls, p.2.length ≤ 140737488355328
  nodup : (ls.filterMap (·.1.ownBlock)).Nodup
  few : ls.length ≤ 64

def Lk.fp (b : Nat) (v : Value) (ls : List (Value × List UInt8)) : List Nat := b :: (v.ownBlock.toList ++ ls.filterMap (·.1.ownBlock))

theorem Len_any (w : World) (b : Nat) (v : Value) (ls : List (Value × List UInt8)) (h : Lk w b v ls) :
    Calls Try.prog 11 #[.pointer (some ⟨b, 0, none⟩)] w fun e w' => e = .returned (.int .i64 ls.length) ∧ w = w' := by
  have hc := h.blk.cell 0
  obtain ⟨A, c, rfl, _⟩ := own_form h.row
  go_enter Try.func11, Try.ntmps11
  go_wp2
  go_ret
  exact ⟨rfl, rfl⟩

theorem Len_nil (w : World) : Calls Try.prog 11 #[.pointer none] w fun e w' => e = .returned (.int .i64 0) ∧ w = w' := by
  go_enter Try.func11, Try.ntmps11
  go_wp2
  go_ret
  exact ⟨rfl, rfl⟩

theorem has_any (w : World) (b : Nat) (v : Value) (ls : List (Value × List UInt8)) (h : Lk w b v ls) (i : Int) :
    Calls Try.prog 25 #[.pointer (some ⟨b, 0, none⟩), .int .i64 i] w fun e w' => e = .returned (.bool (decide (0 ≤ i ∧ i < ls.length))) ∧ w = w' := by
  by_cases h0 : 0 ≤ i
  · by_cases h1 : i < ls.length
    all_goals
      go_enter Try.func25, Try.ntmps25
      go_wp2_with (go_at_call 11; refine (Len_any _ _ _ _ h).mono ?_; rintro e w' ⟨rfl, rfl⟩)
      go_ret
      exact ⟨by simp [h0, h1], rfl⟩
  · go_enter Try.func25, Try.ntmps25
    go_wp2
    go_ret
    exact ⟨by simp; omega, rfl⟩

theorem New_any (w : World) : Calls Try.prog 9 #[] w fun e w' => ∃ b, e = .returned (.pointer (some ⟨b, 0, none⟩)) ∧ w.heap.size ≤ b ∧ Lk w' b (.slice none 0 0) [] ∧ Keep [] w w' := by
  go_enter Try.func9, Try.ntmps9
  go_wp2
  go_ret
  exact ⟨_, rfl, Nat.le_refl _, ⟨Blk.new _ _ _, World.ownsRow_nil _ _ _ _, by simp, by simp, by simp, by simp⟩, (Keep.refl _ _).alloc _⟩


/-- l' is l, and blocks that are new to w. -/
def Grow (w : World) (l l' : List Nat) : Prop := ∀ x ∈ l', x ∈ l ∨ w.heap.size ≤ x
theorem Grow.refl (w : World) (l : List Nat) : Grow w l l := fun _ h => .inl h
theorem Grow.trans {w w1 : World} {l l1 l2 : List Nat} (h : Grow w l l1) (hs : w.heap.size ≤ w1.heap.size) (k : Grow w1 l1 l2) : Grow w l l2 := fun x hx => by
  rcases k x hx with h1 | h1
  · exact h x h1
  · exact .inr (by omega)
theorem Keep.grow {l l' : List Nat} {w w1 w2 : World} (h : Keep l w w1) (k : Keep l' w1 w2) (hg : Grow w l l') : Keep l w w2 := h.trans k hg

theorem Lk.row_ne {w : World} {b : Nat} {v : Value} {ls : List (Value × List UInt8)} (h : Lk w b v ls) : b ∉ v.ownBlock.toList := by
  intro hm
  have hb := h.blk
  rcases h.row.2 with ⟨rfl, _⟩ | ⟨g, cap, cur, rfl, _, hg, _⟩
  · simp [Value.ownBlock] at hm
  · have : g = b := by simpa [Value.ownBlock, eq_comm] using hm
    subst this
    exact Blk.ne_ (t := 28) hg hb (by decide) rfl
theorem own_ne {w : World} {b n m s s' base base' : Nat} {v u : Value} {xs ys : List Value} {e e' : TypeId} (h : w.ownsRow base e s v n xs) (h' : w.ownsRow base' e' s' u m ys) (hne : e ≠ e') (hb : v.ownBlock = some b) : u.ownBlock ≠ some b := by
  rcases h.2 with ⟨rfl, _⟩ | ⟨g, cap, cur, rfl, _, hg, _⟩
  · simp [Value.ownBlock] at hb
  · obtain rfl : g = b := by simpa [Value.ownBlock] using hb
    rcases h'.2 with ⟨rfl, _⟩ | ⟨g', cap', cur', rfl, _, hg', _⟩
    · simp [Value.ownBlock]
    · simp only [Value.ownBlock, ne_eq, Option.some.injEq]
      rintro rfl
      exact Blk.ne_ (t := e) hg hg' hne rfl
theorem own_blk_ne {w : World} {g n s base : Nat} {v : Value} {xs : List Value} {e t : TypeId} {cs : Array Value} (h : w.ownsRow base e s v n xs) (hg : Blk w g t cs) (hne : e ≠ t) : v.ownBlock ≠ some g := by
  rcases h.2 with ⟨rfl, _⟩ | ⟨g', cap', cur', rfl, _, hg', _⟩
  · simp [Value.ownBlock]
  · simp only [Value.ownBlock, ne_eq, Option.some.injEq]
    rintro rfl
    exact Blk.ne_ (t := e) hg' hg hne rfl

theorem own_mem {w : World} {base : Nat} {e : TypeId} {v : Value} {n s : Nat} {xs : List Value} (h : w.ownsRow base e s v n xs) {g : Nat} (hg : g ∈ v.ownBlock.toList) : base ≤ g ∧ g < w.heap.size := h.lt g (by simpa using hg)

theorem own_set {w : World} {base : Nat} {e : TypeId} {v : Value} {n s : Nat} {xs : List Value} (h : w.ownsRow base e s v n xs) {b o : Nat} (hb : b ∉ v.ownBlock.toList) (u : Value) : (w.setCell ⟨b, o, none⟩ u).ownsRow base e s v n xs :=
  own_keep h ((Keep.refl [b] w).setCell (p := ⟨b, o, none⟩) (.inl (by simp)) u) (by intro g hg; simp only [List.mem_singleton]; rintro rfl; exact hb (by simpa using hg))

theorem Lk.own_not_b {w : World} {b : Nat} {v : Value} {ls : List (Value × List UInt8)} (h : Lk w b v ls) {p : Value × List UInt8} (hp : p ∈ ls) : b ∉ p.1.ownBlock.toList := by
  intro hm
  exact own_blk_ne (h.own p hp) h.blk (by decide) (by simpa using hm)
theorem Lk.own_not_v {w : World} {b : Nat} {v : Value} {ls : List (Value × List UInt8)} (h : Lk w b v ls) {p : Value × List UInt8} (hp : p ∈ ls) {g : Nat} (hg : g ∈ p.1.ownBlock.toList) : g ∉ v.ownBlock.toList := by
  intro hm
  exact own_ne (h.own p hp) h.row (by decide) (by simpa using hg) (by simpa using hm)

theorem Lk.pushed {w w1 w2 : World} {b : Nat} {v v' u : Value} {ls : List (Value × List UInt8)} {bs : List UInt8} {o : Obj} (h : Lk w b v ls) (hfew : ls.length < 64) (hk1 : Keep [] w w1)
    (hu : w1.ownsRow w.heap.size 5 1 u bs.length (bys bs)) (hs : bs.length ≤ 140737488355328) (hk2 : Keep v.ownBlock.toList (w1.alloc o) w2)
    (hv : w2.ownsRow 0 28 1 v' (ls.length + 1) (ls.map (·.1) ++ [u])) (hat : v'.ownBlock = v.ownBlock ∨ v'.ownBlock = some (w1.heap.size + 1)) :
    Lk (w2.setCell ⟨b, 0, none⟩ v') b v' (ls ++ [(u, bs)]) := by
  have hkA : Keep [] w (w1.alloc o) := hk1.alloc o
  have hbv : b ∉ v'.ownBlock.toList := by
    rcases hat with e | e
    · rw [e]; exact h.row_ne
    · rw [e]; have := hk1.lt h.blk.lt; simp; omega
  have huo : ∀ g ∈ u.ownBlock.toList, g ∉ v.ownBlock.toList := fun g hg hm => by
    have h1 := (own_mem hu hg).1
    have h2 := (own_mem h.row hm).2
    omega
  have hub : b ∉ u.ownBlock.toList := fun hm => by
    have h1 := (own_mem hu hm).1
    have h2 := h.blk.lt
    omega
  refine ⟨?_, ?_, ?_, ?_, ?_, ?_⟩
  · have := ((h.blk.keep0 hkA).keep hk2 h.row_ne).set 0 v'
    simpa using this
  · rw [List.map_append]
    simpa using own_set hv hbv v'
  · intro p hp
    rcases List.mem_append.1 hp with hp | hp
    · refine own_set (own_keep (own_keep0 (h.own p hp) hkA) hk2 (fun g hg => h.own_not_v hp (by simpa using hg))) (h.own_not_b hp) _
    · obtain rfl : p = (u, bs) := by simpa using hp
      exact own_set (own_base (own_keep (own_alloc hu o) hk2 (fun g hg => huo g (by simpa using hg))) (Nat.zero_le _)) hub _
  · intro p hp
    rcases List.mem_append.1 hp with hp | hp
    · exact h.small p hp
    · obtain rfl : p = (u, bs) := by simpa using hp
      exact hs
  · rw [List.filterMap_append, List.nodup_append]
    refine ⟨h.nodup, ?_, ?_⟩
    · cases hq : u.ownBlock <;> simp [hq]
    · intro x hx y hy hxy
      subst hxy
      simp only [List.filterMap_cons, List.filterMap_nil] at hy
      have hy' : u.ownBlock = some x := by
        cases hq : u.ownBlock with
        | none => simp [hq] at hy
        | some q => simp [hq] at hy; rw [hy]
      obtain ⟨p, hp, hpx⟩ := List.mem_filterMap.1 hx
      have h1 := (own_mem hu (g := x) (by simp [hy'])).1
      have h2 := (own_mem (h.own p hp) (g := x) (by simp [hpx])).2
      omega
  · simp; omega

theorem Lk.drew {w : World} {b : Nat} {v : Value} {ls : List (Value × List UInt8)} (h : Lk w b v ls) : Lk w.drew b v ls := ⟨h.blk, h.row, h.own, h.small, h.nodup, h.few⟩

theorem Lk.fp_pushed {w w1 : World} {b : Nat} {v v' u : Value} {ls : List (Value × List UInt8)} {bs : List UInt8} (hk1 : Keep [] w w1)
    (hu : w1.ownsRow w.heap.size 5 1 u bs.length (bys bs)) (hat : v'.ownBlock = v.ownBlock ∨ v'.ownBlock = some (w1.heap.size + 1)) :
    Grow w (Lk.fp b v ls) (Lk.fp b v' (ls ++ [(u, bs)])) ∧ Grow w v.ownBlock.toList v'.ownBlock.toList := by
  have hv : Grow w v.ownBlock.toList v'.ownBlock.toList := by
    intro x hx
    rcases hat with e | e
    · rw [e] at hx; exact .inl hx
    · rw [e] at hx
      have := hk1.size
      simp at hx
      exact .inr (by omega)
  refine ⟨fun x hx => ?_, hv⟩
  simp only [Lk.fp, List.mem_cons, List.mem_append, List.filterMap_append] at hx ⊢
  rcases hx with hx | hx | hx | hx
  · exact .inl (.inl hx)
  · rcases hv x hx with h1 | h1
    · exact .inl (.inr (.inl h1))
    · exact .inr h1
  · exact .inl (.inr (.inr hx))
  · have hy' : x ∈ u.ownBlock.toList := by
      cases hq : u.ownBlock with
      | none => simp [hq] at hx
      | some q => simpa [hq] using hx
    exact .inr (own_mem hu hy').1

theorem take_snoc_lt {α : Type} (L X : List α) (x : α) (n : Nat) (h : X = L.take n) (hl : X.length < n) : X ++ [x] = (L ++ [x]).take n := by
  have hL : L.length < n := by rw [h, List.length_take] at hl; omega
  rw [h, List.take_of_length_le (by omega), List.take_of_length_le (by simp; omega)]
theorem take_snoc_ge {α : Type} (L X : List α) (x : α) (n : Nat) (h : X = L.take n) (hl : ¬ X.length < n) : X = (L ++ [x]).take n := by
  have hL : n ≤ L.length := by rw [h, List.length_take] at hl; omega
  rw [h, List.take_append_of_le_length hL]
theorem sent_succ (ls fs : List (Value × List UInt8)) (k : Nat) (hk : k < fs.length) : (ls ++ fs.take (k + 1)).map (·.2) = (ls ++ fs.take k).map (·.2) ++ [fs[k].2] := by
  rw [List.take_succ_eq_append_getElem hk, ← List.append_assoc, List.map_append]; rfl
/-- what is under way behind a Send -/
def sendM (a b : List (List UInt8)) : List (List UInt8) := (a ++ b).take 64

set_option maxHeartbeats 1000000 in
theorem Send_any (w : World) (b : Nat) (v : Value) (ls : List (Value × List UInt8)) (h : Lk w b v ls) (A : Option Addr) (n c : Nat) (fs : List (Value × List UInt8)) (hf : Rws w A n fs)
    (hA : ∀ a, A = some a → a.block ∉ b :: v.ownBlock.toList) (hfs : ∀ p ∈ fs, ∀ g ∈ p.1.ownBlock.toList, g ∉ b :: v.ownBlock.toList) (hn : n ≤ 9223372036854775807) :
    Calls Try.prog 10 #[.pointer (some ⟨b, 0, none⟩), .slice A n c] w fun e w' => ∃ v' ls', e = .returned (.int .i64 (ls'.length : Nat)) ∧ Lk w' b v' ls' ∧
      ls'.map (·.2) = sendM (ls.map (·.2)) (fs.map (·.2)) ∧ Keep (b :: v.ownBlock.toList) w w' ∧ Grow w (Lk.fp b v ls) (Lk.fp b v' ls') := by
  go_enter Try.func10, Try.ntmps10
  go_wp2
  go_loopw [11] (fun i wr => ∃ k v' ls', k ≤ n ∧ i = .int .i64 (k : Nat) ∧ Lk wr b v' ls' ∧ Hid (ls'.map (·.2) = ((ls ++ fs.take k).map (·.2)).take 64) ∧ Keep (b :: v.ownBlock.toList) w wr ∧ Grow w (Lk.fp b v ls) (Lk.fp b v' ls') ∧ Grow w v.ownBlock.toList v'.ownBlock.toList) (fun i _ => n - (intOf i).toNat)
  case atStart =>
    refine ⟨0, v, ls, Nat.zero_le _, rfl, h, ?_, Keep.refl _ _, Grow.refl _ _, Grow.refl _ _⟩
    show _ = _
    rw [List.take_zero, List.append_nil, List.take_of_length_le (by simpa using h.few)]
  case round =>
    obtain ⟨k, v1, l1, hk, rfl, hL, hm, hkp, hgr, hgv⟩ := hrel
    have hcb : wr.cell? ⟨b, 0, none⟩ = some v1 := by simpa using hL.blk.cell 0
    have hfb := hL.blk.frozen 0
    obtain ⟨A1, c1, hv1, _⟩ := own_form hL.row
    by_cases hlt : k < n
    · have hkl : k < fs.length := by rw [hf.len]; exact hlt
      obtain ⟨b1, o1, rfl, hbl, hc1, hr1⟩ := hf.at_ hlt hkl
      have hc1' := (hkp.cell hbl (hA _ rfl) (o1 + k)).trans hc1
      obtain ⟨p, hp⟩ : ∃ p, p = fs[k] := ⟨_, rfl⟩
      have hpm : p ∈ fs := by rw [hp]; exact List.getElem_mem hkl
      rw [← hp] at hc1' hr1
      have hB1 : Bts wr p.1 p.2 := hr1.keepIf hkp (hfs p hpm)
      obtain ⟨pv, pb⟩ := p
      obtain ⟨PA, pn, pc, hpv, hpc, hpn, hpr⟩ := hB1
      have hpl : pb.length = pn := by simpa using hpr.1
      simp only at hpv
      subst hpv
      by_cases hroom : l1.length < 64
      · have hbl1 := hL.blk.lt
        have hrn := hL.row_ne
        subst hv1
        go_wp2
        refine wp_region_ht (fun w' => w'.cell? ⟨b, 0, none⟩ = some (.slice A1 l1.length c1)) 9 [(0, false), (1, false), (2, false), (3, false), (4, false), (5, false), (6, true), (7, true), (8, true)]
          (by kernel_rfl) (by kernel_rfl) (fun _ _ d _ _ h => by cases d <;> exact h) hcb ?_
        simp only [picked, List.filterMap_cons, List.filterMap_nil, List.getElem?_cons_zero, List.getElem?_cons_succ, Option.map_some, List.drop_succ_cons, List.drop_zero]
        iterate 6 (refine wpT_held ?_ (by rfl) ?_ ?_; rotate_left; (focus (intro W hW; go_simp; first | done | with_reducible rfl)); simp only [Act.put, List.setIfInBounds_toArray, List.set_cons_zero, List.set_cons_succ])
        refine wpT_loud (by rfl) (fun K hK => ?_)
        go_wp2_with (go_at_call 24; refine (Clone_any PA pn pc pb _ (hpr.drew) hpn).mono ?_; rintro e w1 ⟨u, rfl, hu, hk1, _⟩; obtain ⟨UA, uc, rfl, _⟩ := own_form hu)
        refine hK _ _ ((hk1.cell hbl1 (by simp) _).trans hcb) ?_
        clear hK K
        try simp only [Act.put, List.setIfInBounds_toArray, List.set_cons_zero, List.set_cons_succ]
        refine wpT_loud (by rfl) (fun K hK => ?_)
        go_wp2_with fail
        refine hK _ _ (((hk1.alloc _).cell hbl1 (by simp) _).trans hcb) ?_
        clear hK K
        try simp only [Act.put, List.setIfInBounds_toArray, List.set_cons_zero, List.set_cons_succ]
        refine wpT_loud (by rfl) (fun K hK => ?_)
        refine elemRows.wp1_app (.tmp 25) (.tmp 28) (by rfl) 0 _ _ _ (by rfl) (own_alloc (own_keep0 hL.drew.row hk1) _) _ 1 1 [_] (by rfl) (rd_new1 _ _ _) (by simp [Value.oneCell']) (by omega) (by omega) (by omega) ?_
        intro v2 w2 hv2 hk2 hat _
        obtain ⟨V2, c2, rfl, _⟩ := own_form hv2
        rw [World.size_alloc] at hat
        have hk1a := hk1.alloc (.cells #[.slice UA pn uc] 28)
        refine hK _ _ ((hk2.cell (hk1a.lt hbl1) hrn _).trans ((hk1a.cell hbl1 (by simp) _).trans hcb)) ?_
        clear hK K
        try simp only [Act.put, List.setIfInBounds_toArray, List.set_cons_zero, List.set_cons_succ]
        refine wpT_nil ?_
        have hcb2 := (hk2.cell (hk1a.lt hbl1) hrn 0).trans ((hk1a.cell hbl1 (by simp) 0).trans hcb)
        have hfb2 := (hk2.frozen (hk1a.lt hbl1) hrn 0).trans ((hk1a.frozen hbl1 (by simp) 0).trans hfb)
        go_wp2
        go_roundw
        case rel =>
          have hu' : w1.ownsRow wr.drew.heap.size 5 1 (.slice UA pn uc) pb.length (bys pb) := by rw [hpl]; exact hu
          have hP := Lk.pushed hL.drew hroom hk1 hu' (by omega) hk2 hv2 hat
          have hF := Lk.fp_pushed (b := b) (ls := l1) hk1 hu' hat
          refine ⟨k + 1, _, _, by omega, by go_num, hP, ?_, ?_, hgr.trans hkp.size hF.1, hgv.trans hkp.size hF.2⟩
          · show _ = _
            rw [sent_succ _ _ _ hkl, ← hp, List.map_append]
            exact take_snoc_lt _ _ _ _ (unhide hm) (by simpa using hroom)
          · have hk3 : Keep (b :: v.ownBlock.toList) w (w1.alloc (.cells #[.slice UA pn uc] 28)) := (hkp.drew.trans0 hk1).alloc _
            refine Keep.setCell ((hk3.trans hk2 (fun x hx => ?_))) (.inl (by simp)) _
            rcases hgv x hx with h1 | h1
            · exact .inl (by simp only [List.mem_cons]; exact .inr h1)
            · exact .inr h1
        case measure => simp [intOf]; omega
      · subst hv1
        go_wp2
        go_roundw
        case rel =>
          refine ⟨k + 1, _, l1, by omega, by go_num, hL, ?_, hkp, hgr, hgv⟩
          show _ = _
          rw [sent_succ _ _ _ hkl]
          exact take_snoc_ge _ _ _ _ (unhide hm) (by simpa using hroom)
        case measure => simp [intOf]; omega
    · have hkn : k = n := by omega
      have hml : l1.map (·.2) = sendM (ls.map (·.2)) (fs.map (·.2)) := by
        unfold sendM
        rw [unhide hm, List.take_of_length_le (l := fs) (by rw [hf.len]; omega), List.map_append]
      have HM := hide hml
      clear hml hkn
      subst hv1
      go_wp2
      go_ret
      exact ⟨_, l1, rfl, hL, unhide HM, hkp, hgr⟩
end Go.Proofs.Ytfbejbkacpkalaa
