/-
  Contract of the law's 'said'.
-/
import Derived.Test.YtplfijhianmohaaSaid
namespace Go.Proofs.Ytplfijhianmohaa
open Go.RowKit

/-- the op of a number; the epoch behind it -/
def saidOp (z : Int) (i ep : Nat) : POp × Nat :=
  if z % 4 = 0 then (⟨3, 0, 0, ((ep : Nat) : Int) + 1, []⟩, ep + 1) else if z % 4 = 1 then (⟨2, z % 10, 2, 0, []⟩, ep) else (⟨1, z % 10, 0, 0, fillOf (i : Nat)⟩, ep)
def saidUp (zs : List Int) : Nat → List POp × Nat
  | 0 => ([], 0)
  | n + 1 => ((saidUp zs n).1 ++ [(saidOp (zs.getD n 0) n (saidUp zs n).2).1], (saidOp (zs.getD n 0) n (saidUp zs n).2).2)
theorem saidUp_len (zs : List Int) (n : Nat) : (saidUp zs n).1.length = n := by
  induction n with
  | zero => rfl
  | succ n ih => simp [saidUp, ih]
theorem saidUp_ep (zs : List Int) (n : Nat) : (saidUp zs n).2 ≤ n := by
  induction n with
  | zero => simp [saidUp]
  | succ n ih =>
    simp only [saidUp, saidOp]
    split
    · simp; exact ih
    · split <;> simp <;> omega
theorem saidOp_small (z : Int) (i ep : Nat) : (saidOp z i ep).1.d.length ≤ 64 := by
  unfold saidOp
  split
  · simp
  · split <;> simp

/-- ops in a row of one's own, their bytes in rows of one's own -/
structure OHold (w : World) (B : Nat) (F : List Nat) (v : Value) (os : List (Value × POp)) : Prop where
  row : w.ownsRow B 58 5 v os.length (os.flatMap opc)
  data : ∀ p ∈ os, w.ownsRow B 5 1 p.1 p.2.d.length (bys p.2.d)
  small : ∀ p ∈ os, p.2.d.length ≤ 64
  off : ∀ g ∈ v.ownBlock.toList, g ∉ F
  offs : ∀ p ∈ os, ∀ g ∈ p.1.ownBlock.toList, g ∉ F
namespace OHold
variable {w w' : World} {B : Nat} {F F' : List Nat} {v : Value} {os : List (Value × POp)}
theorem keep0 (h : OHold w B F v os) (hk : Keep [] w w') : OHold w' B F v os := ⟨own_keep0 h.row hk, fun p hp => own_keep0 (h.data p hp) hk, h.small, h.off, h.offs⟩
/-- blocks of F turn; F grows by new ones -/
theorem turn (h : OHold w B F v os) {l : List Nat} (hk : Keep l w w') (hl : ∀ x ∈ l, x ∈ F) (hg : Grow w F F') : OHold w' B F' v os := by
  have hoff : ∀ {e : TypeId} {u : Value} {n q : Nat} {xs : List Value}, w.ownsRow B e q u n xs → (∀ g ∈ u.ownBlock.toList, g ∉ F) → ∀ g ∈ u.ownBlock.toList, g ∉ F' := by
    intro e u n q xs hu ho g hg' hm
    rcases hg g hm with h1 | h1
    · exact ho g hg' h1
    · have := (own_mem hu hg').2; omega
  exact ⟨own_keep h.row hk (fun g hg' hm => h.off g (by simpa using hg') (hl g hm)), fun p hp => own_keep (h.data p hp) hk (fun g hg' hm => h.offs p hp g (by simpa using hg') (hl g hm)), h.small, hoff h.row h.off, fun p hp => hoff (h.data p hp) (h.offs p hp)⟩
theorem rd (h : OHold w B F v os) {A : Option Addr} {c : Nat} (hv : v = .slice A os.length c) : OpsRd w A os.length os := by
  have h1 := h.row
  rw [hv] at h1
  exact OpsRd.of_own h1 rfl
theorem bts (h : OHold w B F v os) : ∀ p ∈ os, Bts w p.1 p.2.d := fun p hp => Bts.of_own (h.data p hp) (by have := h.small p hp; omega)
theorem nil (w : World) (B : Nat) (F : List Nat) : OHold w B F (.slice none 0 0) [] := ⟨World.ownsRow_nil _ _ _ _, by simp, by simp, by simp [Value.ownBlock], by simp⟩
end OHold

set_option maxHeartbeats 8000000 in
set_option maxRecDepth 20000 in
theorem said_any (w0 w : World) (s view size : Nat) (hv : 1 ≤ view ∧ view ≤ 2147483647) (h : Src w0 w s view size 0 0 0 0 (.slice none 0 0) []) (A : Option Addr) (len cap : Nat) (zs : List Int) (hz : Rd w0 A len (ints zs)) (hlen : len ≤ 60) :
    Calls Try.prog 9 #[.pointer (some ⟨s, 0, none⟩), .slice A len cap] w fun e w' => ∃ OA oc L os oz, e = .returned (.tuple #[.slice OA len oc, .bool true]) ∧ Src w0 w' s view size (saidUp zs len).2 len 0 0 L os ∧ os.map (·.2) = (saidUp zs len).1 ∧
      oz.map (·.2) = (saidUp zs len).1 ∧ OHold w' w0.heap.size (s :: L.ownBlock.toList) (.slice OA len oc) oz := by
  have hzl : zs.length = len := by simpa using hz.1
  have HZL := hide hzl
  have hw0 := h.keep.size
  clear hzl
  go_enter Try.func9, Try.ntmps9
  go_wp2
  go_loopw [6, 7, 8] (fun v ep i wr => ∃ j L os oz, j ≤ len ∧ i = .int .i64 (j : Nat) ∧ ep = .int .i64 ((saidUp zs j).2 : Nat) ∧ Src w0 wr s view size (saidUp zs j).2 j 0 0 L os ∧ Hid (os.map (·.2) = (saidUp zs j).1) ∧ Hid (oz.map (·.2) = (saidUp zs j).1) ∧ Hid (oz.length = j) ∧ OHold wr w0.heap.size (s :: L.ownBlock.toList) v oz ∧ Keep [] w0 wr) (fun _ _ i _ => len - (intOf i).toNat)
  case atStart => exact ⟨0, _, _, [], Nat.zero_le _, rfl, rfl, h, rfl, rfl, rfl, OHold.nil _ _ _, h.keep⟩
  case round =>
    clear h
    obtain ⟨j, L, os, oz, hj, rfl, rfl, hS, hos, hoz, hol, hO, hkw⟩ := hrel
    obtain ⟨VA, vc, hvv, _⟩ := own_form hO.row
    rw [unhide hol] at hvv
    subst hvv
    by_cases hlt : j < len
    · obtain ⟨b, o, u, hA', hx, hb, hc⟩ := hz.at_ hlt
      subst hA'
      have hjl : j < zs.length := by rw [unhide HZL]; exact hlt
      simp only [ints, List.getElem?_map, List.getElem?_eq_getElem hjl, Option.map_some, Option.some.injEq] at hx
      subst hx
      have hcw : wr.cell? ⟨b, o + j, none⟩ = some (.int .i64 zs[j]) := (hS.keep.cell (b := b) hb (by simp) (o + j)).trans hc
      have hgd : zs.getD j 0 = zs[j] := by rw [List.getD_eq_getElem?_getD, List.getElem?_eq_getElem hjl]; rfl
      have hepj := saidUp_ep zs j
      clear hc
      generalize zs[j] = z at *
      obtain ⟨bb, hbb, hbb10⟩ : ∃ bb : Nat, z % 10 = (bb : Int) ∧ bb < 10 := ⟨(z % 10).toNat, by omega, by omega⟩
      have HR : ∀ W : World, Calls Try.prog 10 #[.int .i64 z, .int .i64 10] W fun e w' => e = .returned (.int .i64 (bb : Nat)) ∧ W = w' := fun W => by
        rw [← hbb]; exact Round_any _ _ _ (by omega) (by omega)
      obtain ⟨q, hq, hq4⟩ : ∃ q : Nat, z % 4 = (q : Int) ∧ q < 4 := ⟨(z % 4).toNat, by omega, by omega⟩
      have HR4 : ∀ W : World, Calls Try.prog 10 #[.int .i64 z, .int .i64 4] W fun e w' => e = .returned (.int .i64 (q : Nat)) ∧ W = w' := fun W => by
        rw [← hq]; exact Round_any _ _ _ (by omega) (by omega)
      have hF := Fill_any (j : Nat) wr
      have HBB := hide hbb
      have HQ := hide hq
      have HGD := hide hgd
      clear hbb hq hgd
      by_cases hq0 : q = 0
      · subst hq0
        go_wp2_with (first
          | (refine (HR _).mono ?_; clear HR; rintro r w' ⟨rfl, rfl⟩)
          | (refine hF.mono ?_; clear hF; rintro r w2 ⟨u, rfl, hu, hk2⟩; (obtain ⟨UA, uc, rfl, _⟩ := own_form hu); (have hcw2 := (hk2.cell (Nat.lt_of_lt_of_le hb hS.keep.size) (by simp) (o + j)).trans hcw); have hbw2 : b < w2.heap.size := Nat.lt_of_lt_of_le hb (Nat.le_trans hS.keep.size hk2.size))
          | (refine (HR4 _).mono ?_; clear HR4; rintro r w' ⟨rfl, rfl⟩))
        have hk3 : Keep [] wr (w2.alloc (.cells #[.int .i64 3, .int .i64 0, .int .i64 0, .int .i64 (((saidUp zs j).2 : Nat) + 1), .slice none 0 0] 58)) := hk2.alloc _
        have hS3 := hS.keep0 hk3
        have hO3 := hO.keep0 hk3
        have hb3 := Blk.new w2 58 #[.int .i64 3, .int .i64 0, .int .i64 0, .int .i64 (((saidUp zs j).2 : Nat) + 1), .slice none 0 0]
        have hu3 := own_alloc hu (.cells #[.int .i64 3, .int .i64 0, .int .i64 0, .int .i64 (((saidUp zs j).2 : Nat) + 1), .slice none 0 0] 58)
        have hbL : w2.heap.size ∉ s :: L.ownBlock.toList := fun hm => by
          have h1 := hS.lt
          have h2 := hk2.size
          rcases List.mem_cons.1 hm with e | hm
          · omega
          · have := (own_mem hS.row hm).2; omega
        have hT := Mark_ok w0 _ s view size (saidUp zs j).2 j 0 0 L os hS3 hv (by omega) (by omega) (by omega)
        go_wp2_with (first
          | (at_builtin; refine elemOps.wp_app rfl _ _ rfl w0.heap.size _ oz.length (oz.flatMap opc) rfl (own_alloc hv0 _) ⟨w4.heap.size, 0, none⟩ 1 1 (opc ((.slice none 0 0), ⟨3, 0, 0, ((saidUp zs j).2 : Nat) + 1, []⟩)) rfl hrdB (opc_one _ rfl) (by have := unhide hol; omega) (by have := unhide hol; omega) (by have := hkw4.size; simp; omega) ?_)
          | (
              (refine hT.mono ?_)
              clear hT
              rintro r w4 ⟨L', uu, rfl, hS4, hk4, hg4⟩
              have hb4 := hb3.keep hk4 hbL
              have hb4l := hb4.lt
              obtain ⟨d0, d1, d2, d3, d4⟩ := op_cells hb4
              have hO4 := hO3.turn hk4 (fun x hx => hx) hg4
              have hXo : w4.ownsRow w0.heap.size 5 1 (.slice none 0 0) 0 (bys []) := World.ownsRow_nil _ _ _ _
              have hXs : ∀ g ∈ ((.slice none 0 0) : Value).ownBlock.toList, g ∉ s :: L'.ownBlock.toList := fun g hg hm => by
                rcases List.mem_cons.1 hm with rfl | hm
                · exact own_blk_ne hXo hS4.blk (by decide) (by simpa using hg)
                · exact own_ne hXo hS4.row (by decide) (by simpa using hg) (by simpa using hm)
              have hkw4 : Keep [] w0 w4 := hS4.keep
              have hrdB : Rd (w4.alloc (.cells #[.int .i64 3, .int .i64 0, .int .i64 0, .int .i64 (((saidUp zs j).2 : Nat) + 1), .slice none 0 0] 58)) (some ⟨w4.heap.size, 0, none⟩) (1 * 5) (opc ((.slice none 0 0), ⟨3, 0, 0, ((saidUp zs j).2 : Nat) + 1, []⟩)) := by
                have := Rd.of_blk (n := 5) (Blk.new w4 58 #[.int .i64 3, .int .i64 0, .int .i64 0, .int .i64 (((saidUp zs j).2 : Nat) + 1), .slice none 0 0]) (by simp)
                simpa [opc] using this
              have hv0 := hO4.row))
        intro v' w6 hv' hk6 hat _
        obtain ⟨VA', vc', hvv', _⟩ := own_form hv'
        subst hvv'
        have hkA : Keep [] w4 (w4.alloc (.cells #[.int .i64 3, .int .i64 0, .int .i64 0, .int .i64 (((saidUp zs j).2 : Nat) + 1), .slice none 0 0] 58)) := (Keep.refl _ _).alloc _
        have hSB := hS4.keep0 hkA
        have hOB := hO4.keep0 hkA
        have hS6 := hSB.keepL hk6 (fun x hx => (own_mem hOB.row hx).1) (fun hm => hOB.off _ hm List.mem_cons_self) (fun g hg hm => hOB.off _ hm (List.mem_cons_of_mem _ hg)) (fun p hp g hg hm => own_ne (hSB.data p hp) hOB.row (by decide) (by simpa using hg) (by simpa using hm))
        go_wp2
        go_roundw
        case rel =>
          have hsd : saidOp (zs.getD j 0) j (saidUp zs j).2 = (⟨3, 0, 0, ((saidUp zs j).2 : Nat) + 1, []⟩, (saidUp zs j).2 + 1) := by
            rw [unhide HGD]; simp [saidOp, unhide HQ]
          have hs1 : (saidUp zs (j + 1)).1 = (saidUp zs j).1 ++ [⟨3, 0, 0, ((saidUp zs j).2 : Nat) + 1, []⟩] := by simp only [saidUp, hsd]
          have hs2 : (saidUp zs (j + 1)).2 = (saidUp zs j).2 + 1 := by simp only [saidUp, hsd]
          refine ⟨j + 1, L', os ++ [(uu, ⟨3, 0, 0, ((saidUp zs j).2 : Nat) + 1, []⟩)], oz ++ [((.slice none 0 0), ⟨3, 0, 0, ((saidUp zs j).2 : Nat) + 1, []⟩)], by omega, by go_num, by rw [hs2]; go_num, by rw [hs2]; exact hS6, ?_, ?_, ?_, ⟨?_, ?_, ?_, ?_, ?_⟩, hS6.keep⟩
          · show _ = _; rw [List.map_append, unhide hos, hs1]; rfl
          · show _ = _; rw [List.map_append, unhide hoz, hs1]; rfl
          · show _ = _; rw [List.length_append, unhide hol]; rfl
          · rw [List.length_append, List.flatMap_append, List.flatMap_singleton]; exact hv'
          · intro p hp
            rcases List.mem_append.1 hp with hp | hp
            · exact own_keep (hOB.data p hp) hk6 (fun g hg hm => own_ne (hOB.data p hp) hOB.row (by decide) hg (by simpa using hm))
            · obtain rfl := List.mem_singleton.1 hp
              exact own_keep (own_keep0 hXo hkA) hk6 (fun g hg hm => own_ne (own_keep0 hXo hkA) hOB.row (by decide) hg (by simpa using hm))
          · intro p hp
            rcases List.mem_append.1 hp with hp | hp
            · exact hO4.small p hp
            · rw [List.mem_singleton.1 hp]; simp
          · intro g hg hm
            rcases hat with e | e
            · rw [e] at hg; exact hO4.off g hg hm
            · rw [e] at hg
              obtain rfl : g = _ := by simpa using hg
              rcases List.mem_cons.1 hm with e | hm
              · have := hS4.lt; omega
              · have := (own_mem hS4.row hm).2; omega
          · intro p hp
            rcases List.mem_append.1 hp with hp | hp
            · exact hO4.offs p hp
            · obtain rfl := List.mem_singleton.1 hp
              exact hXs
        case measure => simp [intOf]; omega
      by_cases hq1 : q = 1
      · subst hq1
        go_wp2_with (first
          | (refine (HR _).mono ?_; clear HR; rintro r w' ⟨rfl, rfl⟩)
          | (refine hF.mono ?_; clear hF; rintro r w2 ⟨u, rfl, hu, hk2⟩; (obtain ⟨UA, uc, rfl, _⟩ := own_form hu); (have hcw2 := (hk2.cell (Nat.lt_of_lt_of_le hb hS.keep.size) (by simp) (o + j)).trans hcw); have hbw2 : b < w2.heap.size := Nat.lt_of_lt_of_le hb (Nat.le_trans hS.keep.size hk2.size))
          | (refine (HR4 _).mono ?_; clear HR4; rintro r w' ⟨rfl, rfl⟩))
        have hk3 : Keep [] wr (w2.alloc (.cells #[.int .i64 2, .int .i64 (bb : Nat), .int .i64 2, .int .i64 0, .slice none 0 0] 58)) := hk2.alloc _
        have hS3 := hS.keep0 hk3
        have hO3 := hO.keep0 hk3
        have hb3 := Blk.new w2 58 #[.int .i64 2, .int .i64 (bb : Nat), .int .i64 2, .int .i64 0, .slice none 0 0]
        have hu3 := own_alloc hu (.cells #[.int .i64 2, .int .i64 (bb : Nat), .int .i64 2, .int .i64 0, .slice none 0 0] 58)
        have hbL : w2.heap.size ∉ s :: L.ownBlock.toList := fun hm => by
          have h1 := hS.lt
          have h2 := hk2.size
          rcases List.mem_cons.1 hm with e | hm
          · omega
          · have := (own_mem hS.row hm).2; omega
        have hT := Trim_ok w0 _ s view size (saidUp zs j).2 j 0 0 L os hS3 (bb : Nat) 2 hv (by omega) (by omega) (by omega) (by omega)
        go_wp2_with (first
          | (at_builtin; refine elemOps.wp_app rfl _ _ rfl w0.heap.size _ oz.length (oz.flatMap opc) rfl (own_alloc hv0 _) ⟨w4.heap.size, 0, none⟩ 1 1 (opc ((.slice none 0 0), ⟨2, (bb : Nat), 2, 0, []⟩)) rfl hrdB (opc_one _ rfl) (by have := unhide hol; omega) (by have := unhide hol; omega) (by have := hkw4.size; simp; omega) ?_)
          | (
              (refine hT.mono ?_)
              clear hT
              rintro r w4 ⟨L', uu, rfl, hS4, hk4, hg4⟩
              have hb4 := hb3.keep hk4 hbL
              have hb4l := hb4.lt
              obtain ⟨d0, d1, d2, d3, d4⟩ := op_cells hb4
              have hO4 := hO3.turn hk4 (fun x hx => hx) hg4
              have hXo : w4.ownsRow w0.heap.size 5 1 (.slice none 0 0) 0 (bys []) := World.ownsRow_nil _ _ _ _
              have hXs : ∀ g ∈ ((.slice none 0 0) : Value).ownBlock.toList, g ∉ s :: L'.ownBlock.toList := fun g hg hm => by
                rcases List.mem_cons.1 hm with rfl | hm
                · exact own_blk_ne hXo hS4.blk (by decide) (by simpa using hg)
                · exact own_ne hXo hS4.row (by decide) (by simpa using hg) (by simpa using hm)
              have hkw4 : Keep [] w0 w4 := hS4.keep
              have hrdB : Rd (w4.alloc (.cells #[.int .i64 2, .int .i64 (bb : Nat), .int .i64 2, .int .i64 0, .slice none 0 0] 58)) (some ⟨w4.heap.size, 0, none⟩) (1 * 5) (opc ((.slice none 0 0), ⟨2, (bb : Nat), 2, 0, []⟩)) := by
                have := Rd.of_blk (n := 5) (Blk.new w4 58 #[.int .i64 2, .int .i64 (bb : Nat), .int .i64 2, .int .i64 0, .slice none 0 0]) (by simp)
                simpa [opc] using this
              have hv0 := hO4.row))
        intro v' w6 hv' hk6 hat _
        obtain ⟨VA', vc', hvv', _⟩ := own_form hv'
        subst hvv'
        have hkA : Keep [] w4 (w4.alloc (.cells #[.int .i64 2, .int .i64 (bb : Nat), .int .i64 2, .int .i64 0, .slice none 0 0] 58)) := (Keep.refl _ _).alloc _
        have hSB := hS4.keep0 hkA
        have hOB := hO4.keep0 hkA
        have hS6 := hSB.keepL hk6 (fun x hx => (own_mem hOB.row hx).1) (fun hm => hOB.off _ hm List.mem_cons_self) (fun g hg hm => hOB.off _ hm (List.mem_cons_of_mem _ hg)) (fun p hp g hg hm => own_ne (hSB.data p hp) hOB.row (by decide) (by simpa using hg) (by simpa using hm))
        go_wp2
        go_roundw
        case rel =>
          have hsd : saidOp (zs.getD j 0) j (saidUp zs j).2 = (⟨2, (bb : Nat), 2, 0, []⟩, (saidUp zs j).2) := by
            rw [unhide HGD]; simp [saidOp, unhide HQ, unhide HBB]
          have hs1 : (saidUp zs (j + 1)).1 = (saidUp zs j).1 ++ [⟨2, (bb : Nat), 2, 0, []⟩] := by simp only [saidUp, hsd]
          have hs2 : (saidUp zs (j + 1)).2 = (saidUp zs j).2 := by simp only [saidUp, hsd]
          refine ⟨j + 1, L', os ++ [(uu, ⟨2, (bb : Nat), 2, 0, []⟩)], oz ++ [((.slice none 0 0), ⟨2, (bb : Nat), 2, 0, []⟩)], by omega, by go_num, by rw [hs2], by rw [hs2]; exact hS6, ?_, ?_, ?_, ⟨?_, ?_, ?_, ?_, ?_⟩, hS6.keep⟩
          · show _ = _; rw [List.map_append, unhide hos, hs1]; rfl
          · show _ = _; rw [List.map_append, unhide hoz, hs1]; rfl
          · show _ = _; rw [List.length_append, unhide hol]; rfl
          · rw [List.length_append, List.flatMap_append, List.flatMap_singleton]; exact hv'
          · intro p hp
            rcases List.mem_append.1 hp with hp | hp
            · exact own_keep (hOB.data p hp) hk6 (fun g hg hm => own_ne (hOB.data p hp) hOB.row (by decide) hg (by simpa using hm))
            · obtain rfl := List.mem_singleton.1 hp
              exact own_keep (own_keep0 hXo hkA) hk6 (fun g hg hm => own_ne (own_keep0 hXo hkA) hOB.row (by decide) hg (by simpa using hm))
          · intro p hp
            rcases List.mem_append.1 hp with hp | hp
            · exact hO4.small p hp
            · rw [List.mem_singleton.1 hp]; simp
          · intro g hg hm
            rcases hat with e | e
            · rw [e] at hg; exact hO4.off g hg hm
            · rw [e] at hg
              obtain rfl : g = _ := by simpa using hg
              rcases List.mem_cons.1 hm with e | hm
              · have := hS4.lt; omega
              · have := (own_mem hS4.row hm).2; omega
          · intro p hp
            rcases List.mem_append.1 hp with hp | hp
            · exact hO4.offs p hp
            · obtain rfl := List.mem_singleton.1 hp
              exact hXs
        case measure => simp [intOf]; omega
      have hqb0 : ((q : Int) == 0) = false := by simp; omega
      have hqb1 : ((q : Int) == 1) = false := by simp; omega
      clear hq0 hq1
      by_cases hqt : True
      · skip
        go_wp2_with (first
          | (refine (HR _).mono ?_; clear HR; rintro r w' ⟨rfl, rfl⟩)
          | (refine hF.mono ?_; clear hF; rintro r w2 ⟨u, rfl, hu, hk2⟩; (obtain ⟨UA, uc, rfl, _⟩ := own_form hu); (have hcw2 := (hk2.cell (Nat.lt_of_lt_of_le hb hS.keep.size) (by simp) (o + j)).trans hcw); have hbw2 : b < w2.heap.size := Nat.lt_of_lt_of_le hb (Nat.le_trans hS.keep.size hk2.size))
          | (refine (HR4 _).mono ?_; clear HR4; rintro r w' ⟨rfl, rfl⟩))
        have hk3 : Keep [] wr (w2.alloc (.cells #[.int .i64 1, .int .i64 (bb : Nat), .int .i64 0, .int .i64 0, .slice UA 64 uc] 58)) := hk2.alloc _
        have hS3 := hS.keep0 hk3
        have hO3 := hO.keep0 hk3
        have hb3 := Blk.new w2 58 #[.int .i64 1, .int .i64 (bb : Nat), .int .i64 0, .int .i64 0, .slice UA 64 uc]
        have hu3 := own_alloc hu (.cells #[.int .i64 1, .int .i64 (bb : Nat), .int .i64 0, .int .i64 0, .slice UA 64 uc] 58)
        have hbL : w2.heap.size ∉ s :: L.ownBlock.toList := fun hm => by
          have h1 := hS.lt
          have h2 := hk2.size
          rcases List.mem_cons.1 hm with e | hm
          · omega
          · have := (own_mem hS.row hm).2; omega
        have hT := Write_ok w0 _ s view size (saidUp zs j).2 j 0 0 L os hS3 (bb : Nat) UA 64 uc (fillOf (j : Nat)) (Rd.of_own hu3) (by simp) hv (by omega) (by omega) (by omega)
        obtain ⟨x0, x1, x2, x3, x4⟩ := op_cells hb3
        go_wp2_with (first
          | (at_builtin; refine elemOps.wp_app rfl _ _ rfl w0.heap.size _ oz.length (oz.flatMap opc) rfl (own_alloc hv0 _) ⟨w4.heap.size, 0, none⟩ 1 1 (opc ((.slice UA 64 uc), ⟨1, (bb : Nat), 0, 0, (fillOf (j : Nat))⟩)) rfl hrdB (opc_one _ rfl) (by have := unhide hol; omega) (by have := unhide hol; omega) (by have := hkw4.size; simp; omega) ?_)
          | (
              (refine hT.mono ?_)
              clear hT
              rintro r w4 ⟨L', uu, rfl, hS4, hk4, hg4⟩
              have hb4 := hb3.keep hk4 hbL
              have hb4l := hb4.lt
              obtain ⟨d0, d1, d2, d3, d4⟩ := op_cells hb4
              have hO4 := hO3.turn hk4 (fun x hx => hx) hg4
              have hXo : w4.ownsRow w0.heap.size 5 1 (.slice UA 64 uc) 64 (bys (fillOf (j : Nat))) := own_base (own_keep hu3 hk4 (fun g hg hm => by
                have h1 := (own_mem hu (g := g) (by simpa using hg)).1
                rcases List.mem_cons.1 hm with e | hm
                · have := hS.lt; omega
                · have := (own_mem hS.row hm).2; omega)) hS.keep.size
              have hXs : ∀ g ∈ ((.slice UA 64 uc) : Value).ownBlock.toList, g ∉ s :: L'.ownBlock.toList := fun g hg hm => by
                rcases List.mem_cons.1 hm with rfl | hm
                · exact own_blk_ne hXo hS4.blk (by decide) (by simpa using hg)
                · exact own_ne hXo hS4.row (by decide) (by simpa using hg) (by simpa using hm)
              have hkw4 : Keep [] w0 w4 := hS4.keep
              have hrdB : Rd (w4.alloc (.cells #[.int .i64 1, .int .i64 (bb : Nat), .int .i64 0, .int .i64 0, .slice UA 64 uc] 58)) (some ⟨w4.heap.size, 0, none⟩) (1 * 5) (opc ((.slice UA 64 uc), ⟨1, (bb : Nat), 0, 0, (fillOf (j : Nat))⟩)) := by
                have := Rd.of_blk (n := 5) (Blk.new w4 58 #[.int .i64 1, .int .i64 (bb : Nat), .int .i64 0, .int .i64 0, .slice UA 64 uc]) (by simp)
                simpa [opc] using this
              have hv0 := hO4.row))
        intro v' w6 hv' hk6 hat _
        obtain ⟨VA', vc', hvv', _⟩ := own_form hv'
        subst hvv'
        have hkA : Keep [] w4 (w4.alloc (.cells #[.int .i64 1, .int .i64 (bb : Nat), .int .i64 0, .int .i64 0, .slice UA 64 uc] 58)) := (Keep.refl _ _).alloc _
        have hSB := hS4.keep0 hkA
        have hOB := hO4.keep0 hkA
        have hS6 := hSB.keepL hk6 (fun x hx => (own_mem hOB.row hx).1) (fun hm => hOB.off _ hm List.mem_cons_self) (fun g hg hm => hOB.off _ hm (List.mem_cons_of_mem _ hg)) (fun p hp g hg hm => own_ne (hSB.data p hp) hOB.row (by decide) (by simpa using hg) (by simpa using hm))
        go_wp2
        go_roundw
        case rel =>
          have hsd : saidOp (zs.getD j 0) j (saidUp zs j).2 = (⟨1, (bb : Nat), 0, 0, (fillOf (j : Nat))⟩, (saidUp zs j).2) := by
            rw [unhide HGD]; have h0 : ¬ (q = 0) := by simpa using hqb0
            have h1 : ¬ ((q : Int) = 1) := by simpa using hqb1
            unfold saidOp
            rw [if_neg (by rw [unhide HQ]; omega), if_neg (by rw [unhide HQ]; omega), unhide HBB]
          have hs1 : (saidUp zs (j + 1)).1 = (saidUp zs j).1 ++ [⟨1, (bb : Nat), 0, 0, (fillOf (j : Nat))⟩] := by simp only [saidUp, hsd]
          have hs2 : (saidUp zs (j + 1)).2 = (saidUp zs j).2 := by simp only [saidUp, hsd]
          refine ⟨j + 1, L', os ++ [(uu, ⟨1, (bb : Nat), 0, 0, (fillOf (j : Nat))⟩)], oz ++ [((.slice UA 64 uc), ⟨1, (bb : Nat), 0, 0, (fillOf (j : Nat))⟩)], by omega, by go_num, by rw [hs2], by rw [hs2]; exact hS6, ?_, ?_, ?_, ⟨?_, ?_, ?_, ?_, ?_⟩, hS6.keep⟩
          · show _ = _; rw [List.map_append, unhide hos, hs1]; rfl
          · show _ = _; rw [List.map_append, unhide hoz, hs1]; rfl
          · show _ = _; rw [List.length_append, unhide hol]; rfl
          · rw [List.length_append, List.flatMap_append, List.flatMap_singleton]; exact hv'
          · intro p hp
            rcases List.mem_append.1 hp with hp | hp
            · exact own_keep (hOB.data p hp) hk6 (fun g hg hm => own_ne (hOB.data p hp) hOB.row (by decide) hg (by simpa using hm))
            · obtain rfl := List.mem_singleton.1 hp
              exact own_keep (own_keep0 hXo hkA) hk6 (fun g hg hm => own_ne (own_keep0 hXo hkA) hOB.row (by decide) hg (by simpa using hm))
          · intro p hp
            rcases List.mem_append.1 hp with hp | hp
            · exact hO4.small p hp
            · rw [List.mem_singleton.1 hp]; simp
          · intro g hg hm
            rcases hat with e | e
            · rw [e] at hg; exact hO4.off g hg hm
            · rw [e] at hg
              obtain rfl : g = _ := by simpa using hg
              rcases List.mem_cons.1 hm with e | hm
              · have := hS4.lt; omega
              · have := (own_mem hS4.row hm).2; omega
          · intro p hp
            rcases List.mem_append.1 hp with hp | hp
            · exact hO4.offs p hp
            · obtain rfl := List.mem_singleton.1 hp
              exact hXs
        case measure => simp [intOf]; omega
      exact absurd trivial hqt
    · obtain rfl : len = j := by omega
      go_wp2
      go_ret2
      exact ⟨VA, vc, L, os, oz, rfl, hS, unhide hos, unhide hoz, hO⟩
end Go.Proofs.Ytplfijhianmohaa
