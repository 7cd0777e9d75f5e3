/-
  Contracts of link.Link's All and of the law's 'all'.
-/
import Derived.Test.YtfbejbkacpkalaaLinkT
import Derived.Test.YtfbejbkacpkalaaRange
import Derived.Shelf.RegionOpen
import Derived.OwnWalkIn
import Derived.TacticsInMore
import Derived.LoopNIn
import Derived.LoopIn
namespace Go.Proofs.Ytfbejbkacpkalaa
open Go.RowKit Go.Shelf

attribute [local go_sem] Oper.semAt_some

theorem own_same {w w' : World} {base : Nat} {e : TypeId} {v : Value} {n s : Nat} {xs : List Value} (h : w.ownsRow base e s v n xs) (hs : ∀ g, v.ownBlock = some g → w'.heap[g]? = w.heap[g]?) : w'.ownsRow base e s v n xs := by
  refine ⟨h.1, ?_⟩
  rcases h.2 with hv | ⟨g, cap, cur, rfl, hb, hg, r⟩
  · exact .inl hv
  · exact .inr ⟨g, cap, cur, rfl, hb, (hs g rfl).trans hg, r⟩
theorem Lk.same {w w' : World} {b : Nat} {v : Value} {ls : List (Value × List UInt8)} (h : Lk w b v ls) (hs : ∀ g ∈ Lk.fp b v ls, w'.heap[g]? = w.heap[g]?) : Lk w' b v ls := by
  refine ⟨(hs b (by simp [Lk.fp])).trans h.blk, own_same h.row fun g hg => hs g (by simp [Lk.fp, hg]), fun p hp => own_same (h.own p hp) fun g hg => hs g ?_, h.small, h.nodup, h.few⟩
  simp only [Lk.fp, List.mem_cons, List.mem_append, List.mem_filterMap]
  exact .inr (.inr ⟨p, hp, hg⟩)
theorem Lk.fp_lt {w : World} {b : Nat} {v : Value} {ls : List (Value × List UInt8)} (h : Lk w b v ls) : ∀ g ∈ Lk.fp b v ls, g < w.heap.size := by
  intro g hg
  simp only [Lk.fp, List.mem_cons, List.mem_append, List.mem_filterMap] at hg
  rcases hg with rfl | hg | ⟨p, hp, hg⟩
  · exact h.blk.lt
  · exact (own_mem h.row hg).2
  · exact (own_mem (h.own p hp) (by simp [hg])).2

/-- what a round hands over: a number, a header, bytes -/
abbrev Rnd := Nat × Value × List UInt8
def rndArgs (x : Rnd) : Array Value := #[.int .i64 (x.1 : Nat), x.2.1]
def rndFact (n₀ : Nat) (pre : List Rnd) (x : Rnd) (W : World) : Prop := x.1 = pre.length ∧ x.1 < 64 ∧ W.ownsRow n₀ 5 1 x.2.1 x.2.2.length (bys x.2.2)
def rndKeep (n₀ bc : Nat) (p : Value) (W W' : World) : Prop := Below n₀ W W' ∧ (Boxed W bc 25 p → Boxed W' bc 25 p)

set_option maxRecDepth 100000 in
set_option maxHeartbeats 2000000 in
theorem All1_seq (n n₀ bc b : Nat) (v : Value) (ls : List (Value × List UInt8)) (w : World) (hL : Lk w b v ls) (hbc : Boxed w bc 25 (.pointer (some ⟨b, 0, none⟩))) (hfp : ∀ g ∈ Lk.fp b v ls, g < n₀) (hn₀ : n₀ ≤ w.heap.size) :
    SeqF n Try.prog 32 #[.pointer (some ⟨bc, 0, none⟩)] rndArgs (rndFact n₀) (rndKeep n₀ bc (.pointer (some ⟨b, 0, none⟩))) (fun xs => xs.map (·.2.2) = ls.map (·.2)) w := by
  intro l J W hW hJ hY h0
  have hsz : n₀ ≤ W.heap.size := Nat.le_trans hn₀ hW.size
  replace hL := hL.same (w' := W) fun g hg => hW.block g (hL.fp_lt g hg) (by simp)
  replace hbc : Boxed W bc 25 (.pointer (some ⟨b, 0, none⟩)) := (hW.block bc hbc.lt (by simp)).trans hbc
  refine callsIn_of_wp Try.func32 rfl trivial ?_ rfl
  simp only [Try.ntmps32, List.size_toArray, List.length_cons, List.length_nil, Nat.reduceAdd, Nat.reduceSub, Array.replicate_succ, Array.replicate_zero, List.push_toArray, List.append_toArray, List.nil_append, List.cons_append]
  gi_wp2
  gi_loopw [3] (fun i wr => ∃ k pre, k ≤ ls.length ∧ i = .int .i64 (k : Nat) ∧ J pre wr ∧ Hid (pre.length = k) ∧ Hid (pre.map (·.2.2) = (ls.map (·.2)).take k) ∧ Lk wr b v ls ∧ Boxed wr bc 25 (.pointer (some ⟨b, 0, none⟩)) ∧ n₀ ≤ wr.heap.size)
    (fun i _ => ls.length - (intOf i).toNat)
  case atStart => exact ⟨0, [], Nat.zero_le _, rfl, h0, rfl, rfl, hL, hbc, hsz⟩
  case round =>
    clear hL hbc hsz h0
    obtain ⟨k, pre, hk, rfl, hJp, hpl, hpm, hL, hbc, hsz⟩ := hrel
    have hcb := hbc.cell
    have hfew := hL.few
    by_cases hlt : k < ls.length
    · have hh : decide (0 ≤ ((k : Nat) : Int) ∧ ((k : Nat) : Int) < ls.length) = true := by simpa using hlt
      obtain ⟨u, bs, hub⟩ : ∃ u bs, ls[k] = (u, bs) := ⟨ls[k].1, ls[k].2, rfl⟩
      have hul : (u, bs) ∈ ls := by rw [← hub]; exact List.getElem_mem _
      have hB : Bts wr u bs := Bts.of_own (hL.own _ hul) (hL.small _ hul)
      obtain ⟨PA, pn, pc, rfl, hpc, hpn, hpr⟩ := hB
      have hpl' : bs.length = pn := by simpa using hpr.1
      have hcv := hL.blk.cell 0
      obtain ⟨g, c, rfl, hgc⟩ : ∃ g c, v = .slice (some ⟨g, 0, none⟩) ls.length c ∧ wr.cell? ⟨g, k, none⟩ = some (.slice PA pn pc) := by
        rcases hL.row.2 with ⟨_, h0⟩ | ⟨g, c, cur, rfl, _, hg, hn', hc, hs, ht⟩
        · omega
        · refine ⟨g, c, rfl, ?_⟩
          rw [Blk.cell (t := 28) hg]
          have h1 : (cur.toList.take (ls.length * 1))[k]? = some (.slice PA pn pc) := by rw [ht]; simp [hlt, hub]
          rw [List.getElem?_take_of_lt (by omega)] at h1
          simpa using h1
      have hT := callsIn_wide (n := n - 1).2 (has_any wr b _ ls hL (k : Nat))
      rw [hh] at hT
      have hTC := callsIn_wide (n := n - 1).2 (Clone_any PA pn pc bs wr hpr hpn)
      gi_wp2_with (refine ⟨trivial, fun h => by simp [Fence.wide] at h, ?_⟩; refine hT.mono ?_; clear hT; rintro e w' ⟨rfl, rfl⟩)
      gi_wp2_with (refine ⟨trivial, fun h => by simp [Fence.wide] at h, ?_⟩; refine hTC.mono ?_; clear hTC; rintro e w1 ⟨u1, rfl, hu1, hk1, _⟩; (obtain ⟨UA, uc, rfl, _⟩ := own_form hu1); obtain ⟨fn, tmps, assign, body, hy, hR⟩ := hY pre (k, .slice UA pn uc, bs) w1 (hJ _ _ _ hJp hk1) ⟨(unhide hpl).symm, by show k < 64; omega, by rw [hpl']; exact own_base hu1 hsz⟩; dsimp only [rndArgs] at hy)
      refine ⟨fun h => by simp [Fence.wide] at h, hR.mono ?_⟩
      rintro e W3 ⟨rfl, hJ3, hk3, hb3⟩
      clear hcb hcv hgc hpr hy hR
      gi_wp2
      go_roundw
      case rel =>
        refine ⟨k + 1, _, by omega, by go_num, hJ3, by show _ = _; rw [List.length_append, unhide hpl]; rfl, ?_, ?_, hb3 ((hk1.block bc hbc.lt (by simp)).trans hbc), Nat.le_trans hsz (Nat.le_trans hk1.size hk3.size)⟩
        · show _ = _
          rw [List.map_append, unhide hpm, List.take_succ_eq_append_getElem (by simpa using hlt)]
          simp [hub]
        · exact hL.same fun x hx => (hk3.block x (hfp x hx)).trans (hk1.block x (hL.fp_lt x hx) (by simp))
      case measure => simp [intOf]; omega
    · have hh : decide (0 ≤ ((k : Nat) : Int) ∧ ((k : Nat) : Int) < ls.length) = false := by simp; omega
      have hT := callsIn_wide (n := n - 1).2 (has_any wr b v ls hL (k : Nat))
      rw [hh] at hT
      gi_wp2_with (refine ⟨trivial, fun h => by simp [Fence.wide] at h, ?_⟩; refine hT.mono ?_; clear hT; rintro e w' ⟨rfl, rfl⟩)
      go_end0
      refine ⟨⟨_, rfl⟩, pre, ?_, hJp⟩
      rw [unhide hpm, List.take_of_length_le (by simp; omega)]

set_option maxHeartbeats 1000000 in
theorem All_in (n : Nat) (p : Value) (w : World) (hp : p.oneCell' = true) :
    CallsIn Fence.wide n Try.prog 27 #[p] w fun e w' => e = .returned (.func (.func 32) #[] #[.pointer (some ⟨w.heap.size, 0, none⟩)]) ∧ w' = w.alloc (.cells #[p] 25) := by
  refine callsIn_of_wp Try.func27 rfl trivial ?_ rfl
  simp only [Try.ntmps27, List.size_toArray, List.length_cons, List.length_nil, Nat.reduceAdd, Nat.reduceSub, Array.replicate_succ, Array.replicate_zero, List.push_toArray, List.append_toArray, List.nil_append, List.cons_append]
  gi_wp2
  go_ret
  exact ⟨rfl, rfl⟩
end Go.Proofs.Ytfbejbkacpkalaa
