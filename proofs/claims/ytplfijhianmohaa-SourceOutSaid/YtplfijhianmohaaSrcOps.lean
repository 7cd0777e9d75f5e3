/-
  Contracts of source.Source's Ops.
-/
import Derived.Test.YtplfijhianmohaaSource3
import Derived.Test.YtplfijhianmohaaRange
import Derived.Shelf.RegionOpen
import Derived.OwnWalkIn
import Derived.TacticsInMore
import Derived.LoopNIn
import Derived.LoopIn
namespace Go.Proofs.Ytplfijhianmohaa
open Go.RowKit Go.Shelf

attribute [local go_sem] Oper.semAt_some

/-- all blocks of a source lie below n₀ -/
def Under (n₀ s : Nat) (L : Value) (os : List (Value × POp)) : Prop := s < n₀ ∧ (∀ g ∈ L.ownBlock.toList, g < n₀) ∧ ∀ p ∈ os, ∀ g ∈ p.1.ownBlock.toList, g < n₀
theorem Src.under {w0 w : World} {s view size epoch seq acked done : Nat} {L : Value} {os : List (Value × POp)} (h : Src w0 w s view size epoch seq acked done L os) : Under w.heap.size s L os :=
  ⟨h.lt, fun g hg => (own_mem h.row hg).2, fun p hp g hg => (own_mem (h.data p hp) hg).2⟩
theorem own_below {w w' : World} {n₀ base : Nat} {e : TypeId} {v : Value} {n s : Nat} {xs : List Value} (h : w.ownsRow base e s v n xs) (hb : Below n₀ w w') (hv : ∀ g ∈ v.ownBlock.toList, g < n₀) : w'.ownsRow base e s v n xs := by
  refine ⟨h.1, ?_⟩
  rcases h.2 with hv | ⟨g, cap, cur, rfl, hb', hg, r⟩
  · exact .inl hv
  · exact .inr ⟨g, cap, cur, rfl, hb', (hb.block g (hv g (by simp [Value.ownBlock]))).trans hg, r⟩
theorem Src.below {w0 w w' : World} {n₀ s view size epoch seq acked done : Nat} {L : Value} {os : List (Value × POp)} (h : Src w0 w s view size epoch seq acked done L os) (hu : Under n₀ s L os) (hn : w0.heap.size ≤ n₀) (hb : Below n₀ w w') :
    Src w0 w' s view size epoch seq acked done L os :=
  ⟨(hb.block s hu.1).trans h.blk, own_below h.row hb hu.2.1, fun p hp => own_below (h.data p hp) hb (hu.2.2 p hp), h.small, h.new,
    ⟨hb.os.trans h.keep.os, hb.tape.trans h.keep.tape, hb.output.trans h.keep.output, Nat.le_trans h.keep.size hb.size, fun k hk hn' => (hb.block k (by omega)).trans (h.keep.block k hk hn')⟩, h.len, h.few⟩

/-- what a round hands over: a number, a header, an op -/
abbrev OpRnd := Nat × (Option Addr × Nat) × POp
def opHd (x : OpRnd) : Value := .slice x.2.1.1 x.2.2.d.length x.2.1.2
def opPr (x : OpRnd) : Value × POp := (opHd x, x.2.2)
def opArgs (x : OpRnd) : Array Value := #[.int .i64 (x.1 : Nat), .agg #[.int .i64 x.2.2.k, .int .i64 x.2.2.b, .int .i64 x.2.2.c, .int .i64 x.2.2.e, .slice x.2.1.1 x.2.2.d.length x.2.1.2]]
def opFact (n₀ fr lim : Nat) (pre : List OpRnd) (x : OpRnd) (W : World) : Prop := x.1 = fr + pre.length ∧ (pre.length < lim ∧ x.1 ≤ 1000001) ∧ x.2.2.d.length ≤ 64 ∧ W.ownsRow n₀ 5 1 (opHd x) x.2.2.d.length (bys x.2.2.d)
def opKeep (n₀ bc : Nat) (p : Value) (W W' : World) : Prop := Below n₀ W W' ∧ (Boxed W bc 25 p → Boxed W' bc 25 p)

set_option maxRecDepth 100000 in
set_option maxHeartbeats 4000000 in
theorem Ops1_seq (n n₀ bc : Nat) (w0 : World) (s view size epoch seq acked done : Nat) (L : Value) (os : List (Value × POp)) (w : World) (hS : Src w0 w s view size epoch seq acked done L os)
    (hbc : Boxed w bc 25 (.pointer (some ⟨s, 0, none⟩))) (hu : Under n₀ s L os) (hw0 : w0.heap.size ≤ n₀) (hn₀ : n₀ ≤ w.heap.size) :
    SeqF n Try.prog 52 #[.pointer (some ⟨bc, 0, none⟩)] opArgs (opFact n₀ (done + 1) os.length) (opKeep n₀ bc (.pointer (some ⟨s, 0, none⟩))) (fun xs => xs.map (·.2.2) = os.map (·.2)) w := by
  intro l J W hW hJ hY h0
  have hsz : n₀ ≤ W.heap.size := Nat.le_trans hn₀ hW.size
  replace hS := hS.keep0 hW
  replace hbc : Boxed W bc 25 (.pointer (some ⟨s, 0, none⟩)) := (hW.block bc hbc.lt (by simp)).trans hbc
  have hcb := hbc.cell
  obtain ⟨c0, c1, c2, c3, c4, c5, c6⟩ := src_cells hS.blk
  obtain ⟨A, n', c, hL, hnc, hn63⟩ : ∃ A n' c, L = .slice A n' c ∧ n' ≤ c ∧ c ≤ 9223372036854775807 := by
    obtain ⟨A, c, h1, h2, h3, _⟩ := own_form hS.row
    exact ⟨A, _, c, h1, h2, h3⟩
  subst hL
  have hlen := hS.len
  have hfew := hS.few
  have hrd := hS.rd rfl
  have hol := hrd.2
  have hn'few : n' ≤ 1000000 := by omega
  have hdf : done ≤ 1000000 := by omega
  have hsum : done + n' ≤ 1000000 := by omega
  have HOL := hide hol
  clear hlen hol
  refine callsIn_of_wp Try.func52 rfl trivial ?_ rfl
  simp only [Try.ntmps52, List.size_toArray, List.length_cons, List.length_nil, Nat.reduceAdd, Nat.reduceSub, Array.replicate_succ, Array.replicate_zero, List.push_toArray, List.append_toArray, List.nil_append, List.cons_append]
  gi_wp2
  clear c0 c1 c2 c3 c4 c5 c6 hcb
  gi_loopw [18] (fun i wr => ∃ k pre, k ≤ n' ∧ i = .int .i64 (k : Nat) ∧ J pre wr ∧ Hid (pre.length = k) ∧ Hid (pre.map (·.2.2) = (os.map (·.2)).take k) ∧ Src w0 wr s view size epoch seq acked done (.slice A n' c) os ∧ Boxed wr bc 25 (.pointer (some ⟨s, 0, none⟩)) ∧ n₀ ≤ wr.heap.size)
    (fun i _ => n' - (intOf i).toNat)
  case atStart => exact ⟨0, [], Nat.zero_le _, rfl, h0, rfl, rfl, hS, hbc, hsz⟩
  case round =>
    clear hS hbc hsz h0 hrd
    obtain ⟨k, pre, hk, rfl, hJp, hpl, hpm, hS, hbc, hsz⟩ := hrel
    have hrd := hS.rd rfl
    by_cases hlt : k < n'
    · have hkl : k < os.length := by rw [unhide HOL]; exact hlt
      obtain ⟨b, o, rfl, hb, e0, e1, e2, e3, e4⟩ := hrd.at_ hlt hkl
      obtain ⟨p, hp⟩ : ∃ p, p = os[k] := ⟨_, rfl⟩
      have hpm' : p ∈ os := by rw [hp]; exact List.getElem_mem hkl
      rw [← hp] at e0 e1 e2 e3 e4
      have hdat := hS.data p hpm'
      have hsmall := hS.small p hpm'
      obtain ⟨pv, pk, pb, pc, pe, pd⟩ := p
      simp only at e0 e1 e2 e3 e4 hdat hsmall
      obtain ⟨PA, pcap, rfl, _⟩ := own_form hdat
      have hbx := Blk.new wr 58 #[.int .i64 pk, .int .i64 pb, .int .i64 pc, .int .i64 pe, .slice PA pd.length pcap]
      have hkA : Keep [] wr (wr.alloc (.cells #[.int .i64 pk, .int .i64 pb, .int .i64 pc, .int .i64 pe, .slice PA pd.length pcap] 58)) := (Keep.refl _ _).alloc _
      have hTC := callsIn_wide (n := n - 1).2 (Clone_any PA pd.length pcap pd _ (Rd.of_own (own_keep0 hdat hkA)) (by omega))
      have HP := hide hp
      clear hp hrd
      gi_wp2_with (refine ⟨trivial, fun h => by simp [Fence.wide] at h, ?_⟩; refine hTC.mono ?_; clear hTC; rintro e w1 ⟨u1, rfl, hu1, hk1, _⟩; (obtain ⟨UA, uc, rfl, _⟩ := own_form hu1); (have hb1 := hbx.keep0 hk1); (have hb1l := hb1.lt); (have hf4 := hb1.frozen 4); (obtain ⟨x0, x1, x2, x3, x4⟩ := op_cells hb1); (have hkX : Keep [] wr (w1.setCell ⟨wr.heap.size, 4, none⟩ (.slice UA pd.length uc)) := (hkA.trans0 hk1).setCell (p := ⟨wr.heap.size, 4, none⟩) (.inr (Nat.le_refl _)) _); (obtain ⟨fn, tmps, assign, body, hy, hR⟩ := hY pre (done + 1 + k, (UA, uc), ⟨pk, pb, pc, pe, pd⟩) (w1.setCell ⟨wr.heap.size, 4, none⟩ (.slice UA pd.length uc)) (hJ _ _ _ hJp hkX) ⟨by show done + 1 + k = done + 1 + pre.length; rw [unhide hpl], ⟨by rw [unhide hpl]; exact hkl, by show done + 1 + k ≤ 1000001; omega⟩, by show pd.length ≤ 64; exact hsmall, own_set (own_base hu1 (by simp; omega)) (fun hm => absurd (own_mem hu1 hm).1 (by rw [World.size_alloc]; omega)) _⟩); dsimp only [opArgs] at hy; simp only [Int.natCast_add, Int.natCast_one] at hy)
      refine ⟨fun h => by simp [Fence.wide] at h, hR.mono ?_⟩
      rintro e W3 ⟨rfl, hJ3, hk3, hb3⟩
      clear hy hR e0 e1 e2 e3 e4 x0 x1 x2 x3 x4 hf4 hb1 hbx
      gi_wp2
      go_roundw
      case rel =>
        refine ⟨k + 1, _, by omega, by go_num, hJ3, by show _ = _; rw [List.length_append, unhide hpl]; rfl, ?_, (hS.keep0 hkX).below hu hw0 hk3, hb3 ((hkX.block bc hbc.lt (by simp)).trans hbc), Nat.le_trans hsz (Nat.le_trans hkX.size hk3.size)⟩
        show _ = _
        rw [List.map_append, unhide hpm, List.take_succ_eq_append_getElem (by simpa using hkl)]
        simp [← unhide HP]
      case measure => simp [intOf]; omega
    · obtain rfl : n' = k := by omega
      gi_wp2
      go_end0
      refine ⟨⟨_, rfl⟩, pre, ?_, hJp⟩
      rw [unhide hpm, List.take_of_length_le (by simp [unhide HOL])]

set_option maxHeartbeats 1000000 in
theorem Ops_in (n : Nat) (p : Value) (w : World) (hp : p.oneCell' = true) :
    CallsIn Fence.wide n Try.prog 33 #[p] w fun e w' => e = .returned (.func (.func 52) #[] #[.pointer (some ⟨w.heap.size, 0, none⟩)]) ∧ w' = w.alloc (.cells #[p] 25) := by
  refine callsIn_of_wp Try.func33 rfl trivial ?_ rfl
  simp only [Try.ntmps33, List.size_toArray, List.length_cons, List.length_nil, Nat.reduceAdd, Nat.reduceSub, Array.replicate_succ, Array.replicate_zero, List.push_toArray, List.append_toArray, List.nil_append, List.cons_append]
  gi_wp2
  go_ret
  exact ⟨rfl, rfl⟩
end Go.Proofs.Ytplfijhianmohaa
