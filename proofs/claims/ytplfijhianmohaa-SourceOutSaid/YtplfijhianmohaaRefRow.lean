/-
  Contracts of the reference's row: NewRow, Lay.
-/
import Derived.Test.YtplfijhianmohaaRow3
import Derived.Test.YtplfijhianmohaaCrc2
namespace Go.Proofs.Ytplfijhianmohaa
open Go.RowKit

theorem Elem.wp_copyOwn {P : Program} {t e : TypeId} {z : Value} {bytes : Nat} (E : Elem P t e z bytes) {w : World} {ops : Array Oper} {rest : List Oper} {o : Oper} {a : Act} {Q : Exit → Act → World → Prop} (hgd : o.guard = none) (d s : Operand)
    (ho : o.op = .call { callee := .builtin .copy, args := #[d, s], argTypes := #[t, t] })
    (base : Nat) (A : Option Addr) (n c : Nat) (xs : List Value) (off : Nat) (hd : a.eval d = .slice (cutA A off c) (n - off) (c - off)) (hown : w.ownsRow base e 1 (.slice A n c) n xs)
    (S : Option Addr) (m sc : Nat) (ys : List Value) (hx : a.eval s = .slice S m sc) (hr : Rd w S m ys) (h1 : ∀ u ∈ ys, u.oneCell' = true) (hm : off + m ≤ n)
    (h : ∀ w', w'.ownsRow base e 1 (.slice A n c) n (laid xs off ys) → Keep (Value.slice A n c).ownBlock.toList w w' → wpList P ops Q rest (a.put o.dst (.int .i64 (m : Nat))) w') : wpList P ops Q (o :: rest) a w :=
  wpList_plain hgd fun _ hK => E.wp1_copyOwn d s ho base A n c xs off hd hown S m sc ys hx hr h1 hm fun w' h2 h3 => hK _ _ (h w' h2 h3)

/-- The reference's row at block r: its bytes, and its place. -/
structure RefAt (w : World) (base r : Nat) (v : Value) (bs : List UInt8) (a : Nat) : Prop where
  blk : Blk w r 92 #[v, .int .i64 a]
  own : w.ownsRow base 5 1 v bs.length (bys bs)
  base : base ≤ r
  le : a ≤ bs.length
  few : bs.length ≤ 65536
namespace RefAt
variable {w w' : World} {base r a : Nat} {v : Value} {bs : List UInt8}
theorem keep0 (h : RefAt w base r v bs a) (hk : Keep [] w w') : RefAt w' base r v bs a := ⟨h.blk.keep0 hk, own_keep0 h.own hk, h.base, h.le, h.few⟩
theorem drew (h : RefAt w base r v bs a) : RefAt w.drew base r v bs a := h.keep0 (Keep.refl _ _).drew
theorem not_mem (h : RefAt w base r v bs a) : r ∉ v.ownBlock.toList := fun hm => own_blk_ne h.own h.blk (by decide) (by simpa using hm)
theorem c0 (h : RefAt w base r v bs a) : w.cell? ⟨r, 0, none⟩ = some v := by simpa using h.blk.cell 0
theorem c1 (h : RefAt w base r v bs a) : w.cell? ⟨r, 1, none⟩ = some (.int .i64 a) := by simpa using h.blk.cell 1
theorem fresh (h : RefAt w base r v bs a) : ∀ x ∈ r :: v.ownBlock.toList, base ≤ x := fun x hx => by
  rcases List.mem_cons.1 hx with rfl | hx
  · exact h.base
  · exact (own_mem h.own hx).1
end RefAt

theorem WithinR_is (n lo hi : Int) (b : Bool) (hb : decide (lo ≤ n ∧ n ≤ hi) = b) (w : World) :
    Calls Try.prog 63 #[.int .i64 n, .int .i64 lo, .int .i64 hi] w fun e w' => e = .returned (.bool b) ∧ w = w' := by
  subst hb
  exact Within_any n lo hi w

theorem NewRow_any (n : Nat) (hn : n ≤ 65536) (w : World) :
    Calls Try.prog 47 #[.int .i64 (n : Nat)] w fun e w' => ∃ r v, e = .returned (.pointer (some ⟨r, 0, none⟩)) ∧ RefAt w' w.heap.size r v (List.replicate n 0) 0 ∧ Keep [] w w' := by
  have hT := WithinR_is (n : Nat) 0 65536 true (by simp; omega) w
  go_enter Try.func47, Try.ntmps47
  go_wp2_with (first
    | (refine hT.mono ?_; clear hT; rintro e w' ⟨rfl, rfl⟩)
    | (at_make; refine elem8.wp_make rfl _ _ rfl .i64 .i64 n n n rfl rfl rfl rfl (by omega) (by omega) ?_))
  go_ret
  have hb := Blk.new (w.alloc (.cells (Array.replicate n (.int .u8 0)) 5)) 92 #[.slice (some ⟨w.heap.size, 0, none⟩) n n, .int .i64 0]
  rw [show (w.alloc (.cells (Array.replicate n (.int .u8 0)) 5)).heap.size = w.heap.size + 1 by simp] at hb
  have ho : (w.alloc (.cells (Array.replicate n (.int .u8 0)) 5)).ownsRow w.heap.size 5 1 (.slice (some ⟨w.heap.size, 0, none⟩) n n) n (bys (List.replicate n 0)) :=
    own_full (Blk.new w 5 (Array.replicate n (.int .u8 0))) (Nat.le_refl _) (by omega) (by simp) (by simp [bys, by8])
  exact ⟨_, _, rfl, ⟨hb, by rw [List.length_replicate]; exact own_alloc ho _, by omega, Nat.zero_le _, by simpa using hn⟩, ((Keep.refl _ _).alloc _).alloc _⟩

theorem most_is (k : Nat) (hk : k = 1 ∨ k = 4) (w : World) : Calls Try.prog 64 #[.int .i64 (k : Nat)] w fun e w' => e = .returned (.int .i64 ((256 ^ k - 1 : Nat) : Int)) ∧ w = w' := by
  rcases hk with rfl | rfl
  all_goals
    go_enter Try.func64, Try.ntmps64
    go_wp2
    go_ret
    exact ⟨rfl, rfl⟩

set_option maxHeartbeats 1000000 in
set_option maxRecDepth 20000 in
theorem LayR (w : World) (base r a : Nat) (v : Value) (bs : List UInt8) (h : RefAt w base r v bs a) (S : Option Addr) (m sc : Nat) (ys : List UInt8) (hr : Rd w S m (bys ys)) (hm : a + m ≤ bs.length) :
    Calls Try.prog 48 #[.pointer (some ⟨r, 0, none⟩), .slice S m sc] w fun e w' => e = .returned (.bool true) ∧ RefAt w' base r v (laid bs a ys) (a + m) ∧ Keep (r :: v.ownBlock.toList) w w' := by
  obtain ⟨A, c, rfl, hc, hc63, _⟩ := own_form h.own
  have h0 := h.c0
  have h1 := h.c1
  have hfew := h.few
  have hd := h.drew
  have hl : ys.length = m := by simpa using hr.1
  obtain ⟨n, hn⟩ : ∃ n, n = bs.length := ⟨_, rfl⟩
  rw [← hn] at h0 hm hc hfew
  have HN := hide hn
  have HL := hide hl
  have han : a ≤ n := by omega
  have hs : IntKind.i64.wrap ((n : Nat) - (a : Nat) : Int) = (n : Nat) - (a : Nat) := by rw [IntKind.wrap_i64]; omega
  clear hn hl
  go_enter Try.func48, Try.ntmps48
  go_wp2
  refine wp_region_ht (fun w' => w'.cell? ⟨r, 0, none⟩ = some (.slice A n c) ∧ w'.cell? ⟨r, 1, none⟩ = some (.int .i64 a)) 12 [(0, false), (1, false), (2, false), (3, false), (4, false), (5, false), (6, false), (7, false), (8, false), (9, false), (10, false), (11, false)]
    (by kernel_rfl) (by kernel_rfl) (fun _ _ d _ _ h => by cases d <;> exact h) ⟨h0, h1⟩ ?_
  simp only [picked, List.filterMap_cons, List.filterMap_nil, List.getElem?_cons_zero, List.getElem?_cons_succ, Option.map_some, List.drop_succ_cons, List.drop_zero]
  iterate 12 (refine wpT_held ?_ (by rfl) ?_ ?_; rotate_left; (focus (intro W hW; obtain ⟨hW1, hW2⟩ := hW; go_simp; first | done | with_reducible rfl)); simp only [Act.put, List.setIfInBounds_toArray, List.set_cons_zero, List.set_cons_succ])
  refine wpT_nil ?_
  clear hs
  go_wp2
  refine wp_region_ht (fun w' => w'.cell? ⟨r, 0, none⟩ = some (.slice A n c) ∧ w'.cell? ⟨r, 1, none⟩ = some (.int .i64 a)) 10 [(0, false), (1, false), (2, false), (3, false), (4, false), (5, false), (6, false), (7, false), (8, false), (9, false)]
    (by kernel_rfl) (by kernel_rfl) (fun _ _ d _ _ h => by cases d <;> exact h) ⟨h0, h1⟩ ?_
  simp only [picked, List.filterMap_cons, List.filterMap_nil, List.getElem?_cons_zero, List.getElem?_cons_succ, Option.map_some, List.drop_succ_cons, List.drop_zero]
  iterate 10 (refine wpT_held ?_ (by rfl) ?_ ?_; rotate_left; (focus (intro W hW; obtain ⟨hW1, hW2⟩ := hW; go_simp; first | done | with_reducible rfl)); simp only [Act.put, List.setIfInBounds_toArray, List.set_cons_zero, List.set_cons_succ])
  refine wpT_nil ?_
  refine elem8.wp_copyOwn rfl (.tmp 26) (.tmp 27) (by rfl) base A n c (bys bs) a (by rfl) (by have := hd.drew.own; rwa [← unhide HN] at this) S m sc (bys ys) (by rfl) hr (bys_one _) hm ?_
  intro w2 hw2 hk2
  have hnm : r ∉ (Value.slice A n c).ownBlock.toList := by have := hd.not_mem; rwa [← unhide HN] at this
  have h1' := (hk2.cell (b := r) hd.blk.lt hnm 1).trans hd.c1
  have hf' := (hk2.frozen (b := r) hd.blk.lt hnm 1).trans (hd.blk.frozen 1)
  go_wp2
  all_goals
    go_ret
    try (have h' := h.symm; clear h; subst h')
    have hn := unhide HN
    have hl := unhide HL
    subst hn
    have hlen : (laid bs a ys).length = bs.length := length_laid _ _ _ (by omega)
    refine ⟨rfl, ⟨?_, ?_, hd.base, by omega, by omega⟩, ?_⟩
    · have := (hd.drew.blk.keep hk2 hnm).set 1 (.int .i64 ((a + m : Nat)))
      simpa using this
    · rw [hlen, bys_laid]
      exact own_set hw2 hnm _
    · exact ((((Keep.refl [] w).drew.drew).zero).trans hk2 (fun x hx => .inl (List.mem_cons_of_mem _ hx))).setCell (p := ⟨r, 1, none⟩) (.inl List.mem_cons_self) _
end Go.Proofs.Ytplfijhianmohaa
