/-
  Contracts of frame: Encode.
-/
import Derived.Test.YtplfijhianmohaaFrame2
namespace Go.Proofs.Ytplfijhianmohaa
open Go.RowKit

/-- what stands ahead of the sum -/
def frBody (k v s b c e d : Nat) (data : List UInt8) : List UInt8 := ([75, 70, k].flatMap (le 1) ++ [v, s].flatMap (le 4) ++ [b, c].flatMap (le 1) ++ [e, d].flatMap (le 4)) ++ data
/-- a frame as bytes -/
def frBytes (k v s b c e d : Nat) (data : List UInt8) : List UInt8 := frBody k v s b c e d data ++ le 4 (crcSum (frBody k v s b c e d data))
@[simp] theorem length_frBody (k v s b c e d : Nat) (data : List UInt8) : (frBody k v s b c e d data).length = 21 + data.length := by
  simp [frBody]; omega
@[simp] theorem length_frBytes (k v s b c e d : Nat) (data : List UInt8) : (frBytes k v s b c e d data).length = 25 + data.length := by
  simp [frBytes]; omega

theorem FrMay.bounds {k v s b c e d : Nat} {xs : List UInt8} (h : FrMay k v s b c e d xs) : k ≤ 9 ∧ v ≤ 2147483647 ∧ s ≤ 2147483647 ∧ b ≤ 63 ∧ c ≤ 64 ∧ e ≤ 2147483647 ∧ d ≤ 2147483647 ∧ xs.length ≤ 64 := by
  obtain ⟨g1, g | g | g | g | g⟩ := h
  · omega
  all_goals
    have : xs = [] := by simp only [g]
    subst this
    simp only [List.length_nil]
    omega

theorem Put_new {w1 W0 : World} {r a k : Nat} {v : Value} {bs : List UInt8} (hK : Keep [] w1 W0) (hR : RowAt W0 w1.heap.size r v bs a) (hk : k = 1 ∨ k = 2 ∨ k = 4) (zs : List Nat) (hz : ∀ z ∈ zs, z < 256 ^ k) (hm0 : 0 < zs.length) (hm : a + k * zs.length ≤ bs.length)
    (cs : Array Value) (hcs : cs.toList = nats zs) (m : Nat) (hml : m = zs.length) :
    Calls Try.prog 54 #[.pointer (some ⟨r, 0, none⟩), .int .i64 (k : Nat), .slice (some ⟨W0.heap.size, 0, none⟩) m m] (W0.alloc (.cells cs 3)) fun e w' => e = .returned (.bool true) ∧ RowAt w' w1.heap.size r v (laid bs a (zs.flatMap (le k))) (a + k * m) ∧ Keep [] w1 w' := by
  subst hml
  have hka := hK.alloc (.cells cs 3)
  have hRA : RowAt (W0.alloc (.cells cs 3)) w1.heap.size r v bs a := hR.keep0 ((Keep.refl _ _).alloc _)
  have hrd : Rd (W0.alloc (.cells cs 3)) (some ⟨W0.heap.size, 0, none⟩) zs.length (nats zs) := by
    have hl : cs.toList.length = zs.length := by rw [hcs, length_nats]
    have := Rd.of_blk (n := zs.length) (Blk.new W0 3 cs) (by simpa using Nat.le_of_eq hl.symm)
    rwa [hcs, List.take_of_length_le (by simp)] at this
  refine (Put_row _ _ r a k v bs hRA hk _ zs.length zs.length zs hrd (fun p hp => ?_) hz hm0 hm).mono ?_
  · cases hp
    intro hx
    rcases List.mem_cons.1 hx with e | hx
    · exact absurd (show W0.heap.size = r from e) (Nat.ne_of_gt hR.blk.lt)
    · exact absurd (own_mem hR.own hx).2 (Nat.lt_irrefl _)
  · rintro e w' ⟨rfl, h1, h2⟩
    exact ⟨rfl, h1, hka.trans h2 (fun x hx => .inr (hRA.fresh x hx))⟩

theorem laid_more (N : Nat) (H ns : List UInt8) (h : H.length + ns.length ≤ N) : laid (laid (List.replicate N 0) 0 H) H.length ns = laid (List.replicate N 0) 0 (H ++ ns) := by
  have := laid_laid (List.replicate N (0 : UInt8)) 0 H ns (by simp; omega)
  rwa [Nat.zero_add] at this
theorem length_rep (N : Nat) (H : List UInt8) (h : H.length ≤ N) : (laid (List.replicate N (0 : UInt8)) 0 H).length = N := by
  rw [length_laid _ _ _ (by simp; omega)]; simp

theorem Put_acc {w1 W0 : World} {r k N : Nat} {v : Value} {H : List UInt8} (hK : Keep [] w1 W0) (hR : RowAt W0 w1.heap.size r v (laid (List.replicate N 0) 0 H) H.length) (hk : k = 1 ∨ k = 2 ∨ k = 4) (zs : List Nat) (hz : ∀ z ∈ zs, z < 256 ^ k) (hm0 : 0 < zs.length) (hm : H.length + k * zs.length ≤ N)
    (cs : Array Value) (hcs : cs.toList = nats zs) (m : Nat) (hml : m = zs.length) :
    Calls Try.prog 54 #[.pointer (some ⟨r, 0, none⟩), .int .i64 (k : Nat), .slice (some ⟨W0.heap.size, 0, none⟩) m m] (W0.alloc (.cells cs 3)) fun e w' => e = .returned (.bool true) ∧
      RowAt w' w1.heap.size r v (laid (List.replicate N 0) 0 (H ++ zs.flatMap (le k))) (H ++ zs.flatMap (le k)).length ∧ Keep [] w1 w' := by
  refine (Put_new hK hR hk zs hz hm0 (by rw [length_rep _ _ (by omega)]; exact hm) cs hcs m hml).mono ?_
  rintro e w' ⟨rfl, h1, h2⟩
  refine ⟨rfl, ?_, h2⟩
  rw [laid_more _ _ _ (by rw [flat_le_length]; exact hm), hml] at h1
  rw [List.length_append, flat_le_length]
  exact h1

theorem Lay_acc {w1 W0 : World} {r N : Nat} {v : Value} {H : List UInt8} (hK : Keep [] w1 W0) (hR : RowAt W0 w1.heap.size r v (laid (List.replicate N 0) 0 H) H.length) (S : Option Addr) (m sc : Nat) (ys : List UInt8) (hr : Rd W0 S m (bys ys)) (hm : H.length + m ≤ N) :
    Calls Try.prog 55 #[.pointer (some ⟨r, 0, none⟩), .slice S m sc] W0 fun e w' => e = .returned (.bool true) ∧
      RowAt w' w1.heap.size r v (laid (List.replicate N 0) 0 (H ++ ys)) (H ++ ys).length ∧ Keep [] w1 w' := by
  have hl : ys.length = m := by simpa using hr.1
  refine (Lay_row _ _ r _ v _ hR S m sc ys hr (by rw [length_rep _ _ (by omega)]; exact hm)).mono ?_
  rintro e w' ⟨rfl, h1, h2⟩
  refine ⟨rfl, ?_, hK.trans h2 (fun x hx => .inr (hR.fresh x hx))⟩
  rw [laid_more _ _ _ (by omega)] at h1
  rw [List.length_append, hl]
  exact h1

theorem Encode_not (k v s b c e d : Int) (A : Option Addr) (n m : Nat) (xs : List UInt8) (w : World) (ha : Rd w A n (bys xs)) (hno : ¬ FrMay k v s b c e d xs) :
    Calls Try.prog 36 #[frv k v s b c e d (.slice A n m)] w fun r w' => r = .returned (.tuple #[.slice none 0 0, .int .i64 1]) ∧ Keep [] w w' := by
  have hT := fun W (hk : Keep [] w W) => May_any k v s b c e d A n m xs W (ha.keep hk)
  rw [decide_eq_false hno] at hT
  unfold frv at hT ⊢
  go_enter Try.func36, Try.ntmps36
  go_wp2_with (refine (hT _ (by exact (Keep.refl _ _).alloc _)).mono ?_; clear hT; rintro r w1 ⟨rfl, hk1⟩)
  go_ret2
  exact ⟨rfl, ((Keep.refl _ _).alloc _).trans0 hk1⟩

set_option maxHeartbeats 4000000 in
set_option maxRecDepth 20000 in
theorem Encode_may (k v s b c e d : Nat) (A : Option Addr) (n m : Nat) (xs : List UInt8) (w : World) (ha : Rd w A n (bys xs)) (hmay : FrMay k v s b c e d xs) :
    Calls Try.prog 36 #[frv k v s b c e d (.slice A n m)] w fun r w' => ∃ u, r = .returned (.tuple #[u, .int .i64 0]) ∧ w'.ownsRow w.heap.size 5 1 u (25 + n) (bys (frBytes k v s b c e d xs)) ∧ Keep [] w w' := by
  have hT := fun W (hk : Keep [] w W) => May_any k v s b c e d A n m xs W (ha.keep hk)
  rw [decide_eq_true hmay] at hT
  unfold frv at hT ⊢
  obtain ⟨b1, b2, b3, b4, b5, b6, b7, b8⟩ := hmay.bounds
  have hl : xs.length = n := by simpa using ha.1
  rw [hl] at b8
  have hbl := Blk.new w 54 #[.int .i64 k, .int .i64 v, .int .i64 s, .int .i64 b, .int .i64 c, .int .i64 e, .int .i64 d, .slice A n m]
  have HL := hide hl
  clear hl
  go_enter Try.func36, Try.ntmps36
  go_wp2_with (
    (refine (hT _ (by exact (Keep.refl _ _).alloc _)).mono ?_)
    rintro r w1 ⟨rfl, hk1⟩
    clear hT
    have hB1 := hbl.keep0 hk1
    obtain ⟨c0, c1, c2, c3, c4, c5, c6, c7⟩ := frame_cells hB1
    have hlt := hB1.lt)
  have hN := New_any (25 + n) (by omega) w1
  have h25 : ((25 + n : Nat) : Int) = 21 + (n : Nat) + 4 := by omega
  rw [h25] at hN
  clear h25
  go_wp2_with (
    (refine hN.mono ?_)
    rintro r w2 ⟨g, u, rfl, hR0, hK⟩
    clear hN
    have hB2 := hB1.keep0 hK
    clear c0 c1 c2 c3 c4 c5 c6 c7
    obtain ⟨c0, c1, c2, c3, c4, c5, c6, c7⟩ := frame_cells hB2
    have hlt2 := hB2.lt)
  have hR : RowAt w2 w1.heap.size g u (laid (List.replicate (25 + n) 0) 0 []) ([] : List UInt8).length := by rw [laid_nil]; exact hR0
  clear hR0
  have hP := Put_acc (k := 1) hK hR (by omega) [75, 70, k] (by simp; omega) (by simp) (by simp [flat_le_length] <;> omega) #[.int .i64 75, .int .i64 70, .int .i64 k] rfl 3 rfl
  go_wp2_with (
    (refine hP.mono ?_)
    clear hP
    rintro r w3 ⟨rfl, hR3, hK3⟩
    clear hR hK hB2 c0 c1 c2 c3 c4 c5 c6 c7 hlt2
    have hB2 := hB1.keep0 hK3
    obtain ⟨c0, c1, c2, c3, c4, c5, c6, c7⟩ := frame_cells hB2
    have hlt2 := hB2.lt
    have hR := hR3
    have hK := hK3
    clear hR3 hK3)
  have hP := Put_acc (k := 4) hK hR (by omega) [v, s] (by simp; omega) (by simp) (by simp [flat_le_length] <;> omega) #[.int .i64 v, .int .i64 s] rfl 2 rfl
  go_wp2_with (
    (refine hP.mono ?_)
    clear hP
    rintro r w3 ⟨rfl, hR3, hK3⟩
    clear hR hK hB2 c0 c1 c2 c3 c4 c5 c6 c7 hlt2
    have hB2 := hB1.keep0 hK3
    obtain ⟨c0, c1, c2, c3, c4, c5, c6, c7⟩ := frame_cells hB2
    have hlt2 := hB2.lt
    have hR := hR3
    have hK := hK3
    clear hR3 hK3)
  have hP := Put_acc (k := 1) hK hR (by omega) [b, c] (by simp; omega) (by simp) (by simp [flat_le_length] <;> omega) #[.int .i64 b, .int .i64 c] rfl 2 rfl
  go_wp2_with (
    (refine hP.mono ?_)
    clear hP
    rintro r w3 ⟨rfl, hR3, hK3⟩
    clear hR hK hB2 c0 c1 c2 c3 c4 c5 c6 c7 hlt2
    have hB2 := hB1.keep0 hK3
    obtain ⟨c0, c1, c2, c3, c4, c5, c6, c7⟩ := frame_cells hB2
    have hlt2 := hB2.lt
    have hR := hR3
    have hK := hK3
    clear hR3 hK3)
  have hP := Put_acc (k := 4) hK hR (by omega) [e, d] (by simp; omega) (by simp) (by simp [flat_le_length] <;> omega) #[.int .i64 e, .int .i64 d] rfl 2 rfl
  go_wp2_with (
    (refine hP.mono ?_)
    clear hP
    rintro r w3 ⟨rfl, hR3, hK3⟩
    clear hR hK hB2 c0 c1 c2 c3 c4 c5 c6 c7 hlt2
    have hB2 := hB1.keep0 hK3
    obtain ⟨c0, c1, c2, c3, c4, c5, c6, c7⟩ := frame_cells hB2
    have hlt2 := hB2.lt
    have hR := hR3
    have hK := hK3
    clear hR3 hK3)
  have hL := Lay_acc hK hR A n m xs ((ha.keep (((Keep.refl _ _).alloc _).trans0 hk1)).keep hK) (by simp [flat_le_length] <;> omega)
  go_wp2_with (
    (refine hL.mono ?_)
    clear hL
    rintro r w3 ⟨rfl, hR3, hK3⟩
    clear hR hK hB2 c0 c1 c2 c3 c4 c5 c6 c7 hlt2
    have hBy := Bytes_row w3 _ _ _ _ _ hR3)
  have hbody : (((([] ++ [75, 70, k].flatMap (le 1)) ++ [v, s].flatMap (le 4)) ++ [b, c].flatMap (le 1)) ++ [e, d].flatMap (le 4)) ++ xs = frBody k v s b c e d xs := rfl
  rw [hbody, length_rep _ _ (by rw [length_frBody]; have := unhide HL; omega)] at hBy
  obtain ⟨Bd, hBd⟩ : ∃ Bd, Bd = frBody k v s b c e d xs := ⟨_, rfl⟩
  have hBl : Bd.length = 21 + n := by rw [hBd, length_frBody, unhide HL]
  rw [← hBd] at hBy
  have HBD := hide hBd
  clear hBd hbody
  go_wp2_with (
    (refine hBy.mono ?_)
    clear hBy
    rintro r w4 ⟨u4, rfl, hu4, hk4⟩
    have hSe := Seal_any _ u4 (laid (List.replicate (25 + n) 0) 0 Bd) w4 (by rw [length_rep _ _ (by omega)]; exact hu4) (by rw [length_rep _ _ (by omega)]; omega) (by rw [length_rep _ _ (by omega)]; omega))
  rw [length_rep _ _ (by omega)] at hSe
  have h21 : 25 + n - 4 = Bd.length := by omega
  rw [h21, laid_more _ _ _ (by rw [length_le]; omega)] at hSe
  have htk : (laid (List.replicate (25 + n) 0) 0 Bd).take Bd.length = Bd := by unfold laid; simp
  rw [htk, laid_all _ _ (by simp; omega), unhide HBD] at hSe
  clear htk h21 hBl
  go_wp2_with (
    (refine hSe.mono ?_)
    clear hSe
    rintro r w5 ⟨rfl, hu5, hk5⟩)
  go_ret2
  have hkA : Keep [] w w3 := (((Keep.refl _ _).alloc _).trans0 hk1).trans0 hK3
  refine ⟨u4, rfl, own_base hu5 hkA.size, (hkA.trans0 hk4).trans hk5 (fun x hx => .inr ?_)⟩
  exact Nat.le_trans hkA.size (own_mem hu4 hx).1
end Go.Proofs.Ytplfijhianmohaa
