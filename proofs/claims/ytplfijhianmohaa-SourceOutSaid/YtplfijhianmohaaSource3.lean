/-
  Contracts of source.Source: Write, Trim, Mark, Hello; keelsonalike.Fill.
-/
import Derived.Test.YtplfijhianmohaaSource2
namespace Go.Proofs.Ytplfijhianmohaa
open Go.RowKit

theorem Write_of {Post : Ending → World → Prop} (s : Nat) (b : Int) (A : Option Addr) (n m : Nat) (w : World)
    (h : Calls Try.prog 34 #[.pointer (some ⟨s, 0, none⟩), .agg #[.int .i64 1, .int .i64 b, .int .i64 0, .int .i64 0, .slice A n m]] w Post) (hp : ∀ e w', Post e w' → ∃ x, e = .returned (.int .i64 x)) :
    Calls Try.prog 20 #[.pointer (some ⟨s, 0, none⟩), .int .i64 b, .slice A n m] w Post := by
  go_enter Try.func20, Try.ntmps20
  go_wp2_with (refine h.mono ?_; rintro e w' hP; obtain ⟨x, rfl⟩ := hp _ _ hP)
  exact hP
theorem Trim_of {Post : Ending → World → Prop} (s : Nat) (b c : Int) (w : World)
    (h : Calls Try.prog 34 #[.pointer (some ⟨s, 0, none⟩), .agg #[.int .i64 2, .int .i64 b, .int .i64 c, .int .i64 0, .slice none 0 0]] w Post) (hp : ∀ e w', Post e w' → ∃ x, e = .returned (.int .i64 x)) :
    Calls Try.prog 18 #[.pointer (some ⟨s, 0, none⟩), .int .i64 b, .int .i64 c] w Post := by
  go_enter Try.func18, Try.ntmps18
  go_wp2_with (refine h.mono ?_; rintro e w' hP; obtain ⟨x, rfl⟩ := hp _ _ hP)
  exact hP

section
variable (w0 w : World) (s view size epoch seq acked done : Nat) (L : Value) (os : List (Value × POp)) (h : Src w0 w s view size epoch seq acked done L os)
include h
/-- told and kept: what became of the source -/
def Told (w0 w : World) (s view size epoch seq acked done : Nat) (L : Value) (os : List (Value × POp)) (o : POp) (r : Ending) (w' : World) : Prop :=
  ∃ L' u, r = .returned (.int .i64 0) ∧ Src w0 w' s view size epoch (seq + 1) acked done L' (os ++ [(u, o)]) ∧ Keep (s :: L.ownBlock.toList) w w' ∧ Grow w (s :: L.ownBlock.toList) (s :: L'.ownBlock.toList)

theorem Write_ok (b : Int) (A : Option Addr) (n m : Nat) (xs : List UInt8) (ha : Rd w A n (bys xs)) (hx : xs.length = 64) (hv : 1 ≤ view ∧ view ≤ 2147483647) (hb : 0 ≤ b ∧ b ≤ 63) (hroom : seq < 400 + done) (hseq : seq < 1000000) :
    Calls Try.prog 20 #[.pointer (some ⟨s, 0, none⟩), .int .i64 b, .slice A n m] w (Told w0 w s view size epoch seq acked done L os ⟨1, b, 0, 0, xs⟩) := by
  have hl : xs.length = n := by simpa using ha.1
  exact Write_of _ b A n m w (keep_ok w0 w s view size epoch seq acked done L os h 1 b 0 0 A n m xs ha (by omega) (by omega) ⟨by omega, .inl ⟨rfl, by omega, by omega, rfl, rfl, rfl, hx⟩⟩ hroom hseq) (fun e w' ⟨_, _, he, _⟩ => ⟨_, he⟩)
theorem Write_full (b : Int) (A : Option Addr) (n m : Nat) (xs : List UInt8) (ha : Rd w A n (bys xs)) (hx : xs.length = 64) (hv : 1 ≤ view ∧ view ≤ 2147483647) (hb : 0 ≤ b ∧ b ≤ 63) (hfull : 400 + done ≤ seq) :
    Calls Try.prog 20 #[.pointer (some ⟨s, 0, none⟩), .int .i64 b, .slice A n m] w fun r w' => r = .returned (.int .i64 6) ∧ Keep [] w w' := by
  have hl : xs.length = n := by simpa using ha.1
  have hfew := h.few
  exact Write_of _ b A n m w (keep_full w0 w s view size epoch seq acked done L os h 1 b 0 0 A n m xs ha (by omega) (by omega) ⟨by omega, .inl ⟨rfl, by omega, by omega, rfl, rfl, rfl, hx⟩⟩ hfull) (fun e w' ⟨he, _⟩ => ⟨_, he⟩)
theorem Write_arg (b : Int) (A : Option Addr) (n m : Nat) (xs : List UInt8) (ha : Rd w A n (bys xs)) (hn : n ≤ 1000000) (hno : xs.length ≠ 64 ∨ ¬ (0 ≤ b ∧ b ≤ 63)) :
    Calls Try.prog 20 #[.pointer (some ⟨s, 0, none⟩), .int .i64 b, .slice A n m] w fun r w' => r = .returned (.int .i64 1) ∧ Keep [] w w' :=
  Write_of _ b A n m w (keep_arg w0 w s view size epoch seq acked done L os h 1 b 0 0 A n m xs ha (by omega) (by rintro ⟨_, g | g | g | g | g⟩ <;> omega)) (fun e w' ⟨he, _⟩ => ⟨_, he⟩)
theorem Trim_ok (b c : Int) (hv : 1 ≤ view ∧ view ≤ 2147483647) (hb : 0 ≤ b ∧ b ≤ 63) (hc : 1 ≤ c ∧ c ≤ 64 - b) (hroom : seq < 400 + done) (hseq : seq < 1000000) :
    Calls Try.prog 18 #[.pointer (some ⟨s, 0, none⟩), .int .i64 b, .int .i64 c] w (Told w0 w s view size epoch seq acked done L os ⟨2, b, c, 0, []⟩) :=
  Trim_of _ b c w (keep_ok w0 w s view size epoch seq acked done L os h 2 b c 0 none 0 0 [] (Rd.nil _ _) (by omega) (by omega) ⟨by omega, .inr (.inl ⟨rfl, by omega, by omega, by omega, rfl, rfl, rfl⟩)⟩ hroom hseq) (fun e w' ⟨_, _, he, _⟩ => ⟨_, he⟩)
theorem Trim_full (b c : Int) (hv : 1 ≤ view ∧ view ≤ 2147483647) (hb : 0 ≤ b ∧ b ≤ 63) (hc : 1 ≤ c ∧ c ≤ 64 - b) (hfull : 400 + done ≤ seq) :
    Calls Try.prog 18 #[.pointer (some ⟨s, 0, none⟩), .int .i64 b, .int .i64 c] w fun r w' => r = .returned (.int .i64 6) ∧ Keep [] w w' :=
  have hfew := h.few
  Trim_of _ b c w (keep_full w0 w s view size epoch seq acked done L os h 2 b c 0 none 0 0 [] (Rd.nil _ _) (by omega) (by omega) ⟨by omega, .inr (.inl ⟨rfl, by omega, by omega, by omega, rfl, rfl, rfl⟩)⟩ hfull) (fun e w' ⟨he, _⟩ => ⟨_, he⟩)
theorem Trim_arg (b c : Int) (hno : ¬ ((0 ≤ b ∧ b ≤ 63) ∧ 1 ≤ c ∧ c ≤ 64 - b)) :
    Calls Try.prog 18 #[.pointer (some ⟨s, 0, none⟩), .int .i64 b, .int .i64 c] w fun r w' => r = .returned (.int .i64 1) ∧ Keep [] w w' :=
  Trim_of _ b c w (keep_arg w0 w s view size epoch seq acked done L os h 2 b c 0 none 0 0 [] (Rd.nil _ _) (by omega) (by rintro ⟨_, g | g | g | g | g⟩ <;> omega)) (fun e w' ⟨he, _⟩ => ⟨_, he⟩)

theorem Mark_ok (hv : 1 ≤ view ∧ view ≤ 2147483647) (he : epoch ≤ 1000000) (hroom : seq < 400 + done) (hseq : seq < 1000000) :
    Calls Try.prog 19 #[.pointer (some ⟨s, 0, none⟩)] w fun r w' => ∃ L' u, r = .returned (.int .i64 0) ∧ Src w0 w' s view size (epoch + 1) (seq + 1) acked done L' (os ++ [(u, ⟨3, 0, 0, ((epoch : Nat) : Int) + 1, []⟩)]) ∧
      Keep (s :: L.ownBlock.toList) w w' ∧ Grow w (s :: L.ownBlock.toList) (s :: L'.ownBlock.toList) := by
  have hE := Epoch_is w0 w s view size epoch seq acked done L os h
  have hK := keep_ok w0 w s view size epoch seq acked done L os h 3 0 0 ((epoch : Nat) + 1) none 0 0 [] (Rd.nil _ _) (by omega) (by omega) ⟨by omega, .inr (.inr (.inl ⟨rfl, by omega, rfl, rfl, by omega, rfl, rfl⟩))⟩ hroom hseq
  go_enter Try.func19, Try.ntmps19
  go_wp2_with (first
    | (refine hE.mono ?_; clear hE; rintro e w' ⟨rfl, rfl⟩)
    | (refine hK.mono ?_; clear hK; rintro e w1 ⟨L', u, rfl, hS, hk, hg⟩; obtain ⟨c0, c1, c2, c3, c4, c5, c6⟩ := src_cells hS.blk; have hf := hS.blk.frozen 2; have hsl := hS.lt))
  go_ret
  have hk2 : Keep [s] w1 (w1.setCell ⟨s, 2, none⟩ (.int .i64 ((epoch : Nat) + 1))) := (Keep.refl _ _).setCell (p := ⟨s, 2, none⟩) (.inl (by simp)) _
  have hb : Blk (w1.setCell ⟨s, 2, none⟩ (.int .i64 ((epoch : Nat) + 1))) s 64 #[.int .i64 view, .int .i64 size, .int .i64 ((epoch + 1 : Nat) : Int), .int .i64 ((seq + 1 : Nat) : Int), .int .i64 acked, .int .i64 done, L'] := by
    have := hS.blk.set 2 (.int .i64 ((epoch : Nat) + 1))
    simpa using this
  refine ⟨L', u, rfl, ⟨hb, own_set hS.row hS.not_mem _, fun p hp => own_set (hS.data p hp) (hS.data_s hp) _, hS.small, hS.new, hS.keep.trans hk2 (fun x hx => .inr (by simp at hx; subst hx; exact hS.new)), hS.len, hS.few⟩, hk.trans hk2 (fun x hx => .inl (by simp at hx; simp [hx])), hg⟩
theorem Mark_full (hv : 1 ≤ view ∧ view ≤ 2147483647) (he : epoch ≤ 1000000) (hfull : 400 + done ≤ seq) :
    Calls Try.prog 19 #[.pointer (some ⟨s, 0, none⟩)] w fun r w' => r = .returned (.int .i64 6) ∧ Keep [] w w' := by
  have hfew := h.few
  have hE := Epoch_is w0 w s view size epoch seq acked done L os h
  have hK := keep_full w0 w s view size epoch seq acked done L os h 3 0 0 ((epoch : Nat) + 1) none 0 0 [] (Rd.nil _ _) (by omega) (by omega) ⟨by omega, .inr (.inr (.inl ⟨rfl, by omega, rfl, rfl, by omega, rfl, rfl⟩))⟩ hfull
  go_enter Try.func19, Try.ntmps19
  go_wp2_with (first
    | (refine hE.mono ?_; clear hE; rintro e w' ⟨rfl, rfl⟩)
    | (refine hK.mono ?_; clear hK; rintro e w1 ⟨rfl, hk⟩))
  go_ret
  exact ⟨rfl, hk⟩
theorem Hello_is (hv : 1 ≤ view ∧ view ≤ 2147483647) :
    Calls Try.prog 25 #[.pointer (some ⟨s, 0, none⟩)] w fun r w' => ∃ u, r = .returned u ∧ w'.ownsRow w.heap.size 5 1 u 25 (bys (frBytes 9 view 0 0 0 0 0 [])) ∧ Keep [] w w' := by
  obtain ⟨c0, c1, c2, c3, c4, c5, c6⟩ := src_cells h.blk
  have hE := Encode_may 9 view 0 0 0 0 0 none 0 0 [] w (Rd.nil _ _) ⟨by omega, .inr (.inr (.inr (.inr ⟨rfl, rfl, rfl, rfl, rfl, rfl, rfl⟩)))⟩
  unfold frv at hE
  go_enter Try.func25, Try.ntmps25
  go_wp2_with (refine hE.mono ?_; clear hE; rintro e w1 ⟨u, rfl, hu, hk⟩)
  go_ret
  exact ⟨u, rfl, hu, hk⟩
end

/-- 64 bytes that count on -/
def fillUp (x : Int) (n : Nat) : List UInt8 := (List.range n).map fun k => UInt8.ofNat (((x % 256).toNat + k) % 256)
def fillOf (x : Int) : List UInt8 := fillUp x 64
theorem fillUp_succ (x : Int) (n : Nat) : fillUp x (n + 1) = fillUp x n ++ [UInt8.ofNat (((x % 256).toNat + n) % 256)] := by simp [fillUp, List.range_succ]
@[simp] theorem length_fillUp (x : Int) (n : Nat) : (fillUp x n).length = n := by simp [fillUp]
@[simp] theorem length_fillOf (x : Int) : (fillOf x).length = 64 := by simp [fillOf]

set_option maxHeartbeats 1000000 in
theorem Fill_any (x : Int) (w : World) : Calls Try.prog 21 #[.int .i64 x] w fun r w' => ∃ u, r = .returned u ∧ w'.ownsRow w.heap.size 5 1 u 64 (bys (fillOf x)) ∧ Keep [] w w' := by
  have hmk : ∀ W : World, (Instr.makeSlice 34 (.int .i64 64) (.int .i64 64)).run Try.prog W = .ok (.slice (some ⟨W.heap.size, 0, none⟩) 64 64) (W.alloc (.cells (Array.replicate 64 (.int .u8 0)) 5)) := fun W => elem8.run_make .i64 .i64 64 64 (by omega) (by omega) (by omega) W
  have h0 : (w.alloc (.cells (Array.replicate 64 (.int .u8 0)) 5)).ownsRow w.heap.size 5 1 (.slice (some ⟨w.heap.size, 0, none⟩) 64 64) 64 (bys (laid (List.replicate 64 0) 0 (fillUp x 0))) :=
    own_full (Blk.new w 5 _) (Nat.le_refl _) (by omega) (by simp) (by simp [fillUp, bys, by8, laid])
  obtain ⟨y, hy, hy0, hy1⟩ : ∃ y : Nat, x % 256 = (y : Int) ∧ 0 ≤ y ∧ y < 256 := ⟨(x % 256).toNat, by omega, by omega, by omega⟩
  have HR := fun W => Round_any x 256 W (by omega) (by omega)
  rw [hy] at HR
  have HY := hide hy
  clear hy
  have hmk0 := hmk w
  go_enter Try.func21, Try.ntmps21
  go_wp2
  clear hmk hmk0
  go_loopw [4] (fun i wr => ∃ k : Nat, k ≤ 64 ∧ i = .int .i64 k ∧ wr.ownsRow w.heap.size 5 1 (.slice (some ⟨w.heap.size, 0, none⟩) 64 64) 64 (bys (laid (List.replicate 64 0) 0 (fillUp x k))) ∧ Keep [] w wr) (fun i _ => (64 - (intOf i)).toNat)
  case atStart => exact ⟨0, by omega, rfl, h0, (Keep.refl _ _).alloc _⟩
  case round =>
    obtain ⟨k, hk, rfl, hown, hkp⟩ := hrel
    by_cases hlt : k < 64
    · have hT := HR wr
      have HR2 := fun W => Round_any ((y : Nat) + (k : Nat)) 256 W (by omega) (by omega)
      have hll : (bys (laid (List.replicate 64 (0 : UInt8)) 0 (fillUp x k))).length = 64 := by rw [length_bys, length_laid _ _ _ (by simp; omega)]; simp
      have hcell : wr.cell? ⟨w.heap.size, k, none⟩ = some ((bys (laid (List.replicate 64 (0 : UInt8)) 0 (fillUp x k)))[k]'(by rw [hll]; exact hlt)) := own_cell hown (List.getElem?_eq_getElem _)
      have hfz := own_frozen hown k
      generalize (bys (laid (List.replicate 64 (0 : UInt8)) 0 (fillUp x k)))[k]'_ = u at hcell
      have HLL := hide hll
      clear hll
      go_wp2_with (first
        | (refine hT.mono ?_; clear hT; rintro e w' ⟨rfl, rfl⟩)
        | (refine (HR2 _).mono ?_; clear HR2; rintro e w' ⟨rfl, rfl⟩))
      go_roundw
      case rel =>
        refine ⟨k + 1, by omega, by go_num, ?_, hkp.setCell (p := ⟨w.heap.size, k, none⟩) (.inr (Nat.le_refl _)) _⟩
        rw [fillUp_succ]
        have h1 := own_lay hown (by simp; omega) (UInt8.ofNat (((x % 256).toNat + k) % 256)) k (by simp)
        have h2 : by8 (UInt8.ofNat (((x % 256).toNat + k) % 256)) = .int .u8 ((((y : Nat) : Int) + (k : Nat)) % 256) := by
          rw [unhide HY]
          unfold by8
          rw [UInt8.toNat_ofNat']
          congr 1
          omega
        rw [h2] at h1
        first | exact h1 | simpa using h1
      case measure => simp [intOf]; omega
    · obtain rfl : k = 64 := by omega
      go_wp2
      go_ret
      refine ⟨_, rfl, ?_, hkp⟩
      rw [laid_all _ _ (by simp)] at hown
      exact hown
end Go.Proofs.Ytplfijhianmohaa
