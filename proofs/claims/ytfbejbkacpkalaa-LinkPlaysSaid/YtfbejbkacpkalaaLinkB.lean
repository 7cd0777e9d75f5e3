/-
  Rows of bytes beside a link: what the laws hold while they send, take and double.
-/
import Derived.Test.YtfbejbkacpkalaaLinkO
import Derived.Test.YtfbejbkacpkalaaLinkAll2
namespace Go.Proofs.Ytfbejbkacpkalaa
open Go.RowKit

theorem Send_grow (w0 w : World) (b : Nat) (v : Value) (ls : List (Value × List UInt8)) (h : Lnk w0 w b v ls) (A : Option Addr) (n c : Nat) (fs : List (Value × List UInt8)) (hf : Rws w A n fs)
    (hA : ∀ a, A = some a → a.block ∉ b :: v.ownBlock.toList) (hfs : ∀ p ∈ fs, ∀ g ∈ p.1.ownBlock.toList, g ∉ b :: v.ownBlock.toList) (hn : n ≤ 9223372036854775807) :
    Calls Try.prog 10 #[.pointer (some ⟨b, 0, none⟩), .slice A n c] w fun e w' => ∃ v' ls', e = .returned (.int .i64 (ls'.length : Nat)) ∧ Lnk w0 w' b v' ls' ∧
      ls'.map (·.2) = sendM (ls.map (·.2)) (fs.map (·.2)) ∧ Keep (b :: v.ownBlock.toList) w w' ∧ Grow w (Lk.fp b v ls) (Lk.fp b v' ls') := by
  refine (Send_any w b v ls h.lk A n c fs hf hA hfs hn).mono ?_
  rintro e w' ⟨v', ls', rfl, hL, hm, hk, hg⟩
  refine ⟨v', ls', rfl, ⟨hL, fun x hx => ?_, h.keep.trans hk (fun x hx => .inr (h.bv_new x hx))⟩, hm, hk, hg⟩
  rcases hg x hx with h1 | h1
  · exact h.new x h1
  · exact Nat.le_trans h.keep.size h1

/-- Rows of bytes, each in a row of its own, and their headers in another, all at or beyond B and none in F. -/
structure Hold (w : World) (B : Nat) (F : List Nat) (v : Value) (fs : List (Value × List UInt8)) : Prop where
  row : w.ownsRow B 28 1 v fs.length (fs.map (·.1))
  own : ∀ p ∈ fs, w.ownsRow B 5 1 p.1 p.2.length (bys p.2)
  small : ∀ p ∈ fs, p.2.length ≤ 140737488355328
  off : ∀ g ∈ v.ownBlock.toList, g ∉ F
  offs : ∀ p ∈ fs, ∀ g ∈ p.1.ownBlock.toList, g ∉ F
namespace Hold
variable {w w' : World} {B : Nat} {F F' : List Nat} {v : Value} {fs : List (Value × List UInt8)}
theorem keep0 (h : Hold w B F v fs) (hk : Keep [] w w') : Hold w' B F v fs := ⟨own_keep0 h.row hk, fun p hp => own_keep0 (h.own p hp) hk, h.small, h.off, h.offs⟩
/-- blocks of F turn; F grows by new ones -/
theorem turn (h : Hold w B F v fs) {l : List Nat} (hk : Keep l w w') (hl : ∀ x ∈ l, x ∈ F) (hg : Grow w F F') : Hold w' B F' v fs := by
  have hoff : ∀ {e : TypeId} {u : Value} {n : Nat} {xs : List Value}, w.ownsRow B e 1 u n xs → (∀ g ∈ u.ownBlock.toList, g ∉ F) → ∀ g ∈ u.ownBlock.toList, g ∉ F' := by
    intro e u n xs hu ho g hg' hm
    rcases hg g hm with h1 | h1
    · exact ho g hg' h1
    · have := (own_mem hu hg').2; omega
  exact ⟨own_keep h.row hk (fun g hg' hm => h.off g (by simpa using hg') (hl g hm)), fun p hp => own_keep (h.own p hp) hk (fun g hg' hm => h.offs p hp g (by simpa using hg') (hl g hm)), h.small, hoff h.row h.off, fun p hp => hoff (h.own p hp) (h.offs p hp)⟩
theorem sub (h : Hold w B F v fs) (hg : ∀ x ∈ F', x ∈ F) : Hold w B F' v fs := ⟨h.row, h.own, h.small, fun g hx hm => h.off g hx (hg g hm), fun p hp g hx hm => h.offs p hp g hx (hg g hm)⟩
theorem rws (h : Hold w B F v fs) {A : Option Addr} {c : Nat} (hv : v = .slice A fs.length c) : Rws w A fs.length fs :=
  ⟨Rd.of_own (hv ▸ h.row), fun p hp => Bts.of_own (h.own p hp) (h.small p hp)⟩
theorem nil (w : World) (B : Nat) (F : List Nat) : Hold w B F (.slice none 0 0) [] := ⟨World.ownsRow_nil _ _ _ _, by simp, by simp, by simp [Value.ownBlock], by simp⟩
theorem off_b {b : Nat} {u : Value} {ls : List (Value × List UInt8)} (h : Hold w B (Lk.fp b u ls) v fs) : ∀ g ∈ v.ownBlock.toList, g ∉ b :: u.ownBlock.toList := fun g hg hm => h.off g hg (by
  simp only [Lk.fp, List.mem_cons, List.mem_append] at hm ⊢; rcases hm with h | h <;> simp [h])
theorem offs_b {b : Nat} {u : Value} {ls : List (Value × List UInt8)} (h : Hold w B (Lk.fp b u ls) v fs) : ∀ p ∈ fs, ∀ g ∈ p.1.ownBlock.toList, g ∉ b :: u.ownBlock.toList := fun p hp g hg hm => h.offs p hp g hg (by
  simp only [Lk.fp, List.mem_cons, List.mem_append] at hm ⊢; rcases hm with h | h <;> simp [h])
/-- one row more: made in w1, its header laid in a block of its own, appended -/
theorem push {w1 w2 : World} {v' u : Value} {bs : List UInt8} {o : Obj} (h : Hold w B F v fs) (hF : ∀ x ∈ F, x < B) (hB : B ≤ w.heap.size) (hk1 : Keep [] w w1)
    (hu : w1.ownsRow w.heap.size 5 1 u bs.length (bys bs)) (hs : bs.length ≤ 140737488355328) (hk2 : Keep v.ownBlock.toList (w1.alloc o) w2)
    (hv : w2.ownsRow B 28 1 v' (fs.length + 1) (fs.map (·.1) ++ [u])) : Hold w2 B F v' (fs ++ [(u, bs)]) ∧ Keep [] w w1 := by
  have hty : ∀ {b2 m : Nat} {u : Value} {xs : List Value}, w.ownsRow b2 5 1 u m xs → ∀ g, u.ownBlock = some g → g ∉ v.ownBlock.toList := fun hu g hg hm => own_ne hu h.row (by decide) hg (by simpa using hm)
  have hu2 : w2.ownsRow w.heap.size 5 1 u bs.length (bys bs) := own_keep (own_alloc hu o) hk2 (fun g hg hm => by
    have h1 := (own_mem hu (g := g) (by simp [hg])).1
    have h2 := (own_mem h.row hm).2
    omega)
  refine ⟨⟨by simpa using hv, fun p hp => ?_, fun p hp => ?_, fun g hg hm => ?_, fun p hp g hg hm => ?_⟩, hk1⟩
  · rcases List.mem_append.1 hp with hp | hp
    · exact own_keep (own_keep0 (h.own p hp) (hk1.alloc o)) hk2 (hty (h.own p hp))
    · obtain rfl := List.mem_singleton.1 hp
      exact own_base hu2 hB
  · rcases List.mem_append.1 hp with hp | hp
    · exact h.small p hp
    · obtain rfl := List.mem_singleton.1 hp
      exact hs
  · have := (own_mem hv hg).1; have := hF g hm; omega
  · have := hF g hm
    rcases List.mem_append.1 hp with hp | hp
    · have := (own_mem (h.own p hp) hg).1; omega
    · obtain rfl := List.mem_singleton.1 hp
      have := (own_mem hu2 hg).1; omega
end Hold

theorem Double_full (w : World) (b : Nat) (v : Value) (ls : List (Value × List UInt8)) (h : Lk w b v ls) (i : Int) (hi : ls.length = 64) :
    Calls Try.prog 16 #[.pointer (some ⟨b, 0, none⟩), .int .i64 i] w fun e w' => e = .returned (.bool false) ∧ w = w' := by
  have hc := h.blk.cell 0
  obtain ⟨A, c, rfl, _⟩ := own_form h.row
  rw [hi] at hc
  go_enter Try.func16, Try.ntmps16
  by_cases hh : 0 ≤ i ∧ i < ls.length
  · have hT := has_any _ _ _ _ h i
    rw [decide_eq_true hh] at hT
    go_wp2_with (refine hT.mono ?_; clear hT; rintro e w' ⟨rfl, rfl⟩)
    go_ret
    exact ⟨rfl, rfl⟩
  · have hT := has_any _ _ _ _ h i
    rw [decide_eq_false hh] at hT
    go_wp2_with (refine hT.mono ?_; clear hT; rintro e w' ⟨rfl, rfl⟩)
    go_ret
    exact ⟨rfl, rfl⟩

theorem Take_sub (w0 w : World) (b : Nat) (v : Value) (ls : List (Value × List UInt8)) (h : Lnk w0 w b v ls) (i : Int) (k : Nat) (u : Value) (bs : List UInt8) (hi : i = (k : Nat)) (hk : k < ls.length) (hu : ls[k] = (u, bs)) :
    Calls Try.prog 12 #[.pointer (some ⟨b, 0, none⟩), .int .i64 i] w fun e w' => ∃ v', e = .returned (.tuple #[u, .bool true]) ∧ Lnk w0 w' b v' (ls.eraseIdx k) ∧
      Keep (b :: v.ownBlock.toList) w w' ∧ w'.ownsRow 0 5 1 u bs.length (bys bs) ∧ ∀ x ∈ Lk.fp b v' (ls.eraseIdx k), x ∈ Lk.fp b v ls := by
  refine (Take_own w0 w b v ls h i k u bs hi hk hu).mono ?_
  rintro e w' ⟨v', rfl, hL, hv, hkp, ho⟩
  refine ⟨v', rfl, hL, hkp, ho, fun x hx => ?_⟩
  simp only [Lk.fp, List.mem_cons, List.mem_append, hv] at hx ⊢
  rcases hx with h1 | h1 | h1
  · exact .inl h1
  · exact .inr (.inl h1)
  · exact .inr (.inr (((List.eraseIdx_sublist ls k).filterMap _).subset h1))

theorem fp_bv {b : Nat} {v : Value} {ls : List (Value × List UInt8)} : ∀ x ∈ b :: v.ownBlock.toList, x ∈ Lk.fp b v ls := fun x hx => by
  simp only [Lk.fp, List.mem_cons, List.mem_append] at hx ⊢; rcases hx with h | h <;> simp [h]
theorem Grow.of_sub {w : World} {l l' : List Nat} (h : ∀ x ∈ l', x ∈ l) : Grow w l l' := fun x hx => .inl (h x hx)
theorem Rws.take {w : World} {A : Option Addr} {n : Nat} {ls : List (Value × List UInt8)} (h : Rws w A n ls) {m : Nat} (hm : m ≤ n) : Rws w A m (ls.take m) :=
  ⟨by rw [List.map_take]; exact h.1.take hm, fun p hp => h.2 p (List.mem_of_mem_take hp)⟩
theorem Hold.cell {w : World} {B : Nat} {F : List Nat} {A : Option Addr} {n c : Nat} {fs : List (Value × List UInt8)} (h : Hold w B F (.slice A n c) fs) {i : Nat} (hi : i < fs.length) :
    ∃ g, A = some ⟨g, 0, none⟩ ∧ w.cell? ⟨g, i, none⟩ = some fs[i].1 ∧ Bts w fs[i].1 fs[i].2 := by
  have hm : fs[i] ∈ fs := List.getElem_mem _
  rcases h.row.2 with ⟨_, h0⟩ | ⟨g, cap, cur, hv, _, hg, hn, _, hs, ht⟩
  · omega
  · injection hv with h1
    refine ⟨g, h1, ?_, Bts.of_own (h.own _ hm) (h.small _ hm)⟩
    rw [Blk.cell (t := 28) hg]
    have h2 : (cur.toList.take (fs.length * 1))[i]? = some fs[i].1 := by rw [ht]; simp [hi]
    rw [List.getElem?_take_of_lt (by omega)] at h2
    simpa using h2

theorem Send_full (w0 w : World) (b : Nat) (v : Value) (ls : List (Value × List UInt8)) (h : Lnk w0 w b v ls) (x : UInt8) (a : Int) (ha : a = x.toNat) (hm : ls.length = 64) :
    Calls Try.prog 10 #[.pointer (some ⟨b, 0, none⟩), .slice (some ⟨w.heap.size + 1, 0, none⟩) 1 1]
      ((w.alloc (.cells #[.int .u8 a] 5)).alloc (.cells #[.slice (some ⟨w.heap.size, 0, none⟩) 1 1] 28))
      fun e w' => ∃ v' ls', e = .returned (.int .i64 64) ∧ Lnk w0 w' b v' ls' ∧ ls'.length = 64 ∧ ls'.map (·.2) = ls.map (·.2) ∧ Keep (b :: v.ownBlock.toList) w w' ∧ Grow w (Lk.fp b v ls) (Lk.fp b v' ls') := by
  have hk : Keep [] w ((w.alloc (.cells #[.int .u8 a] 5)).alloc (.cells #[.slice (some ⟨w.heap.size, 0, none⟩) 1 1] 28)) := ((Keep.refl _ _).alloc _).alloc _
  have hlt := h.bv_lt
  refine (Send_grow w0 _ b _ _ (h.keep0 hk) _ 1 1 _ (rws_new1 w x a ha) ?_ ?_ (by omega)).mono ?_
  · intro p e; cases e; intro hm; have := hlt _ hm; simp at this; omega
  · intro p hp g hg hm
    obtain rfl := by simpa using hp
    have := hlt _ hm
    simp [Value.ownBlock] at hg
    omega
  · rintro e w' ⟨v', ls', rfl, hL, hmap, hkp, hg⟩
    have hmap' : ls'.map (·.2) = ls.map (·.2) := by
      rw [hmap]
      unfold sendM
      rw [List.take_append_of_le_length (by simp; omega), List.take_of_length_le (by simp; omega)]
    have hl : ls'.length = 64 := by
      have := congrArg List.length hmap'
      simpa [hm] using this
    refine ⟨v', ls', by rw [hl]; rfl, hL, hl, hmap', (hk.mono (m := b :: v.ownBlock.toList) (by simp)).trans hkp (fun x hx => .inl hx), fun x hx => ?_⟩
    rcases hg x hx with h1 | h1
    · exact .inl h1
    · exact .inr (Nat.le_trans hk.size h1)

theorem Blocks_k (A B : Option Addr) (n m c d : Nat) (xs ys : List (Value × List UInt8)) (w : World) (ha : Rws w A n xs) (hb : Rws w B m ys) (hn : n ≤ 9223372036854775807) (hm : m ≤ 9223372036854775807) (he : xs.map (·.2) = ys.map (·.2)) :
    Calls Try.prog 15 #[.slice A n c, .slice B m d] w fun e w' => e = .returned (.bool true) ∧ Keep [] w w' := by
  refine (Blocks_any A B n m c d xs ys w ha hb hn hm).mono ?_
  rintro e w' ⟨rfl, k, rfl⟩
  exact ⟨by rw [decide_eq_true he], Keep.ofDrewN k⟩
end Go.Proofs.Ytfbejbkacpkalaa
