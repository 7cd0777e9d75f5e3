/-
  The law's 'awake'.
-/
import Derived.Test.YtfbejbkacpkalaaLinkT
import Derived.Test.YtfbejbkacpkalaaRef1
namespace Go.Proofs.Ytfbejbkacpkalaa
open Go.RowKit

theorem Lk.keep0 {w w' : World} {b : Nat} {v : Value} {ls : List (Value × List UInt8)} (h : Lk w b v ls) (hk : Keep [] w w') : Lk w' b v ls :=
  ⟨h.blk.keep0 hk, own_keep0 h.row hk, fun p hp => own_keep0 (h.own p hp) hk, h.small, h.nodup, h.few⟩

theorem Send_nil (w : World) (v : Value) : Calls Try.prog 10 #[.pointer none, v] w fun e w' => e = .returned (.int .i64 0) ∧ w = w' := by
  go_enter Try.func10, Try.ntmps10
  go_wp2
  go_ret
  exact ⟨rfl, rfl⟩

theorem Double_out (w : World) (b : Nat) (v : Value) (ls : List (Value × List UInt8)) (h : Lk w b v ls) (i : Int) (hi : ¬ (0 ≤ i ∧ i < ls.length)) :
    Calls Try.prog 16 #[.pointer (some ⟨b, 0, none⟩), .int .i64 i] w fun e w' => e = .returned (.bool false) ∧ w = w' := by
  go_enter Try.func16, Try.ntmps16
  have hh : decide (0 ≤ i ∧ i < ls.length) = false := by simpa using hi
  go_wp2_with (go_at_call 25; refine (has_any _ _ _ _ h _).mono ?_; rintro e w' ⟨rfl, rfl⟩; rw [hh])
  go_ret
  exact ⟨rfl, rfl⟩

theorem rd_new (w : World) (xs : List Value) (e : TypeId) : Rd (w.alloc (.cells xs.toArray e)) (some ⟨w.heap.size, 0, none⟩) xs.length xs := by
  have h := Rd.of_blk (n := xs.length) (Blk.new w e xs.toArray) (by simp)
  simpa using h

theorem bts_new (w : World) (bs : List UInt8) (hn : bs.length ≤ 140737488355328) : Bts (w.alloc (.cells (bys bs).toArray 5)) (.slice (some ⟨w.heap.size, 0, none⟩) bs.length bs.length) bs :=
  ⟨_, _, _, rfl, Nat.le_refl _, hn, by simpa using rd_new w (bys bs) 5⟩

theorem rws_new1 (w : World) (x : UInt8) (a : Int) (ha : a = x.toNat) : Rws ((w.alloc (.cells #[.int .u8 a] 5)).alloc (.cells #[.slice (some ⟨w.heap.size, 0, none⟩) 1 1] 28))
    (some ⟨w.heap.size + 1, 0, none⟩) 1 [(.slice (some ⟨w.heap.size, 0, none⟩) 1 1, [x])] := by
  subst ha
  refine ⟨by simpa using rd_new (w.alloc (.cells #[.int .u8 x.toNat] 5)) [.slice (some ⟨w.heap.size, 0, none⟩) 1 1] 28, ?_⟩
  intro p hp
  obtain rfl := by simpa using hp
  exact (bts_new w [x] (by simp)).keep ((Keep.refl _ _).alloc _)
theorem rws_new2 (w : World) (x y : UInt8) (a b : Int) (ha : a = x.toNat) (hb : b = y.toNat) : Rws (((w.alloc (.cells #[.int .u8 a] 5)).alloc (.cells #[.int .u8 b] 5)).alloc (.cells #[.slice (some ⟨w.heap.size, 0, none⟩) 1 1, .slice (some ⟨w.heap.size + 1, 0, none⟩) 1 1] 28))
    (some ⟨w.heap.size + 1 + 1, 0, none⟩) 2 [(.slice (some ⟨w.heap.size, 0, none⟩) 1 1, [x]), (.slice (some ⟨w.heap.size + 1, 0, none⟩) 1 1, [y])] := by
  subst ha hb
  refine ⟨by simpa using rd_new ((w.alloc (.cells #[.int .u8 x.toNat] 5)).alloc (.cells #[.int .u8 y.toNat] 5)) [.slice (some ⟨w.heap.size, 0, none⟩) 1 1, .slice (some ⟨w.heap.size + 1, 0, none⟩) 1 1] 28, ?_⟩
  intro p hp
  simp only [List.mem_cons, List.not_mem_nil, or_false] at hp
  rcases hp with rfl | rfl
  · exact (bts_new w [x] (by simp)).keep (((Keep.refl _ _).alloc _).alloc _)
  · have := (bts_new (w.alloc (.cells #[.int .u8 x.toNat] 5)) [y] (by simp)).keep ((Keep.refl _ _).alloc (.cells #[.slice (some ⟨w.heap.size, 0, none⟩) 1 1, .slice (some ⟨w.heap.size + 1, 0, none⟩) 1 1] 28))
    simpa [bys, by8] using this

theorem bts_new1 (w : World) (x : UInt8) (a : Int) (ha : a = x.toNat) : Bts (w.alloc (.cells #[.int .u8 a] 5)) (.slice (some ⟨w.heap.size, 0, none⟩) 1 1) [x] := by
  subst ha
  have := bts_new w [x] (by simp)
  simpa [bys, by8] using this

theorem Bytes_k (v u : Value) (xs ys : List UInt8) (w : World) (ha : Bts w v xs) (hb : Bts w u ys) :
    Calls Try.prog 17 #[v, u] w fun e w' => e = .returned (.bool (decide (xs = ys))) ∧ Keep [] w w' := by
  refine (Bytes_v v u xs ys w ha hb).mono ?_
  rintro e w' ⟨rfl, k, rfl⟩
  exact ⟨rfl, Keep.ofDrewN k⟩

theorem map_two {α : Type} {ls : List (Value × α)} {x y : α} (h : ls.map (·.2) = [x, y]) : ∃ u v, ls = [(u, x), (v, y)] := by
  obtain ⟨p, t, rfl, hp, ht⟩ := List.map_eq_cons_iff.1 h
  obtain ⟨q, t, rfl, hq, ht⟩ := List.map_eq_cons_iff.1 ht
  obtain rfl := List.map_eq_nil_iff.1 ht
  exact ⟨p.1, q.1, by rw [← hp, ← hq]⟩
theorem map_one {α : Type} {ls : List (Value × α)} {x : α} (h : ls.map (·.2) = [x]) : ∃ u, ls = [(u, x)] := by
  obtain ⟨p, t, rfl, hp, ht⟩ := List.map_eq_cons_iff.1 h
  obtain rfl := List.map_eq_nil_iff.1 ht
  exact ⟨p.1, by rw [← hp]⟩

/-- A link all of which is newer than w0. -/
structure Lnk (w0 w : World) (b : Nat) (v : Value) (ls : List (Value × List UInt8)) : Prop where
  lk : Lk w b v ls
  new : ∀ x ∈ Lk.fp b v ls, w0.heap.size ≤ x
  keep : Keep [] w0 w
theorem Lnk.keep0 {w0 w w' : World} {b : Nat} {v : Value} {ls : List (Value × List UInt8)} (h : Lnk w0 w b v ls) (hk : Keep [] w w') : Lnk w0 w' b v ls := ⟨h.lk.keep0 hk, h.new, h.keep.trans0 hk⟩
theorem Lnk.b_new {w0 w : World} {b : Nat} {v : Value} {ls : List (Value × List UInt8)} (h : Lnk w0 w b v ls) : w0.heap.size ≤ b := h.new _ (by simp [Lk.fp])
theorem Lnk.bv_new {w0 w : World} {b : Nat} {v : Value} {ls : List (Value × List UInt8)} (h : Lnk w0 w b v ls) : ∀ x ∈ b :: v.ownBlock.toList, w0.heap.size ≤ x := fun x hx => h.new x (by
  simp only [Lk.fp, List.mem_cons, List.mem_append] at hx ⊢; rcases hx with h | h <;> simp [h])

theorem New_own (w : World) : Calls Try.prog 9 #[] w fun e w' => ∃ b, e = .returned (.pointer (some ⟨b, 0, none⟩)) ∧ Lnk w w' b (.slice none 0 0) [] := by
  refine (New_any w).mono ?_
  rintro e w' ⟨b, rfl, hb, hL, hk⟩
  exact ⟨b, rfl, hL, by simpa [Lk.fp, Value.ownBlock] using hb, hk⟩

theorem Send_own (w0 w : World) (b : Nat) (v : Value) (ls : List (Value × List UInt8)) (h : Lnk w0 w b v ls) (A : Option Addr) (n c : Nat) (fs : List (Value × List UInt8)) (hf : Rws w A n fs)
    (hA : ∀ a, A = some a → a.block ∉ b :: v.ownBlock.toList) (hfs : ∀ p ∈ fs, ∀ g ∈ p.1.ownBlock.toList, g ∉ b :: v.ownBlock.toList) (hn : n ≤ 9223372036854775807) :
    Calls Try.prog 10 #[.pointer (some ⟨b, 0, none⟩), .slice A n c] w fun e w' => ∃ v' ls', e = .returned (.int .i64 (ls'.length : Nat)) ∧ Lnk w0 w' b v' ls' ∧
      ls'.map (·.2) = sendM (ls.map (·.2)) (fs.map (·.2)) ∧ Keep (b :: v.ownBlock.toList) w w' := by
  refine (Send_any w b v ls h.lk A n c fs hf hA hfs hn).mono ?_
  rintro e w' ⟨v', ls', rfl, hL, hm, hk, hg⟩
  refine ⟨v', ls', rfl, ⟨hL, fun x hx => ?_, h.keep.trans hk (fun x hx => .inr (h.bv_new x hx))⟩, hm, hk⟩
  rcases hg x hx with h1 | h1
  · exact h.new x h1
  · exact Nat.le_trans h.keep.size h1

theorem Take_own (w0 w : World) (b : Nat) (v : Value) (ls : List (Value × List UInt8)) (h : Lnk w0 w b v ls) (i : Int) (k : Nat) (u : Value) (bs : List UInt8) (hi : i = (k : Nat)) (hk : k < ls.length) (hu : ls[k] = (u, bs)) :
    Calls Try.prog 12 #[.pointer (some ⟨b, 0, none⟩), .int .i64 i] w fun e w' => ∃ v', e = .returned (.tuple #[u, .bool true]) ∧ Lnk w0 w' b v' (ls.eraseIdx k) ∧ v'.ownBlock = v.ownBlock ∧
      Keep (b :: v.ownBlock.toList) w w' ∧ w'.ownsRow 0 5 1 u bs.length (bys bs) := by
  subst hi
  refine (Take_in w b v ls h.lk k u bs hk hu).mono ?_
  rintro e w' ⟨v', rfl, hL, hv, hkp, ho⟩
  refine ⟨v', rfl, ⟨hL, fun x hx => h.new x ?_, h.keep.trans hkp (fun x hx => .inr (h.bv_new x hx))⟩, hv, hkp, ho⟩
  simp only [Lk.fp, List.mem_cons, List.mem_append, hv] at hx ⊢
  rcases hx with h1 | h1 | h1
  · exact .inl h1
  · exact .inr (.inl h1)
  · exact .inr (.inr (((List.eraseIdx_sublist ls k).filterMap _).subset h1))

/-- a row of bytes stays when a link changes -/
theorem Lk.row_stays {w w' : World} {b : Nat} {v u : Value} {ls : List (Value × List UInt8)} {xs : List Value} {n base : Nat} (h : Lk w b v ls) (ho : w.ownsRow base 5 1 u n xs) (hk : Keep (b :: v.ownBlock.toList) w w') : w'.ownsRow base 5 1 u n xs := by
  refine own_keep ho hk (fun x hx => ?_)
  simp only [List.mem_cons, not_or]
  refine ⟨?_, ?_⟩
  · rintro rfl; exact own_blk_ne ho h.blk (by decide) hx
  · intro hm; exact own_ne ho h.row (by decide) hx (by simpa using hm)

theorem Bts.one {w : World} {u : Value} {bs : List UInt8} (h : w.ownsRow 0 5 1 u bs.length (bys bs)) (hs : bs.length ≤ 140737488355328) : Bts w u bs := Bts.of_own h hs

theorem first_send (w w1 : World) (b : Nat) (hL1 : Lnk w w1 b (.slice none 0 0) []) :
    Calls Try.prog 10 #[.pointer (some ⟨b, 0, none⟩), .slice (some ⟨w1.heap.size + 1 + 1, 0, none⟩) 2 2] (((w1.alloc (.cells #[.int .u8 1] 5)).alloc (.cells #[.int .u8 2] 5)).alloc (.cells #[.slice (some ⟨w1.heap.size, 0, none⟩) 1 1, .slice (some ⟨w1.heap.size + 1, 0, none⟩) 1 1] 28))
      fun e w2 => ∃ v2 u1 u2, e = .returned (.int .i64 2) ∧ Lnk w w2 b v2 [(u1, [1]), (u2, [2])] := by
  have hkA : Keep [] w1 (((w1.alloc (.cells #[.int .u8 1] 5)).alloc (.cells #[.int .u8 2] 5)).alloc (.cells #[.slice (some ⟨w1.heap.size, 0, none⟩) 1 1, .slice (some ⟨w1.heap.size + 1, 0, none⟩) 1 1] 28)) := (((Keep.refl _ _).alloc _).alloc _).alloc _
  have hbl := hL1.lk.blk.lt
  refine (Send_own w _ b _ _ (hL1.keep0 hkA) _ 2 2 _ (rws_new2 w1 1 2 1 2 rfl rfl) ?_ ?_ (by omega)).mono ?_
  · intro a e; cases e; simp [Value.ownBlock]; omega
  · intro p hp g hg
    simp only [List.mem_cons, List.not_mem_nil, or_false] at hp
    rcases hp with rfl | rfl <;> simp [Value.ownBlock] at hg ⊢ <;> omega
  rintro e w2 ⟨v2, l2, rfl, hL2, hm2, hk2⟩
  obtain ⟨u1, u2, rfl⟩ := map_two (x := [1]) (y := [2]) hm2
  exact ⟨v2, u1, u2, rfl, hL2⟩

set_option maxHeartbeats 1000000 in
theorem awake_any (w : World) : Calls Try.prog 7 #[] w fun e w' => e = .returned (.bool true) ∧ Keep [] w w' := by
  go_enter Try.func7, Try.ntmps7
  go_wp2_with (first
    | (go_at_call 9; refine (New_own _).mono ?_; rintro e w1 ⟨b, rfl, hL1⟩)
    | (go_at_call 10; refine (first_send _ _ _ hL1).mono ?_; rintro e w2 ⟨v2, u1, u2, rfl, hL2⟩)
    )
  have hT := Take_own w w2 b v2 _ hL2 1 1 u2 [2] rfl (by simp) rfl
  go_wp2_with (refine hT.mono ?_; clear hT; rintro e w3 ⟨v3, rfl, hL3, hv3, hk3, ho3⟩)
  replace hL3 : Lnk w w3 b v3 [(u1, [1])] := hL3
  have hT := Take_own w w3 b v3 _ hL3 0 0 u1 [1] rfl (by simp) rfl
  go_wp2_with (refine hT.mono ?_; clear hT; rintro e w4 ⟨v4, rfl, hL4, hv4, hk4, ho4⟩)
  replace hL4 : Lnk w w4 b v4 [] := hL4
  have hT := Take_out w4 b v4 _ hL4.lk 0 (by simp)
  go_wp2_with (refine hT.mono ?_; clear hT; rintro e w5 ⟨rfl, rfl⟩)
  have hB2 : Bts w4 u2 [2] := .one (hL3.lk.row_stays ho3 hk4) (by simp)
  have hB1 : Bts w4 u1 [1] := .one ho4 (by simp)
  have hT := Bytes_k _ _ _ _ _ (hB2.keep ((Keep.refl _ _).alloc _)) (bts_new1 w4 2 2 rfl)
  go_wp2_with (refine hT.mono ?_; clear hT; rintro e w5 ⟨rfl, hk5⟩)
  replace hk5 : Keep [] w4 w5 := ((Keep.refl _ _).alloc _).trans0 hk5
  have hT := Bytes_k _ _ _ _ _ (hB1.keep (hk5.alloc _)) (bts_new1 w5 1 1 rfl)
  go_wp2_with (refine hT.mono ?_; clear hT; rintro e w6 ⟨rfl, hk6⟩)
  replace hk6 : Keep [] w4 w6 := (hk5.alloc _).trans0 hk6
  have hL6 := hL4.keep0 hk6
  have hT := Len_any w6 b _ _ hL6.lk
  go_wp2_with (refine hT.mono ?_; clear hT; rintro e w7 ⟨rfl, rfl⟩)
  have hT := Double_out w6 b _ _ hL6.lk 0 (by simp)
  go_wp2_with (refine hT.mono ?_; clear hT; rintro e w7 ⟨rfl, rfl⟩)
  go_wp2_with (refine (Send_nil _ _).mono ?_; rintro e w7 ⟨rfl, rfl⟩)
  go_wp2_with (refine (Len_nil _).mono ?_; rintro e w7 ⟨rfl, rfl⟩)
  go_ret
  exact ⟨rfl, (hL6.keep.alloc _).alloc _⟩
end Go.Proofs.Ytfbejbkacpkalaa
