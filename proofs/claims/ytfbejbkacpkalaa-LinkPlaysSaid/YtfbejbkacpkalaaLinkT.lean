/-
  Contract of link.Link's Take.
-/
import Derived.Test.YtfbejbkacpkalaaLinkP
import Derived.Test.YtfbejbkacpkalaaSlicesD
namespace Go.Proofs.Ytfbejbkacpkalaa
open Go.RowKit

theorem Take_out (w : World) (b : Nat) (v : Value) (ls : List (Value × List UInt8)) (h : Lk w b v ls) (i : Int) (hi : ¬ (0 ≤ i ∧ i < ls.length)) :
    Calls Try.prog 12 #[.pointer (some ⟨b, 0, none⟩), .int .i64 i] w fun e w' => e = .returned (.tuple #[.slice none 0 0, .bool false]) ∧ w = w' := by
  go_enter Try.func12, Try.ntmps12
  have hh : decide (0 ≤ i ∧ i < ls.length) = false := by simpa using hi
  go_wp2_with (go_at_call 25; refine (has_any _ _ _ _ h _).mono ?_; rintro e w' ⟨rfl, rfl⟩; rw [hh])
  go_ret2
  exact ⟨rfl, rfl⟩

theorem eraseIdx_map' {α β : Type} (f : α → β) (l : List α) (k : Nat) : (l.map f).eraseIdx k = (l.eraseIdx k).map f := by
  simp only [List.eraseIdx_eq_take_drop_succ, List.map_append, List.map_take, List.map_drop]

/-- The same row with the k-th frame taken away. -/
theorem Lk.taken {w w1 : World} {b g n c k : Nat} {ls : List (Value × List UInt8)} (h : Lk w b (.slice (some ⟨g, 0, none⟩) n c) ls) (hn : n = ls.length)
    (hd : Held g (n - 1) c ((ls.map (·.1)).eraseIdx k) w w1) (hc : n ≤ c) (hc63 : c ≤ 9223372036854775807) (hk : k < n) :
    Lk (w1.setCell ⟨b, 0, none⟩ (.slice (some ⟨g, 0, none⟩) (n - 1) c)) b (.slice (some ⟨g, 0, none⟩) (n - 1) c) (ls.eraseIdx k) ∧ Keep [b, g] w (w1.setCell ⟨b, 0, none⟩ (.slice (some ⟨g, 0, none⟩) (n - 1) c)) := by
  obtain ⟨cur, hg, hl, ht, hkp⟩ := hd
  have hbg : b ≠ g := fun e => h.row_ne (by simp [Value.ownBlock, e])
  have hle : (ls.eraseIdx k).length = n - 1 := by rw [List.length_eraseIdx]; split <;> omega
  refine ⟨⟨?_, ?_, ?_, ?_, ?_, ?_⟩, (hkp.mono (fun x hx => .inl (by simp at hx; simp [hx]))).setCell (.inl (by simp)) _⟩
  · have := (h.blk.keep hkp (by simpa using hbg)).set 0 (.slice (some ⟨g, 0, none⟩) (n - 1) c)
    simpa using this
  · rw [hle]
    refine own_of_blk (hg.far (Ne.symm hbg) _) (Nat.zero_le _) (by omega) hc63 (by simpa using hl) ?_
    simp only
    rw [ht]
    exact (eraseIdx_map' _ _ _)
  · intro p hp
    have hp' := List.mem_of_mem_eraseIdx hp
    exact own_set (own_keep (h.own p hp') hkp (fun x hx => by simp only [List.mem_singleton]; rintro rfl; exact h.own_not_v hp' (by simpa using hx) (by simp [Value.ownBlock]))) (h.own_not_b hp') _
  · exact fun p hp => h.small p (List.mem_of_mem_eraseIdx hp)
  · exact h.nodup.sublist ((List.eraseIdx_sublist ls k).filterMap _)
  · have := h.few; omega

set_option maxHeartbeats 1000000 in
theorem Take_in (w : World) (b : Nat) (v : Value) (ls : List (Value × List UInt8)) (h : Lk w b v ls) (k : Nat) (u : Value) (bs : List UInt8) (hk : k < ls.length) (hu : ls[k] = (u, bs)) :
    Calls Try.prog 12 #[.pointer (some ⟨b, 0, none⟩), .int .i64 (k : Nat)] w fun e w' => ∃ v', e = .returned (.tuple #[u, .bool true]) ∧ Lk w' b v' (ls.eraseIdx k) ∧ v'.ownBlock = v.ownBlock ∧
      Keep (b :: v.ownBlock.toList) w w' ∧ w'.ownsRow 0 5 1 u bs.length (bys bs) := by
  have hh : decide (0 ≤ ((k : Nat) : Int) ∧ ((k : Nat) : Int) < ls.length) = true := by simpa using hk
  obtain ⟨n, hn⟩ : ∃ n, n = ls.length := ⟨_, rfl⟩
  obtain ⟨g, c, cur, rfl, hg, hnc, hc63, hcl, hct⟩ : ∃ g c cur, v = .slice (some ⟨g, 0, none⟩) n c ∧ Blk w g 28 (Array.mk cur) ∧ n ≤ c ∧ c ≤ 9223372036854775807 ∧ cur.length = c ∧ cur.take n = ls.map (·.1) := by
    rcases h.row.2 with ⟨_, h0⟩ | ⟨g, c, cur, rfl, _, hg, hn', hc, hs, ht⟩
    · omega
    · rw [hn]
      exact ⟨g, c, cur.toList, rfl, hg, hn', hc, by simpa using hs, by simpa using ht⟩
  rw [← hn] at hk hh
  have hcb := h.blk.cell 0
  have hfb := h.blk.frozen 0
  have hbl := h.blk.lt
  have hbg : b ≠ g := fun e => h.row_ne (by simp [Value.ownBlock, e])
  have hck : w.cell? ⟨g, k, none⟩ = some u := by
    rw [hg.cell]
    have h1 : (cur.take n)[k]? = some u := by rw [hct]; simp [hn, hu, show k < ls.length by omega]
    rw [List.getElem?_take_of_lt hk] at h1
    simpa using h1
  have hone : ∀ x ∈ cur.take n, x.oneCell' = true := by
    intro x hx
    rw [hct] at hx
    obtain ⟨p, hp, rfl⟩ := List.mem_map.1 hx
    obtain ⟨A, c', e, _⟩ := own_form (h.own p hp)
    rw [e]; rfl
  have hul : (u, bs) ∈ ls := by rw [← hu]; exact List.getElem_mem _
  have HN := hide hn
  clear hn
  go_enter Try.func12, Try.ntmps12
  go_wp2_with (first
    | (go_at_call 25; refine (has_any _ _ _ _ h _).mono ?_; rintro e w' ⟨rfl, rfl⟩; rw [← unhide HN, hh])
    | (go_at_call 26; refine (Delete_any g n c cur _ _ hg hcl hnc hc63 (by omega) (by omega) hone).mono ?_; rintro e w1 ⟨rfl, hd⟩
       have hcb1 := (hd.keep.cell hbl (by simpa using hbg) 0).trans hcb; have hfb1 := (hd.keep.frozen hbl (by simpa using hbg) 0).trans hfb))
  go_ret2
  have hn := unhide HN
  rw [Int.toNat_natCast, hct] at hd
  obtain ⟨hL, hK⟩ := h.taken hn hd hnc hc63 hk
  refine ⟨_, rfl, hL, rfl, ?_, ?_⟩
  · exact hK.mono (fun x hx => .inl (by simpa [Value.ownBlock] using hx))
  · refine own_keep (h.own _ hul) hK (fun x hx => ?_)
    simp only [List.mem_cons, List.not_mem_nil, or_false, not_or]
    exact ⟨fun e => h.own_not_b hul (by simp [← e, hx]), fun e => h.own_not_v hul (g := x) (by simp [hx]) (by simp [Value.ownBlock, e])⟩
end Go.Proofs.Ytfbejbkacpkalaa
