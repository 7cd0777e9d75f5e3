/-
  A part of the proof: lemmas, and contracts of functions; their conditions stand in them.
-/
import Derived.Test.YtglbkndbbhamcaaGreatJ42
import Derived.Test.YtglbkndbbhamcaaGreatJ12
namespace Go.Proofs.YtglbkndbbhamcaaGreat
section
open Go.RowKit Go.Shelf
section
variable (w : World) (base r s d x : Nat) (Fs Fx : List Nat) (B : Nat) (R : RS) (h : ReplicaIs w base r s d x Fs Fx B R)
include h
set_option maxHeartbeats 2000000 in
set_option maxRecDepth 20000 in
theorem strangeR_yes (k v q b c e dn : Nat) (hk : k = 1 ∨ k = 2) (hb : B < b + max c 1) (hb2 : b ≤ 1000 ∧ c ≤ 1000) (A : Option Addr) (n m : Nat) : Calls Tryz.prog 32 #[.pointer (some ⟨r, 0, none⟩), .agg #[.int .i64 k, .int .i64 v, .int .i64 q, .int .i64 b, .int .i64 c, .int .i64 e, .int .i64 dn, .slice A n m]] w fun e w' => e = .returned (.bool true) ∧ Keep [] w w' := by
  obtain ⟨mm, hI, hBl, h64⟩ := ImageAt_st w base r s d x Fs Fx B R h
  obtain ⟨c0, c1⟩ := h.cells
  have hrl := h.blk.lt
  obtain ⟨mx, hmx⟩ : ∃ mx : Nat, max ((c : Nat) : Int) 1 = (mx : Nat) ∧ B < b + mx ∧ mx ≤ 1000 := ⟨max c 1, by omega, hb, by omega⟩
  obtain ⟨hmx, hb3, hmx3⟩ := hmx
  have hkA : Keep [] w (w.alloc (.cells #[.int .i64 k, .int .i64 v, .int .i64 q, .int .i64 b, .int .i64 c, .int .i64 e, .int .i64 dn, .slice A n m] 59)) := (Keep.refl _ _).alloc _
  have hbF := Blk.new w 59 #[.int .i64 k, .int .i64 v, .int .i64 q, .int .i64 b, .int .i64 c, .int .i64 e, .int .i64 dn, .slice A n m]
  have c0A := (h.keep0 hkA).cells.1
  clear h hb
  go_enter Tryz.func32, Tryz.ntmps32
  go_wp2_with fail
  obtain ⟨f0, f1, f2, f3, f4, f5, f6, f7⟩ := frame_cells hbF
  have hbI : ((B : Nat) : Int) < (b : Nat) + (mx : Nat) := by omega
  rcases hk with rfl | rfl
  · refine wp_region_ht (fun w' => w'.cell? ⟨w.heap.size, 0, none⟩ = some (.int .i64 ((1 : Nat) : Int)) ∧ w'.cell? ⟨w.heap.size, 3, none⟩ = some (.int .i64 (b : Nat)) ∧ w'.cell? ⟨r, 0, none⟩ = some (.pointer (some ⟨s, 0, none⟩))) 23 [(0, false), (1, false), (2, false), (3, false), (4, false), (5, false), (6, false), (7, false), (8, false), (9, false), (10, false), (11, false), (12, false), (13, false), (14, false), (15, false), (16, false), (17, false), (18, false), (19, false), (20, false), (21, true), (22, true)]
      (by kernel_rfl) (by kernel_rfl) (fun _ _ d _ _ h => by cases d <;> exact h) ⟨f0, f3, c0A⟩ ?_
    simp only [PI]
    iterate 8 (refine wpT_held ?_ (by rfl) ?_ ?_; rotate_left; (focus (rintro W ⟨hW0, hW1, hW2⟩; go_simp; try with_reducible rfl)); simp only [Act.put, PU])
    iterate 3 (refine wpT_skip (by rfl) ?_; simp only [Act.put, PU])
    iterate 10 (refine wpT_held ?_ (by rfl) ?_ ?_; rotate_left; (focus (rintro W ⟨hW0, hW1, hW2⟩; go_simp; try with_reducible rfl)); simp only [Act.put, PU])
    refine wpT_loud (by rfl) (fun K hK => ?_)
    go_wp2_with (refine (hI _ hkA.drew).mono ?_; rintro e w' ⟨rfl, rfl⟩)
    refine hK _ _ (⟨f0, f3, c0A⟩) ?_
    clear hK K
    try simp only [Act.put, PU]
    refine wpT_loud (by rfl) (fun K hK => ?_)
    go_wp2_with (refine (hBl _ hkA.drew).mono ?_; rintro e w' ⟨rfl, rfl⟩)
    refine hK _ _ (⟨f0, f3, c0A⟩) ?_
    clear hK K
    try simp only [Act.put, PU]
    refine wpT_nil ?_
    go_wp2_with fail
    go_ret
    exact ⟨by simp [hbI], hkA.drew⟩
  · refine wp_region_ht (fun w' => w'.cell? ⟨w.heap.size, 0, none⟩ = some (.int .i64 ((2 : Nat) : Int)) ∧ w'.cell? ⟨w.heap.size, 3, none⟩ = some (.int .i64 (b : Nat)) ∧ w'.cell? ⟨r, 0, none⟩ = some (.pointer (some ⟨s, 0, none⟩))) 23 [(0, false), (1, false), (2, false), (3, false), (4, false), (5, false), (6, false), (7, false), (8, false), (9, false), (10, false), (11, false), (12, false), (13, false), (14, false), (15, false), (16, false), (17, false), (18, false), (19, false), (20, false), (21, true), (22, true)]
      (by kernel_rfl) (by kernel_rfl) (fun _ _ d _ _ h => by cases d <;> exact h) ⟨f0, f3, c0A⟩ ?_
    simp only [PI]
    iterate 21 (refine wpT_held ?_ (by rfl) ?_ ?_; rotate_left; (focus (rintro W ⟨hW0, hW1, hW2⟩; go_simp; try with_reducible rfl)); simp only [Act.put, PU])
    refine wpT_loud (by rfl) (fun K hK => ?_)
    go_wp2_with (refine (hI _ hkA.drew).mono ?_; rintro e w' ⟨rfl, rfl⟩)
    refine hK _ _ (⟨f0, f3, c0A⟩) ?_
    clear hK K
    try simp only [Act.put, PU]
    refine wpT_loud (by rfl) (fun K hK => ?_)
    go_wp2_with (refine (hBl _ hkA.drew).mono ?_; rintro e w' ⟨rfl, rfl⟩)
    refine hK _ _ (⟨f0, f3, c0A⟩) ?_
    clear hK K
    try simp only [Act.put, PU]
    refine wpT_nil ?_
    go_wp2_with fail
    go_ret
    exact ⟨by simp [hbI], hkA.drew⟩
omit h in
set_option maxHeartbeats 2000000 in
set_option maxRecDepth 20000 in
theorem strangeR_ack (v q b c e dn : Nat) (A : Option Addr) (n m : Nat) : Calls Tryz.prog 32 #[.pointer (some ⟨r, 0, none⟩), .agg #[.int .i64 8, .int .i64 v, .int .i64 q, .int .i64 b, .int .i64 c, .int .i64 e, .int .i64 dn, .slice A n m]] w fun e w' => e = .returned (.bool true) ∧ Keep [] w w' := by
  have hkA : Keep [] w (w.alloc (.cells #[.int .i64 8, .int .i64 v, .int .i64 q, .int .i64 b, .int .i64 c, .int .i64 e, .int .i64 dn, .slice A n m] 59)) := (Keep.refl _ _).alloc _
  have hbF := Blk.new w 59 #[.int .i64 8, .int .i64 v, .int .i64 q, .int .i64 b, .int .i64 c, .int .i64 e, .int .i64 dn, .slice A n m]
  obtain ⟨mx, hmx⟩ : ∃ mx : Int, max ((c : Nat) : Int) 1 = mx := ⟨_, rfl⟩
  go_enter Tryz.func32, Tryz.ntmps32
  go_wp2_with fail
  obtain ⟨f0, f1, f2, f3, f4, f5, f6, f7⟩ := frame_cells hbF
  refine wp_region_ht (fun w' => w'.cell? ⟨w.heap.size, 0, none⟩ = some (.int .i64 8)) 23 [(0, false), (1, false), (2, false), (3, false), (4, false), (5, false), (6, false), (7, false), (8, false), (9, false), (10, false), (11, false), (12, false), (13, false), (14, false), (15, false), (16, false), (17, false), (18, false), (19, false), (20, false), (21, true), (22, true)]
    (by kernel_rfl) (by kernel_rfl) (fun _ _ d _ _ h => by cases d <;> exact h) f0 ?_
  simp only [PI]
  iterate 4 (refine wpT_held ?_ (by rfl) ?_ ?_; rotate_left; (focus (intro W hW; go_simp; try with_reducible rfl)); simp only [Act.put, PU])
  iterate 17 (refine wpT_skip (by rfl) ?_; simp only [Act.put, PU])
  refine wpT_skip_loud (by rfl) f0 ?_
  simp only [Act.put, PU]
  refine wpT_skip_loud (by rfl) f0 ?_
  simp only [Act.put, PU]
  refine wpT_nil ?_
  go_wp2_with fail
  go_ret
  exact ⟨rfl, hkA.drew⟩
set_option maxHeartbeats 4000000 in
set_option maxRecDepth 20000 in
theorem TakeR_strange (k v b c e dn fs : Nat) (xs : List UInt8) (A : Option Addr) (n cp : Nat) (hm : FrMay k v fs b c e dn xs) (ha : Rd w A n (bys (frBytes k v fs b c e dn xs)))
    (hSt : ∀ UA m uc W, Keep [] w W → Calls Tryz.prog 32 #[.pointer (some ⟨r, 0, none⟩), .agg #[.int .i64 k, .int .i64 v, .int .i64 fs, .int .i64 b, .int .i64 c, .int .i64 e, .int .i64 dn, .slice UA m uc]] W fun e w' => e = .returned (.bool true) ∧ Keep [] W w') :
    Calls Tryz.prog 10 #[.pointer (some ⟨r, 0, none⟩), .slice A n cp] w fun e w' => e = .returned (.tuple #[.slice none 0 0, .int .i64 1]) ∧ Keep [] w w' := by
  have hD := Decode_fr k v fs b c e dn xs hm A n cp w ha
  have hR := fun W (hk : Keep [] w W) => readyR_ok W base r s d x Fs Fx B R (h.keep0 hk)
  clear h ha hm
  go_enter Tryz.func10, Tryz.ntmps10
  go_wp2_with (first
    | (go_at_call 21
       refine hD.mono ?_
       clear hD
       rintro e1 w1 ⟨UA, uc, rfl, hu, hk1⟩
       have hbF := Blk.new w1 59 #[.int .i64 k, .int .i64 v, .int .i64 fs, .int .i64 b, .int .i64 c, .int .i64 e, .int .i64 dn, .slice UA xs.length uc]
       have hkA : Keep [] w (w1.alloc (.cells #[.int .i64 k, .int .i64 v, .int .i64 fs, .int .i64 b, .int .i64 c, .int .i64 e, .int .i64 dn, .slice UA xs.length uc] 59)) := hk1.alloc _)
    | (go_at_call 31
       refine (hR _ hkA).mono ?_
       clear hR
       rintro e2 w2 ⟨rfl, hk2⟩
       replace hbF := hbF.keep0 hk2
       replace hkA := hkA.trans0 hk2
       obtain ⟨f0, f1, f2, f3, f4, f5, f6, f7⟩ := frame_cells hbF)
    | (go_at_call 32
       refine (hSt _ _ _ _ hkA).mono ?_
       clear hSt
       rintro e3 w3 ⟨rfl, hk3⟩))
  go_ret2
  exact ⟨rfl, hkA.trans0 hk3⟩
end
end
section
open Go.RowKit
theorem cut_no (v s b : Nat) (data : List UInt8) (hv : v < 4294967296) (hs : s < 4294967296) (hb : b < 256) (hd : data.length = 64) (q : Nat) (h1 : 25 ≤ q) (h2 : q < 89) :
    ¬ ((parse ((frBytes 1 v s b 0 0 0 data).take q)).May ∧ (parse ((frBytes 1 v s b 0 0 0 data).take q)).bytes = (frBytes 1 v s b 0 0 0 data).take q) := by
  rintro ⟨hm, _⟩
  have hp := congrArg Fr.k (parse_frBytes 1 v s b 0 0 0 data (by omega) hv hs hb (by omega) (by omega) (by omega))
  have hk : (parse ((frBytes 1 v s b 0 0 0 data).take q)).k = 1 := by
    refine Eq.trans ?_ hp
    show num (((List.take q (frBytes 1 v s b 0 0 0 data)).drop 2).take 1) = num (((frBytes 1 v s b 0 0 0 data).drop 2).take 1)
    rw [List.drop_take, List.take_take, Nat.min_eq_left (by omega)]
  have hl : (parse ((frBytes 1 v s b 0 0 0 data).take q)).data.length < 64 := by
    show (((List.take q (frBytes 1 v s b 0 0 0 data)).drop 21).take ((List.take q (frBytes 1 v s b 0 0 0 data)).length - 25)).length < 64
    have : (frBytes 1 v s b 0 0 0 data).length = 89 := by simp [hd]
    simp only [List.length_take, List.length_drop, this]
    omega
  unfold Fr.May FrMay at hm
  rw [hk] at hm
  rcases hm.2 with ⟨_, _, _, _, _, _, h⟩ | ⟨h, _⟩ | ⟨h, _⟩ | ⟨h, _⟩ | ⟨h, _⟩
  · omega
  · simp at h
  · simp at h
  · simp at h
  · simp at h
theorem Decode_cut (v s b : Nat) (data : List UInt8) (hv : v < 4294967296) (hs : s < 4294967296) (hb : b < 256) (hd : data.length = 64) (q : Nat) (h2 : q < 89) (A : Option Addr) (c cp : Nat) (w : World) (ha : Rd w A 89 (bys (frBytes 1 v s b 0 0 0 data))) :
    Calls Tryz.prog 21 #[.slice A q c] w fun e w' => e = .returned (.tuple #[.agg #[.int .i64 0, .int .i64 0, .int .i64 0, .int .i64 0, .int .i64 0, .int .i64 0, .int .i64 0, .slice none 0 0], .int .i64 2]) ∧ Keep [] w w' := by
  have hr := ha.take (k := q) (by omega)
  rw [bys_take] at hr
  by_cases h1 : q < 25
  · exact Decode_short A q c _ w hr h1
  · exact Decode_no A q c _ w hr (by omega) (by omega) (cut_no v s b data hv hs hb hd q (by omega) h2)
end
end Go.Proofs.YtglbkndbbhamcaaGreat
