/-
  Parts of the proof: Contract of a replica: Take, of a frame that is an op. Contracts of a replica: Take, of what is taken and of what is not; New, Next, Waiting, Retry of none. Contracts: slices.Clone of ints, store.Make.
-/
import Derived.Test.YtglbkndbbhamcaaGreatK40
import Derived.Test.YtglbkndbbhamcaaGreatK11
import Derived.Test.YtglbkndbbhamcaaGreatK14
import Derived.Test.YtglbkndbbhamcaaGreatK38
import Derived.Test.YtglbkndbbhamcaaGreatK34
import Derived.Test.YtglbkndbbhamcaaGreatK30
namespace Go.Proofs.YtglbkndbbhamcaaGreat
open Go.RowKit Go.Shelf
theorem Decode_fr (k v s b c e d : Nat) (data : List UInt8) (hm : FrMay k v s b c e d data) (A : Option Addr) (n cp : Nat) (w : World) (ha : Rd w A n (bys (frBytes k v s b c e d data))) :
    Calls Tryz.prog 21 #[.slice A n cp] w fun r w' => ∃ UA uc, r = .returned (.tuple #[.agg #[.int .i64 k, .int .i64 v, .int .i64 s, .int .i64 b, .int .i64 c, .int .i64 e, .int .i64 d, .slice UA data.length uc], .int .i64 0]) ∧ w'.ownsRow w.heap.size 5 1 (.slice UA data.length uc) data.length (bys data) ∧ Keep [] w w' := by
  have hb := hm.bounds
  have hl : n = 25 + data.length := by have := ha.1; simpa using this.symm
  refine (Decode_any A n cp _ w ha (by omega) (by omega)).mono ?_
  rintro r w' ⟨hk, hP⟩
  have hp : parse (frBytes k v s b c e d data) = ⟨k, v, s, b, c, e, d, data⟩ := parse_frBytes k v s b c e d data (by omega) (by omega) (by omega) (by omega) (by omega) (by omega) (by omega)
  rw [hp] at hP
  rcases hP with ⟨_, _, u, rfl, hu⟩ | ⟨hno, _⟩
  · have hlen : (frBytes k v s b c e d data).length - 25 = data.length := by simp
    rw [hlen] at hu
    obtain ⟨UA, uc, rfl, _⟩ := own_form hu
    exact ⟨UA, uc, rfl, hu, hk⟩
  · exact absurd ⟨hm, rfl⟩ hno
set_option maxHeartbeats 4000000 in
set_option maxRecDepth 20000 in
theorem TakeR (w : World) (base r s d x : Nat) (Fs Fx : List Nat) (B : Nat) (R : RS) (h : ReplicaIs w base r s d x Fs Fx B R) (hbase : base ≤ w.heap.size) (k b c e m fs : Nat) (xs : List UInt8) (A : Option Addr) (cp : Nat)
    (ha : Rd w A (25 + m) (bys (frBytes k R.S.st.view fs b c e 0 xs))) (ho : OpMay k b c e m) (hlen : xs.length = m) (hfor : b + max c 1 ≤ B ∨ k = 3) (hfs : 1 ≤ fs ∧ fs ≤ 2147483647) (Post : Ending → World → Prop)
    (hcont : ∀ w5 UA uc, Keep [] w w5 → w5.ownsRow w.heap.size 5 1 (.slice UA m uc) m (bys xs) → Calls Tryz.prog 35 #[.pointer (some ⟨x, 0, none⟩), .int .i64 (fs : Nat), .agg #[.int .i64 k, .int .i64 b, .int .i64 c, .int .i64 e, .slice UA m uc]] w5 fun e5 w6 =>
      (e5 = .returned (.int .i64 0) ∧ Calls Tryz.prog 36 #[.pointer (some ⟨r, 0, none⟩)] w6 (fun e w' => ∃ A n c z, e = .returned (.tuple #[.slice A n c, .int .i64 z]) ∧ Post e w')) ∨
      (e5 = .returned (.int .i64 9) ∧ Calls Tryz.prog 37 #[.pointer (some ⟨r, 0, none⟩)] w6 (fun e w' => ∃ A n c, e = .returned (.tuple #[.slice A n c, .int .i64 0]) ∧ Post (.returned (.tuple #[.slice A n c, .int .i64 9])) w')) ∨
      (e5 = .returned (.int .i64 10) ∧ Post (.returned (.tuple #[.slice none 0 0, .int .i64 10])) w6)) :
    Calls Tryz.prog 10 #[.pointer (some ⟨r, 0, none⟩), .slice A (25 + m) cp] w Post := by
  have hv := h.view
  have hfr : FrMay k R.S.st.view fs b c e 0 xs := ho.fr hv hfs hlen
  have hD := Decode_fr k R.S.st.view fs b c e 0 xs hfr A (25 + m) cp w ha
  have hOp := fun UA uc W (hr : Rd W UA m (bys xs)) => Op_yes k R.S.st.view fs b c e 0 UA m uc xs W hr (by have := hfr.bounds; omega) (by rcases ho with ⟨h, _⟩ | ⟨h, _⟩ | ⟨h, _⟩ <;> omega) (by rcases ho with ⟨h, _⟩ | ⟨h, _⟩ | ⟨h, _⟩ <;> omega) hfr
  have hR := fun W (hk : Keep [] w W) => readyR_ok W base r s d x Fs Fx B R (h.keep0 hk)
  have hSt : ∀ UA uc W, Keep [] w W → Calls Tryz.prog 32 #[.pointer (some ⟨r, 0, none⟩), .agg #[.int .i64 k, .int .i64 R.S.st.view, .int .i64 fs, .int .i64 b, .int .i64 c, .int .i64 e, .int .i64 (0 : Nat), .slice UA m uc]] W fun e w' => e = .returned (.bool false) ∧ Keep [] W w' := fun UA uc W hk => by
    rcases hfor with hb | rfl
    · rcases ho with ⟨h1, _⟩ | ⟨h1, _⟩ | ⟨h1, h2, h3, h4⟩
      · exact strangeR_wt W base r s d x Fs Fx B R (h.keep0 hk) k R.S.st.view fs b c e 0 _ (by omega) hb UA m uc rfl
      · exact strangeR_wt W base r s d x Fs Fx B R (h.keep0 hk) k R.S.st.view fs b c e 0 _ (by omega) hb UA m uc rfl
      · subst h1
        exact strangeR_m W r R.S.st.view fs b c e 0 UA m uc
    · exact strangeR_m W r R.S.st.view fs b c e 0 UA m uc
  have hSa := fun W (hk : Keep [] w W) => StatusAt_is W base s d Fs B R.S (h.keep0 hk).st
  have hcl := fun W (hk : Keep [] w W) => (h.keep0 hk).cells
  rw [hlen] at hD
  unfold frv at hOp
  have hk9 : ¬ ((k : Nat) : Int) = 9 := by have := ho; rcases this with ⟨h, _⟩ | ⟨h, _⟩ | ⟨h, _⟩ <;> omega
  have hk9b : (((k : Nat) : Int) == 9) = false := by simpa using hk9
  clear h ha hfr hv hfor
  have HO := hide ho
  clear ho
  generalize R.S.st = st at *
  obtain ⟨mode, view, epoch, seq, done, mount, gen⟩ := st
  simp only at hD hOp hSt hSa
  have hfd := fun (a0 a1 a2 a3 a4 a5 a6 a7 a8 a9 : Value) W => run_field_one (P := Tryz.prog) Tryz.underlying48 1 rfl Tryz.isAgg3 #[a0, a1, a2, a3, a4, a5, a6, a7, a8, a9] rfl W
  go_enter Tryz.func10, Tryz.ntmps10
  go_wp2_with (first
    | (go_at_call 21
       refine hD.mono ?_
       clear hD
       rintro e1 w1 ⟨UA, uc, rfl, hu, hk1⟩
       have hbF := Blk.new w1 59 #[.int .i64 k, .int .i64 view, .int .i64 fs, .int .i64 b, .int .i64 c, .int .i64 e, .int .i64 (0 : Nat), .slice UA m uc]
       have hkA : Keep [] w (w1.alloc (.cells #[.int .i64 k, .int .i64 view, .int .i64 fs, .int .i64 b, .int .i64 c, .int .i64 e, .int .i64 (0 : Nat), .slice UA m uc] 59)) := hk1.alloc _
       have huA := own_alloc hu (.cells #[.int .i64 k, .int .i64 view, .int .i64 fs, .int .i64 b, .int .i64 c, .int .i64 e, .int .i64 (0 : Nat), .slice UA m uc] 59))
    | (go_at_call 31
       refine (hR _ hkA).mono ?_
       clear hR
       rintro e2 w2 ⟨rfl, hk2⟩
       replace hbF := hbF.keep0 hk2
       replace hkA := hkA.trans0 hk2
       replace huA := own_keep0 huA hk2
       obtain ⟨f0, f1, f2, f3, f4, f5, f6, f7⟩ := frame_cells hbF)
    | (go_at_call 32
       refine (hSt _ _ _ hkA).mono ?_
       clear hSt
       rintro e3 w3 ⟨rfl, hk3⟩
       replace hbF := hbF.keep0 hk3
       replace hkA := hkA.trans0 hk3
       replace huA := own_keep0 huA hk3
       obtain ⟨f0, f1, f2, f3, f4, f5, f6, f7⟩ := frame_cells hbF))
  have r0 := (hcl _ hkA).1
  refine wp_region_ht (fun w' => w'.cell? ⟨w1.heap.size, 1, none⟩ = some (.int .i64 (view : Nat)) ∧ w'.cell? ⟨r, 0, none⟩ = some (.pointer (some ⟨s, 0, none⟩))) 8 [(0, false), (1, false), (2, false), (3, false), (4, false), (5, false), (6, true), (7, false)]
    (by kernel_rfl) (by kernel_rfl) (fun _ _ d _ _ h => by cases d <;> exact h) ⟨f1, r0⟩ ?_
  simp only [picked, List.filterMap_cons, List.filterMap_nil, List.getElem?_cons_zero, List.getElem?_cons_succ, Option.map_some, List.drop_succ_cons, List.drop_zero]
  iterate 6 (refine wpT_held ?_ (by rfl) ?_ ?_; rotate_left; (focus (intro W hW; obtain ⟨hW0, hW1⟩ := hW; go_simp; first | done | with_reducible rfl)); simp only [Act.put, PU])
  refine wpT_loud (by rfl) (fun K hK => ?_)
  go_wp2_with (
    refine (hSa _ hkA.drew).mono ?_
    clear hSa
    rintro e4 w4 ⟨rfl, hk4⟩
    have hkB := hkA.drew.trans0 hk4
    have hbB := hbF.drew.keep0 hk4
    have huB := own_keep0 huA ((Keep.refl _ _).drew.trans0 hk4))
  refine hK _ _ (⟨(frame_cells hbB).2.1, (hcl _ hkB).1⟩) ?_
  clear hK K
  try simp only [Act.put, PU]
  iterate 1 (refine wpT_held ?_ (by rfl) ?_ ?_; rotate_left; (focus (intro W hW; obtain ⟨hW0, hW1⟩ := hW; go_simp; first | done | with_reducible rfl)); simp only [Act.put, PU])
  refine wpT_nil ?_
  obtain ⟨g0, g1, g2, g3, g4, g5, g6, g7⟩ := frame_cells hbB
  have hOp1 := hOp UA uc w4 (Rd.of_own huB)
  go_wp2_with (go_at_call 34
               refine hOp1.mono ?_
               clear hOp1
               rintro e5 w5 ⟨ua, rfl, hua, hk5⟩
               obtain ⟨A5, c5, rfl, hc5, _⟩ := own_form hua)
  have hkC := (hkB.trans0 hk5).alloc (.cells #[.int .i64 k, .int .i64 b, .int .i64 c, .int .i64 e, .slice A5 m c5] 46)
  have hbC := (hbB.keep0 hk5).keep0 ((Keep.refl _ _).alloc (.cells #[.int .i64 k, .int .i64 b, .int .i64 c, .int .i64 e, .slice A5 m c5] 46))
  have hbO := Blk.new w5 46 #[.int .i64 k, .int .i64 b, .int .i64 c, .int .i64 e, .slice A5 m c5]
  obtain ⟨o0, o1, o2, o3, o4⟩ := op_cells hbO
  have r1 := (hcl _ hkC).2
  have s2 := (frame_cells hbC).2.2.1
  have hcn := hcont _ A5 c5 hkC.drew (own_keep0 (own_base hua hkB.size) (((Keep.refl _ _).alloc (.cells #[.int .i64 k, .int .i64 b, .int .i64 c, .int .i64 e, .slice A5 m c5] 46)).drew))
  clear hcont g0 g1 g2 g3 g4 g5 g6 g7 f0 f1 f2 f3 f4 f5 f6 f7
  refine wp_region_ht (fun w' => w'.cell? ⟨r, 1, none⟩ = some (.pointer (some ⟨x, 0, none⟩)) ∧ w'.cell? ⟨w1.heap.size, 2, none⟩ = some (.int .i64 (fs : Nat)) ∧ w'.cell? ⟨w5.heap.size, 0, none⟩ = some (.int .i64 k) ∧ w'.cell? ⟨w5.heap.size, 1, none⟩ = some (.int .i64 b) ∧ w'.cell? ⟨w5.heap.size, 2, none⟩ = some (.int .i64 c) ∧ w'.cell? ⟨w5.heap.size, 3, none⟩ = some (.int .i64 e) ∧ w'.cell? ⟨w5.heap.size, 4, none⟩ = some (.slice A5 m c5)) 7 [(0, false), (1, false), (2, false), (3, false), (4, false), (5, false), (6, false)]
    (by kernel_rfl) (by kernel_rfl) (fun _ _ d _ _ h => by cases d <;> exact h) ⟨r1, s2, o0, o1, o2, o3, o4⟩ ?_
  simp only [picked, List.filterMap_cons, List.filterMap_nil, List.getElem?_cons_zero, List.getElem?_cons_succ, Option.map_some, List.drop_succ_cons, List.drop_zero]
  iterate 7 (refine wpT_held ?_ (by rfl) ?_ ?_; rotate_left; (focus (intro W hW; obtain ⟨hW0, hW1, hW2, hW3, hW4, hW5, hW6⟩ := hW; go_simp; first | done | with_reducible rfl)); simp only [Act.put, PU])
  refine wpT_nil ?_
  go_wp2_with (go_at_call 35
               refine hcn.mono ?_
               clear hcn
               rintro e6 w6 h6
               rcases h6 with ⟨rfl, h6⟩ | ⟨rfl, h6⟩ | ⟨rfl, h6⟩)
  · go_wp2_with (refine h6.mono ?_
                 clear h6
                 rintro e7 w7 ⟨A7, n7, c7, z7, rfl, h7⟩)
    exact h7
  · go_wp2_with (refine h6.mono ?_
                 clear h6
                 rintro e7 w7 ⟨A7, n7, c7, rfl, h7⟩)
    exact h7
  · go_wp2
    exact h6
end Go.Proofs.YtglbkndbbhamcaaGreat
namespace Go.Proofs.YtglbkndbbhamcaaGreat
open Go.RowKit Go.Shelf
theorem Decode_no (A : Option Addr) (n cp : Nat) (bs : List UInt8) (w : World) (ha : Rd w A n (bys bs)) (hn : 25 ≤ n) (hn2 : n ≤ 65536) (hno : ¬ ((parse bs).May ∧ (parse bs).bytes = bs)) :
    Calls Tryz.prog 21 #[.slice A n cp] w fun e w' => e = .returned (.tuple #[.agg #[.int .i64 0, .int .i64 0, .int .i64 0, .int .i64 0, .int .i64 0, .int .i64 0, .int .i64 0, .slice none 0 0], .int .i64 2]) ∧ Keep [] w w' := by
  refine (Decode_any A n cp bs w ha hn hn2).mono ?_
  rintro e w' ⟨hk, ⟨h1, h2, _⟩ | ⟨_, rfl⟩⟩
  · exact absurd ⟨h1, h2⟩ hno
  · exact ⟨rfl, hk⟩
theorem TakeR_bad (r : Nat) (A : Option Addr) (n cp : Nat) (w : World) (hD : Calls Tryz.prog 21 #[.slice A n cp] w fun e w' => e = .returned (.tuple #[.agg #[.int .i64 0, .int .i64 0, .int .i64 0, .int .i64 0, .int .i64 0, .int .i64 0, .int .i64 0, .slice none 0 0], .int .i64 2]) ∧ Keep [] w w') :
    Calls Tryz.prog 10 #[.pointer (some ⟨r, 0, none⟩), .slice A n cp] w fun e w' => e = .returned (.tuple #[.slice none 0 0, .int .i64 2]) ∧ Keep [] w w' := by
  go_enter Tryz.func10, Tryz.ntmps10
  go_wp2_with (refine hD.mono ?_; clear hD; rintro e w1 ⟨rfl, hk⟩)
  go_ret2
  exact ⟨rfl, hk.alloc _⟩
set_option maxHeartbeats 4000000 in
set_option maxRecDepth 20000 in
theorem TakeR_view (w : World) (base r s d x : Nat) (Fs Fx : List Nat) (B : Nat) (R : RS) (h : ReplicaIs w base r s d x Fs Fx B R) (v k b c e m fs : Nat) (xs : List UInt8) (A : Option Addr) (cp : Nat)
    (ha : Rd w A (25 + m) (bys (frBytes k v fs b c e 0 xs))) (ho : OpMay k b c e m) (hlen : xs.length = m) (hfor : b + max c 1 ≤ B ∨ k = 3) (hfs : 1 ≤ fs ∧ fs ≤ 2147483647) (hv : 1 ≤ v ∧ v ≤ 2147483647) (hne : v ≠ R.S.st.view) :
    Calls Tryz.prog 10 #[.pointer (some ⟨r, 0, none⟩), .slice A (25 + m) cp] w fun e w' => e = .returned (.tuple #[.slice none 0 0, .int .i64 8]) ∧ Keep [] w w' := by
  have hfr : FrMay k v fs b c e 0 xs := ho.fr hv hfs hlen
  have hD := Decode_fr k v fs b c e 0 xs hfr A (25 + m) cp w ha
  have hR := fun W (hk : Keep [] w W) => readyR_ok W base r s d x Fs Fx B R (h.keep0 hk)
  have hSt : ∀ UA uc W, Keep [] w W → Calls Tryz.prog 32 #[.pointer (some ⟨r, 0, none⟩), .agg #[.int .i64 k, .int .i64 v, .int .i64 fs, .int .i64 b, .int .i64 c, .int .i64 e, .int .i64 (0 : Nat), .slice UA m uc]] W fun e w' => e = .returned (.bool false) ∧ Keep [] W w' := fun UA uc W hk => by
    rcases hfor with hb | rfl
    · rcases ho with ⟨h1, _⟩ | ⟨h1, _⟩ | ⟨h1, h2, h3, h4⟩
      · exact strangeR_wt W base r s d x Fs Fx B R (h.keep0 hk) k v fs b c e 0 _ (by omega) hb UA m uc rfl
      · exact strangeR_wt W base r s d x Fs Fx B R (h.keep0 hk) k v fs b c e 0 _ (by omega) hb UA m uc rfl
      · subst h1
        exact strangeR_m W r v fs b c e 0 UA m uc
    · exact strangeR_m W r v fs b c e 0 UA m uc
  have hSa := fun W (hk : Keep [] w W) => StatusAt_is W base s d Fs B R.S (h.keep0 hk).st
  have hcl := fun W (hk : Keep [] w W) => (h.keep0 hk).cells
  rw [hlen] at hD
  have hk9 : ¬ ((k : Nat) : Int) = 9 := by have := ho; rcases this with ⟨h, _⟩ | ⟨h, _⟩ | ⟨h, _⟩ <;> omega
  have hk9b : (((k : Nat) : Int) == 9) = false := by simpa using hk9
  clear h ha hfr hfor
  have HO := hide ho
  clear ho
  generalize R.S.st = st at *
  obtain ⟨mode, view, epoch, seq, done, mount, gen⟩ := st
  simp only at hD hSt hSa hne
  have hvv : ¬ ((v : Nat) : Int) = (view : Nat) := by omega
  have hvb : (((v : Nat) : Int) == (view : Nat)) = false := by simpa using hvv
  have hfd := fun (a0 a1 a2 a3 a4 a5 a6 a7 a8 a9 : Value) W => run_field_one (P := Tryz.prog) Tryz.underlying48 1 rfl Tryz.isAgg3 #[a0, a1, a2, a3, a4, a5, a6, a7, a8, a9] rfl W
  go_enter Tryz.func10, Tryz.ntmps10
  go_wp2_with (first
    | (go_at_call 21
       refine hD.mono ?_
       clear hD
       rintro e1 w1 ⟨UA, uc, rfl, hu, hk1⟩
       have hbF := Blk.new w1 59 #[.int .i64 k, .int .i64 v, .int .i64 fs, .int .i64 b, .int .i64 c, .int .i64 e, .int .i64 (0 : Nat), .slice UA m uc]
       have hkA : Keep [] w (w1.alloc (.cells #[.int .i64 k, .int .i64 v, .int .i64 fs, .int .i64 b, .int .i64 c, .int .i64 e, .int .i64 (0 : Nat), .slice UA m uc] 59)) := hk1.alloc _)
    | (go_at_call 31
       refine (hR _ hkA).mono ?_
       clear hR
       rintro e2 w2 ⟨rfl, hk2⟩
       replace hbF := hbF.keep0 hk2
       replace hkA := hkA.trans0 hk2
       obtain ⟨f0, f1, f2, f3, f4, f5, f6, f7⟩ := frame_cells hbF)
    | (go_at_call 32
       refine (hSt _ _ _ hkA).mono ?_
       clear hSt
       rintro e3 w3 ⟨rfl, hk3⟩
       replace hbF := hbF.keep0 hk3
       replace hkA := hkA.trans0 hk3
       obtain ⟨f0, f1, f2, f3, f4, f5, f6, f7⟩ := frame_cells hbF))
  have r0 := (hcl _ hkA).1
  refine wp_region_ht (fun w' => w'.cell? ⟨w1.heap.size, 1, none⟩ = some (.int .i64 (v : Nat)) ∧ w'.cell? ⟨r, 0, none⟩ = some (.pointer (some ⟨s, 0, none⟩))) 8 [(0, false), (1, false), (2, false), (3, false), (4, false), (5, false), (6, true), (7, false)]
    (by kernel_rfl) (by kernel_rfl) (fun _ _ d _ _ h => by cases d <;> exact h) ⟨f1, r0⟩ ?_
  simp only [picked, List.filterMap_cons, List.filterMap_nil, List.getElem?_cons_zero, List.getElem?_cons_succ, Option.map_some, List.drop_succ_cons, List.drop_zero]
  iterate 6 (refine wpT_held ?_ (by rfl) ?_ ?_; rotate_left; (focus (intro W hW; obtain ⟨hW0, hW1⟩ := hW; go_simp; first | done | with_reducible rfl)); simp only [Act.put, PU])
  refine wpT_loud (by rfl) (fun K hK => ?_)
  go_wp2_with (
    refine (hSa _ hkA.drew).mono ?_
    clear hSa
    rintro e4 w4 ⟨rfl, hk4⟩
    have hkB := hkA.drew.trans0 hk4
    have hbB := hbF.drew.keep0 hk4)
  refine hK _ _ (⟨(frame_cells hbB).2.1, (hcl _ hkB).1⟩) ?_
  clear hK K
  try simp only [Act.put, PU]
  iterate 1 (refine wpT_held ?_ (by rfl) ?_ ?_; rotate_left; (focus (intro W hW; obtain ⟨hW0, hW1⟩ := hW; go_simp; first | done | with_reducible rfl)); simp only [Act.put, PU])
  refine wpT_nil ?_
  go_wp2
  go_ret2
  exact ⟨rfl, hkB⟩
theorem present_set {sl : List PSlot} {i : Nat} (hi : i < sl.length) (h : (sl.getD i PSlot.none_).is = false) (q : PSlot) (hq : q.is = true) : present (sl.set i q) = present sl + 1 := by
  unfold present
  have hg : sl[i].is = false := by simpa [List.getD_eq_getElem?_getD, hi] using h
  have := List.countP_set (p := (·.is)) (l := sl) (i := i) (a := q) hi
  rw [this, if_neg (by simp [hg]), if_pos hq]
  rfl
section
variable (w : World) (base r s d x : Nat) (Fs Fx : List Nat) (B : Nat) (R : RS) (h : ReplicaIs w base r s d x Fs Fx B R) (hbase : base ≤ w.heap.size) (k b c e m fs : Nat) (xs : List UInt8) (A : Option Addr) (cp : Nat)
    (ha : Rd w A (25 + m) (bys (frBytes k R.S.st.view fs b c e 0 xs))) (ho : OpMay k b c e m) (hlen : xs.length = m) (hfor : b + max c 1 ≤ B ∨ k = 3) (hfs : 1 ≤ fs ∧ fs ≤ 2147483647)
include h hbase ha ho hlen hfor hfs
theorem TakeR_win (hn : R.next + R.sl.length ≤ fs) : Calls Tryz.prog 10 #[.pointer (some ⟨r, 0, none⟩), .slice A (25 + m) cp] w fun e w' => e = .returned (.tuple #[.slice none 0 0, .int .i64 10]) ∧ Keep [] w w' := by
  refine TakeR w base r s d x Fs Fx B R h hbase k b c e m fs xs A cp ha ho hlen hfor hfs _ ?_
  intro w5 UA uc hk hu
  obtain ⟨L, hw⟩ := h.win
  refine (PutW_win w5 base x L Fx R.next R.sl (hw.keep0 hk) fs hn hfs.2 k b c e UA m uc).mono ?_
  rintro e5 w6 ⟨rfl, hk6⟩
  exact .inr (.inr ⟨rfl, rfl, hk.trans0 hk6⟩)
theorem TakeR_seq (hn : fs < R.next) (hs : R.S.st.seq ≤ 2147483647) (he : R.S.st.epoch ≤ 2147483647) (hd : R.S.st.done ≤ R.S.st.seq) : Calls Tryz.prog 10 #[.pointer (some ⟨r, 0, none⟩), .slice A (25 + m) cp] w fun e w' =>
    ∃ u, e = .returned (.tuple #[u, .int .i64 9]) ∧ w'.ownsRow w.heap.size 5 1 u 25 (bys (frBytes 8 R.S.st.view R.S.st.seq 0 0 R.S.st.epoch R.S.st.done [])) ∧ Keep [] w w' := by
  refine TakeR w base r s d x Fs Fx B R h hbase k b c e m fs xs A cp ha ho hlen hfor hfs _ ?_
  intro w5 UA uc hk hu
  obtain ⟨L, hw⟩ := h.win
  refine (PutW_seq w5 base x L Fx R.next R.sl (hw.keep0 hk) fs hn k b c e UA m uc).mono ?_
  rintro e5 w6 ⟨rfl, hk6⟩
  refine .inr (.inl ⟨rfl, ?_⟩)
  refine (answerR_ok w6 base r s d x Fs Fx B R (h.keep0 (hk.trans0 hk6)) hs he hd).mono ?_
  rintro e7 w7 ⟨u, rfl, hu7, hk7⟩
  have hkk := (hk.trans0 hk6)
  obtain ⟨A7, c7, rfl, _⟩ := own_form hu7
  exact ⟨A7, _, c7, rfl, _, rfl, own_base hu7 hkk.size, hkk.trans0 hk7⟩
theorem TakeR_in (kk j : Nat) (hg : Good B R.S kk j) (hk : kk + present R.sl ≤ 49) (hj : j ≤ 10000) (hnx : R.next ≤ 1000000) (hop : ∀ q ∈ R.sl, q.is = true → OpFor B q.o) (hn1 : R.next ≤ fs) (hn2 : fs < R.next + R.sl.length) (hq : (R.sl.getD (fs % R.sl.length) PSlot.none_).is = false) (hof : OpFor B ⟨k, b, c, e, xs⟩) :
    Calls Tryz.prog 10 #[.pointer (some ⟨r, 0, none⟩), .slice A (25 + m) cp] w fun en w' =>
      ∃ v, OnPost w base r s d x Fs Fx B ⟨R.S, R.next, R.sl.set (fs % R.sl.length) ⟨v, ⟨k, b, c, e, xs⟩, true⟩⟩ kk j en w' := by
  refine TakeR w base r s d x Fs Fx B R h hbase k b c e m fs xs A cp ha ho hlen hfor hfs _ ?_
  intro w5 UA uc hk5 hu
  obtain ⟨L, hw⟩ := h.win
  have hi : fs % R.sl.length < R.sl.length := Nat.mod_lt _ hw.pos
  subst hlen
  have hu5 := own_base hu hbase
  refine (PutW_ok w5 base x L Fx R.next R.sl (hw.keep0 hk5) fs hn1 hn2 hfs.2 hq k b c e UA uc xs hu5).mono ?_
  rintro e5 w6 ⟨rfl, F', hw6, hk6, hF'⟩
  refine .inl ⟨rfl, ?_⟩
  have hfresh : ∀ z ∈ (Value.slice UA xs.length uc).ownBlock.toList, w.heap.size ≤ z := fun z hz => (own_mem hu hz).1
  have hr6 := (h.keep0 hk5).setWin ⟨L, hw6⟩ hk6 (fun y hy => by
    rcases hF' y hy with h1 | h1
    · exact .inl h1
    · refine .inr ⟨fun hm => ?_, ?_⟩
      · have := hfresh y h1; have := h.st.lt y hm; omega
      · have := hfresh y h1; have := h.blk.lt; omega)
  have hpr := present_set hi hq ⟨.slice UA xs.length uc, ⟨k, b, c, e, xs⟩, true⟩ rfl
  have hkk : Keep (repF r Fs Fx) w w6 := hk5.zero.trans hk6 (fun y hy => .inl (by simp [repF, hy]))
  refine (onR_ok w6 base r s d x Fs F' B _ hr6 kk j hg (by simp only [hpr]; omega) hj hnx ?_).mono ?_
  · intro q hq' hqi
    rcases List.mem_or_eq_of_mem_set hq' with hq' | rfl
    · exact hop q hq' hqi
    · exact hof
  · rintro e7 w7 ⟨Fs7, Fx7, R7, er, h1, h2, h3, h4, h5, h6, h7⟩
    have hsz6 := hkk.size
    have hg6 : Grow w (repF r Fs Fx) (repF r Fs F') := by
      intro y hy
      simp only [repF, List.mem_cons, List.mem_append] at hy ⊢
      rcases hy with hy | hy | hy
      · exact .inl (.inl hy)
      · exact .inl (.inr (.inl hy))
      · rcases hF' y hy with h8 | h8
        · exact .inl (.inr (.inr h8))
        · exact .inr (hfresh y h8)
    have hk7 : Keep (repF r Fs Fx) w w7 := hkk.trans h5 hg6
    have hg7 : Grow w (repF r Fs Fx) (repF r Fs7 Fx7) := fun y hy => by
      rcases h6 y hy with h8 | h8
      · exact hg6 y h8
      · exact .inr (by omega)
    rcases h7 with ⟨rfl, u, rfl, hu7⟩ | ⟨rfl, rfl⟩
    · obtain ⟨A7, c7, rfl, _⟩ := own_form hu7
      exact ⟨A7, _, c7, _, rfl, _, Fs7, Fx7, R7, 0, h1, h2, h3, h4, hk7, hg7, .inl ⟨rfl, _, rfl, own_base hu7 hsz6⟩⟩
    · exact ⟨none, 0, 0, _, rfl, _, Fs7, Fx7, R7, 1, h1, h2, h3, h4, hk7, hg7, .inr ⟨rfl, rfl⟩⟩
end
theorem NewR_nil (m : Nat) (h1 : 1 ≤ m) (h2 : m ≤ 16) (w : World) : Calls Tryz.prog 8 #[.pointer none, .int .i64 (m : Nat)] w fun e w' => e = .returned (.pointer none) ∧ Keep [] w w' := by
  have hS := Status_nil w
  have hW : ∀ W, Calls Tryz.prog 30 #[.int .i64 (m : Nat), .int .i64 1] W _ := fun W => NewWin_ok m 1 h1 h2 (by omega) W
  have hfd := fun W => run_field_one (P := Tryz.prog) Tryz.underlying48 3 rfl Tryz.isAgg3 #[.int .i64 0, .int .i64 0, .int .i64 0, .int .i64 0, .int .i64 0, .int .i64 0, .int .i64 0, .int .i64 0, .int .i64 0, .int .i64 0] rfl W
  go_enter Tryz.func8, Tryz.ntmps8
  go_wp2_with (first
    | (go_at_call 12; refine hS.mono ?_; clear hS; rintro e w1 ⟨rfl, hk1⟩)
    | (go_at_call 30; refine (hW _).mono ?_; clear hW; rintro e w2 ⟨x, rfl, F, hF, hk2⟩))
  go_ret
  exact ⟨rfl, hk1.trans0 hk2⟩
theorem WinIs.down {w : World} {b1 b2 x next : Nat} {L : Value} {F : List Nat} {sl : List PSlot} (h : WinIs w b2 x L F next sl) (hb : b1 ≤ b2) : WinIs w b1 x L F next sl :=
  ⟨h.blk, own_base h.row hb, fun q hq => own_base (h.dat q hq) hb, h.foot, Nat.le_trans hb h.base, h.pos, h.few, h.zero, h.nb⟩
section
variable (w : World) (base s d : Nat) (Fs : List Nat) (B : Nat) (S : PS) (h : StoreAt w base s d Fs B S) (hs : S.st.seq ≤ 1000000)
include h hs
theorem NewR_no (m : Int) (hm : m < 1 ∨ 16 < m) : Calls Tryz.prog 8 #[.pointer (some ⟨s, 0, none⟩), .int .i64 m] w fun e w' => e = .returned (.pointer none) ∧ Keep [] w w' := by
  have hS := StatusAt_is w base s d Fs B S h
  generalize S.st = st at *
  obtain ⟨mode, view, epoch, seq, done, mount, gen⟩ := st
  simp only at hS hs
  have hW := fun W => NewWin_no m (seq + 1) hm W
  rw [Int.natCast_add] at hW
  have hfd := fun (a0 a1 a2 a3 a4 a5 a6 a7 a8 a9 : Value) W => run_field_one (P := Tryz.prog) Tryz.underlying48 3 rfl Tryz.isAgg3 #[a0, a1, a2, a3, a4, a5, a6, a7, a8, a9] rfl W
  go_enter Tryz.func8, Tryz.ntmps8
  go_wp2_with (first
    | (go_at_call 12; refine hS.mono ?_; clear hS; rintro e w1 ⟨rfl, hk1⟩)
    | (go_at_call 30; refine (hW _).mono ?_; clear hW; rintro e w2 ⟨rfl, rfl⟩))
  go_ret
  exact ⟨rfl, hk1⟩
theorem NewR_ok (m : Nat) (h1 : 1 ≤ m) (h2 : m ≤ 16) (hmode : S.st.mode = 1) (hview : 1 ≤ S.st.view ∧ S.st.view ≤ 2147483647) (hbase : base ≤ w.heap.size) :
    Calls Tryz.prog 8 #[.pointer (some ⟨s, 0, none⟩), .int .i64 (m : Nat)] w fun e w' => ∃ r x Fx, e = .returned (.pointer (some ⟨r, 0, none⟩)) ∧ ReplicaIs w' base r s d x Fs Fx B ⟨S, S.st.seq + 1, emptyW m⟩ ∧ Keep [] w w' ∧ (∀ y ∈ repF r Fs Fx, y ∈ Fs ∨ w.heap.size ≤ y) := by
  have hS := StatusAt_is w base s d Fs B S h
  have hres : ∀ w2 x F r, Keep [] w w2 → WinAt w2 w.heap.size x F (S.st.seq + 1) (emptyW m) → r = w2.heap.size → ReplicaIs (w2.alloc (.cells #[.pointer (some ⟨s, 0, none⟩), .pointer (some ⟨x, 0, none⟩)] 80)) base r s d x Fs F B ⟨S, S.st.seq + 1, emptyW m⟩ ∧ (∀ y ∈ repF r Fs F, y ∈ Fs ∨ w.heap.size ≤ y) := by
    intro w2 x F r hk hw hr
    subst hr
    have hka := (Keep.refl [] w2).alloc (.cells #[.pointer (some ⟨s, 0, none⟩), .pointer (some ⟨x, 0, none⟩)] 80)
    obtain ⟨L, hL⟩ := hw
    have hge := hL.ge
    have hlt := hL.lt
    refine ⟨⟨Blk.new _ _ _, h.keep0 (hk.trans0 hka), ⟨L, (hL.down hbase).keep0 hka⟩, fun y hy hm => ?_, fun hm => ?_, fun hm => ?_, ?_, hmode, hview⟩, ?_⟩
    · have := h.lt y hy; have := hge y hm; omega
    · have := h.lt _ hm; have := hk.size; omega
    · have := hlt _ hm; omega
    · have := hk.size; omega
    · intro y hy
      simp only [repF, List.mem_cons, List.mem_append] at hy
      rcases hy with hy | hy | hy
      · exact .inr (by have := hk.size; omega)
      · exact .inl hy
      · exact .inr (hge y hy)
  generalize hst : S.st = st at *
  obtain ⟨mode, view, epoch, seq, done, mount, gen⟩ := st
  simp only at hS hs hres hmode ⊢
  have hW := fun W => NewWin_ok m (seq + 1) h1 h2 (by omega) W
  rw [Int.natCast_add] at hW
  have hfd := fun (a0 a1 a2 a3 a4 a5 a6 a7 a8 a9 : Value) W => run_field_one (P := Tryz.prog) Tryz.underlying48 3 rfl Tryz.isAgg3 #[a0, a1, a2, a3, a4, a5, a6, a7, a8, a9] rfl W
  go_enter Tryz.func8, Tryz.ntmps8
  go_wp2_with (first
    | (go_at_call 12; refine hS.mono ?_; clear hS; rintro e w1 ⟨rfl, hk1⟩)
    | (go_at_call 30; refine (hW _).mono ?_; clear hW; rintro e w2 ⟨x, rfl, F, hF, hk2⟩))
  go_ret
  have hkk := hk1.trans0 hk2
  obtain ⟨L, hL⟩ := hF
  obtain ⟨q1, q2⟩ := hres w2 x F _ hkk ⟨L, hL.down hk1.size⟩ rfl
  exact ⟨_, x, F, rfl, q1, hkk.alloc _, q2⟩
end
section
variable (w : World) (base r s d x : Nat) (Fs Fx : List Nat) (B : Nat) (R : RS) (h : ReplicaIs w base r s d x Fs Fx B R)
include h
theorem NextR_is : Calls Tryz.prog 15 #[.pointer (some ⟨r, 0, none⟩)] w fun e w' => e = .returned (.int .i64 (R.next : Nat)) ∧ w = w' := by
  obtain ⟨c0, c1⟩ := h.cells
  have hN : Calls Tryz.prog 44 #[.pointer (some ⟨x, 0, none⟩)] w fun e w' => e = .returned (.int .i64 (R.next : Nat)) ∧ w = w' := by
    obtain ⟨L, hw⟩ := h.win
    exact NextW_is w base x L Fx R.next R.sl hw
  go_enter Tryz.func15, Tryz.ntmps15
  go_wp2_with (refine hN.mono ?_; clear hN; rintro e w' ⟨rfl, rfl⟩)
  go_ret
  exact ⟨rfl, rfl⟩
theorem WaitingR_is : Calls Tryz.prog 14 #[.pointer (some ⟨r, 0, none⟩)] w fun e w' => e = .returned (.int .i64 (cyc R.next R.sl R.sl.length : Nat)) ∧ Keep [] w w' := by
  obtain ⟨c0, c1⟩ := h.cells
  have hN : Calls Tryz.prog 43 #[.pointer (some ⟨x, 0, none⟩)] w fun e w' => e = .returned (.int .i64 (cyc R.next R.sl R.sl.length : Nat)) ∧ Keep [] w w' := by
    obtain ⟨L, hw⟩ := h.win
    exact LenW_is w base x R.next L Fx R.sl hw
  go_enter Tryz.func14, Tryz.ntmps14
  go_wp2_with (refine hN.mono ?_; clear hN; rintro e w' ⟨rfl, hk⟩)
  go_ret
  exact ⟨rfl, hk⟩
end
theorem RetryR_nil (w : World) : Calls Tryz.prog 22 #[.pointer none] w fun e w' => e = .returned (.tuple #[.slice none 0 0, .int .i64 3]) ∧ w = w' := by
  have hR := readyR_nil w
  go_enter Tryz.func22, Tryz.ntmps22
  go_wp2_with (refine hR.mono ?_; clear hR; rintro e w' ⟨rfl, rfl⟩)
  go_ret2
  exact ⟨rfl, rfl⟩
end Go.Proofs.YtglbkndbbhamcaaGreat
namespace Go.Proofs.YtglbkndbbhamcaaGreat
open Go.RowKit Go.Shelf
set_option maxHeartbeats 400000 in
theorem CloneI_any (A : Option Addr) (n c : Nat) (xs : List Int) (w : World) (ha : Rd w A n (ints xs)) (hn : n ≤ 1000000) :
    Calls Tryz.prog 121 #[.slice A n c] w fun e w' => ∃ v, e = .returned v ∧ w'.ownsRow w.heap.size 3 1 v n (ints xs) ∧ Keep [] w w' := by
  have heq := fun (W : World) => Lib.run_eql_slice_nil (P := Tryz.prog) W 92 3 A n c 0 0 Tryz.underlying92
  rcases A with _ | ad
  · obtain rfl : n = 0 := by
      rcases Nat.eq_zero_or_pos n with e | e
      · exact e
      · obtain ⟨b, o, h, _⟩ := ha.2 e
        cases h
    obtain rfl : xs = [] := List.eq_nil_of_length_eq_zero (by simpa using ha.1)
    go_enter Tryz.func121, Tryz.ntmps121
    go_wp2
    go_ret
    exact ⟨_, rfl, World.ownsRow_nil _ _ _ _, Keep.refl _ _⟩
  · have hr := ha.keep ((Keep.refl _ w).alloc (.cells #[] 3))
    have ho : (w.alloc (.cells #[] 3)).ownsRow w.heap.size 3 1 (.slice (some ⟨w.heap.size, 0, none⟩) 0 0) 0 [] := own_full (Blk.new w 3 #[]) (Nat.le_refl _) (by omega) rfl rfl
    go_enter Tryz.func121, Tryz.ntmps121
    go_wp2_with (at_builtin; refine elemInts.wp_app rfl _ _ rfl w.heap.size _ 0 [] rfl ho (some ad) n c (ints xs) rfl hr (ints_one _) (by omega) (by omega) (by simp) ?_)
    intro v' w' hown hk _ _
    go_wp2
    go_ret
    exact ⟨_, rfl, by simpa using hown, ((Keep.refl _ w).alloc _).trans hk (by simp [Value.ownBlock])⟩
theorem nats_ints (l : List Nat) : nats l = ints (l.map (fun (x : Nat) => (x : Int))) := by simp [nats, ints, i64]
set_option maxHeartbeats 2000000 in
set_option maxRecDepth 20000 in
theorem Make_ok (w : World) (d t m p g slot P : Nat) (r : PReg) (BA : Option Addr) (bc : Nat) (bz : List Nat) (OA : Option Addr) (oc : Nat) (oz : List Nat) (SA : Option Addr) (sn sc : Nat) (hb : Rd w BA P (nats bz)) (ho : Rd w OA P (nats oz)) (hP : P ≤ 1000) (st : PSt) :
    Calls Tryz.prog 67 #[.pointer (some ⟨d, 0, none⟩), .pointer (some ⟨t, 0, none⟩), .pointer (some ⟨m, 0, none⟩), .pointer (some ⟨p, 0, none⟩), .pointer (some ⟨g, 0, none⟩), .int .i64 (slot : Nat),
      .agg (r.cs (.slice BA P bc) (.slice OA P oc) (.slice SA sn sc)).toArray, .agg #[.int .i64 st.mode, .int .i64 st.view, .int .i64 st.epoch, .int .i64 st.seq, .int .i64 st.done, .int .i64 st.mount, .int .i64 st.gen, .int .i64 0, .int .i64 0, .int .i64 0]] w
      fun e w' => ∃ s L0 L1, e = .returned (.pointer (some ⟨s, 0, none⟩)) ∧ w.heap.size ≤ s ∧
        Blk w' s 95 #[.pointer (some ⟨d, 0, none⟩), .pointer (some ⟨g, 0, none⟩), .pointer (some ⟨t, 0, none⟩), .pointer (some ⟨m, 0, none⟩), .pointer (some ⟨p, 0, none⟩),
          .int .i64 st.mode, .int .i64 st.view, .int .i64 st.epoch, .int .i64 st.seq, .int .i64 st.done, .int .i64 st.mount, .int .i64 st.gen, .int .i64 0, .int .i64 0, .int .i64 0, .int .i64 slot, L0, L1] ∧
        w'.ownsRow w.heap.size 3 1 L0 P (nats bz) ∧ w'.ownsRow w.heap.size 3 1 L1 P (nats oz) ∧ Keep [] w w' := by
  obtain ⟨gen, view, mode, epoch, seq, done, ⟨seg, off, lsn, prev, mount⟩⟩ := r
  obtain ⟨smode, sview, sepoch, sseq, sdone, smount, sgen⟩ := st
  simp only [PReg.cs, PPos.cs, List.cons_append, List.nil_append] at *
  rw [nats_ints] at hb ho
  rw [nats_ints, nats_ints]
  obtain ⟨wA, hwA⟩ : ∃ wA, wA = (w.alloc (.cells #[.int .i64 gen, .int .i64 view, .int .i64 mode, .int .i64 epoch, .int .i64 seq, .int .i64 done, .int .i64 seg, .int .i64 off, .int .i64 lsn, .int .i64 prev, .int .i64 mount, .slice BA P bc, .slice OA P oc, .slice SA sn sc] 135)).alloc (.cells #[.int .i64 smode, .int .i64 sview, .int .i64 sepoch, .int .i64 sseq, .int .i64 sdone, .int .i64 smount, .int .i64 sgen, .int .i64 0, .int .i64 0, .int .i64 0] 48) := ⟨_, rfl⟩
  have hkA : Keep [] w wA := by rw [hwA]; exact ((Keep.refl _ _).alloc _).alloc _
  have hbR : Blk wA w.heap.size 135 #[.int .i64 gen, .int .i64 view, .int .i64 mode, .int .i64 epoch, .int .i64 seq, .int .i64 done, .int .i64 seg, .int .i64 off, .int .i64 lsn, .int .i64 prev, .int .i64 mount, .slice BA P bc, .slice OA P oc, .slice SA sn sc] := by
    rw [hwA]; exact (Blk.new w _ _).keep0 ((Keep.refl _ _).alloc _)
  have hbS : Blk wA (w.heap.size + 1) 48 #[.int .i64 smode, .int .i64 sview, .int .i64 sepoch, .int .i64 sseq, .int .i64 sdone, .int .i64 smount, .int .i64 sgen, .int .i64 0, .int .i64 0, .int .i64 0] := by
    rw [hwA]
    have := Blk.new (w.alloc (.cells #[.int .i64 gen, .int .i64 view, .int .i64 mode, .int .i64 epoch, .int .i64 seq, .int .i64 done, .int .i64 seg, .int .i64 off, .int .i64 lsn, .int .i64 prev, .int .i64 mount, .slice BA P bc, .slice OA P oc, .slice SA sn sc] 135)) 48 #[.int .i64 smode, .int .i64 sview, .int .i64 sepoch, .int .i64 sseq, .int .i64 sdone, .int .i64 smount, .int .i64 sgen, .int .i64 0, .int .i64 0, .int .i64 0]
    rw [show ∀ o, (w.alloc o).heap.size = w.heap.size + 1 from fun o => by simp] at this
    exact this
  go_enter Tryz.func67, Tryz.ntmps67
  go_wp2_with fail
  rw [← hwA]
  clear hwA
  have hC0 := CloneI_any BA P bc _ wA.drew (hb.keep hkA.drew) (by omega)
  refine wp_region_ht (fun w' => w'.cell? ⟨w.heap.size + 1, 0, none⟩ = some (.int .i64 smode) ∧ w'.cell? ⟨w.heap.size + 1, 1, none⟩ = some (.int .i64 sview) ∧ w'.cell? ⟨w.heap.size + 1, 2, none⟩ = some (.int .i64 sepoch) ∧ w'.cell? ⟨w.heap.size + 1, 3, none⟩ = some (.int .i64 sseq) ∧ w'.cell? ⟨w.heap.size + 1, 4, none⟩ = some (.int .i64 sdone) ∧ w'.cell? ⟨w.heap.size + 1, 5, none⟩ = some (.int .i64 smount) ∧ w'.cell? ⟨w.heap.size + 1, 6, none⟩ = some (.int .i64 sgen) ∧ w'.cell? ⟨w.heap.size + 1, 7, none⟩ = some (.int .i64 0) ∧ w'.cell? ⟨w.heap.size + 1, 8, none⟩ = some (.int .i64 0) ∧ w'.cell? ⟨w.heap.size + 1, 9, none⟩ = some (.int .i64 0) ∧ w'.cell? ⟨w.heap.size, 11, none⟩ = some (.slice BA P bc) ∧ w'.cell? ⟨w.heap.size, 12, none⟩ = some (.slice OA P oc)) 14 [(0, false), (1, false), (2, false), (3, false), (4, false), (5, false), (6, false), (7, false), (8, false), (10, false), (11, false), (9, true), (12, true), (13, false)]
    (by kernel_rfl) (by kernel_rfl) (fun _ _ d _ _ h => by cases d <;> exact h) ⟨(by simpa using (hbS.drew).cell 0), (by simpa using (hbS.drew).cell 1), (by simpa using (hbS.drew).cell 2), (by simpa using (hbS.drew).cell 3), (by simpa using (hbS.drew).cell 4), (by simpa using (hbS.drew).cell 5), (by simpa using (hbS.drew).cell 6), (by simpa using (hbS.drew).cell 7), (by simpa using (hbS.drew).cell 8), (by simpa using (hbS.drew).cell 9), (by simpa using (hbR.drew).cell 11), (by simpa using (hbR.drew).cell 12)⟩ ?_
  simp only [picked, List.filterMap_cons, List.filterMap_nil, List.getElem?_cons_zero, List.getElem?_cons_succ, Option.map_some, List.drop_succ_cons, List.drop_zero]
  iterate 11 (refine wpT_held ?_ (by rfl) ?_ ?_; rotate_left; (focus (intro W hW; obtain ⟨hW0, hW1, hW2, hW3, hW4, hW5, hW6, hW7, hW8, hW9, hW10, hW11⟩ := hW; go_simp; first | done | with_reducible rfl)); simp only [Act.put, PU])
  refine wpT_loud (by rfl) (fun K hK => ?_)
  go_wp2_with (refine hC0.mono ?_; clear hC0; rintro e w1 ⟨v1, rfl, hv1, hk1⟩)
  have hkB : Keep [] wA w1 := (Keep.refl _ _).drew.trans0 hk1
  have hC1 := CloneI_any OA P oc _ w1 (ho.keep (hkA.trans0 hkB)) (by omega)
  obtain ⟨VA1, vc1, rfl, _⟩ := own_form hv1
  refine hK _ _ (⟨(by simpa using (hbS.keep0 hkB).cell 0), (by simpa using (hbS.keep0 hkB).cell 1), (by simpa using (hbS.keep0 hkB).cell 2), (by simpa using (hbS.keep0 hkB).cell 3), (by simpa using (hbS.keep0 hkB).cell 4), (by simpa using (hbS.keep0 hkB).cell 5), (by simpa using (hbS.keep0 hkB).cell 6), (by simpa using (hbS.keep0 hkB).cell 7), (by simpa using (hbS.keep0 hkB).cell 8), (by simpa using (hbS.keep0 hkB).cell 9), (by simpa using (hbR.keep0 hkB).cell 11), (by simpa using (hbR.keep0 hkB).cell 12)⟩) ?_
  clear hK K
  try simp only [Act.put, PU]
  refine wpT_loud (by rfl) (fun K hK => ?_)
  go_wp2_with (refine hC1.mono ?_; clear hC1; rintro e w2 ⟨v2, rfl, hv2, hk2⟩)
  have hkC : Keep [] wA w2 := hkB.trans0 hk2
  obtain ⟨VA2, vc2, rfl, _⟩ := own_form hv2
  refine hK _ _ (⟨(by simpa using (hbS.keep0 hkC).cell 0), (by simpa using (hbS.keep0 hkC).cell 1), (by simpa using (hbS.keep0 hkC).cell 2), (by simpa using (hbS.keep0 hkC).cell 3), (by simpa using (hbS.keep0 hkC).cell 4), (by simpa using (hbS.keep0 hkC).cell 5), (by simpa using (hbS.keep0 hkC).cell 6), (by simpa using (hbS.keep0 hkC).cell 7), (by simpa using (hbS.keep0 hkC).cell 8), (by simpa using (hbS.keep0 hkC).cell 9), (by simpa using (hbR.keep0 hkC).cell 11), (by simpa using (hbR.keep0 hkC).cell 12)⟩) ?_
  clear hK K
  try simp only [Act.put, PU]
  iterate 1 (refine wpT_held ?_ (by rfl) ?_ ?_; rotate_left; (focus (intro W hW; obtain ⟨hW0, hW1, hW2, hW3, hW4, hW5, hW6, hW7, hW8, hW9, hW10, hW11⟩ := hW; go_simp; first | done | with_reducible rfl)); simp only [Act.put, PU])
  refine wpT_nil ?_
  have hv1' := own_base (own_keep0 hv1 hk2) (show w.heap.size ≤ wA.drew.heap.size from hkA.size)
  have hv2' := own_base hv2 (show w.heap.size ≤ w1.heap.size from Nat.le_trans hkA.size hkB.size)
  go_wp2_with fail
  go_ret
  refine ⟨_, _, _, rfl, Nat.le_trans hkA.size hkC.size, Blk.new _ _ _, own_alloc hv1' _, own_alloc hv2' _, (hkA.trans0 hkC).alloc _⟩
end Go.Proofs.YtglbkndbbhamcaaGreat
