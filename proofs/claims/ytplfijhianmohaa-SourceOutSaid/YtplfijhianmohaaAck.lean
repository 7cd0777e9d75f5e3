/-
  Contracts: the reference's FrameBytes of an answer; the law's 'ack'.
-/
import Derived.Test.YtplfijhianmohaaRefSum
import Derived.Test.YtplfijhianmohaaFrame3
namespace Go.Proofs.Ytplfijhianmohaa
open Go.RowKit

set_option maxHeartbeats 2000000 in
set_option maxRecDepth 20000 in
theorem FrameMayR_ack (v s e d : Nat) (hv : 1 ≤ v ∧ v ≤ 2147483647) (hs : s ≤ 2147483647) (he : e ≤ 2147483647) (hd : d ≤ s) (w : World) :
    Calls Try.prog 46 #[frv 8 v s 0 0 e d (.slice none 0 0)] w fun r w' => r = .returned (.bool true) ∧ Keep [] w w' := by
  have T1 := fun W => WithinR_is (v : Nat) 1 2147483647 true (by simp; omega) W
  obtain ⟨bs, hbs⟩ : ∃ bs, decide ((1 : Int) ≤ (s : Nat) ∧ ((s : Nat) : Int) ≤ 2147483647) = bs := ⟨_, rfl⟩
  have T2 := fun W => WithinR_is (s : Nat) 1 2147483647 bs hbs W
  have T3 := fun W => WithinR_is 0 0 63 true (by simp) W
  have T4 := fun W => WithinR_is (s : Nat) 0 2147483647 true (by simp; omega) W
  have T5 := fun W => WithinR_is (e : Nat) 0 2147483647 true (by simp; omega) W
  have T6 := fun W => WithinR_is (d : Nat) 0 (s : Nat) true (by simp; omega) W
  have HBS := hide hbs
  clear hbs
  unfold frv
  go_enter Try.func46, Try.ntmps46
  go_wp2_with (first
    | (refine (T1 _).mono ?_; clear T1; rintro r w' ⟨rfl, rfl⟩)
    | (refine (T2 _).mono ?_; clear T2; rintro r w' ⟨rfl, rfl⟩)
    | (refine (T3 _).mono ?_; clear T3; rintro r w' ⟨rfl, rfl⟩)
    | (refine (T4 _).mono ?_; clear T4; rintro r w' ⟨rfl, rfl⟩)
    | (refine (T5 _).mono ?_; clear T5; rintro r w' ⟨rfl, rfl⟩)
    | (refine (T6 _).mono ?_; clear T6; rintro r w' ⟨rfl, rfl⟩))
  go_ret
  exact ⟨rfl, (Keep.refl _ _).alloc _⟩

theorem PutR_acc {w1 W0 : World} {r k N : Nat} {v : Value} {H : List UInt8} (hK : Keep [] w1 W0) (hR : RefAt W0 w1.heap.size r v (laid (List.replicate N 0) 0 H) H.length) (hk : k = 1 ∨ k = 4) (zs : List Nat) (hz : ∀ z ∈ zs, z < 256 ^ k) (hm0 : 0 < zs.length) (hm : H.length + k * zs.length ≤ N)
    (cs : Array Value) (hcs : cs.toList = nats zs) (m : Nat) (hml : m = zs.length) :
    Calls Try.prog 49 #[.pointer (some ⟨r, 0, none⟩), .int .i64 (k : Nat), .slice (some ⟨W0.heap.size, 0, none⟩) m m] (W0.alloc (.cells cs 3)) fun e w' => e = .returned (.bool true) ∧
      RefAt w' w1.heap.size r v (laid (List.replicate N 0) 0 (H ++ zs.flatMap (le k))) (H ++ zs.flatMap (le k)).length ∧ Keep [] w1 w' := by
  subst hml
  have hka := hK.alloc (.cells cs 3)
  have hRA : RefAt (W0.alloc (.cells cs 3)) w1.heap.size r v _ _ := hR.keep0 ((Keep.refl _ _).alloc _)
  have hrd : Rd (W0.alloc (.cells cs 3)) (some ⟨W0.heap.size, 0, none⟩) zs.length (nats zs) := by
    have hl : cs.toList.length = zs.length := by rw [hcs, length_nats]
    have := Rd.of_blk (n := zs.length) (Blk.new W0 3 cs) (by simpa using Nat.le_of_eq hl.symm)
    rwa [hcs, List.take_of_length_le (by simp)] at this
  refine (PutR _ _ r _ k v _ hRA hk _ zs.length zs.length zs hrd (fun p hp => ?_) hz hm0 (by rw [length_rep _ _ (by omega)]; exact hm)).mono ?_
  · cases hp
    intro hx
    rcases List.mem_cons.1 hx with e | hx
    · exact absurd (show W0.heap.size = r from e) (Nat.ne_of_gt hR.blk.lt)
    · exact absurd (own_mem hR.own hx).2 (Nat.lt_irrefl _)
  · rintro e w' ⟨rfl, h1, h2⟩
    refine ⟨rfl, ?_, hka.trans h2 (fun x hx => .inr (hRA.fresh x hx))⟩
    rw [laid_more _ _ _ (by rw [flat_le_length]; exact hm)] at h1
    rw [List.length_append, flat_le_length]
    exact h1

theorem LayR_acc {w1 W0 : World} {r N : Nat} {v : Value} {H : List UInt8} (hK : Keep [] w1 W0) (hR : RefAt W0 w1.heap.size r v (laid (List.replicate N 0) 0 H) H.length) (S : Option Addr) (m sc : Nat) (ys : List UInt8) (hr : Rd W0 S m (bys ys)) (hm : H.length + m ≤ N) :
    Calls Try.prog 48 #[.pointer (some ⟨r, 0, none⟩), .slice S m sc] W0 fun e w' => e = .returned (.bool true) ∧
      RefAt w' w1.heap.size r v (laid (List.replicate N 0) 0 (H ++ ys)) (H ++ ys).length ∧ Keep [] w1 w' := by
  have hl : ys.length = m := by simpa using hr.1
  refine (LayR _ _ r _ v _ hR S m sc ys hr (by rw [length_rep _ _ (by omega)]; exact hm)).mono ?_
  rintro e w' ⟨rfl, h1, h2⟩
  refine ⟨rfl, ?_, hK.trans h2 (fun x hx => .inr (hR.fresh x hx))⟩
  rw [laid_more _ _ _ (by omega)] at h1
  rw [List.length_append, hl]
  exact h1

set_option maxHeartbeats 4000000 in
set_option maxRecDepth 20000 in
theorem FrameBytes_ack (v s e d : Nat) (hv : 1 ≤ v ∧ v ≤ 2147483647) (hs : s ≤ 2147483647) (he : e ≤ 2147483647) (hd : d ≤ s) (w : World) :
    Calls Try.prog 32 #[frv 8 v s 0 0 e d (.slice none 0 0)] w fun r w' => ∃ u, r = .returned (.tuple #[u, .int .i64 0]) ∧ w'.ownsRow w.heap.size 5 1 u 25 (bys (frBytes 8 v s 0 0 e d [])) ∧ Keep [] w w' := by
  have hT := fun W => FrameMayR_ack v s e d hv hs he hd W
  unfold frv at hT ⊢
  have hbl := Blk.new w 54 #[.int .i64 8, .int .i64 v, .int .i64 s, .int .i64 0, .int .i64 0, .int .i64 e, .int .i64 d, .slice none 0 0]
  have hv2 : v ≤ 2147483647 := hv.2
  have hd2 : d ≤ 2147483647 := by omega
  clear hv
  go_enter Try.func32, Try.ntmps32
  go_wp2_with (
    (refine (hT _).mono ?_)
    rintro r w1 ⟨rfl, hk1⟩
    clear hT
    have hB1 := hbl.keep0 hk1
    obtain ⟨c0, c1, c2, c3, c4, c5, c6, c7⟩ := frame_cells hB1
    have hlt := hB1.lt)
  have hN := NewRow_any 25 (by omega) w1
  go_wp2_with (
    (refine hN.mono ?_)
    rintro r w2 ⟨g, u, rfl, hR0, hK⟩
    clear hN
    have hB2 := hB1.keep0 hK
    clear c0 c1 c2 c3 c4 c5 c6 c7
    obtain ⟨c0, c1, c2, c3, c4, c5, c6, c7⟩ := frame_cells hB2
    have hlt2 := hB2.lt)
  have hR : RefAt w2 w1.heap.size g u (laid (List.replicate 25 0) 0 []) ([] : List UInt8).length := by rw [laid_nil]; exact hR0
  clear hR0
  have hKA := hK.alloc (.cells #[.int .u8 75, .int .u8 70, .int .u8 8] 5)
  have hrd : Rd (w2.alloc (.cells #[.int .u8 75, .int .u8 70, .int .u8 8] 5)) (some ⟨w2.heap.size, 0, none⟩) 3 (bys ([75, 70, 8].flatMap (le 1))) := by
    have := Rd.of_blk (n := 3) (Blk.new w2 5 #[.int .u8 75, .int .u8 70, .int .u8 8]) (by simp)
    exact this
  have hL := LayR_acc hKA (hR.keep0 ((Keep.refl _ _).alloc _)) _ 3 3 _ hrd (by simp)
  go_wp2_with (
    (refine hL.mono ?_)
    clear hL hrd hKA
    rintro r w3 ⟨rfl, hR3, hK3⟩
    clear hR hK hB2 c0 c1 c2 c3 c4 c5 c6 c7 hlt2
    have hB2 := hB1.keep0 hK3
    obtain ⟨c0, c1, c2, c3, c4, c5, c6, c7⟩ := frame_cells hB2
    have hlt2 := hB2.lt
    have hR := hR3
    have hK := hK3
    clear hR3 hK3)
  have hP := PutR_acc (k := 4) hK hR (by omega) [v, s] (by simp <;> omega) (by simp) (by simp [flat_le_length] <;> omega) #[.int .i64 v, .int .i64 s] rfl 2 rfl
  go_wp2_with (
    (refine hP.mono ?_)
    clear hP
    rintro r w3 ⟨rfl, hR3, hK3⟩
    clear hR hK hB2 c0 c1 c2 c3 c4 c5 c6 c7 hlt2
    have hB2 := hB1.keep0 hK3
    obtain ⟨c0, c1, c2, c3, c4, c5, c6, c7⟩ := frame_cells hB2
    have hlt2 := hB2.lt
    have hR := hR3
    have hK := hK3
    clear hR3 hK3)
  have hP := PutR_acc (k := 1) hK hR (by omega) [0, 0] (by simp <;> omega) (by simp) (by simp [flat_le_length] <;> omega) #[.int .i64 0, .int .i64 0] rfl 2 rfl
  go_wp2_with (
    (refine hP.mono ?_)
    clear hP
    rintro r w3 ⟨rfl, hR3, hK3⟩
    clear hR hK hB2 c0 c1 c2 c3 c4 c5 c6 c7 hlt2
    have hB2 := hB1.keep0 hK3
    obtain ⟨c0, c1, c2, c3, c4, c5, c6, c7⟩ := frame_cells hB2
    have hlt2 := hB2.lt
    have hR := hR3
    have hK := hK3
    clear hR3 hK3)
  have hP := PutR_acc (k := 4) hK hR (by omega) [e, d] (by simp <;> omega) (by simp) (by simp [flat_le_length] <;> omega) #[.int .i64 e, .int .i64 d] rfl 2 rfl
  go_wp2_with (
    (refine hP.mono ?_)
    clear hP
    rintro r w3 ⟨rfl, hR3, hK3⟩
    clear hR hK hB2 c0 c1 c2 c3 c4 c5 c6 c7 hlt2
    have hB2 := hB1.keep0 hK3
    obtain ⟨c0, c1, c2, c3, c4, c5, c6, c7⟩ := frame_cells hB2
    have hlt2 := hB2.lt
    have hR := hR3
    have hK := hK3
    clear hR3 hK3)
  have hL := LayR_acc hK hR none 0 0 [] (Rd.nil _ _) (by simp [flat_le_length] <;> omega)
  go_wp2_with (
    (refine hL.mono ?_)
    clear hL
    rintro r w3 ⟨rfl, hR3, hK3⟩
    clear hR hK hB2 c0 c1 c2 c3 c4 c5 c6 c7 hlt2)
  have hbody : (((([] ++ [75, 70, 8].flatMap (le 1)) ++ [v, s].flatMap (le 4)) ++ [0, 0].flatMap (le 1)) ++ [e, d].flatMap (le 4)) ++ [] = frBody 8 v s 0 0 e d [] := rfl
  rw [hbody] at hR3
  obtain ⟨Bd, hBd⟩ : ∃ Bd, Bd = frBody 8 v s 0 0 e d [] := ⟨_, rfl⟩
  have hBl : Bd.length = 21 := by rw [hBd]; simp
  rw [← hBd, hBl] at hR3
  have HBD := hide hBd
  clear hBd hbody
  obtain ⟨g2, gc, rfl, hgc⟩ := own_some hR3.own (by rw [length_rep _ _ (by omega)]; omega)
  have hlr := length_rep 25 Bd (by omega)
  have hrd3 := (Rd.of_own hR3.own).take (k := 21) (by rw [hlr]; omega)
  have htk : (laid (List.replicate 25 0) 0 Bd).take 21 = Bd := by rw [← hBl]; unfold laid; simp
  rw [bys_take, htk] at hrd3
  have h0 := hR3.c0
  have h1 := hR3.c1
  rw [hlr] at h0 hgc
  have hTS := SumR (some ⟨g2, 0, none⟩) 21 gc Bd w3.drew hrd3.drew (by omega)
  have hTO := OneR (k := 4) w1.heap.size g 21 (crcSum Bd) _ _ hR3.drew (by omega) (crcSum_lt Bd) (by rw [hlr]; omega) hK3.drew rfl
  have h21 : (21 : Int) ≤ (gc : Nat) := by omega
  have HLR := hide hlr
  have HBL := hide hBl
  clear hlr hBl htk
  refine wp_region_ht (fun w' => w'.cell? ⟨g, 0, none⟩ = some (.slice (some ⟨g2, 0, none⟩) 25 gc) ∧ w'.cell? ⟨g, 1, none⟩ = some (.int .i64 21)) 11 [(0, false), (1, false), (2, false), (3, false), (4, false), (5, false), (6, false), (7, false), (8, false), (9, false), (10, true)]
    (by kernel_rfl) (by kernel_rfl) (fun _ _ d _ _ h => by cases d <;> exact h) ⟨h0, h1⟩ ?_
  simp only [picked, List.filterMap_cons, List.filterMap_nil, List.getElem?_cons_zero, List.getElem?_cons_succ, Option.map_some, List.drop_succ_cons, List.drop_zero]
  iterate 10 (refine wpT_held ?_ (by rfl) ?_ ?_; rotate_left; (focus (intro W hW; obtain ⟨hW1, hW2⟩ := hW; go_simp; first | done | with_reducible rfl)); simp only [Act.put, List.setIfInBounds_toArray, List.set_cons_zero, List.set_cons_succ])
  refine wpT_loud (by rfl) (fun K hK => ?_)
  go_wp2_with (refine hTS.mono ?_; clear hTS; rintro r w' ⟨rfl, rfl⟩)
  refine hK _ _ (⟨h0, h1⟩) ?_
  clear hK K
  try simp only [Act.put, List.setIfInBounds_toArray, List.set_cons_zero, List.set_cons_succ]
  refine wpT_nil ?_
  go_wp2_with (
    (refine hTO.mono ?_)
    clear hTO
    rintro r w4 ⟨rfl, hR4, hK4⟩
    have h0' := hR4.c0
    rw [unhide HLR] at h0')
  go_ret2
  have hBL := unhide HBL
  have hown := hR4.own
  have hkA : Keep [] w w1 := ((Keep.refl _ _).alloc _).trans0 hk1
  have e1 : laid (laid (List.replicate 25 0) 0 Bd) 21 (le 4 (crcSum Bd)) = frBytes 8 v s 0 0 e d [] := by
    rw [← hBL, laid_more _ _ _ (by rw [length_le]; omega), laid_all _ _ (by rw [List.length_append, length_le, List.length_replicate]; omega), unhide HBD]
    rfl
  rw [e1, unhide HLR, show (frBytes 8 v s 0 0 e d []).length = 25 by simp] at hown
  exact ⟨_, rfl, own_base hown hkA.size, hkA.trans0 hK4⟩

set_option maxHeartbeats 1000000 in
theorem ack_any (v s e d : Nat) (hv : 1 ≤ v ∧ v ≤ 2147483647) (hs : s ≤ 2147483647) (he : e ≤ 2147483647) (hd : d ≤ s) (w : World) :
    Calls Try.prog 12 #[.int .i64 (v : Nat), .int .i64 (s : Nat), .int .i64 (e : Nat), .int .i64 (d : Nat)] w fun r w' => ∃ u, r = .returned u ∧ w'.ownsRow w.heap.size 5 1 u 25 (bys (frBytes 8 v s 0 0 e d [])) ∧ Keep [] w w' := by
  have hT := FrameBytes_ack v s e d hv hs he hd w
  unfold frv at hT
  go_enter Try.func12, Try.ntmps12
  go_wp2_with (refine hT.mono ?_; clear hT; rintro r w' ⟨u, rfl, hu, hk⟩)
  go_ret
  exact ⟨u, rfl, hu, hk⟩
end Go.Proofs.Ytplfijhianmohaa
