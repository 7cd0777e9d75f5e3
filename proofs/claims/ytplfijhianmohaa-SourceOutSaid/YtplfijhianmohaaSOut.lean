/-
  SourceOut: the walk.
-/
import Derived.Test.YtplfijhianmohaaSLaw2
import Derived.Test.YtplfijhianmohaaSKeeps
import Derived.Test.YtplfijhianmohaaOp
namespace Go.Proofs.Ytplfijhianmohaa
open Go.RowKit

theorem dec_frB {w w' : World} {r : Ending} {o : POp} {v n : Nat} (hm : FrMay o.k v n o.b o.c o.e 0 o.d) (h : DecPost w (frB v n o) r w') :
    Keep [] w w' ∧ ∃ UA uc, r = .returned (.tuple #[.agg #[.int .i64 o.k, .int .i64 v, .int .i64 n, .int .i64 o.b, .int .i64 o.c, .int .i64 o.e, .int .i64 0, .slice UA o.d.length uc], .int .i64 0]) ∧ w'.ownsRow w.heap.size 5 1 (.slice UA o.d.length uc) o.d.length (bys o.d) := by
  obtain ⟨k, hk⟩ : ∃ k : Nat, o.k = k := ⟨o.k.toNat, by have := hm.2; omega⟩
  obtain ⟨b, hb⟩ : ∃ k : Nat, o.b = k := ⟨o.b.toNat, by have := hm.2; omega⟩
  obtain ⟨c, hc⟩ : ∃ k : Nat, o.c = k := ⟨o.c.toNat, by have := hm.2; omega⟩
  obtain ⟨e, he⟩ : ∃ k : Nat, o.e = k := ⟨o.e.toNat, by have := hm.2; omega⟩
  unfold frB at h
  rw [hk, hb, hc, he] at hm h ⊢
  obtain ⟨hK, u, hr, hu⟩ := DecPost.of_frame hm h
  obtain ⟨UA, uc, rfl, _⟩ := own_form hu
  exact ⟨hK, UA, uc, hr, hu⟩

set_option maxHeartbeats 8000000 in
set_option maxRecDepth 100000 in
theorem sout_walk (A B : Option Addr) (len cap m capB : Nat) (view size : Int) (zs ks : List Int) (w : World) (hz : Rd w A len (ints zs)) (hlc : len ≤ 9223372036854775807) (hp : Rd w B m (ints ks)) (hmc : m ≤ 9223372036854775807) :
    Calls Try.prog 6 #[.int .i64 view, .int .i64 size, .slice A len cap, .slice B m capB] w fun e w' => e = .returned (.bool true) ∧ Keep [] w w' := by
  by_cases hlen : len ≤ 60 ∧ m ≤ 30
  rotate_left
  · have hA := awake_any w
    go_enter Try.func6, Try.ntmps6
    by_cases hlen' : len ≤ 60
    · go_wp2_with (refine hA.mono ?_; clear hA; rintro e w1 ⟨rfl, hk1⟩)
      go_ret
      exact ⟨rfl, hk1⟩
    · go_wp2_with (refine hA.mono ?_; clear hA; rintro e w1 ⟨rfl, hk1⟩)
      go_ret
      exact ⟨rfl, hk1⟩
  obtain ⟨hlen, hm⟩ := hlen
  have hR1 := Round_nat view 1000 1000 rfl (by omega) w
  have hR2 := Round_nat size 16 16 rfl (by omega) w
  go_enter Try.func6, Try.ntmps6
  go_wp2_with (first
    | (refine hR1.mono ?_
       clear hR1
       rintro e w' ⟨v0, hv0, rfl, rfl⟩)
    | (refine hR2.mono ?_
       clear hR2
       rintro e w' ⟨n0, hn0, rfl, rfl⟩))
  obtain ⟨v, hv, hv1, hv2⟩ : ∃ v : Nat, (1 : Int) + (v0 : Nat) = (v : Int) ∧ 1 ≤ v ∧ v ≤ 1000 := ⟨1 + v0, by omega, by omega, by omega⟩
  obtain ⟨nn, hn, hn1, hn2⟩ : ∃ n : Nat, (1 : Int) + (n0 : Nat) = (n : Int) ∧ 1 ≤ n ∧ n ≤ 16 := ⟨1 + n0, by omega, by omega, by omega⟩
  rw [hv, hn]
  clear hv hn hv0 hn0
  have H1 := NewS_yes v nn (by omega) (by omega) w
  go_wp2_with (first
    | (refine H1.mono ?_
       clear H1
       rintro e w1 ⟨s, rfl, hS⟩
       have hT := said_any w w1 s v nn (by omega) hS A len cap zs hz hlen)
    | (refine hT.mono ?_
       clear hT
       rintro e w2 ⟨OA, oc, L, os, oz, rfl, hS2, hos, hoz, hO⟩
       have hE := saidUp_ep zs len
       generalize (saidUp zs len).2 = ep at hE hS2))
  clear hS
  have hoc : len ≤ oc ∧ oc ≤ 9223372036854775807 := by
    obtain ⟨OA', oc', h1, h2, h3, _⟩ := own_form hO.row
    have hl : oz.length = len := by have := congrArg List.length hoz; rwa [List.length_map, saidUp_len] at this
    simp only [Value.slice.injEq] at h1
    obtain ⟨_, h1, h1'⟩ := h1
    omega
  have HOS := hide hos
  have HOZ := hide hoz
  clear hos hoz
  go_loopw [14] (fun i wr => ∃ (k Q : Nat) (L : Value), k ≤ m + 1 ∧ i = .int .i64 ((k : Nat) - 1) ∧ (k = 0 → Q = 0) ∧ Q ≤ len ∧ Src w wr s v nn ep len Q 0 L os ∧ OHold wr w.heap.size (s :: L.ownBlock.toList) (.slice OA len oc) oz) (fun i _ => (m - (intOf i)).toNat)
  case atStart => exact ⟨0, 0, L, by omega, rfl, fun _ => rfl, by omega, hS2, hO⟩
  case round =>
    clear hS2 hO
    obtain ⟨k, Q, L, hk, rfl, hkQ, hQl, hS, hO⟩ := hrel
    rcases Nat.lt_or_ge m k with hlt | hlt
    · have hA := awake_any wr
      go_wp2_with (refine hA.mono ?_; clear hA; rintro e w1 ⟨rfl, hk1⟩)
      go_ret
      exact ⟨rfl, hS.keep.trans0 hk1⟩
    · have hosl : os.length ≤ 500 := by have := hS.len; omega
      have hmay : ∀ i o, (os.map (·.2))[i]? = some o → FrMay o.k (v : Nat) ((0 + 1 + i : Nat) : Int) o.b o.c o.e 0 o.d ∧ o.k ≠ 8 ∧ o.k ≠ 9 := by
        intro i o ho
        rw [unhide HOS] at ho
        exact saidUp_may zs len v hlen (by omega) 0 i o ho
      have HMAY := hide hmay
      clear hmay
      rcases Nat.eq_zero_or_pos k with h0 | h0
      · subst h0
        rw [show (((0 : Nat) : Int) - 1) = -1 from rfl]
        obtain rfl : Q = 0 := hkQ rfl
        obtain ⟨wr0, hwr0⟩ : ∃ wr0, wr0 = wr := ⟨_, rfl⟩
        rw [← hwr0] at hS hO
        rw [← hwr0]
        clear hwr0
        have hS5 := hS
        have hO4 := hO
        have hO1 := Out_any w wr0 s v nn ep len 0 0 L os hS5 hosl (by omega) (by omega) (unhide HMAY)
        clear hS hO
        rcases Int.lt_or_le (len : Int) (nn : Int) with hmin | hmin
        · go_wp2_with (
              refine hO1.mono ?_
              clear hO1
              rintro e w5 ⟨A1, m1, c1, us, rfl, hr1, hb1, hu1, hk5⟩
              obtain ⟨hul, hua⟩ := out_at hu1
              rw [unhide HOS, saidUp_len] at hul
              clear hu1
              have hus : us.length = m1 := by have := hr1.1; rwa [List.length_map] at this
              have hne : ((m1 : Int) != (len : Int)) = false := by rw [bne_eq_false_iff_eq]; omega
              have hm60 : m1 ≤ 60 := by omega
              clear hul)
          clear hne
          go_loopw [17] (fun i wr => ∃ j : Nat, j ≤ m1 ∧ i = .int .i64 (j : Nat) ∧ Keep [] w5 wr) (fun i _ => m1 - (intOf i).toNat)
          case atStart => exact ⟨0, Nat.zero_le _, rfl, Keep.refl _ _⟩
          case round =>
            obtain ⟨j, hj, rfl, hkj⟩ := hrel
            by_cases hjl : j < m1
            · obtain ⟨o, p, hpj, hoj, hp2⟩ := hua j (by omega)
              have hpm : p ∈ us := List.mem_of_getElem? hpj
              obtain ⟨PA, pn, pc, hps, _, _, hpr⟩ := hb1 p hpm
              obtain ⟨ab, ao, x, hA1, hx, hab, hcell⟩ := (hr1.keep hkj).at_ hjl
              rw [List.getElem?_map, hpj, Option.map_some, Option.some.injEq, hps] at hx
              subst hA1 hx
              have hmo := saidUp_may zs len v hlen (by omega) 0 (0 + j) o (by rw [List.drop_zero, ← unhide HOS]; exact hoj)
              rw [show 0 + 1 + (0 + j) = 0 + j + 1 by omega] at hmo
              rw [show 0 + 1 + j = 0 + j + 1 by omega] at hp2
              rw [hp2] at hpr
              obtain ⟨hmo, ho8, ho9⟩ := hmo
              have hdl : o.d.length ≤ 64 := hmo.small
              have hpn : 25 + o.d.length = pn := by have := hpr.1; simpa [frB] using this
              have hpn2 : 25 ≤ pn ∧ pn ≤ 89 := by omega
              have HPN := hide hpn
              clear hpn
              have hD := decodeWord PA pn pc _ wr (hpr.keep hkj) hpn2.1 (by omega)
              go_wp2_with (first
                | (refine hD.mono ?_
                   clear hD
                   rintro e w6 hP6
                   obtain ⟨hk6, UA, uc, rfl, hu6⟩ := dec_frB hmo hP6
                   clear hP6))
              have hB6 := Blk.new w6 54 #[.int .i64 o.k, .int .i64 v, .int .i64 (((j : Nat) : Int) + 1), .int .i64 o.b, .int .i64 o.c, .int .i64 o.e, .int .i64 0, .slice UA o.d.length uc]
              have hkA : Keep [] w6 (w6.alloc (.cells #[.int .i64 o.k, .int .i64 v, .int .i64 (((j : Nat) : Int) + 1), .int .i64 o.b, .int .i64 o.c, .int .i64 o.e, .int .i64 0, .slice UA o.d.length uc] 54)) := (Keep.refl _ _).alloc _
              generalize w6.alloc _ = W6 at *
              generalize w6.heap.size = f6 at *
              have hOp := Op_yes o.k v (((j : Nat) : Int) + 1) o.b o.c o.e 0 UA o.d.length uc o.d W6 ((Rd.of_own hu6).keep hkA) (by omega) ho8 ho9 (by rw [show ((j : Nat) : Int) + 1 = ((0 + j + 1 : Nat) : Int) by omega]; exact hmo)
              unfold frv at hOp
              have hkw6 : Keep [] wr W6 := hk6.trans0 hkA
              clear hu6 hk6 hkA hpr hcell
              go_wp2_with (
                refine hOp.mono ?_
                clear hOp
                rintro e w7 ⟨u7, rfl, hu7, hk7⟩
                obtain ⟨VA, vc, rfl, _⟩ := own_form hu7)
              have hB7 := Blk.new w7 58 #[.int .i64 o.k, .int .i64 o.b, .int .i64 o.c, .int .i64 o.e, .slice VA o.d.length vc]
              have hkB : Keep [] w7 (w7.alloc (.cells #[.int .i64 o.k, .int .i64 o.b, .int .i64 o.c, .int .i64 o.e, .slice VA o.d.length vc] 58)) := (Keep.refl _ _).alloc _
              have hvr := (Rd.of_own hu7).keep hkB
              have hlt7 : w7.heap.size < (w7.alloc (.cells #[.int .i64 o.k, .int .i64 o.b, .int .i64 o.c, .int .i64 o.e, .slice VA o.d.length vc] 58)).heap.size := hB7.lt
              generalize w7.alloc _ = W7 at *
              generalize w7.heap.size = f7 at *
              have hk6W : Keep [] W6 W7 := hk7.trans0 hkB
              have hkrW : Keep [] wr W7 := hkw6.trans0 hk6W
              have hk4W : Keep [] wr0 W7 := (hk5.trans0 hkj).trans0 hkrW
              have hqj : 0 + j < len := by
                have h1 := (List.getElem?_eq_some_iff.1 hoj).1
                rwa [unhide HOS, saidUp_len] at h1
              have hozl : oz.length = len := by have := congrArg List.length (unhide HOZ); rwa [List.length_map, saidUp_len] at this
              have hrz := (hO4.keep0 hk4W).rd (A := OA) (c := oc) (by rw [hozl])
              rw [hozl] at hrz
              obtain ⟨zb, zo, hOA, hzb, z0, z1, z2, z3, z4⟩ := hrz.at_ hqj (by omega)
              obtain ⟨p', hp'⟩ : ∃ p', p' = oz[0 + j]'(by omega) := ⟨_, rfl⟩
              have hpo : p'.2 = o := by
                have h1 : (oz.map (·.2))[0 + j]? = some o := by rw [unhide HOZ, ← unhide HOS]; exact hoj
                rw [List.getElem?_map, List.getElem?_eq_getElem (by omega), Option.map_some, Option.some.injEq] at h1
                rw [hp']; exact h1
              have hpd := (hO4.keep0 hk4W).data p' (by rw [hp']; exact List.getElem_mem _)
              rw [← hp'] at z0 z1 z2 z3 z4
              rw [hpo] at z0 z1 z2 z3 hpd
              obtain ⟨ZA, zc, hzs, _⟩ := own_form hpd
              rw [hzs] at z4 hpd
              have hzr := Rd.of_own hpd
              obtain ⟨c0, c1, c2, c3, c4⟩ := op_cells hB7
              obtain ⟨e0, e1, e2, e3, e4, e5, e6, e7⟩ := frame_cells (hB6.keep0 hk6W)
              have hOS := fun W (hK : Keep [] W7 W) => Op_same VA ZA o.d.length o.d.length vc zc o W (hvr.keep hK) (hzr.keep hK) (by omega)
              clear hu7 hB7 hB6 hk7 hkB hpd hzs hp' hpo hrz hkw6 hk6W hk4W hmo hp2 hpj hoj hps HPN hr1 hua hb1 e0 e3 e4 e5 e6 e7
              subst hOA
              obtain ⟨x, hx⟩ : ∃ x, x = 0 + j := ⟨_, rfl⟩
              rw [← hx] at z0 z1 z2 z3 z4 hqj
              rw [show ((j : Nat) : Int) + 1 = (x : Nat) + 1 by omega] at e2
              have hw1 : IntKind.i64.wrap ((j : Nat) : Int) = (x : Nat) := by rw [IntKind.wrap_i64]; omega
              have hw2 : IntKind.i64.wrap (((x : Nat) : Int) + 1) = (x : Nat) + 1 := by rw [IntKind.wrap_i64]; omega
              have HX := hide hx
              clear hx
              refine wp_region_ht (fun w' => w'.cell? ⟨f6, 1, none⟩ = some (.int .i64 v) ∧ w'.cell? ⟨f6, 2, none⟩ = some (.int .i64 ((x : Nat) + 1)) ∧ w'.cell? ⟨f7, 0, none⟩ = some (.int .i64 o.k) ∧ w'.cell? ⟨f7, 1, none⟩ = some (.int .i64 o.b) ∧ w'.cell? ⟨f7, 2, none⟩ = some (.int .i64 o.c) ∧ w'.cell? ⟨f7, 3, none⟩ = some (.int .i64 o.e) ∧ w'.cell? ⟨f7, 4, none⟩ = some (.slice VA o.d.length vc) ∧ w'.cell? ⟨zb, zo + x * 5, none⟩ = some (.int .i64 o.k) ∧ w'.cell? ⟨zb, zo + x * 5 + 1, none⟩ = some (.int .i64 o.b) ∧ w'.cell? ⟨zb, zo + x * 5 + 2, none⟩ = some (.int .i64 o.c) ∧ w'.cell? ⟨zb, zo + x * 5 + 3, none⟩ = some (.int .i64 o.e) ∧ w'.cell? ⟨zb, zo + x * 5 + 4, none⟩ = some (.slice ZA o.d.length zc)) 29 [(0, false), (1, false), (2, false), (3, false), (4, false), (5, false), (6, false), (7, false), (8, false), (9, false), (10, false), (11, false), (12, false), (13, false), (14, false), (15, false), (16, false), (17, false), (18, false), (19, false), (20, false), (21, false), (22, false), (23, false), (24, false), (25, false), (26, false), (27, false), (28, false)]
                (by kernel_rfl) (by kernel_rfl) (fun _ _ d _ _ h => by cases d <;> exact h) ⟨e1, e2, c0, c1, c2, c3, c4, z0, z1, z2, z3, z4⟩ ?_
              simp only [picked, List.filterMap_cons, List.filterMap_nil, List.getElem?_cons_zero, List.getElem?_cons_succ, Option.map_some, List.drop_succ_cons, List.drop_zero]
              iterate 29 (refine wpT_held ?_ (by rfl) ?_ ?_; rotate_left; (focus (intro W hW; obtain ⟨hW1, hW2, hW3, hW4, hW5, hW6, hW7, hW8, hW9, hWa, hWb, hWc⟩ := hW; go_simp; first | done | with_reducible rfl)); simp only [Act.put, List.setIfInBounds_toArray, List.set_cons_zero, List.set_cons_succ])
              refine wpT_nil ?_
              replace hOS := hOS W7.drew (Keep.refl _ _).drew
              go_wp2_with (refine hOS.mono ?_; clear hOS; rintro e w8 ⟨rfl, hk8⟩)
              go_roundw
              case rel => exact ⟨j + 1, by omega, by go_num, (hkj.trans0 hkrW).trans0 ((Keep.refl _ _).drew.trans0 hk8)⟩
              case measure => simp [intOf]; omega
            · obtain rfl : j = m1 := by omega
              go_wp2
              go_roundw
              case rel => exact ⟨1, 0, L, by omega, rfl, by omega, by omega, hS5.keep0 (hk5.trans0 hkj), hO4.keep0 (hk5.trans0 hkj)⟩
              case measure => (simp [intOf] <;> omega)
        · go_wp2_with (
              refine hO1.mono ?_
              clear hO1
              rintro e w5 ⟨A1, m1, c1, us, rfl, hr1, hb1, hu1, hk5⟩
              obtain ⟨hul, hua⟩ := out_at hu1
              rw [unhide HOS, saidUp_len] at hul
              clear hu1
              have hus : us.length = m1 := by have := hr1.1; rwa [List.length_map] at this
              have hne : ((m1 : Int) != (nn : Int)) = false := by rw [bne_eq_false_iff_eq]; omega
              have hm60 : m1 ≤ 60 := by omega
              clear hul)
          clear hne
          go_loopw [17] (fun i wr => ∃ j : Nat, j ≤ m1 ∧ i = .int .i64 (j : Nat) ∧ Keep [] w5 wr) (fun i _ => m1 - (intOf i).toNat)
          case atStart => exact ⟨0, Nat.zero_le _, rfl, Keep.refl _ _⟩
          case round =>
            obtain ⟨j, hj, rfl, hkj⟩ := hrel
            by_cases hjl : j < m1
            · obtain ⟨o, p, hpj, hoj, hp2⟩ := hua j (by omega)
              have hpm : p ∈ us := List.mem_of_getElem? hpj
              obtain ⟨PA, pn, pc, hps, _, _, hpr⟩ := hb1 p hpm
              obtain ⟨ab, ao, x, hA1, hx, hab, hcell⟩ := (hr1.keep hkj).at_ hjl
              rw [List.getElem?_map, hpj, Option.map_some, Option.some.injEq, hps] at hx
              subst hA1 hx
              have hmo := saidUp_may zs len v hlen (by omega) 0 (0 + j) o (by rw [List.drop_zero, ← unhide HOS]; exact hoj)
              rw [show 0 + 1 + (0 + j) = 0 + j + 1 by omega] at hmo
              rw [show 0 + 1 + j = 0 + j + 1 by omega] at hp2
              rw [hp2] at hpr
              obtain ⟨hmo, ho8, ho9⟩ := hmo
              have hdl : o.d.length ≤ 64 := hmo.small
              have hpn : 25 + o.d.length = pn := by have := hpr.1; simpa [frB] using this
              have hpn2 : 25 ≤ pn ∧ pn ≤ 89 := by omega
              have HPN := hide hpn
              clear hpn
              have hD := decodeWord PA pn pc _ wr (hpr.keep hkj) hpn2.1 (by omega)
              go_wp2_with (first
                | (refine hD.mono ?_
                   clear hD
                   rintro e w6 hP6
                   obtain ⟨hk6, UA, uc, rfl, hu6⟩ := dec_frB hmo hP6
                   clear hP6))
              have hB6 := Blk.new w6 54 #[.int .i64 o.k, .int .i64 v, .int .i64 (((j : Nat) : Int) + 1), .int .i64 o.b, .int .i64 o.c, .int .i64 o.e, .int .i64 0, .slice UA o.d.length uc]
              have hkA : Keep [] w6 (w6.alloc (.cells #[.int .i64 o.k, .int .i64 v, .int .i64 (((j : Nat) : Int) + 1), .int .i64 o.b, .int .i64 o.c, .int .i64 o.e, .int .i64 0, .slice UA o.d.length uc] 54)) := (Keep.refl _ _).alloc _
              generalize w6.alloc _ = W6 at *
              generalize w6.heap.size = f6 at *
              have hOp := Op_yes o.k v (((j : Nat) : Int) + 1) o.b o.c o.e 0 UA o.d.length uc o.d W6 ((Rd.of_own hu6).keep hkA) (by omega) ho8 ho9 (by rw [show ((j : Nat) : Int) + 1 = ((0 + j + 1 : Nat) : Int) by omega]; exact hmo)
              unfold frv at hOp
              have hkw6 : Keep [] wr W6 := hk6.trans0 hkA
              clear hu6 hk6 hkA hpr hcell
              go_wp2_with (
                refine hOp.mono ?_
                clear hOp
                rintro e w7 ⟨u7, rfl, hu7, hk7⟩
                obtain ⟨VA, vc, rfl, _⟩ := own_form hu7)
              have hB7 := Blk.new w7 58 #[.int .i64 o.k, .int .i64 o.b, .int .i64 o.c, .int .i64 o.e, .slice VA o.d.length vc]
              have hkB : Keep [] w7 (w7.alloc (.cells #[.int .i64 o.k, .int .i64 o.b, .int .i64 o.c, .int .i64 o.e, .slice VA o.d.length vc] 58)) := (Keep.refl _ _).alloc _
              have hvr := (Rd.of_own hu7).keep hkB
              have hlt7 : w7.heap.size < (w7.alloc (.cells #[.int .i64 o.k, .int .i64 o.b, .int .i64 o.c, .int .i64 o.e, .slice VA o.d.length vc] 58)).heap.size := hB7.lt
              generalize w7.alloc _ = W7 at *
              generalize w7.heap.size = f7 at *
              have hk6W : Keep [] W6 W7 := hk7.trans0 hkB
              have hkrW : Keep [] wr W7 := hkw6.trans0 hk6W
              have hk4W : Keep [] wr0 W7 := (hk5.trans0 hkj).trans0 hkrW
              have hqj : 0 + j < len := by
                have h1 := (List.getElem?_eq_some_iff.1 hoj).1
                rwa [unhide HOS, saidUp_len] at h1
              have hozl : oz.length = len := by have := congrArg List.length (unhide HOZ); rwa [List.length_map, saidUp_len] at this
              have hrz := (hO4.keep0 hk4W).rd (A := OA) (c := oc) (by rw [hozl])
              rw [hozl] at hrz
              obtain ⟨zb, zo, hOA, hzb, z0, z1, z2, z3, z4⟩ := hrz.at_ hqj (by omega)
              obtain ⟨p', hp'⟩ : ∃ p', p' = oz[0 + j]'(by omega) := ⟨_, rfl⟩
              have hpo : p'.2 = o := by
                have h1 : (oz.map (·.2))[0 + j]? = some o := by rw [unhide HOZ, ← unhide HOS]; exact hoj
                rw [List.getElem?_map, List.getElem?_eq_getElem (by omega), Option.map_some, Option.some.injEq] at h1
                rw [hp']; exact h1
              have hpd := (hO4.keep0 hk4W).data p' (by rw [hp']; exact List.getElem_mem _)
              rw [← hp'] at z0 z1 z2 z3 z4
              rw [hpo] at z0 z1 z2 z3 hpd
              obtain ⟨ZA, zc, hzs, _⟩ := own_form hpd
              rw [hzs] at z4 hpd
              have hzr := Rd.of_own hpd
              obtain ⟨c0, c1, c2, c3, c4⟩ := op_cells hB7
              obtain ⟨e0, e1, e2, e3, e4, e5, e6, e7⟩ := frame_cells (hB6.keep0 hk6W)
              have hOS := fun W (hK : Keep [] W7 W) => Op_same VA ZA o.d.length o.d.length vc zc o W (hvr.keep hK) (hzr.keep hK) (by omega)
              clear hu7 hB7 hB6 hk7 hkB hpd hzs hp' hpo hrz hkw6 hk6W hk4W hmo hp2 hpj hoj hps HPN hr1 hua hb1 e0 e3 e4 e5 e6 e7
              subst hOA
              obtain ⟨x, hx⟩ : ∃ x, x = 0 + j := ⟨_, rfl⟩
              rw [← hx] at z0 z1 z2 z3 z4 hqj
              rw [show ((j : Nat) : Int) + 1 = (x : Nat) + 1 by omega] at e2
              have hw1 : IntKind.i64.wrap ((j : Nat) : Int) = (x : Nat) := by rw [IntKind.wrap_i64]; omega
              have hw2 : IntKind.i64.wrap (((x : Nat) : Int) + 1) = (x : Nat) + 1 := by rw [IntKind.wrap_i64]; omega
              have HX := hide hx
              clear hx
              refine wp_region_ht (fun w' => w'.cell? ⟨f6, 1, none⟩ = some (.int .i64 v) ∧ w'.cell? ⟨f6, 2, none⟩ = some (.int .i64 ((x : Nat) + 1)) ∧ w'.cell? ⟨f7, 0, none⟩ = some (.int .i64 o.k) ∧ w'.cell? ⟨f7, 1, none⟩ = some (.int .i64 o.b) ∧ w'.cell? ⟨f7, 2, none⟩ = some (.int .i64 o.c) ∧ w'.cell? ⟨f7, 3, none⟩ = some (.int .i64 o.e) ∧ w'.cell? ⟨f7, 4, none⟩ = some (.slice VA o.d.length vc) ∧ w'.cell? ⟨zb, zo + x * 5, none⟩ = some (.int .i64 o.k) ∧ w'.cell? ⟨zb, zo + x * 5 + 1, none⟩ = some (.int .i64 o.b) ∧ w'.cell? ⟨zb, zo + x * 5 + 2, none⟩ = some (.int .i64 o.c) ∧ w'.cell? ⟨zb, zo + x * 5 + 3, none⟩ = some (.int .i64 o.e) ∧ w'.cell? ⟨zb, zo + x * 5 + 4, none⟩ = some (.slice ZA o.d.length zc)) 29 [(0, false), (1, false), (2, false), (3, false), (4, false), (5, false), (6, false), (7, false), (8, false), (9, false), (10, false), (11, false), (12, false), (13, false), (14, false), (15, false), (16, false), (17, false), (18, false), (19, false), (20, false), (21, false), (22, false), (23, false), (24, false), (25, false), (26, false), (27, false), (28, false)]
                (by kernel_rfl) (by kernel_rfl) (fun _ _ d _ _ h => by cases d <;> exact h) ⟨e1, e2, c0, c1, c2, c3, c4, z0, z1, z2, z3, z4⟩ ?_
              simp only [picked, List.filterMap_cons, List.filterMap_nil, List.getElem?_cons_zero, List.getElem?_cons_succ, Option.map_some, List.drop_succ_cons, List.drop_zero]
              iterate 29 (refine wpT_held ?_ (by rfl) ?_ ?_; rotate_left; (focus (intro W hW; obtain ⟨hW1, hW2, hW3, hW4, hW5, hW6, hW7, hW8, hW9, hWa, hWb, hWc⟩ := hW; go_simp; first | done | with_reducible rfl)); simp only [Act.put, List.setIfInBounds_toArray, List.set_cons_zero, List.set_cons_succ])
              refine wpT_nil ?_
              replace hOS := hOS W7.drew (Keep.refl _ _).drew
              go_wp2_with (refine hOS.mono ?_; clear hOS; rintro e w8 ⟨rfl, hk8⟩)
              go_roundw
              case rel => exact ⟨j + 1, by omega, by go_num, (hkj.trans0 hkrW).trans0 ((Keep.refl _ _).drew.trans0 hk8)⟩
              case measure => simp [intOf]; omega
            · obtain rfl : j = m1 := by omega
              go_wp2
              go_roundw
              case rel => exact ⟨1, 0, L, by omega, rfl, by omega, by omega, hS5.keep0 (hk5.trans0 hkj), hO4.keep0 (hk5.trans0 hkj)⟩
              case measure => (simp [intOf] <;> omega)
      · obtain ⟨k', rfl⟩ : ∃ k', k = k' + 1 := ⟨k - 1, by omega⟩
        rw [show (((k' + 1 : Nat) : Int) - 1) = (k' : Nat) by omega]
        obtain ⟨pb, po, x, hB, hx, hpb, hcell⟩ := hp.at_ (j := k') (by omega)
        subst hB
        simp only [ints, List.getElem?_map, Option.map_eq_some_iff] at hx
        obtain ⟨z, _, rfl⟩ := hx
        replace hcell := (hS.keep.cell hpb (by simp) _).trans hcell
        unfold i64 at hcell
        have hR := Round_nat z (len + 1) ((len : Nat) + 1) (by omega) (by omega) wr
        go_wp2_with (first
          | (refine hR.mono ?_
             clear hR
             rintro e w' ⟨q, hq, rfl, rfl⟩
             have hA := ack_any v q 0 0 (by omega) (by omega) (by omega) (by omega) wr)
          | (refine hA.mono ?_
             clear hA
             rintro e w3 ⟨y, rfl, hy, hk3⟩
             obtain ⟨YA, yc, rfl, _⟩ := own_form hy
             have hT := Take_ok decodeWord w w3 s v nn ep len Q 0 L os (hS.keep0 hk3) YA yc q 0 0 (Rd.of_own hy) (by omega) (by omega) (by omega) (by omega)))
        refine hT.mono ?_
        clear hT
        rintro e w4 ⟨L', rfl, hS4, hk4, hfr4⟩
        have hO4 : OHold w4 w.heap.size (s :: L'.ownBlock.toList) (.slice OA len oc) oz := by
          refine (hO.keep0 hk3).turn hk4 (by simp) (fun g hg => ?_)
          rw [List.mem_cons] at hg
          rcases hg with rfl | hg
          · exact .inl (by simp)
          · exact .inr (hfr4 g hg)
        have hS5 : Src w w4 s v nn ep len q 0 L' os := by
          have e1 : max (max 0 0) q = q := by omega
          rw [e1] at hS4
          exact hS4
        clear hS hO hS4 hk3 hk4 hy hcell hfr4
        have hO1 := Out_any w w4 s v nn ep len q 0 L' os hS5 hosl (by omega) (by omega) (unhide HMAY)
        rcases Int.lt_or_le ((len : Int) - (q : Int)) (nn : Int) with hmin | hmin
        · go_wp2_with (
              refine hO1.mono ?_
              clear hO1
              rintro e w5 ⟨A1, m1, c1, us, rfl, hr1, hb1, hu1, hk5⟩
              obtain ⟨hul, hua⟩ := out_at hu1
              rw [unhide HOS, saidUp_len] at hul
              clear hu1
              have hus : us.length = m1 := by have := hr1.1; rwa [List.length_map] at this
              have hne : ((m1 : Int) != (len : Int) - (q : Int)) = false := by rw [bne_eq_false_iff_eq]; omega
              have hm60 : m1 ≤ 60 := by omega
              clear hul)
          clear hne
          go_loopw [17] (fun i wr => ∃ j : Nat, j ≤ m1 ∧ i = .int .i64 (j : Nat) ∧ Keep [] w5 wr) (fun i _ => m1 - (intOf i).toNat)
          case atStart => exact ⟨0, Nat.zero_le _, rfl, Keep.refl _ _⟩
          case round =>
            obtain ⟨j, hj, rfl, hkj⟩ := hrel
            by_cases hjl : j < m1
            · obtain ⟨o, p, hpj, hoj, hp2⟩ := hua j (by omega)
              have hpm : p ∈ us := List.mem_of_getElem? hpj
              obtain ⟨PA, pn, pc, hps, _, _, hpr⟩ := hb1 p hpm
              obtain ⟨ab, ao, x, hA1, hx, hab, hcell⟩ := (hr1.keep hkj).at_ hjl
              rw [List.getElem?_map, hpj, Option.map_some, Option.some.injEq, hps] at hx
              subst hA1 hx
              have hmo := saidUp_may zs len v hlen (by omega) 0 (q + j) o (by rw [List.drop_zero, ← unhide HOS]; exact hoj)
              rw [show 0 + 1 + (q + j) = q + j + 1 by omega] at hmo
              rw [show q + 1 + j = q + j + 1 by omega] at hp2
              rw [hp2] at hpr
              obtain ⟨hmo, ho8, ho9⟩ := hmo
              have hdl : o.d.length ≤ 64 := hmo.small
              have hpn : 25 + o.d.length = pn := by have := hpr.1; simpa [frB] using this
              have hpn2 : 25 ≤ pn ∧ pn ≤ 89 := by omega
              have HPN := hide hpn
              clear hpn
              have hD := decodeWord PA pn pc _ wr (hpr.keep hkj) hpn2.1 (by omega)
              go_wp2_with (first
                | (refine hD.mono ?_
                   clear hD
                   rintro e w6 hP6
                   obtain ⟨hk6, UA, uc, rfl, hu6⟩ := dec_frB hmo hP6
                   clear hP6))
              have hB6 := Blk.new w6 54 #[.int .i64 o.k, .int .i64 v, .int .i64 (((q : Nat) : Int) + (j : Nat) + 1), .int .i64 o.b, .int .i64 o.c, .int .i64 o.e, .int .i64 0, .slice UA o.d.length uc]
              have hkA : Keep [] w6 (w6.alloc (.cells #[.int .i64 o.k, .int .i64 v, .int .i64 (((q : Nat) : Int) + (j : Nat) + 1), .int .i64 o.b, .int .i64 o.c, .int .i64 o.e, .int .i64 0, .slice UA o.d.length uc] 54)) := (Keep.refl _ _).alloc _
              generalize w6.alloc _ = W6 at *
              generalize w6.heap.size = f6 at *
              have hOp := Op_yes o.k v (((q : Nat) : Int) + (j : Nat) + 1) o.b o.c o.e 0 UA o.d.length uc o.d W6 ((Rd.of_own hu6).keep hkA) (by omega) ho8 ho9 (by rw [show ((q : Nat) : Int) + (j : Nat) + 1 = ((q + j + 1 : Nat) : Int) by omega]; exact hmo)
              unfold frv at hOp
              have hkw6 : Keep [] wr W6 := hk6.trans0 hkA
              clear hu6 hk6 hkA hpr hcell
              go_wp2_with (
                refine hOp.mono ?_
                clear hOp
                rintro e w7 ⟨u7, rfl, hu7, hk7⟩
                obtain ⟨VA, vc, rfl, _⟩ := own_form hu7)
              have hB7 := Blk.new w7 58 #[.int .i64 o.k, .int .i64 o.b, .int .i64 o.c, .int .i64 o.e, .slice VA o.d.length vc]
              have hkB : Keep [] w7 (w7.alloc (.cells #[.int .i64 o.k, .int .i64 o.b, .int .i64 o.c, .int .i64 o.e, .slice VA o.d.length vc] 58)) := (Keep.refl _ _).alloc _
              have hvr := (Rd.of_own hu7).keep hkB
              have hlt7 : w7.heap.size < (w7.alloc (.cells #[.int .i64 o.k, .int .i64 o.b, .int .i64 o.c, .int .i64 o.e, .slice VA o.d.length vc] 58)).heap.size := hB7.lt
              generalize w7.alloc _ = W7 at *
              generalize w7.heap.size = f7 at *
              have hk6W : Keep [] W6 W7 := hk7.trans0 hkB
              have hkrW : Keep [] wr W7 := hkw6.trans0 hk6W
              have hk4W : Keep [] w4 W7 := (hk5.trans0 hkj).trans0 hkrW
              have hqj : q + j < len := by
                have h1 := (List.getElem?_eq_some_iff.1 hoj).1
                rwa [unhide HOS, saidUp_len] at h1
              have hozl : oz.length = len := by have := congrArg List.length (unhide HOZ); rwa [List.length_map, saidUp_len] at this
              have hrz := (hO4.keep0 hk4W).rd (A := OA) (c := oc) (by rw [hozl])
              rw [hozl] at hrz
              obtain ⟨zb, zo, hOA, hzb, z0, z1, z2, z3, z4⟩ := hrz.at_ hqj (by omega)
              obtain ⟨p', hp'⟩ : ∃ p', p' = oz[q + j]'(by omega) := ⟨_, rfl⟩
              have hpo : p'.2 = o := by
                have h1 : (oz.map (·.2))[q + j]? = some o := by rw [unhide HOZ, ← unhide HOS]; exact hoj
                rw [List.getElem?_map, List.getElem?_eq_getElem (by omega), Option.map_some, Option.some.injEq] at h1
                rw [hp']; exact h1
              have hpd := (hO4.keep0 hk4W).data p' (by rw [hp']; exact List.getElem_mem _)
              rw [← hp'] at z0 z1 z2 z3 z4
              rw [hpo] at z0 z1 z2 z3 hpd
              obtain ⟨ZA, zc, hzs, _⟩ := own_form hpd
              rw [hzs] at z4 hpd
              have hzr := Rd.of_own hpd
              obtain ⟨c0, c1, c2, c3, c4⟩ := op_cells hB7
              obtain ⟨e0, e1, e2, e3, e4, e5, e6, e7⟩ := frame_cells (hB6.keep0 hk6W)
              have hOS := fun W (hK : Keep [] W7 W) => Op_same VA ZA o.d.length o.d.length vc zc o W (hvr.keep hK) (hzr.keep hK) (by omega)
              clear hu7 hB7 hB6 hk7 hkB hpd hzs hp' hpo hrz hkw6 hk6W hk4W hmo hp2 hpj hoj hps HPN hr1 hua hb1 e0 e3 e4 e5 e6 e7
              subst hOA
              obtain ⟨x, hx⟩ : ∃ x, x = q + j := ⟨_, rfl⟩
              rw [← hx] at z0 z1 z2 z3 z4 hqj
              rw [show ((q : Nat) : Int) + (j : Nat) + 1 = (x : Nat) + 1 by omega] at e2
              have hw1 : IntKind.i64.wrap (((q : Nat) : Int) + ((j : Nat) : Int)) = (x : Nat) := by rw [IntKind.wrap_i64]; omega
              have hw2 : IntKind.i64.wrap (((x : Nat) : Int) + 1) = (x : Nat) + 1 := by rw [IntKind.wrap_i64]; omega
              have HX := hide hx
              clear hx
              refine wp_region_ht (fun w' => w'.cell? ⟨f6, 1, none⟩ = some (.int .i64 v) ∧ w'.cell? ⟨f6, 2, none⟩ = some (.int .i64 ((x : Nat) + 1)) ∧ w'.cell? ⟨f7, 0, none⟩ = some (.int .i64 o.k) ∧ w'.cell? ⟨f7, 1, none⟩ = some (.int .i64 o.b) ∧ w'.cell? ⟨f7, 2, none⟩ = some (.int .i64 o.c) ∧ w'.cell? ⟨f7, 3, none⟩ = some (.int .i64 o.e) ∧ w'.cell? ⟨f7, 4, none⟩ = some (.slice VA o.d.length vc) ∧ w'.cell? ⟨zb, zo + x * 5, none⟩ = some (.int .i64 o.k) ∧ w'.cell? ⟨zb, zo + x * 5 + 1, none⟩ = some (.int .i64 o.b) ∧ w'.cell? ⟨zb, zo + x * 5 + 2, none⟩ = some (.int .i64 o.c) ∧ w'.cell? ⟨zb, zo + x * 5 + 3, none⟩ = some (.int .i64 o.e) ∧ w'.cell? ⟨zb, zo + x * 5 + 4, none⟩ = some (.slice ZA o.d.length zc)) 29 [(0, false), (1, false), (2, false), (3, false), (4, false), (5, false), (6, false), (7, false), (8, false), (9, false), (10, false), (11, false), (12, false), (13, false), (14, false), (15, false), (16, false), (17, false), (18, false), (19, false), (20, false), (21, false), (22, false), (23, false), (24, false), (25, false), (26, false), (27, false), (28, false)]
                (by kernel_rfl) (by kernel_rfl) (fun _ _ d _ _ h => by cases d <;> exact h) ⟨e1, e2, c0, c1, c2, c3, c4, z0, z1, z2, z3, z4⟩ ?_
              simp only [picked, List.filterMap_cons, List.filterMap_nil, List.getElem?_cons_zero, List.getElem?_cons_succ, Option.map_some, List.drop_succ_cons, List.drop_zero]
              iterate 29 (refine wpT_held ?_ (by rfl) ?_ ?_; rotate_left; (focus (intro W hW; obtain ⟨hW1, hW2, hW3, hW4, hW5, hW6, hW7, hW8, hW9, hWa, hWb, hWc⟩ := hW; go_simp; first | done | with_reducible rfl)); simp only [Act.put, List.setIfInBounds_toArray, List.set_cons_zero, List.set_cons_succ])
              refine wpT_nil ?_
              replace hOS := hOS W7.drew (Keep.refl _ _).drew
              go_wp2_with (refine hOS.mono ?_; clear hOS; rintro e w8 ⟨rfl, hk8⟩)
              go_roundw
              case rel => exact ⟨j + 1, by omega, by go_num, (hkj.trans0 hkrW).trans0 ((Keep.refl _ _).drew.trans0 hk8)⟩
              case measure => simp [intOf]; omega
            · obtain rfl : j = m1 := by omega
              go_wp2
              go_roundw
              case rel => exact ⟨k' + 2, q, L', by omega, by go_num, by omega, by omega, hS5.keep0 (hk5.trans0 hkj), hO4.keep0 (hk5.trans0 hkj)⟩
              case measure => simp [intOf]; omega
        · go_wp2_with (
              refine hO1.mono ?_
              clear hO1
              rintro e w5 ⟨A1, m1, c1, us, rfl, hr1, hb1, hu1, hk5⟩
              obtain ⟨hul, hua⟩ := out_at hu1
              rw [unhide HOS, saidUp_len] at hul
              clear hu1
              have hus : us.length = m1 := by have := hr1.1; rwa [List.length_map] at this
              have hne : ((m1 : Int) != (nn : Int)) = false := by rw [bne_eq_false_iff_eq]; omega
              have hm60 : m1 ≤ 60 := by omega
              clear hul)
          clear hne
          go_loopw [17] (fun i wr => ∃ j : Nat, j ≤ m1 ∧ i = .int .i64 (j : Nat) ∧ Keep [] w5 wr) (fun i _ => m1 - (intOf i).toNat)
          case atStart => exact ⟨0, Nat.zero_le _, rfl, Keep.refl _ _⟩
          case round =>
            obtain ⟨j, hj, rfl, hkj⟩ := hrel
            by_cases hjl : j < m1
            · obtain ⟨o, p, hpj, hoj, hp2⟩ := hua j (by omega)
              have hpm : p ∈ us := List.mem_of_getElem? hpj
              obtain ⟨PA, pn, pc, hps, _, _, hpr⟩ := hb1 p hpm
              obtain ⟨ab, ao, x, hA1, hx, hab, hcell⟩ := (hr1.keep hkj).at_ hjl
              rw [List.getElem?_map, hpj, Option.map_some, Option.some.injEq, hps] at hx
              subst hA1 hx
              have hmo := saidUp_may zs len v hlen (by omega) 0 (q + j) o (by rw [List.drop_zero, ← unhide HOS]; exact hoj)
              rw [show 0 + 1 + (q + j) = q + j + 1 by omega] at hmo
              rw [show q + 1 + j = q + j + 1 by omega] at hp2
              rw [hp2] at hpr
              obtain ⟨hmo, ho8, ho9⟩ := hmo
              have hdl : o.d.length ≤ 64 := hmo.small
              have hpn : 25 + o.d.length = pn := by have := hpr.1; simpa [frB] using this
              have hpn2 : 25 ≤ pn ∧ pn ≤ 89 := by omega
              have HPN := hide hpn
              clear hpn
              have hD := decodeWord PA pn pc _ wr (hpr.keep hkj) hpn2.1 (by omega)
              go_wp2_with (first
                | (refine hD.mono ?_
                   clear hD
                   rintro e w6 hP6
                   obtain ⟨hk6, UA, uc, rfl, hu6⟩ := dec_frB hmo hP6
                   clear hP6))
              have hB6 := Blk.new w6 54 #[.int .i64 o.k, .int .i64 v, .int .i64 (((q : Nat) : Int) + (j : Nat) + 1), .int .i64 o.b, .int .i64 o.c, .int .i64 o.e, .int .i64 0, .slice UA o.d.length uc]
              have hkA : Keep [] w6 (w6.alloc (.cells #[.int .i64 o.k, .int .i64 v, .int .i64 (((q : Nat) : Int) + (j : Nat) + 1), .int .i64 o.b, .int .i64 o.c, .int .i64 o.e, .int .i64 0, .slice UA o.d.length uc] 54)) := (Keep.refl _ _).alloc _
              generalize w6.alloc _ = W6 at *
              generalize w6.heap.size = f6 at *
              have hOp := Op_yes o.k v (((q : Nat) : Int) + (j : Nat) + 1) o.b o.c o.e 0 UA o.d.length uc o.d W6 ((Rd.of_own hu6).keep hkA) (by omega) ho8 ho9 (by rw [show ((q : Nat) : Int) + (j : Nat) + 1 = ((q + j + 1 : Nat) : Int) by omega]; exact hmo)
              unfold frv at hOp
              have hkw6 : Keep [] wr W6 := hk6.trans0 hkA
              clear hu6 hk6 hkA hpr hcell
              go_wp2_with (
                refine hOp.mono ?_
                clear hOp
                rintro e w7 ⟨u7, rfl, hu7, hk7⟩
                obtain ⟨VA, vc, rfl, _⟩ := own_form hu7)
              have hB7 := Blk.new w7 58 #[.int .i64 o.k, .int .i64 o.b, .int .i64 o.c, .int .i64 o.e, .slice VA o.d.length vc]
              have hkB : Keep [] w7 (w7.alloc (.cells #[.int .i64 o.k, .int .i64 o.b, .int .i64 o.c, .int .i64 o.e, .slice VA o.d.length vc] 58)) := (Keep.refl _ _).alloc _
              have hvr := (Rd.of_own hu7).keep hkB
              have hlt7 : w7.heap.size < (w7.alloc (.cells #[.int .i64 o.k, .int .i64 o.b, .int .i64 o.c, .int .i64 o.e, .slice VA o.d.length vc] 58)).heap.size := hB7.lt
              generalize w7.alloc _ = W7 at *
              generalize w7.heap.size = f7 at *
              have hk6W : Keep [] W6 W7 := hk7.trans0 hkB
              have hkrW : Keep [] wr W7 := hkw6.trans0 hk6W
              have hk4W : Keep [] w4 W7 := (hk5.trans0 hkj).trans0 hkrW
              have hqj : q + j < len := by
                have h1 := (List.getElem?_eq_some_iff.1 hoj).1
                rwa [unhide HOS, saidUp_len] at h1
              have hozl : oz.length = len := by have := congrArg List.length (unhide HOZ); rwa [List.length_map, saidUp_len] at this
              have hrz := (hO4.keep0 hk4W).rd (A := OA) (c := oc) (by rw [hozl])
              rw [hozl] at hrz
              obtain ⟨zb, zo, hOA, hzb, z0, z1, z2, z3, z4⟩ := hrz.at_ hqj (by omega)
              obtain ⟨p', hp'⟩ : ∃ p', p' = oz[q + j]'(by omega) := ⟨_, rfl⟩
              have hpo : p'.2 = o := by
                have h1 : (oz.map (·.2))[q + j]? = some o := by rw [unhide HOZ, ← unhide HOS]; exact hoj
                rw [List.getElem?_map, List.getElem?_eq_getElem (by omega), Option.map_some, Option.some.injEq] at h1
                rw [hp']; exact h1
              have hpd := (hO4.keep0 hk4W).data p' (by rw [hp']; exact List.getElem_mem _)
              rw [← hp'] at z0 z1 z2 z3 z4
              rw [hpo] at z0 z1 z2 z3 hpd
              obtain ⟨ZA, zc, hzs, _⟩ := own_form hpd
              rw [hzs] at z4 hpd
              have hzr := Rd.of_own hpd
              obtain ⟨c0, c1, c2, c3, c4⟩ := op_cells hB7
              obtain ⟨e0, e1, e2, e3, e4, e5, e6, e7⟩ := frame_cells (hB6.keep0 hk6W)
              have hOS := fun W (hK : Keep [] W7 W) => Op_same VA ZA o.d.length o.d.length vc zc o W (hvr.keep hK) (hzr.keep hK) (by omega)
              clear hu7 hB7 hB6 hk7 hkB hpd hzs hp' hpo hrz hkw6 hk6W hk4W hmo hp2 hpj hoj hps HPN hr1 hua hb1 e0 e3 e4 e5 e6 e7
              subst hOA
              obtain ⟨x, hx⟩ : ∃ x, x = q + j := ⟨_, rfl⟩
              rw [← hx] at z0 z1 z2 z3 z4 hqj
              rw [show ((q : Nat) : Int) + (j : Nat) + 1 = (x : Nat) + 1 by omega] at e2
              have hw1 : IntKind.i64.wrap (((q : Nat) : Int) + ((j : Nat) : Int)) = (x : Nat) := by rw [IntKind.wrap_i64]; omega
              have hw2 : IntKind.i64.wrap (((x : Nat) : Int) + 1) = (x : Nat) + 1 := by rw [IntKind.wrap_i64]; omega
              have HX := hide hx
              clear hx
              refine wp_region_ht (fun w' => w'.cell? ⟨f6, 1, none⟩ = some (.int .i64 v) ∧ w'.cell? ⟨f6, 2, none⟩ = some (.int .i64 ((x : Nat) + 1)) ∧ w'.cell? ⟨f7, 0, none⟩ = some (.int .i64 o.k) ∧ w'.cell? ⟨f7, 1, none⟩ = some (.int .i64 o.b) ∧ w'.cell? ⟨f7, 2, none⟩ = some (.int .i64 o.c) ∧ w'.cell? ⟨f7, 3, none⟩ = some (.int .i64 o.e) ∧ w'.cell? ⟨f7, 4, none⟩ = some (.slice VA o.d.length vc) ∧ w'.cell? ⟨zb, zo + x * 5, none⟩ = some (.int .i64 o.k) ∧ w'.cell? ⟨zb, zo + x * 5 + 1, none⟩ = some (.int .i64 o.b) ∧ w'.cell? ⟨zb, zo + x * 5 + 2, none⟩ = some (.int .i64 o.c) ∧ w'.cell? ⟨zb, zo + x * 5 + 3, none⟩ = some (.int .i64 o.e) ∧ w'.cell? ⟨zb, zo + x * 5 + 4, none⟩ = some (.slice ZA o.d.length zc)) 29 [(0, false), (1, false), (2, false), (3, false), (4, false), (5, false), (6, false), (7, false), (8, false), (9, false), (10, false), (11, false), (12, false), (13, false), (14, false), (15, false), (16, false), (17, false), (18, false), (19, false), (20, false), (21, false), (22, false), (23, false), (24, false), (25, false), (26, false), (27, false), (28, false)]
                (by kernel_rfl) (by kernel_rfl) (fun _ _ d _ _ h => by cases d <;> exact h) ⟨e1, e2, c0, c1, c2, c3, c4, z0, z1, z2, z3, z4⟩ ?_
              simp only [picked, List.filterMap_cons, List.filterMap_nil, List.getElem?_cons_zero, List.getElem?_cons_succ, Option.map_some, List.drop_succ_cons, List.drop_zero]
              iterate 29 (refine wpT_held ?_ (by rfl) ?_ ?_; rotate_left; (focus (intro W hW; obtain ⟨hW1, hW2, hW3, hW4, hW5, hW6, hW7, hW8, hW9, hWa, hWb, hWc⟩ := hW; go_simp; first | done | with_reducible rfl)); simp only [Act.put, List.setIfInBounds_toArray, List.set_cons_zero, List.set_cons_succ])
              refine wpT_nil ?_
              replace hOS := hOS W7.drew (Keep.refl _ _).drew
              go_wp2_with (refine hOS.mono ?_; clear hOS; rintro e w8 ⟨rfl, hk8⟩)
              go_roundw
              case rel => exact ⟨j + 1, by omega, by go_num, (hkj.trans0 hkrW).trans0 ((Keep.refl _ _).drew.trans0 hk8)⟩
              case measure => simp [intOf]; omega
            · obtain rfl : j = m1 := by omega
              go_wp2
              go_roundw
              case rel => exact ⟨k' + 2, q, L', by omega, by go_num, by omega, by omega, hS5.keep0 (hk5.trans0 hkj), hO4.keep0 (hk5.trans0 hkj)⟩
              case measure => simp [intOf]; omega
end Go.Proofs.Ytplfijhianmohaa
