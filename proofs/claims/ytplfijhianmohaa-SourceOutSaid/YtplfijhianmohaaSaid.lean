/-
  Contracts: keelsonalike.Op, Ops (where they are alike); the law's 'said'.
-/
import Derived.Test.YtplfijhianmohaaSource3
namespace Go.Proofs.Ytplfijhianmohaa
open Go.RowKit

set_option maxHeartbeats 1000000 in
theorem Op_same (A B : Option Addr) (n m c d : Nat) (o : POp) (w : World) (ha : Rd w A n (bys o.d)) (hb : Rd w B m (bys o.d)) (hn : n ≤ 1000000) :
    Calls Try.prog 29 #[.agg #[.int .i64 o.k, .int .i64 o.b, .int .i64 o.c, .int .i64 o.e, .slice A n c], .agg #[.int .i64 o.k, .int .i64 o.b, .int .i64 o.c, .int .i64 o.e, .slice B m d]] w fun e w' => e = .returned (.bool true) ∧ Keep [] w w' := by
  have h1 : o.d.length = n := by simpa using ha.1
  have h2 : o.d.length = m := by simpa using hb.1
  have hT := fun W (hk : Keep [] w W) => Bytes_any A B n m c d o.d o.d W (ha.keep hk) (hb.keep hk) (by omega) (by omega)
  simp only [decide_true] at hT
  clear h1 h2
  go_enter Try.func29, Try.ntmps29
  go_wp2_with (refine (hT _ (((Keep.refl _ _).alloc _).alloc _)).mono ?_; clear hT; rintro e w' ⟨rfl, k, rfl⟩)
  go_ret
  exact ⟨rfl, (((Keep.refl _ _).alloc _).alloc _).drewN _⟩

set_option maxHeartbeats 2000000 in
set_option maxRecDepth 20000 in
theorem Ops_same (A B : Option Addr) (n c d : Nat) (xs ys : List (Value × POp)) (w : World) (ha : OpsRd w A n xs) (hb : OpsRd w B n ys) (hx : ∀ p ∈ xs, Bts w p.1 p.2.d) (hy : ∀ p ∈ ys, Bts w p.1 p.2.d) (hs : xs.map (·.2) = ys.map (·.2)) (hsm : ∀ p ∈ xs, p.2.d.length ≤ 64) (hn : n ≤ 1000000) :
    Calls Try.prog 17 #[.slice A n c, .slice B n d] w fun e w' => e = .returned (.bool true) ∧ Keep [] w w' := by
  have HXL := hide ha.2
  have HYL := hide hb.2
  have HS := hide hs
  clear hs
  go_enter Try.func17, Try.ntmps17
  go_wp2
  go_loopw [5] (fun i wr => ∃ k : Nat, k ≤ n ∧ i = .int .i64 k ∧ Keep [] w wr) (fun i _ => n - (intOf i).toNat)
  case atStart => exact ⟨0, Nat.zero_le _, rfl, Keep.refl _ _⟩
  case round =>
    obtain ⟨k, hk, rfl, hkp⟩ := hrel
    by_cases hlt : k < n
    · have hxk : k < xs.length := by rw [unhide HXL]; exact hlt
      have hyk : k < ys.length := by rw [unhide HYL]; exact hlt
      obtain ⟨b1, o1, rfl, hb1, e0, e1, e2, e3, e4⟩ := (ha.keep hkp).at_ hlt hxk
      obtain ⟨b2, o2, rfl, hb2, f0, f1, f2, f3, f4⟩ := (hb.keep hkp).at_ hlt hyk
      have hxy : xs[k].2 = ys[k].2 := by
        have : (xs.map (·.2))[k]? = (ys.map (·.2))[k]? := by rw [unhide HS]
        simpa [hxk, hyk] using this
      have hX := (hx _ (List.getElem_mem hxk)).keep hkp
      have hY := (hy _ (List.getElem_mem hyk)).keep hkp
      have hS := hsm _ (List.getElem_mem hxk)
      rw [← hxy] at f0 f1 f2 f3 hY
      generalize xs[k] = p at *
      generalize ys[k] = q at *
      obtain ⟨pv, pk, pb, pc, pe, pd⟩ := p
      obtain ⟨qv, qo⟩ := q
      simp only at e0 e1 e2 e3 e4 f0 f1 f2 f3 f4 hX hY hS
      obtain ⟨XA, xn, xc, rfl, hx1, hx2, hx3⟩ := hX
      obtain ⟨YA, yn, yc, rfl, hy1, hy2, hy3⟩ := hY
      have hxl : pd.length = xn := by simpa using hx3.1
      have hT := Op_same XA YA xn yn xc yc ⟨pk, pb, pc, pe, pd⟩ wr.drew hx3.drew hy3.drew (by omega)
      simp only at hT
      clear hxl hxy
      go_wp2
      refine wp_region_ht (fun w' => w'.cell? ⟨b1, o1 + k * 5, none⟩ = some (.int .i64 pk) ∧ w'.cell? ⟨b1, o1 + k * 5 + 1, none⟩ = some (.int .i64 pb) ∧ w'.cell? ⟨b1, o1 + k * 5 + 2, none⟩ = some (.int .i64 pc) ∧ w'.cell? ⟨b1, o1 + k * 5 + 3, none⟩ = some (.int .i64 pe) ∧ w'.cell? ⟨b1, o1 + k * 5 + 4, none⟩ = some (.slice XA xn xc) ∧ w'.cell? ⟨b2, o2 + k * 5, none⟩ = some (.int .i64 pk) ∧ w'.cell? ⟨b2, o2 + k * 5 + 1, none⟩ = some (.int .i64 pb) ∧ w'.cell? ⟨b2, o2 + k * 5 + 2, none⟩ = some (.int .i64 pc) ∧ w'.cell? ⟨b2, o2 + k * 5 + 3, none⟩ = some (.int .i64 pe) ∧ w'.cell? ⟨b2, o2 + k * 5 + 4, none⟩ = some (.slice YA yn yc)) 8 [(0, false), (1, false), (2, false), (3, false), (4, false), (5, false), (6, false), (7, false)]
        (by kernel_rfl) (by kernel_rfl) (fun _ _ d _ _ h => by cases d <;> exact h) ⟨e0, e1, e2, e3, e4, f0, f1, f2, f3, f4⟩ ?_
      simp only [picked, List.filterMap_cons, List.filterMap_nil, List.getElem?_cons_zero, List.getElem?_cons_succ, Option.map_some, List.drop_succ_cons, List.drop_zero]
      iterate 8 (refine wpT_held ?_ (by rfl) ?_ ?_; rotate_left; (focus (intro W hW; obtain ⟨hW0, hW1, hW2, hW3, hW4, hV0, hV1, hV2, hV3, hV4⟩ := hW; go_simp; first | done | with_reducible rfl)); simp only [Act.put, List.setIfInBounds_toArray, List.set_cons_zero, List.set_cons_succ])
      refine wpT_nil ?_
      go_wp2_with (refine hT.mono ?_; clear hT; rintro e w' ⟨rfl, hk'⟩)
      go_roundw
      case rel => exact ⟨k + 1, by omega, by go_num, hkp.drew.trans0 hk'⟩
      case measure => simp [intOf]; omega
    · go_wp2
      go_ret
      exact ⟨rfl, hkp⟩
end Go.Proofs.Ytplfijhianmohaa
