/-
  Contracts of crc: Sum, Seal.
-/
import Derived.Test.YtplfijhianmohaaCrc
import Derived.Test.YtplfijhianmohaaBytes
import Derived.Test.YtplfijhianmohaaRegion
namespace Go.Proofs.Ytplfijhianmohaa
open Go.RowKit

/-- the sum of bytes -/
def crcSum (bs : List UInt8) : Nat := (~~~ crcAdd 0xFFFFFFFF#32 bs).toNat
theorem crcSum_lt (bs : List UInt8) : crcSum bs < 4294967296 := (~~~ crcAdd 0xFFFFFFFF#32 bs).isLt
theorem not_u32 (x : BitVec 32) : wrap64 (bits BinOp.xor IntKind.u32 IntKind.u32.max (x.toNat : Nat)) = ((~~~ x).toNat : Nat) := by
  have h := (~~~ x).isLt
  rw [show IntKind.u32.max = ((BitVec.allOnes 32).toNat : Nat) by decide, xor_u32, BitVec.allOnes_xor]
  unfold wrap64
  omega

set_option maxHeartbeats 400000 in
theorem Sum_any (A : Option Addr) (n c : Nat) (ls : List (Value × List UInt8)) (w : World) (ha : Rws w A n ls) (hn : n ≤ 9223372036854775807) :
    Calls Try.prog 66 #[.slice A n c] w fun e w' => e = .returned (.int .i64 (crcSum (ls.flatMap (·.2)) : Nat)) ∧ w = w' := by
  have hl := ha.len
  have HL := hide hl
  clear hl
  go_enter Try.func66, Try.ntmps66
  go_wp2
  go_loop [3, 8] (fun v i => ∃ k : Nat, k ≤ n ∧ i = .int .i64 k ∧ v = .int .u32 ((crcAdd 0xFFFFFFFF#32 ((ls.take k).flatMap (·.2))).toNat : Nat)) (fun _ i => n - (intOf i).toNat)
  case atStart => exact ⟨0, Nat.zero_le _, rfl, rfl⟩
  case round =>
    obtain ⟨k, hk, rfl, rfl⟩ := hrel
    by_cases hlt : k < n
    · have hkl : k < ls.length := by rw [unhide HL]; exact hlt
      obtain ⟨b, o, rfl, hb, hc, hr⟩ := ha.at_ hlt hkl
      have hsn : crcAdd 0xFFFFFFFF#32 ((ls.take (k + 1)).flatMap (·.2)) = crcAdd (crcAdd 0xFFFFFFFF#32 ((ls.take k).flatMap (·.2))) ls[k].2 := by
        rw [List.take_succ_eq_append_getElem hkl, List.flatMap_append, crcAdd_append]; simp
      have HS := hide hsn
      clear hsn
      generalize crcAdd 0xFFFFFFFF#32 ((ls.take k).flatMap (·.2)) = y at *
      generalize ls[k] = p at *
      obtain ⟨pv, pb⟩ := p
      obtain ⟨PA, pn, pc, hpv, h1, h2, h3⟩ := hr
      simp only at hpv
      subst hpv
      have hT := add_any y PA pn pc pb w h3 (by omega)
      go_wp2_with (refine hT.mono ?_; clear hT; rintro e w' ⟨rfl, rfl⟩)
      go_round
      case rel => exact ⟨k + 1, by omega, by go_num, by rw [unhide HS]⟩
      case measure => simp [intOf]; omega
    · obtain rfl : k = n := by omega
      go_wp2
      go_ret
      exact ⟨ret_int (by rw [List.take_of_length_le (Nat.le_of_eq (unhide HL))]; exact not_u32 _), rfl⟩

set_option maxHeartbeats 1000000 in
/-- The sum of all bytes but the last four is laid there. -/
theorem Seal_any (base : Nat) (v : Value) (bs : List UInt8) (w : World) (hv : w.ownsRow base 5 1 v bs.length (bys bs)) (h4 : 4 ≤ bs.length) (hn : bs.length ≤ 1000000) :
    Calls Try.prog 56 #[v] w fun e w' => e = .returned v ∧ w'.ownsRow base 5 1 v bs.length (bys (laid bs (bs.length - 4) (le 4 (crcSum (bs.take (bs.length - 4)))))) ∧ Keep v.ownBlock.toList w w' := by
  obtain ⟨g, c, rfl, hc⟩ := own_some hv (by omega)
  have hrd := Rd.of_own hv
  obtain ⟨n, hn'⟩ : ∃ n, bs.length = n + 4 := ⟨bs.length - 4, by omega⟩
  have hrt := hrd.take (k := n) (by omega)
  rw [bys_take] at hrt
  have hgl := own_lt hv
  obtain ⟨s, hs⟩ : ∃ s, crcSum (bs.take n) = s := ⟨_, rfl⟩
  have hslt := crcSum_lt (bs.take n)
  rw [hs] at hslt
  rw [hn'] at hv hc hn h4 ⊢
  rw [show n + 4 - 4 = n by omega, hs]
  have hR : Rws (w.alloc (.cells #[.slice (some ⟨g, 0, none⟩) n c] 34)) (some ⟨w.heap.size, 0, none⟩) 1 [(.slice (some ⟨g, 0, none⟩) n c, bs.take n)] :=
    ⟨rd_new1 _ _ _, fun p hp => by
      rw [List.mem_singleton.1 hp]
      exact ⟨_, n, c, rfl, by omega, by omega, hrt.keep ((Keep.refl _ _).alloc _)⟩⟩
  have hT := Sum_any _ 1 1 _ _ hR (by omega)
  rw [show ([((Value.slice (some ⟨g, 0, none⟩) n c), bs.take n)].flatMap (·.2)) = bs.take n by simp, hs] at hT
  have hrun := fun W => elem8.run_h (some ⟨g, 0, none⟩) (n + 4) c .i64 (n : Nat) (by omega) (by omega) W
  rw [Int.toNat_natCast] at hrun
  have HR := hide hrun
  have HN := hide hn'
  have HSL := hide hslt
  clear hrun hrt hR hs hn' hrd hslt
  go_enter Try.func56, Try.ntmps56
  go_wp2_with (first
    | (refine wp_slice_of rfl (.tmp 9) none (some (.tmp 10)) rfl (.slice (some ⟨g, 0, none⟩) n c) ?hrun ?_)
    | (refine hT.mono ?_; clear hT; rintro e w' ⟨rfl, rfl⟩))
  case hrun =>
    intro W
    have h := unhide HR W
    exact h
  go_loopw [5, 14] (fun _ i wr => ∃ m : Nat, m ≤ 4 ∧ i = .int .i64 m ∧ wr.ownsRow base 5 1 (.slice (some ⟨g, 0, none⟩) (n + 4) c) (n + 4) (bys (laid bs n (le m s))) ∧ Keep [g] w wr) (fun _ i _ => 4 - (intOf i).toNat)
  case atStart => exact ⟨0, by omega, rfl, by rw [le_zero, laid_nil]; exact own_alloc hv _, (Keep.refl _ _).alloc _⟩
  case round =>
    obtain ⟨m, hm, rfl, hown, hkp⟩ := hrel
    by_cases hm4 : m < 4
    · have hcell : wr.cell? ⟨g, n + m, none⟩ = some ((bys (laid bs n (le m s)))[n + m]'(by rw [length_bys, length_laid _ _ _ (by simp; have := unhide HN; omega)]; have := unhide HN; omega)) := own_cell hown (List.getElem?_eq_getElem _)
      have hfz := own_frozen hown (n + m)
      generalize (bys (laid bs n (le m s)))[n + m]'_ = u at hcell
      go_wp2
      go_roundw
      case rel =>
        refine ⟨m + 1, by omega, by go_num, ?_, hkp.setCell (.inl (by simp)) _⟩
        rw [byte_of _ _ (by have := unhide HSL; omega) (by omega), le_succ]
        exact own_lay hown (by simp; have := unhide HN; omega) _ _ (by simp)
      case measure => simp [intOf]; omega
    · obtain rfl : m = 4 := by omega
      go_wp2
      go_ret
      exact ⟨rfl, hown, by simpa [Value.ownBlock] using hkp⟩
end Go.Proofs.Ytplfijhianmohaa
