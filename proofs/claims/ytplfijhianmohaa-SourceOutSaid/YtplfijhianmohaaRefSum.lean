/-
  Contracts of the reference's sum: More (of nothing ahead), Sum.
-/
import Derived.Test.YtplfijhianmohaaRefRow2
namespace Go.Proofs.Ytplfijhianmohaa
open Go.RowKit

theorem ofNat_u32 (c : Nat) (h : c < 256) : ((c : Nat) : Int) = ((BitVec.ofNat 32 c).toNat : Nat) := by
  rw [BitVec.toNat_ofNat, Nat.mod_eq_of_lt (by omega)]
theorem crc_testR (z : BitVec 32) (c : Nat) (h : c < 256) :
    (bits BinOp.and IntKind.u32 (bits BinOp.xor IntKind.u32 (z.toNat : Nat) ((c : Nat) : Int)) 1 == 1) = decide ((z ^^^ BitVec.ofNat 32 c) &&& 1#32 = 1#32) := by
  rw [ofNat_u32 c h, xor_u32, show (1 : Int) = ((1#32 : BitVec 32).toNat : Nat) by rfl, and_u32]
  rw [Bool.eq_iff_iff, beq_iff_eq, decide_eq_true_eq]
  rw [Int.natCast_inj, BitVec.toNat_inj]

set_option maxHeartbeats 2000000 in
theorem MoreR (A : Option Addr) (n c : Nat) (bs : List UInt8) (w : World) (ha : Rd w A n (bys bs)) (hn : n ≤ 9223372036854775807) :
    Calls Try.prog 65 #[.int .i64 0, .slice A n c] w fun e w' => e = .returned (.int .i64 (crcSum bs : Nat)) ∧ w = w' := by
  have hl : bs.length = n := by simpa using ha.1
  have HL := hide hl
  clear hl
  have hT := Mod_any 0 4294967296 w (by omega) (by omega)
  simp only [Int.zero_emod] at hT
  go_enter Try.func65, Try.ntmps65
  go_wp2_with (refine hT.mono ?_; clear hT; rintro e w' ⟨rfl, rfl⟩)
  go_loop [5, 6] (fun v i => ∃ k : Nat, k ≤ n ∧ i = .int .i64 k ∧ v = .int .u32 ((crcAdd 0xFFFFFFFF#32 (bs.take k)).toNat : Nat)) (fun _ i => n - (intOf i).toNat)
  case atStart => exact ⟨0, Nat.zero_le _, rfl, rfl⟩
  case round =>
    obtain ⟨k, hk, rfl, rfl⟩ := hrel
    by_cases hlt : k < n
    · obtain ⟨b, o, u, rfl, hx, hb, hc⟩ := ha.at_ hlt
      have hbk : k < bs.length := by rw [unhide HL]; exact hlt
      rw [bys_get _ _ hbk, Option.some.injEq] at hx
      subst hx
      have hsn : crcAdd 0xFFFFFFFF#32 (bs.take (k + 1)) = crcBits (crcAdd 0xFFFFFFFF#32 (bs.take k)) bs[k] 8 := by rw [List.take_succ_eq_append_getElem hbk, crcAdd_snoc]
      have HS := hide hsn
      clear hsn
      generalize crcAdd 0xFFFFFFFF#32 (bs.take k) = y at *
      generalize bs[k] = cc at *
      have hc8 := cc.toNat_lt
      unfold by8 at hc
      go_wp2
      go_loop [5, 7, 8, 9] (fun v x i _ => ∃ m : Nat, m ≤ 8 ∧ i = .int .i64 m ∧ x = .int .u32 ((cc.toNat / 2 ^ m : Nat) : Int) ∧ v = .int .u32 ((crcBits y cc m).toNat : Nat)) (fun _ _ i _ => 8 - (intOf i).toNat)
      case atStart => exact ⟨0, Nat.zero_le _, rfl, by simp, rfl⟩
      case round =>
        obtain ⟨m, hm, rfl, rfl, rfl⟩ := hrel
        by_cases hm8 : m < 8
        · have hs2 := crcBits_succ y cc m
          have hcm : cc.toNat / 2 ^ m ≤ cc.toNat := Nat.div_le_self _ _
          have hcd : ((cc.toNat / 2 ^ m : Nat) : Int) / 2 = ((cc.toNat / 2 ^ (m + 1) : Nat) : Int) := by
            rw [Nat.pow_succ, ← Nat.div_div_eq_div_mul]; omega
          have HS2 := hide hs2
          have HCD := hide hcd
          have hT := crc_testR (crcBits y cc m) (cc.toNat / 2 ^ m) (by omega)
          clear hs2 hcd
          generalize crcBits y cc m = z at *
          generalize cc.toNat / 2 ^ m = q at *
          by_cases hb : (z ^^^ BitVec.ofNat 32 q) &&& 1#32 = 1#32
          · rw [decide_eq_true hb] at hT
            have HB := hide hb
            clear hb
            go_wp2
            go_round
            case rel => exact ⟨m + 1, by omega, by go_num, by rw [unhide HCD], by rw [unhide HS2, crcBit, if_pos (unhide HB), turn_u32]⟩
            case measure => simp [intOf]; omega
          · rw [decide_eq_false hb] at hT
            have HB := hide hb
            clear hb
            go_wp2
            go_round
            case rel => exact ⟨m + 1, by omega, by go_num, by rw [unhide HCD], by rw [unhide HS2, crcBit, if_neg (unhide HB), shr1_u32]⟩
            case measure => simp [intOf]; omega
        · obtain rfl : m = 8 := by omega
          go_wp2
          go_round
          case rel => exact ⟨k + 1, by omega, by go_num, by rw [unhide HS]⟩
          case measure => simp [intOf]; omega
    · obtain rfl : k = n := by omega
      go_wp2
      go_ret
      exact ⟨ret_int (by rw [List.take_of_length_le (Nat.le_of_eq (unhide HL))]; exact not_u32 _), rfl⟩

theorem SumR (A : Option Addr) (n c : Nat) (bs : List UInt8) (w : World) (ha : Rd w A n (bys bs)) (hn : n ≤ 9223372036854775807) :
    Calls Try.prog 51 #[.slice A n c] w fun e w' => e = .returned (.int .i64 (crcSum bs : Nat)) ∧ w = w' := by
  have hT := MoreR A n c bs w ha hn
  go_enter Try.func51, Try.ntmps51
  go_wp2_with (refine hT.mono ?_; clear hT; rintro e w' ⟨rfl, rfl⟩)
  go_ret
  exact ⟨rfl, rfl⟩

theorem OneR {w1 W0 : World} (base r a k z : Nat) (v : Value) (bs : List UInt8) (h : RefAt W0 base r v bs a) (hk : k = 1 ∨ k = 4) (hz : z < 256 ^ k) (hm : a + k ≤ bs.length) (hK : Keep [] w1 W0) (hb : base = w1.heap.size) :
    Calls Try.prog 50 #[.pointer (some ⟨r, 0, none⟩), .int .i64 (k : Nat), .int .i64 (z : Nat)] W0 fun e w' => e = .returned (.tuple #[]) ∧ RefAt w' base r v (laid bs a (le k z)) (a + k) ∧ Keep [] w1 w' := by
  have hka := hK.alloc (.cells #[.int .i64 (z : Nat)] 3)
  have hRA : RefAt (W0.alloc (.cells #[.int .i64 (z : Nat)] 3)) base r v bs a := h.keep0 ((Keep.refl _ _).alloc _)
  have hT := PutR (W0.alloc (.cells #[.int .i64 (z : Nat)] 3)) base r a k v bs hRA hk (some ⟨W0.heap.size, 0, none⟩) 1 1 [z] (rd_new1 _ _ _) (fun p hp => by
    cases hp
    intro hx
    rcases List.mem_cons.1 hx with e | hx
    · exact absurd (show W0.heap.size = r from e) (Nat.ne_of_gt h.blk.lt)
    · exact absurd (own_mem h.own hx).2 (Nat.lt_irrefl _)) (by simpa using hz) (by omega) (by omega)
  go_enter Try.func50, Try.ntmps50
  go_wp2_with (refine hT.mono ?_; clear hT; rintro e w' ⟨rfl, h1, h2⟩)
  go_end0
  subst hb
  exact ⟨rfl, by simpa using h1, hka.trans h2 (fun x hx => .inr (hRA.fresh x hx))⟩
end Go.Proofs.Ytplfijhianmohaa
