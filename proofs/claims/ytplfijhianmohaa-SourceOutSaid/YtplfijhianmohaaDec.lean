/-
  What frame.Decode answers.
-/
import Derived.Test.YtplfijhianmohaaFrame4
import Derived.Test.YtplfijhianmohaaParse
namespace Go.Proofs.Ytplfijhianmohaa
open Go.RowKit

/-- what Decode answers -/
def DecPost (w : World) (bs : List UInt8) (r : Ending) (w' : World) : Prop :=
  Keep [] w w' ∧ (((parse bs).May ∧ (parse bs).bytes = bs ∧ ∃ u, r = .returned (.tuple #[.agg #[.int .i64 (parse bs).k, .int .i64 (parse bs).v, .int .i64 (parse bs).s, .int .i64 (parse bs).b, .int .i64 (parse bs).c, .int .i64 (parse bs).e, .int .i64 (parse bs).d, u], .int .i64 0]) ∧
      w'.ownsRow w.heap.size 5 1 u (bs.length - 25) (bys (parse bs).data)) ∨
    (¬ ((parse bs).May ∧ (parse bs).bytes = bs) ∧ r = .returned (.tuple #[.agg #[.int .i64 0, .int .i64 0, .int .i64 0, .int .i64 0, .int .i64 0, .int .i64 0, .int .i64 0, .slice none 0 0], .int .i64 2])))

theorem DecPost.ok {w w' : World} {bs : List UInt8} {k v s b c e d m : Nat} {data : List UInt8} {u : Value} (hk : Keep [] w w') (hp : parse bs = ⟨k, v, s, b, c, e, d, data⟩) (h1 : FrMay k v s b c e d data) (h2 : frBytes k v s b c e d data = bs) (hm : bs.length = m + 25) (hu : w'.ownsRow w.heap.size 5 1 u m (bys data)) :
    DecPost w bs (.returned (.tuple #[.agg #[.int .i64 k, .int .i64 v, .int .i64 s, .int .i64 b, .int .i64 c, .int .i64 e, .int .i64 d, u], .int .i64 0])) w' := by
  refine ⟨hk, .inl ?_⟩
  rw [hp]
  exact ⟨h1, h2, u, rfl, by rw [hm, Nat.add_sub_cancel]; exact hu⟩
theorem DecPost.bad {w w' : World} {bs : List UInt8} (hk : Keep [] w w') (h : ¬ ((parse bs).May ∧ (parse bs).bytes = bs)) :
    DecPost w bs (.returned (.tuple #[.agg #[.int .i64 0, .int .i64 0, .int .i64 0, .int .i64 0, .int .i64 0, .int .i64 0, .int .i64 0, .slice none 0 0], .int .i64 2])) w' := ⟨hk, .inr ⟨h, rfl⟩⟩

theorem RowAt.far {w : World} {base r a F i : Nat} {v : Value} {bs : List UInt8} (h : RowAt w base r v bs a) (hF : F < base) (u : Value) : RowAt (w.setCell ⟨F, i, none⟩ u) base r v bs a :=
  ⟨h.blk.far (p := ⟨F, i, none⟩) (by have := h.base; simp; omega) u, own_set h.own (fun hm => by have := (own_mem h.own hm).1; omega) u, h.base, h.le, h.few⟩

/-- the word that Decode keeps it, for the contracts that lean on it -/
def DecodeWord : Prop := ∀ (A : Option Addr) (n c : Nat) (bs : List UInt8) (w : World), Rd w A n (bys bs) → 25 ≤ n → n ≤ 65536 → Calls Try.prog 27 #[.slice A n c] w (DecPost w bs)
end Go.Proofs.Ytplfijhianmohaa
