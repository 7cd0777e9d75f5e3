/-
  No cell of these rows narrows 'for every input' (looked for: loops, veiled, ifaces, maps, wideKeys, modest, calm, conditions, laid).
  DERIVED. THE GIVEN ROWS OF THIS SEAT. 4 by the template 'for every input the law returns true; each argument reads behind the call as it read before'; 0 by the template 'total and deterministic' (their statements: YtplfijhianmohaaTotals.lean).
  GIVEN WITH THE SEED: the statements are not yours to turn. If you find one false, say at which input.
  Laid BY PROGRAM, IN A SANDBOX (cutbox-rows.mjs): the forced cells as the released guide's own fill.sh prints them over the translation 5bdc7d16e5ee9653… (all of the seat's roots in one cut). By AI agents, Wed Nov 11 2026. No macro, syntax, notation, axiom, sorry.
-/
import Derived.Test.YtplfijhianmohaaChecked
import GoSem.Claim
import GoSem.ClaimJoined
import GoSem.ClaimMapViews
import Derived.JoinedTies
import Derived.KernelRfl
namespace Go.Proofs.Ytplfijhianmohaa
/- THE CELL 'sum', in the pinned program and in every row, IS THE sha256 OF THE DUMP (.gsa) THAT YtplfijhianmohaaProg.lean LOADS. Nothing in Lean hashes anything: it is a label: what it is worth is what the hold of that sum in a sandbox is worth. -/
noncomputable def Try.pinned : Pinned := { name := "ytplfijhianmohaa", sum := "5bdc7d16e5ee96532304d2365146ea4451c70995645c88f42adb9aa03b1796c9", checked := Try.checked }
namespace Rows
def none {H : Type} : Left H := { results := [], args := [] }

/-- 'keelsonlaw26.SourceKeeps': WHATEVER THE INPUT: true; the input reads as it did. -/
def sourceKeepsSpec : ChangeSpec := { name := "sourceKeeps", fn := fun _ => fun
  | [d1, d2] => { results := [.lit (.bool true)], args := [d1, d2] }
  | _ => none }
def sourceKeepsRow : OpenClaim := { program := "ytplfijhianmohaa", sum := "5bdc7d16e5ee96532304d2365146ea4451c70995645c88f42adb9aa03b1796c9", func := "keelson/keelsonlaw26.SourceKeeps", spec := "sourceKeeps", unfollowed := true, recurses := true, apart := false }
def SourceKeepsSaid : Prop := sourceKeepsRow.holds Try.pinned (OpenSpec.ofChange sourceKeepsSpec)

/-- ITS FALSE NEIGHBOUR: 'it returns false'. Refute it at one input. -/
def sourceKeepsWrong : ChangeSpec := { name := "sourceKeeps", fn := fun _ => fun
  | [d1, d2] => { results := [.lit (.bool false)], args := [d1, d2] }
  | _ => none }
def SourceKeepsWrongFalsely : Prop := sourceKeepsRow.holds Try.pinned (OpenSpec.ofChange sourceKeepsWrong)

/-- 'keelsonlaw26.SourceRoom': WHATEVER THE INPUT: true; the input reads as it did. -/
def sourceRoomSpec : ChangeSpec := { name := "sourceRoom", fn := fun _ => fun
  | [d1, d2] => { results := [.lit (.bool true)], args := [d1, d2] }
  | _ => none }
def sourceRoomRow : OpenClaim := { program := "ytplfijhianmohaa", sum := "5bdc7d16e5ee96532304d2365146ea4451c70995645c88f42adb9aa03b1796c9", func := "keelson/keelsonlaw26.SourceRoom", spec := "sourceRoom", unfollowed := true, recurses := true, apart := false }
def SourceRoomSaid : Prop := sourceRoomRow.holds Try.pinned (OpenSpec.ofChange sourceRoomSpec)

/-- ITS FALSE NEIGHBOUR: 'it returns false'. Refute it at one input. -/
def sourceRoomWrong : ChangeSpec := { name := "sourceRoom", fn := fun _ => fun
  | [d1, d2] => { results := [.lit (.bool false)], args := [d1, d2] }
  | _ => none }
def SourceRoomWrongFalsely : Prop := sourceRoomRow.holds Try.pinned (OpenSpec.ofChange sourceRoomWrong)

/-- 'keelsonlaw26.SourceRefuses': WHATEVER THE INPUT: true; the input reads as it did. -/
def sourceRefusesSpec : ChangeSpec := { name := "sourceRefuses", fn := fun _ => fun
  | [d1, d2, d3, d4] => { results := [.lit (.bool true)], args := [d1, d2, d3, d4] }
  | _ => none }
def sourceRefusesRow : OpenClaim := { program := "ytplfijhianmohaa", sum := "5bdc7d16e5ee96532304d2365146ea4451c70995645c88f42adb9aa03b1796c9", func := "keelson/keelsonlaw26.SourceRefuses", spec := "sourceRefuses", unfollowed := true, recurses := true, apart := false }
def SourceRefusesSaid : Prop := sourceRefusesRow.holds Try.pinned (OpenSpec.ofChange sourceRefusesSpec)

/-- ITS FALSE NEIGHBOUR: 'it returns false'. Refute it at one input. -/
def sourceRefusesWrong : ChangeSpec := { name := "sourceRefuses", fn := fun _ => fun
  | [d1, d2, d3, d4] => { results := [.lit (.bool false)], args := [d1, d2, d3, d4] }
  | _ => none }
def SourceRefusesWrongFalsely : Prop := sourceRefusesRow.holds Try.pinned (OpenSpec.ofChange sourceRefusesWrong)

/-- 'keelsonlaw26.SourceOut': WHATEVER THE INPUT: true; the input reads as it did. -/
def sourceOutSpec : ChangeSpec := { name := "sourceOut", fn := fun _ => fun
  | [d1, d2, d3, d4] => { results := [.lit (.bool true)], args := [d1, d2, d3, d4] }
  | _ => none }
def sourceOutRow : OpenClaim := { program := "ytplfijhianmohaa", sum := "5bdc7d16e5ee96532304d2365146ea4451c70995645c88f42adb9aa03b1796c9", func := "keelson/keelsonlaw26.SourceOut", spec := "sourceOut", unfollowed := true, recurses := true, apart := false }
def SourceOutSaid : Prop := sourceOutRow.holds Try.pinned (OpenSpec.ofChange sourceOutSpec)

/-- ITS FALSE NEIGHBOUR: 'it returns false'. Refute it at one input. -/
def sourceOutWrong : ChangeSpec := { name := "sourceOut", fn := fun _ => fun
  | [d1, d2, d3, d4] => { results := [.lit (.bool false)], args := [d1, d2, d3, d4] }
  | _ => none }
def SourceOutWrongFalsely : Prop := sourceOutRow.holds Try.pinned (OpenSpec.ofChange sourceOutWrong)

/- THE SECOND FORM. 'bulk': how many values and letters a reading holds, each counted each time it is reached (what is shared counts as often as it is met; a slice's spare places count too). A statement '..UptoSaid' is the law's where the arguments, and the package variables that the reading takes, are together of bulk at most 1048576: NARROWER than '..Said'. Prove '..Said' where nothing that the law and all that it calls make is longer than what came in: it says more and counts as full. Else prove '..UptoSaid'. A law counts once. -/
mutual
def uptoBulk {H : Type} : DataW H → Nat
  | .lit (.string bytes) => bytes.length + 1
  | .lit _ => 1
  | .nil => 1
  | .ptr d => uptoBulk d + 1
  | .slice elems spare => uptoBulkAll elems + uptoBulkAll spare + 1
  | .agg parts => uptoBulkAll parts + 1
  | .iface _ d => uptoBulk d + 1
  | .map entries => uptoBulkEntries entries + 1
  | .held _ => 1
def uptoBulkAll {H : Type} : List (DataW H) → Nat
  | [] => 0
  | d :: r => uptoBulk d + uptoBulkAll r
def uptoBulkEntries {H : Type} : List (Lit × DataW H) → Nat
  | [] => 0
  | x :: r => uptoBulkEntry x + uptoBulkEntries r
def uptoBulkEntry {H : Type} : Lit × DataW H → Nat
  | (.string bytes, d) => bytes.length + uptoBulk d + 1
  | (_, d) => uptoBulk d + 1
 end
def uptoSmall : (H : Type) → List (DataW H) → Bool := fun _ ds => decide (uptoBulkAll ds ≤ 1048576)
def OpenSpec.upto (s : _root_.Go.ChangeSpec) : _root_.Go.OpenSpec := { _root_.Go.OpenSpec.ofChange s with cond := some uptoSmall }

/-- 'keelsonlaw26.SourceKeeps', WHERE WHAT IT READS IS OF BULK AT MOST 1048576: true; the input reads as it did. -/
def sourceKeepsUptoRow : OpenClaim := { program := "ytplfijhianmohaa", sum := "5bdc7d16e5ee96532304d2365146ea4451c70995645c88f42adb9aa03b1796c9", func := "keelson/keelsonlaw26.SourceKeeps", spec := "sourceKeeps", unfollowed := true, recurses := true, apart := false, narrowed := true }
def SourceKeepsUptoSaid : Prop := sourceKeepsUptoRow.holds Try.pinned (OpenSpec.upto sourceKeepsSpec)

/-- 'keelsonlaw26.SourceRoom', WHERE WHAT IT READS IS OF BULK AT MOST 1048576: true; the input reads as it did. -/
def sourceRoomUptoRow : OpenClaim := { program := "ytplfijhianmohaa", sum := "5bdc7d16e5ee96532304d2365146ea4451c70995645c88f42adb9aa03b1796c9", func := "keelson/keelsonlaw26.SourceRoom", spec := "sourceRoom", unfollowed := true, recurses := true, apart := false, narrowed := true }
def SourceRoomUptoSaid : Prop := sourceRoomUptoRow.holds Try.pinned (OpenSpec.upto sourceRoomSpec)

/-- 'keelsonlaw26.SourceRefuses', WHERE WHAT IT READS IS OF BULK AT MOST 1048576: true; the input reads as it did. -/
def sourceRefusesUptoRow : OpenClaim := { program := "ytplfijhianmohaa", sum := "5bdc7d16e5ee96532304d2365146ea4451c70995645c88f42adb9aa03b1796c9", func := "keelson/keelsonlaw26.SourceRefuses", spec := "sourceRefuses", unfollowed := true, recurses := true, apart := false, narrowed := true }
def SourceRefusesUptoSaid : Prop := sourceRefusesUptoRow.holds Try.pinned (OpenSpec.upto sourceRefusesSpec)

/-- 'keelsonlaw26.SourceOut', WHERE WHAT IT READS IS OF BULK AT MOST 1048576: true; the input reads as it did. -/
def sourceOutUptoRow : OpenClaim := { program := "ytplfijhianmohaa", sum := "5bdc7d16e5ee96532304d2365146ea4451c70995645c88f42adb9aa03b1796c9", func := "keelson/keelsonlaw26.SourceOut", spec := "sourceOut", unfollowed := true, recurses := true, apart := false, narrowed := true }
def SourceOutUptoSaid : Prop := sourceOutUptoRow.holds Try.pinned (OpenSpec.upto sourceOutSpec)

end Rows
end Go.Proofs.Ytplfijhianmohaa
