/-
  No cell of these rows narrows 'for every input' (looked for: loops, veiled, ifaces, maps, wideKeys, modest, calm, conditions, laid).
  DERIVED. THE GIVEN ROWS OF THIS SEAT. 2 by the template 'for every input the law returns true; each argument reads behind the call as it read before'; 0 by the template 'total and deterministic' (their statements: YtglbkndbbhamcaaGreatTotals.lean).
  GIVEN WITH THE SEED: the statements are not yours to turn. If you find one false, say at which input.
  Laid BY PROGRAM, IN A SANDBOX (cutbox-rows.mjs): the forced cells as the released guide's own fill.sh prints them over the translation 900e93c25d7236df… (all of the seat's roots in one cut). By AI agents, Wed Nov 11 2026. No macro, syntax, notation, axiom, sorry.
-/
import Derived.Test.YtglbkndbbhamcaaGreatChecked
import GoSem.Claim
import GoSem.ClaimJoined
import GoSem.ClaimMapViews
import Derived.JoinedTies
import Derived.KernelRfl
namespace Go.Proofs.YtglbkndbbhamcaaGreat
/- THE CELL 'sum', in the pinned program and in every row, IS THE sha256 OF THE DUMP (.gsa) THAT YtglbkndbbhamcaaGreatProg.lean LOADS. Nothing in Lean hashes anything: it is a label: what it is worth is what the hold of that sum in a sandbox is worth. -/
noncomputable def Tryz.pinned : Pinned := { name := "ytglbkndbbhamcaagreat", sum := "900e93c25d7236df6b359665f4d7e97b2e21daea38f0347d87f3f6a6b5a4bd90", checked := Tryz.checked }
namespace Rows
def none {H : Type} : Left H := { results := [], args := [] }

/-- 'keelsonlaw25.ReplicaEpochs': WHATEVER THE INPUT: true; the input reads as it did. -/
def replicaEpochsSpec : ChangeSpec := { name := "replicaEpochs", fn := fun _ => fun
  | [d1, d2, d3, d4] => { results := [.lit (.bool true)], args := [d1, d2, d3, d4] }
  | _ => none }
def replicaEpochsRow : OpenClaim := { program := "ytglbkndbbhamcaagreat", sum := "900e93c25d7236df6b359665f4d7e97b2e21daea38f0347d87f3f6a6b5a4bd90", func := "keelson/keelsonlaw25.ReplicaEpochs", spec := "replicaEpochs", unfollowed := true, recurses := true, apart := false }
def ReplicaEpochsSaid : Prop := replicaEpochsRow.holds Tryz.pinned (OpenSpec.ofChange replicaEpochsSpec)

/-- ITS FALSE NEIGHBOUR: 'it returns false'. Refute it at one input. -/
def replicaEpochsWrong : ChangeSpec := { name := "replicaEpochs", fn := fun _ => fun
  | [d1, d2, d3, d4] => { results := [.lit (.bool false)], args := [d1, d2, d3, d4] }
  | _ => none }
def ReplicaEpochsWrongFalsely : Prop := replicaEpochsRow.holds Tryz.pinned (OpenSpec.ofChange replicaEpochsWrong)

/-- 'keelsonlaw25.ReplicaRefuses': WHATEVER THE INPUT: true; the input reads as it did. -/
def replicaRefusesSpec : ChangeSpec := { name := "replicaRefuses", fn := fun _ => fun
  | [d1, d2, d3, d4, d5] => { results := [.lit (.bool true)], args := [d1, d2, d3, d4, d5] }
  | _ => none }
def replicaRefusesRow : OpenClaim := { program := "ytglbkndbbhamcaagreat", sum := "900e93c25d7236df6b359665f4d7e97b2e21daea38f0347d87f3f6a6b5a4bd90", func := "keelson/keelsonlaw25.ReplicaRefuses", spec := "replicaRefuses", unfollowed := true, recurses := true, apart := false }
def ReplicaRefusesSaid : Prop := replicaRefusesRow.holds Tryz.pinned (OpenSpec.ofChange replicaRefusesSpec)

/-- ITS FALSE NEIGHBOUR: 'it returns false'. Refute it at one input. -/
def replicaRefusesWrong : ChangeSpec := { name := "replicaRefuses", fn := fun _ => fun
  | [d1, d2, d3, d4, d5] => { results := [.lit (.bool false)], args := [d1, d2, d3, d4, d5] }
  | _ => none }
def ReplicaRefusesWrongFalsely : Prop := replicaRefusesRow.holds Tryz.pinned (OpenSpec.ofChange replicaRefusesWrong)

/- THE SECOND FORM. 'bulk': how many values and letters a reading holds, each counted each time it is reached (what is shared counts as often as it is met; a slice's spare places count too). A statement '..UptoSaid' is the law's where the arguments, and the package variables that the reading takes, are together of bulk at most 1048576: NARROWER than '..Said'. Prove '..Said' where nothing that the law and all that it calls make is longer than what came in: it says more and counts as full. Else prove '..UptoSaid'. A law counts once. -/
mutual
def uptoBulk {H : Type} : DataW H → Nat
  | .lit (.string bytes) => bytes.length + 1
  | .lit _ => 1
  | .nil => 1
  | .ptr d => uptoBulk d + 1
  | .slice elems spare => uptoBulkAll elems + uptoBulkAll spare + 1
  | .agg parts => uptoBulkAll parts + 1
  | .iface _ d => uptoBulk d + 1
  | .map entries => uptoBulkEntries entries + 1
  | .held _ => 1
def uptoBulkAll {H : Type} : List (DataW H) → Nat
  | [] => 0
  | d :: r => uptoBulk d + uptoBulkAll r
def uptoBulkEntries {H : Type} : List (Lit × DataW H) → Nat
  | [] => 0
  | x :: r => uptoBulkEntry x + uptoBulkEntries r
def uptoBulkEntry {H : Type} : Lit × DataW H → Nat
  | (.string bytes, d) => bytes.length + uptoBulk d + 1
  | (_, d) => uptoBulk d + 1
 end
def uptoSmall : (H : Type) → List (DataW H) → Bool := fun _ ds => decide (uptoBulkAll ds ≤ 1048576)
def OpenSpec.upto (s : _root_.Go.ChangeSpec) : _root_.Go.OpenSpec := { _root_.Go.OpenSpec.ofChange s with cond := some uptoSmall }

/-- 'keelsonlaw25.ReplicaEpochs', WHERE WHAT IT READS IS OF BULK AT MOST 1048576: true; the input reads as it did. -/
def replicaEpochsUptoRow : OpenClaim := { program := "ytglbkndbbhamcaagreat", sum := "900e93c25d7236df6b359665f4d7e97b2e21daea38f0347d87f3f6a6b5a4bd90", func := "keelson/keelsonlaw25.ReplicaEpochs", spec := "replicaEpochs", unfollowed := true, recurses := true, apart := false, narrowed := true }
def ReplicaEpochsUptoSaid : Prop := replicaEpochsUptoRow.holds Tryz.pinned (OpenSpec.upto replicaEpochsSpec)

/-- 'keelsonlaw25.ReplicaRefuses', WHERE WHAT IT READS IS OF BULK AT MOST 1048576: true; the input reads as it did. -/
def replicaRefusesUptoRow : OpenClaim := { program := "ytglbkndbbhamcaagreat", sum := "900e93c25d7236df6b359665f4d7e97b2e21daea38f0347d87f3f6a6b5a4bd90", func := "keelson/keelsonlaw25.ReplicaRefuses", spec := "replicaRefuses", unfollowed := true, recurses := true, apart := false, narrowed := true }
def ReplicaRefusesUptoSaid : Prop := replicaRefusesUptoRow.holds Tryz.pinned (OpenSpec.upto replicaRefusesSpec)

end Rows
end Go.Proofs.YtglbkndbbhamcaaGreat
