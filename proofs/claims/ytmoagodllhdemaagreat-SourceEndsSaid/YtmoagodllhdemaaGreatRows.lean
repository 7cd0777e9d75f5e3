/-
  No cell of these rows narrows 'for every input' (looked for: loops, veiled, ifaces, maps, wideKeys, modest, calm, conditions, laid).
  DERIVED. THE GIVEN ROWS OF THIS SEAT. 4 by the template 'for every input the law returns true; each argument reads behind the call as it read before'; 0 by the template 'total and deterministic' (their statements: YtmoagodllhdemaaGreatTotals.lean).
  GIVEN WITH THE SEED: the statements are not yours to turn. If you find one false, say at which input.
  Laid BY PROGRAM, IN A SANDBOX (cutbox-rows.mjs): the forced cells as the released guide's own fill.sh prints them over the translation 6111a6683c8c3ac9… (all of the seat's roots in one cut). By AI agents, Wed Nov 11 2026. No macro, syntax, notation, axiom, sorry.
-/
import Derived.Test.YtmoagodllhdemaaGreatChecked
import GoSem.Claim
import GoSem.ClaimJoined
import GoSem.ClaimMapViews
import Derived.JoinedTies
import Derived.KernelRfl
namespace Go.Proofs.YtmoagodllhdemaaGreat
/- THE CELL 'sum', in the pinned program and in every row, IS THE sha256 OF THE DUMP (.gsa) THAT YtmoagodllhdemaaGreatProg.lean LOADS. Nothing in Lean hashes anything: it is a label: what it is worth is what the hold of that sum in a sandbox is worth. -/
noncomputable def Tryz.pinned : Pinned := { name := "ytmoagodllhdemaagreat", sum := "6111a6683c8c3ac9d08eb25e7037846ad1bdc4bbe8d5378c09c45163b51bf9c4", checked := Tryz.checked }
namespace Rows
def none {H : Type} : Left H := { results := [], args := [] }

/-- 'keelsonlaw25.ReplicaModes': WHATEVER THE INPUT: true; the input reads as it did. -/
def replicaModesSpec : ChangeSpec := { name := "replicaModes", fn := fun _ => fun
  | [d1, d2, d3, d4] => { results := [.lit (.bool true)], args := [d1, d2, d3, d4] }
  | _ => none }
def replicaModesRow : OpenClaim := { program := "ytmoagodllhdemaagreat", sum := "6111a6683c8c3ac9d08eb25e7037846ad1bdc4bbe8d5378c09c45163b51bf9c4", func := "keelson/keelsonlaw25.ReplicaModes", spec := "replicaModes", unfollowed := true, recurses := true, apart := false }
def ReplicaModesSaid : Prop := replicaModesRow.holds Tryz.pinned (OpenSpec.ofChange replicaModesSpec)

/-- ITS FALSE NEIGHBOUR: 'it returns false'. Refute it at one input. -/
def replicaModesWrong : ChangeSpec := { name := "replicaModes", fn := fun _ => fun
  | [d1, d2, d3, d4] => { results := [.lit (.bool false)], args := [d1, d2, d3, d4] }
  | _ => none }
def ReplicaModesWrongFalsely : Prop := replicaModesRow.holds Tryz.pinned (OpenSpec.ofChange replicaModesWrong)

/-- 'keelsonlaw25.ReplicaHello': WHATEVER THE INPUT: true; the input reads as it did. -/
def replicaHelloSpec : ChangeSpec := { name := "replicaHello", fn := fun _ => fun
  | [d1, d2, d3, d4] => { results := [.lit (.bool true)], args := [d1, d2, d3, d4] }
  | _ => none }
def replicaHelloRow : OpenClaim := { program := "ytmoagodllhdemaagreat", sum := "6111a6683c8c3ac9d08eb25e7037846ad1bdc4bbe8d5378c09c45163b51bf9c4", func := "keelson/keelsonlaw25.ReplicaHello", spec := "replicaHello", unfollowed := true, recurses := true, apart := false }
def ReplicaHelloSaid : Prop := replicaHelloRow.holds Tryz.pinned (OpenSpec.ofChange replicaHelloSpec)

/-- ITS FALSE NEIGHBOUR: 'it returns false'. Refute it at one input. -/
def replicaHelloWrong : ChangeSpec := { name := "replicaHello", fn := fun _ => fun
  | [d1, d2, d3, d4] => { results := [.lit (.bool false)], args := [d1, d2, d3, d4] }
  | _ => none }
def ReplicaHelloWrongFalsely : Prop := replicaHelloRow.holds Tryz.pinned (OpenSpec.ofChange replicaHelloWrong)

/-- 'keelsonlaw25.ReplicaFirst': WHATEVER THE INPUT: true; the input reads as it did. -/
def replicaFirstSpec : ChangeSpec := { name := "replicaFirst", fn := fun _ => fun
  | [d1, d2, d3, d4] => { results := [.lit (.bool true)], args := [d1, d2, d3, d4] }
  | _ => none }
def replicaFirstRow : OpenClaim := { program := "ytmoagodllhdemaagreat", sum := "6111a6683c8c3ac9d08eb25e7037846ad1bdc4bbe8d5378c09c45163b51bf9c4", func := "keelson/keelsonlaw25.ReplicaFirst", spec := "replicaFirst", unfollowed := true, recurses := true, apart := false }
def ReplicaFirstSaid : Prop := replicaFirstRow.holds Tryz.pinned (OpenSpec.ofChange replicaFirstSpec)

/-- ITS FALSE NEIGHBOUR: 'it returns false'. Refute it at one input. -/
def replicaFirstWrong : ChangeSpec := { name := "replicaFirst", fn := fun _ => fun
  | [d1, d2, d3, d4] => { results := [.lit (.bool false)], args := [d1, d2, d3, d4] }
  | _ => none }
def ReplicaFirstWrongFalsely : Prop := replicaFirstRow.holds Tryz.pinned (OpenSpec.ofChange replicaFirstWrong)

/-- 'keelsonlaw26.SourceEnds': WHATEVER THE INPUT: true; the input reads as it did. -/
def sourceEndsSpec : ChangeSpec := { name := "sourceEnds", fn := fun _ => fun
  | [d1, d2, d3] => { results := [.lit (.bool true)], args := [d1, d2, d3] }
  | _ => none }
def sourceEndsRow : OpenClaim := { program := "ytmoagodllhdemaagreat", sum := "6111a6683c8c3ac9d08eb25e7037846ad1bdc4bbe8d5378c09c45163b51bf9c4", func := "keelson/keelsonlaw26.SourceEnds", spec := "sourceEnds", unfollowed := true, recurses := true, apart := false }
def SourceEndsSaid : Prop := sourceEndsRow.holds Tryz.pinned (OpenSpec.ofChange sourceEndsSpec)

/-- ITS FALSE NEIGHBOUR: 'it returns false'. Refute it at one input. -/
def sourceEndsWrong : ChangeSpec := { name := "sourceEnds", fn := fun _ => fun
  | [d1, d2, d3] => { results := [.lit (.bool false)], args := [d1, d2, d3] }
  | _ => none }
def SourceEndsWrongFalsely : Prop := sourceEndsRow.holds Tryz.pinned (OpenSpec.ofChange sourceEndsWrong)

/- THE SECOND FORM. 'bulk': how many values and letters a reading holds, each counted each time it is reached (what is shared counts as often as it is met; a slice's spare places count too). A statement '..UptoSaid' is the law's where the arguments, and the package variables that the reading takes, are together of bulk at most 1048576: NARROWER than '..Said'. Prove '..Said' where nothing that the law and all that it calls make is longer than what came in: it says more and counts as full. Else prove '..UptoSaid'. A law counts once. -/
mutual
def uptoBulk {H : Type} : DataW H → Nat
  | .lit (.string bytes) => bytes.length + 1
  | .lit _ => 1
  | .nil => 1
  | .ptr d => uptoBulk d + 1
  | .slice elems spare => uptoBulkAll elems + uptoBulkAll spare + 1
  | .agg parts => uptoBulkAll parts + 1
  | .iface _ d => uptoBulk d + 1
  | .map entries => uptoBulkEntries entries + 1
  | .held _ => 1
def uptoBulkAll {H : Type} : List (DataW H) → Nat
  | [] => 0
  | d :: r => uptoBulk d + uptoBulkAll r
def uptoBulkEntries {H : Type} : List (Lit × DataW H) → Nat
  | [] => 0
  | x :: r => uptoBulkEntry x + uptoBulkEntries r
def uptoBulkEntry {H : Type} : Lit × DataW H → Nat
  | (.string bytes, d) => bytes.length + uptoBulk d + 1
  | (_, d) => uptoBulk d + 1
 end
def uptoSmall : (H : Type) → List (DataW H) → Bool := fun _ ds => decide (uptoBulkAll ds ≤ 1048576)
def OpenSpec.upto (s : _root_.Go.ChangeSpec) : _root_.Go.OpenSpec := { _root_.Go.OpenSpec.ofChange s with cond := some uptoSmall }

/-- 'keelsonlaw25.ReplicaModes', WHERE WHAT IT READS IS OF BULK AT MOST 1048576: true; the input reads as it did. -/
def replicaModesUptoRow : OpenClaim := { program := "ytmoagodllhdemaagreat", sum := "6111a6683c8c3ac9d08eb25e7037846ad1bdc4bbe8d5378c09c45163b51bf9c4", func := "keelson/keelsonlaw25.ReplicaModes", spec := "replicaModes", unfollowed := true, recurses := true, apart := false, narrowed := true }
def ReplicaModesUptoSaid : Prop := replicaModesUptoRow.holds Tryz.pinned (OpenSpec.upto replicaModesSpec)

/-- 'keelsonlaw25.ReplicaHello', WHERE WHAT IT READS IS OF BULK AT MOST 1048576: true; the input reads as it did. -/
def replicaHelloUptoRow : OpenClaim := { program := "ytmoagodllhdemaagreat", sum := "6111a6683c8c3ac9d08eb25e7037846ad1bdc4bbe8d5378c09c45163b51bf9c4", func := "keelson/keelsonlaw25.ReplicaHello", spec := "replicaHello", unfollowed := true, recurses := true, apart := false, narrowed := true }
def ReplicaHelloUptoSaid : Prop := replicaHelloUptoRow.holds Tryz.pinned (OpenSpec.upto replicaHelloSpec)

/-- 'keelsonlaw25.ReplicaFirst', WHERE WHAT IT READS IS OF BULK AT MOST 1048576: true; the input reads as it did. -/
def replicaFirstUptoRow : OpenClaim := { program := "ytmoagodllhdemaagreat", sum := "6111a6683c8c3ac9d08eb25e7037846ad1bdc4bbe8d5378c09c45163b51bf9c4", func := "keelson/keelsonlaw25.ReplicaFirst", spec := "replicaFirst", unfollowed := true, recurses := true, apart := false, narrowed := true }
def ReplicaFirstUptoSaid : Prop := replicaFirstUptoRow.holds Tryz.pinned (OpenSpec.upto replicaFirstSpec)

/-- 'keelsonlaw26.SourceEnds', WHERE WHAT IT READS IS OF BULK AT MOST 1048576: true; the input reads as it did. -/
def sourceEndsUptoRow : OpenClaim := { program := "ytmoagodllhdemaagreat", sum := "6111a6683c8c3ac9d08eb25e7037846ad1bdc4bbe8d5378c09c45163b51bf9c4", func := "keelson/keelsonlaw26.SourceEnds", spec := "sourceEnds", unfollowed := true, recurses := true, apart := false, narrowed := true }
def SourceEndsUptoSaid : Prop := sourceEndsUptoRow.holds Tryz.pinned (OpenSpec.upto sourceEndsSpec)

end Rows
end Go.Proofs.YtmoagodllhdemaaGreat
