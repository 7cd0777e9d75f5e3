/-
  No cell of these rows narrows 'for every input' (looked for: loops, veiled, ifaces, maps, wideKeys, modest, calm, conditions, laid).
  DERIVED. THE GIVEN ROWS OF THIS SEAT. 7 by the template 'for every input the law returns true; each argument reads behind the call as it read before'; 0 by the template 'total and deterministic' (their statements: YtfedaknhecbehaaGreatTotals.lean).
  GIVEN WITH THE SEED: the statements are not yours to turn. If you find one false, say at which input.
  Laid BY PROGRAM, IN A SANDBOX (cutbox-rows.mjs): the forced cells as the released guide's own fill.sh prints them over the translation 75074ec645c51f44… (all of the seat's roots in one cut). By AI agents, Wed Nov 11 2026. No macro, syntax, notation, axiom, sorry.
-/
import Derived.Test.YtfedaknhecbehaaGreatChecked
import GoSem.Claim
import GoSem.ClaimJoined
import GoSem.ClaimMapViews
import Derived.JoinedTies
import Derived.KernelRfl
namespace Go.Proofs.YtfedaknhecbehaaGreat
/- THE CELL 'sum', in the pinned program and in every row, IS THE sha256 OF THE DUMP (.gsa) THAT YtfedaknhecbehaaGreatProg.lean LOADS. Nothing in Lean hashes anything: it is a label: what it is worth is what the hold of that sum in a sandbox is worth. -/
noncomputable def Tryz.pinned : Pinned := { name := "ytfedaknhecbehaagreat", sum := "75074ec645c51f44023b3998b64ca44364eb97c03757bbf1fe0f0e6b6183f94a", checked := Tryz.checked }
namespace Rows
def none {H : Type} : Left H := { results := [], args := [] }

/-- 'keelsonlaw21.CleanEmpties': WHATEVER THE INPUT: true; the input reads as it did. -/
def cleanEmptiesSpec : ChangeSpec := { name := "cleanEmpties", fn := fun _ => fun
  | [d1, d2] => { results := [.lit (.bool true)], args := [d1, d2] }
  | _ => none }
def cleanEmptiesRow : OpenClaim := { program := "ytfedaknhecbehaagreat", sum := "75074ec645c51f44023b3998b64ca44364eb97c03757bbf1fe0f0e6b6183f94a", func := "keelson/keelsonlaw21.CleanEmpties", spec := "cleanEmpties", unfollowed := true, recurses := true, plainKeys := false, apart := false }
def CleanEmptiesSaid : Prop := cleanEmptiesRow.holds Tryz.pinned (OpenSpec.ofChange cleanEmptiesSpec)

/-- ITS FALSE NEIGHBOUR: 'it returns false'. Refute it at one input. -/
def cleanEmptiesWrong : ChangeSpec := { name := "cleanEmpties", fn := fun _ => fun
  | [d1, d2] => { results := [.lit (.bool false)], args := [d1, d2] }
  | _ => none }
def CleanEmptiesWrongFalsely : Prop := cleanEmptiesRow.holds Tryz.pinned (OpenSpec.ofChange cleanEmptiesWrong)

/-- 'keelsonlaw21.CleanRooms': WHATEVER THE INPUT: true; the input reads as it did. -/
def cleanRoomsSpec : ChangeSpec := { name := "cleanRooms", fn := fun _ => fun
  | [d1, d2, d3] => { results := [.lit (.bool true)], args := [d1, d2, d3] }
  | _ => none }
def cleanRoomsRow : OpenClaim := { program := "ytfedaknhecbehaagreat", sum := "75074ec645c51f44023b3998b64ca44364eb97c03757bbf1fe0f0e6b6183f94a", func := "keelson/keelsonlaw21.CleanRooms", spec := "cleanRooms", unfollowed := true, recurses := true, plainKeys := false, apart := false }
def CleanRoomsSaid : Prop := cleanRoomsRow.holds Tryz.pinned (OpenSpec.ofChange cleanRoomsSpec)

/-- ITS FALSE NEIGHBOUR: 'it returns false'. Refute it at one input. -/
def cleanRoomsWrong : ChangeSpec := { name := "cleanRooms", fn := fun _ => fun
  | [d1, d2, d3] => { results := [.lit (.bool false)], args := [d1, d2, d3] }
  | _ => none }
def CleanRoomsWrongFalsely : Prop := cleanRoomsRow.holds Tryz.pinned (OpenSpec.ofChange cleanRoomsWrong)

/-- 'keelsonlaw21.CleanTurns': WHATEVER THE INPUT: true; the input reads as it did. -/
def cleanTurnsSpec : ChangeSpec := { name := "cleanTurns", fn := fun _ => fun
  | [d1, d2] => { results := [.lit (.bool true)], args := [d1, d2] }
  | _ => none }
def cleanTurnsRow : OpenClaim := { program := "ytfedaknhecbehaagreat", sum := "75074ec645c51f44023b3998b64ca44364eb97c03757bbf1fe0f0e6b6183f94a", func := "keelson/keelsonlaw21.CleanTurns", spec := "cleanTurns", unfollowed := true, recurses := true, plainKeys := false, apart := false }
def CleanTurnsSaid : Prop := cleanTurnsRow.holds Tryz.pinned (OpenSpec.ofChange cleanTurnsSpec)

/-- ITS FALSE NEIGHBOUR: 'it returns false'. Refute it at one input. -/
def cleanTurnsWrong : ChangeSpec := { name := "cleanTurns", fn := fun _ => fun
  | [d1, d2] => { results := [.lit (.bool false)], args := [d1, d2] }
  | _ => none }
def CleanTurnsWrongFalsely : Prop := cleanTurnsRow.holds Tryz.pinned (OpenSpec.ofChange cleanTurnsWrong)

/-- 'keelsonlaw21.CleanFaults': WHATEVER THE INPUT: true; the input reads as it did. -/
def cleanFaultsSpec : ChangeSpec := { name := "cleanFaults", fn := fun _ => fun
  | [d1, d2, d3] => { results := [.lit (.bool true)], args := [d1, d2, d3] }
  | _ => none }
def cleanFaultsRow : OpenClaim := { program := "ytfedaknhecbehaagreat", sum := "75074ec645c51f44023b3998b64ca44364eb97c03757bbf1fe0f0e6b6183f94a", func := "keelson/keelsonlaw21.CleanFaults", spec := "cleanFaults", unfollowed := true, recurses := true, plainKeys := false, apart := false }
def CleanFaultsSaid : Prop := cleanFaultsRow.holds Tryz.pinned (OpenSpec.ofChange cleanFaultsSpec)

/-- ITS FALSE NEIGHBOUR: 'it returns false'. Refute it at one input. -/
def cleanFaultsWrong : ChangeSpec := { name := "cleanFaults", fn := fun _ => fun
  | [d1, d2, d3] => { results := [.lit (.bool false)], args := [d1, d2, d3] }
  | _ => none }
def CleanFaultsWrongFalsely : Prop := cleanFaultsRow.holds Tryz.pinned (OpenSpec.ofChange cleanFaultsWrong)

/-- 'keelsonlaw31.AuditFinds': WHATEVER THE INPUT: true; the input reads as it did. -/
def auditFindsSpec : ChangeSpec := { name := "auditFinds", fn := fun _ => fun
  | [d1, d2, d3, d4] => { results := [.lit (.bool true)], args := [d1, d2, d3, d4] }
  | _ => none }
def auditFindsRow : OpenClaim := { program := "ytfedaknhecbehaagreat", sum := "75074ec645c51f44023b3998b64ca44364eb97c03757bbf1fe0f0e6b6183f94a", func := "keelson/keelsonlaw31.AuditFinds", spec := "auditFinds", unfollowed := true, recurses := true, plainKeys := false, apart := false }
def AuditFindsSaid : Prop := auditFindsRow.holds Tryz.pinned (OpenSpec.ofChange auditFindsSpec)

/-- ITS FALSE NEIGHBOUR: 'it returns false'. Refute it at one input. -/
def auditFindsWrong : ChangeSpec := { name := "auditFinds", fn := fun _ => fun
  | [d1, d2, d3, d4] => { results := [.lit (.bool false)], args := [d1, d2, d3, d4] }
  | _ => none }
def AuditFindsWrongFalsely : Prop := auditFindsRow.holds Tryz.pinned (OpenSpec.ofChange auditFindsWrong)

/-- 'keelsonlaw25.ReplicaSpace': WHATEVER THE INPUT: true; the input reads as it did. -/
def replicaSpaceSpec : ChangeSpec := { name := "replicaSpace", fn := fun _ => fun
  | [d1, d2, d3, d4] => { results := [.lit (.bool true)], args := [d1, d2, d3, d4] }
  | _ => none }
def replicaSpaceRow : OpenClaim := { program := "ytfedaknhecbehaagreat", sum := "75074ec645c51f44023b3998b64ca44364eb97c03757bbf1fe0f0e6b6183f94a", func := "keelson/keelsonlaw25.ReplicaSpace", spec := "replicaSpace", unfollowed := true, recurses := true, plainKeys := false, apart := false }
def ReplicaSpaceSaid : Prop := replicaSpaceRow.holds Tryz.pinned (OpenSpec.ofChange replicaSpaceSpec)

/-- ITS FALSE NEIGHBOUR: 'it returns false'. Refute it at one input. -/
def replicaSpaceWrong : ChangeSpec := { name := "replicaSpace", fn := fun _ => fun
  | [d1, d2, d3, d4] => { results := [.lit (.bool false)], args := [d1, d2, d3, d4] }
  | _ => none }
def ReplicaSpaceWrongFalsely : Prop := replicaSpaceRow.holds Tryz.pinned (OpenSpec.ofChange replicaSpaceWrong)

/-- 'keelsonlaw28.FrontLatest': WHATEVER THE INPUT: true; the input reads as it did. -/
def frontLatestSpec : ChangeSpec := { name := "frontLatest", fn := fun _ => fun
  | [d1, d2, d3, d4] => { results := [.lit (.bool true)], args := [d1, d2, d3, d4] }
  | _ => none }
def frontLatestRow : OpenClaim := { program := "ytfedaknhecbehaagreat", sum := "75074ec645c51f44023b3998b64ca44364eb97c03757bbf1fe0f0e6b6183f94a", func := "keelson/keelsonlaw28.FrontLatest", spec := "frontLatest", unfollowed := true, recurses := true, plainKeys := false, apart := false }
def FrontLatestSaid : Prop := frontLatestRow.holds Tryz.pinned (OpenSpec.ofChange frontLatestSpec)

/-- ITS FALSE NEIGHBOUR: 'it returns false'. Refute it at one input. -/
def frontLatestWrong : ChangeSpec := { name := "frontLatest", fn := fun _ => fun
  | [d1, d2, d3, d4] => { results := [.lit (.bool false)], args := [d1, d2, d3, d4] }
  | _ => none }
def FrontLatestWrongFalsely : Prop := frontLatestRow.holds Tryz.pinned (OpenSpec.ofChange frontLatestWrong)

/- THE SECOND FORM. 'bulk': how many values and letters a reading holds, each counted each time it is reached (what is shared counts as often as it is met; a slice's spare places count too). A statement '..UptoSaid' is the law's where the arguments, and the package variables that the reading takes, are together of bulk at most 1048576: NARROWER than '..Said'. Prove '..Said' where nothing that the law and all that it calls make is longer than what came in: it says more and counts as full. Else prove '..UptoSaid'. A law counts once. -/
mutual
def uptoBulk {H : Type} : DataW H → Nat
  | .lit (.string bytes) => bytes.length + 1
  | .lit _ => 1
  | .nil => 1
  | .ptr d => uptoBulk d + 1
  | .slice elems spare => uptoBulkAll elems + uptoBulkAll spare + 1
  | .agg parts => uptoBulkAll parts + 1
  | .iface _ d => uptoBulk d + 1
  | .map entries => uptoBulkEntries entries + 1
  | .held _ => 1
def uptoBulkAll {H : Type} : List (DataW H) → Nat
  | [] => 0
  | d :: r => uptoBulk d + uptoBulkAll r
def uptoBulkEntries {H : Type} : List (Lit × DataW H) → Nat
  | [] => 0
  | x :: r => uptoBulkEntry x + uptoBulkEntries r
def uptoBulkEntry {H : Type} : Lit × DataW H → Nat
  | (.string bytes, d) => bytes.length + uptoBulk d + 1
  | (_, d) => uptoBulk d + 1
 end
def uptoSmall : (H : Type) → List (DataW H) → Bool := fun _ ds => decide (uptoBulkAll ds ≤ 1048576)
def OpenSpec.upto (s : _root_.Go.ChangeSpec) : _root_.Go.OpenSpec := { _root_.Go.OpenSpec.ofChange s with cond := some uptoSmall }

/-- 'keelsonlaw21.CleanEmpties', WHERE WHAT IT READS IS OF BULK AT MOST 1048576: true; the input reads as it did. -/
def cleanEmptiesUptoRow : OpenClaim := { program := "ytfedaknhecbehaagreat", sum := "75074ec645c51f44023b3998b64ca44364eb97c03757bbf1fe0f0e6b6183f94a", func := "keelson/keelsonlaw21.CleanEmpties", spec := "cleanEmpties", unfollowed := true, recurses := true, plainKeys := false, apart := false, narrowed := true }
def CleanEmptiesUptoSaid : Prop := cleanEmptiesUptoRow.holds Tryz.pinned (OpenSpec.upto cleanEmptiesSpec)

/-- 'keelsonlaw21.CleanRooms', WHERE WHAT IT READS IS OF BULK AT MOST 1048576: true; the input reads as it did. -/
def cleanRoomsUptoRow : OpenClaim := { program := "ytfedaknhecbehaagreat", sum := "75074ec645c51f44023b3998b64ca44364eb97c03757bbf1fe0f0e6b6183f94a", func := "keelson/keelsonlaw21.CleanRooms", spec := "cleanRooms", unfollowed := true, recurses := true, plainKeys := false, apart := false, narrowed := true }
def CleanRoomsUptoSaid : Prop := cleanRoomsUptoRow.holds Tryz.pinned (OpenSpec.upto cleanRoomsSpec)

/-- 'keelsonlaw21.CleanTurns', WHERE WHAT IT READS IS OF BULK AT MOST 1048576: true; the input reads as it did. -/
def cleanTurnsUptoRow : OpenClaim := { program := "ytfedaknhecbehaagreat", sum := "75074ec645c51f44023b3998b64ca44364eb97c03757bbf1fe0f0e6b6183f94a", func := "keelson/keelsonlaw21.CleanTurns", spec := "cleanTurns", unfollowed := true, recurses := true, plainKeys := false, apart := false, narrowed := true }
def CleanTurnsUptoSaid : Prop := cleanTurnsUptoRow.holds Tryz.pinned (OpenSpec.upto cleanTurnsSpec)

/-- 'keelsonlaw21.CleanFaults', WHERE WHAT IT READS IS OF BULK AT MOST 1048576: true; the input reads as it did. -/
def cleanFaultsUptoRow : OpenClaim := { program := "ytfedaknhecbehaagreat", sum := "75074ec645c51f44023b3998b64ca44364eb97c03757bbf1fe0f0e6b6183f94a", func := "keelson/keelsonlaw21.CleanFaults", spec := "cleanFaults", unfollowed := true, recurses := true, plainKeys := false, apart := false, narrowed := true }
def CleanFaultsUptoSaid : Prop := cleanFaultsUptoRow.holds Tryz.pinned (OpenSpec.upto cleanFaultsSpec)

/-- 'keelsonlaw31.AuditFinds', WHERE WHAT IT READS IS OF BULK AT MOST 1048576: true; the input reads as it did. -/
def auditFindsUptoRow : OpenClaim := { program := "ytfedaknhecbehaagreat", sum := "75074ec645c51f44023b3998b64ca44364eb97c03757bbf1fe0f0e6b6183f94a", func := "keelson/keelsonlaw31.AuditFinds", spec := "auditFinds", unfollowed := true, recurses := true, plainKeys := false, apart := false, narrowed := true }
def AuditFindsUptoSaid : Prop := auditFindsUptoRow.holds Tryz.pinned (OpenSpec.upto auditFindsSpec)

/-- 'keelsonlaw25.ReplicaSpace', WHERE WHAT IT READS IS OF BULK AT MOST 1048576: true; the input reads as it did. -/
def replicaSpaceUptoRow : OpenClaim := { program := "ytfedaknhecbehaagreat", sum := "75074ec645c51f44023b3998b64ca44364eb97c03757bbf1fe0f0e6b6183f94a", func := "keelson/keelsonlaw25.ReplicaSpace", spec := "replicaSpace", unfollowed := true, recurses := true, plainKeys := false, apart := false, narrowed := true }
def ReplicaSpaceUptoSaid : Prop := replicaSpaceUptoRow.holds Tryz.pinned (OpenSpec.upto replicaSpaceSpec)

/-- 'keelsonlaw28.FrontLatest', WHERE WHAT IT READS IS OF BULK AT MOST 1048576: true; the input reads as it did. -/
def frontLatestUptoRow : OpenClaim := { program := "ytfedaknhecbehaagreat", sum := "75074ec645c51f44023b3998b64ca44364eb97c03757bbf1fe0f0e6b6183f94a", func := "keelson/keelsonlaw28.FrontLatest", spec := "frontLatest", unfollowed := true, recurses := true, plainKeys := false, apart := false, narrowed := true }
def FrontLatestUptoSaid : Prop := frontLatestUptoRow.holds Tryz.pinned (OpenSpec.upto frontLatestSpec)

end Rows
end Go.Proofs.YtfedaknhecbehaaGreat
