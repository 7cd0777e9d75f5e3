/-
  No cell of these rows narrows 'for every input' (looked for: loops, veiled, ifaces, maps, wideKeys, modest, calm, conditions, laid).
  DERIVED. THE GIVEN ROWS OF THIS SEAT. 6 by the template 'for every input the law returns true; each argument reads behind the call as it read before'; 0 by the template 'total and deterministic' (their statements: YthgphmfipnjllaaGreatTotals.lean).
  GIVEN WITH THE SEED: the statements are not yours to turn. If you find one false, say at which input.
  Laid BY PROGRAM, IN A SANDBOX (cutbox-rows.mjs): the forced cells as the released guide's own fill.sh prints them over the translation 450a008a97a10e68… (all of the seat's roots in one cut). By AI agents, Wed Nov 11 2026. No macro, syntax, notation, axiom, sorry.
-/
import Derived.Test.YthgphmfipnjllaaGreatChecked
import GoSem.Claim
import GoSem.ClaimJoined
import GoSem.ClaimMapViews
import Derived.JoinedTies
import Derived.KernelRfl
namespace Go.Proofs.YthgphmfipnjllaaGreat
/- THE CELL 'sum', in the pinned program and in every row, IS THE sha256 OF THE DUMP (.gsa) THAT YthgphmfipnjllaaGreatProg.lean LOADS. Nothing in Lean hashes anything: it is a label: what it is worth is what the hold of that sum in a sandbox is worth. -/
noncomputable def Tryz.pinned : Pinned := { name := "ythgphmfipnjllaagreat", sum := "450a008a97a10e68833eb58e573c9b97dc2ddc5c47d212adbe5f986efdc4cdea", checked := Tryz.checked }
namespace Rows
def none {H : Type} : Left H := { results := [], args := [] }

/-- 'keelsonlaw31.AuditShares': WHATEVER THE INPUT: true; the input reads as it did. -/
def auditSharesSpec : ChangeSpec := { name := "auditShares", fn := fun _ => fun
  | [d1, d2, d3] => { results := [.lit (.bool true)], args := [d1, d2, d3] }
  | _ => none }
def auditSharesRow : OpenClaim := { program := "ythgphmfipnjllaagreat", sum := "450a008a97a10e68833eb58e573c9b97dc2ddc5c47d212adbe5f986efdc4cdea", func := "keelson/keelsonlaw31.AuditShares", spec := "auditShares", unfollowed := true, recurses := true, plainKeys := false, apart := false }
def AuditSharesSaid : Prop := auditSharesRow.holds Tryz.pinned (OpenSpec.ofChange auditSharesSpec)

/-- ITS FALSE NEIGHBOUR: 'it returns false'. Refute it at one input. -/
def auditSharesWrong : ChangeSpec := { name := "auditShares", fn := fun _ => fun
  | [d1, d2, d3] => { results := [.lit (.bool false)], args := [d1, d2, d3] }
  | _ => none }
def AuditSharesWrongFalsely : Prop := auditSharesRow.holds Tryz.pinned (OpenSpec.ofChange auditSharesWrong)

/-- 'keelsonlaw21.CleanEmpties': WHATEVER THE INPUT: true; the input reads as it did. -/
def cleanEmptiesSpec : ChangeSpec := { name := "cleanEmpties", fn := fun _ => fun
  | [d1, d2] => { results := [.lit (.bool true)], args := [d1, d2] }
  | _ => none }
def cleanEmptiesRow : OpenClaim := { program := "ythgphmfipnjllaagreat", sum := "450a008a97a10e68833eb58e573c9b97dc2ddc5c47d212adbe5f986efdc4cdea", func := "keelson/keelsonlaw21.CleanEmpties", spec := "cleanEmpties", unfollowed := true, recurses := true, plainKeys := false, apart := false }
def CleanEmptiesSaid : Prop := cleanEmptiesRow.holds Tryz.pinned (OpenSpec.ofChange cleanEmptiesSpec)

/-- ITS FALSE NEIGHBOUR: 'it returns false'. Refute it at one input. -/
def cleanEmptiesWrong : ChangeSpec := { name := "cleanEmpties", fn := fun _ => fun
  | [d1, d2] => { results := [.lit (.bool false)], args := [d1, d2] }
  | _ => none }
def CleanEmptiesWrongFalsely : Prop := cleanEmptiesRow.holds Tryz.pinned (OpenSpec.ofChange cleanEmptiesWrong)

/-- 'keelsonlaw21.CleanRooms': WHATEVER THE INPUT: true; the input reads as it did. -/
def cleanRoomsSpec : ChangeSpec := { name := "cleanRooms", fn := fun _ => fun
  | [d1, d2, d3] => { results := [.lit (.bool true)], args := [d1, d2, d3] }
  | _ => none }
def cleanRoomsRow : OpenClaim := { program := "ythgphmfipnjllaagreat", sum := "450a008a97a10e68833eb58e573c9b97dc2ddc5c47d212adbe5f986efdc4cdea", func := "keelson/keelsonlaw21.CleanRooms", spec := "cleanRooms", unfollowed := true, recurses := true, plainKeys := false, apart := false }
def CleanRoomsSaid : Prop := cleanRoomsRow.holds Tryz.pinned (OpenSpec.ofChange cleanRoomsSpec)

/-- ITS FALSE NEIGHBOUR: 'it returns false'. Refute it at one input. -/
def cleanRoomsWrong : ChangeSpec := { name := "cleanRooms", fn := fun _ => fun
  | [d1, d2, d3] => { results := [.lit (.bool false)], args := [d1, d2, d3] }
  | _ => none }
def CleanRoomsWrongFalsely : Prop := cleanRoomsRow.holds Tryz.pinned (OpenSpec.ofChange cleanRoomsWrong)

/-- 'keelsonlaw21.CleanTurns': WHATEVER THE INPUT: true; the input reads as it did. -/
def cleanTurnsSpec : ChangeSpec := { name := "cleanTurns", fn := fun _ => fun
  | [d1, d2] => { results := [.lit (.bool true)], args := [d1, d2] }
  | _ => none }
def cleanTurnsRow : OpenClaim := { program := "ythgphmfipnjllaagreat", sum := "450a008a97a10e68833eb58e573c9b97dc2ddc5c47d212adbe5f986efdc4cdea", func := "keelson/keelsonlaw21.CleanTurns", spec := "cleanTurns", unfollowed := true, recurses := true, plainKeys := false, apart := false }
def CleanTurnsSaid : Prop := cleanTurnsRow.holds Tryz.pinned (OpenSpec.ofChange cleanTurnsSpec)

/-- ITS FALSE NEIGHBOUR: 'it returns false'. Refute it at one input. -/
def cleanTurnsWrong : ChangeSpec := { name := "cleanTurns", fn := fun _ => fun
  | [d1, d2] => { results := [.lit (.bool false)], args := [d1, d2] }
  | _ => none }
def CleanTurnsWrongFalsely : Prop := cleanTurnsRow.holds Tryz.pinned (OpenSpec.ofChange cleanTurnsWrong)

/-- 'keelsonlaw21.CleanFaults': WHATEVER THE INPUT: true; the input reads as it did. -/
def cleanFaultsSpec : ChangeSpec := { name := "cleanFaults", fn := fun _ => fun
  | [d1, d2, d3] => { results := [.lit (.bool true)], args := [d1, d2, d3] }
  | _ => none }
def cleanFaultsRow : OpenClaim := { program := "ythgphmfipnjllaagreat", sum := "450a008a97a10e68833eb58e573c9b97dc2ddc5c47d212adbe5f986efdc4cdea", func := "keelson/keelsonlaw21.CleanFaults", spec := "cleanFaults", unfollowed := true, recurses := true, plainKeys := false, apart := false }
def CleanFaultsSaid : Prop := cleanFaultsRow.holds Tryz.pinned (OpenSpec.ofChange cleanFaultsSpec)

/-- ITS FALSE NEIGHBOUR: 'it returns false'. Refute it at one input. -/
def cleanFaultsWrong : ChangeSpec := { name := "cleanFaults", fn := fun _ => fun
  | [d1, d2, d3] => { results := [.lit (.bool false)], args := [d1, d2, d3] }
  | _ => none }
def CleanFaultsWrongFalsely : Prop := cleanFaultsRow.holds Tryz.pinned (OpenSpec.ofChange cleanFaultsWrong)

/-- 'keelsonlaw21.CleanCrashes': WHATEVER THE INPUT: true; the input reads as it did. -/
def cleanCrashesSpec : ChangeSpec := { name := "cleanCrashes", fn := fun _ => fun
  | [d1, d2, d3, d4, d5] => { results := [.lit (.bool true)], args := [d1, d2, d3, d4, d5] }
  | _ => none }
def cleanCrashesRow : OpenClaim := { program := "ythgphmfipnjllaagreat", sum := "450a008a97a10e68833eb58e573c9b97dc2ddc5c47d212adbe5f986efdc4cdea", func := "keelson/keelsonlaw21.CleanCrashes", spec := "cleanCrashes", unfollowed := true, recurses := true, plainKeys := false, apart := false }
def CleanCrashesSaid : Prop := cleanCrashesRow.holds Tryz.pinned (OpenSpec.ofChange cleanCrashesSpec)

/-- ITS FALSE NEIGHBOUR: 'it returns false'. Refute it at one input. -/
def cleanCrashesWrong : ChangeSpec := { name := "cleanCrashes", fn := fun _ => fun
  | [d1, d2, d3, d4, d5] => { results := [.lit (.bool false)], args := [d1, d2, d3, d4, d5] }
  | _ => none }
def CleanCrashesWrongFalsely : Prop := cleanCrashesRow.holds Tryz.pinned (OpenSpec.ofChange cleanCrashesWrong)

/- THE SECOND FORM. 'bulk': how many values and letters a reading holds, each counted each time it is reached (what is shared counts as often as it is met; a slice's spare places count too). A statement '..UptoSaid' is the law's where the arguments, and the package variables that the reading takes, are together of bulk at most 1048576: NARROWER than '..Said'. Prove '..Said' where nothing that the law and all that it calls make is longer than what came in: it says more and counts as full. Else prove '..UptoSaid'. A law counts once. -/
mutual
def uptoBulk {H : Type} : DataW H → Nat
  | .lit (.string bytes) => bytes.length + 1
  | .lit _ => 1
  | .nil => 1
  | .ptr d => uptoBulk d + 1
  | .slice elems spare => uptoBulkAll elems + uptoBulkAll spare + 1
  | .agg parts => uptoBulkAll parts + 1
  | .iface _ d => uptoBulk d + 1
  | .map entries => uptoBulkEntries entries + 1
  | .held _ => 1
def uptoBulkAll {H : Type} : List (DataW H) → Nat
  | [] => 0
  | d :: r => uptoBulk d + uptoBulkAll r
def uptoBulkEntries {H : Type} : List (Lit × DataW H) → Nat
  | [] => 0
  | x :: r => uptoBulkEntry x + uptoBulkEntries r
def uptoBulkEntry {H : Type} : Lit × DataW H → Nat
  | (.string bytes, d) => bytes.length + uptoBulk d + 1
  | (_, d) => uptoBulk d + 1
 end
def uptoSmall : (H : Type) → List (DataW H) → Bool := fun _ ds => decide (uptoBulkAll ds ≤ 1048576)
def OpenSpec.upto (s : _root_.Go.ChangeSpec) : _root_.Go.OpenSpec := { _root_.Go.OpenSpec.ofChange s with cond := some uptoSmall }

/-- 'keelsonlaw31.AuditShares', WHERE WHAT IT READS IS OF BULK AT MOST 1048576: true; the input reads as it did. -/
def auditSharesUptoRow : OpenClaim := { program := "ythgphmfipnjllaagreat", sum := "450a008a97a10e68833eb58e573c9b97dc2ddc5c47d212adbe5f986efdc4cdea", func := "keelson/keelsonlaw31.AuditShares", spec := "auditShares", unfollowed := true, recurses := true, plainKeys := false, apart := false, narrowed := true }
def AuditSharesUptoSaid : Prop := auditSharesUptoRow.holds Tryz.pinned (OpenSpec.upto auditSharesSpec)

/-- 'keelsonlaw21.CleanEmpties', WHERE WHAT IT READS IS OF BULK AT MOST 1048576: true; the input reads as it did. -/
def cleanEmptiesUptoRow : OpenClaim := { program := "ythgphmfipnjllaagreat", sum := "450a008a97a10e68833eb58e573c9b97dc2ddc5c47d212adbe5f986efdc4cdea", func := "keelson/keelsonlaw21.CleanEmpties", spec := "cleanEmpties", unfollowed := true, recurses := true, plainKeys := false, apart := false, narrowed := true }
def CleanEmptiesUptoSaid : Prop := cleanEmptiesUptoRow.holds Tryz.pinned (OpenSpec.upto cleanEmptiesSpec)

/-- 'keelsonlaw21.CleanRooms', WHERE WHAT IT READS IS OF BULK AT MOST 1048576: true; the input reads as it did. -/
def cleanRoomsUptoRow : OpenClaim := { program := "ythgphmfipnjllaagreat", sum := "450a008a97a10e68833eb58e573c9b97dc2ddc5c47d212adbe5f986efdc4cdea", func := "keelson/keelsonlaw21.CleanRooms", spec := "cleanRooms", unfollowed := true, recurses := true, plainKeys := false, apart := false, narrowed := true }
def CleanRoomsUptoSaid : Prop := cleanRoomsUptoRow.holds Tryz.pinned (OpenSpec.upto cleanRoomsSpec)

/-- 'keelsonlaw21.CleanTurns', WHERE WHAT IT READS IS OF BULK AT MOST 1048576: true; the input reads as it did. -/
def cleanTurnsUptoRow : OpenClaim := { program := "ythgphmfipnjllaagreat", sum := "450a008a97a10e68833eb58e573c9b97dc2ddc5c47d212adbe5f986efdc4cdea", func := "keelson/keelsonlaw21.CleanTurns", spec := "cleanTurns", unfollowed := true, recurses := true, plainKeys := false, apart := false, narrowed := true }
def CleanTurnsUptoSaid : Prop := cleanTurnsUptoRow.holds Tryz.pinned (OpenSpec.upto cleanTurnsSpec)

/-- 'keelsonlaw21.CleanFaults', WHERE WHAT IT READS IS OF BULK AT MOST 1048576: true; the input reads as it did. -/
def cleanFaultsUptoRow : OpenClaim := { program := "ythgphmfipnjllaagreat", sum := "450a008a97a10e68833eb58e573c9b97dc2ddc5c47d212adbe5f986efdc4cdea", func := "keelson/keelsonlaw21.CleanFaults", spec := "cleanFaults", unfollowed := true, recurses := true, plainKeys := false, apart := false, narrowed := true }
def CleanFaultsUptoSaid : Prop := cleanFaultsUptoRow.holds Tryz.pinned (OpenSpec.upto cleanFaultsSpec)

/-- 'keelsonlaw21.CleanCrashes', WHERE WHAT IT READS IS OF BULK AT MOST 1048576: true; the input reads as it did. -/
def cleanCrashesUptoRow : OpenClaim := { program := "ythgphmfipnjllaagreat", sum := "450a008a97a10e68833eb58e573c9b97dc2ddc5c47d212adbe5f986efdc4cdea", func := "keelson/keelsonlaw21.CleanCrashes", spec := "cleanCrashes", unfollowed := true, recurses := true, plainKeys := false, apart := false, narrowed := true }
def CleanCrashesUptoSaid : Prop := cleanCrashesUptoRow.holds Tryz.pinned (OpenSpec.upto cleanCrashesSpec)

end Rows
end Go.Proofs.YthgphmfipnjllaaGreat
