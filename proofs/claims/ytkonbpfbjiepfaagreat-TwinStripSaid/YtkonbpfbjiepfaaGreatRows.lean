/-
  No cell of these rows narrows 'for every input' (looked for: loops, veiled, ifaces, maps, wideKeys, modest, calm, conditions, laid).
  DERIVED. THE GIVEN ROWS OF THIS SEAT. 4 by the template 'for every input the law returns true; each argument reads behind the call as it read before'; 0 by the template 'total and deterministic' (their statements: YtkonbpfbjiepfaaGreatTotals.lean).
  GIVEN WITH THE SEED: the statements are not yours to turn. If you find one false, say at which input.
  Laid BY PROGRAM, IN A SANDBOX (cutbox-rows.mjs): the forced cells as the released guide's own fill.sh prints them over the translation d7496d09e61135ac… (all of the seat's roots in one cut). By AI agents, Wed Nov 11 2026. No macro, syntax, notation, axiom, sorry.
-/
import Derived.Test.YtkonbpfbjiepfaaGreatChecked
import GoSem.Claim
import GoSem.ClaimJoined
import GoSem.ClaimMapViews
import Derived.JoinedTies
import Derived.KernelRfl
namespace Go.Proofs.YtkonbpfbjiepfaaGreat
/- THE CELL 'sum', in the pinned program and in every row, IS THE sha256 OF THE DUMP (.gsa) THAT YtkonbpfbjiepfaaGreatProg.lean LOADS. Nothing in Lean hashes anything: it is a label: what it is worth is what the hold of that sum in a sandbox is worth. -/
noncomputable def Tryz.pinned : Pinned := { name := "ytkonbpfbjiepfaagreat", sum := "d7496d09e61135acccbfde8ae6d5f8c4e80f1fa65b38d85a2fc54f36635e743b", checked := Tryz.checked }
namespace Rows
def none {H : Type} : Left H := { results := [], args := [] }

/-- 'keelsonlaw31.AuditShares': WHATEVER THE INPUT: true; the input reads as it did. -/
def auditSharesSpec : ChangeSpec := { name := "auditShares", fn := fun _ => fun
  | [d1, d2, d3] => { results := [.lit (.bool true)], args := [d1, d2, d3] }
  | _ => none }
def auditSharesRow : OpenClaim := { program := "ytkonbpfbjiepfaagreat", sum := "d7496d09e61135acccbfde8ae6d5f8c4e80f1fa65b38d85a2fc54f36635e743b", func := "keelson/keelsonlaw31.AuditShares", spec := "auditShares", unfollowed := true, recurses := true, plainKeys := false, apart := false }
def AuditSharesSaid : Prop := auditSharesRow.holds Tryz.pinned (OpenSpec.ofChange auditSharesSpec)

/-- ITS FALSE NEIGHBOUR: 'it returns false'. Refute it at one input. -/
def auditSharesWrong : ChangeSpec := { name := "auditShares", fn := fun _ => fun
  | [d1, d2, d3] => { results := [.lit (.bool false)], args := [d1, d2, d3] }
  | _ => none }
def AuditSharesWrongFalsely : Prop := auditSharesRow.holds Tryz.pinned (OpenSpec.ofChange auditSharesWrong)

/-- 'keelsonlaw28.FrontPromotes': WHATEVER THE INPUT: true; the input reads as it did. -/
def frontPromotesSpec : ChangeSpec := { name := "frontPromotes", fn := fun _ => fun
  | [d1, d2, d3, d4] => { results := [.lit (.bool true)], args := [d1, d2, d3, d4] }
  | _ => none }
def frontPromotesRow : OpenClaim := { program := "ytkonbpfbjiepfaagreat", sum := "d7496d09e61135acccbfde8ae6d5f8c4e80f1fa65b38d85a2fc54f36635e743b", func := "keelson/keelsonlaw28.FrontPromotes", spec := "frontPromotes", unfollowed := true, recurses := true, plainKeys := false, apart := false }
def FrontPromotesSaid : Prop := frontPromotesRow.holds Tryz.pinned (OpenSpec.ofChange frontPromotesSpec)

/-- ITS FALSE NEIGHBOUR: 'it returns false'. Refute it at one input. -/
def frontPromotesWrong : ChangeSpec := { name := "frontPromotes", fn := fun _ => fun
  | [d1, d2, d3, d4] => { results := [.lit (.bool false)], args := [d1, d2, d3, d4] }
  | _ => none }
def FrontPromotesWrongFalsely : Prop := frontPromotesRow.holds Tryz.pinned (OpenSpec.ofChange frontPromotesWrong)

/-- 'keelsonlaw28.FrontBackup': WHATEVER THE INPUT: true; the input reads as it did. -/
def frontBackupSpec : ChangeSpec := { name := "frontBackup", fn := fun _ => fun
  | [d1, d2, d3, d4, d5] => { results := [.lit (.bool true)], args := [d1, d2, d3, d4, d5] }
  | _ => none }
def frontBackupRow : OpenClaim := { program := "ytkonbpfbjiepfaagreat", sum := "d7496d09e61135acccbfde8ae6d5f8c4e80f1fa65b38d85a2fc54f36635e743b", func := "keelson/keelsonlaw28.FrontBackup", spec := "frontBackup", unfollowed := true, recurses := true, plainKeys := false, apart := false }
def FrontBackupSaid : Prop := frontBackupRow.holds Tryz.pinned (OpenSpec.ofChange frontBackupSpec)

/-- ITS FALSE NEIGHBOUR: 'it returns false'. Refute it at one input. -/
def frontBackupWrong : ChangeSpec := { name := "frontBackup", fn := fun _ => fun
  | [d1, d2, d3, d4, d5] => { results := [.lit (.bool false)], args := [d1, d2, d3, d4, d5] }
  | _ => none }
def FrontBackupWrongFalsely : Prop := frontBackupRow.holds Tryz.pinned (OpenSpec.ofChange frontBackupWrong)

/-- 'keelsonlaw32.TwinStrip': WHATEVER THE INPUT: true; the input reads as it did. -/
def twinStripSpec : ChangeSpec := { name := "twinStrip", fn := fun _ => fun
  | [d] => { results := [.lit (.bool true)], args := [d] }
  | _ => none }
def twinStripRow : OpenClaim := { program := "ytkonbpfbjiepfaagreat", sum := "d7496d09e61135acccbfde8ae6d5f8c4e80f1fa65b38d85a2fc54f36635e743b", func := "keelson/keelsonlaw32.TwinStrip", spec := "twinStrip", inPlace := ["slices.overlaps[[]byte]"], unfollowed := true, recurses := true, plainKeys := false, apart := false }
def TwinStripSaid : Prop := twinStripRow.holds Tryz.pinned (OpenSpec.ofChange twinStripSpec)

/-- ITS FALSE NEIGHBOUR: 'it returns false'. Refute it at one input. -/
def twinStripWrong : ChangeSpec := { name := "twinStrip", fn := fun _ => fun
  | [d] => { results := [.lit (.bool false)], args := [d] }
  | _ => none }
def TwinStripWrongFalsely : Prop := twinStripRow.holds Tryz.pinned (OpenSpec.ofChange twinStripWrong)

/- THE SECOND FORM. 'bulk': how many values and letters a reading holds, each counted each time it is reached (what is shared counts as often as it is met; a slice's spare places count too). A statement '..UptoSaid' is the law's where the arguments, and the package variables that the reading takes, are together of bulk at most 1048576: NARROWER than '..Said'. Prove '..Said' where nothing that the law and all that it calls make is longer than what came in: it says more and counts as full. Else prove '..UptoSaid'. A law counts once. -/
mutual
def uptoBulk {H : Type} : DataW H → Nat
  | .lit (.string bytes) => bytes.length + 1
  | .lit _ => 1
  | .nil => 1
  | .ptr d => uptoBulk d + 1
  | .slice elems spare => uptoBulkAll elems + uptoBulkAll spare + 1
  | .agg parts => uptoBulkAll parts + 1
  | .iface _ d => uptoBulk d + 1
  | .map entries => uptoBulkEntries entries + 1
  | .held _ => 1
def uptoBulkAll {H : Type} : List (DataW H) → Nat
  | [] => 0
  | d :: r => uptoBulk d + uptoBulkAll r
def uptoBulkEntries {H : Type} : List (Lit × DataW H) → Nat
  | [] => 0
  | x :: r => uptoBulkEntry x + uptoBulkEntries r
def uptoBulkEntry {H : Type} : Lit × DataW H → Nat
  | (.string bytes, d) => bytes.length + uptoBulk d + 1
  | (_, d) => uptoBulk d + 1
 end
def uptoSmall : (H : Type) → List (DataW H) → Bool := fun _ ds => decide (uptoBulkAll ds ≤ 1048576)
def OpenSpec.upto (s : _root_.Go.ChangeSpec) : _root_.Go.OpenSpec := { _root_.Go.OpenSpec.ofChange s with cond := some uptoSmall }

/-- 'keelsonlaw31.AuditShares', WHERE WHAT IT READS IS OF BULK AT MOST 1048576: true; the input reads as it did. -/
def auditSharesUptoRow : OpenClaim := { program := "ytkonbpfbjiepfaagreat", sum := "d7496d09e61135acccbfde8ae6d5f8c4e80f1fa65b38d85a2fc54f36635e743b", func := "keelson/keelsonlaw31.AuditShares", spec := "auditShares", unfollowed := true, recurses := true, plainKeys := false, apart := false, narrowed := true }
def AuditSharesUptoSaid : Prop := auditSharesUptoRow.holds Tryz.pinned (OpenSpec.upto auditSharesSpec)

/-- 'keelsonlaw28.FrontPromotes', WHERE WHAT IT READS IS OF BULK AT MOST 1048576: true; the input reads as it did. -/
def frontPromotesUptoRow : OpenClaim := { program := "ytkonbpfbjiepfaagreat", sum := "d7496d09e61135acccbfde8ae6d5f8c4e80f1fa65b38d85a2fc54f36635e743b", func := "keelson/keelsonlaw28.FrontPromotes", spec := "frontPromotes", unfollowed := true, recurses := true, plainKeys := false, apart := false, narrowed := true }
def FrontPromotesUptoSaid : Prop := frontPromotesUptoRow.holds Tryz.pinned (OpenSpec.upto frontPromotesSpec)

/-- 'keelsonlaw28.FrontBackup', WHERE WHAT IT READS IS OF BULK AT MOST 1048576: true; the input reads as it did. -/
def frontBackupUptoRow : OpenClaim := { program := "ytkonbpfbjiepfaagreat", sum := "d7496d09e61135acccbfde8ae6d5f8c4e80f1fa65b38d85a2fc54f36635e743b", func := "keelson/keelsonlaw28.FrontBackup", spec := "frontBackup", unfollowed := true, recurses := true, plainKeys := false, apart := false, narrowed := true }
def FrontBackupUptoSaid : Prop := frontBackupUptoRow.holds Tryz.pinned (OpenSpec.upto frontBackupSpec)

/-- 'keelsonlaw32.TwinStrip', WHERE WHAT IT READS IS OF BULK AT MOST 1048576: true; the input reads as it did. -/
def twinStripUptoRow : OpenClaim := { program := "ytkonbpfbjiepfaagreat", sum := "d7496d09e61135acccbfde8ae6d5f8c4e80f1fa65b38d85a2fc54f36635e743b", func := "keelson/keelsonlaw32.TwinStrip", spec := "twinStrip", inPlace := ["slices.overlaps[[]byte]"], unfollowed := true, recurses := true, plainKeys := false, apart := false, narrowed := true }
def TwinStripUptoSaid : Prop := twinStripUptoRow.holds Tryz.pinned (OpenSpec.upto twinStripSpec)

end Rows
end Go.Proofs.YtkonbpfbjiepfaaGreat
