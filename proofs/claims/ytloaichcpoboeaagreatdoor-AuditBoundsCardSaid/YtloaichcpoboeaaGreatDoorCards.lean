/-
  DERIVED. GIVEN WITH THE SEED: THE CARDS: each row of YtloaichcpoboeaaGreatDoorRows.lean that lists a variable, with what it lists TIED to the program's text (the seventh form; the later family's looks); each row that meets fmt, with fmt's text TOLD by the authors' own Lean function (tested against real Go, not proved from fmt's source: count such statements apart). THE CARD IS WHAT COUNTS. Prove the row's statement (the work); the ties are given (YtloaichcpoboeaaGreatDoorTie.lean); close each card by the builder's one call (the guide's Derived/Test/ToyasCard.lean, 'card_holds'). Laid BY PROGRAM, IN A SANDBOX (cutbox-door.mjs). By AI agents, Wed Nov 11 2026. No macro, syntax, notation, axiom, sorry.
-/
import Derived.Test.YtloaichcpoboeaaGreatDoorRows
import GoSem.ClaimSeven
namespace Go.Proofs.YtloaichcpoboeaaGreatDoor
namespace Rows

/-- THE TIED CARD OF 'trustflowlaw45.AuditLoss'. -/
def auditLossCard : Claim7 := { stood := { row := auditLossRow, standIns := [], harness := (true, "8d05c1e07d71b472fd10696bafae5e45de4f5e7814ec57c6c90e84be53508e66"), looks := false }, kinds := [], alts := [], laidByText := true, laidKinds := [.data, .data, .data, .data, .pinned, .pinned, .pinned, .pinned, .pinned, .pinned], laidTests := true, laidLooks := .later }
def AuditLossCardSaid : Prop := Claim7.holds Tryz.pinned (.plain (OpenSpec.ofChange auditLossSpec)) auditLossCard

/-- THE TIED CARD OF 'trustflowlaw45.AuditBounds'. -/
def auditBoundsCard : Claim7 := { stood := { row := auditBoundsRow, standIns := [], harness := (true, "8d05c1e07d71b472fd10696bafae5e45de4f5e7814ec57c6c90e84be53508e66"), looks := false }, kinds := [], alts := [], laidByText := true, laidKinds := [.data, .data, .data, .data, .pinned, .pinned, .pinned, .pinned, .pinned, .pinned], laidTests := true, laidLooks := .later }
def AuditBoundsCardSaid : Prop := Claim7.holds Tryz.pinned (.plain (OpenSpec.ofChange auditBoundsSpec)) auditBoundsCard

/-- THE TIED CARD OF 'trustflowlaw45.AuditLossGrows'. -/
def auditLossGrowsCard : Claim7 := { stood := { row := auditLossGrowsRow, standIns := [], harness := (true, "8d05c1e07d71b472fd10696bafae5e45de4f5e7814ec57c6c90e84be53508e66"), looks := false }, kinds := [], alts := [], laidByText := true, laidKinds := [.data, .data, .data, .data, .pinned, .pinned, .pinned, .pinned, .pinned, .pinned], laidTests := true, laidLooks := .later }
def AuditLossGrowsCardSaid : Prop := Claim7.holds Tryz.pinned (.plain (OpenSpec.ofChange auditLossGrowsSpec)) auditLossGrowsCard

/-- THE SECOND FORM's CARD OF 'trustflowlaw45.AuditLoss'. -/
def auditLossUptoCard : Claim7 := { stood := { row := auditLossUptoRow, standIns := [], harness := (true, "8d05c1e07d71b472fd10696bafae5e45de4f5e7814ec57c6c90e84be53508e66"), looks := false }, kinds := [], alts := [], laidByText := true, laidKinds := [.data, .data, .data, .data, .pinned, .pinned, .pinned, .pinned, .pinned, .pinned], laidTests := true, laidLooks := .later }
def AuditLossUptoCardSaid : Prop := Claim7.holds Tryz.pinned (.plain (OpenSpec.upto auditLossSpec)) auditLossUptoCard

/-- THE SECOND FORM's CARD OF 'trustflowlaw45.AuditBounds'. -/
def auditBoundsUptoCard : Claim7 := { stood := { row := auditBoundsUptoRow, standIns := [], harness := (true, "8d05c1e07d71b472fd10696bafae5e45de4f5e7814ec57c6c90e84be53508e66"), looks := false }, kinds := [], alts := [], laidByText := true, laidKinds := [.data, .data, .data, .data, .pinned, .pinned, .pinned, .pinned, .pinned, .pinned], laidTests := true, laidLooks := .later }
def AuditBoundsUptoCardSaid : Prop := Claim7.holds Tryz.pinned (.plain (OpenSpec.upto auditBoundsSpec)) auditBoundsUptoCard

/-- THE SECOND FORM's CARD OF 'trustflowlaw45.AuditLossGrows'. -/
def auditLossGrowsUptoCard : Claim7 := { stood := { row := auditLossGrowsUptoRow, standIns := [], harness := (true, "8d05c1e07d71b472fd10696bafae5e45de4f5e7814ec57c6c90e84be53508e66"), looks := false }, kinds := [], alts := [], laidByText := true, laidKinds := [.data, .data, .data, .data, .pinned, .pinned, .pinned, .pinned, .pinned, .pinned], laidTests := true, laidLooks := .later }
def AuditLossGrowsUptoCardSaid : Prop := Claim7.holds Tryz.pinned (.plain (OpenSpec.upto auditLossGrowsSpec)) auditLossGrowsUptoCard
end Rows
end Go.Proofs.YtloaichcpoboeaaGreatDoor
