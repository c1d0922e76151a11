/-
  DERIVED. GIVEN WITH THE SEED: THE CARDS: each row of YtlaoaleoeknhoaaGreatDoorRows.lean that lists a variable, with what it lists TIED to the program's text (the seventh form; the later family's looks); each row that meets fmt, with fmt's text TOLD by the authors' own Lean function (tested against real Go, not proved from fmt's source: count such statements apart). THE CARD IS WHAT COUNTS. Prove the row's statement (the work); the ties are given (YtlaoaleoeknhoaaGreatDoorTie.lean); close each card by the builder's one call (the guide's Derived/Test/ToyasCard.lean, 'card_holds'). Laid BY PROGRAM, IN A SANDBOX (cutbox-door.mjs). By AI agents, Wed Nov 11 2026. No macro, syntax, notation, axiom, sorry.
-/
import Derived.Test.YtlaoaleoeknhoaaGreatDoorRows
import GoSem.ClaimSeven
namespace Go.Proofs.YtlaoaleoeknhoaaGreatDoor
namespace Rows

/-- THE TIED CARD OF 'trustflowlaw45.AuditAgrees'. -/
def auditAgreesCard : Claim7 := { stood := { row := auditAgreesRow, standIns := [], harness := (true, "9fd3906de9952124fcccb01b5f452c3927f4a36e58a992363f7b51c3ae86e5ab"), looks := false }, kinds := [], alts := [], laidByText := true, laidKinds := [.data, .data, .data, .data, .pinned, .pinned, .pinned, .pinned, .pinned, .pinned], laidTests := true, laidLooks := .later }
def AuditAgreesCardSaid : Prop := Claim7.holds Tryz.pinned (.plain (OpenSpec.ofChange auditAgreesSpec)) auditAgreesCard

/-- THE SECOND FORM's CARD OF 'trustflowlaw45.AuditAgrees'. -/
def auditAgreesUptoCard : Claim7 := { stood := { row := auditAgreesUptoRow, standIns := [], harness := (true, "9fd3906de9952124fcccb01b5f452c3927f4a36e58a992363f7b51c3ae86e5ab"), looks := false }, kinds := [], alts := [], laidByText := true, laidKinds := [.data, .data, .data, .data, .pinned, .pinned, .pinned, .pinned, .pinned, .pinned], laidTests := true, laidLooks := .later }
def AuditAgreesUptoCardSaid : Prop := Claim7.holds Tryz.pinned (.plain (OpenSpec.upto auditAgreesSpec)) auditAgreesUptoCard
end Rows
end Go.Proofs.YtlaoaleoeknhoaaGreatDoor
