/-
  DERIVED. GIVEN WITH THE SEED: THE CARDS: each row of YthidogjdclkoeaaGreatDoorRows.lean that lists a variable, with what it lists TIED to the program's text (the seventh form; the later family's looks); each row that meets fmt, with fmt's text TOLD by the authors' own Lean function (tested against real Go, not proved from fmt's source: count such statements apart). THE CARD IS WHAT COUNTS. Prove the row's statement (the work); the ties are given (YthidogjdclkoeaaGreatDoorTie.lean); close each card by the builder's one call (the guide's Derived/Test/ToyasCard.lean, 'card_holds'). Laid BY PROGRAM, IN A SANDBOX (cutbox-door.mjs). By AI agents, Wed Nov 11 2026. No macro, syntax, notation, axiom, sorry.
-/
import Derived.Test.YthidogjdclkoeaaGreatDoorRows
import GoSem.ClaimSeven
namespace Go.Proofs.YthidogjdclkoeaaGreatDoor
namespace Rows

/-- THE TIED CARD OF 'trustflowlaw29.SuccessionMade'. -/
def successionMadeCard : Claim7 := { stood := { row := successionMadeRow, standIns := [], harness := (true, "d56a62bac8b764eb1e1dff9ceadd1f6e51dae52bdc81a8db968a060b6c2deb51"), looks := false }, kinds := [], alts := [], laidByText := true, laidKinds := [.data, .data, .data, .data, .pinned, .pinned, .pinned, .pinned, .pinned, .pinned], laidTests := true, laidLooks := .later }
def SuccessionMadeCardSaid : Prop := Claim7.holds Tryz.pinned (.plain (OpenSpec.ofChange successionMadeSpec)) successionMadeCard

/-- THE SECOND FORM's CARD OF 'trustflowlaw29.SuccessionMade'. -/
def successionMadeUptoCard : Claim7 := { stood := { row := successionMadeUptoRow, standIns := [], harness := (true, "d56a62bac8b764eb1e1dff9ceadd1f6e51dae52bdc81a8db968a060b6c2deb51"), looks := false }, kinds := [], alts := [], laidByText := true, laidKinds := [.data, .data, .data, .data, .pinned, .pinned, .pinned, .pinned, .pinned, .pinned], laidTests := true, laidLooks := .later }
def SuccessionMadeUptoCardSaid : Prop := Claim7.holds Tryz.pinned (.plain (OpenSpec.upto successionMadeSpec)) successionMadeUptoCard
end Rows
end Go.Proofs.YthidogjdclkoeaaGreatDoor
