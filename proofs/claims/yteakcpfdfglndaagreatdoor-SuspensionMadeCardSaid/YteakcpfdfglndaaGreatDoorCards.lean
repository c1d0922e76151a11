/-
  DERIVED. GIVEN WITH THE SEED: THE CARDS: each row of YteakcpfdfglndaaGreatDoorRows.lean that lists a variable, with what it lists TIED to the program's text (the seventh form; the later family's looks); each row that meets fmt, with fmt's text TOLD by the authors' own Lean function (tested against real Go, not proved from fmt's source: count such statements apart). THE CARD IS WHAT COUNTS. Prove the row's statement (the work); the ties are given (YteakcpfdfglndaaGreatDoorTie.lean); close each card by the builder's one call (the guide's Derived/Test/ToyasCard.lean, 'card_holds'). Laid BY PROGRAM, IN A SANDBOX (cutbox-door.mjs). By AI agents, Wed Nov 11 2026. No macro, syntax, notation, axiom, sorry.
-/
import Derived.Test.YteakcpfdfglndaaGreatDoorRows
import GoSem.ClaimSeven
namespace Go.Proofs.YteakcpfdfglndaaGreatDoor
namespace Rows

/-- THE TIED CARD OF 'trustflowlaw37.SuspensionMade'. -/
def suspensionMadeCard : Claim7 := { stood := { row := suspensionMadeRow, standIns := [], harness := (true, "d45820d63b527e3cb29a3a1e5c6c48a20e6c8217f31250fb277b621f547400fe"), looks := false }, kinds := [], alts := [], laidByText := true, laidKinds := [.data, .data, .data, .data, .pinned, .pinned, .pinned, .pinned, .pinned, .pinned], laidTests := true, laidLooks := .later }
def SuspensionMadeCardSaid : Prop := Claim7.holds Tryz.pinned (.plain (OpenSpec.ofChange suspensionMadeSpec)) suspensionMadeCard

/-- THE TIED CARD OF 'trustflowlaw37.SuspensionNeeds'. -/
def suspensionNeedsCard : Claim7 := { stood := { row := suspensionNeedsRow, standIns := [], harness := (true, "d45820d63b527e3cb29a3a1e5c6c48a20e6c8217f31250fb277b621f547400fe"), looks := false }, kinds := [], alts := [], laidByText := true, laidKinds := [.data, .data, .data, .data, .pinned, .pinned, .pinned, .pinned, .pinned, .pinned], laidTests := true, laidLooks := .later }
def SuspensionNeedsCardSaid : Prop := Claim7.holds Tryz.pinned (.plain (OpenSpec.ofChange suspensionNeedsSpec)) suspensionNeedsCard

/-- THE TIED CARD OF 'trustflowlaw37.SuspensionAppeals'. -/
def suspensionAppealsCard : Claim7 := { stood := { row := suspensionAppealsRow, standIns := [], harness := (true, "d45820d63b527e3cb29a3a1e5c6c48a20e6c8217f31250fb277b621f547400fe"), looks := false }, kinds := [], alts := [], laidByText := true, laidKinds := [.data, .data, .data, .data, .pinned, .pinned, .pinned, .pinned, .pinned, .pinned], laidTests := true, laidLooks := .later }
def SuspensionAppealsCardSaid : Prop := Claim7.holds Tryz.pinned (.plain (OpenSpec.ofChange suspensionAppealsSpec)) suspensionAppealsCard

/-- THE TIED CARD OF 'trustflowlaw37.SuspensionDue'. -/
def suspensionDueCard : Claim7 := { stood := { row := suspensionDueRow, standIns := [], harness := (true, "d45820d63b527e3cb29a3a1e5c6c48a20e6c8217f31250fb277b621f547400fe"), looks := false }, kinds := [], alts := [], laidByText := true, laidKinds := [.data, .data, .data, .data, .pinned, .pinned, .pinned, .pinned, .pinned, .pinned], laidTests := true, laidLooks := .later }
def SuspensionDueCardSaid : Prop := Claim7.holds Tryz.pinned (.plain (OpenSpec.ofChange suspensionDueSpec)) suspensionDueCard

/-- THE SECOND FORM's CARD OF 'trustflowlaw37.SuspensionMade'. -/
def suspensionMadeUptoCard : Claim7 := { stood := { row := suspensionMadeUptoRow, standIns := [], harness := (true, "d45820d63b527e3cb29a3a1e5c6c48a20e6c8217f31250fb277b621f547400fe"), looks := false }, kinds := [], alts := [], laidByText := true, laidKinds := [.data, .data, .data, .data, .pinned, .pinned, .pinned, .pinned, .pinned, .pinned], laidTests := true, laidLooks := .later }
def SuspensionMadeUptoCardSaid : Prop := Claim7.holds Tryz.pinned (.plain (OpenSpec.upto suspensionMadeSpec)) suspensionMadeUptoCard

/-- THE SECOND FORM's CARD OF 'trustflowlaw37.SuspensionNeeds'. -/
def suspensionNeedsUptoCard : Claim7 := { stood := { row := suspensionNeedsUptoRow, standIns := [], harness := (true, "d45820d63b527e3cb29a3a1e5c6c48a20e6c8217f31250fb277b621f547400fe"), looks := false }, kinds := [], alts := [], laidByText := true, laidKinds := [.data, .data, .data, .data, .pinned, .pinned, .pinned, .pinned, .pinned, .pinned], laidTests := true, laidLooks := .later }
def SuspensionNeedsUptoCardSaid : Prop := Claim7.holds Tryz.pinned (.plain (OpenSpec.upto suspensionNeedsSpec)) suspensionNeedsUptoCard

/-- THE SECOND FORM's CARD OF 'trustflowlaw37.SuspensionAppeals'. -/
def suspensionAppealsUptoCard : Claim7 := { stood := { row := suspensionAppealsUptoRow, standIns := [], harness := (true, "d45820d63b527e3cb29a3a1e5c6c48a20e6c8217f31250fb277b621f547400fe"), looks := false }, kinds := [], alts := [], laidByText := true, laidKinds := [.data, .data, .data, .data, .pinned, .pinned, .pinned, .pinned, .pinned, .pinned], laidTests := true, laidLooks := .later }
def SuspensionAppealsUptoCardSaid : Prop := Claim7.holds Tryz.pinned (.plain (OpenSpec.upto suspensionAppealsSpec)) suspensionAppealsUptoCard

/-- THE SECOND FORM's CARD OF 'trustflowlaw37.SuspensionDue'. -/
def suspensionDueUptoCard : Claim7 := { stood := { row := suspensionDueUptoRow, standIns := [], harness := (true, "d45820d63b527e3cb29a3a1e5c6c48a20e6c8217f31250fb277b621f547400fe"), looks := false }, kinds := [], alts := [], laidByText := true, laidKinds := [.data, .data, .data, .data, .pinned, .pinned, .pinned, .pinned, .pinned, .pinned], laidTests := true, laidLooks := .later }
def SuspensionDueUptoCardSaid : Prop := Claim7.holds Tryz.pinned (.plain (OpenSpec.upto suspensionDueSpec)) suspensionDueUptoCard
end Rows
end Go.Proofs.YteakcpfdfglndaaGreatDoor
