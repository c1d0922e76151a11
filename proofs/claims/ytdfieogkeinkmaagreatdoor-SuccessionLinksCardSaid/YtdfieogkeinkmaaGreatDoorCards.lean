/-
  DERIVED. GIVEN WITH THE SEED: THE CARDS: each row of YtdfieogkeinkmaaGreatDoorRows.lean that lists a variable, with what it lists TIED to the program's text (the seventh form; the later family's looks); each row that meets fmt, with fmt's text TOLD by the authors' own Lean function (tested against real Go, not proved from fmt's source: count such statements apart). THE CARD IS WHAT COUNTS. Prove the row's statement (the work); the ties are given (YtdfieogkeinkmaaGreatDoorTie.lean); close each card by the builder's one call (the guide's Derived/Test/ToyasCard.lean, 'card_holds'). Laid BY PROGRAM, IN A SANDBOX (cutbox-door.mjs). By AI agents, Wed Nov 11 2026. No macro, syntax, notation, axiom, sorry.
-/
import Derived.Test.YtdfieogkeinkmaaGreatDoorRows
import GoSem.ClaimSeven
namespace Go.Proofs.YtdfieogkeinkmaaGreatDoor
namespace Rows

/-- THE TIED CARD OF 'trustflowlaw28.DecisionChecks'. -/
def decisionChecksCard : Claim7 := { stood := { row := decisionChecksRow, standIns := [], harness := (true, "fa6531be0d2ce4435c9b11e8ef46f192f6abb1ad089206dff40cb6fca38c62e2"), looks := false }, kinds := [], alts := [], laidByText := true, laidKinds := [.data, .data, .data, .data, .pinned, .pinned, .pinned, .pinned, .pinned, .pinned], laidTests := true, laidLooks := .later }
def DecisionChecksCardSaid : Prop := Claim7.holds Tryz.pinned (.plain (OpenSpec.ofChange decisionChecksSpec)) decisionChecksCard

/-- THE TIED CARD OF 'trustflowlaw29.SuccessionGrows'. -/
def successionGrowsCard : Claim7 := { stood := { row := successionGrowsRow, standIns := [], harness := (true, "fa6531be0d2ce4435c9b11e8ef46f192f6abb1ad089206dff40cb6fca38c62e2"), looks := false }, kinds := [], alts := [], laidByText := true, laidKinds := [.data, .data, .data, .data, .pinned, .pinned, .pinned, .pinned, .pinned, .pinned], laidTests := true, laidLooks := .later }
def SuccessionGrowsCardSaid : Prop := Claim7.holds Tryz.pinned (.plain (OpenSpec.ofChange successionGrowsSpec)) successionGrowsCard

/-- THE TIED CARD OF 'trustflowlaw29.SuccessionLinks'. -/
def successionLinksCard : Claim7 := { stood := { row := successionLinksRow, standIns := [], harness := (true, "fa6531be0d2ce4435c9b11e8ef46f192f6abb1ad089206dff40cb6fca38c62e2"), looks := false }, kinds := [], alts := [], laidByText := true, laidKinds := [.data, .data, .data, .data, .pinned, .pinned, .pinned, .pinned, .pinned, .pinned], laidTests := true, laidLooks := .later }
def SuccessionLinksCardSaid : Prop := Claim7.holds Tryz.pinned (.plain (OpenSpec.ofChange successionLinksSpec)) successionLinksCard

/-- THE TIED CARD OF 'trustflowlaw29.SuccessionSeats'. -/
def successionSeatsCard : Claim7 := { stood := { row := successionSeatsRow, standIns := [], harness := (true, "fa6531be0d2ce4435c9b11e8ef46f192f6abb1ad089206dff40cb6fca38c62e2"), looks := false }, kinds := [], alts := [], laidByText := true, laidKinds := [.data, .data, .data, .data, .pinned, .pinned, .pinned, .pinned, .pinned, .pinned], laidTests := true, laidLooks := .later }
def SuccessionSeatsCardSaid : Prop := Claim7.holds Tryz.pinned (.plain (OpenSpec.ofChange successionSeatsSpec)) successionSeatsCard

/-- THE TIED CARD OF 'trustflowlaw29.SuccessionEnds'. -/
def successionEndsCard : Claim7 := { stood := { row := successionEndsRow, standIns := [], harness := (true, "fa6531be0d2ce4435c9b11e8ef46f192f6abb1ad089206dff40cb6fca38c62e2"), looks := false }, kinds := [], alts := [], laidByText := true, laidKinds := [.data, .data, .data, .data, .pinned, .pinned, .pinned, .pinned, .pinned, .pinned], laidTests := true, laidLooks := .later }
def SuccessionEndsCardSaid : Prop := Claim7.holds Tryz.pinned (.plain (OpenSpec.ofChange successionEndsSpec)) successionEndsCard

/-- THE TIED CARD OF 'trustflowlaw29.SuccessionMade'. -/
def successionMadeCard : Claim7 := { stood := { row := successionMadeRow, standIns := [], harness := (true, "fa6531be0d2ce4435c9b11e8ef46f192f6abb1ad089206dff40cb6fca38c62e2"), looks := false }, kinds := [], alts := [], laidByText := true, laidKinds := [.data, .data, .data, .data, .pinned, .pinned, .pinned, .pinned, .pinned, .pinned], laidTests := true, laidLooks := .later }
def SuccessionMadeCardSaid : Prop := Claim7.holds Tryz.pinned (.plain (OpenSpec.ofChange successionMadeSpec)) successionMadeCard

/-- THE SECOND FORM's CARD OF 'trustflowlaw28.DecisionChecks'. -/
def decisionChecksUptoCard : Claim7 := { stood := { row := decisionChecksUptoRow, standIns := [], harness := (true, "fa6531be0d2ce4435c9b11e8ef46f192f6abb1ad089206dff40cb6fca38c62e2"), looks := false }, kinds := [], alts := [], laidByText := true, laidKinds := [.data, .data, .data, .data, .pinned, .pinned, .pinned, .pinned, .pinned, .pinned], laidTests := true, laidLooks := .later }
def DecisionChecksUptoCardSaid : Prop := Claim7.holds Tryz.pinned (.plain (OpenSpec.upto decisionChecksSpec)) decisionChecksUptoCard

/-- THE SECOND FORM's CARD OF 'trustflowlaw29.SuccessionGrows'. -/
def successionGrowsUptoCard : Claim7 := { stood := { row := successionGrowsUptoRow, standIns := [], harness := (true, "fa6531be0d2ce4435c9b11e8ef46f192f6abb1ad089206dff40cb6fca38c62e2"), looks := false }, kinds := [], alts := [], laidByText := true, laidKinds := [.data, .data, .data, .data, .pinned, .pinned, .pinned, .pinned, .pinned, .pinned], laidTests := true, laidLooks := .later }
def SuccessionGrowsUptoCardSaid : Prop := Claim7.holds Tryz.pinned (.plain (OpenSpec.upto successionGrowsSpec)) successionGrowsUptoCard

/-- THE SECOND FORM's CARD OF 'trustflowlaw29.SuccessionLinks'. -/
def successionLinksUptoCard : Claim7 := { stood := { row := successionLinksUptoRow, standIns := [], harness := (true, "fa6531be0d2ce4435c9b11e8ef46f192f6abb1ad089206dff40cb6fca38c62e2"), looks := false }, kinds := [], alts := [], laidByText := true, laidKinds := [.data, .data, .data, .data, .pinned, .pinned, .pinned, .pinned, .pinned, .pinned], laidTests := true, laidLooks := .later }
def SuccessionLinksUptoCardSaid : Prop := Claim7.holds Tryz.pinned (.plain (OpenSpec.upto successionLinksSpec)) successionLinksUptoCard

/-- THE SECOND FORM's CARD OF 'trustflowlaw29.SuccessionSeats'. -/
def successionSeatsUptoCard : Claim7 := { stood := { row := successionSeatsUptoRow, standIns := [], harness := (true, "fa6531be0d2ce4435c9b11e8ef46f192f6abb1ad089206dff40cb6fca38c62e2"), looks := false }, kinds := [], alts := [], laidByText := true, laidKinds := [.data, .data, .data, .data, .pinned, .pinned, .pinned, .pinned, .pinned, .pinned], laidTests := true, laidLooks := .later }
def SuccessionSeatsUptoCardSaid : Prop := Claim7.holds Tryz.pinned (.plain (OpenSpec.upto successionSeatsSpec)) successionSeatsUptoCard

/-- THE SECOND FORM's CARD OF 'trustflowlaw29.SuccessionEnds'. -/
def successionEndsUptoCard : Claim7 := { stood := { row := successionEndsUptoRow, standIns := [], harness := (true, "fa6531be0d2ce4435c9b11e8ef46f192f6abb1ad089206dff40cb6fca38c62e2"), looks := false }, kinds := [], alts := [], laidByText := true, laidKinds := [.data, .data, .data, .data, .pinned, .pinned, .pinned, .pinned, .pinned, .pinned], laidTests := true, laidLooks := .later }
def SuccessionEndsUptoCardSaid : Prop := Claim7.holds Tryz.pinned (.plain (OpenSpec.upto successionEndsSpec)) successionEndsUptoCard

/-- THE SECOND FORM's CARD OF 'trustflowlaw29.SuccessionMade'. -/
def successionMadeUptoCard : Claim7 := { stood := { row := successionMadeUptoRow, standIns := [], harness := (true, "fa6531be0d2ce4435c9b11e8ef46f192f6abb1ad089206dff40cb6fca38c62e2"), looks := false }, kinds := [], alts := [], laidByText := true, laidKinds := [.data, .data, .data, .data, .pinned, .pinned, .pinned, .pinned, .pinned, .pinned], laidTests := true, laidLooks := .later }
def SuccessionMadeUptoCardSaid : Prop := Claim7.holds Tryz.pinned (.plain (OpenSpec.upto successionMadeSpec)) successionMadeUptoCard
end Rows
end Go.Proofs.YtdfieogkeinkmaaGreatDoor
