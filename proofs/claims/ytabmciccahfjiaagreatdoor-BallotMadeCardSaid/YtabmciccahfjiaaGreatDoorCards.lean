/-
  DERIVED. GIVEN WITH THE SEED: THE CARDS: each row of YtabmciccahfjiaaGreatDoorRows.lean that lists a variable, with what it lists TIED to the program's text (the seventh form; the later family's looks); each row that meets fmt, with fmt's text TOLD by the authors' own Lean function (tested against real Go, not proved from fmt's source: count such statements apart). THE CARD IS WHAT COUNTS. Prove the row's statement (the work); the ties are given (YtabmciccahfjiaaGreatDoorTie.lean); close each card by the builder's one call (the guide's Derived/Test/ToyasCard.lean, 'card_holds'). Laid BY PROGRAM, IN A SANDBOX (cutbox-door.mjs). By AI agents, Wed Nov 11 2026. No macro, syntax, notation, axiom, sorry.
-/
import Derived.Test.YtabmciccahfjiaaGreatDoorRows
import GoSem.ClaimSeven
namespace Go.Proofs.YtabmciccahfjiaaGreatDoor
namespace Rows

/-- THE TIED CARD OF 'trustflowlaw27.BallotRaw'. -/
def ballotRawCard : Claim7 := { stood := { row := ballotRawRow, standIns := [], harness := (true, "44f4cb4f6be765c6274155e37eae312d22adf444d516728132b0fb3443cf57fb"), looks := false }, kinds := [], alts := [], laidByText := true, laidKinds := [.data, .data, .data, .data, .pinned, .pinned, .pinned, .pinned, .pinned, .pinned], laidTests := true, laidLooks := .later }
def BallotRawCardSaid : Prop := Claim7.holds Tryz.pinned (.plain (OpenSpec.ofChange ballotRawSpec)) ballotRawCard

/-- THE TIED CARD OF 'trustflowlaw27.BallotSet'. -/
def ballotSetCard : Claim7 := { stood := { row := ballotSetRow, standIns := [], harness := (true, "44f4cb4f6be765c6274155e37eae312d22adf444d516728132b0fb3443cf57fb"), looks := false }, kinds := [], alts := [], laidByText := true, laidKinds := [.data, .data, .data, .data, .pinned, .pinned, .pinned, .pinned, .pinned, .pinned], laidTests := true, laidLooks := .later }
def BallotSetCardSaid : Prop := Claim7.holds Tryz.pinned (.plain (OpenSpec.ofChange ballotSetSpec)) ballotSetCard

/-- THE TIED CARD OF 'trustflowlaw27.BallotSeats'. -/
def ballotSeatsCard : Claim7 := { stood := { row := ballotSeatsRow, standIns := [], harness := (true, "44f4cb4f6be765c6274155e37eae312d22adf444d516728132b0fb3443cf57fb"), looks := false }, kinds := [], alts := [], laidByText := true, laidKinds := [.data, .data, .data, .data, .pinned, .pinned, .pinned, .pinned, .pinned, .pinned], laidTests := true, laidLooks := .later }
def BallotSeatsCardSaid : Prop := Claim7.holds Tryz.pinned (.plain (OpenSpec.ofChange ballotSeatsSpec)) ballotSeatsCard

/-- THE TIED CARD OF 'trustflowlaw27.BallotMade'. -/
def ballotMadeCard : Claim7 := { stood := { row := ballotMadeRow, standIns := [], harness := (true, "44f4cb4f6be765c6274155e37eae312d22adf444d516728132b0fb3443cf57fb"), looks := false }, kinds := [], alts := [], laidByText := true, laidKinds := [.data, .data, .data, .data, .pinned, .pinned, .pinned, .pinned, .pinned, .pinned], laidTests := true, laidLooks := .later }
def BallotMadeCardSaid : Prop := Claim7.holds Tryz.pinned (.plain (OpenSpec.ofChange ballotMadeSpec)) ballotMadeCard

/-- THE TIED CARD OF 'trustflowlaw27.BallotUnion'. -/
def ballotUnionCard : Claim7 := { stood := { row := ballotUnionRow, standIns := [], harness := (true, "44f4cb4f6be765c6274155e37eae312d22adf444d516728132b0fb3443cf57fb"), looks := false }, kinds := [], alts := [], laidByText := true, laidKinds := [.data, .data, .data, .data, .pinned, .pinned, .pinned, .pinned, .pinned, .pinned], laidTests := true, laidLooks := .later }
def BallotUnionCardSaid : Prop := Claim7.holds Tryz.pinned (.plain (OpenSpec.ofChange ballotUnionSpec)) ballotUnionCard

/-- THE SECOND FORM's CARD OF 'trustflowlaw27.BallotRaw'. -/
def ballotRawUptoCard : Claim7 := { stood := { row := ballotRawUptoRow, standIns := [], harness := (true, "44f4cb4f6be765c6274155e37eae312d22adf444d516728132b0fb3443cf57fb"), looks := false }, kinds := [], alts := [], laidByText := true, laidKinds := [.data, .data, .data, .data, .pinned, .pinned, .pinned, .pinned, .pinned, .pinned], laidTests := true, laidLooks := .later }
def BallotRawUptoCardSaid : Prop := Claim7.holds Tryz.pinned (.plain (OpenSpec.upto ballotRawSpec)) ballotRawUptoCard

/-- THE SECOND FORM's CARD OF 'trustflowlaw27.BallotSet'. -/
def ballotSetUptoCard : Claim7 := { stood := { row := ballotSetUptoRow, standIns := [], harness := (true, "44f4cb4f6be765c6274155e37eae312d22adf444d516728132b0fb3443cf57fb"), looks := false }, kinds := [], alts := [], laidByText := true, laidKinds := [.data, .data, .data, .data, .pinned, .pinned, .pinned, .pinned, .pinned, .pinned], laidTests := true, laidLooks := .later }
def BallotSetUptoCardSaid : Prop := Claim7.holds Tryz.pinned (.plain (OpenSpec.upto ballotSetSpec)) ballotSetUptoCard

/-- THE SECOND FORM's CARD OF 'trustflowlaw27.BallotSeats'. -/
def ballotSeatsUptoCard : Claim7 := { stood := { row := ballotSeatsUptoRow, standIns := [], harness := (true, "44f4cb4f6be765c6274155e37eae312d22adf444d516728132b0fb3443cf57fb"), looks := false }, kinds := [], alts := [], laidByText := true, laidKinds := [.data, .data, .data, .data, .pinned, .pinned, .pinned, .pinned, .pinned, .pinned], laidTests := true, laidLooks := .later }
def BallotSeatsUptoCardSaid : Prop := Claim7.holds Tryz.pinned (.plain (OpenSpec.upto ballotSeatsSpec)) ballotSeatsUptoCard

/-- THE SECOND FORM's CARD OF 'trustflowlaw27.BallotMade'. -/
def ballotMadeUptoCard : Claim7 := { stood := { row := ballotMadeUptoRow, standIns := [], harness := (true, "44f4cb4f6be765c6274155e37eae312d22adf444d516728132b0fb3443cf57fb"), looks := false }, kinds := [], alts := [], laidByText := true, laidKinds := [.data, .data, .data, .data, .pinned, .pinned, .pinned, .pinned, .pinned, .pinned], laidTests := true, laidLooks := .later }
def BallotMadeUptoCardSaid : Prop := Claim7.holds Tryz.pinned (.plain (OpenSpec.upto ballotMadeSpec)) ballotMadeUptoCard

/-- THE SECOND FORM's CARD OF 'trustflowlaw27.BallotUnion'. -/
def ballotUnionUptoCard : Claim7 := { stood := { row := ballotUnionUptoRow, standIns := [], harness := (true, "44f4cb4f6be765c6274155e37eae312d22adf444d516728132b0fb3443cf57fb"), looks := false }, kinds := [], alts := [], laidByText := true, laidKinds := [.data, .data, .data, .data, .pinned, .pinned, .pinned, .pinned, .pinned, .pinned], laidTests := true, laidLooks := .later }
def BallotUnionUptoCardSaid : Prop := Claim7.holds Tryz.pinned (.plain (OpenSpec.upto ballotUnionSpec)) ballotUnionUptoCard
end Rows
end Go.Proofs.YtabmciccahfjiaaGreatDoor
