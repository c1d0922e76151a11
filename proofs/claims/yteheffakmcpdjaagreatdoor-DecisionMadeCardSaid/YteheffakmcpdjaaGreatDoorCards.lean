/-
  DERIVED. GIVEN WITH THE SEED: THE CARDS: each row of YteheffakmcpdjaaGreatDoorRows.lean that lists a variable, with what it lists TIED to the program's text (the seventh form; the later family's looks); each row that meets fmt, with fmt's text TOLD by the authors' own Lean function (tested against real Go, not proved from fmt's source: count such statements apart). THE CARD IS WHAT COUNTS. Prove the row's statement (the work); the ties are given (YteheffakmcpdjaaGreatDoorTie.lean); close each card by the builder's one call (the guide's Derived/Test/ToyasCard.lean, 'card_holds'). Laid BY PROGRAM, IN A SANDBOX (cutbox-door.mjs). By AI agents, Wed Nov 11 2026. No macro, syntax, notation, axiom, sorry.
-/
import Derived.Test.YteheffakmcpdjaaGreatDoorRows
import GoSem.ClaimSeven
namespace Go.Proofs.YteheffakmcpdjaaGreatDoor
namespace Rows

/-- THE TIED CARD OF 'trustflowlaw28.DecisionUnion'. -/
def decisionUnionCard : Claim7 := { stood := { row := decisionUnionRow, standIns := [], harness := (true, "790b2b509bbd8f4b4fd89c911762bd224023b4dde1bfbcd23fd1a05ab2dfa60c"), looks := false }, kinds := [], alts := [], laidByText := true, laidKinds := [.data, .data, .data, .data, .pinned, .pinned, .pinned, .pinned, .pinned, .pinned], laidTests := true, laidLooks := .later }
def DecisionUnionCardSaid : Prop := Claim7.holds Tryz.pinned (.plain (OpenSpec.ofChange decisionUnionSpec)) decisionUnionCard

/-- THE TIED CARD OF 'trustflowlaw28.DecisionChecks'. -/
def decisionChecksCard : Claim7 := { stood := { row := decisionChecksRow, standIns := [], harness := (true, "790b2b509bbd8f4b4fd89c911762bd224023b4dde1bfbcd23fd1a05ab2dfa60c"), looks := false }, kinds := [], alts := [], laidByText := true, laidKinds := [.data, .data, .data, .data, .pinned, .pinned, .pinned, .pinned, .pinned, .pinned], laidTests := true, laidLooks := .later }
def DecisionChecksCardSaid : Prop := Claim7.holds Tryz.pinned (.plain (OpenSpec.ofChange decisionChecksSpec)) decisionChecksCard

/-- THE TIED CARD OF 'trustflowlaw28.DecisionLiars'. -/
def decisionLiarsCard : Claim7 := { stood := { row := decisionLiarsRow, standIns := [], harness := (true, "790b2b509bbd8f4b4fd89c911762bd224023b4dde1bfbcd23fd1a05ab2dfa60c"), looks := false }, kinds := [], alts := [], laidByText := true, laidKinds := [.data, .data, .data, .data, .pinned, .pinned, .pinned, .pinned, .pinned, .pinned], laidTests := true, laidLooks := .later }
def DecisionLiarsCardSaid : Prop := Claim7.holds Tryz.pinned (.plain (OpenSpec.ofChange decisionLiarsSpec)) decisionLiarsCard

/-- THE TIED CARD OF 'trustflowlaw28.DecisionStays'. -/
def decisionStaysCard : Claim7 := { stood := { row := decisionStaysRow, standIns := [], harness := (true, "790b2b509bbd8f4b4fd89c911762bd224023b4dde1bfbcd23fd1a05ab2dfa60c"), looks := false }, kinds := [], alts := [], laidByText := true, laidKinds := [.data, .data, .data, .data, .pinned, .pinned, .pinned, .pinned, .pinned, .pinned], laidTests := true, laidLooks := .later }
def DecisionStaysCardSaid : Prop := Claim7.holds Tryz.pinned (.plain (OpenSpec.ofChange decisionStaysSpec)) decisionStaysCard

/-- THE TIED CARD OF 'trustflowlaw28.DecisionMinority'. -/
def decisionMinorityCard : Claim7 := { stood := { row := decisionMinorityRow, standIns := [], harness := (true, "790b2b509bbd8f4b4fd89c911762bd224023b4dde1bfbcd23fd1a05ab2dfa60c"), looks := false }, kinds := [], alts := [], laidByText := true, laidKinds := [.data, .data, .data, .data, .pinned, .pinned, .pinned, .pinned, .pinned, .pinned], laidTests := true, laidLooks := .later }
def DecisionMinorityCardSaid : Prop := Claim7.holds Tryz.pinned (.plain (OpenSpec.ofChange decisionMinoritySpec)) decisionMinorityCard

/-- THE TIED CARD OF 'trustflowlaw28.DecisionMade'. -/
def decisionMadeCard : Claim7 := { stood := { row := decisionMadeRow, standIns := [], harness := (true, "790b2b509bbd8f4b4fd89c911762bd224023b4dde1bfbcd23fd1a05ab2dfa60c"), looks := false }, kinds := [], alts := [], laidByText := true, laidKinds := [.data, .data, .data, .data, .pinned, .pinned, .pinned, .pinned, .pinned, .pinned], laidTests := true, laidLooks := .later }
def DecisionMadeCardSaid : Prop := Claim7.holds Tryz.pinned (.plain (OpenSpec.ofChange decisionMadeSpec)) decisionMadeCard

/-- THE SECOND FORM's CARD OF 'trustflowlaw28.DecisionUnion'. -/
def decisionUnionUptoCard : Claim7 := { stood := { row := decisionUnionUptoRow, standIns := [], harness := (true, "790b2b509bbd8f4b4fd89c911762bd224023b4dde1bfbcd23fd1a05ab2dfa60c"), looks := false }, kinds := [], alts := [], laidByText := true, laidKinds := [.data, .data, .data, .data, .pinned, .pinned, .pinned, .pinned, .pinned, .pinned], laidTests := true, laidLooks := .later }
def DecisionUnionUptoCardSaid : Prop := Claim7.holds Tryz.pinned (.plain (OpenSpec.upto decisionUnionSpec)) decisionUnionUptoCard

/-- THE SECOND FORM's CARD OF 'trustflowlaw28.DecisionChecks'. -/
def decisionChecksUptoCard : Claim7 := { stood := { row := decisionChecksUptoRow, standIns := [], harness := (true, "790b2b509bbd8f4b4fd89c911762bd224023b4dde1bfbcd23fd1a05ab2dfa60c"), looks := false }, kinds := [], alts := [], laidByText := true, laidKinds := [.data, .data, .data, .data, .pinned, .pinned, .pinned, .pinned, .pinned, .pinned], laidTests := true, laidLooks := .later }
def DecisionChecksUptoCardSaid : Prop := Claim7.holds Tryz.pinned (.plain (OpenSpec.upto decisionChecksSpec)) decisionChecksUptoCard

/-- THE SECOND FORM's CARD OF 'trustflowlaw28.DecisionLiars'. -/
def decisionLiarsUptoCard : Claim7 := { stood := { row := decisionLiarsUptoRow, standIns := [], harness := (true, "790b2b509bbd8f4b4fd89c911762bd224023b4dde1bfbcd23fd1a05ab2dfa60c"), looks := false }, kinds := [], alts := [], laidByText := true, laidKinds := [.data, .data, .data, .data, .pinned, .pinned, .pinned, .pinned, .pinned, .pinned], laidTests := true, laidLooks := .later }
def DecisionLiarsUptoCardSaid : Prop := Claim7.holds Tryz.pinned (.plain (OpenSpec.upto decisionLiarsSpec)) decisionLiarsUptoCard

/-- THE SECOND FORM's CARD OF 'trustflowlaw28.DecisionStays'. -/
def decisionStaysUptoCard : Claim7 := { stood := { row := decisionStaysUptoRow, standIns := [], harness := (true, "790b2b509bbd8f4b4fd89c911762bd224023b4dde1bfbcd23fd1a05ab2dfa60c"), looks := false }, kinds := [], alts := [], laidByText := true, laidKinds := [.data, .data, .data, .data, .pinned, .pinned, .pinned, .pinned, .pinned, .pinned], laidTests := true, laidLooks := .later }
def DecisionStaysUptoCardSaid : Prop := Claim7.holds Tryz.pinned (.plain (OpenSpec.upto decisionStaysSpec)) decisionStaysUptoCard

/-- THE SECOND FORM's CARD OF 'trustflowlaw28.DecisionMinority'. -/
def decisionMinorityUptoCard : Claim7 := { stood := { row := decisionMinorityUptoRow, standIns := [], harness := (true, "790b2b509bbd8f4b4fd89c911762bd224023b4dde1bfbcd23fd1a05ab2dfa60c"), looks := false }, kinds := [], alts := [], laidByText := true, laidKinds := [.data, .data, .data, .data, .pinned, .pinned, .pinned, .pinned, .pinned, .pinned], laidTests := true, laidLooks := .later }
def DecisionMinorityUptoCardSaid : Prop := Claim7.holds Tryz.pinned (.plain (OpenSpec.upto decisionMinoritySpec)) decisionMinorityUptoCard

/-- THE SECOND FORM's CARD OF 'trustflowlaw28.DecisionMade'. -/
def decisionMadeUptoCard : Claim7 := { stood := { row := decisionMadeUptoRow, standIns := [], harness := (true, "790b2b509bbd8f4b4fd89c911762bd224023b4dde1bfbcd23fd1a05ab2dfa60c"), looks := false }, kinds := [], alts := [], laidByText := true, laidKinds := [.data, .data, .data, .data, .pinned, .pinned, .pinned, .pinned, .pinned, .pinned], laidTests := true, laidLooks := .later }
def DecisionMadeUptoCardSaid : Prop := Claim7.holds Tryz.pinned (.plain (OpenSpec.upto decisionMadeSpec)) decisionMadeUptoCard
end Rows
end Go.Proofs.YteheffakmcpdjaaGreatDoor
