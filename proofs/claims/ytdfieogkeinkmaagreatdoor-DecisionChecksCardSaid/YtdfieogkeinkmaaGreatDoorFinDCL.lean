/- A closed fact of DecisionChecks's row. -/
import Derived.Test.YtdfieogkeinkmaaGreatDoorFinDC1
set_option linter.unusedSimpArgs false
set_option linter.unusedVariables false
namespace Go.Proofs.YtdfieogkeinkmaaGreatDoor.decisionChecks
open Go
theorem limb_i : Tryz.prog.inPlace 3 = Rows.decisionChecksRow.inPlace := by kernel_rfl
end Go.Proofs.YtdfieogkeinkmaaGreatDoor.decisionChecks

/- A closed fact of DecisionChecks's row. -/
namespace Go.Proofs.YtdfieogkeinkmaaGreatDoor.decisionChecks
open Go
theorem limb_r : Tryz.prog.recurses 3 = true := by kernel_rfl
end Go.Proofs.YtdfieogkeinkmaaGreatDoor.decisionChecks

/- A closed fact of DecisionChecks's row. -/
namespace Go.Proofs.YtdfieogkeinkmaaGreatDoor.decisionChecks
open Go
theorem limb_u : Tryz.prog.unfollowed 3 = true := by kernel_rfl
end Go.Proofs.YtdfieogkeinkmaaGreatDoor.decisionChecks

/- A closed fact of DecisionChecks's row. -/
namespace Go.Proofs.YtdfieogkeinkmaaGreatDoor.decisionChecks
open Go
theorem limb_v : Tryz.prog.varsNamed 3 = Rows.decisionChecksRow.named := by kernel_rfl
end Go.Proofs.YtdfieogkeinkmaaGreatDoor.decisionChecks

/- The closed facts of DecisionChecks's row, joined. -/
namespace Go.Proofs.YtdfieogkeinkmaaGreatDoor.decisionChecks
open Go
theorem closed : joinedFacts Tryz.prog 3 Tryz.f3 (OpenSpec.ofChange Rows.decisionChecksSpec).bare Rows.decisionChecksRow = true := by
  unfold joinedFacts
  rw [limb_i, limb_u, limb_r, limb_v]
  kernel_rfl
end Go.Proofs.YtdfieogkeinkmaaGreatDoor.decisionChecks
