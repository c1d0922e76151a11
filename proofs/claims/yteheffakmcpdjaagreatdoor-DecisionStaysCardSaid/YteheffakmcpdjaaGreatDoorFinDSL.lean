/- A closed fact of DecisionStays's row. -/
import Derived.Test.YteheffakmcpdjaaGreatDoorFinDS1
set_option linter.unusedSimpArgs false
set_option linter.unusedVariables false
namespace Go.Proofs.YteheffakmcpdjaaGreatDoor.decisionStays
open Go
theorem limb_i : Tryz.prog.inPlace 6 = Rows.decisionStaysRow.inPlace := by kernel_rfl
end Go.Proofs.YteheffakmcpdjaaGreatDoor.decisionStays

/- A closed fact of DecisionStays's row. -/
namespace Go.Proofs.YteheffakmcpdjaaGreatDoor.decisionStays
open Go
theorem limb_r : Tryz.prog.recurses 6 = true := by kernel_rfl
end Go.Proofs.YteheffakmcpdjaaGreatDoor.decisionStays

/- A closed fact of DecisionStays's row. -/
namespace Go.Proofs.YteheffakmcpdjaaGreatDoor.decisionStays
open Go
theorem limb_u : Tryz.prog.unfollowed 6 = true := by kernel_rfl
end Go.Proofs.YteheffakmcpdjaaGreatDoor.decisionStays

/- A closed fact of DecisionStays's row. -/
namespace Go.Proofs.YteheffakmcpdjaaGreatDoor.decisionStays
open Go
theorem limb_v : Tryz.prog.varsNamed 6 = Rows.decisionStaysRow.named := by kernel_rfl
end Go.Proofs.YteheffakmcpdjaaGreatDoor.decisionStays

/- The closed facts of DecisionStays's row, joined. -/
namespace Go.Proofs.YteheffakmcpdjaaGreatDoor.decisionStays
open Go
theorem closed : joinedFacts Tryz.prog 6 Tryz.f6 (OpenSpec.ofChange Rows.decisionStaysSpec).bare Rows.decisionStaysRow = true := by
  unfold joinedFacts
  rw [limb_i, limb_u, limb_r, limb_v]
  kernel_rfl
end Go.Proofs.YteheffakmcpdjaaGreatDoor.decisionStays
