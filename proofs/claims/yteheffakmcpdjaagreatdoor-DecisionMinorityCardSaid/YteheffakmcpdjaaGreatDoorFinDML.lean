/- A closed fact of DecisionMinority's row. -/
import Derived.Test.YteheffakmcpdjaaGreatDoorFinDM1
set_option linter.unusedSimpArgs false
set_option linter.unusedVariables false
namespace Go.Proofs.YteheffakmcpdjaaGreatDoor.decisionMinority
open Go
theorem limb_i : Tryz.prog.inPlace 7 = Rows.decisionMinorityRow.inPlace := by kernel_rfl
end Go.Proofs.YteheffakmcpdjaaGreatDoor.decisionMinority

/- A closed fact of DecisionMinority's row. -/
namespace Go.Proofs.YteheffakmcpdjaaGreatDoor.decisionMinority
open Go
theorem limb_r : Tryz.prog.recurses 7 = true := by kernel_rfl
end Go.Proofs.YteheffakmcpdjaaGreatDoor.decisionMinority

/- A closed fact of DecisionMinority's row. -/
namespace Go.Proofs.YteheffakmcpdjaaGreatDoor.decisionMinority
open Go
theorem limb_u : Tryz.prog.unfollowed 7 = true := by kernel_rfl
end Go.Proofs.YteheffakmcpdjaaGreatDoor.decisionMinority

/- A closed fact of DecisionMinority's row. -/
namespace Go.Proofs.YteheffakmcpdjaaGreatDoor.decisionMinority
open Go
theorem limb_v : Tryz.prog.varsNamed 7 = Rows.decisionMinorityRow.named := by kernel_rfl
end Go.Proofs.YteheffakmcpdjaaGreatDoor.decisionMinority

/- The closed facts of DecisionMinority's row, joined. -/
namespace Go.Proofs.YteheffakmcpdjaaGreatDoor.decisionMinority
open Go
theorem closed : joinedFacts Tryz.prog 7 Tryz.f7 (OpenSpec.ofChange Rows.decisionMinoritySpec).bare Rows.decisionMinorityRow = true := by
  unfold joinedFacts
  rw [limb_i, limb_u, limb_r, limb_v]
  kernel_rfl
end Go.Proofs.YteheffakmcpdjaaGreatDoor.decisionMinority
