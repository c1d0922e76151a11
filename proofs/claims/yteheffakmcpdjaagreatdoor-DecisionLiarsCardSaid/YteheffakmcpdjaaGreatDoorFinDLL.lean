/- A closed fact of DecisionLiars's row. -/
import Derived.Test.YteheffakmcpdjaaGreatDoorFinDL1
set_option linter.unusedSimpArgs false
set_option linter.unusedVariables false
namespace Go.Proofs.YteheffakmcpdjaaGreatDoor.decisionLiars
open Go
theorem limb_i : Tryz.prog.inPlace 5 = Rows.decisionLiarsRow.inPlace := by kernel_rfl
end Go.Proofs.YteheffakmcpdjaaGreatDoor.decisionLiars

/- A closed fact of DecisionLiars's row. -/
namespace Go.Proofs.YteheffakmcpdjaaGreatDoor.decisionLiars
open Go
theorem limb_r : Tryz.prog.recurses 5 = true := by kernel_rfl
end Go.Proofs.YteheffakmcpdjaaGreatDoor.decisionLiars

/- A closed fact of DecisionLiars's row. -/
namespace Go.Proofs.YteheffakmcpdjaaGreatDoor.decisionLiars
open Go
theorem limb_u : Tryz.prog.unfollowed 5 = true := by kernel_rfl
end Go.Proofs.YteheffakmcpdjaaGreatDoor.decisionLiars

/- A closed fact of DecisionLiars's row. -/
namespace Go.Proofs.YteheffakmcpdjaaGreatDoor.decisionLiars
open Go
theorem limb_v : Tryz.prog.varsNamed 5 = Rows.decisionLiarsRow.named := by kernel_rfl
end Go.Proofs.YteheffakmcpdjaaGreatDoor.decisionLiars

/- The closed facts of DecisionLiars's row, joined. -/
namespace Go.Proofs.YteheffakmcpdjaaGreatDoor.decisionLiars
open Go
theorem closed : joinedFacts Tryz.prog 5 Tryz.f5 (OpenSpec.ofChange Rows.decisionLiarsSpec).bare Rows.decisionLiarsRow = true := by
  unfold joinedFacts
  rw [limb_i, limb_u, limb_r, limb_v]
  kernel_rfl
end Go.Proofs.YteheffakmcpdjaaGreatDoor.decisionLiars
