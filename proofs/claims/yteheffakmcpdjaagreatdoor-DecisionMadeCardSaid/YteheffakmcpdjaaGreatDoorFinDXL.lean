/- A closed fact of DecisionMade's row. -/
import Derived.Test.YteheffakmcpdjaaGreatDoorFinDX1
set_option linter.unusedSimpArgs false
set_option linter.unusedVariables false
namespace Go.Proofs.YteheffakmcpdjaaGreatDoor.decisionMade
open Go
theorem limb_i : Tryz.prog.inPlace 8 = Rows.decisionMadeRow.inPlace := by kernel_rfl
end Go.Proofs.YteheffakmcpdjaaGreatDoor.decisionMade

/- A closed fact of DecisionMade's row. -/
namespace Go.Proofs.YteheffakmcpdjaaGreatDoor.decisionMade
open Go
theorem limb_r : Tryz.prog.recurses 8 = true := by kernel_rfl
end Go.Proofs.YteheffakmcpdjaaGreatDoor.decisionMade

/- A closed fact of DecisionMade's row. -/
namespace Go.Proofs.YteheffakmcpdjaaGreatDoor.decisionMade
open Go
theorem limb_u : Tryz.prog.unfollowed 8 = true := by kernel_rfl
end Go.Proofs.YteheffakmcpdjaaGreatDoor.decisionMade

/- A closed fact of DecisionMade's row. -/
namespace Go.Proofs.YteheffakmcpdjaaGreatDoor.decisionMade
open Go
theorem limb_v : Tryz.prog.varsNamed 8 = Rows.decisionMadeRow.named := by kernel_rfl
end Go.Proofs.YteheffakmcpdjaaGreatDoor.decisionMade

/- The closed facts of DecisionMade's row, joined. -/
namespace Go.Proofs.YteheffakmcpdjaaGreatDoor.decisionMade
open Go
theorem closed : joinedFacts Tryz.prog 8 Tryz.f8 (OpenSpec.ofChange Rows.decisionMadeSpec).bare Rows.decisionMadeRow = true := by
  unfold joinedFacts
  rw [limb_i, limb_u, limb_r, limb_v]
  kernel_rfl
end Go.Proofs.YteheffakmcpdjaaGreatDoor.decisionMade
