/- A closed fact of DecisionUnion's row. -/
import Derived.Test.YteheffakmcpdjaaGreatDoorFinDU1
set_option linter.unusedSimpArgs false
set_option linter.unusedVariables false
namespace Go.Proofs.YteheffakmcpdjaaGreatDoor.decisionUnion
open Go
theorem limb_i : Tryz.prog.inPlace 3 = Rows.decisionUnionRow.inPlace := by kernel_rfl
end Go.Proofs.YteheffakmcpdjaaGreatDoor.decisionUnion

/- A closed fact of DecisionUnion's row. -/
namespace Go.Proofs.YteheffakmcpdjaaGreatDoor.decisionUnion
open Go
theorem limb_r : Tryz.prog.recurses 3 = true := by kernel_rfl
end Go.Proofs.YteheffakmcpdjaaGreatDoor.decisionUnion

/- A closed fact of DecisionUnion's row. -/
namespace Go.Proofs.YteheffakmcpdjaaGreatDoor.decisionUnion
open Go
theorem limb_u : Tryz.prog.unfollowed 3 = true := by kernel_rfl
end Go.Proofs.YteheffakmcpdjaaGreatDoor.decisionUnion

/- A closed fact of DecisionUnion's row. -/
namespace Go.Proofs.YteheffakmcpdjaaGreatDoor.decisionUnion
open Go
theorem limb_v : Tryz.prog.varsNamed 3 = Rows.decisionUnionRow.named := by kernel_rfl
end Go.Proofs.YteheffakmcpdjaaGreatDoor.decisionUnion

/- The closed facts of DecisionUnion's row, joined. -/
namespace Go.Proofs.YteheffakmcpdjaaGreatDoor.decisionUnion
open Go
theorem closed : joinedFacts Tryz.prog 3 Tryz.f3 (OpenSpec.ofChange Rows.decisionUnionSpec).bare Rows.decisionUnionRow = true := by
  unfold joinedFacts
  rw [limb_i, limb_u, limb_r, limb_v]
  kernel_rfl
end Go.Proofs.YteheffakmcpdjaaGreatDoor.decisionUnion
