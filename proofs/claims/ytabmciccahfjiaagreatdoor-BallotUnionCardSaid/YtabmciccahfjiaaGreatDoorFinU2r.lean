/- A closed fact of BallotUnion's row. -/
import Derived.Test.YtabmciccahfjiaaGreatDoorFinU1
set_option linter.unusedSimpArgs false
set_option linter.unusedVariables false
namespace Go.Proofs.YtabmciccahfjiaaGreatDoor.ballotUnion
open Go
theorem limb_r : Tryz.prog.recurses 7 = true := by kernel_rfl
end Go.Proofs.YtabmciccahfjiaaGreatDoor.ballotUnion
