/- A closed fact of BallotSeats's row. -/
import Derived.Test.YtabmciccahfjiaaGreatDoorFinE1
set_option linter.unusedSimpArgs false
set_option linter.unusedVariables false
namespace Go.Proofs.YtabmciccahfjiaaGreatDoor.ballotSeats
open Go
theorem limb_r : Tryz.prog.recurses 5 = true := by kernel_rfl
end Go.Proofs.YtabmciccahfjiaaGreatDoor.ballotSeats
