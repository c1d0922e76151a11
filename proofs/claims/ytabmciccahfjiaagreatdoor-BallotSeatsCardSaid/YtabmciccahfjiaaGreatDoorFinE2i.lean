/- A closed fact of BallotSeats's row. -/
import Derived.Test.YtabmciccahfjiaaGreatDoorFinE1
set_option linter.unusedSimpArgs false
set_option linter.unusedVariables false
namespace Go.Proofs.YtabmciccahfjiaaGreatDoor.ballotSeats
open Go
theorem limb_i : Tryz.prog.inPlace 5 = Rows.ballotSeatsRow.inPlace := by kernel_rfl
end Go.Proofs.YtabmciccahfjiaaGreatDoor.ballotSeats
