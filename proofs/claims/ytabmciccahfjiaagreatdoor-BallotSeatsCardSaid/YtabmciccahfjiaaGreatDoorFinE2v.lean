/- A closed fact of BallotSeats's row. -/
import Derived.Test.YtabmciccahfjiaaGreatDoorFinE1
set_option linter.unusedSimpArgs false
set_option linter.unusedVariables false
namespace Go.Proofs.YtabmciccahfjiaaGreatDoor.ballotSeats
open Go
theorem limb_v : Tryz.prog.varsNamed 5 = Rows.ballotSeatsRow.named := by kernel_rfl
end Go.Proofs.YtabmciccahfjiaaGreatDoor.ballotSeats
