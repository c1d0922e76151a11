/- A closed fact of BallotMade's row. -/
import Derived.Test.YtabmciccahfjiaaGreatDoorFinM271
set_option linter.unusedSimpArgs false
set_option linter.unusedVariables false
namespace Go.Proofs.YtabmciccahfjiaaGreatDoor.ballotMade
open Go
theorem limb_i : Tryz.prog.inPlace 6 = Rows.ballotMadeRow.inPlace := by kernel_rfl
end Go.Proofs.YtabmciccahfjiaaGreatDoor.ballotMade
