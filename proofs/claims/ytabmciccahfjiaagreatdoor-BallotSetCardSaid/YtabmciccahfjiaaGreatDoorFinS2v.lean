/- A closed fact of BallotSet's row. -/
import Derived.Test.YtabmciccahfjiaaGreatDoorFinS1
set_option linter.unusedSimpArgs false
set_option linter.unusedVariables false
namespace Go.Proofs.YtabmciccahfjiaaGreatDoor.ballotSet
open Go
theorem limb_v : Tryz.prog.varsNamed 4 = Rows.ballotSetRow.named := by kernel_rfl
end Go.Proofs.YtabmciccahfjiaaGreatDoor.ballotSet
