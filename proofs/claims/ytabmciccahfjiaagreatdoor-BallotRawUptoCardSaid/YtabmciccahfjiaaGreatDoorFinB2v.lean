import Derived.Test.YtabmciccahfjiaaGreatDoorFinB1
set_option linter.unusedSimpArgs false
set_option linter.unusedVariables false
namespace Go.Proofs.YtabmciccahfjiaaGreatDoor.ballotRawUpto
open Go
theorem limb_v : Tryz.prog.varsNamed 3 = Rows.ballotRawUptoRow.named := by kernel_rfl
end Go.Proofs.YtabmciccahfjiaaGreatDoor.ballotRawUpto
