import Derived.Test.YtabmciccahfjiaaGreatDoorFinB1
set_option linter.unusedSimpArgs false
set_option linter.unusedVariables false
namespace Go.Proofs.YtabmciccahfjiaaGreatDoor.ballotRawUpto
open Go
theorem limb_r : Tryz.prog.recurses 3 = true := by kernel_rfl
end Go.Proofs.YtabmciccahfjiaaGreatDoor.ballotRawUpto
