/- The closed facts of BallotRaw's row, joined. -/
import Derived.Test.YtabmciccahfjiaaGreatDoorFinB2i
import Derived.Test.YtabmciccahfjiaaGreatDoorFinB2u
import Derived.Test.YtabmciccahfjiaaGreatDoorFinB2r
import Derived.Test.YtabmciccahfjiaaGreatDoorFinB2v
set_option linter.unusedSimpArgs false
set_option linter.unusedVariables false
namespace Go.Proofs.YtabmciccahfjiaaGreatDoor.ballotRawUpto
open Go
theorem closed : joinedFacts Tryz.prog 3 Tryz.f3 (Rows.OpenSpec.upto Rows.ballotRawSpec).bare Rows.ballotRawUptoRow = true := by
  unfold joinedFacts
  rw [limb_i, limb_u, limb_r, limb_v]
  kernel_rfl
end Go.Proofs.YtabmciccahfjiaaGreatDoor.ballotRawUpto
