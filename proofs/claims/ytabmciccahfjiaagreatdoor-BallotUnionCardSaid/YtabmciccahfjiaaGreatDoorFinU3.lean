/- The closed facts of BallotUnion's row, joined. -/
import Derived.Test.YtabmciccahfjiaaGreatDoorFinU2i
import Derived.Test.YtabmciccahfjiaaGreatDoorFinU2u
import Derived.Test.YtabmciccahfjiaaGreatDoorFinU2r
import Derived.Test.YtabmciccahfjiaaGreatDoorFinU2v
set_option linter.unusedSimpArgs false
set_option linter.unusedVariables false
namespace Go.Proofs.YtabmciccahfjiaaGreatDoor.ballotUnion
open Go
theorem closed : joinedFacts Tryz.prog 7 Tryz.f7 (OpenSpec.ofChange Rows.ballotUnionSpec).bare Rows.ballotUnionRow = true := by
  unfold joinedFacts
  rw [limb_i, limb_u, limb_r, limb_v]
  kernel_rfl
end Go.Proofs.YtabmciccahfjiaaGreatDoor.ballotUnion
