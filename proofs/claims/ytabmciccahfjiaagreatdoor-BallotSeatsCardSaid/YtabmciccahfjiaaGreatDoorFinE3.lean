/- The closed facts of BallotSeats's row, joined. -/
import Derived.Test.YtabmciccahfjiaaGreatDoorFinE2i
import Derived.Test.YtabmciccahfjiaaGreatDoorFinE2u
import Derived.Test.YtabmciccahfjiaaGreatDoorFinE2r
import Derived.Test.YtabmciccahfjiaaGreatDoorFinE2v
set_option linter.unusedSimpArgs false
set_option linter.unusedVariables false
namespace Go.Proofs.YtabmciccahfjiaaGreatDoor.ballotSeats
open Go
theorem closed : joinedFacts Tryz.prog 5 Tryz.f5 (OpenSpec.ofChange Rows.ballotSeatsSpec).bare Rows.ballotSeatsRow = true := by
  unfold joinedFacts
  rw [limb_i, limb_u, limb_r, limb_v]
  kernel_rfl
end Go.Proofs.YtabmciccahfjiaaGreatDoor.ballotSeats
