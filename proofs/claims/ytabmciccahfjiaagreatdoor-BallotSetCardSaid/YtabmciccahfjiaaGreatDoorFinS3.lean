/- The closed facts of BallotSet's row, joined. -/
import Derived.Test.YtabmciccahfjiaaGreatDoorFinS2i
import Derived.Test.YtabmciccahfjiaaGreatDoorFinS2u
import Derived.Test.YtabmciccahfjiaaGreatDoorFinS2r
import Derived.Test.YtabmciccahfjiaaGreatDoorFinS2v
set_option linter.unusedSimpArgs false
set_option linter.unusedVariables false
namespace Go.Proofs.YtabmciccahfjiaaGreatDoor.ballotSet
open Go
theorem closed : joinedFacts Tryz.prog 4 Tryz.f4 (OpenSpec.ofChange Rows.ballotSetSpec).bare Rows.ballotSetRow = true := by
  unfold joinedFacts
  rw [limb_i, limb_u, limb_r, limb_v]
  kernel_rfl
end Go.Proofs.YtabmciccahfjiaaGreatDoor.ballotSet
