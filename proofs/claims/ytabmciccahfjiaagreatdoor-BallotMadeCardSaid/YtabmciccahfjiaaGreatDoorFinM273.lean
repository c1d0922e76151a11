/- The closed facts of BallotMade's row, joined. -/
import Derived.Test.YtabmciccahfjiaaGreatDoorFinM272i
import Derived.Test.YtabmciccahfjiaaGreatDoorFinM272u
import Derived.Test.YtabmciccahfjiaaGreatDoorFinM272r
import Derived.Test.YtabmciccahfjiaaGreatDoorFinM272v
set_option linter.unusedSimpArgs false
set_option linter.unusedVariables false
namespace Go.Proofs.YtabmciccahfjiaaGreatDoor.ballotMade
open Go
theorem closed : joinedFacts Tryz.prog 6 Tryz.f6 (OpenSpec.ofChange Rows.ballotMadeSpec).bare Rows.ballotMadeRow = true := by
  unfold joinedFacts
  rw [limb_i, limb_u, limb_r, limb_v]
  kernel_rfl
end Go.Proofs.YtabmciccahfjiaaGreatDoor.ballotMade
