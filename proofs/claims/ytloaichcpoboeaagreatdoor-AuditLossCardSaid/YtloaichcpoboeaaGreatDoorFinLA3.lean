/- The closed facts of AuditLoss's row, joined. -/
import Derived.Test.YtloaichcpoboeaaGreatDoorFinLAL
import Derived.Test.YtloaichcpoboeaaGreatDoorFinLAM
set_option linter.unusedSimpArgs false
set_option linter.unusedVariables false
namespace Go.Proofs.YtloaichcpoboeaaGreatDoor.auditLoss
open Go
theorem closed:joinedFacts Tryz.prog 3 Tryz.f3 (OpenSpec.ofChange Rows.auditLossSpec).bare Rows.auditLossRow=true:=by
 unfold joinedFacts
 rw[limb_i,limb_u,limb_r,limb_v]
 kernel_rfl
end Go.Proofs.YtloaichcpoboeaaGreatDoor.auditLoss
