/- A closed fact of AuditLoss's row. -/
import Derived.Test.YtloaichcpoboeaaGreatDoorFinLA1
set_option linter.unusedSimpArgs false
set_option linter.unusedVariables false
namespace Go.Proofs.YtloaichcpoboeaaGreatDoor.auditLoss
open Go
theorem limb_u:Tryz.prog.unfollowed 3=true:=by kernel_rfl
end Go.Proofs.YtloaichcpoboeaaGreatDoor.auditLoss

/- A closed fact of AuditLoss's row. -/
namespace Go.Proofs.YtloaichcpoboeaaGreatDoor.auditLoss
open Go
theorem limb_v:Tryz.prog.varsNamed 3=Rows.auditLossRow.named:=by kernel_rfl
end Go.Proofs.YtloaichcpoboeaaGreatDoor.auditLoss
