/- A closed fact of AuditLossGrows's row. -/
import Derived.Test.YtloaichcpoboeaaGreatDoorFinGA1
set_option linter.unusedSimpArgs false
set_option linter.unusedVariables false
namespace Go.Proofs.YtloaichcpoboeaaGreatDoor.auditLossGrows
open Go
theorem limb_i:Tryz.prog.inPlace 5=Rows.auditLossGrowsRow.inPlace:=by kernel_rfl
end Go.Proofs.YtloaichcpoboeaaGreatDoor.auditLossGrows

/- A closed fact of AuditLossGrows's row. -/
namespace Go.Proofs.YtloaichcpoboeaaGreatDoor.auditLossGrows
open Go
theorem limb_r:Tryz.prog.recurses 5=true:=by kernel_rfl
end Go.Proofs.YtloaichcpoboeaaGreatDoor.auditLossGrows

/- A closed fact of AuditLossGrows's row. -/
namespace Go.Proofs.YtloaichcpoboeaaGreatDoor.auditLossGrows
open Go
theorem limb_u:Tryz.prog.unfollowed 5=true:=by kernel_rfl
end Go.Proofs.YtloaichcpoboeaaGreatDoor.auditLossGrows

/- A closed fact of AuditLossGrows's row. -/
namespace Go.Proofs.YtloaichcpoboeaaGreatDoor.auditLossGrows
open Go
theorem limb_v:Tryz.prog.varsNamed 5=Rows.auditLossGrowsRow.named:=by kernel_rfl
end Go.Proofs.YtloaichcpoboeaaGreatDoor.auditLossGrows

/- The closed facts of AuditLossGrows's row, joined. -/
namespace Go.Proofs.YtloaichcpoboeaaGreatDoor.auditLossGrows
open Go
theorem closed:joinedFacts Tryz.prog 5 Tryz.f5 (OpenSpec.ofChange Rows.auditLossGrowsSpec).bare Rows.auditLossGrowsRow=true:=by
 unfold joinedFacts
 rw[limb_i,limb_u,limb_r,limb_v]
 kernel_rfl
end Go.Proofs.YtloaichcpoboeaaGreatDoor.auditLossGrows
