/- A closed fact of AuditBounds's row. -/
import Derived.Test.YtloaichcpoboeaaGreatDoorFinBA1
set_option linter.unusedSimpArgs false
set_option linter.unusedVariables false
namespace Go.Proofs.YtloaichcpoboeaaGreatDoor.auditBounds
open Go
theorem limb_i:Tryz.prog.inPlace 4=Rows.auditBoundsRow.inPlace:=by kernel_rfl
end Go.Proofs.YtloaichcpoboeaaGreatDoor.auditBounds

/- A closed fact of AuditBounds's row. -/
namespace Go.Proofs.YtloaichcpoboeaaGreatDoor.auditBounds
open Go
theorem limb_r:Tryz.prog.recurses 4=true:=by kernel_rfl
end Go.Proofs.YtloaichcpoboeaaGreatDoor.auditBounds

/- A closed fact of AuditBounds's row. -/
namespace Go.Proofs.YtloaichcpoboeaaGreatDoor.auditBounds
open Go
theorem limb_u:Tryz.prog.unfollowed 4=true:=by kernel_rfl
end Go.Proofs.YtloaichcpoboeaaGreatDoor.auditBounds

/- A closed fact of AuditBounds's row. -/
namespace Go.Proofs.YtloaichcpoboeaaGreatDoor.auditBounds
open Go
theorem limb_v:Tryz.prog.varsNamed 4=Rows.auditBoundsRow.named:=by kernel_rfl
end Go.Proofs.YtloaichcpoboeaaGreatDoor.auditBounds

/- The closed facts of AuditBounds's row, joined. -/
namespace Go.Proofs.YtloaichcpoboeaaGreatDoor.auditBounds
open Go
theorem closed:joinedFacts Tryz.prog 4 Tryz.f4 (OpenSpec.ofChange Rows.auditBoundsSpec).bare Rows.auditBoundsRow=true:=by
 unfold joinedFacts;rw[limb_i,limb_u,limb_r,limb_v]
 kernel_rfl
end Go.Proofs.YtloaichcpoboeaaGreatDoor.auditBounds
