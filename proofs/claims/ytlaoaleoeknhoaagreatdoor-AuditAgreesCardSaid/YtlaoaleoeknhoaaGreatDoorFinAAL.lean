/- A closed fact of AuditAgrees's row. -/
import Derived.Test.YtlaoaleoeknhoaaGreatDoorRows
import Derived.ProofKit
set_option linter.unusedSimpArgs false
set_option linter.unusedVariables false
namespace Go.Proofs.YtlaoaleoeknhoaaGreatDoor.auditAgrees
open Go
theorem limb_i:Tryz.prog.inPlace 3=Rows.auditAgreesRow.inPlace:=by kernel_rfl
end Go.Proofs.YtlaoaleoeknhoaaGreatDoor.auditAgrees

/- A closed fact of AuditAgrees's row. -/
namespace Go.Proofs.YtlaoaleoeknhoaaGreatDoor.auditAgrees
open Go
theorem limb_r:Tryz.prog.recurses 3=true:=by kernel_rfl
end Go.Proofs.YtlaoaleoeknhoaaGreatDoor.auditAgrees

/- A closed fact of AuditAgrees's row. -/
namespace Go.Proofs.YtlaoaleoeknhoaaGreatDoor.auditAgrees
open Go
theorem limb_u:Tryz.prog.unfollowed 3=true:=by kernel_rfl
end Go.Proofs.YtlaoaleoeknhoaaGreatDoor.auditAgrees

/- A closed fact of AuditAgrees's row. -/
namespace Go.Proofs.YtlaoaleoeknhoaaGreatDoor.auditAgrees
open Go
theorem limb_v:Tryz.prog.varsNamed 3=Rows.auditAgreesRow.named:=by kernel_rfl
end Go.Proofs.YtlaoaleoeknhoaaGreatDoor.auditAgrees

/- The closed facts of AuditAgrees's row, joined. -/
namespace Go.Proofs.YtlaoaleoeknhoaaGreatDoor.auditAgrees
open Go
theorem closed:joinedFacts Tryz.prog 3 Tryz.f3 (OpenSpec.ofChange Rows.auditAgreesSpec).bare Rows.auditAgreesRow=true:=by
 unfold joinedFacts;rw[limb_i,limb_u,limb_r,limb_v]
 kernel_rfl
end Go.Proofs.YtlaoaleoeknhoaaGreatDoor.auditAgrees
