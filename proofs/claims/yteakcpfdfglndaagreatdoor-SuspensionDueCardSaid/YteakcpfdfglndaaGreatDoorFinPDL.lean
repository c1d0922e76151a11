/- A closed fact of SuspensionDue's row. -/
import Derived.Test.YteakcpfdfglndaaGreatDoorFinPD1
set_option linter.unusedSimpArgs false
set_option linter.unusedVariables false
namespace Go.Proofs.YteakcpfdfglndaaGreatDoor.suspensionDue
open Go
theorem limb_i:Tryz.prog.inPlace 6=Rows.suspensionDueRow.inPlace:=by kernel_rfl
end Go.Proofs.YteakcpfdfglndaaGreatDoor.suspensionDue

/- A closed fact of SuspensionDue's row. -/
namespace Go.Proofs.YteakcpfdfglndaaGreatDoor.suspensionDue
open Go
theorem limb_r:Tryz.prog.recurses 6=true:=by kernel_rfl
end Go.Proofs.YteakcpfdfglndaaGreatDoor.suspensionDue

/- A closed fact of SuspensionDue's row. -/
namespace Go.Proofs.YteakcpfdfglndaaGreatDoor.suspensionDue
open Go
theorem limb_u:Tryz.prog.unfollowed 6=true:=by kernel_rfl
end Go.Proofs.YteakcpfdfglndaaGreatDoor.suspensionDue

/- A closed fact of SuspensionDue's row. -/
namespace Go.Proofs.YteakcpfdfglndaaGreatDoor.suspensionDue
open Go
theorem limb_v:Tryz.prog.varsNamed 6=Rows.suspensionDueRow.named:=by kernel_rfl
end Go.Proofs.YteakcpfdfglndaaGreatDoor.suspensionDue

/- The closed facts of SuspensionDue's row, joined. -/
namespace Go.Proofs.YteakcpfdfglndaaGreatDoor.suspensionDue
open Go
theorem closed:joinedFacts Tryz.prog 6 Tryz.f6 (OpenSpec.ofChange Rows.suspensionDueSpec).bare Rows.suspensionDueRow=true:=by
 unfold joinedFacts
 rw[limb_i,limb_u,limb_r,limb_v]
 kernel_rfl
end Go.Proofs.YteakcpfdfglndaaGreatDoor.suspensionDue
