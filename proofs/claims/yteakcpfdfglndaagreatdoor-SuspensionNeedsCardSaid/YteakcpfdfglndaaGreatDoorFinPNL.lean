/- A closed fact of SuspensionNeeds's row. -/
import Derived.Test.YteakcpfdfglndaaGreatDoorFinPN1
set_option linter.unusedSimpArgs false
set_option linter.unusedVariables false
namespace Go.Proofs.YteakcpfdfglndaaGreatDoor.suspensionNeeds
open Go
theorem limb_i:Tryz.prog.inPlace 4=Rows.suspensionNeedsRow.inPlace:=by kernel_rfl
end Go.Proofs.YteakcpfdfglndaaGreatDoor.suspensionNeeds

/- A closed fact of SuspensionNeeds's row. -/
namespace Go.Proofs.YteakcpfdfglndaaGreatDoor.suspensionNeeds
open Go
theorem limb_r:Tryz.prog.recurses 4=true:=by kernel_rfl
end Go.Proofs.YteakcpfdfglndaaGreatDoor.suspensionNeeds

/- A closed fact of SuspensionNeeds's row. -/
namespace Go.Proofs.YteakcpfdfglndaaGreatDoor.suspensionNeeds
open Go
theorem limb_u:Tryz.prog.unfollowed 4=true:=by kernel_rfl
end Go.Proofs.YteakcpfdfglndaaGreatDoor.suspensionNeeds

/- A closed fact of SuspensionNeeds's row. -/
namespace Go.Proofs.YteakcpfdfglndaaGreatDoor.suspensionNeeds
open Go
theorem limb_v:Tryz.prog.varsNamed 4=Rows.suspensionNeedsRow.named:=by kernel_rfl
end Go.Proofs.YteakcpfdfglndaaGreatDoor.suspensionNeeds

/- The closed facts of SuspensionNeeds's row, joined. -/
namespace Go.Proofs.YteakcpfdfglndaaGreatDoor.suspensionNeeds
open Go
theorem closed:joinedFacts Tryz.prog 4 Tryz.f4 (OpenSpec.ofChange Rows.suspensionNeedsSpec).bare Rows.suspensionNeedsRow=true:=by
 unfold joinedFacts
 rw[limb_i,limb_u,limb_r,limb_v]
 kernel_rfl
end Go.Proofs.YteakcpfdfglndaaGreatDoor.suspensionNeeds
