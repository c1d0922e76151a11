/- A closed fact of SuspensionMade's row. -/
import Derived.Test.YteakcpfdfglndaaGreatDoorFinPM1
set_option linter.unusedSimpArgs false
set_option linter.unusedVariables false
namespace Go.Proofs.YteakcpfdfglndaaGreatDoor.suspensionMade
open Go
theorem limb_i:Tryz.prog.inPlace 3=Rows.suspensionMadeRow.inPlace:=by kernel_rfl
end Go.Proofs.YteakcpfdfglndaaGreatDoor.suspensionMade

/- A closed fact of SuspensionMade's row. -/
namespace Go.Proofs.YteakcpfdfglndaaGreatDoor.suspensionMade
open Go
theorem limb_r:Tryz.prog.recurses 3=true:=by kernel_rfl
end Go.Proofs.YteakcpfdfglndaaGreatDoor.suspensionMade

/- A closed fact of SuspensionMade's row. -/
namespace Go.Proofs.YteakcpfdfglndaaGreatDoor.suspensionMade
open Go
theorem limb_u:Tryz.prog.unfollowed 3=true:=by kernel_rfl
end Go.Proofs.YteakcpfdfglndaaGreatDoor.suspensionMade

/- A closed fact of SuspensionMade's row. -/
namespace Go.Proofs.YteakcpfdfglndaaGreatDoor.suspensionMade
open Go
theorem limb_v:Tryz.prog.varsNamed 3=Rows.suspensionMadeRow.named:=by kernel_rfl
end Go.Proofs.YteakcpfdfglndaaGreatDoor.suspensionMade

/- The closed facts of SuspensionMade's row, joined. -/
namespace Go.Proofs.YteakcpfdfglndaaGreatDoor.suspensionMade
open Go
theorem closed:joinedFacts Tryz.prog 3 Tryz.f3 (OpenSpec.ofChange Rows.suspensionMadeSpec).bare Rows.suspensionMadeRow=true:=by
 unfold joinedFacts
 rw[limb_i,limb_u,limb_r,limb_v]
 kernel_rfl
end Go.Proofs.YteakcpfdfglndaaGreatDoor.suspensionMade
