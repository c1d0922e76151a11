/- A closed fact of SuspensionAppeals's row. -/
import Derived.Test.YteakcpfdfglndaaGreatDoorFinPA1
set_option linter.unusedSimpArgs false
set_option linter.unusedVariables false
namespace Go.Proofs.YteakcpfdfglndaaGreatDoor.suspensionAppeals
open Go
theorem limb_i : Tryz.prog.inPlace 5 = Rows.suspensionAppealsRow.inPlace := by kernel_rfl
end Go.Proofs.YteakcpfdfglndaaGreatDoor.suspensionAppeals

/- A closed fact of SuspensionAppeals's row. -/
namespace Go.Proofs.YteakcpfdfglndaaGreatDoor.suspensionAppeals
open Go
theorem limb_r : Tryz.prog.recurses 5 = true := by kernel_rfl
end Go.Proofs.YteakcpfdfglndaaGreatDoor.suspensionAppeals

/- A closed fact of SuspensionAppeals's row. -/
namespace Go.Proofs.YteakcpfdfglndaaGreatDoor.suspensionAppeals
open Go
theorem limb_u : Tryz.prog.unfollowed 5 = true := by kernel_rfl
end Go.Proofs.YteakcpfdfglndaaGreatDoor.suspensionAppeals

/- A closed fact of SuspensionAppeals's row. -/
namespace Go.Proofs.YteakcpfdfglndaaGreatDoor.suspensionAppeals
open Go
theorem limb_v : Tryz.prog.varsNamed 5 = Rows.suspensionAppealsRow.named := by kernel_rfl
end Go.Proofs.YteakcpfdfglndaaGreatDoor.suspensionAppeals

/- The closed facts of SuspensionAppeals's row, joined. -/
namespace Go.Proofs.YteakcpfdfglndaaGreatDoor.suspensionAppeals
open Go
theorem closed : joinedFacts Tryz.prog 5 Tryz.f5 (OpenSpec.ofChange Rows.suspensionAppealsSpec).bare Rows.suspensionAppealsRow = true := by
 unfold joinedFacts
 rw [limb_i, limb_u, limb_r, limb_v]
 kernel_rfl
end Go.Proofs.YteakcpfdfglndaaGreatDoor.suspensionAppeals
