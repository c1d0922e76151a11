/- A closed fact of SuccessionGrows's row. -/
import Derived.Test.YtdfieogkeinkmaaGreatDoorFinTG1
set_option linter.unusedSimpArgs false
set_option linter.unusedVariables false
namespace Go.Proofs.YtdfieogkeinkmaaGreatDoor.successionGrows
open Go
theorem limb_i : Tryz.prog.inPlace 4 = Rows.successionGrowsRow.inPlace := by kernel_rfl
end Go.Proofs.YtdfieogkeinkmaaGreatDoor.successionGrows

/- A closed fact of SuccessionGrows's row. -/
namespace Go.Proofs.YtdfieogkeinkmaaGreatDoor.successionGrows
open Go
theorem limb_r : Tryz.prog.recurses 4 = true := by kernel_rfl
end Go.Proofs.YtdfieogkeinkmaaGreatDoor.successionGrows

/- A closed fact of SuccessionGrows's row. -/
namespace Go.Proofs.YtdfieogkeinkmaaGreatDoor.successionGrows
open Go
theorem limb_u : Tryz.prog.unfollowed 4 = true := by kernel_rfl
end Go.Proofs.YtdfieogkeinkmaaGreatDoor.successionGrows

/- A closed fact of SuccessionGrows's row. -/
namespace Go.Proofs.YtdfieogkeinkmaaGreatDoor.successionGrows
open Go
theorem limb_v : Tryz.prog.varsNamed 4 = Rows.successionGrowsRow.named := by kernel_rfl
end Go.Proofs.YtdfieogkeinkmaaGreatDoor.successionGrows

/- The closed facts of SuccessionGrows's row, joined. -/
namespace Go.Proofs.YtdfieogkeinkmaaGreatDoor.successionGrows
open Go
theorem closed : joinedFacts Tryz.prog 4 Tryz.f4 (OpenSpec.ofChange Rows.successionGrowsSpec).bare Rows.successionGrowsRow = true := by
  unfold joinedFacts
  rw [limb_i, limb_u, limb_r, limb_v]
  kernel_rfl
end Go.Proofs.YtdfieogkeinkmaaGreatDoor.successionGrows
