/- A closed fact of SuccessionEnds's row. -/
import Derived.Test.YtdfieogkeinkmaaGreatDoorFinTE1
set_option linter.unusedSimpArgs false
set_option linter.unusedVariables false
namespace Go.Proofs.YtdfieogkeinkmaaGreatDoor.successionEnds
open Go
theorem limb_i : Tryz.prog.inPlace 7 = Rows.successionEndsRow.inPlace := by kernel_rfl
end Go.Proofs.YtdfieogkeinkmaaGreatDoor.successionEnds

/- A closed fact of SuccessionEnds's row. -/
namespace Go.Proofs.YtdfieogkeinkmaaGreatDoor.successionEnds
open Go
theorem limb_r : Tryz.prog.recurses 7 = true := by kernel_rfl
end Go.Proofs.YtdfieogkeinkmaaGreatDoor.successionEnds

/- A closed fact of SuccessionEnds's row. -/
namespace Go.Proofs.YtdfieogkeinkmaaGreatDoor.successionEnds
open Go
theorem limb_u : Tryz.prog.unfollowed 7 = true := by kernel_rfl
end Go.Proofs.YtdfieogkeinkmaaGreatDoor.successionEnds

/- A closed fact of SuccessionEnds's row. -/
namespace Go.Proofs.YtdfieogkeinkmaaGreatDoor.successionEnds
open Go
theorem limb_v : Tryz.prog.varsNamed 7 = Rows.successionEndsRow.named := by kernel_rfl
end Go.Proofs.YtdfieogkeinkmaaGreatDoor.successionEnds

/- The closed facts of SuccessionEnds's row, joined. -/
namespace Go.Proofs.YtdfieogkeinkmaaGreatDoor.successionEnds
open Go
theorem closed : joinedFacts Tryz.prog 7 Tryz.f7 (OpenSpec.ofChange Rows.successionEndsSpec).bare Rows.successionEndsRow = true := by
  unfold joinedFacts
  rw [limb_i, limb_u, limb_r, limb_v]
  kernel_rfl
end Go.Proofs.YtdfieogkeinkmaaGreatDoor.successionEnds
