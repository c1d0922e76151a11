/- A closed fact of SuccessionSeats's row. -/
import Derived.Test.YtdfieogkeinkmaaGreatDoorFinTS1
set_option linter.unusedSimpArgs false
set_option linter.unusedVariables false
namespace Go.Proofs.YtdfieogkeinkmaaGreatDoor.successionSeats
open Go
theorem limb_i : Tryz.prog.inPlace 6 = Rows.successionSeatsRow.inPlace := by kernel_rfl
end Go.Proofs.YtdfieogkeinkmaaGreatDoor.successionSeats

/- A closed fact of SuccessionSeats's row. -/
namespace Go.Proofs.YtdfieogkeinkmaaGreatDoor.successionSeats
open Go
theorem limb_r : Tryz.prog.recurses 6 = true := by kernel_rfl
end Go.Proofs.YtdfieogkeinkmaaGreatDoor.successionSeats

/- A closed fact of SuccessionSeats's row. -/
namespace Go.Proofs.YtdfieogkeinkmaaGreatDoor.successionSeats
open Go
theorem limb_u : Tryz.prog.unfollowed 6 = true := by kernel_rfl
end Go.Proofs.YtdfieogkeinkmaaGreatDoor.successionSeats

/- A closed fact of SuccessionSeats's row. -/
namespace Go.Proofs.YtdfieogkeinkmaaGreatDoor.successionSeats
open Go
theorem limb_v : Tryz.prog.varsNamed 6 = Rows.successionSeatsRow.named := by kernel_rfl
end Go.Proofs.YtdfieogkeinkmaaGreatDoor.successionSeats

/- The closed facts of SuccessionSeats's row, joined. -/
namespace Go.Proofs.YtdfieogkeinkmaaGreatDoor.successionSeats
open Go
theorem closed : joinedFacts Tryz.prog 6 Tryz.f6 (OpenSpec.ofChange Rows.successionSeatsSpec).bare Rows.successionSeatsRow = true := by
  unfold joinedFacts
  rw [limb_i, limb_u, limb_r, limb_v]
  kernel_rfl
end Go.Proofs.YtdfieogkeinkmaaGreatDoor.successionSeats
