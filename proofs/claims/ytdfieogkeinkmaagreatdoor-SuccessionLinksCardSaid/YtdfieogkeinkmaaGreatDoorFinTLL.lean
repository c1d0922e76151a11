/- A closed fact of SuccessionLinks's row. -/
import Derived.Test.YtdfieogkeinkmaaGreatDoorFinTL1
set_option linter.unusedSimpArgs false
set_option linter.unusedVariables false
namespace Go.Proofs.YtdfieogkeinkmaaGreatDoor.successionLinks
open Go
theorem limb_i : Tryz.prog.inPlace 5 = Rows.successionLinksRow.inPlace := by kernel_rfl
end Go.Proofs.YtdfieogkeinkmaaGreatDoor.successionLinks

/- A closed fact of SuccessionLinks's row. -/
namespace Go.Proofs.YtdfieogkeinkmaaGreatDoor.successionLinks
open Go
theorem limb_r : Tryz.prog.recurses 5 = true := by kernel_rfl
end Go.Proofs.YtdfieogkeinkmaaGreatDoor.successionLinks

/- A closed fact of SuccessionLinks's row. -/
namespace Go.Proofs.YtdfieogkeinkmaaGreatDoor.successionLinks
open Go
theorem limb_u : Tryz.prog.unfollowed 5 = true := by kernel_rfl
end Go.Proofs.YtdfieogkeinkmaaGreatDoor.successionLinks

/- A closed fact of SuccessionLinks's row. -/
namespace Go.Proofs.YtdfieogkeinkmaaGreatDoor.successionLinks
open Go
theorem limb_v : Tryz.prog.varsNamed 5 = Rows.successionLinksRow.named := by kernel_rfl
end Go.Proofs.YtdfieogkeinkmaaGreatDoor.successionLinks

/- The closed facts of SuccessionLinks's row, joined. -/
namespace Go.Proofs.YtdfieogkeinkmaaGreatDoor.successionLinks
open Go
theorem closed : joinedFacts Tryz.prog 5 Tryz.f5 (OpenSpec.ofChange Rows.successionLinksSpec).bare Rows.successionLinksRow = true := by
  unfold joinedFacts
  rw [limb_i, limb_u, limb_r, limb_v]
  kernel_rfl
end Go.Proofs.YtdfieogkeinkmaaGreatDoor.successionLinks
