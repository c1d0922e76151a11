/- A closed fact of SuccessionMade's row. -/
import Derived.Test.YthidogjdclkoeaaGreatDoorFinTX1
set_option linter.unusedSimpArgs false
set_option linter.unusedVariables false
namespace Go.Proofs.YthidogjdclkoeaaGreatDoor.successionMade
open Go
theorem limb_i:Tryz.prog.inPlace 3=Rows.successionMadeRow.inPlace:=by kernel_rfl
end Go.Proofs.YthidogjdclkoeaaGreatDoor.successionMade

/- A closed fact of SuccessionMade's row. -/
namespace Go.Proofs.YthidogjdclkoeaaGreatDoor.successionMade
open Go
theorem limb_r:Tryz.prog.recurses 3=true:=by kernel_rfl
end Go.Proofs.YthidogjdclkoeaaGreatDoor.successionMade

/- A closed fact of SuccessionMade's row. -/
namespace Go.Proofs.YthidogjdclkoeaaGreatDoor.successionMade
open Go
theorem limb_u:Tryz.prog.unfollowed 3=true:=by kernel_rfl
end Go.Proofs.YthidogjdclkoeaaGreatDoor.successionMade

/- A closed fact of SuccessionMade's row. -/
namespace Go.Proofs.YthidogjdclkoeaaGreatDoor.successionMade
open Go
theorem limb_v:Tryz.prog.varsNamed 3=Rows.successionMadeRow.named:=by kernel_rfl
end Go.Proofs.YthidogjdclkoeaaGreatDoor.successionMade

/- The closed facts of SuccessionMade's row, joined. -/
namespace Go.Proofs.YthidogjdclkoeaaGreatDoor.successionMade
open Go
theorem closed:joinedFacts Tryz.prog 3 Tryz.f3 (OpenSpec.ofChange Rows.successionMadeSpec).bare Rows.successionMadeRow=true:=by
 unfold joinedFacts;rw[limb_i,limb_u,limb_r,limb_v]
 kernel_rfl
end Go.Proofs.YthidogjdclkoeaaGreatDoor.successionMade
