/- 'trustflowlaw27.BallotSeats': the row. -/
import Derived.Test.YtabmciccahfjiaaGreatDoorFinE3
set_option linter.unusedSimpArgs false
set_option linter.unusedVariables false
namespace Go.Proofs.YtabmciccahfjiaaGreatDoor.ballotSeats
open Go Go.ChangeShapes Go.WideShapes Go.ChangeAt Go.RowKit

theorem said : Rows.BallotSeatsSaid :=
  OpenClaim.holds_of_cond 5 Tryz.f5 rfl rfl rfl rfl rfl rfl rfl ⟨rfl, rfl, rfl, rfl, rfl⟩ rfl rfl rfl rfl rfl (by kernel_rfl) Tryz.func5 closed
    (of_decide_eq_true (by kernel_rfl)) (by unfold Func.isWrapper; first | (rw [if_pos (by decide +kernel)]; kernel_rfl) | (rw [if_neg (by decide +kernel)]; exact ⟨rfl, rfl⟩))
    (fun os started H enc _ F => by rw [OpenClaim.pre_eq_preRow]; exact lifted os started H enc F)

end Go.Proofs.YtabmciccahfjiaaGreatDoor.ballotSeats
