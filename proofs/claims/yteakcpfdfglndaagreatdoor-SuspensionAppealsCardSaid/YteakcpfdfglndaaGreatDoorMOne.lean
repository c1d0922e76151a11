/- MOne. -/
import Derived.Test.YteakcpfdfglndaaGreatDoorHOne
set_option linter.unusedSimpArgs false
set_option linter.unusedVariables false
namespace Go.Proofs.Am
open Go Go.RowKit
open Go.Proofs
end Go.Proofs.Am

/- The mill's seats and cases are right. -/
namespace Go.Proofs.Am
open Go Go.RowKit
open Go.Proofs
theorem allV_len {seats : List Int} {l : List Stm} {c : Cs} : (allV seats (votesL l c)).length ≤ l.length := by
 have h1 := votes_len l c
 have h2 := (cnI_ok seats (fun y hy => (votes_okX (l := l) (c := c) y hy).1) _ (Nat.le_refl _)).1
 have h3 : (allV seats (votesL l c)).length ≤ (cnR seats (votesL l c)).length := by
  unfold allV
  rw [List.length_map]
  exact List.length_filter_le _ _
 have h4 : cnI seats (votesL l c) (votesL l c).length = cnR seats (votesL l c) := rfl
 rw [h4] at h2
 omega
end Go.Proofs.Am

/- DecisionUnion, walked. -/
namespace Go.Proofs.Am
open Go Go.RowKit
open Go.Proofs
end Go.Proofs.Am
