/- MOne. -/
import Derived.Test.YtdfieogkeinkmaaGreatDoorHOne
set_option linter.unusedSimpArgs false
set_option linter.unusedVariables false
namespace Go.Proofs.Am
open Go Go.RowKit
open Go.Proofs
end Go.Proofs.Am

/- The mill's seats and cases are right. -/
namespace Go.Proofs.Am
open Go Go.RowKit
open Go.Proofs
theorem mcase_ok (l : List Int) (p : Nat) {ep : Int} (h : 0 ≤ ep ∧ ep < 40) : caseV (mcase l p ep).1 = true := by
  have b1 := dnext_lt (l := l) (p := p) (n := 3) (by omega)
  have b2 := dnext_lt (l := l) (p := dgo l p 1) (n := 7) (by omega)
  have b3 := dnext_lt (l := l) (p := dgo l p 2) (n := 2) (by omega)
  unfold mcase caseV
  split
  · refine decide_eq_true ?_
    simp only
    refine ⟨h.1, h.2, by omega, by omega, by omega, by omega, ?_⟩
    have : dnext l p 3 ≠ 0 := by assumption
    omega
  · exact decide_eq_true ⟨h.1, h.2, by simp, by simp, by simp, by simp, .inl ⟨rfl, rfl, rfl⟩⟩
theorem allV_len {seats : List Int} {l : List Stm} {c : Cs} : (allV seats (votesL l c)).length ≤ l.length := by
  have h1 := votes_len l c
  have h2 := (cnI_ok seats (fun y hy => (votes_okX (l := l) (c := c) y hy).1) _ (Nat.le_refl _)).1
  have h3 : (allV seats (votesL l c)).length ≤ (cnR seats (votesL l c)).length := by
    unfold allV
    rw [List.length_map]
    exact List.length_filter_le _ _
  have h4 : cnI seats (votesL l c) (votesL l c).length = cnR seats (votesL l c) := rfl
  rw [h4] at h2
  omega
end Go.Proofs.Am

/- DecisionUnion, walked. -/
namespace Go.Proofs.Am
open Go Go.RowKit
open Go.Proofs
end Go.Proofs.Am
