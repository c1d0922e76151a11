/- BThree. -/
import Derived.Test.YtdodifpogaoioaaGreatDFour
set_option linter.unusedSimpArgs false
set_option linter.unusedVariables false
namespace Go.Proofs.Am
open Go Go.RowKit
open Go.Proofs
def want (appl ref order : List Int) : List Int := order.filter fun k => decide (k ∈ appl) && !decide (k ∈ ref)
theorem want_take {appl ref order : List Int} {i : Nat} (h : i < order.length) : want appl ref (order.take (i + 1)) = want appl ref (order.take i) ++ (if decide (el order i ∈ appl) && !decide (el order i ∈ ref) then [el order i] else []) := by
 rw [take_el h, want, List.filter_append, List.filter_cons, List.filter_nil]
 rfl
end Go.Proofs.Am

/- Drafts of honest members. -/
namespace Go.Proofs.Am
open Go Go.RowKit
open Go.Proofs
end Go.Proofs.Am
