/- B16. -/
import Derived.Test.YtdfieogkeinkmaaGreatDoorDFour
set_option linter.unusedSimpArgs false
set_option linter.unusedVariables false
namespace Go.Proofs.Am
open Go Go.RowKit
open Go.Proofs
def want (appl ref order : List Int) : List Int := order.filter fun k => decide (k ∈ appl) && !decide (k ∈ ref)
end Go.Proofs.Am
