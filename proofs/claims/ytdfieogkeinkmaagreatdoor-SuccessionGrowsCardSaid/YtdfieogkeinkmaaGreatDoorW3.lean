/- The law SuccessionEnds, walked. -/
import Derived.Test.YtdfieogkeinkmaaGreatDoorWOne
set_option linter.unusedSimpArgs false
set_option linter.unusedVariables false
namespace Go.Proofs.Am
open Go Go.RowKit
open Go.Proofs

/-- The seats that decide first. -/
def seat0 (r : Rl) : List Int := stS r (term0 r)
end Go.Proofs.Am
