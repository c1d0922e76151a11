/- B17. -/
import Derived.Test.YtdfieogkeinkmaaGreatDoorB16
set_option linter.unusedSimpArgs false
set_option linter.unusedVariables false
namespace Go.Proofs.Am
open Go Go.RowKit
open Go.Proofs
theorem dkpos_le (l : List Int) (n p : Nat) (hp : p ≤ l.length) : dkpos l n p ≤ l.length := by
  unfold dkpos
  split
  · exact dpos_le (dskip_le l n p hp)
  · exact dskip_le l n p hp
end Go.Proofs.Am
