/- DEight. -/
import Derived.Test.YteakcpfdfglndaaGreatDoorLOne
set_option linter.unusedSimpArgs false
set_option linter.unusedVariables false
namespace Go.Proofs.Am
open Go Go.RowKit
open Go.Proofs
def V1 : List Vt := [⟨1, cA, yesA⟩, ⟨2, cA, noA⟩, ⟨2, cA, yesA⟩]
theorem stmt_okB (k nu ti : Int) (d : Drf) (hd : okDr d) : okS (stmt k nu ti d) := by
 obtain ⟨h1, h2⟩ := hd
 have hxp := flat_ge d.pins
 have hp : (if 0 < nu then List.replicate 32 (0 : UInt8) else []).length ≤ 32 := by split <;> simp
 show okS (sealS _)
 simp only [sealS, okS, stB, pre2, pre1, hdB, List.length_append, beL_len, be8_len, txB_len, l5, List.length_cons, List.length_nil]
 omega
end Go.Proofs.Am

/- BallotRaw, walked. -/
namespace Go.Proofs.Am
open Go Go.RowKit
open Go.Proofs
end Go.Proofs.Am
