/- UFour. -/
import Derived.Test.YtdodifpogaoioaaGreatVTwo
import Derived.Test.YtdodifpogaoioaaGreatC9
import Derived.Test.YtdodifpogaoioaaGreatEOne
import Derived.Test.YtdodifpogaoioaaGreatUOne
set_option linter.unusedSimpArgs false
set_option linter.unusedVariables false
namespace Go.Proofs.Am
open Go Go.RowKit
open Go.Proofs
def sec1 (c : Cs) : Cs := { c with ro := 1 }
def secX (r : Rl) (L : List Stm) (t : Tm) (c : Cs) : Ct × Bool :=
 if askedB L t c = true ∧ (decG r L t (sec1 c)).2.2 = 0 then ((decG r L t (sec1 c)).1, (decG r L t (sec1 c)).2.1) else (noC, false)
def outX (r : Rl) (L : List Stm) (t : Tm) (c : Cs) : Ct × Bool × Int :=
 if caseV c = true ∧ c.ro = 0 then
  if (decG r L t c).2.2 ≠ 0 then (noC, false, (decG r L t c).2.2)
  else if (secX r L t c).2 = true then ((secX r L t c).1, true, 0) else ((decG r L t c).1, (decG r L t c).2.1, 0)
 else (noC, false, 41)
def setX (r : Rl) (L : List Stm) (t : Tm) (c : Cs) : Bool × Int :=
 if (outX r L t c).2.2 ≠ 0 then (false, (outX r L t c).2.2) else if c.kd = 1 then ((outX r L t c).2.1, 0) else ((secX r L t c).2, 0)
theorem openB_iff {c : Cs} : openB c = true ↔ caseV c = true ∧ c.ro = 0 ∧ c.kd ≠ 1 := by
 simp [openB, and_assoc]
theorem closed_law {r : Rl} {L : List Stm} {t : Tm} {c : Cs} (hc : caseV c = true) (hro : c.ro = 0) (hk : c.kd = 1) : askedB L t c = false ∧ secX r L t c = (noC, false) ∧ outX r L t c = (if (decG r L t c).2.2 ≠ 0 then (noC, false, (decG r L t c).2.2) else decG r L t c) := by
 have ha : askedB L t c = false := by
  unfold askedB openB
  simp [hk]
 have hs : secX r L t c = (noC, false) := by
  unfold secX
  rw [if_neg (by simp [ha])]
 refine ⟨ha, hs, ?_⟩
 unfold outX
 rw [if_pos ⟨hc, hro⟩, hs]
 split
 ·rfl
 ·rename_i h
  have h : (decG r L t c).2.2 = 0 := by simpa using h
  rw [if_neg (by simp)]
  rw [← h]
end Go.Proofs.Am

/- Keys about which committees have said yes: plain laws. -/
namespace Go.Proofs.Am
open Go Go.RowKit
open Go.Proofs
end Go.Proofs.Am

/- A case whose committees all vote: the law AdmissionRefused, in plain. -/
namespace Go.Proofs.Am
open Go Go.RowKit
open Go.Proofs
end Go.Proofs.Am

/- Who is suspended, and who is due: plain laws. -/
namespace Go.Proofs.Am
open Go Go.RowKit
open Go.Proofs
end Go.Proofs.Am

/- Who is refused where all seats vote on one key: plain laws. -/
namespace Go.Proofs.Am
open Go Go.RowKit
open Go.Proofs
end Go.Proofs.Am
