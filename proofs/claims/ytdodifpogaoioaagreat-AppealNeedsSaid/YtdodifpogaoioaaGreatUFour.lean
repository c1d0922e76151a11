/- UFour. -/
import Derived.Test.YtdodifpogaoioaaGreatVTwo
import Derived.Test.YtdodifpogaoioaaGreatC9
import Derived.Test.YtdodifpogaoioaaGreatEOne
import Derived.Test.YtdodifpogaoioaaGreatUOne
set_option linter.unusedSimpArgs false
set_option linter.unusedVariables false
namespace Go.Proofs.Am
open Go Go.RowKit
open Go.Proofs
def sec1 (c : Cs) : Cs := { c with ro := 1 }
def secX (r : Rl) (L : List Stm) (t : Tm) (c : Cs) : Ct × Bool :=
 if askedB L t c = true ∧ (decG r L t (sec1 c)).2.2 = 0 then ((decG r L t (sec1 c)).1, (decG r L t (sec1 c)).2.1) else (noC, false)
def outX (r : Rl) (L : List Stm) (t : Tm) (c : Cs) : Ct × Bool × Int :=
 if caseV c = true ∧ c.ro = 0 then
  if (decG r L t c).2.2 ≠ 0 then (noC, false, (decG r L t c).2.2)
  else if (secX r L t c).2 = true then ((secX r L t c).1, true, 0) else ((decG r L t c).1, (decG r L t c).2.1, 0)
 else (noC, false, 41)
def setX (r : Rl) (L : List Stm) (t : Tm) (c : Cs) : Bool × Int :=
 if (outX r L t c).2.2 ≠ 0 then (false, (outX r L t c).2.2) else if c.kd = 1 then ((outX r L t c).2.1, 0) else ((secX r L t c).2, 0)
theorem openB_iff {c : Cs} : openB c = true ↔ caseV c = true ∧ c.ro = 0 ∧ c.kd ≠ 1 := by
 simp [openB, and_assoc]
theorem sec1_ok {c : Cs} (h : openB c = true) : caseV (sec1 c) = true := by
 obtain ⟨h1, h2, h3⟩ := openB_iff.1 h
 have := of_decide_eq_true h1
 refine caseV_t ⟨this.1, this.2.1, this.2.2.1, this.2.2.2.1, by simp [sec1], by simp [sec1], ?_⟩
 have h4 := this.2.2.2.2.2.2
 show c.kd = 1 ∧ c.su = 0 ∧ (1 : Int) = 0 ∨ c.kd = 2 ∨ c.kd = 3
 omega
theorem decG_ok {r : Rl} {L : List Stm} {t : Tm} {c : Cs} (hr : ruleE r = 0) (ht : OkT t) (hc : caseV c = true) (he : c.ep = t.ep) :
  ((seatsG r t c).2 = 0 ∧ ckS c (seatsG r t c).1 = 0 ∧ decG r L t c = (oneC (decA L c (seatsG r t c).1), decide ((decA L c (seatsG r t c).1).length = 1), 0)) ∨
  ((seatsG r t c).2 = 44 ∧ decG r L t c = (noC, false, 44)) := by
 obtain ⟨h1, _, _, h4⟩ := seatsR_any hr ht hc he
 rw [← seatsG_32 ht.bea] at h1 h4
 rcases h1 with h1 | h1
 ·refine .inl ⟨h1, h4 h1, ?_⟩
  unfold decG
  rw [if_neg (by simp [h1]), h4 h1]
 ·refine .inr ⟨h1, ?_⟩
  unfold decG
  rw [if_pos (by simp [h1]), h1]
theorem seatsG_zero {r : Rl} {t : Tm} {c : Cs} (hr : ruleE r = 0) (ht : OkT t) (hc : caseV c = true) (he : c.ep = t.ep) (h0 : c.ro = 0) : (seatsG r t c).2 = 0 := by
 rw [seatsG_32 ht.bea, seatsR0 hr ht hc he h0]
theorem closed_law {r : Rl} {L : List Stm} {t : Tm} {c : Cs} (hc : caseV c = true) (hro : c.ro = 0) (hk : c.kd = 1) : askedB L t c = false ∧ secX r L t c = (noC, false) ∧ outX r L t c = (if (decG r L t c).2.2 ≠ 0 then (noC, false, (decG r L t c).2.2) else decG r L t c) := by
 have ha : askedB L t c = false := by
  unfold askedB openB
  simp [hk]
 have hs : secX r L t c = (noC, false) := by
  unfold secX
  rw [if_neg (by simp [ha])]
 refine ⟨ha, hs, ?_⟩
 unfold outX
 rw [if_pos ⟨hc, hro⟩, hs]
 split
 ·rfl
 ·rename_i h
  have h : (decG r L t c).2.2 = 0 := by simpa using h
  rw [if_neg (by simp)]
  rw [← h]
theorem unasked_law {r : Rl} {L : List Stm} {t : Tm} {c : Cs} (hc : caseV c = true) (hro : c.ro = 0) (ha : askedB L t c = false) : secX r L t c = (noC, false) ∧ outX r L t c = (if (decG r L t c).2.2 ≠ 0 then (noC, false, (decG r L t c).2.2) else decG r L t c) := by
 have hs : secX r L t c = (noC, false) := by
  unfold secX
  rw [if_neg (by simp [ha])]
 refine ⟨hs, ?_⟩
 unfold outX
 rw [if_pos ⟨hc, hro⟩, hs]
 split
 ·rfl
 ·rename_i h
  have h : (decG r L t c).2.2 = 0 := by simpa using h
  rw [if_neg (by simp)]
  rw [← h]
theorem rounds_law {r : Rl} {t : Tm} {c : Cs} (hr : ruleE r = 0) (ht : OkT t) (ho : openB c = true) (he : c.ep = t.ep) : ∀ k ∈ (seatsG r t (sec1 c)).1, k ∉ (seatsG r t c).1 := fun k hk hk2 => by
 obtain ⟨hc, hro, hkd⟩ := openB_iff.1 ho
 rw [seatsG_32 ht.bea, seatsR0 hr ht hc he hro] at hk2
 rw [seatsG_32 ht.bea] at hk
 unfold seatsR at hk
 rw [if_neg (by simpa [sec1] using he), ofR_eq, if_neg (by simp [hr]), if_neg (by simp [ht.ros]), if_neg (by simp [sec1_ok ho]), if_neg (by simp [sec1])] at hk
 split at hk
 ·simp at hk
 ·have := restW_mem.1 (ofRd_mem hk)
  exact this.2.2 hk2
theorem decG_other {r : Rl} {L e : List Stm} {t : Tm} {c : Cs} (h : ∀ s ∈ e, okV c s = false) : decG r (L ++ e) t c = decG r L t c := by
 have hA : ∀ S, decA (L ++ e) c S = decA L c S := fun S => by
  unfold decA
  split
  ·exact all_extra fun s hs ho => by rw [h s hs] at ho; cases ho
  ·rfl
 unfold decG
 rw [hA]
end Go.Proofs.Am

/- Keys about which committees have said yes: plain laws. -/
namespace Go.Proofs.Am
open Go Go.RowKit
open Go.Proofs
end Go.Proofs.Am

/- A case whose committees all vote: the law AdmissionRefused, in plain. -/
namespace Go.Proofs.Am
open Go Go.RowKit
open Go.Proofs
end Go.Proofs.Am

/- Who is suspended, and who is due: plain laws. -/
namespace Go.Proofs.Am
open Go Go.RowKit
open Go.Proofs
end Go.Proofs.Am

/- Who is refused where all seats vote on one key: plain laws. -/
namespace Go.Proofs.Am
open Go Go.RowKit
open Go.Proofs
end Go.Proofs.Am
