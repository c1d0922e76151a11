/- UFour. -/
import Derived.Test.YtdodifpogaoioaaGreatVTwo
import Derived.Test.YtdodifpogaoioaaGreatC9
import Derived.Test.YtdodifpogaoioaaGreatEOne
import Derived.Test.YtdodifpogaoioaaGreatUOne
set_option linter.unusedSimpArgs false
set_option linter.unusedVariables false
namespace Go.Proofs.Am
open Go Go.RowKit
open Go.Proofs
def sec1 (c : Cs) : Cs := { c with ro := 1 }
def secX (r : Rl) (L : List Stm) (t : Tm) (c : Cs) : Ct × Bool :=
 if askedB L t c = true ∧ (decG r L t (sec1 c)).2.2 = 0 then ((decG r L t (sec1 c)).1, (decG r L t (sec1 c)).2.1) else (noC, false)
def outX (r : Rl) (L : List Stm) (t : Tm) (c : Cs) : Ct × Bool × Int :=
 if caseV c = true ∧ c.ro = 0 then
  if (decG r L t c).2.2 ≠ 0 then (noC, false, (decG r L t c).2.2)
  else if (secX r L t c).2 = true then ((secX r L t c).1, true, 0) else ((decG r L t c).1, (decG r L t c).2.1, 0)
 else (noC, false, 41)
def setX (r : Rl) (L : List Stm) (t : Tm) (c : Cs) : Bool × Int :=
 if (outX r L t c).2.2 ≠ 0 then (false, (outX r L t c).2.2) else if c.kd = 1 then ((outX r L t c).2.1, 0) else ((secX r L t c).2, 0)
theorem openB_iff {c : Cs} : openB c = true ↔ caseV c = true ∧ c.ro = 0 ∧ c.kd ≠ 1 := by
 simp [openB, and_assoc]
theorem sec1_ok {c : Cs} (h : openB c = true) : caseV (sec1 c) = true := by
 obtain ⟨h1, h2, h3⟩ := openB_iff.1 h
 have := of_decide_eq_true h1
 refine caseV_t ⟨this.1, this.2.1, this.2.2.1, this.2.2.2.1, by simp [sec1], by simp [sec1], ?_⟩
 have h4 := this.2.2.2.2.2.2
 show c.kd = 1 ∧ c.su = 0 ∧ (1 : Int) = 0 ∨ c.kd = 2 ∨ c.kd = 3
 omega
theorem decG_ok {r : Rl} {L : List Stm} {t : Tm} {c : Cs} (hr : ruleE r = 0) (ht : OkT t) (hc : caseV c = true) (he : c.ep = t.ep) :
  ((seatsG r t c).2 = 0 ∧ ckS c (seatsG r t c).1 = 0 ∧ decG r L t c = (oneC (decA L c (seatsG r t c).1), decide ((decA L c (seatsG r t c).1).length = 1), 0)) ∨
  ((seatsG r t c).2 = 44 ∧ decG r L t c = (noC, false, 44)) := by
 obtain ⟨h1, _, _, h4⟩ := seatsR_any hr ht hc he
 rw [← seatsG_32 ht.bea] at h1 h4
 rcases h1 with h1 | h1
 ·refine .inl ⟨h1, h4 h1, ?_⟩
  unfold decG
  rw [if_neg (by simp [h1]), h4 h1]
 ·refine .inr ⟨h1, ?_⟩
  unfold decG
  rw [if_pos (by simp [h1]), h1]
theorem seatsG_zero {r : Rl} {t : Tm} {c : Cs} (hr : ruleE r = 0) (ht : OkT t) (hc : caseV c = true) (he : c.ep = t.ep) (h0 : c.ro = 0) : (seatsG r t c).2 = 0 := by
 rw [seatsG_32 ht.bea, seatsR0 hr ht hc he h0]
theorem decA_grow {a b : List Stm} {c : Cs} {S : List Int} (hab : ∀ s ∈ a, s ∈ b) (h1 : (decA b c S).length ≤ 1) (h : (decA a c S).length = 1) : decA b c S = decA a c S := by
 unfold decA at *
 split at h
 ·rename_i hck
  rw [if_pos hck] at h1 ⊢
  rw [if_pos hck]
  obtain ⟨x, hx⟩ := List.length_eq_one_iff.1 h
  have hm : x ∈ allV S (votesL b c) := all_more hab (by rw [hx]; simp)
  rw [hx]
  match hb : allV S (votesL b c) with
  | [] => rw [hb] at hm; simp at hm
  | [y] => rw [hb] at hm; simp at hm; rw [hm]
  | _ :: _ :: _ => rw [hb] at h1; simp at h1
 ·simp at h
theorem asked_more {a b : List Stm} {t : Tm} {c : Cs} (hab : ∀ s ∈ a, s ∈ b) (h : askedB a t c = true) : askedB b t c = true := by
 unfold askedB at *
 rw [Bool.and_eq_true] at *
 refine ⟨h.1, ?_⟩
 have h2 := h.2
 rw [List.any_eq_true] at *
 obtain ⟨s, h3, h4⟩ := h2
 exact ⟨s, hab s h3, h4⟩
theorem decG_grow {r : Rl} {a b : List Stm} {t : Tm} {c : Cs} (hr : ruleE r = 0) (ht : OkT t) (hc : caseV c = true) (he : c.ep = t.ep) (hab : ∀ s ∈ a, s ∈ b) (h1 : (seatsG r t c).2 = 0 → (decA b c (seatsG r t c).1).length ≤ 1) (h : (decG r a t c).2.1 = true) : decG r b t c = decG r a t c := by
 rcases decG_ok (L := a) hr ht hc he with ⟨s1, s2, s3⟩ | ⟨s1, s3⟩
 ·rcases decG_ok (L := b) hr ht hc he with ⟨q1, q2, q3⟩ | ⟨q1, q3⟩
  ·rw [s3] at h
   have hl : (decA a c (seatsG r t c).1).length = 1 := of_decide_eq_true h
   rw [q3, s3, decA_grow hab (h1 s1) hl]
  ·rw [s1] at q1; cases q1
 ·rw [s3] at h; cases h
theorem only_law {r : Rl} {a b : List Stm} {t : Tm} {c : Cs} (hr : ruleE r = 0) (ht : OkT t) (ho : openB c = true) (he : c.ep = t.ep) (hab : ∀ s ∈ a, s ∈ b)
  (h0 : (decA b c (seatsG r t c).1).length ≤ 1) (h1 : (seatsG r t (sec1 c)).2 = 0 → (decA b (sec1 c) (seatsG r t (sec1 c)).1).length ≤ 1) :
  ((outX r a t c).2.2 = 0 ∧ (outX r b t c).2.2 = 0 ∧ (setX r a t c).2 = 0 ∧ (setX r b t c).2 = 0) ∧
  ((setX r a t c).1 = true → (setX r b t c).1 = true ∧ outX r a t c = outX r b t c) ∧
  ((outX r a t c).2.1 = true → (outX r b t c).2.1 = true) ∧
  ((outX r a t c).2.1 = true → outX r a t c ≠ outX r b t c → decG r b t (sec1 c) = ((outX r b t c).1, true, 0) ∧ (setX r b t c).1 = true ∧ askedB b t c = true) := by
 obtain ⟨hc, hro, hkd⟩ := openB_iff.1 ho
 have hs0 := seatsG_zero hr ht hc he hro
 have d0 : ∀ L, (decG r L t c).2.2 = 0 := fun L => by
  rcases decG_ok (L := L) hr ht hc he with ⟨_, _, s3⟩ | ⟨s1, _⟩
  ·rw [s3]
  ·rw [hs0] at s1; cases s1
 have ho' : ∀ L, outX r L t c = if (secX r L t c).2 = true then ((secX r L t c).1, true, 0) else ((decG r L t c).1, (decG r L t c).2.1, 0) := fun L => by
  unfold outX
  rw [if_pos ⟨hc, hro⟩, if_neg (by simp [d0 L])]
 have he' : ∀ L, (outX r L t c).2.2 = 0 := fun L => by rw [ho']; split <;> rfl
 have hS : ∀ L, setX r L t c = ((secX r L t c).2, 0) := fun L => by
  unfold setX
  rw [if_neg (by simp [he' L]), if_neg hkd]
 have g1 : (secX r a t c).2 = true → secX r b t c = secX r a t c := fun h => by
  unfold secX at h ⊢
  split at h
  ·rename_i hh
   have hg := decG_grow hr ht (sec1_ok ho) he hab h1 h
   rw [if_pos ⟨asked_more hab hh.1, by rw [hg]; exact hh.2⟩, if_pos hh, hg]
  ·cases h
 have g0 : (decG r a t c).2.1 = true → decG r b t c = decG r a t c := decG_grow hr ht hc he hab fun _ => h0
 refine ⟨⟨he' a, he' b, by rw [hS], by rw [hS]⟩, fun h => ?_, fun h => ?_, fun h hne => ?_⟩
 ·rw [hS] at h ⊢
  have hg := g1 h
  refine ⟨by rw [hg]; exact h, ?_⟩
  rw [ho' a, ho' b, hg, if_pos h, if_pos h]
 ·rw [ho' a] at h
  rw [ho' b]
  by_cases hb : (secX r b t c).2 = true
  ·rw [if_pos hb]
  ·rw [if_neg hb]
   split at h
   ·rename_i ha
    rw [g1 ha] at hb
    exact absurd ha hb
   ·rw [g0 h]
    exact h
 ·have hb : (secX r b t c).2 = true := by
   refine Classical.byContradiction fun hb => hne ?_
   have ha : ¬ (secX r a t c).2 = true := fun ha => hb (by rw [g1 ha]; exact ha)
   rw [ho' a, if_neg ha] at h
   rw [ho' a, ho' b, if_neg ha, if_neg hb, g0 h]
  have hb2 := hb
  unfold secX at hb2
  split at hb2
  ·rename_i hh
   refine ⟨?_, by rw [hS]; exact hb, hh.1⟩
   rw [ho' b, if_pos hb]
   unfold secX
   rw [if_pos hh]
   show decG r b t (sec1 c) = ((decG r b t (sec1 c)).1, true, 0)
   rw [← hb2, ← hh.2]
  ·cases hb2
theorem closed_law {r : Rl} {L : List Stm} {t : Tm} {c : Cs} (hc : caseV c = true) (hro : c.ro = 0) (hk : c.kd = 1) : askedB L t c = false ∧ secX r L t c = (noC, false) ∧ outX r L t c = (if (decG r L t c).2.2 ≠ 0 then (noC, false, (decG r L t c).2.2) else decG r L t c) := by
 have ha : askedB L t c = false := by
  unfold askedB openB
  simp [hk]
 have hs : secX r L t c = (noC, false) := by
  unfold secX
  rw [if_neg (by simp [ha])]
 refine ⟨ha, hs, ?_⟩
 unfold outX
 rw [if_pos ⟨hc, hro⟩, hs]
 split
 ·rfl
 ·rename_i h
  have h : (decG r L t c).2.2 = 0 := by simpa using h
  rw [if_neg (by simp)]
  rw [← h]
end Go.Proofs.Am

/- Keys about which committees have said yes: plain laws. -/
namespace Go.Proofs.Am
open Go Go.RowKit
open Go.Proofs
end Go.Proofs.Am

/- A case whose committees all vote: the law AdmissionRefused, in plain. -/
namespace Go.Proofs.Am
open Go Go.RowKit
open Go.Proofs
end Go.Proofs.Am

/- Who is suspended, and who is due: plain laws. -/
namespace Go.Proofs.Am
open Go Go.RowKit
open Go.Proofs
end Go.Proofs.Am

/- Who is refused where all seats vote on one key: plain laws. -/
namespace Go.Proofs.Am
open Go Go.RowKit
open Go.Proofs
end Go.Proofs.Am
