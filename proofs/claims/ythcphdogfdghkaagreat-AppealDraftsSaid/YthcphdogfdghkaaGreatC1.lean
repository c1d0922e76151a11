/- Cases: what is valid; drafts of appeals. -/
import Derived.Test.YthcphdogfdghkaaGreatB14
set_option linter.unusedSimpArgs false
set_option linter.unusedVariables false
namespace Go.Proofs.Am
open Go Go.RowKit
open Go.Proofs

/-- A case. -/
structure Cs where
  ep : Int
  kd : Int
  su : Int
  ro : Int
deriving Inhabited, DecidableEq
def cs (c : Cs) : List PV := [.int .i64 c.ep, .int .i64 c.kd, .int .i64 c.su, .int .i64 c.ro]
theorem cs_eq (c : Cs) : cs c = [.int .i64 c.ep, .int .i64 c.kd, .int .i64 c.su, .int .i64 c.ro] := (rfl)
attribute [go_sem] cs_eq
def caseV (c : Cs) : Bool := decide (0 ≤ c.ep ∧ c.ep < 40 ∧ 0 ≤ c.su ∧ c.su < 64 ∧ 0 ≤ c.ro ∧ c.ro ≤ 1 ∧ (c.kd = 1 ∧ c.su = 0 ∧ c.ro = 0 ∨ c.kd = 2 ∨ c.kd = 3))
theorem caseV_f {c : Cs} (h : ¬ (0 ≤ c.ep ∧ c.ep < 40 ∧ 0 ≤ c.su ∧ c.su < 64 ∧ 0 ≤ c.ro ∧ c.ro ≤ 1 ∧ (c.kd = 1 ∧ c.su = 0 ∧ c.ro = 0 ∨ c.kd = 2 ∨ c.kd = 3))) : caseV c = false := decide_eq_false h
theorem caseV_t {c : Cs} (h : 0 ≤ c.ep ∧ c.ep < 40 ∧ 0 ≤ c.su ∧ c.su < 64 ∧ 0 ≤ c.ro ∧ c.ro ≤ 1 ∧ (c.kd = 1 ∧ c.su = 0 ∧ c.ro = 0 ∨ c.kd = 2 ∨ c.kd = 3)) : caseV c = true := decide_eq_true h

set_option maxHeartbeats 1000000 in
set_option maxRecDepth 100000 in
theorem cvalid23 (c : Cs) : Den Tryz.prog 56 [.agg (cs c)] [] (.bool (caseV c)) [] [] := by
  refine den_of Tryz.mixed Tryz.func56 rfl Tryz.call56 Tryz.ntmps56 (congrArg Array.toList Tryz.results56) (by simp) (by kernel_rfl) [] (exts := []) rfl rfl ?_
  by_cases h0 : c.ep < 0
  · rw [caseV_f (c := c) (by omega)]
    simp only [go_sem, ↓reduceIte, reduceCtorEq, Nat.reduceEqDiff, Nat.reduceAdd, Nat.reduceSub, Nat.reduceMul, Nat.reduceLT, Nat.reduceLeDiff, Int.reduceLT, Int.reduceLE, Int.reduceEq, Int.reduceNe, Int.reduceToNat, Int.reduceAdd, Int.reduceSub, Int.reduceMul, Int.natCast_zero, h0]
  by_cases h1 : 40 ≤ c.ep
  · rw [caseV_f (c := c) (by omega)]
    simp only [go_sem, ↓reduceIte, reduceCtorEq, Nat.reduceEqDiff, Nat.reduceAdd, Nat.reduceSub, Nat.reduceMul, Nat.reduceLT, Nat.reduceLeDiff, Int.reduceLT, Int.reduceLE, Int.reduceEq, Int.reduceNe, Int.reduceToNat, Int.reduceAdd, Int.reduceSub, Int.reduceMul, Int.natCast_zero, h0, h1]
  by_cases h2 : c.su < 0
  · rw [caseV_f (c := c) (by omega)]
    simp only [go_sem, ↓reduceIte, reduceCtorEq, Nat.reduceEqDiff, Nat.reduceAdd, Nat.reduceSub, Nat.reduceMul, Nat.reduceLT, Nat.reduceLeDiff, Int.reduceLT, Int.reduceLE, Int.reduceEq, Int.reduceNe, Int.reduceToNat, Int.reduceAdd, Int.reduceSub, Int.reduceMul, Int.natCast_zero, h0, h1, h2]
  by_cases h3 : 64 ≤ c.su
  · rw [caseV_f (c := c) (by omega)]
    simp only [go_sem, ↓reduceIte, reduceCtorEq, Nat.reduceEqDiff, Nat.reduceAdd, Nat.reduceSub, Nat.reduceMul, Nat.reduceLT, Nat.reduceLeDiff, Int.reduceLT, Int.reduceLE, Int.reduceEq, Int.reduceNe, Int.reduceToNat, Int.reduceAdd, Int.reduceSub, Int.reduceMul, Int.natCast_zero, h0, h1, h2, h3]
  by_cases h4 : c.ro < 0
  · rw [caseV_f (c := c) (by omega)]
    simp only [go_sem, ↓reduceIte, reduceCtorEq, Nat.reduceEqDiff, Nat.reduceAdd, Nat.reduceSub, Nat.reduceMul, Nat.reduceLT, Nat.reduceLeDiff, Int.reduceLT, Int.reduceLE, Int.reduceEq, Int.reduceNe, Int.reduceToNat, Int.reduceAdd, Int.reduceSub, Int.reduceMul, Int.natCast_zero, h0, h1, h2, h3, h4]
  by_cases h5 : 1 < c.ro
  · rw [caseV_f (c := c) (by omega)]
    simp only [go_sem, ↓reduceIte, reduceCtorEq, Nat.reduceEqDiff, Nat.reduceAdd, Nat.reduceSub, Nat.reduceMul, Nat.reduceLT, Nat.reduceLeDiff, Int.reduceLT, Int.reduceLE, Int.reduceEq, Int.reduceNe, Int.reduceToNat, Int.reduceAdd, Int.reduceSub, Int.reduceMul, Int.natCast_zero, h0, h1, h2, h3, h4, h5]
  by_cases k1 : c.kd = 1
  · by_cases k2 : c.su = 0
    · by_cases k3 : c.ro = 0
      · rw [caseV_t (c := c) (by omega)]
        simp only [go_sem, ↓reduceIte, reduceCtorEq, Nat.reduceEqDiff, Nat.reduceAdd, Nat.reduceSub, Nat.reduceMul, Nat.reduceLT, Nat.reduceLeDiff, Int.reduceLT, Int.reduceLE, Int.reduceEq, Int.reduceNe, Int.reduceToNat, Int.reduceAdd, Int.reduceSub, Int.reduceMul, Int.natCast_zero, h0, h1, h2, h3, h4, h5, k1, k2, k3]
      · rw [caseV_f (c := c) (by omega)]
        simp only [go_sem, ↓reduceIte, reduceCtorEq, Nat.reduceEqDiff, Nat.reduceAdd, Nat.reduceSub, Nat.reduceMul, Nat.reduceLT, Nat.reduceLeDiff, Int.reduceLT, Int.reduceLE, Int.reduceEq, Int.reduceNe, Int.reduceToNat, Int.reduceAdd, Int.reduceSub, Int.reduceMul, Int.natCast_zero, h0, h1, h2, h3, h4, h5, k1, k2, k3]
    · rw [caseV_f (c := c) (by omega)]
      simp only [go_sem, ↓reduceIte, reduceCtorEq, Nat.reduceEqDiff, Nat.reduceAdd, Nat.reduceSub, Nat.reduceMul, Nat.reduceLT, Nat.reduceLeDiff, Int.reduceLT, Int.reduceLE, Int.reduceEq, Int.reduceNe, Int.reduceToNat, Int.reduceAdd, Int.reduceSub, Int.reduceMul, Int.natCast_zero, h0, h1, h2, h3, h4, h5, k1, k2]
  by_cases k2 : c.kd = 2
  · rw [caseV_t (c := c) (by omega)]
    simp only [go_sem, ↓reduceIte, reduceCtorEq, Nat.reduceEqDiff, Nat.reduceAdd, Nat.reduceSub, Nat.reduceMul, Nat.reduceLT, Nat.reduceLeDiff, Int.reduceLT, Int.reduceLE, Int.reduceEq, Int.reduceNe, Int.reduceToNat, Int.reduceAdd, Int.reduceSub, Int.reduceMul, Int.natCast_zero, h0, h1, h2, h3, h4, h5, k1, k2]
  by_cases k3 : c.kd = 3
  · rw [caseV_t (c := c) (by omega)]
    simp only [go_sem, ↓reduceIte, reduceCtorEq, Nat.reduceEqDiff, Nat.reduceAdd, Nat.reduceSub, Nat.reduceMul, Nat.reduceLT, Nat.reduceLeDiff, Int.reduceLT, Int.reduceLE, Int.reduceEq, Int.reduceNe, Int.reduceToNat, Int.reduceAdd, Int.reduceSub, Int.reduceMul, Int.natCast_zero, h0, h1, h2, h3, h4, h5, k1, k2, k3]
  rw [caseV_f (c := c) (by omega)]
  simp only [go_sem, ↓reduceIte, reduceCtorEq, Nat.reduceEqDiff, Nat.reduceAdd, Nat.reduceSub, Nat.reduceMul, Nat.reduceLT, Nat.reduceLeDiff, Int.reduceLT, Int.reduceLE, Int.reduceEq, Int.reduceNe, Int.reduceToNat, Int.reduceAdd, Int.reduceSub, Int.reduceMul, Int.natCast_zero, h0, h1, h2, h3, h4, h5, k1, k2, k3]

set_option maxHeartbeats 1000000 in
set_option maxRecDepth 100000 in
theorem cvalidP (c : Cs) : Den Tryz.prog 37 [.agg (cs c)] [] (.bool (caseV c)) [] [] := by
  refine den_of Tryz.mixed Tryz.func37 rfl Tryz.call37 Tryz.ntmps37 (congrArg Array.toList Tryz.results37) (by simp) (by kernel_rfl) [] (exts := []) rfl rfl ?_
  by_cases h0 : c.ep < 0
  · rw [caseV_f (c := c) (by omega)]
    simp only [go_sem, ↓reduceIte, reduceCtorEq, Nat.reduceEqDiff, Nat.reduceAdd, Nat.reduceSub, Nat.reduceMul, Nat.reduceLT, Nat.reduceLeDiff, Int.reduceLT, Int.reduceLE, Int.reduceEq, Int.reduceNe, Int.reduceToNat, Int.reduceAdd, Int.reduceSub, Int.reduceMul, Int.natCast_zero, h0]
  by_cases h1 : 40 ≤ c.ep
  · rw [caseV_f (c := c) (by omega)]
    simp only [go_sem, ↓reduceIte, reduceCtorEq, Nat.reduceEqDiff, Nat.reduceAdd, Nat.reduceSub, Nat.reduceMul, Nat.reduceLT, Nat.reduceLeDiff, Int.reduceLT, Int.reduceLE, Int.reduceEq, Int.reduceNe, Int.reduceToNat, Int.reduceAdd, Int.reduceSub, Int.reduceMul, Int.natCast_zero, h0, h1]
  by_cases h2 : c.su < 0
  · rw [caseV_f (c := c) (by omega)]
    simp only [go_sem, ↓reduceIte, reduceCtorEq, Nat.reduceEqDiff, Nat.reduceAdd, Nat.reduceSub, Nat.reduceMul, Nat.reduceLT, Nat.reduceLeDiff, Int.reduceLT, Int.reduceLE, Int.reduceEq, Int.reduceNe, Int.reduceToNat, Int.reduceAdd, Int.reduceSub, Int.reduceMul, Int.natCast_zero, h0, h1, h2]
  by_cases h3 : 64 ≤ c.su
  · rw [caseV_f (c := c) (by omega)]
    simp only [go_sem, ↓reduceIte, reduceCtorEq, Nat.reduceEqDiff, Nat.reduceAdd, Nat.reduceSub, Nat.reduceMul, Nat.reduceLT, Nat.reduceLeDiff, Int.reduceLT, Int.reduceLE, Int.reduceEq, Int.reduceNe, Int.reduceToNat, Int.reduceAdd, Int.reduceSub, Int.reduceMul, Int.natCast_zero, h0, h1, h2, h3]
  by_cases h4 : c.ro < 0
  · rw [caseV_f (c := c) (by omega)]
    simp only [go_sem, ↓reduceIte, reduceCtorEq, Nat.reduceEqDiff, Nat.reduceAdd, Nat.reduceSub, Nat.reduceMul, Nat.reduceLT, Nat.reduceLeDiff, Int.reduceLT, Int.reduceLE, Int.reduceEq, Int.reduceNe, Int.reduceToNat, Int.reduceAdd, Int.reduceSub, Int.reduceMul, Int.natCast_zero, h0, h1, h2, h3, h4]
  by_cases h5 : 1 < c.ro
  · rw [caseV_f (c := c) (by omega)]
    simp only [go_sem, ↓reduceIte, reduceCtorEq, Nat.reduceEqDiff, Nat.reduceAdd, Nat.reduceSub, Nat.reduceMul, Nat.reduceLT, Nat.reduceLeDiff, Int.reduceLT, Int.reduceLE, Int.reduceEq, Int.reduceNe, Int.reduceToNat, Int.reduceAdd, Int.reduceSub, Int.reduceMul, Int.natCast_zero, h0, h1, h2, h3, h4, h5]
  by_cases k1 : c.kd = 1
  · by_cases k2 : c.su = 0
    · by_cases k3 : c.ro = 0
      · rw [caseV_t (c := c) (by omega)]
        simp only [go_sem, ↓reduceIte, reduceCtorEq, Nat.reduceEqDiff, Nat.reduceAdd, Nat.reduceSub, Nat.reduceMul, Nat.reduceLT, Nat.reduceLeDiff, Int.reduceLT, Int.reduceLE, Int.reduceEq, Int.reduceNe, Int.reduceToNat, Int.reduceAdd, Int.reduceSub, Int.reduceMul, Int.natCast_zero, h0, h1, h2, h3, h4, h5, k1, k2, k3]
      · rw [caseV_f (c := c) (by omega)]
        simp only [go_sem, ↓reduceIte, reduceCtorEq, Nat.reduceEqDiff, Nat.reduceAdd, Nat.reduceSub, Nat.reduceMul, Nat.reduceLT, Nat.reduceLeDiff, Int.reduceLT, Int.reduceLE, Int.reduceEq, Int.reduceNe, Int.reduceToNat, Int.reduceAdd, Int.reduceSub, Int.reduceMul, Int.natCast_zero, h0, h1, h2, h3, h4, h5, k1, k2, k3]
    · rw [caseV_f (c := c) (by omega)]
      simp only [go_sem, ↓reduceIte, reduceCtorEq, Nat.reduceEqDiff, Nat.reduceAdd, Nat.reduceSub, Nat.reduceMul, Nat.reduceLT, Nat.reduceLeDiff, Int.reduceLT, Int.reduceLE, Int.reduceEq, Int.reduceNe, Int.reduceToNat, Int.reduceAdd, Int.reduceSub, Int.reduceMul, Int.natCast_zero, h0, h1, h2, h3, h4, h5, k1, k2]
  by_cases k2 : c.kd = 2
  · rw [caseV_t (c := c) (by omega)]
    simp only [go_sem, ↓reduceIte, reduceCtorEq, Nat.reduceEqDiff, Nat.reduceAdd, Nat.reduceSub, Nat.reduceMul, Nat.reduceLT, Nat.reduceLeDiff, Int.reduceLT, Int.reduceLE, Int.reduceEq, Int.reduceNe, Int.reduceToNat, Int.reduceAdd, Int.reduceSub, Int.reduceMul, Int.natCast_zero, h0, h1, h2, h3, h4, h5, k1, k2]
  by_cases k3 : c.kd = 3
  · rw [caseV_t (c := c) (by omega)]
    simp only [go_sem, ↓reduceIte, reduceCtorEq, Nat.reduceEqDiff, Nat.reduceAdd, Nat.reduceSub, Nat.reduceMul, Nat.reduceLT, Nat.reduceLeDiff, Int.reduceLT, Int.reduceLE, Int.reduceEq, Int.reduceNe, Int.reduceToNat, Int.reduceAdd, Int.reduceSub, Int.reduceMul, Int.natCast_zero, h0, h1, h2, h3, h4, h5, k1, k2, k3]
  rw [caseV_f (c := c) (by omega)]
  simp only [go_sem, ↓reduceIte, reduceCtorEq, Nat.reduceEqDiff, Nat.reduceAdd, Nat.reduceSub, Nat.reduceMul, Nat.reduceLT, Nat.reduceLeDiff, Int.reduceLT, Int.reduceLE, Int.reduceEq, Int.reduceNe, Int.reduceToNat, Int.reduceAdd, Int.reduceSub, Int.reduceMul, Int.natCast_zero, h0, h1, h2, h3, h4, h5, k1, k2, k3]

/-- Can one appeal? -/
def openB (c : Cs) : Bool := caseV c && decide (c.ro = 0) && decide (c.kd ≠ 1)
set_option maxHeartbeats 1000000 in
set_option maxRecDepth 100000 in
theorem aopen (c : Cs) : Den Tryz.prog 24 [.agg (cs c)] [] (.bool (openB c)) [] [] := by
  refine den_of Tryz.mixed Tryz.func24 rfl Tryz.call24 Tryz.ntmps24 (congrArg Array.toList Tryz.results24) (by simp) (by kernel_rfl) [] (exts := []) rfl rfl ?_
  simp only [go_sem, ↓reduceIte, reduceCtorEq, Nat.reduceEqDiff, Nat.reduceAdd, Nat.reduceSub, Nat.reduceMul, Nat.reduceLT, Nat.reduceLeDiff, Int.reduceLT, Int.reduceLE, Int.reduceEq, Int.reduceNe, Int.reduceToNat, Int.reduceAdd, Int.reduceSub, Int.reduceMul, Int.natCast_zero]
  refine call (cvalidP c) [] ?_
  cases h : caseV c
  · simp only [go_sem, ↓reduceIte, reduceCtorEq, Nat.reduceEqDiff, Nat.reduceAdd, Nat.reduceSub, Nat.reduceMul, Nat.reduceLT, Nat.reduceLeDiff, Int.reduceLT, Int.reduceLE, Int.reduceEq, Int.reduceNe, Int.reduceToNat, Int.reduceAdd, Int.reduceSub, Int.reduceMul, Int.natCast_zero, openB, h]
  · by_cases h1 : c.ro = 0
    · by_cases h2 : c.kd = 1
      · simp only [go_sem, ↓reduceIte, reduceCtorEq, Nat.reduceEqDiff, Nat.reduceAdd, Nat.reduceSub, Nat.reduceMul, Nat.reduceLT, Nat.reduceLeDiff, Int.reduceLT, Int.reduceLE, Int.reduceEq, Int.reduceNe, Int.reduceToNat, Int.reduceAdd, Int.reduceSub, Int.reduceMul, Int.natCast_zero, openB, h, h1, h2]
      · simp only [go_sem, ↓reduceIte, reduceCtorEq, Nat.reduceEqDiff, Nat.reduceAdd, Nat.reduceSub, Nat.reduceMul, Nat.reduceLT, Nat.reduceLeDiff, Int.reduceLT, Int.reduceLE, Int.reduceEq, Int.reduceNe, Int.reduceToNat, Int.reduceAdd, Int.reduceSub, Int.reduceMul, Int.natCast_zero, openB, h, h1, h2]
    · simp only [go_sem, ↓reduceIte, reduceCtorEq, Nat.reduceEqDiff, Nat.reduceAdd, Nat.reduceSub, Nat.reduceMul, Nat.reduceLT, Nat.reduceLeDiff, Int.reduceLT, Int.reduceLE, Int.reduceEq, Int.reduceNe, Int.reduceToNat, Int.reduceAdd, Int.reduceSub, Int.reduceMul, Int.natCast_zero, openB, h, h1]

set_option maxHeartbeats 1000000 in
set_option maxRecDepth 100000 in
theorem ropen (c : Cs) : Den Tryz.prog 36 [.agg (cs c)] [] (.bool (openB c)) [] [] := by
  refine den_of Tryz.mixed Tryz.func36 rfl Tryz.call36 Tryz.ntmps36 (congrArg Array.toList Tryz.results36) (by simp) (by kernel_rfl) [] (exts := []) rfl rfl ?_
  simp only [go_sem, ↓reduceIte, reduceCtorEq, Nat.reduceEqDiff, Nat.reduceAdd, Nat.reduceSub, Nat.reduceMul, Nat.reduceLT, Nat.reduceLeDiff, Int.reduceLT, Int.reduceLE, Int.reduceEq, Int.reduceNe, Int.reduceToNat, Int.reduceAdd, Int.reduceSub, Int.reduceMul, Int.natCast_zero]
  refine call (cvalid23 c) [] ?_
  cases h : caseV c
  · simp only [go_sem, ↓reduceIte, reduceCtorEq, Nat.reduceEqDiff, Nat.reduceAdd, Nat.reduceSub, Nat.reduceMul, Nat.reduceLT, Nat.reduceLeDiff, Int.reduceLT, Int.reduceLE, Int.reduceEq, Int.reduceNe, Int.reduceToNat, Int.reduceAdd, Int.reduceSub, Int.reduceMul, Int.natCast_zero, openB, h]
  · by_cases h1 : c.ro = 0
    · by_cases h2 : c.kd = 1
      · simp only [go_sem, ↓reduceIte, reduceCtorEq, Nat.reduceEqDiff, Nat.reduceAdd, Nat.reduceSub, Nat.reduceMul, Nat.reduceLT, Nat.reduceLeDiff, Int.reduceLT, Int.reduceLE, Int.reduceEq, Int.reduceNe, Int.reduceToNat, Int.reduceAdd, Int.reduceSub, Int.reduceMul, Int.natCast_zero, openB, h, h1, h2]
      · simp only [go_sem, ↓reduceIte, reduceCtorEq, Nat.reduceEqDiff, Nat.reduceAdd, Nat.reduceSub, Nat.reduceMul, Nat.reduceLT, Nat.reduceLeDiff, Int.reduceLT, Int.reduceLE, Int.reduceEq, Int.reduceNe, Int.reduceToNat, Int.reduceAdd, Int.reduceSub, Int.reduceMul, Int.natCast_zero, openB, h, h1, h2]
    · simp only [go_sem, ↓reduceIte, reduceCtorEq, Nat.reduceEqDiff, Nat.reduceAdd, Nat.reduceSub, Nat.reduceMul, Nat.reduceLT, Nat.reduceLeDiff, Int.reduceLT, Int.reduceLE, Int.reduceEq, Int.reduceNe, Int.reduceToNat, Int.reduceAdd, Int.reduceSub, Int.reduceMul, Int.natCast_zero, openB, h, h1]

def apD (c : Cs) : Drf := ⟨15, c.ep, c.kd, c.su, [], []⟩
def noD : Drf := ⟨0, 0, 0, 0, [], []⟩
def apDr (c : Cs) : Drf × Int := if openB c then (apD c, 0) else (noD, 41)
set_option maxHeartbeats 1000000 in
set_option maxRecDepth 100000 in
theorem adraftA (c : Cs) : Den Tryz.prog 9 [.agg (cs c)] [] (.tup [.agg (dr (apDr c).1), .int .i64 (apDr c).2]) [] [] := by
  refine den_of Tryz.mixed Tryz.func9 rfl Tryz.call9 Tryz.ntmps9 (congrArg Array.toList Tryz.results9) (by simp) (by kernel_rfl) [] (exts := []) rfl rfl ?_
  simp only [go_sem, ↓reduceIte, reduceCtorEq, Nat.reduceEqDiff, Nat.reduceAdd, Nat.reduceSub, Nat.reduceMul, Nat.reduceLT, Nat.reduceLeDiff, Int.reduceLT, Int.reduceLE, Int.reduceEq, Int.reduceNe, Int.reduceToNat, Int.reduceAdd, Int.reduceSub, Int.reduceMul, Int.natCast_zero]
  refine call (aopen c) [] ?_
  cases h : openB c
  · have e1 : apDr c = (noD, 41) := by rw [apDr, h]; rfl
    rw [e1]
    simp only [go_sem, ↓reduceIte, reduceCtorEq, Nat.reduceEqDiff, Nat.reduceAdd, Nat.reduceSub, Nat.reduceMul, Nat.reduceLT, Nat.reduceLeDiff, Int.reduceLT, Int.reduceLE, Int.reduceEq, Int.reduceNe, Int.reduceToNat, Int.reduceAdd, Int.reduceSub, Int.reduceMul, Int.natCast_zero, noD]
    all_goals rfl
  · have e1 : apDr c = (apD c, 0) := by rw [apDr, h]; rfl
    rw [e1]
    simp only [go_sem, ↓reduceIte, reduceCtorEq, Nat.reduceEqDiff, Nat.reduceAdd, Nat.reduceSub, Nat.reduceMul, Nat.reduceLT, Nat.reduceLeDiff, Int.reduceLT, Int.reduceLE, Int.reduceEq, Int.reduceNe, Int.reduceToNat, Int.reduceAdd, Int.reduceSub, Int.reduceMul, Int.natCast_zero, apD]
    all_goals rfl

set_option maxHeartbeats 1000000 in
set_option maxRecDepth 100000 in
theorem rdraftA (c : Cs) : Den Tryz.prog 22 [.agg (cs c)] [] (.tup [.agg (dr (apDr c).1), .int .i64 (apDr c).2]) [] [] := by
  refine den_of Tryz.mixed Tryz.func22 rfl Tryz.call22 Tryz.ntmps22 (congrArg Array.toList Tryz.results22) (by simp) (by kernel_rfl) [] (exts := []) rfl rfl ?_
  simp only [go_sem, ↓reduceIte, reduceCtorEq, Nat.reduceEqDiff, Nat.reduceAdd, Nat.reduceSub, Nat.reduceMul, Nat.reduceLT, Nat.reduceLeDiff, Int.reduceLT, Int.reduceLE, Int.reduceEq, Int.reduceNe, Int.reduceToNat, Int.reduceAdd, Int.reduceSub, Int.reduceMul, Int.natCast_zero]
  refine call (ropen c) [] ?_
  cases h : openB c
  · have e1 : apDr c = (noD, 41) := by rw [apDr, h]; rfl
    rw [e1]
    simp only [go_sem, ↓reduceIte, reduceCtorEq, Nat.reduceEqDiff, Nat.reduceAdd, Nat.reduceSub, Nat.reduceMul, Nat.reduceLT, Nat.reduceLeDiff, Int.reduceLT, Int.reduceLE, Int.reduceEq, Int.reduceNe, Int.reduceToNat, Int.reduceAdd, Int.reduceSub, Int.reduceMul, Int.natCast_zero, noD]
    all_goals rfl
  · have e1 : apDr c = (apD c, 0) := by rw [apDr, h]; rfl
    rw [e1]
    simp only [go_sem, ↓reduceIte, reduceCtorEq, Nat.reduceEqDiff, Nat.reduceAdd, Nat.reduceSub, Nat.reduceMul, Nat.reduceLT, Nat.reduceLeDiff, Int.reduceLT, Int.reduceLE, Int.reduceEq, Int.reduceNe, Int.reduceToNat, Int.reduceAdd, Int.reduceSub, Int.reduceMul, Int.natCast_zero, apD]
    all_goals rfl

def secC (c : Cs) : Cs × Int := if openB c then ({ c with ro := 1 }, 0) else (⟨0, 0, 0, 0⟩, 41)
set_option maxHeartbeats 1000000 in
set_option maxRecDepth 100000 in
theorem asecond (c : Cs) : Den Tryz.prog 13 [.agg (cs c)] [] (.tup [.agg (cs (secC c).1), .int .i64 (secC c).2]) [] [] := by
  refine den_of Tryz.mixed Tryz.func13 rfl Tryz.call13 Tryz.ntmps13 (congrArg Array.toList Tryz.results13) (by simp) (by kernel_rfl) [] (exts := []) rfl rfl ?_
  simp only [go_sem, ↓reduceIte, reduceCtorEq, Nat.reduceEqDiff, Nat.reduceAdd, Nat.reduceSub, Nat.reduceMul, Nat.reduceLT, Nat.reduceLeDiff, Int.reduceLT, Int.reduceLE, Int.reduceEq, Int.reduceNe, Int.reduceToNat, Int.reduceAdd, Int.reduceSub, Int.reduceMul, Int.natCast_zero]
  refine call (aopen c) [] ?_
  cases h : openB c
  · have e1 : secC c = (⟨0, 0, 0, 0⟩, 41) := by rw [secC, h]; rfl
    rw [e1]
    simp only [go_sem, ↓reduceIte, reduceCtorEq, Nat.reduceEqDiff, Nat.reduceAdd, Nat.reduceSub, Nat.reduceMul, Nat.reduceLT, Nat.reduceLeDiff, Int.reduceLT, Int.reduceLE, Int.reduceEq, Int.reduceNe, Int.reduceToNat, Int.reduceAdd, Int.reduceSub, Int.reduceMul, Int.natCast_zero]
  · have e1 : secC c = ({ c with ro := 1 }, 0) := by rw [secC, h]; rfl
    rw [e1]
    simp only [go_sem, ↓reduceIte, reduceCtorEq, Nat.reduceEqDiff, Nat.reduceAdd, Nat.reduceSub, Nat.reduceMul, Nat.reduceLT, Nat.reduceLeDiff, Int.reduceLT, Int.reduceLE, Int.reduceEq, Int.reduceNe, Int.reduceToNat, Int.reduceAdd, Int.reduceSub, Int.reduceMul, Int.natCast_zero]

end Go.Proofs.Am
