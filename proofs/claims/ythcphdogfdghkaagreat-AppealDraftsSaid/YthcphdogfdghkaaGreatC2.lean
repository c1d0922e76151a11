/- Rosters, policies, rules: what is well formed. -/
import Derived.Test.YthcphdogfdghkaaGreatC1
set_option linter.unusedSimpArgs false
set_option linter.unusedVariables false
namespace Go.Proofs.Am
open Go Go.RowKit
open Go.Proofs

/-- For all places. -/
def allI (p : Nat → Bool) (n : Nat) : Bool := decide (∀ i, i < n → p i = true)
theorem allI_t {p : Nat → Bool} {n : Nat} (h : ∀ i, i < n → p i = true) : allI p n = true := decide_eq_true h
theorem allI_f {p : Nat → Bool} {n i : Nat} (hi : i < n) (h : p i = false) : allI p n = false := decide_eq_false fun h' => by rw [h' i hi] at h; cases h
theorem upto_succ {p : Nat → Bool} {i : Nat} (h : ∀ j, j < i → p j = true) (hq : p i = true) : ∀ j, j < i + 1 → p j = true := fun j hj => by
  by_cases hji : j = i
  · rw [hji]; exact hq
  · exact h j (by omega)
/-- One key of a set. -/
def okKey (n : Int) (l : List Int) (i : Nat) : Bool := decide (0 ≤ el l i ∧ el l i < n ∧ (0 < i → el l (i - 1) < el l i))
def setV (l : List Int) (n : Int) : Bool := allI (okKey n l) l.length
def rosV (l : List Int) : Bool := decide (0 < l.length ∧ l.length ≤ 64) && setV l 64

set_option maxHeartbeats 1000000 in
set_option maxRecDepth 100000 in
theorem set11 (l : List Int) (n : Int) (hl : big l.length) : Den Tryz.prog 95 [.vs (l.map i1), .int .i64 n] [] (.bool (setV l n)) [] [] := by
  refine den_of Tryz.mixed Tryz.func95 rfl Tryz.call95 Tryz.ntmps95 (congrArg Array.toList Tryz.results95) (by simp) (by kernel_rfl) [] (exts := []) rfl rfl ?_
  generalize hm : setV l n = m
  have hbad : setV l n = false → m = false := fun h => by rw [← hm]; exact h
  have hgood : setV l n = true → m = true := fun h => by rw [← hm]; exact h
  simp only [go_sem, ↓reduceIte, reduceCtorEq, Nat.reduceEqDiff, Nat.reduceAdd, Nat.reduceSub, Nat.reduceMul, Nat.reduceLT, Nat.reduceLeDiff, Int.reduceLT, Int.reduceLE, Int.reduceEq, Int.reduceNe, Int.reduceToNat, Int.reduceAdd, Int.reduceSub, Int.reduceMul, Int.natCast_zero]
  refine loop Tryz.mixed 0 (fun i : Nat => [(0, .vs (l.map i1)), (1, .int .i64 n), (5, .int .i64 i)]) (fun i => []) (fun i => i ≤ l.length ∧ ∀ j, j < i → okKey n l j = true) (fun i => l.length - i) (by kernel_rfl) ?_ ?_ ?_
  · simp
  · simp only [go_sem, ↓reduceIte, reduceCtorEq, Nat.reduceEqDiff, Nat.reduceAdd, Nat.reduceSub, Nat.reduceMul, Nat.reduceLT, Nat.reduceLeDiff, Int.reduceLT, Int.reduceLE, Int.reduceEq, Int.reduceNe, Int.reduceToNat, Int.reduceAdd, Int.reduceSub, Int.reduceMul, Int.natCast_zero]
  · rintro i ⟨hi, hp⟩
    by_cases hi' : i < l.length
    · have hlt : (i : Int) < (l.length : Int) := by omega
      by_cases a1 : el l i < 0
      · have hq : okKey n l i = false := decide_eq_false (by omega)
        simp only [go_sem, ↓reduceIte, reduceCtorEq, Nat.reduceEqDiff, Nat.reduceAdd, Nat.reduceSub, Nat.reduceMul, Nat.reduceLT, Nat.reduceLeDiff, Int.reduceLT, Int.reduceLE, Int.reduceEq, Int.reduceNe, Int.reduceToNat, Int.reduceAdd, Int.reduceSub, Int.reduceMul, Int.natCast_zero, hlt, hi', a1]
        exact ⟨okD_of (by kernel_rfl), (hbad (allI_f hi' hq)).symm⟩
      by_cases a2 : n ≤ el l i
      · have hq : okKey n l i = false := decide_eq_false (by omega)
        simp only [go_sem, ↓reduceIte, reduceCtorEq, Nat.reduceEqDiff, Nat.reduceAdd, Nat.reduceSub, Nat.reduceMul, Nat.reduceLT, Nat.reduceLeDiff, Int.reduceLT, Int.reduceLE, Int.reduceEq, Int.reduceNe, Int.reduceToNat, Int.reduceAdd, Int.reduceSub, Int.reduceMul, Int.natCast_zero, hlt, hi', a1, a2]
        exact ⟨okD_of (by kernel_rfl), (hbad (allI_f hi' hq)).symm⟩
      by_cases a3 : 0 < i
      · have a3' : (0 : Int) < (i : Int) := by omega
        have e1 : IntKind.i64.wrap ((i : Int) - 1) = ((i - 1 : Nat) : Int) := by rw [wrapI] <;> omega
        have e2 : i - 1 < l.length := by omega
        by_cases a4 : el l i ≤ el l (i - 1)
        · have hq : okKey n l i = false := decide_eq_false (by omega)
          simp only [go_sem, ↓reduceIte, reduceCtorEq, Nat.reduceEqDiff, Nat.reduceAdd, Nat.reduceSub, Nat.reduceMul, Nat.reduceLT, Nat.reduceLeDiff, Int.reduceLT, Int.reduceLE, Int.reduceEq, Int.reduceNe, Int.reduceToNat, Int.reduceAdd, Int.reduceSub, Int.reduceMul, Int.natCast_zero, hlt, hi', a1, a2, a3', e1, e2, a4]
          exact ⟨okD_of (by kernel_rfl), (hbad (allI_f hi' hq)).symm⟩
        · have hq : okKey n l i = true := decide_eq_true (by omega)
          simp only [go_sem, ↓reduceIte, reduceCtorEq, Nat.reduceEqDiff, Nat.reduceAdd, Nat.reduceSub, Nat.reduceMul, Nat.reduceLT, Nat.reduceLeDiff, Int.reduceLT, Int.reduceLE, Int.reduceEq, Int.reduceNe, Int.reduceToNat, Int.reduceAdd, Int.reduceSub, Int.reduceMul, Int.natCast_zero, hlt, hi', a1, a2, a3', e1, e2, a4]
          exact ⟨okD_of (by kernel_rfl), i + 1, ⟨⟨by omega, upto_succ hp hq⟩, by omega⟩, by rw [wrapI] <;> omega⟩
      · have a3' : ¬ (0 : Int) < (i : Int) := by omega
        have hq : okKey n l i = true := decide_eq_true (by omega)
        simp only [go_sem, ↓reduceIte, reduceCtorEq, Nat.reduceEqDiff, Nat.reduceAdd, Nat.reduceSub, Nat.reduceMul, Nat.reduceLT, Nat.reduceLeDiff, Int.reduceLT, Int.reduceLE, Int.reduceEq, Int.reduceNe, Int.reduceToNat, Int.reduceAdd, Int.reduceSub, Int.reduceMul, Int.natCast_zero, hlt, hi', a1, a2, a3']
        exact ⟨okD_of (by kernel_rfl), i + 1, ⟨⟨by omega, upto_succ hp hq⟩, by omega⟩, by rw [wrapI] <;> omega⟩
    · have hf : ¬ ((i : Int) < (l.length : Int)) := by omega
      have : i = l.length := by omega
      subst this
      simp only [go_sem, ↓reduceIte, reduceCtorEq, Nat.reduceEqDiff, Nat.reduceAdd, Nat.reduceSub, Nat.reduceMul, Nat.reduceLT, Nat.reduceLeDiff, Int.reduceLT, Int.reduceLE, Int.reduceEq, Int.reduceNe, Int.reduceToNat, Int.reduceAdd, Int.reduceSub, Int.reduceMul, Int.natCast_zero, hf]
      exact (hgood (allI_t hp)).symm

set_option maxHeartbeats 1000000 in
set_option maxRecDepth 100000 in
theorem ros24 (l : List Int) (hl : big l.length) : Den Tryz.prog 55 [.vs (l.map i1)] [] (.bool (rosV l)) [] [] := by
  refine den_of Tryz.mixed Tryz.func55 rfl Tryz.call55 Tryz.ntmps55 (congrArg Array.toList Tryz.results55) (by simp) (by kernel_rfl) [] (exts := []) rfl rfl ?_
  by_cases h1 : l.length = 0
  · have hr : rosV l = false := by simp [rosV, h1]
    rw [hr]
    have h1' : (l.length : Int) = 0 := by omega
    simp only [go_sem, ↓reduceIte, reduceCtorEq, Nat.reduceEqDiff, Nat.reduceAdd, Nat.reduceSub, Nat.reduceMul, Nat.reduceLT, Nat.reduceLeDiff, Int.reduceLT, Int.reduceLE, Int.reduceEq, Int.reduceNe, Int.reduceToNat, Int.reduceAdd, Int.reduceSub, Int.reduceMul, Int.natCast_zero, h1']
  by_cases h2 : (64 : Int) < (l.length : Int)
  · have hr : rosV l = false := by rw [rosV, decide_eq_false (by omega)]; rfl
    rw [hr]
    have h1' : ¬ (l.length : Int) = 0 := by omega
    simp only [go_sem, ↓reduceIte, reduceCtorEq, Nat.reduceEqDiff, Nat.reduceAdd, Nat.reduceSub, Nat.reduceMul, Nat.reduceLT, Nat.reduceLeDiff, Int.reduceLT, Int.reduceLE, Int.reduceEq, Int.reduceNe, Int.reduceToNat, Int.reduceAdd, Int.reduceSub, Int.reduceMul, Int.natCast_zero, h1', h2]
  have h1' : ¬ (l.length : Int) = 0 := by omega
  have hrv : rosV l = setV l 64 := by rw [rosV, decide_eq_true (by omega)]; rfl
  rw [hrv]
  generalize hm : setV l 64 = m
  have hbad : setV l 64 = false → m = false := fun h => by rw [← hm]; exact h
  have hgood : setV l 64 = true → m = true := fun h => by rw [← hm]; exact h
  simp only [go_sem, ↓reduceIte, reduceCtorEq, Nat.reduceEqDiff, Nat.reduceAdd, Nat.reduceSub, Nat.reduceMul, Nat.reduceLT, Nat.reduceLeDiff, Int.reduceLT, Int.reduceLE, Int.reduceEq, Int.reduceNe, Int.reduceToNat, Int.reduceAdd, Int.reduceSub, Int.reduceMul, Int.natCast_zero, h1', h2]
  refine loop Tryz.mixed 0 (fun i : Nat => [(0, .vs (l.map i1)), (3, .int .i64 i)]) (fun i => []) (fun i => i ≤ l.length ∧ ∀ j, j < i → okKey 64 l j = true) (fun i => l.length - i) (by kernel_rfl) ?_ ?_ ?_
  · simp
  · simp only [go_sem, ↓reduceIte, reduceCtorEq, Nat.reduceEqDiff, Nat.reduceAdd, Nat.reduceSub, Nat.reduceMul, Nat.reduceLT, Nat.reduceLeDiff, Int.reduceLT, Int.reduceLE, Int.reduceEq, Int.reduceNe, Int.reduceToNat, Int.reduceAdd, Int.reduceSub, Int.reduceMul, Int.natCast_zero]
  · rintro i ⟨hi, hp⟩
    by_cases hi' : i < l.length
    · have hlt : (i : Int) < (l.length : Int) := by omega
      by_cases a1 : el l i < 0
      · have hq : okKey 64 l i = false := decide_eq_false (by omega)
        simp only [go_sem, ↓reduceIte, reduceCtorEq, Nat.reduceEqDiff, Nat.reduceAdd, Nat.reduceSub, Nat.reduceMul, Nat.reduceLT, Nat.reduceLeDiff, Int.reduceLT, Int.reduceLE, Int.reduceEq, Int.reduceNe, Int.reduceToNat, Int.reduceAdd, Int.reduceSub, Int.reduceMul, Int.natCast_zero, hlt, hi', a1]
        exact ⟨okD_of (by kernel_rfl), (hbad (allI_f hi' hq)).symm⟩
      by_cases a2 : 64 ≤ el l i
      · have hq : okKey 64 l i = false := decide_eq_false (by omega)
        simp only [go_sem, ↓reduceIte, reduceCtorEq, Nat.reduceEqDiff, Nat.reduceAdd, Nat.reduceSub, Nat.reduceMul, Nat.reduceLT, Nat.reduceLeDiff, Int.reduceLT, Int.reduceLE, Int.reduceEq, Int.reduceNe, Int.reduceToNat, Int.reduceAdd, Int.reduceSub, Int.reduceMul, Int.natCast_zero, hlt, hi', a1, a2]
        exact ⟨okD_of (by kernel_rfl), (hbad (allI_f hi' hq)).symm⟩
      by_cases a3 : 0 < i
      · have a3' : (0 : Int) < (i : Int) := by omega
        have e1 : IntKind.i64.wrap ((i : Int) - 1) = ((i - 1 : Nat) : Int) := by rw [wrapI] <;> omega
        have e2 : i - 1 < l.length := by omega
        by_cases a4 : el l i ≤ el l (i - 1)
        · have hq : okKey 64 l i = false := decide_eq_false (by omega)
          simp only [go_sem, ↓reduceIte, reduceCtorEq, Nat.reduceEqDiff, Nat.reduceAdd, Nat.reduceSub, Nat.reduceMul, Nat.reduceLT, Nat.reduceLeDiff, Int.reduceLT, Int.reduceLE, Int.reduceEq, Int.reduceNe, Int.reduceToNat, Int.reduceAdd, Int.reduceSub, Int.reduceMul, Int.natCast_zero, hlt, hi', a1, a2, a3', e1, e2, a4]
          exact ⟨okD_of (by kernel_rfl), (hbad (allI_f hi' hq)).symm⟩
        · have hq : okKey 64 l i = true := decide_eq_true (by omega)
          simp only [go_sem, ↓reduceIte, reduceCtorEq, Nat.reduceEqDiff, Nat.reduceAdd, Nat.reduceSub, Nat.reduceMul, Nat.reduceLT, Nat.reduceLeDiff, Int.reduceLT, Int.reduceLE, Int.reduceEq, Int.reduceNe, Int.reduceToNat, Int.reduceAdd, Int.reduceSub, Int.reduceMul, Int.natCast_zero, hlt, hi', a1, a2, a3', e1, e2, a4]
          exact ⟨okD_of (by kernel_rfl), i + 1, ⟨⟨by omega, upto_succ hp hq⟩, by omega⟩, by rw [wrapI] <;> omega⟩
      · have a3' : ¬ (0 : Int) < (i : Int) := by omega
        have hq : okKey 64 l i = true := decide_eq_true (by omega)
        simp only [go_sem, ↓reduceIte, reduceCtorEq, Nat.reduceEqDiff, Nat.reduceAdd, Nat.reduceSub, Nat.reduceMul, Nat.reduceLT, Nat.reduceLeDiff, Int.reduceLT, Int.reduceLE, Int.reduceEq, Int.reduceNe, Int.reduceToNat, Int.reduceAdd, Int.reduceSub, Int.reduceMul, Int.natCast_zero, hlt, hi', a1, a2, a3']
        exact ⟨okD_of (by kernel_rfl), i + 1, ⟨⟨by omega, upto_succ hp hq⟩, by omega⟩, by rw [wrapI] <;> omega⟩
    · have hf : ¬ ((i : Int) < (l.length : Int)) := by omega
      have : i = l.length := by omega
      subst this
      simp only [go_sem, ↓reduceIte, reduceCtorEq, Nat.reduceEqDiff, Nat.reduceAdd, Nat.reduceSub, Nat.reduceMul, Nat.reduceLT, Nat.reduceLeDiff, Int.reduceLT, Int.reduceLE, Int.reduceEq, Int.reduceNe, Int.reduceToNat, Int.reduceAdd, Int.reduceSub, Int.reduceMul, Int.natCast_zero, hf]
      exact (hgood (allI_t hp)).symm
end Go.Proofs.Am
