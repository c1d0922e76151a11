/- Statements: what is well formed. -/
import Derived.Test.YthcphdogfdghkaaGreatB11
set_option linter.unusedSimpArgs false
set_option linter.unusedVariables false
namespace Go.Proofs.Am
open Go Go.RowKit
open Go.Proofs

def inB (x lo hi : Int) : Bool := decide (lo ≤ x ∧ x ≤ hi)
theorem in_den (x lo hi : Int) : Den Tryz.prog 41 [.int .i64 x, .int .i64 lo, .int .i64 hi] [] (.bool (inB x lo hi)) [] [] := by
  refine den_of Tryz.mixed Tryz.func41 rfl Tryz.call41 Tryz.ntmps41 (congrArg Array.toList Tryz.results41) (by simp) (by kernel_rfl) [] (exts := []) rfl rfl ?_
  by_cases h : lo ≤ x
  · simp only [go_sem, ↓reduceIte, reduceCtorEq, Nat.reduceEqDiff, Nat.reduceAdd, Nat.reduceSub, Nat.reduceMul, Nat.reduceLT, Nat.reduceLeDiff, Int.reduceLT, Int.reduceLE, Int.reduceEq, Int.reduceNe, Int.reduceToNat, Int.reduceAdd, Int.reduceSub, Int.reduceMul, Int.natCast_zero, h, inB]
  · simp only [go_sem, ↓reduceIte, reduceCtorEq, Nat.reduceEqDiff, Nat.reduceAdd, Nat.reduceSub, Nat.reduceMul, Nat.reduceLT, Nat.reduceLeDiff, Int.reduceLT, Int.reduceLE, Int.reduceEq, Int.reduceNe, Int.reduceToNat, Int.reduceAdd, Int.reduceSub, Int.reduceMul, Int.natCast_zero, h, inB]
def valB (x : Int) : Bool := inB x 0 1099511627776
theorem value_den (x : Int) : Den Tryz.prog 42 [.int .i64 x] [] (.bool (valB x)) [] [] := by
  refine den_of Tryz.mixed Tryz.func42 rfl Tryz.call42 Tryz.ntmps42 (congrArg Array.toList Tryz.results42) (by simp) (by kernel_rfl) [] (exts := []) rfl rfl ?_
  simp only [go_sem, ↓reduceIte, reduceCtorEq, Nat.reduceEqDiff, Nat.reduceAdd, Nat.reduceSub, Nat.reduceMul, Nat.reduceLT, Nat.reduceLeDiff, Int.reduceLT, Int.reduceLE, Int.reduceEq, Int.reduceNe, Int.reduceToNat, Int.reduceAdd, Int.reduceSub, Int.reduceMul, Int.natCast_zero]
  refine call (in_den x 0 1099511627776) [] ?_
  simp only [go_sem, ↓reduceIte, reduceCtorEq, Nat.reduceEqDiff, Nat.reduceAdd, Nat.reduceSub, Nat.reduceMul, Nat.reduceLT, Nat.reduceLeDiff, Int.reduceLT, Int.reduceLE, Int.reduceEq, Int.reduceNe, Int.reduceToNat, Int.reduceAdd, Int.reduceSub, Int.reduceMul, Int.natCast_zero]
  rfl
theorem notval_den (x : Int) : Den Tryz.prog 45 [.int .i64 x] [] (.bool (!valB x)) [] [] := by
  refine den_of Tryz.mixed Tryz.func45 rfl Tryz.call45 Tryz.ntmps45 (congrArg Array.toList Tryz.results45) (by simp) (by kernel_rfl) [] (exts := []) rfl rfl ?_
  simp only [go_sem, ↓reduceIte, reduceCtorEq, Nat.reduceEqDiff, Nat.reduceAdd, Nat.reduceSub, Nat.reduceMul, Nat.reduceLT, Nat.reduceLeDiff, Int.reduceLT, Int.reduceLE, Int.reduceEq, Int.reduceNe, Int.reduceToNat, Int.reduceAdd, Int.reduceSub, Int.reduceMul, Int.natCast_zero]
  refine call (value_den x) [] ?_
  simp only [go_sem, ↓reduceIte, reduceCtorEq, Nat.reduceEqDiff, Nat.reduceAdd, Nat.reduceSub, Nat.reduceMul, Nat.reduceLT, Nat.reduceLeDiff, Int.reduceLT, Int.reduceLE, Int.reduceEq, Int.reduceNe, Int.reduceToNat, Int.reduceAdd, Int.reduceSub, Int.reduceMul, Int.natCast_zero]

def meantB (s : Stm) : Bool :=
  if s.kd = 1 then inB s.a 0 63 && decide (s.a ≠ s.au) && inB s.b 1 3 && inB s.c s.ti 2147483648
  else if s.kd = 2 then inB s.a 0 199 && decide (s.b = 0) && decide (s.c = 0)
  else if s.kd = 3 then decide (s.a = 0) && decide (s.b = 0) && decide (s.c = 0)
  else true

theorem meant_den (s : Stm) : Den Tryz.prog 43 [.agg (sm s)] [] (.bool (meantB s)) [] [] := by
  refine den_of Tryz.mixed Tryz.func43 rfl Tryz.call43 Tryz.ntmps43 (congrArg Array.toList Tryz.results43) (by simp) (by kernel_rfl) [] (exts := []) rfl rfl ?_
  by_cases h1 : s.kd = 1
  · have hm : meantB s = (inB s.a 0 63 && decide (s.a ≠ s.au) && inB s.b 1 3 && inB s.c s.ti 2147483648) := if_pos h1
    rw [hm]
    simp only [go_sem, ↓reduceIte, reduceCtorEq, Nat.reduceEqDiff, Nat.reduceAdd, Nat.reduceSub, Nat.reduceMul, Nat.reduceLT, Nat.reduceLeDiff, Int.reduceLT, Int.reduceLE, Int.reduceEq, Int.reduceNe, Int.reduceToNat, Int.reduceAdd, Int.reduceSub, Int.reduceMul, Int.natCast_zero, h1]
    refine call (in_den s.a 0 63) [] ?_
    cases e1 : inB s.a 0 63
    · simp only [go_sem, ↓reduceIte, reduceCtorEq, Nat.reduceEqDiff, Nat.reduceAdd, Nat.reduceSub, Nat.reduceMul, Nat.reduceLT, Nat.reduceLeDiff, Int.reduceLT, Int.reduceLE, Int.reduceEq, Int.reduceNe, Int.reduceToNat, Int.reduceAdd, Int.reduceSub, Int.reduceMul, Int.natCast_zero]
    · by_cases e2 : s.a = s.au
      · simp only [go_sem, ↓reduceIte, reduceCtorEq, Nat.reduceEqDiff, Nat.reduceAdd, Nat.reduceSub, Nat.reduceMul, Nat.reduceLT, Nat.reduceLeDiff, Int.reduceLT, Int.reduceLE, Int.reduceEq, Int.reduceNe, Int.reduceToNat, Int.reduceAdd, Int.reduceSub, Int.reduceMul, Int.natCast_zero, e2]
      · simp only [go_sem, ↓reduceIte, reduceCtorEq, Nat.reduceEqDiff, Nat.reduceAdd, Nat.reduceSub, Nat.reduceMul, Nat.reduceLT, Nat.reduceLeDiff, Int.reduceLT, Int.reduceLE, Int.reduceEq, Int.reduceNe, Int.reduceToNat, Int.reduceAdd, Int.reduceSub, Int.reduceMul, Int.natCast_zero, e2]
        refine call (in_den s.b 1 3) [] ?_
        cases e3 : inB s.b 1 3
        · simp only [go_sem, ↓reduceIte, reduceCtorEq, Nat.reduceEqDiff, Nat.reduceAdd, Nat.reduceSub, Nat.reduceMul, Nat.reduceLT, Nat.reduceLeDiff, Int.reduceLT, Int.reduceLE, Int.reduceEq, Int.reduceNe, Int.reduceToNat, Int.reduceAdd, Int.reduceSub, Int.reduceMul, Int.natCast_zero]
        · simp only [go_sem, ↓reduceIte, reduceCtorEq, Nat.reduceEqDiff, Nat.reduceAdd, Nat.reduceSub, Nat.reduceMul, Nat.reduceLT, Nat.reduceLeDiff, Int.reduceLT, Int.reduceLE, Int.reduceEq, Int.reduceNe, Int.reduceToNat, Int.reduceAdd, Int.reduceSub, Int.reduceMul, Int.natCast_zero]
          refine call (in_den s.c s.ti 2147483648) [] ?_
          simp only [go_sem, ↓reduceIte, reduceCtorEq, Nat.reduceEqDiff, Nat.reduceAdd, Nat.reduceSub, Nat.reduceMul, Nat.reduceLT, Nat.reduceLeDiff, Int.reduceLT, Int.reduceLE, Int.reduceEq, Int.reduceNe, Int.reduceToNat, Int.reduceAdd, Int.reduceSub, Int.reduceMul, Int.natCast_zero]
  · by_cases h2 : s.kd = 2
    · have hm : meantB s = (inB s.a 0 199 && decide (s.b = 0) && decide (s.c = 0)) := by rw [meantB, if_neg h1, if_pos h2]
      rw [hm]
      simp only [go_sem, ↓reduceIte, reduceCtorEq, Nat.reduceEqDiff, Nat.reduceAdd, Nat.reduceSub, Nat.reduceMul, Nat.reduceLT, Nat.reduceLeDiff, Int.reduceLT, Int.reduceLE, Int.reduceEq, Int.reduceNe, Int.reduceToNat, Int.reduceAdd, Int.reduceSub, Int.reduceMul, Int.natCast_zero, h1, h2]
      refine call (in_den s.a 0 199) [] ?_
      cases e1 : inB s.a 0 199
      · simp only [go_sem, ↓reduceIte, reduceCtorEq, Nat.reduceEqDiff, Nat.reduceAdd, Nat.reduceSub, Nat.reduceMul, Nat.reduceLT, Nat.reduceLeDiff, Int.reduceLT, Int.reduceLE, Int.reduceEq, Int.reduceNe, Int.reduceToNat, Int.reduceAdd, Int.reduceSub, Int.reduceMul, Int.natCast_zero]
      · by_cases e2 : s.b = 0
        · simp only [go_sem, ↓reduceIte, reduceCtorEq, Nat.reduceEqDiff, Nat.reduceAdd, Nat.reduceSub, Nat.reduceMul, Nat.reduceLT, Nat.reduceLeDiff, Int.reduceLT, Int.reduceLE, Int.reduceEq, Int.reduceNe, Int.reduceToNat, Int.reduceAdd, Int.reduceSub, Int.reduceMul, Int.natCast_zero, e2]
        · simp only [go_sem, ↓reduceIte, reduceCtorEq, Nat.reduceEqDiff, Nat.reduceAdd, Nat.reduceSub, Nat.reduceMul, Nat.reduceLT, Nat.reduceLeDiff, Int.reduceLT, Int.reduceLE, Int.reduceEq, Int.reduceNe, Int.reduceToNat, Int.reduceAdd, Int.reduceSub, Int.reduceMul, Int.natCast_zero, e2]
    · by_cases h3 : s.kd = 3
      · have hm : meantB s = (decide (s.a = 0) && decide (s.b = 0) && decide (s.c = 0)) := by rw [meantB, if_neg h1, if_neg h2, if_pos h3]
        rw [hm]
        by_cases e1 : s.a = 0
        · by_cases e2 : s.b = 0
          · simp only [go_sem, ↓reduceIte, reduceCtorEq, Nat.reduceEqDiff, Nat.reduceAdd, Nat.reduceSub, Nat.reduceMul, Nat.reduceLT, Nat.reduceLeDiff, Int.reduceLT, Int.reduceLE, Int.reduceEq, Int.reduceNe, Int.reduceToNat, Int.reduceAdd, Int.reduceSub, Int.reduceMul, Int.natCast_zero, h3, e1, e2]
          · simp only [go_sem, ↓reduceIte, reduceCtorEq, Nat.reduceEqDiff, Nat.reduceAdd, Nat.reduceSub, Nat.reduceMul, Nat.reduceLT, Nat.reduceLeDiff, Int.reduceLT, Int.reduceLE, Int.reduceEq, Int.reduceNe, Int.reduceToNat, Int.reduceAdd, Int.reduceSub, Int.reduceMul, Int.natCast_zero, h3, e1, e2]
        · simp only [go_sem, ↓reduceIte, reduceCtorEq, Nat.reduceEqDiff, Nat.reduceAdd, Nat.reduceSub, Nat.reduceMul, Nat.reduceLT, Nat.reduceLeDiff, Int.reduceLT, Int.reduceLE, Int.reduceEq, Int.reduceNe, Int.reduceToNat, Int.reduceAdd, Int.reduceSub, Int.reduceMul, Int.natCast_zero, h3, e1]
      · have hm : meantB s = true := by rw [meantB, if_neg h1, if_neg h2, if_neg h3]
        rw [hm]
        simp only [go_sem, ↓reduceIte, reduceCtorEq, Nat.reduceEqDiff, Nat.reduceAdd, Nat.reduceSub, Nat.reduceMul, Nat.reduceLT, Nat.reduceLeDiff, Int.reduceLT, Int.reduceLE, Int.reduceEq, Int.reduceNe, Int.reduceToNat, Int.reduceAdd, Int.reduceSub, Int.reduceMul, Int.natCast_zero, h1, h2, h3]

/-! ### Pins -/
def pinOK (l : List Pn) (i : Nat) : Bool := inB (el l i).au 0 63 && !(decide (0 < i) && decide ((el l i).au ≤ (el l (i - 1)).au)) && inB (el l i).he 1 200 && decide ((el l i).di.length = 32)
def pinsB (l : List Pn) : Bool := decide (∀ i, i < l.length → pinOK l i = true)
theorem pinsB_true {l : List Pn} (h : ∀ i, i < l.length → pinOK l i = true) : pinsB l = true := decide_eq_true h
theorem pinsB_false {l : List Pn} {i : Nat} (hi : i < l.length) (h : pinOK l i = false) : pinsB l = false :=
  decide_eq_false fun h' => by rw [h' i hi] at h; cases h

set_option maxRecDepth 100000 in
theorem pinned_den (l : List Pn) (hl : big l.length) : Den Tryz.prog 46 [.vs (l.map pn)] [] (.bool (pinsB l)) [] [] := by
  refine den_of Tryz.mixed Tryz.func46 rfl Tryz.call46 Tryz.ntmps46 (congrArg Array.toList Tryz.results46) (by simp) (by kernel_rfl) [] (exts := []) rfl rfl ?_
  simp only [go_sem, ↓reduceIte, reduceCtorEq, Nat.reduceEqDiff, Nat.reduceAdd, Nat.reduceSub, Nat.reduceMul, Nat.reduceLT, Nat.reduceLeDiff, Int.reduceLT, Int.reduceLE, Int.reduceEq, Int.reduceNe, Int.reduceToNat, Int.reduceAdd, Int.reduceSub, Int.reduceMul, Int.natCast_zero]
  refine loop Tryz.mixed 0 (fun i : Nat => [(0, .vs (l.map pn)), (5, .vs (l.map pn)), (6, .int .i64 l.length), (7, .int .i64 i)]) (fun i => []) (fun i => i ≤ l.length ∧ ∀ j, j < i → pinOK l j = true) (fun i => l.length - i) (by kernel_rfl) ?_ ?_ ?_
  · simp
  · simp only [go_sem, ↓reduceIte, reduceCtorEq, Nat.reduceEqDiff, Nat.reduceAdd, Nat.reduceSub, Nat.reduceMul, Nat.reduceLT, Nat.reduceLeDiff, Int.reduceLT, Int.reduceLE, Int.reduceEq, Int.reduceNe, Int.reduceToNat, Int.reduceAdd, Int.reduceSub, Int.reduceMul, Int.natCast_zero]
  · rintro i ⟨hi, hp⟩
    by_cases hi' : i < l.length
    · have hlt : (i : Int) < (l.length : Int) := by omega
      simp only [go_sem, ↓reduceIte, reduceCtorEq, Nat.reduceEqDiff, Nat.reduceAdd, Nat.reduceSub, Nat.reduceMul, Nat.reduceLT, Nat.reduceLeDiff, Int.reduceLT, Int.reduceLE, Int.reduceEq, Int.reduceNe, Int.reduceToNat, Int.reduceAdd, Int.reduceSub, Int.reduceMul, Int.natCast_zero, hlt, hi']
      refine call (in_den (el l i).au 0 63) [] ?_
      cases e1 : inB (el l i).au 0 63
      · have hq : pinOK l i = false := by simp [pinOK, e1]
        simp only [go_sem, ↓reduceIte, reduceCtorEq, Nat.reduceEqDiff, Nat.reduceAdd, Nat.reduceSub, Nat.reduceMul, Nat.reduceLT, Nat.reduceLeDiff, Int.reduceLT, Int.reduceLE, Int.reduceEq, Int.reduceNe, Int.reduceToNat, Int.reduceAdd, Int.reduceSub, Int.reduceMul, Int.natCast_zero]
        exact ⟨okD_of (by kernel_rfl), (pinsB_false hi' hq).symm⟩
      · have tail : ∀ (_ : (decide (0 < i) && decide ((el l i).au ≤ (el l (i - 1)).au)) = false), ∀ b, b = (inB (el l i).he 1 200 && decide ((el l i).di.length = 32)) → pinOK l i = b := fun h b hb => by
          rw [hb, pinOK, e1, h]; simp
        by_cases e2 : 0 < i
        · have e2' : (0 : Int) < (i : Int) := by omega
          have e3 : IntKind.i64.wrap ((i : Int) - 1) = ((i - 1 : Nat) : Int) := by rw [wrapI] <;> omega
          have e4 : i - 1 < l.length := by omega
          by_cases e5 : (el l i).au ≤ (el l (i - 1)).au
          · have hq : pinOK l i = false := by simp [pinOK, e1, e2, e5]
            simp only [go_sem, ↓reduceIte, reduceCtorEq, Nat.reduceEqDiff, Nat.reduceAdd, Nat.reduceSub, Nat.reduceMul, Nat.reduceLT, Nat.reduceLeDiff, Int.reduceLT, Int.reduceLE, Int.reduceEq, Int.reduceNe, Int.reduceToNat, Int.reduceAdd, Int.reduceSub, Int.reduceMul, Int.natCast_zero, e2', e3, e4, e5]
            exact ⟨okD_of (by kernel_rfl), (pinsB_false hi' hq).symm⟩
          · have tail := tail (by simp [e5])
            simp only [go_sem, ↓reduceIte, reduceCtorEq, Nat.reduceEqDiff, Nat.reduceAdd, Nat.reduceSub, Nat.reduceMul, Nat.reduceLT, Nat.reduceLeDiff, Int.reduceLT, Int.reduceLE, Int.reduceEq, Int.reduceNe, Int.reduceToNat, Int.reduceAdd, Int.reduceSub, Int.reduceMul, Int.natCast_zero, e2', e3, e4, e5]
            refine call (in_den (el l i).he 1 200) [] ?_
            cases e6 : inB (el l i).he 1 200
            · have hq := tail false (by simp [e6])
              simp only [go_sem, ↓reduceIte, reduceCtorEq, Nat.reduceEqDiff, Nat.reduceAdd, Nat.reduceSub, Nat.reduceMul, Nat.reduceLT, Nat.reduceLeDiff, Int.reduceLT, Int.reduceLE, Int.reduceEq, Int.reduceNe, Int.reduceToNat, Int.reduceAdd, Int.reduceSub, Int.reduceMul, Int.natCast_zero]
              exact ⟨okD_of (by kernel_rfl), (pinsB_false hi' hq).symm⟩
            · by_cases e7 : (el l i).di.length = 32
              · have hq := tail true (by simp [e6, e7])
                have e7' : ((el l i).di.length : Int) = 32 := by omega
                simp only [go_sem, ↓reduceIte, reduceCtorEq, Nat.reduceEqDiff, Nat.reduceAdd, Nat.reduceSub, Nat.reduceMul, Nat.reduceLT, Nat.reduceLeDiff, Int.reduceLT, Int.reduceLE, Int.reduceEq, Int.reduceNe, Int.reduceToNat, Int.reduceAdd, Int.reduceSub, Int.reduceMul, Int.natCast_zero, e7']
                refine ⟨okD_of (by kernel_rfl), i + 1, ⟨⟨by omega, fun j hj => ?_⟩, by omega⟩, by rw [wrapI] <;> omega⟩
                by_cases hji : j = i
                · rw [hji]; exact hq
                · exact hp j (by omega)
              · have hq := tail false (by simp [e7])
                have e7' : ¬ ((el l i).di.length : Int) = 32 := by omega
                simp only [go_sem, ↓reduceIte, reduceCtorEq, Nat.reduceEqDiff, Nat.reduceAdd, Nat.reduceSub, Nat.reduceMul, Nat.reduceLT, Nat.reduceLeDiff, Int.reduceLT, Int.reduceLE, Int.reduceEq, Int.reduceNe, Int.reduceToNat, Int.reduceAdd, Int.reduceSub, Int.reduceMul, Int.natCast_zero, e7']
                exact ⟨okD_of (by kernel_rfl), (pinsB_false hi' hq).symm⟩
        · have e2' : ¬ (0 : Int) < (i : Int) := by omega
          have tail := tail (by simp [e2])
          simp only [go_sem, ↓reduceIte, reduceCtorEq, Nat.reduceEqDiff, Nat.reduceAdd, Nat.reduceSub, Nat.reduceMul, Nat.reduceLT, Nat.reduceLeDiff, Int.reduceLT, Int.reduceLE, Int.reduceEq, Int.reduceNe, Int.reduceToNat, Int.reduceAdd, Int.reduceSub, Int.reduceMul, Int.natCast_zero, e2']
          refine call (in_den (el l i).he 1 200) [] ?_
          cases e6 : inB (el l i).he 1 200
          · have hq := tail false (by simp [e6])
            simp only [go_sem, ↓reduceIte, reduceCtorEq, Nat.reduceEqDiff, Nat.reduceAdd, Nat.reduceSub, Nat.reduceMul, Nat.reduceLT, Nat.reduceLeDiff, Int.reduceLT, Int.reduceLE, Int.reduceEq, Int.reduceNe, Int.reduceToNat, Int.reduceAdd, Int.reduceSub, Int.reduceMul, Int.natCast_zero]
            exact ⟨okD_of (by kernel_rfl), (pinsB_false hi' hq).symm⟩
          · by_cases e7 : (el l i).di.length = 32
            · have hq := tail true (by simp [e6, e7])
              have e7' : ((el l i).di.length : Int) = 32 := by omega
              simp only [go_sem, ↓reduceIte, reduceCtorEq, Nat.reduceEqDiff, Nat.reduceAdd, Nat.reduceSub, Nat.reduceMul, Nat.reduceLT, Nat.reduceLeDiff, Int.reduceLT, Int.reduceLE, Int.reduceEq, Int.reduceNe, Int.reduceToNat, Int.reduceAdd, Int.reduceSub, Int.reduceMul, Int.natCast_zero, e7']
              refine ⟨okD_of (by kernel_rfl), i + 1, ⟨⟨by omega, fun j hj => ?_⟩, by omega⟩, by rw [wrapI] <;> omega⟩
              by_cases hji : j = i
              · rw [hji]; exact hq
              · exact hp j (by omega)
            · have hq := tail false (by simp [e7])
              have e7' : ¬ ((el l i).di.length : Int) = 32 := by omega
              simp only [go_sem, ↓reduceIte, reduceCtorEq, Nat.reduceEqDiff, Nat.reduceAdd, Nat.reduceSub, Nat.reduceMul, Nat.reduceLT, Nat.reduceLeDiff, Int.reduceLT, Int.reduceLE, Int.reduceEq, Int.reduceNe, Int.reduceToNat, Int.reduceAdd, Int.reduceSub, Int.reduceMul, Int.natCast_zero, e7']
              exact ⟨okD_of (by kernel_rfl), (pinsB_false hi' hq).symm⟩
    · have hf : ¬ ((i : Int) < (l.length : Int)) := by omega
      have : i = l.length := by omega
      subst this
      simp only [go_sem, ↓reduceIte, reduceCtorEq, Nat.reduceEqDiff, Nat.reduceAdd, Nat.reduceSub, Nat.reduceMul, Nat.reduceLT, Nat.reduceLeDiff, Int.reduceLT, Int.reduceLE, Int.reduceEq, Int.reduceNe, Int.reduceToNat, Int.reduceAdd, Int.reduceSub, Int.reduceMul, Int.natCast_zero, hf]
      exact (pinsB_true hp).symm
end Go.Proofs.Am
