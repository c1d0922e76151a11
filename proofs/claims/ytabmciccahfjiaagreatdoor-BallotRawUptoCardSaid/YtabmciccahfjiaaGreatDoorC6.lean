/- Statements, checked by the reference. -/
import Derived.Test.YtabmciccahfjiaaGreatDoorCOne
set_option linter.unusedSimpArgs false
set_option linter.unusedVariables false
namespace Go.Proofs.Am
open Go Go.RowKit
open Go.Proofs

set_option maxHeartbeats 1000000 in
set_option maxRecDepth 100000 in
theorem in3_den (x m : Int) : Den Tryz.prog 162 [.int .i64 x, .int .i64 m] [] (.bool (inB x 0 m)) [] [] := by
  refine den_of Tryz.mixed Tryz.func162 rfl Tryz.call162 Tryz.ntmps162 (congrArg Array.toList Tryz.results162) (by simp) (by kernel_rfl) [] (exts := []) rfl rfl ?_
  by_cases h : 0 ≤ x
  · simp only [go_sem, ↓reduceIte, reduceCtorEq, Nat.reduceEqDiff, Nat.reduceAdd, Nat.reduceSub, Nat.reduceMul, Nat.reduceLT, Nat.reduceLeDiff, Int.reduceLT, Int.reduceLE, Int.reduceEq, Int.reduceNe, Int.reduceToNat, Int.reduceAdd, Int.reduceSub, Int.reduceMul, Int.natCast_zero, h, inB]
  · simp only [go_sem, ↓reduceIte, reduceCtorEq, Nat.reduceEqDiff, Nat.reduceAdd, Nat.reduceSub, Nat.reduceMul, Nat.reduceLT, Nat.reduceLeDiff, Int.reduceLT, Int.reduceLE, Int.reduceEq, Int.reduceNe, Int.reduceToNat, Int.reduceAdd, Int.reduceSub, Int.reduceMul, Int.natCast_zero, h, inB]
set_option maxHeartbeats 1000000 in
set_option maxRecDepth 100000 in
theorem key3_den (x : Int) : Den Tryz.prog 161 [.int .i64 x] [] (.bool (inB x 0 63)) [] [] := by
  refine den_of Tryz.mixed Tryz.func161 rfl Tryz.call161 Tryz.ntmps161 (congrArg Array.toList Tryz.results161) (by simp) (by kernel_rfl) [] (exts := []) rfl rfl ?_
  by_cases h : 0 ≤ x
  · by_cases h' : x < 64
    · have : inB x 0 63 = true := decide_eq_true (by omega)
      simp only [go_sem, ↓reduceIte, reduceCtorEq, Nat.reduceEqDiff, Nat.reduceAdd, Nat.reduceSub, Nat.reduceMul, Nat.reduceLT, Nat.reduceLeDiff, Int.reduceLT, Int.reduceLE, Int.reduceEq, Int.reduceNe, Int.reduceToNat, Int.reduceAdd, Int.reduceSub, Int.reduceMul, Int.natCast_zero, h, h', this]
    · have : inB x 0 63 = false := decide_eq_false (by omega)
      simp only [go_sem, ↓reduceIte, reduceCtorEq, Nat.reduceEqDiff, Nat.reduceAdd, Nat.reduceSub, Nat.reduceMul, Nat.reduceLT, Nat.reduceLeDiff, Int.reduceLT, Int.reduceLE, Int.reduceEq, Int.reduceNe, Int.reduceToNat, Int.reduceAdd, Int.reduceSub, Int.reduceMul, Int.natCast_zero, h, h', this]
  · have : inB x 0 63 = false := decide_eq_false (by omega)
    simp only [go_sem, ↓reduceIte, reduceCtorEq, Nat.reduceEqDiff, Nat.reduceAdd, Nat.reduceSub, Nat.reduceMul, Nat.reduceLT, Nat.reduceLeDiff, Int.reduceLT, Int.reduceLE, Int.reduceEq, Int.reduceNe, Int.reduceToNat, Int.reduceAdd, Int.reduceSub, Int.reduceMul, Int.natCast_zero, h, this]
set_option maxHeartbeats 1000000 in
set_option maxRecDepth 100000 in
theorem pinsOK_den (l : List Pn) (hl : big l.length) : Den Tryz.prog 164 [.vs (l.map pn)] [] (.bool (pinsB l)) [] [] := by
  refine den_of Tryz.mixed Tryz.func164 rfl Tryz.call164 Tryz.ntmps164 (congrArg Array.toList Tryz.results164) (by simp) (by kernel_rfl) [] (exts := []) rfl rfl ?_
  simp only [go_sem, ↓reduceIte, reduceCtorEq, Nat.reduceEqDiff, Nat.reduceAdd, Nat.reduceSub, Nat.reduceMul, Nat.reduceLT, Nat.reduceLeDiff, Int.reduceLT, Int.reduceLE, Int.reduceEq, Int.reduceNe, Int.reduceToNat, Int.reduceAdd, Int.reduceSub, Int.reduceMul, Int.natCast_zero]
  refine loop Tryz.mixed 0 (fun i : Nat => [(0, .vs (l.map pn)), (3, .int .i64 i)]) (fun i => []) (fun i => i ≤ l.length ∧ ∀ j, j < i → pinOK l j = true) (fun i => l.length - i) (by kernel_rfl) ?_ ?_ ?_
  · simp
  · simp only [go_sem, ↓reduceIte, reduceCtorEq, Nat.reduceEqDiff, Nat.reduceAdd, Nat.reduceSub, Nat.reduceMul, Nat.reduceLT, Nat.reduceLeDiff, Int.reduceLT, Int.reduceLE, Int.reduceEq, Int.reduceNe, Int.reduceToNat, Int.reduceAdd, Int.reduceSub, Int.reduceMul, Int.natCast_zero]
  · rintro i ⟨hi, hp⟩
    by_cases hi' : i < l.length
    · have hlt : (i : Int) < (l.length : Int) := by omega
      simp only [go_sem, ↓reduceIte, reduceCtorEq, Nat.reduceEqDiff, Nat.reduceAdd, Nat.reduceSub, Nat.reduceMul, Nat.reduceLT, Nat.reduceLeDiff, Int.reduceLT, Int.reduceLE, Int.reduceEq, Int.reduceNe, Int.reduceToNat, Int.reduceAdd, Int.reduceSub, Int.reduceMul, Int.natCast_zero, hlt, hi']
      refine call (key3_den (el l i).au) [] ?_
      cases e1 : inB (el l i).au 0 63
      · have hq : pinOK l i = false := by simp [pinOK, e1]
        simp only [go_sem, ↓reduceIte, reduceCtorEq, Nat.reduceEqDiff, Nat.reduceAdd, Nat.reduceSub, Nat.reduceMul, Nat.reduceLT, Nat.reduceLeDiff, Int.reduceLT, Int.reduceLE, Int.reduceEq, Int.reduceNe, Int.reduceToNat, Int.reduceAdd, Int.reduceSub, Int.reduceMul, Int.natCast_zero]
        exact ⟨okD_of (by kernel_rfl), (pinsB_false hi' hq).symm⟩
      · have tail : ∀ (_ : (decide (0 < i) && decide ((el l i).au ≤ (el l (i - 1)).au)) = false), ∀ b, b = (inB (el l i).he 1 200 && decide ((el l i).di.length = 32)) → pinOK l i = b := fun h b hb => by
          rw [hb, pinOK, e1, h]; simp
        by_cases e2 : 0 < i
        · have e2' : (0 : Int) < (i : Int) := by omega
          have e3 : IntKind.i64.wrap ((i : Int) - 1) = ((i - 1 : Nat) : Int) := by rw [wrapI] <;> omega
          have e4 : i - 1 < l.length := by omega
          by_cases e5 : (el l i).au ≤ (el l (i - 1)).au
          · have hq : pinOK l i = false := by simp [pinOK, e1, e2, e5]
            simp only [go_sem, ↓reduceIte, reduceCtorEq, Nat.reduceEqDiff, Nat.reduceAdd, Nat.reduceSub, Nat.reduceMul, Nat.reduceLT, Nat.reduceLeDiff, Int.reduceLT, Int.reduceLE, Int.reduceEq, Int.reduceNe, Int.reduceToNat, Int.reduceAdd, Int.reduceSub, Int.reduceMul, Int.natCast_zero, e2', e3, e4, e5]
            exact ⟨okD_of (by kernel_rfl), (pinsB_false hi' hq).symm⟩
          have tail := tail (by simp [e5])
          by_cases e6 : (el l i).he < 1
          · have hq := tail false (by rw [inB, decide_eq_false (by omega)]; rfl)
            simp only [go_sem, ↓reduceIte, reduceCtorEq, Nat.reduceEqDiff, Nat.reduceAdd, Nat.reduceSub, Nat.reduceMul, Nat.reduceLT, Nat.reduceLeDiff, Int.reduceLT, Int.reduceLE, Int.reduceEq, Int.reduceNe, Int.reduceToNat, Int.reduceAdd, Int.reduceSub, Int.reduceMul, Int.natCast_zero, e2', e3, e4, e5, e6]
            exact ⟨okD_of (by kernel_rfl), (pinsB_false hi' hq).symm⟩
          by_cases e6' : 200 < (el l i).he
          · have hq := tail false (by rw [inB, decide_eq_false (by omega)]; rfl)
            simp only [go_sem, ↓reduceIte, reduceCtorEq, Nat.reduceEqDiff, Nat.reduceAdd, Nat.reduceSub, Nat.reduceMul, Nat.reduceLT, Nat.reduceLeDiff, Int.reduceLT, Int.reduceLE, Int.reduceEq, Int.reduceNe, Int.reduceToNat, Int.reduceAdd, Int.reduceSub, Int.reduceMul, Int.natCast_zero, e2', e3, e4, e5, e6, e6']
            exact ⟨okD_of (by kernel_rfl), (pinsB_false hi' hq).symm⟩
          have e66 : inB (el l i).he 1 200 = true := decide_eq_true (by omega)
          by_cases e7 : (el l i).di.length = 32
          · have hq := tail true (by simp [e66, e7])
            have e7' : ((el l i).di.length : Int) = 32 := by omega
            simp only [go_sem, ↓reduceIte, reduceCtorEq, Nat.reduceEqDiff, Nat.reduceAdd, Nat.reduceSub, Nat.reduceMul, Nat.reduceLT, Nat.reduceLeDiff, Int.reduceLT, Int.reduceLE, Int.reduceEq, Int.reduceNe, Int.reduceToNat, Int.reduceAdd, Int.reduceSub, Int.reduceMul, Int.natCast_zero, e2', e3, e4, e5, e6, e6', e7']
            refine ⟨okD_of (by kernel_rfl), i + 1, ⟨⟨by omega, fun j hj => ?_⟩, by omega⟩, by rw [wrapI] <;> omega⟩
            by_cases hji : j = i
            · rw [hji]; exact hq
            · exact hp j (by omega)
          · have hq := tail false (by simp [e7])
            have e7' : ¬ ((el l i).di.length : Int) = 32 := by omega
            simp only [go_sem, ↓reduceIte, reduceCtorEq, Nat.reduceEqDiff, Nat.reduceAdd, Nat.reduceSub, Nat.reduceMul, Nat.reduceLT, Nat.reduceLeDiff, Int.reduceLT, Int.reduceLE, Int.reduceEq, Int.reduceNe, Int.reduceToNat, Int.reduceAdd, Int.reduceSub, Int.reduceMul, Int.natCast_zero, e2', e3, e4, e5, e6, e6', e7']
            exact ⟨okD_of (by kernel_rfl), (pinsB_false hi' hq).symm⟩
        · have e2' : ¬ (0 : Int) < (i : Int) := by omega
          have tail := tail (by simp [e2])
          by_cases e6 : (el l i).he < 1
          · have hq := tail false (by rw [inB, decide_eq_false (by omega)]; rfl)
            simp only [go_sem, ↓reduceIte, reduceCtorEq, Nat.reduceEqDiff, Nat.reduceAdd, Nat.reduceSub, Nat.reduceMul, Nat.reduceLT, Nat.reduceLeDiff, Int.reduceLT, Int.reduceLE, Int.reduceEq, Int.reduceNe, Int.reduceToNat, Int.reduceAdd, Int.reduceSub, Int.reduceMul, Int.natCast_zero, e2', e6]
            exact ⟨okD_of (by kernel_rfl), (pinsB_false hi' hq).symm⟩
          by_cases e6' : 200 < (el l i).he
          · have hq := tail false (by rw [inB, decide_eq_false (by omega)]; rfl)
            simp only [go_sem, ↓reduceIte, reduceCtorEq, Nat.reduceEqDiff, Nat.reduceAdd, Nat.reduceSub, Nat.reduceMul, Nat.reduceLT, Nat.reduceLeDiff, Int.reduceLT, Int.reduceLE, Int.reduceEq, Int.reduceNe, Int.reduceToNat, Int.reduceAdd, Int.reduceSub, Int.reduceMul, Int.natCast_zero, e2', e6, e6']
            exact ⟨okD_of (by kernel_rfl), (pinsB_false hi' hq).symm⟩
          have e66 : inB (el l i).he 1 200 = true := decide_eq_true (by omega)
          by_cases e7 : (el l i).di.length = 32
          · have hq := tail true (by simp [e66, e7])
            have e7' : ((el l i).di.length : Int) = 32 := by omega
            simp only [go_sem, ↓reduceIte, reduceCtorEq, Nat.reduceEqDiff, Nat.reduceAdd, Nat.reduceSub, Nat.reduceMul, Nat.reduceLT, Nat.reduceLeDiff, Int.reduceLT, Int.reduceLE, Int.reduceEq, Int.reduceNe, Int.reduceToNat, Int.reduceAdd, Int.reduceSub, Int.reduceMul, Int.natCast_zero, e2', e6, e6', e7']
            refine ⟨okD_of (by kernel_rfl), i + 1, ⟨⟨by omega, fun j hj => ?_⟩, by omega⟩, by rw [wrapI] <;> omega⟩
            by_cases hji : j = i
            · rw [hji]; exact hq
            · exact hp j (by omega)
          · have hq := tail false (by simp [e7])
            have e7' : ¬ ((el l i).di.length : Int) = 32 := by omega
            simp only [go_sem, ↓reduceIte, reduceCtorEq, Nat.reduceEqDiff, Nat.reduceAdd, Nat.reduceSub, Nat.reduceMul, Nat.reduceLT, Nat.reduceLeDiff, Int.reduceLT, Int.reduceLE, Int.reduceEq, Int.reduceNe, Int.reduceToNat, Int.reduceAdd, Int.reduceSub, Int.reduceMul, Int.natCast_zero, e2', e6, e6', e7']
            exact ⟨okD_of (by kernel_rfl), (pinsB_false hi' hq).symm⟩
    · have hf : ¬ ((i : Int) < (l.length : Int)) := by omega
      have : i = l.length := by omega
      subst this
      simp only [go_sem, ↓reduceIte, reduceCtorEq, Nat.reduceEqDiff, Nat.reduceAdd, Nat.reduceSub, Nat.reduceMul, Nat.reduceLT, Nat.reduceLeDiff, Int.reduceLT, Int.reduceLE, Int.reduceEq, Int.reduceNe, Int.reduceToNat, Int.reduceAdd, Int.reduceSub, Int.reduceMul, Int.natCast_zero, hf]
      exact (pinsB_true hp).symm

def numsB (s : Stm) : Bool := inB s.nu 0 199 && (valB s.a && (valB s.b && (valB s.c && (!(s.li.any fun x => !valB x) && meantB s))))
theorem any_el {l : List Int} {p : Int → Bool} {i : Nat} (hi : i < l.length) (h : p (el l i) = true) : l.any p = true := List.any_eq_true.2 ⟨_, mem_of_el hi, h⟩
theorem any_no {l : List Int} {p : Int → Bool} (h : ∀ j, j < l.length → p (el l j) = false) : l.any p = false := by
  rw [List.any_eq_false]
  intro x hx
  obtain ⟨j, hj, rfl⟩ := el_of_mem hx
  rw [h j hj]; simp
theorem valB_eq (x : Int) : inB x 0 1099511627776 = valB x := rfl

set_option maxHeartbeats 1000000 in
set_option maxRecDepth 100000 in
theorem numbers3_den (s : Stm) (hl : big s.li.length) : Den Tryz.prog 163 [.agg (sm s)] [] (.bool (numsB s)) [] [] := by
  refine den_of Tryz.mixed Tryz.func163 rfl Tryz.call163 Tryz.ntmps163 (congrArg Array.toList Tryz.results163) (by simp) (by kernel_rfl) [] (exts := []) rfl rfl ?_
  generalize hm : numsB s = m
  simp only [go_sem, ↓reduceIte, reduceCtorEq, Nat.reduceEqDiff, Nat.reduceAdd, Nat.reduceSub, Nat.reduceMul, Nat.reduceLT, Nat.reduceLeDiff, Int.reduceLT, Int.reduceLE, Int.reduceEq, Int.reduceNe, Int.reduceToNat, Int.reduceAdd, Int.reduceSub, Int.reduceMul, Int.natCast_zero]
  refine call (in3_den s.nu 199) [] ?_
  cases e1 : inB s.nu 0 199
  · simp only [go_sem, ↓reduceIte, reduceCtorEq, Nat.reduceEqDiff, Nat.reduceAdd, Nat.reduceSub, Nat.reduceMul, Nat.reduceLT, Nat.reduceLeDiff, Int.reduceLT, Int.reduceLE, Int.reduceEq, Int.reduceNe, Int.reduceToNat, Int.reduceAdd, Int.reduceSub, Int.reduceMul, Int.natCast_zero]
    rw [← hm]; simp [numsB, e1]
  simp only [go_sem, ↓reduceIte, reduceCtorEq, Nat.reduceEqDiff, Nat.reduceAdd, Nat.reduceSub, Nat.reduceMul, Nat.reduceLT, Nat.reduceLeDiff, Int.reduceLT, Int.reduceLE, Int.reduceEq, Int.reduceNe, Int.reduceToNat, Int.reduceAdd, Int.reduceSub, Int.reduceMul, Int.natCast_zero]
  refine call (in3_den s.a 1099511627776) [] ?_
  rw [valB_eq]
  cases e2 : valB s.a
  · simp only [go_sem, ↓reduceIte, reduceCtorEq, Nat.reduceEqDiff, Nat.reduceAdd, Nat.reduceSub, Nat.reduceMul, Nat.reduceLT, Nat.reduceLeDiff, Int.reduceLT, Int.reduceLE, Int.reduceEq, Int.reduceNe, Int.reduceToNat, Int.reduceAdd, Int.reduceSub, Int.reduceMul, Int.natCast_zero]
    rw [← hm]; simp [numsB, e1, e2]
  simp only [go_sem, ↓reduceIte, reduceCtorEq, Nat.reduceEqDiff, Nat.reduceAdd, Nat.reduceSub, Nat.reduceMul, Nat.reduceLT, Nat.reduceLeDiff, Int.reduceLT, Int.reduceLE, Int.reduceEq, Int.reduceNe, Int.reduceToNat, Int.reduceAdd, Int.reduceSub, Int.reduceMul, Int.natCast_zero]
  refine call (in3_den s.b 1099511627776) [] ?_
  rw [valB_eq]
  cases e3 : valB s.b
  · simp only [go_sem, ↓reduceIte, reduceCtorEq, Nat.reduceEqDiff, Nat.reduceAdd, Nat.reduceSub, Nat.reduceMul, Nat.reduceLT, Nat.reduceLeDiff, Int.reduceLT, Int.reduceLE, Int.reduceEq, Int.reduceNe, Int.reduceToNat, Int.reduceAdd, Int.reduceSub, Int.reduceMul, Int.natCast_zero]
    rw [← hm]; simp [numsB, e1, e2, e3]
  simp only [go_sem, ↓reduceIte, reduceCtorEq, Nat.reduceEqDiff, Nat.reduceAdd, Nat.reduceSub, Nat.reduceMul, Nat.reduceLT, Nat.reduceLeDiff, Int.reduceLT, Int.reduceLE, Int.reduceEq, Int.reduceNe, Int.reduceToNat, Int.reduceAdd, Int.reduceSub, Int.reduceMul, Int.natCast_zero]
  refine call (in3_den s.c 1099511627776) [] ?_
  rw [valB_eq]
  cases e4 : valB s.c
  · simp only [go_sem, ↓reduceIte, reduceCtorEq, Nat.reduceEqDiff, Nat.reduceAdd, Nat.reduceSub, Nat.reduceMul, Nat.reduceLT, Nat.reduceLeDiff, Int.reduceLT, Int.reduceLE, Int.reduceEq, Int.reduceNe, Int.reduceToNat, Int.reduceAdd, Int.reduceSub, Int.reduceMul, Int.natCast_zero]
    rw [← hm]; simp [numsB, e1, e2, e3, e4]
  simp only [go_sem, ↓reduceIte, reduceCtorEq, Nat.reduceEqDiff, Nat.reduceAdd, Nat.reduceSub, Nat.reduceMul, Nat.reduceLT, Nat.reduceLeDiff, Int.reduceLT, Int.reduceLE, Int.reduceEq, Int.reduceNe, Int.reduceToNat, Int.reduceAdd, Int.reduceSub, Int.reduceMul, Int.natCast_zero]
  refine loop Tryz.mixed 0 (fun i : Nat => [(1, .ptr 1 0), (3, .int .i64 i)]) (fun i => [(1, .cells (sm s))]) (fun i => i ≤ s.li.length ∧ ∀ j, j < i → valB (el s.li j) = true) (fun i => s.li.length - i) (by kernel_rfl) ?_ ?_ ?_
  · simp
  · simp only [go_sem, ↓reduceIte, reduceCtorEq, Nat.reduceEqDiff, Nat.reduceAdd, Nat.reduceSub, Nat.reduceMul, Nat.reduceLT, Nat.reduceLeDiff, Int.reduceLT, Int.reduceLE, Int.reduceEq, Int.reduceNe, Int.reduceToNat, Int.reduceAdd, Int.reduceSub, Int.reduceMul, Int.natCast_zero]
  · rintro i ⟨hi, hp⟩
    by_cases hi' : i < s.li.length
    · have hlt : (i : Int) < (s.li.length : Int) := by omega
      simp only [go_sem, ↓reduceIte, reduceCtorEq, Nat.reduceEqDiff, Nat.reduceAdd, Nat.reduceSub, Nat.reduceMul, Nat.reduceLT, Nat.reduceLeDiff, Int.reduceLT, Int.reduceLE, Int.reduceEq, Int.reduceNe, Int.reduceToNat, Int.reduceAdd, Int.reduceSub, Int.reduceMul, Int.natCast_zero, hlt, hi']
      refine call (in3_den (el s.li i) 1099511627776) [] ?_
      rw [valB_eq]
      cases e5 : valB (el s.li i)
      · have := any_el (p := fun x => !valB x) hi' (by simp [e5])
        simp only [go_sem, ↓reduceIte, reduceCtorEq, Nat.reduceEqDiff, Nat.reduceAdd, Nat.reduceSub, Nat.reduceMul, Nat.reduceLT, Nat.reduceLeDiff, Int.reduceLT, Int.reduceLE, Int.reduceEq, Int.reduceNe, Int.reduceToNat, Int.reduceAdd, Int.reduceSub, Int.reduceMul, Int.natCast_zero]
        rw [← hm]; simp only [numsB, e1, e2, e3, e4, this]; simp
      · simp only [go_sem, ↓reduceIte, reduceCtorEq, Nat.reduceEqDiff, Nat.reduceAdd, Nat.reduceSub, Nat.reduceMul, Nat.reduceLT, Nat.reduceLeDiff, Int.reduceLT, Int.reduceLE, Int.reduceEq, Int.reduceNe, Int.reduceToNat, Int.reduceAdd, Int.reduceSub, Int.reduceMul, Int.natCast_zero]
        refine ⟨i + 1, ⟨⟨by omega, fun j hj => ?_⟩, by omega⟩, by rw [wrapI] <;> omega⟩
        by_cases hji : j = i
        · rw [hji]; exact e5
        · exact hp j (by omega)
    · have hf : ¬ ((i : Int) < (s.li.length : Int)) := by omega
      have : i = s.li.length := by omega
      subst this
      have e5 := any_no (l := s.li) (p := fun x => !valB x) fun j hj => by simp [hp j hj]
      have hm : meantB s = m := by rw [← hm]; simp only [numsB, e1, e2, e3, e4, e5]; simp
      clear hp
      by_cases k1 : s.kd = 1
      · have hmm : meantB s = (inB s.a 0 63 && decide (s.a ≠ s.au) && inB s.b 1 3 && inB s.c s.ti 2147483648) := if_pos k1
        rw [hmm] at hm
        clear hmm
        simp only [go_sem, ↓reduceIte, reduceCtorEq, Nat.reduceEqDiff, Nat.reduceAdd, Nat.reduceSub, Nat.reduceMul, Nat.reduceLT, Nat.reduceLeDiff, Int.reduceLT, Int.reduceLE, Int.reduceEq, Int.reduceNe, Int.reduceToNat, Int.reduceAdd, Int.reduceSub, Int.reduceMul, Int.natCast_zero, hf, k1]
        refine call (key3_den s.a) [] ?_
        cases f1 : inB s.a 0 63
        · rw [f1] at hm
          simp only [go_sem, ↓reduceIte, reduceCtorEq, Nat.reduceEqDiff, Nat.reduceAdd, Nat.reduceSub, Nat.reduceMul, Nat.reduceLT, Nat.reduceLeDiff, Int.reduceLT, Int.reduceLE, Int.reduceEq, Int.reduceNe, Int.reduceToNat, Int.reduceAdd, Int.reduceSub, Int.reduceMul, Int.natCast_zero]
          rw [← hm]; simp
        rw [f1] at hm
        by_cases f2 : s.a = s.au
        · simp only [go_sem, ↓reduceIte, reduceCtorEq, Nat.reduceEqDiff, Nat.reduceAdd, Nat.reduceSub, Nat.reduceMul, Nat.reduceLT, Nat.reduceLeDiff, Int.reduceLT, Int.reduceLE, Int.reduceEq, Int.reduceNe, Int.reduceToNat, Int.reduceAdd, Int.reduceSub, Int.reduceMul, Int.natCast_zero, f2]
          rw [← hm]; simp [f2]
        by_cases f3 : 1 ≤ s.b
        rotate_left
        · have : inB s.b 1 3 = false := decide_eq_false (by omega)
          simp only [go_sem, ↓reduceIte, reduceCtorEq, Nat.reduceEqDiff, Nat.reduceAdd, Nat.reduceSub, Nat.reduceMul, Nat.reduceLT, Nat.reduceLeDiff, Int.reduceLT, Int.reduceLE, Int.reduceEq, Int.reduceNe, Int.reduceToNat, Int.reduceAdd, Int.reduceSub, Int.reduceMul, Int.natCast_zero, f2, f3]
          rw [← hm]; simp [this]
        by_cases f4 : s.b ≤ 3
        rotate_left
        · have : inB s.b 1 3 = false := decide_eq_false (by omega)
          simp only [go_sem, ↓reduceIte, reduceCtorEq, Nat.reduceEqDiff, Nat.reduceAdd, Nat.reduceSub, Nat.reduceMul, Nat.reduceLT, Nat.reduceLeDiff, Int.reduceLT, Int.reduceLE, Int.reduceEq, Int.reduceNe, Int.reduceToNat, Int.reduceAdd, Int.reduceSub, Int.reduceMul, Int.natCast_zero, f2, f3, f4]
          rw [← hm]; simp [this]
        have h5 : inB s.b 1 3 = true := decide_eq_true (by omega)
        by_cases f5 : s.ti ≤ s.c
        rotate_left
        · have : inB s.c s.ti 2147483648 = false := decide_eq_false (by omega)
          simp only [go_sem, ↓reduceIte, reduceCtorEq, Nat.reduceEqDiff, Nat.reduceAdd, Nat.reduceSub, Nat.reduceMul, Nat.reduceLT, Nat.reduceLeDiff, Int.reduceLT, Int.reduceLE, Int.reduceEq, Int.reduceNe, Int.reduceToNat, Int.reduceAdd, Int.reduceSub, Int.reduceMul, Int.natCast_zero, f2, f3, f4, f5]
          rw [← hm]; simp [this]
        by_cases f6 : s.c ≤ 2147483648
        · have : inB s.c s.ti 2147483648 = true := decide_eq_true (by omega)
          simp only [go_sem, ↓reduceIte, reduceCtorEq, Nat.reduceEqDiff, Nat.reduceAdd, Nat.reduceSub, Nat.reduceMul, Nat.reduceLT, Nat.reduceLeDiff, Int.reduceLT, Int.reduceLE, Int.reduceEq, Int.reduceNe, Int.reduceToNat, Int.reduceAdd, Int.reduceSub, Int.reduceMul, Int.natCast_zero, f2, f3, f4, f5, f6]
          rw [← hm]; simp [this, h5, f2]
        · have : inB s.c s.ti 2147483648 = false := decide_eq_false (by omega)
          simp only [go_sem, ↓reduceIte, reduceCtorEq, Nat.reduceEqDiff, Nat.reduceAdd, Nat.reduceSub, Nat.reduceMul, Nat.reduceLT, Nat.reduceLeDiff, Int.reduceLT, Int.reduceLE, Int.reduceEq, Int.reduceNe, Int.reduceToNat, Int.reduceAdd, Int.reduceSub, Int.reduceMul, Int.natCast_zero, f2, f3, f4, f5, f6]
          rw [← hm]; simp [this]
      by_cases k2 : s.kd = 2
      · have hmm : meantB s = (inB s.a 0 199 && decide (s.b = 0) && decide (s.c = 0)) := by rw [meantB, if_neg k1, if_pos k2]
        rw [hmm] at hm
        clear hmm
        simp only [go_sem, ↓reduceIte, reduceCtorEq, Nat.reduceEqDiff, Nat.reduceAdd, Nat.reduceSub, Nat.reduceMul, Nat.reduceLT, Nat.reduceLeDiff, Int.reduceLT, Int.reduceLE, Int.reduceEq, Int.reduceNe, Int.reduceToNat, Int.reduceAdd, Int.reduceSub, Int.reduceMul, Int.natCast_zero, hf, k1, k2]
        refine call (in3_den s.a 199) [] ?_
        cases f1 : inB s.a 0 199
        · rw [f1] at hm
          simp only [go_sem, ↓reduceIte, reduceCtorEq, Nat.reduceEqDiff, Nat.reduceAdd, Nat.reduceSub, Nat.reduceMul, Nat.reduceLT, Nat.reduceLeDiff, Int.reduceLT, Int.reduceLE, Int.reduceEq, Int.reduceNe, Int.reduceToNat, Int.reduceAdd, Int.reduceSub, Int.reduceMul, Int.natCast_zero]
          rw [← hm]; simp
        rw [f1] at hm
        by_cases f2 : s.b = 0
        · simp only [go_sem, ↓reduceIte, reduceCtorEq, Nat.reduceEqDiff, Nat.reduceAdd, Nat.reduceSub, Nat.reduceMul, Nat.reduceLT, Nat.reduceLeDiff, Int.reduceLT, Int.reduceLE, Int.reduceEq, Int.reduceNe, Int.reduceToNat, Int.reduceAdd, Int.reduceSub, Int.reduceMul, Int.natCast_zero, f2]
          rw [← hm]; simp [f2]
        · simp only [go_sem, ↓reduceIte, reduceCtorEq, Nat.reduceEqDiff, Nat.reduceAdd, Nat.reduceSub, Nat.reduceMul, Nat.reduceLT, Nat.reduceLeDiff, Int.reduceLT, Int.reduceLE, Int.reduceEq, Int.reduceNe, Int.reduceToNat, Int.reduceAdd, Int.reduceSub, Int.reduceMul, Int.natCast_zero, f2]
          rw [← hm]; simp [f2]
      by_cases k3 : s.kd = 3
      · have hmm : meantB s = (decide (s.a = 0) && decide (s.b = 0) && decide (s.c = 0)) := by rw [meantB, if_neg k1, if_neg k2, if_pos k3]
        rw [hmm] at hm
        clear hmm
        by_cases f1 : s.a = 0
        · by_cases f2 : s.b = 0
          · simp only [go_sem, ↓reduceIte, reduceCtorEq, Nat.reduceEqDiff, Nat.reduceAdd, Nat.reduceSub, Nat.reduceMul, Nat.reduceLT, Nat.reduceLeDiff, Int.reduceLT, Int.reduceLE, Int.reduceEq, Int.reduceNe, Int.reduceToNat, Int.reduceAdd, Int.reduceSub, Int.reduceMul, Int.natCast_zero, hf, k1, k2, k3, f1, f2]
            rw [← hm]; simp [f1, f2]
          · simp only [go_sem, ↓reduceIte, reduceCtorEq, Nat.reduceEqDiff, Nat.reduceAdd, Nat.reduceSub, Nat.reduceMul, Nat.reduceLT, Nat.reduceLeDiff, Int.reduceLT, Int.reduceLE, Int.reduceEq, Int.reduceNe, Int.reduceToNat, Int.reduceAdd, Int.reduceSub, Int.reduceMul, Int.natCast_zero, hf, k1, k2, k3, f1, f2]
            rw [← hm]; simp [f2]
        · simp only [go_sem, ↓reduceIte, reduceCtorEq, Nat.reduceEqDiff, Nat.reduceAdd, Nat.reduceSub, Nat.reduceMul, Nat.reduceLT, Nat.reduceLeDiff, Int.reduceLT, Int.reduceLE, Int.reduceEq, Int.reduceNe, Int.reduceToNat, Int.reduceAdd, Int.reduceSub, Int.reduceMul, Int.natCast_zero, hf, k1, k2, k3, f1]
          rw [← hm]; simp [f1]
      · have hmm : meantB s = true := by rw [meantB, if_neg k1, if_neg k2, if_neg k3]
        simp only [go_sem, ↓reduceIte, reduceCtorEq, Nat.reduceEqDiff, Nat.reduceAdd, Nat.reduceSub, Nat.reduceMul, Nat.reduceLT, Nat.reduceLeDiff, Int.reduceLT, Int.reduceLE, Int.reduceEq, Int.reduceNe, Int.reduceToNat, Int.reduceAdd, Int.reduceSub, Int.reduceMul, Int.natCast_zero, hf, k1, k2, k3]
        rw [← hm]; exact hmm.symm

theorem nums_t {s : Stm} (h : numsB s = true) : (!inB s.nu 0 199 || !valB s.a || !valB s.b || !valB s.c || !meantB s || s.li.any fun x => !valB x) = false := by
  simp only [numsB, Bool.and_eq_true, Bool.not_eq_true'] at h
  obtain ⟨h1, h2, h3, h4, h5, h6⟩ := h
  simp only [h1, h2, h3, h4, h5, h6]; rfl
theorem nums_f {s : Stm} (h : numsB s = false) : (!inB s.nu 0 199 || !valB s.a || !valB s.b || !valB s.c || !meantB s || s.li.any fun x => !valB x) = true := by
  cases hh : (!inB s.nu 0 199 || !valB s.a || !valB s.b || !valB s.c || !meantB s || s.li.any fun x => !valB x) with
  | true => rfl
  | false =>
    simp only [Bool.or_eq_false_iff, Bool.not_eq_false'] at hh
    obtain ⟨⟨⟨⟨⟨h1, h2⟩, h3⟩, h4⟩, h5⟩, h6⟩ := hh
    rw [numsB, h1, h2, h3, h4, h5, h6] at h
    cases h

set_option maxHeartbeats 1000000 in
set_option maxRecDepth 100000 in
theorem rcheck_denB (s : Stm) (hs : bigS s) : Den Tryz.prog 130 [.agg (sm s)] [] (.int .i64 (checkE s)) [] [] := by
  obtain ⟨hbl, hbp⟩ := hs
  refine den_of Tryz.mixed Tryz.func130 rfl Tryz.call130 Tryz.ntmps130 (congrArg Array.toList Tryz.results130) (by simp) (by kernel_rfl) [] (exts := []) rfl rfl ?_
  generalize hm : checkE s = m
  have cn := numbers3_den s hbl
  rw [sm_eq] at cn
  have cp := pinsOK_den s.pins hbp
  simp only [go_sem, ↓reduceIte, reduceCtorEq, Nat.reduceEqDiff, Nat.reduceAdd, Nat.reduceSub, Nat.reduceMul, Nat.reduceLT, Nat.reduceLeDiff, Int.reduceLT, Int.reduceLE, Int.reduceEq, Int.reduceNe, Int.reduceToNat, Int.reduceAdd, Int.reduceSub, Int.reduceMul, Int.natCast_zero]
  refine call (key3_den s.au) [] ?_
  cases e1 : inB s.au 0 63
  · simp only [go_sem, ↓reduceIte, reduceCtorEq, Nat.reduceEqDiff, Nat.reduceAdd, Nat.reduceSub, Nat.reduceMul, Nat.reduceLT, Nat.reduceLeDiff, Int.reduceLT, Int.reduceLE, Int.reduceEq, Int.reduceNe, Int.reduceToNat, Int.reduceAdd, Int.reduceSub, Int.reduceMul, Int.natCast_zero]
    rw [← hm]; simp only [checkE, e1]; rfl
  by_cases k1 : s.kd < 1
  · have ek : (!inB s.kd 1 3 && !inB s.kd 10 31) = true := by rw [inB, inB, decide_eq_false (by omega), decide_eq_false (by omega)]; rfl
    simp only [go_sem, ↓reduceIte, reduceCtorEq, Nat.reduceEqDiff, Nat.reduceAdd, Nat.reduceSub, Nat.reduceMul, Nat.reduceLT, Nat.reduceLeDiff, Int.reduceLT, Int.reduceLE, Int.reduceEq, Int.reduceNe, Int.reduceToNat, Int.reduceAdd, Int.reduceSub, Int.reduceMul, Int.natCast_zero, k1]
    rw [← hm]; simp only [checkE, e1, ek]; rfl
  by_cases kk : s.kd ≤ 3
  · have k2 : ¬ 3 < s.kd := by omega
    have k4 : ¬ 31 < s.kd := by omega
    have ek : (!inB s.kd 1 3 && !inB s.kd 10 31) = false := by rw [inB, decide_eq_true (by omega)]; rfl
    simp only [go_sem, ↓reduceIte, reduceCtorEq, Nat.reduceEqDiff, Nat.reduceAdd, Nat.reduceSub, Nat.reduceMul, Nat.reduceLT, Nat.reduceLeDiff, Int.reduceLT, Int.reduceLE, Int.reduceEq, Int.reduceNe, Int.reduceToNat, Int.reduceAdd, Int.reduceSub, Int.reduceMul, Int.natCast_zero, k1, k2, k4, kk]
    refine call (in3_den s.ti 2147483648) [] ?_
    cases e4 : inB s.ti 0 2147483648
    · simp only [go_sem, ↓reduceIte, reduceCtorEq, Nat.reduceEqDiff, Nat.reduceAdd, Nat.reduceSub, Nat.reduceMul, Nat.reduceLT, Nat.reduceLeDiff, Int.reduceLT, Int.reduceLE, Int.reduceEq, Int.reduceNe, Int.reduceToNat, Int.reduceAdd, Int.reduceSub, Int.reduceMul, Int.natCast_zero]
      rw [← hm]; simp [checkE, e1, ek, e4]
    simp only [go_sem, ↓reduceIte, reduceCtorEq, Nat.reduceEqDiff, Nat.reduceAdd, Nat.reduceSub, Nat.reduceMul, Nat.reduceLT, Nat.reduceLeDiff, Int.reduceLT, Int.reduceLE, Int.reduceEq, Int.reduceNe, Int.reduceToNat, Int.reduceAdd, Int.reduceSub, Int.reduceMul, Int.natCast_zero]
    refine call cn [] ?_
    cases e5 : numsB s
    · have e5' := nums_f e5
      simp only [go_sem, ↓reduceIte, reduceCtorEq, Nat.reduceEqDiff, Nat.reduceAdd, Nat.reduceSub, Nat.reduceMul, Nat.reduceLT, Nat.reduceLeDiff, Int.reduceLT, Int.reduceLE, Int.reduceEq, Int.reduceNe, Int.reduceToNat, Int.reduceAdd, Int.reduceSub, Int.reduceMul, Int.natCast_zero]
      rw [← hm]; simp only [checkE, e1, ek, e4, e5']; rfl
    have e5' := nums_t e5
    by_cases l1 : (64 : Int) < (s.li.length : Int)
    · have elen : (decide (64 < s.li.length) || decide (64 < s.pins.length) || decide (4096 < s.body.length)) = true := by simp; omega
      simp only [go_sem, ↓reduceIte, reduceCtorEq, Nat.reduceEqDiff, Nat.reduceAdd, Nat.reduceSub, Nat.reduceMul, Nat.reduceLT, Nat.reduceLeDiff, Int.reduceLT, Int.reduceLE, Int.reduceEq, Int.reduceNe, Int.reduceToNat, Int.reduceAdd, Int.reduceSub, Int.reduceMul, Int.natCast_zero, l1]
      rw [← hm]; simp only [checkE, e1, ek, e4, e5', elen]; rfl
    by_cases l2 : (64 : Int) < (s.pins.length : Int)
    · have elen : (decide (64 < s.li.length) || decide (64 < s.pins.length) || decide (4096 < s.body.length)) = true := by simp; omega
      simp only [go_sem, ↓reduceIte, reduceCtorEq, Nat.reduceEqDiff, Nat.reduceAdd, Nat.reduceSub, Nat.reduceMul, Nat.reduceLT, Nat.reduceLeDiff, Int.reduceLT, Int.reduceLE, Int.reduceEq, Int.reduceNe, Int.reduceToNat, Int.reduceAdd, Int.reduceSub, Int.reduceMul, Int.natCast_zero, l1, l2]
      rw [← hm]; simp only [checkE, e1, ek, e4, e5', elen]; rfl
    by_cases l3 : (4096 : Int) < (s.body.length : Int)
    · have elen : (decide (64 < s.li.length) || decide (64 < s.pins.length) || decide (4096 < s.body.length)) = true := by simp; omega
      simp only [go_sem, ↓reduceIte, reduceCtorEq, Nat.reduceEqDiff, Nat.reduceAdd, Nat.reduceSub, Nat.reduceMul, Nat.reduceLT, Nat.reduceLeDiff, Int.reduceLT, Int.reduceLE, Int.reduceEq, Int.reduceNe, Int.reduceToNat, Int.reduceAdd, Int.reduceSub, Int.reduceMul, Int.natCast_zero, l1, l2, l3]
      rw [← hm]; simp only [checkE, e1, ek, e4, e5', elen]; rfl
    have elen : (decide (64 < s.li.length) || decide (64 < s.pins.length) || decide (4096 < s.body.length)) = false := by simp; omega
    have hm : (if ((decide (s.nu = 0) && decide (s.prev ≠ [])) || (decide (0 < s.nu) && decide (s.prev.length ≠ 32)) || !pinsB s.pins || (decide (s.kd ≤ 3) && decide (0 < s.li.length + s.pins.length + s.body.length))) = true then 1
      else (0 : Int)) = m := by rw [← hm]; simp only [checkE, e1, ek, e4, e5', elen]; rfl
    by_cases n0 : s.nu = 0
    · by_cases n1 : s.prev = []
      · skip
        simp only [go_sem, ↓reduceIte, reduceCtorEq, Nat.reduceEqDiff, Nat.reduceAdd, Nat.reduceSub, Nat.reduceMul, Nat.reduceLT, Nat.reduceLeDiff, Int.reduceLT, Int.reduceLE, Int.reduceEq, Int.reduceNe, Int.reduceToNat, Int.reduceAdd, Int.reduceSub, Int.reduceMul, Int.natCast_zero, l1, l2, l3, n0, n1]
        refine call cp [] ?_
        cases e14 : pinsB s.pins
        · simp only [go_sem, ↓reduceIte, reduceCtorEq, Nat.reduceEqDiff, Nat.reduceAdd, Nat.reduceSub, Nat.reduceMul, Nat.reduceLT, Nat.reduceLeDiff, Int.reduceLT, Int.reduceLE, Int.reduceEq, Int.reduceNe, Int.reduceToNat, Int.reduceAdd, Int.reduceSub, Int.reduceMul, Int.natCast_zero]
          rw [← hm]; simp [e14]
        by_cases g1 : (0 : Int) < (s.li.length : Int)
        · simp only [go_sem, ↓reduceIte, reduceCtorEq, Nat.reduceEqDiff, Nat.reduceAdd, Nat.reduceSub, Nat.reduceMul, Nat.reduceLT, Nat.reduceLeDiff, Int.reduceLT, Int.reduceLE, Int.reduceEq, Int.reduceNe, Int.reduceToNat, Int.reduceAdd, Int.reduceSub, Int.reduceMul, Int.natCast_zero, kk, g1]
          rw [if_pos (by simp [kk]; omega)] at hm
          exact hm
        by_cases g2 : (0 : Int) < (s.pins.length : Int)
        · simp only [go_sem, ↓reduceIte, reduceCtorEq, Nat.reduceEqDiff, Nat.reduceAdd, Nat.reduceSub, Nat.reduceMul, Nat.reduceLT, Nat.reduceLeDiff, Int.reduceLT, Int.reduceLE, Int.reduceEq, Int.reduceNe, Int.reduceToNat, Int.reduceAdd, Int.reduceSub, Int.reduceMul, Int.natCast_zero, kk, g1, g2]
          rw [if_pos (by simp [kk]; omega)] at hm
          exact hm
        by_cases g3 : s.body = []
        · simp only [go_sem, ↓reduceIte, reduceCtorEq, Nat.reduceEqDiff, Nat.reduceAdd, Nat.reduceSub, Nat.reduceMul, Nat.reduceLT, Nat.reduceLeDiff, Int.reduceLT, Int.reduceLE, Int.reduceEq, Int.reduceNe, Int.reduceToNat, Int.reduceAdd, Int.reduceSub, Int.reduceMul, Int.natCast_zero, kk, g1, g2, g3]
          have g4 : s.body.length = 0 := by rw [g3]; rfl
          have elz : decide (0 < s.li.length + s.pins.length + s.body.length) = false := decide_eq_false (by omega)
          rw [elz, e14, if_neg (by simp [n0, n1])] at hm
          exact hm
        · have : 0 < s.body.length := List.length_pos_iff.2 g3
          simp only [go_sem, ↓reduceIte, reduceCtorEq, Nat.reduceEqDiff, Nat.reduceAdd, Nat.reduceSub, Nat.reduceMul, Nat.reduceLT, Nat.reduceLeDiff, Int.reduceLT, Int.reduceLE, Int.reduceEq, Int.reduceNe, Int.reduceToNat, Int.reduceAdd, Int.reduceSub, Int.reduceMul, Int.natCast_zero, kk, g1, g2, g3]
          rw [if_pos (by simp [kk]; omega)] at hm
          exact hm
      · simp only [go_sem, ↓reduceIte, reduceCtorEq, Nat.reduceEqDiff, Nat.reduceAdd, Nat.reduceSub, Nat.reduceMul, Nat.reduceLT, Nat.reduceLeDiff, Int.reduceLT, Int.reduceLE, Int.reduceEq, Int.reduceNe, Int.reduceToNat, Int.reduceAdd, Int.reduceSub, Int.reduceMul, Int.natCast_zero, l1, l2, l3, n0, n1]
        rw [if_pos (by simp [n0, n1])] at hm
        exact hm
    by_cases n2 : 0 < s.nu
    · by_cases n3 : (s.prev.length : Int) = 32
      · have n3' : s.prev.length = 32 := by omega
        simp only [go_sem, ↓reduceIte, reduceCtorEq, Nat.reduceEqDiff, Nat.reduceAdd, Nat.reduceSub, Nat.reduceMul, Nat.reduceLT, Nat.reduceLeDiff, Int.reduceLT, Int.reduceLE, Int.reduceEq, Int.reduceNe, Int.reduceToNat, Int.reduceAdd, Int.reduceSub, Int.reduceMul, Int.natCast_zero, l1, l2, l3, n0, n2, n3]
        refine call cp [] ?_
        cases e14 : pinsB s.pins
        · simp only [go_sem, ↓reduceIte, reduceCtorEq, Nat.reduceEqDiff, Nat.reduceAdd, Nat.reduceSub, Nat.reduceMul, Nat.reduceLT, Nat.reduceLeDiff, Int.reduceLT, Int.reduceLE, Int.reduceEq, Int.reduceNe, Int.reduceToNat, Int.reduceAdd, Int.reduceSub, Int.reduceMul, Int.natCast_zero]
          rw [← hm]; simp [e14]
        by_cases g1 : (0 : Int) < (s.li.length : Int)
        · simp only [go_sem, ↓reduceIte, reduceCtorEq, Nat.reduceEqDiff, Nat.reduceAdd, Nat.reduceSub, Nat.reduceMul, Nat.reduceLT, Nat.reduceLeDiff, Int.reduceLT, Int.reduceLE, Int.reduceEq, Int.reduceNe, Int.reduceToNat, Int.reduceAdd, Int.reduceSub, Int.reduceMul, Int.natCast_zero, kk, g1]
          rw [if_pos (by simp [kk]; omega)] at hm
          exact hm
        by_cases g2 : (0 : Int) < (s.pins.length : Int)
        · simp only [go_sem, ↓reduceIte, reduceCtorEq, Nat.reduceEqDiff, Nat.reduceAdd, Nat.reduceSub, Nat.reduceMul, Nat.reduceLT, Nat.reduceLeDiff, Int.reduceLT, Int.reduceLE, Int.reduceEq, Int.reduceNe, Int.reduceToNat, Int.reduceAdd, Int.reduceSub, Int.reduceMul, Int.natCast_zero, kk, g1, g2]
          rw [if_pos (by simp [kk]; omega)] at hm
          exact hm
        by_cases g3 : s.body = []
        · simp only [go_sem, ↓reduceIte, reduceCtorEq, Nat.reduceEqDiff, Nat.reduceAdd, Nat.reduceSub, Nat.reduceMul, Nat.reduceLT, Nat.reduceLeDiff, Int.reduceLT, Int.reduceLE, Int.reduceEq, Int.reduceNe, Int.reduceToNat, Int.reduceAdd, Int.reduceSub, Int.reduceMul, Int.natCast_zero, kk, g1, g2, g3]
          have g4 : s.body.length = 0 := by rw [g3]; rfl
          have elz : decide (0 < s.li.length + s.pins.length + s.body.length) = false := decide_eq_false (by omega)
          rw [elz, e14, if_neg (by simp [n0, n2, n3'])] at hm
          exact hm
        · have : 0 < s.body.length := List.length_pos_iff.2 g3
          simp only [go_sem, ↓reduceIte, reduceCtorEq, Nat.reduceEqDiff, Nat.reduceAdd, Nat.reduceSub, Nat.reduceMul, Nat.reduceLT, Nat.reduceLeDiff, Int.reduceLT, Int.reduceLE, Int.reduceEq, Int.reduceNe, Int.reduceToNat, Int.reduceAdd, Int.reduceSub, Int.reduceMul, Int.natCast_zero, kk, g1, g2, g3]
          rw [if_pos (by simp [kk]; omega)] at hm
          exact hm
      · have n3' : ¬ s.prev.length = 32 := by omega
        simp only [go_sem, ↓reduceIte, reduceCtorEq, Nat.reduceEqDiff, Nat.reduceAdd, Nat.reduceSub, Nat.reduceMul, Nat.reduceLT, Nat.reduceLeDiff, Int.reduceLT, Int.reduceLE, Int.reduceEq, Int.reduceNe, Int.reduceToNat, Int.reduceAdd, Int.reduceSub, Int.reduceMul, Int.natCast_zero, l1, l2, l3, n0, n2, n3]
        rw [if_pos (by simp [n2, n3'])] at hm
        exact hm
    simp only [go_sem, ↓reduceIte, reduceCtorEq, Nat.reduceEqDiff, Nat.reduceAdd, Nat.reduceSub, Nat.reduceMul, Nat.reduceLT, Nat.reduceLeDiff, Int.reduceLT, Int.reduceLE, Int.reduceEq, Int.reduceNe, Int.reduceToNat, Int.reduceAdd, Int.reduceSub, Int.reduceMul, Int.natCast_zero, l1, l2, l3, n0, n2]
    refine call cp [] ?_
    cases e14 : pinsB s.pins
    · simp only [go_sem, ↓reduceIte, reduceCtorEq, Nat.reduceEqDiff, Nat.reduceAdd, Nat.reduceSub, Nat.reduceMul, Nat.reduceLT, Nat.reduceLeDiff, Int.reduceLT, Int.reduceLE, Int.reduceEq, Int.reduceNe, Int.reduceToNat, Int.reduceAdd, Int.reduceSub, Int.reduceMul, Int.natCast_zero]
      rw [← hm]; simp [e14]
    by_cases g1 : (0 : Int) < (s.li.length : Int)
    · simp only [go_sem, ↓reduceIte, reduceCtorEq, Nat.reduceEqDiff, Nat.reduceAdd, Nat.reduceSub, Nat.reduceMul, Nat.reduceLT, Nat.reduceLeDiff, Int.reduceLT, Int.reduceLE, Int.reduceEq, Int.reduceNe, Int.reduceToNat, Int.reduceAdd, Int.reduceSub, Int.reduceMul, Int.natCast_zero, kk, g1]
      rw [if_pos (by simp [kk]; omega)] at hm
      exact hm
    by_cases g2 : (0 : Int) < (s.pins.length : Int)
    · simp only [go_sem, ↓reduceIte, reduceCtorEq, Nat.reduceEqDiff, Nat.reduceAdd, Nat.reduceSub, Nat.reduceMul, Nat.reduceLT, Nat.reduceLeDiff, Int.reduceLT, Int.reduceLE, Int.reduceEq, Int.reduceNe, Int.reduceToNat, Int.reduceAdd, Int.reduceSub, Int.reduceMul, Int.natCast_zero, kk, g1, g2]
      rw [if_pos (by simp [kk]; omega)] at hm
      exact hm
    by_cases g3 : s.body = []
    · simp only [go_sem, ↓reduceIte, reduceCtorEq, Nat.reduceEqDiff, Nat.reduceAdd, Nat.reduceSub, Nat.reduceMul, Nat.reduceLT, Nat.reduceLeDiff, Int.reduceLT, Int.reduceLE, Int.reduceEq, Int.reduceNe, Int.reduceToNat, Int.reduceAdd, Int.reduceSub, Int.reduceMul, Int.natCast_zero, kk, g1, g2, g3]
      have g4 : s.body.length = 0 := by rw [g3]; rfl
      have elz : decide (0 < s.li.length + s.pins.length + s.body.length) = false := decide_eq_false (by omega)
      rw [elz, e14, if_neg (by simp [n0, n2])] at hm
      exact hm
    · have : 0 < s.body.length := List.length_pos_iff.2 g3
      simp only [go_sem, ↓reduceIte, reduceCtorEq, Nat.reduceEqDiff, Nat.reduceAdd, Nat.reduceSub, Nat.reduceMul, Nat.reduceLT, Nat.reduceLeDiff, Int.reduceLT, Int.reduceLE, Int.reduceEq, Int.reduceNe, Int.reduceToNat, Int.reduceAdd, Int.reduceSub, Int.reduceMul, Int.natCast_zero, kk, g1, g2, g3]
      rw [if_pos (by simp [kk]; omega)] at hm
      exact hm
  have k2 : 3 < s.kd := by omega
  by_cases k3 : s.kd < 10
  · have ek : (!inB s.kd 1 3 && !inB s.kd 10 31) = true := by rw [inB, inB, decide_eq_false (by omega), decide_eq_false (by omega)]; rfl
    simp only [go_sem, ↓reduceIte, reduceCtorEq, Nat.reduceEqDiff, Nat.reduceAdd, Nat.reduceSub, Nat.reduceMul, Nat.reduceLT, Nat.reduceLeDiff, Int.reduceLT, Int.reduceLE, Int.reduceEq, Int.reduceNe, Int.reduceToNat, Int.reduceAdd, Int.reduceSub, Int.reduceMul, Int.natCast_zero, k1, k2, k3]
    rw [← hm]; simp only [checkE, e1, ek]; rfl
  by_cases k4 : 31 < s.kd
  · have ek : (!inB s.kd 1 3 && !inB s.kd 10 31) = true := by rw [inB, inB, decide_eq_false (by omega), decide_eq_false (by omega)]; rfl
    simp only [go_sem, ↓reduceIte, reduceCtorEq, Nat.reduceEqDiff, Nat.reduceAdd, Nat.reduceSub, Nat.reduceMul, Nat.reduceLT, Nat.reduceLeDiff, Int.reduceLT, Int.reduceLE, Int.reduceEq, Int.reduceNe, Int.reduceToNat, Int.reduceAdd, Int.reduceSub, Int.reduceMul, Int.natCast_zero, k1, k2, k3, k4]
    rw [← hm]; simp only [checkE, e1, ek]; rfl
  have ek : (!inB s.kd 1 3 && !inB s.kd 10 31) = false := by rw [inB, inB, decide_eq_false (by omega), decide_eq_true (by omega)]; rfl
  simp only [go_sem, ↓reduceIte, reduceCtorEq, Nat.reduceEqDiff, Nat.reduceAdd, Nat.reduceSub, Nat.reduceMul, Nat.reduceLT, Nat.reduceLeDiff, Int.reduceLT, Int.reduceLE, Int.reduceEq, Int.reduceNe, Int.reduceToNat, Int.reduceAdd, Int.reduceSub, Int.reduceMul, Int.natCast_zero, k1, k2, k3, k4]
  refine call (in3_den s.ti 2147483648) [] ?_
  cases e4 : inB s.ti 0 2147483648
  · simp only [go_sem, ↓reduceIte, reduceCtorEq, Nat.reduceEqDiff, Nat.reduceAdd, Nat.reduceSub, Nat.reduceMul, Nat.reduceLT, Nat.reduceLeDiff, Int.reduceLT, Int.reduceLE, Int.reduceEq, Int.reduceNe, Int.reduceToNat, Int.reduceAdd, Int.reduceSub, Int.reduceMul, Int.natCast_zero]
    rw [← hm]; simp [checkE, e1, ek, e4]
  simp only [go_sem, ↓reduceIte, reduceCtorEq, Nat.reduceEqDiff, Nat.reduceAdd, Nat.reduceSub, Nat.reduceMul, Nat.reduceLT, Nat.reduceLeDiff, Int.reduceLT, Int.reduceLE, Int.reduceEq, Int.reduceNe, Int.reduceToNat, Int.reduceAdd, Int.reduceSub, Int.reduceMul, Int.natCast_zero]
  refine call cn [] ?_
  cases e5 : numsB s
  · have e5' := nums_f e5
    simp only [go_sem, ↓reduceIte, reduceCtorEq, Nat.reduceEqDiff, Nat.reduceAdd, Nat.reduceSub, Nat.reduceMul, Nat.reduceLT, Nat.reduceLeDiff, Int.reduceLT, Int.reduceLE, Int.reduceEq, Int.reduceNe, Int.reduceToNat, Int.reduceAdd, Int.reduceSub, Int.reduceMul, Int.natCast_zero]
    rw [← hm]; simp only [checkE, e1, ek, e4, e5']; rfl
  have e5' := nums_t e5
  by_cases l1 : (64 : Int) < (s.li.length : Int)
  · have elen : (decide (64 < s.li.length) || decide (64 < s.pins.length) || decide (4096 < s.body.length)) = true := by simp; omega
    simp only [go_sem, ↓reduceIte, reduceCtorEq, Nat.reduceEqDiff, Nat.reduceAdd, Nat.reduceSub, Nat.reduceMul, Nat.reduceLT, Nat.reduceLeDiff, Int.reduceLT, Int.reduceLE, Int.reduceEq, Int.reduceNe, Int.reduceToNat, Int.reduceAdd, Int.reduceSub, Int.reduceMul, Int.natCast_zero, l1]
    rw [← hm]; simp only [checkE, e1, ek, e4, e5', elen]; rfl
  by_cases l2 : (64 : Int) < (s.pins.length : Int)
  · have elen : (decide (64 < s.li.length) || decide (64 < s.pins.length) || decide (4096 < s.body.length)) = true := by simp; omega
    simp only [go_sem, ↓reduceIte, reduceCtorEq, Nat.reduceEqDiff, Nat.reduceAdd, Nat.reduceSub, Nat.reduceMul, Nat.reduceLT, Nat.reduceLeDiff, Int.reduceLT, Int.reduceLE, Int.reduceEq, Int.reduceNe, Int.reduceToNat, Int.reduceAdd, Int.reduceSub, Int.reduceMul, Int.natCast_zero, l1, l2]
    rw [← hm]; simp only [checkE, e1, ek, e4, e5', elen]; rfl
  by_cases l3 : (4096 : Int) < (s.body.length : Int)
  · have elen : (decide (64 < s.li.length) || decide (64 < s.pins.length) || decide (4096 < s.body.length)) = true := by simp; omega
    simp only [go_sem, ↓reduceIte, reduceCtorEq, Nat.reduceEqDiff, Nat.reduceAdd, Nat.reduceSub, Nat.reduceMul, Nat.reduceLT, Nat.reduceLeDiff, Int.reduceLT, Int.reduceLE, Int.reduceEq, Int.reduceNe, Int.reduceToNat, Int.reduceAdd, Int.reduceSub, Int.reduceMul, Int.natCast_zero, l1, l2, l3]
    rw [← hm]; simp only [checkE, e1, ek, e4, e5', elen]; rfl
  have elen : (decide (64 < s.li.length) || decide (64 < s.pins.length) || decide (4096 < s.body.length)) = false := by simp; omega
  have hm : (if ((decide (s.nu = 0) && decide (s.prev ≠ [])) || (decide (0 < s.nu) && decide (s.prev.length ≠ 32)) || !pinsB s.pins || (decide (s.kd ≤ 3) && decide (0 < s.li.length + s.pins.length + s.body.length))) = true then 1
    else (0 : Int)) = m := by rw [← hm]; simp only [checkE, e1, ek, e4, e5', elen]; rfl
  by_cases n0 : s.nu = 0
  · by_cases n1 : s.prev = []
    · skip
      simp only [go_sem, ↓reduceIte, reduceCtorEq, Nat.reduceEqDiff, Nat.reduceAdd, Nat.reduceSub, Nat.reduceMul, Nat.reduceLT, Nat.reduceLeDiff, Int.reduceLT, Int.reduceLE, Int.reduceEq, Int.reduceNe, Int.reduceToNat, Int.reduceAdd, Int.reduceSub, Int.reduceMul, Int.natCast_zero, l1, l2, l3, n0, n1]
      refine call cp [] ?_
      cases e14 : pinsB s.pins
      · simp only [go_sem, ↓reduceIte, reduceCtorEq, Nat.reduceEqDiff, Nat.reduceAdd, Nat.reduceSub, Nat.reduceMul, Nat.reduceLT, Nat.reduceLeDiff, Int.reduceLT, Int.reduceLE, Int.reduceEq, Int.reduceNe, Int.reduceToNat, Int.reduceAdd, Int.reduceSub, Int.reduceMul, Int.natCast_zero]
        rw [← hm]; simp [e14]
      simp only [go_sem, ↓reduceIte, reduceCtorEq, Nat.reduceEqDiff, Nat.reduceAdd, Nat.reduceSub, Nat.reduceMul, Nat.reduceLT, Nat.reduceLeDiff, Int.reduceLT, Int.reduceLE, Int.reduceEq, Int.reduceNe, Int.reduceToNat, Int.reduceAdd, Int.reduceSub, Int.reduceMul, Int.natCast_zero, kk]
      rw [if_neg (by simp [kk, e14, n0, n1])] at hm
      exact hm
    · simp only [go_sem, ↓reduceIte, reduceCtorEq, Nat.reduceEqDiff, Nat.reduceAdd, Nat.reduceSub, Nat.reduceMul, Nat.reduceLT, Nat.reduceLeDiff, Int.reduceLT, Int.reduceLE, Int.reduceEq, Int.reduceNe, Int.reduceToNat, Int.reduceAdd, Int.reduceSub, Int.reduceMul, Int.natCast_zero, l1, l2, l3, n0, n1]
      rw [if_pos (by simp [n0, n1])] at hm
      exact hm
  by_cases n2 : 0 < s.nu
  · by_cases n3 : (s.prev.length : Int) = 32
    · have n3' : s.prev.length = 32 := by omega
      simp only [go_sem, ↓reduceIte, reduceCtorEq, Nat.reduceEqDiff, Nat.reduceAdd, Nat.reduceSub, Nat.reduceMul, Nat.reduceLT, Nat.reduceLeDiff, Int.reduceLT, Int.reduceLE, Int.reduceEq, Int.reduceNe, Int.reduceToNat, Int.reduceAdd, Int.reduceSub, Int.reduceMul, Int.natCast_zero, l1, l2, l3, n0, n2, n3]
      refine call cp [] ?_
      cases e14 : pinsB s.pins
      · simp only [go_sem, ↓reduceIte, reduceCtorEq, Nat.reduceEqDiff, Nat.reduceAdd, Nat.reduceSub, Nat.reduceMul, Nat.reduceLT, Nat.reduceLeDiff, Int.reduceLT, Int.reduceLE, Int.reduceEq, Int.reduceNe, Int.reduceToNat, Int.reduceAdd, Int.reduceSub, Int.reduceMul, Int.natCast_zero]
        rw [← hm]; simp [e14]
      simp only [go_sem, ↓reduceIte, reduceCtorEq, Nat.reduceEqDiff, Nat.reduceAdd, Nat.reduceSub, Nat.reduceMul, Nat.reduceLT, Nat.reduceLeDiff, Int.reduceLT, Int.reduceLE, Int.reduceEq, Int.reduceNe, Int.reduceToNat, Int.reduceAdd, Int.reduceSub, Int.reduceMul, Int.natCast_zero, kk]
      rw [if_neg (by simp [kk, e14, n0, n2, n3'])] at hm
      exact hm
    · have n3' : ¬ s.prev.length = 32 := by omega
      simp only [go_sem, ↓reduceIte, reduceCtorEq, Nat.reduceEqDiff, Nat.reduceAdd, Nat.reduceSub, Nat.reduceMul, Nat.reduceLT, Nat.reduceLeDiff, Int.reduceLT, Int.reduceLE, Int.reduceEq, Int.reduceNe, Int.reduceToNat, Int.reduceAdd, Int.reduceSub, Int.reduceMul, Int.natCast_zero, l1, l2, l3, n0, n2, n3]
      rw [if_pos (by simp [n2, n3'])] at hm
      exact hm
  simp only [go_sem, ↓reduceIte, reduceCtorEq, Nat.reduceEqDiff, Nat.reduceAdd, Nat.reduceSub, Nat.reduceMul, Nat.reduceLT, Nat.reduceLeDiff, Int.reduceLT, Int.reduceLE, Int.reduceEq, Int.reduceNe, Int.reduceToNat, Int.reduceAdd, Int.reduceSub, Int.reduceMul, Int.natCast_zero, l1, l2, l3, n0, n2]
  refine call cp [] ?_
  cases e14 : pinsB s.pins
  · simp only [go_sem, ↓reduceIte, reduceCtorEq, Nat.reduceEqDiff, Nat.reduceAdd, Nat.reduceSub, Nat.reduceMul, Nat.reduceLT, Nat.reduceLeDiff, Int.reduceLT, Int.reduceLE, Int.reduceEq, Int.reduceNe, Int.reduceToNat, Int.reduceAdd, Int.reduceSub, Int.reduceMul, Int.natCast_zero]
    rw [← hm]; simp [e14]
  simp only [go_sem, ↓reduceIte, reduceCtorEq, Nat.reduceEqDiff, Nat.reduceAdd, Nat.reduceSub, Nat.reduceMul, Nat.reduceLT, Nat.reduceLeDiff, Int.reduceLT, Int.reduceLE, Int.reduceEq, Int.reduceNe, Int.reduceToNat, Int.reduceAdd, Int.reduceSub, Int.reduceMul, Int.natCast_zero, kk]
  rw [if_neg (by simp [kk, e14, n0, n2])] at hm
  exact hm

theorem rcheck_den (s : Stm) (hs : okS s) : Den Tryz.prog 130 [.agg (sm s)] [] (.int .i64 (checkE s)) [] [] := rcheck_denB s hs.big
set_option maxHeartbeats 1000000 in
set_option maxRecDepth 100000 in
theorem rsealed_den (s : Stm) (hs : okS s) : Den Tryz.prog 121 [.agg (sm s)] [] (.bool (decide (s.sk = s.au ∧ s.sd = dig s))) [] [] := by
  refine den_of Tryz.mixed Tryz.func121 rfl Tryz.call121 Tryz.ntmps121 (congrArg Array.toList Tryz.results121) (by simp) (by kernel_rfl) [] (exts := []) rfl rfl ?_
  by_cases h1 : s.sk = s.au
  · simp only [go_sem, ↓reduceIte, reduceCtorEq, Nat.reduceEqDiff, Nat.reduceAdd, Nat.reduceSub, Nat.reduceMul, Nat.reduceLT, Nat.reduceLeDiff, Int.reduceLT, Int.reduceLE, Int.reduceEq, Int.reduceNe, Int.reduceToNat, Int.reduceAdd, Int.reduceSub, Int.reduceMul, Int.natCast_zero, h1]
    refine call (rdig_den s hs) [] ?_
    simp only [go_sem, ↓reduceIte, reduceCtorEq, Nat.reduceEqDiff, Nat.reduceAdd, Nat.reduceSub, Nat.reduceMul, Nat.reduceLT, Nat.reduceLeDiff, Int.reduceLT, Int.reduceLE, Int.reduceEq, Int.reduceNe, Int.reduceToNat, Int.reduceAdd, Int.reduceSub, Int.reduceMul, Int.natCast_zero, h1]
    exact okD_of (by kernel_rfl)
  · simp only [go_sem, ↓reduceIte, reduceCtorEq, Nat.reduceEqDiff, Nat.reduceAdd, Nat.reduceSub, Nat.reduceMul, Nat.reduceLT, Nat.reduceLeDiff, Int.reduceLT, Int.reduceLE, Int.reduceEq, Int.reduceNe, Int.reduceToNat, Int.reduceAdd, Int.reduceSub, Int.reduceMul, Int.natCast_zero, h1]
    exact okD_of (by kernel_rfl)
end Go.Proofs.Am
