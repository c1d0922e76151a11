/- The law AppealDrafts, walked. -/
import Derived.Test.YthcphdogfdghkaaGreatC10
set_option linter.unusedSimpArgs false
set_option linter.unusedVariables false
namespace Go.Proofs.Am
open Go Go.RowKit
open Go.Proofs

theorem light400 (l : List Int) (h : ¬ l.length ≤ 400) : ¬ (l.length : Int) ≤ 400 := by omega
set_option maxHeartbeats 1000000 in
set_option maxRecDepth 100000 in
theorem lawDrafts_den (l : List Int) : Den Tryz.prog 3 [.vs (l.map i1)] [] (.bool true) [] [] := by
  refine den_of Tryz.mixed Tryz.func3 rfl Tryz.call3 Tryz.ntmps3 (congrArg Array.toList Tryz.results3) (by simp) (by kernel_rfl) [] (exts := []) rfl rfl ?_
  by_cases h400 : l.length ≤ 400
  rotate_left
  · have hd : decide (l.length ≤ 400) = false := decide_eq_false h400
    simp only [go_sem, ↓reduceIte, reduceCtorEq, Nat.reduceEqDiff, Nat.reduceAdd, Nat.reduceSub, Nat.reduceMul, Nat.reduceLT, Nat.reduceLeDiff, Int.reduceLT, Int.reduceLE, Int.reduceEq, Int.reduceNe, Int.reduceToNat, Int.reduceAdd, Int.reduceSub, Int.reduceMul, Int.natCast_zero]
    refine call (light_den l) [] ?_
    simp only [go_sem, ↓reduceIte, reduceCtorEq, Nat.reduceEqDiff, Nat.reduceAdd, Nat.reduceSub, Nat.reduceMul, Nat.reduceLT, Nat.reduceLeDiff, Int.reduceLT, Int.reduceLE, Int.reduceEq, Int.reduceNe, Int.reduceToNat, Int.reduceAdd, Int.reduceSub, Int.reduceMul, Int.natCast_zero, hd]
    refine call awake32_den [] ?_
    simp only [go_sem, ↓reduceIte, reduceCtorEq, Nat.reduceEqDiff, Nat.reduceAdd, Nat.reduceSub, Nat.reduceMul, Nat.reduceLT, Nat.reduceLeDiff, Int.reduceLT, Int.reduceLE, Int.reduceEq, Int.reduceNe, Int.reduceToNat, Int.reduceAdd, Int.reduceSub, Int.reduceMul, Int.natCast_zero]
  have hd : decide (l.length ≤ 400) = true := decide_eq_true h400
  have hl : big l.length := by simp only [big]; omega
  have c1 := dispute_den l 0 hl (Nat.zero_le _)
  have hq := dspF_le (l := l) (p := 0) (Nat.zero_le _)
  have hros : (dspT l 0).ros = ([0, 1, 2, 3, 4, 5, 6, 7] : List Int).take (3 + dnext l (dgo l 0 8) 6).toNat := rfl
  have hCe : (dspC l 0).ep = 0 := rfl
  have hCk : (dspC l 0).kd = 2 + dnext l (dgo l 0 9) 2 := rfl
  have hCs : (dspC l 0).su = dnext l (dgo l 0 10) 7 := rfl
  have hCr : (dspC l 0).ro = 0 := rfl
  have b1 := dnext_lt (l := l) (p := dgo l 0 8) (n := 6) (by omega)
  have b2 := dnext_lt (l := l) (p := dgo l 0 9) (n := 2) (by omega)
  have b3 := dnext_lt (l := l) (p := dgo l 0 10) (n := 7) (by omega)
  generalize dspT l 0 = T at *
  generalize dspC l 0 = C at *
  generalize dspR l 0 = R at *
  generalize dspF l 0 = F at *
  obtain ⟨q, fs⟩ := F
  simp only at hq c1
  have hrl : 3 ≤ T.ros.length ∧ T.ros.length ≤ 8 := by
    rw [hros, List.length_take]
    show 3 ≤ min _ 8 ∧ min _ 8 ≤ 8
    omega
  have hrm : ∀ x ∈ T.ros, 0 ≤ x ∧ x < 8 := by
    intro x hx
    rw [hros] at hx
    have := List.mem_of_mem_take hx
    simp at this
    omega
  have vC : caseV C = true := decide_eq_true (by omega)
  have oC : openB C = true := by rw [openB, vC, decide_eq_true hCr, decide_eq_true (by omega : C.kd ≠ 1)]; rfl
  have hq1 := dgo_le hq 1
  have hq2 := dgo_le hq 2
  have e0 : dpos l q = dgo l q 1 := rfl
  have b4 := dnext_lt (l := l) (p := q) (n := 2) (by omega)
  have b5 := dnext_lt (l := l) (p := dgo l q 1) (n := 7) (by omega)
  have b6 := dnext_lt (l := l) (p := dgo l q 2) (n := (T.ros.length : Int)) (by omega)
  have w1 : IntKind.i64.wrap (2 + dnext l q 2) = 2 + dnext l q 2 := by rw [wrapI] <;> omega
  have c2 := adraftA C
  rw [show apDr C = (apD C, 0) by rw [apDr, oC]; rfl] at c2
  obtain ⟨ep, kd, su, ro⟩ := C
  simp only at hCe hCk hCs hCr
  subst hCe hCr
  rw [rl_eq, tm_eq, cs_eq] at c1
  rw [cs_eq] at c2
  simp only at c1 c2
  obtain ⟨z, hz⟩ : ∃ z : Nat, dnext l (dgo l q 2) (T.ros.length : Int) = (z : Int) := ⟨(dnext l (dgo l q 2) (T.ros.length : Int)).toNat, by omega⟩
  rw [hz] at b6
  have hzl : z < T.ros.length := by omega
  have hmem := mem_of_el hzl
  have hkb := hrm _ hmem
  have c4 := stmt2_den (el T.ros z) 4 0 (apD ⟨0, kd, su, 0⟩) (apD_ok _)
  have k1 := stmt_okS (el T.ros z) 4 0 (apD ⟨0, kd, su, 0⟩) (apD_ok _)
  have q1 : ∀ c', askB T.ros c' (stmt (el T.ros z) 4 0 (apD ⟨0, kd, su, 0⟩)) = (decide (el T.ros z ∈ T.ros) && (decide (0 = c'.ep) && (decide (kd = c'.kd) && decide (su = c'.su)))) := fun c' => ask_stmt T.ros (el T.ros z) 4 0 ⟨0, kd, su, 0⟩ c' (by omega) (by omega) (by omega) vC
  simp only [decide_eq_true hmem, Bool.true_and] at q1
  have q2 : ∀ c', askB T.ros c' { stmt (el T.ros z) 4 0 (apD ⟨0, kd, su, 0⟩) with sk := 30 } = false := fun c' => by
    have : ({ stmt (el T.ros z) 4 0 (apD ⟨0, kd, su, 0⟩) with sk := 30 } : Stm).au = el T.ros z := rfl
    rw [askB, this, decide_eq_false (p := ({ stmt (el T.ros z) 4 0 (apD ⟨0, kd, su, 0⟩) with sk := 30 } : Stm).sk = el T.ros z ∧ _) (fun h => by have h1 : (30 : Int) = el T.ros z := h.1; omega), Bool.false_and, Bool.and_false]
  have k2 : okS { stmt (el T.ros z) 4 0 (apD ⟨0, kd, su, 0⟩) with sk := 30 } := k1
  generalize stmt (el T.ros z) 4 0 (apD ⟨0, kd, su, 0⟩) = s at *
  simp only [go_sem, ↓reduceIte, reduceCtorEq, Nat.reduceEqDiff, Nat.reduceAdd, Nat.reduceSub, Nat.reduceMul, Nat.reduceLT, Nat.reduceLeDiff, Int.reduceLT, Int.reduceLE, Int.reduceEq, Int.reduceNe, Int.reduceToNat, Int.reduceAdd, Int.reduceSub, Int.reduceMul, Int.natCast_zero]
  refine call (light_den l) [] ?_
  simp only [go_sem, ↓reduceIte, reduceCtorEq, Nat.reduceEqDiff, Nat.reduceAdd, Nat.reduceSub, Nat.reduceMul, Nat.reduceLT, Nat.reduceLeDiff, Int.reduceLT, Int.reduceLE, Int.reduceEq, Int.reduceNe, Int.reduceToNat, Int.reduceAdd, Int.reduceSub, Int.reduceMul, Int.natCast_zero, hd]
  refine call (roll9 l) [] ?_
  simp only [go_sem, ↓reduceIte, reduceCtorEq, Nat.reduceEqDiff, Nat.reduceAdd, Nat.reduceSub, Nat.reduceMul, Nat.reduceLT, Nat.reduceLeDiff, Int.reduceLT, Int.reduceLE, Int.reduceEq, Int.reduceNe, Int.reduceToNat, Int.reduceAdd, Int.reduceSub, Int.reduceMul, Int.natCast_zero]
  refine call c1 [19] ?_
  simp only [go_sem, ↓reduceIte, reduceCtorEq, Nat.reduceEqDiff, Nat.reduceAdd, Nat.reduceSub, Nat.reduceMul, Nat.reduceLT, Nat.reduceLeDiff, Int.reduceLT, Int.reduceLE, Int.reduceEq, Int.reduceNe, Int.reduceToNat, Int.reduceAdd, Int.reduceSub, Int.reduceMul, Int.natCast_zero]
  refine call (next_den l q 2 hl hq (by omega)) [19] ?_
  simp only [go_sem, ↓reduceIte, reduceCtorEq, Nat.reduceEqDiff, Nat.reduceAdd, Nat.reduceSub, Nat.reduceMul, Nat.reduceLT, Nat.reduceLeDiff, Int.reduceLT, Int.reduceLE, Int.reduceEq, Int.reduceNe, Int.reduceToNat, Int.reduceAdd, Int.reduceSub, Int.reduceMul, Int.natCast_zero, w1, e0]
  refine call (next_den l (dgo l q 1) 7 hl hq1 (by omega)) [19] ?_
  simp only [go_sem, ↓reduceIte, reduceCtorEq, Nat.reduceEqDiff, Nat.reduceAdd, Nat.reduceSub, Nat.reduceMul, Nat.reduceLT, Nat.reduceLeDiff, Int.reduceLT, Int.reduceLE, Int.reduceEq, Int.reduceNe, Int.reduceToNat, Int.reduceAdd, Int.reduceSub, Int.reduceMul, Int.natCast_zero, dgo_succ]
  refine call c2 [] ?_
  simp only [go_sem, ↓reduceIte, reduceCtorEq, Nat.reduceEqDiff, Nat.reduceAdd, Nat.reduceSub, Nat.reduceMul, Nat.reduceLT, Nat.reduceLeDiff, Int.reduceLT, Int.reduceLE, Int.reduceEq, Int.reduceNe, Int.reduceToNat, Int.reduceAdd, Int.reduceSub, Int.reduceMul, Int.natCast_zero, apD]
  refine call (next_den l (dgo l q 2) T.ros.length hl hq2 (by omega)) [19] ?_
  rw [hz]
  simp only [go_sem, ↓reduceIte, reduceCtorEq, Nat.reduceEqDiff, Nat.reduceAdd, Nat.reduceSub, Nat.reduceMul, Nat.reduceLT, Nat.reduceLeDiff, Int.reduceLT, Int.reduceLE, Int.reduceEq, Int.reduceNe, Int.reduceToNat, Int.reduceAdd, Int.reduceSub, Int.reduceMul, Int.natCast_zero, dgo_succ, hzl]
  refine ⟨okD_of (by kernel_rfl), call c4 [] ?_⟩
  have b4 : 2 ≤ 2 + dnext l q 2 ∧ 2 + dnext l q 2 < 4 := by omega
  generalize 2 + dnext l q 2 = kd' at *
  generalize dnext l (dgo l q 1) 7 = su' at *
  have bigT : big T.ros.length := by simp only [big]; omega
  have k1' : ∀ x ∈ [s], okS x := fun x hx => by rw [List.mem_singleton] at hx; rw [hx]; exact k1
  have c6 := asked_den [s] T ⟨0, kd, su, 0⟩ bigT (by simp [big]) k1'
  have c7 := asked_den [s] T ⟨0, kd', su', 0⟩ bigT (by simp [big]) k1'
  have c8 := asked_den [{ s with sk := 30 }] T ⟨0, kd, su, 0⟩ bigT (by simp [big]) (fun x hx => by rw [List.mem_singleton] at hx; rw [hx]; exact k2)
  have c9 := asked_den [] T ⟨0, kd, su, 0⟩ bigT (by simp [big]) (fun x hx => by simp at hx)
  rw [show askedB [s] T ⟨0, kd, su, 0⟩ = true by rw [askedB, oC, List.any_cons, q1]; simp] at c6
  rw [show askedB [{ s with sk := 30 }] T ⟨0, kd, su, 0⟩ = false by rw [askedB, List.any_cons, q2]; simp] at c8
  rw [show askedB [] T ⟨0, kd, su, 0⟩ = false by rw [askedB]; simp] at c9
  have vO : caseV ⟨0, kd', su', 0⟩ = true := decide_eq_true (by simp only; omega)
  have oO : openB ⟨0, kd', su', 0⟩ = true := by rw [openB, vO]; simp; omega
  rw [show askedB [s] T ⟨0, kd', su', 0⟩ = (decide (kd = kd') && decide (su = su')) by rw [askedB, oO, List.any_cons, q1]; simp] at c7
  have c10 := has24 T.ros (el T.ros z) bigT
  rw [decide_eq_true hmem] at c10
  rw [tm_eq, cs_eq] at c6 c7 c8 c9
  simp only [List.map_cons, List.map_nil, sm_eq] at c6 c7 c8 c9
  simp only [go_sem, ↓reduceIte, reduceCtorEq, Nat.reduceEqDiff, Nat.reduceAdd, Nat.reduceSub, Nat.reduceMul, Nat.reduceLT, Nat.reduceLeDiff, Int.reduceLT, Int.reduceLE, Int.reduceEq, Int.reduceNe, Int.reduceToNat, Int.reduceAdd, Int.reduceSub, Int.reduceMul, Int.natCast_zero, apD]
  refine call c6 [] ?_
  simp only [go_sem, ↓reduceIte, reduceCtorEq, Nat.reduceEqDiff, Nat.reduceAdd, Nat.reduceSub, Nat.reduceMul, Nat.reduceLT, Nat.reduceLeDiff, Int.reduceLT, Int.reduceLE, Int.reduceEq, Int.reduceNe, Int.reduceToNat, Int.reduceAdd, Int.reduceSub, Int.reduceMul, Int.natCast_zero]
  have u4 : Program.underlying Tryz.prog 4 = some TypeDesc.bool := by kernel_rfl
  by_cases hE : kd = kd'
  · subst hE
    by_cases hF : su = su'
    · subst hF
      simp only [decide_true, Bool.and_self] at c7
      refine call c7 [] ?_
      simp only [go_sem, ↓reduceIte, reduceCtorEq, Nat.reduceEqDiff, Nat.reduceAdd, Nat.reduceSub, Nat.reduceMul, Nat.reduceLT, Nat.reduceLeDiff, Int.reduceLT, Int.reduceLE, Int.reduceEq, Int.reduceNe, Int.reduceToNat, Int.reduceAdd, Int.reduceSub, Int.reduceMul, Int.natCast_zero, u4]
      refine call c8 [] ?_
      simp only [go_sem, ↓reduceIte, reduceCtorEq, Nat.reduceEqDiff, Nat.reduceAdd, Nat.reduceSub, Nat.reduceMul, Nat.reduceLT, Nat.reduceLeDiff, Int.reduceLT, Int.reduceLE, Int.reduceEq, Int.reduceNe, Int.reduceToNat, Int.reduceAdd, Int.reduceSub, Int.reduceMul, Int.natCast_zero]
      refine call c9 [] ?_
      simp only [go_sem, ↓reduceIte, reduceCtorEq, Nat.reduceEqDiff, Nat.reduceAdd, Nat.reduceSub, Nat.reduceMul, Nat.reduceLT, Nat.reduceLeDiff, Int.reduceLT, Int.reduceLE, Int.reduceEq, Int.reduceNe, Int.reduceToNat, Int.reduceAdd, Int.reduceSub, Int.reduceMul, Int.natCast_zero]
      refine call c10 [] ?_
      simp only [go_sem, ↓reduceIte, reduceCtorEq, Nat.reduceEqDiff, Nat.reduceAdd, Nat.reduceSub, Nat.reduceMul, Nat.reduceLT, Nat.reduceLeDiff, Int.reduceLT, Int.reduceLE, Int.reduceEq, Int.reduceNe, Int.reduceToNat, Int.reduceAdd, Int.reduceSub, Int.reduceMul, Int.natCast_zero]
      refine call awake32_den [] ?_
      simp only [go_sem, ↓reduceIte, reduceCtorEq, Nat.reduceEqDiff, Nat.reduceAdd, Nat.reduceSub, Nat.reduceMul, Nat.reduceLT, Nat.reduceLeDiff, Int.reduceLT, Int.reduceLE, Int.reduceEq, Int.reduceNe, Int.reduceToNat, Int.reduceAdd, Int.reduceSub, Int.reduceMul, Int.natCast_zero]
      exact okD_of (by kernel_rfl)
    · simp only [decide_true, Bool.true_and, decide_eq_false hF] at c7
      have hF' : ¬ su' = su := fun h => hF h.symm
      refine call c7 [] ?_
      simp only [go_sem, ↓reduceIte, reduceCtorEq, Nat.reduceEqDiff, Nat.reduceAdd, Nat.reduceSub, Nat.reduceMul, Nat.reduceLT, Nat.reduceLeDiff, Int.reduceLT, Int.reduceLE, Int.reduceEq, Int.reduceNe, Int.reduceToNat, Int.reduceAdd, Int.reduceSub, Int.reduceMul, Int.natCast_zero, hF', u4]
      refine call c8 [] ?_
      simp only [go_sem, ↓reduceIte, reduceCtorEq, Nat.reduceEqDiff, Nat.reduceAdd, Nat.reduceSub, Nat.reduceMul, Nat.reduceLT, Nat.reduceLeDiff, Int.reduceLT, Int.reduceLE, Int.reduceEq, Int.reduceNe, Int.reduceToNat, Int.reduceAdd, Int.reduceSub, Int.reduceMul, Int.natCast_zero]
      refine call c9 [] ?_
      simp only [go_sem, ↓reduceIte, reduceCtorEq, Nat.reduceEqDiff, Nat.reduceAdd, Nat.reduceSub, Nat.reduceMul, Nat.reduceLT, Nat.reduceLeDiff, Int.reduceLT, Int.reduceLE, Int.reduceEq, Int.reduceNe, Int.reduceToNat, Int.reduceAdd, Int.reduceSub, Int.reduceMul, Int.natCast_zero]
      refine call c10 [] ?_
      simp only [go_sem, ↓reduceIte, reduceCtorEq, Nat.reduceEqDiff, Nat.reduceAdd, Nat.reduceSub, Nat.reduceMul, Nat.reduceLT, Nat.reduceLeDiff, Int.reduceLT, Int.reduceLE, Int.reduceEq, Int.reduceNe, Int.reduceToNat, Int.reduceAdd, Int.reduceSub, Int.reduceMul, Int.natCast_zero]
      refine call awake32_den [] ?_
      simp only [go_sem, ↓reduceIte, reduceCtorEq, Nat.reduceEqDiff, Nat.reduceAdd, Nat.reduceSub, Nat.reduceMul, Nat.reduceLT, Nat.reduceLeDiff, Int.reduceLT, Int.reduceLE, Int.reduceEq, Int.reduceNe, Int.reduceToNat, Int.reduceAdd, Int.reduceSub, Int.reduceMul, Int.natCast_zero]
      exact okD_of (by kernel_rfl)
  · simp only [decide_eq_false hE, Bool.false_and] at c7
    have hE' : ¬ kd' = kd := fun h => hE h.symm
    refine call c7 [] ?_
    simp only [go_sem, ↓reduceIte, reduceCtorEq, Nat.reduceEqDiff, Nat.reduceAdd, Nat.reduceSub, Nat.reduceMul, Nat.reduceLT, Nat.reduceLeDiff, Int.reduceLT, Int.reduceLE, Int.reduceEq, Int.reduceNe, Int.reduceToNat, Int.reduceAdd, Int.reduceSub, Int.reduceMul, Int.natCast_zero, hE', u4]
    refine call c8 [] ?_
    simp only [go_sem, ↓reduceIte, reduceCtorEq, Nat.reduceEqDiff, Nat.reduceAdd, Nat.reduceSub, Nat.reduceMul, Nat.reduceLT, Nat.reduceLeDiff, Int.reduceLT, Int.reduceLE, Int.reduceEq, Int.reduceNe, Int.reduceToNat, Int.reduceAdd, Int.reduceSub, Int.reduceMul, Int.natCast_zero]
    refine call c9 [] ?_
    simp only [go_sem, ↓reduceIte, reduceCtorEq, Nat.reduceEqDiff, Nat.reduceAdd, Nat.reduceSub, Nat.reduceMul, Nat.reduceLT, Nat.reduceLeDiff, Int.reduceLT, Int.reduceLE, Int.reduceEq, Int.reduceNe, Int.reduceToNat, Int.reduceAdd, Int.reduceSub, Int.reduceMul, Int.natCast_zero]
    refine call c10 [] ?_
    simp only [go_sem, ↓reduceIte, reduceCtorEq, Nat.reduceEqDiff, Nat.reduceAdd, Nat.reduceSub, Nat.reduceMul, Nat.reduceLT, Nat.reduceLeDiff, Int.reduceLT, Int.reduceLE, Int.reduceEq, Int.reduceNe, Int.reduceToNat, Int.reduceAdd, Int.reduceSub, Int.reduceMul, Int.natCast_zero]
    refine call awake32_den [] ?_
    simp only [go_sem, ↓reduceIte, reduceCtorEq, Nat.reduceEqDiff, Nat.reduceAdd, Nat.reduceSub, Nat.reduceMul, Nat.reduceLT, Nat.reduceLeDiff, Int.reduceLT, Int.reduceLE, Int.reduceEq, Int.reduceNe, Int.reduceToNat, Int.reduceAdd, Int.reduceSub, Int.reduceMul, Int.natCast_zero]
    exact okD_of (by kernel_rfl)
end Go.Proofs.Am
