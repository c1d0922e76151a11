/- Policies and rules. -/
import Derived.Test.YthcphdogfdghkaaGreatC2
set_option linter.unusedSimpArgs false
set_option linter.unusedVariables false
namespace Go.Proofs.Am
open Go Go.RowKit
open Go.Proofs

/-- A policy. -/
structure Pol where
  se : List Int
  ta : List Int
  lv : Int
deriving Inhabited, DecidableEq
/-- Rules. -/
structure Rl where
  gen : List Int
  pol : Pol
  seats : Int
  span : Int
  quota : Int
deriving Inhabited, DecidableEq
def pl (p : Pol) : List PV := [.vs (p.se.map i1), .vs (p.ta.map i1), .int .i64 p.lv]
theorem pl_eq (p : Pol) : pl p = [.vs (p.se.map i1), .vs (p.ta.map i1), .int .i64 p.lv] := (rfl)
def rl (r : Rl) : List PV := [.vs (r.gen.map i1), .vs (r.pol.se.map i1), .vs (r.pol.ta.map i1), .int .i64 r.pol.lv, .int .i64 r.seats, .int .i64 r.span, .int .i64 r.quota]
theorem rl_eq (r : Rl) : rl r = [.vs (r.gen.map i1), .vs (r.pol.se.map i1), .vs (r.pol.ta.map i1), .int .i64 r.pol.lv, .int .i64 r.seats, .int .i64 r.span, .int .i64 r.quota] := (rfl)
attribute [go_sem] pl_eq rl_eq

def okTab (ta : List Int) (i : Nat) : Bool := decide (1 ≤ el ta i ∧ el ta i ≤ 1000 ∧ (0 < i → el ta i ≤ el ta (i - 1)))
def polV (p : Pol) : Bool := decide (0 < p.se.length) && (setV p.se 64 && (decide (1 ≤ p.ta.length ∧ p.ta.length ≤ 8 ∧ 1 ≤ p.lv ∧ p.lv ≤ 3) && allI (okTab p.ta) p.ta.length))

set_option maxHeartbeats 1000000 in
set_option maxRecDepth 100000 in
/-- An empty graph of keys. -/
theorem graph0 : Den Tryz.prog 83 [.agg [.int .i64 64, .vs [], .vs []]] [] (.int .i64 0) [] [] := by
  refine den_of Tryz.mixed Tryz.func83 rfl Tryz.call83 Tryz.ntmps83 (congrArg Array.toList Tryz.results83) (by simp) (by kernel_rfl) [] (exts := []) rfl rfl ?_
  simp only [go_sem, ↓reduceIte, reduceCtorEq, Nat.reduceEqDiff, Nat.reduceAdd, Nat.reduceSub, Nat.reduceMul, Nat.reduceLT, Nat.reduceLeDiff, Int.reduceLT, Int.reduceLE, Int.reduceEq, Int.reduceNe, Int.reduceToNat, Int.reduceAdd, Int.reduceSub, Int.reduceMul, Int.natCast_zero]
  refine call (set11 [] 64 (by simp [big])) [] ?_
  have hs : setV [] 64 = true := rfl
  rw [hs]
  simp only [go_sem, ↓reduceIte, reduceCtorEq, Nat.reduceEqDiff, Nat.reduceAdd, Nat.reduceSub, Nat.reduceMul, Nat.reduceLT, Nat.reduceLeDiff, Int.reduceLT, Int.reduceLE, Int.reduceEq, Int.reduceNe, Int.reduceToNat, Int.reduceAdd, Int.reduceSub, Int.reduceMul, Int.natCast_zero]
  refine loop Tryz.mixed 0 (fun _ : Nat => [(1, .ptr 1 0), (3, .int .i64 0)]) (fun _ => [(1, .cells [.int .i64 64, .vs [], .vs []])]) (fun _ => True) (fun _ => 0) (by kernel_rfl) ?_ ?_ ?_
  · trivial
  · simp only [go_sem, ↓reduceIte, reduceCtorEq, Nat.reduceEqDiff, Nat.reduceAdd, Nat.reduceSub, Nat.reduceMul, Nat.reduceLT, Nat.reduceLeDiff, Int.reduceLT, Int.reduceLE, Int.reduceEq, Int.reduceNe, Int.reduceToNat, Int.reduceAdd, Int.reduceSub, Int.reduceMul, Int.natCast_zero]
  · rintro i _
    simp only [go_sem, ↓reduceIte, reduceCtorEq, Nat.reduceEqDiff, Nat.reduceAdd, Nat.reduceSub, Nat.reduceMul, Nat.reduceLT, Nat.reduceLeDiff, Int.reduceLT, Int.reduceLE, Int.reduceEq, Int.reduceNe, Int.reduceToNat, Int.reduceAdd, Int.reduceSub, Int.reduceMul, Int.natCast_zero]

set_option maxHeartbeats 1000000 in
set_option maxRecDepth 100000 in
theorem policy13 (p : Pol) (h1 : big p.se.length) (h2 : big p.ta.length) : Den Tryz.prog 84 [.agg [.int .i64 64, .vs [], .vs []], .agg (pl p)] [] (.bool (polV p)) [] [] := by
  refine den_of Tryz.mixed Tryz.func84 rfl Tryz.call84 Tryz.ntmps84 (congrArg Array.toList Tryz.results84) (by simp) (by kernel_rfl) [] (exts := []) rfl rfl ?_
  generalize hm : polV p = m
  by_cases a1 : p.se.length = 0
  · have hq : polV p = false := by rw [polV, decide_eq_false (by omega)]; rfl
    have a1' : (p.se.length : Int) = 0 := by omega
    rw [hq] at hm
    simp only [go_sem, ↓reduceIte, reduceCtorEq, Nat.reduceEqDiff, Nat.reduceAdd, Nat.reduceSub, Nat.reduceMul, Nat.reduceLT, Nat.reduceLeDiff, Int.reduceLT, Int.reduceLE, Int.reduceEq, Int.reduceNe, Int.reduceToNat, Int.reduceAdd, Int.reduceSub, Int.reduceMul, Int.natCast_zero, a1']
    exact hm
  have a1' : ¬ (p.se.length : Int) = 0 := by omega
  simp only [go_sem, ↓reduceIte, reduceCtorEq, Nat.reduceEqDiff, Nat.reduceAdd, Nat.reduceSub, Nat.reduceMul, Nat.reduceLT, Nat.reduceLeDiff, Int.reduceLT, Int.reduceLE, Int.reduceEq, Int.reduceNe, Int.reduceToNat, Int.reduceAdd, Int.reduceSub, Int.reduceMul, Int.natCast_zero, a1']
  refine call (set11 p.se 64 h1) [] ?_
  cases a2 : setV p.se 64
  · have hq : polV p = false := by rw [polV, a2]; simp
    rw [hq] at hm
    simp only [go_sem, ↓reduceIte, reduceCtorEq, Nat.reduceEqDiff, Nat.reduceAdd, Nat.reduceSub, Nat.reduceMul, Nat.reduceLT, Nat.reduceLeDiff, Int.reduceLT, Int.reduceLE, Int.reduceEq, Int.reduceNe, Int.reduceToNat, Int.reduceAdd, Int.reduceSub, Int.reduceMul, Int.natCast_zero]
    exact hm
  by_cases a3 : (p.ta.length : Int) < 1
  · have hq : polV p = false := by rw [polV, decide_eq_false (p := 1 ≤ p.ta.length ∧ p.ta.length ≤ 8 ∧ 1 ≤ p.lv ∧ p.lv ≤ 3) (by omega)]; simp
    rw [hq] at hm
    simp only [go_sem, ↓reduceIte, reduceCtorEq, Nat.reduceEqDiff, Nat.reduceAdd, Nat.reduceSub, Nat.reduceMul, Nat.reduceLT, Nat.reduceLeDiff, Int.reduceLT, Int.reduceLE, Int.reduceEq, Int.reduceNe, Int.reduceToNat, Int.reduceAdd, Int.reduceSub, Int.reduceMul, Int.natCast_zero, a3]
    exact hm
  by_cases a4 : (8 : Int) < (p.ta.length : Int)
  · have hq : polV p = false := by rw [polV, decide_eq_false (p := 1 ≤ p.ta.length ∧ p.ta.length ≤ 8 ∧ 1 ≤ p.lv ∧ p.lv ≤ 3) (by omega)]; simp
    rw [hq] at hm
    simp only [go_sem, ↓reduceIte, reduceCtorEq, Nat.reduceEqDiff, Nat.reduceAdd, Nat.reduceSub, Nat.reduceMul, Nat.reduceLT, Nat.reduceLeDiff, Int.reduceLT, Int.reduceLE, Int.reduceEq, Int.reduceNe, Int.reduceToNat, Int.reduceAdd, Int.reduceSub, Int.reduceMul, Int.natCast_zero, a3, a4]
    exact hm
  by_cases a5 : p.lv < 1
  · have hq : polV p = false := by rw [polV, decide_eq_false (p := 1 ≤ p.ta.length ∧ p.ta.length ≤ 8 ∧ 1 ≤ p.lv ∧ p.lv ≤ 3) (by omega)]; simp
    rw [hq] at hm
    simp only [go_sem, ↓reduceIte, reduceCtorEq, Nat.reduceEqDiff, Nat.reduceAdd, Nat.reduceSub, Nat.reduceMul, Nat.reduceLT, Nat.reduceLeDiff, Int.reduceLT, Int.reduceLE, Int.reduceEq, Int.reduceNe, Int.reduceToNat, Int.reduceAdd, Int.reduceSub, Int.reduceMul, Int.natCast_zero, a3, a4, a5]
    exact hm
  by_cases a6 : 3 < p.lv
  · have hq : polV p = false := by rw [polV, decide_eq_false (p := 1 ≤ p.ta.length ∧ p.ta.length ≤ 8 ∧ 1 ≤ p.lv ∧ p.lv ≤ 3) (by omega)]; simp
    rw [hq] at hm
    simp only [go_sem, ↓reduceIte, reduceCtorEq, Nat.reduceEqDiff, Nat.reduceAdd, Nat.reduceSub, Nat.reduceMul, Nat.reduceLT, Nat.reduceLeDiff, Int.reduceLT, Int.reduceLE, Int.reduceEq, Int.reduceNe, Int.reduceToNat, Int.reduceAdd, Int.reduceSub, Int.reduceMul, Int.natCast_zero, a3, a4, a5, a6]
    exact hm
  have hq : polV p = allI (okTab p.ta) p.ta.length := by rw [polV, decide_eq_true (p := 1 ≤ p.ta.length ∧ p.ta.length ≤ 8 ∧ 1 ≤ p.lv ∧ p.lv ≤ 3) (by omega), decide_eq_true (by omega), a2]; rfl
  rw [hq] at hm
  have hbad : allI (okTab p.ta) p.ta.length = false → m = false := fun h => by rw [← hm]; exact h
  have hgood : allI (okTab p.ta) p.ta.length = true → m = true := fun h => by rw [← hm]; exact h
  simp only [go_sem, ↓reduceIte, reduceCtorEq, Nat.reduceEqDiff, Nat.reduceAdd, Nat.reduceSub, Nat.reduceMul, Nat.reduceLT, Nat.reduceLeDiff, Int.reduceLT, Int.reduceLE, Int.reduceEq, Int.reduceNe, Int.reduceToNat, Int.reduceAdd, Int.reduceSub, Int.reduceMul, Int.natCast_zero, a3, a4, a5, a6]
  refine loop Tryz.mixed 0 (fun i : Nat => [(3, .ptr 3 0), (5, .int .i64 i)]) (fun i => [(3, .cells (pl p))]) (fun i => i ≤ p.ta.length ∧ ∀ j, j < i → okTab p.ta j = true) (fun i => p.ta.length - i) (by kernel_rfl) ?_ ?_ ?_
  · simp
  · simp only [go_sem, ↓reduceIte, reduceCtorEq, Nat.reduceEqDiff, Nat.reduceAdd, Nat.reduceSub, Nat.reduceMul, Nat.reduceLT, Nat.reduceLeDiff, Int.reduceLT, Int.reduceLE, Int.reduceEq, Int.reduceNe, Int.reduceToNat, Int.reduceAdd, Int.reduceSub, Int.reduceMul, Int.natCast_zero]
  · rintro i ⟨hi, hp⟩
    by_cases hi' : i < p.ta.length
    · have hlt : (i : Int) < (p.ta.length : Int) := by omega
      by_cases b1 : el p.ta i < 1
      · have hq : okTab p.ta i = false := decide_eq_false (by omega)
        simp only [go_sem, ↓reduceIte, reduceCtorEq, Nat.reduceEqDiff, Nat.reduceAdd, Nat.reduceSub, Nat.reduceMul, Nat.reduceLT, Nat.reduceLeDiff, Int.reduceLT, Int.reduceLE, Int.reduceEq, Int.reduceNe, Int.reduceToNat, Int.reduceAdd, Int.reduceSub, Int.reduceMul, Int.natCast_zero, hlt, hi', b1]
        exact ⟨okD_of (by kernel_rfl), (hbad (allI_f hi' hq)).symm⟩
      by_cases b2 : 1000 < el p.ta i
      · have hq : okTab p.ta i = false := decide_eq_false (by omega)
        simp only [go_sem, ↓reduceIte, reduceCtorEq, Nat.reduceEqDiff, Nat.reduceAdd, Nat.reduceSub, Nat.reduceMul, Nat.reduceLT, Nat.reduceLeDiff, Int.reduceLT, Int.reduceLE, Int.reduceEq, Int.reduceNe, Int.reduceToNat, Int.reduceAdd, Int.reduceSub, Int.reduceMul, Int.natCast_zero, hlt, hi', b1, b2]
        exact ⟨okD_of (by kernel_rfl), (hbad (allI_f hi' hq)).symm⟩
      by_cases b3 : 0 < i
      · have b3' : (0 : Int) < (i : Int) := by omega
        have e1 : IntKind.i64.wrap ((i : Int) - 1) = ((i - 1 : Nat) : Int) := by rw [wrapI] <;> omega
        have e2 : i - 1 < p.ta.length := by omega
        by_cases b4 : el p.ta (i - 1) < el p.ta i
        · have hq : okTab p.ta i = false := decide_eq_false (by omega)
          simp only [go_sem, ↓reduceIte, reduceCtorEq, Nat.reduceEqDiff, Nat.reduceAdd, Nat.reduceSub, Nat.reduceMul, Nat.reduceLT, Nat.reduceLeDiff, Int.reduceLT, Int.reduceLE, Int.reduceEq, Int.reduceNe, Int.reduceToNat, Int.reduceAdd, Int.reduceSub, Int.reduceMul, Int.natCast_zero, hlt, hi', b1, b2, b3', e1, e2, b4]
          exact ⟨okD_of (by kernel_rfl), (hbad (allI_f hi' hq)).symm⟩
        · have hq : okTab p.ta i = true := decide_eq_true (by omega)
          simp only [go_sem, ↓reduceIte, reduceCtorEq, Nat.reduceEqDiff, Nat.reduceAdd, Nat.reduceSub, Nat.reduceMul, Nat.reduceLT, Nat.reduceLeDiff, Int.reduceLT, Int.reduceLE, Int.reduceEq, Int.reduceNe, Int.reduceToNat, Int.reduceAdd, Int.reduceSub, Int.reduceMul, Int.natCast_zero, hlt, hi', b1, b2, b3', e1, e2, b4]
          exact ⟨okD_of (by kernel_rfl), i + 1, ⟨⟨by omega, upto_succ hp hq⟩, by omega⟩, by rw [wrapI] <;> omega⟩
      · have b3' : ¬ (0 : Int) < (i : Int) := by omega
        have hq : okTab p.ta i = true := decide_eq_true (by omega)
        simp only [go_sem, ↓reduceIte, reduceCtorEq, Nat.reduceEqDiff, Nat.reduceAdd, Nat.reduceSub, Nat.reduceMul, Nat.reduceLT, Nat.reduceLeDiff, Int.reduceLT, Int.reduceLE, Int.reduceEq, Int.reduceNe, Int.reduceToNat, Int.reduceAdd, Int.reduceSub, Int.reduceMul, Int.natCast_zero, hlt, hi', b1, b2, b3']
        exact ⟨okD_of (by kernel_rfl), i + 1, ⟨⟨by omega, upto_succ hp hq⟩, by omega⟩, by rw [wrapI] <;> omega⟩
    · have hf : ¬ ((i : Int) < (p.ta.length : Int)) := by omega
      have : i = p.ta.length := by omega
      subst this
      simp only [go_sem, ↓reduceIte, reduceCtorEq, Nat.reduceEqDiff, Nat.reduceAdd, Nat.reduceSub, Nat.reduceMul, Nat.reduceLT, Nat.reduceLeDiff, Int.reduceLT, Int.reduceLE, Int.reduceEq, Int.reduceNe, Int.reduceToNat, Int.reduceAdd, Int.reduceSub, Int.reduceMul, Int.natCast_zero, hf]
      exact (hgood (allI_t hp)).symm

set_option maxHeartbeats 1000000 in
set_option maxRecDepth 100000 in
theorem pcheck13 (p : Pol) (h1 : big p.se.length) (h2 : big p.ta.length) : Den Tryz.prog 68 [.agg [.int .i64 64, .vs [], .vs []], .agg (pl p)] [] (.int .i64 (if polV p then 0 else 15)) [] [] := by
  refine den_of Tryz.mixed Tryz.func68 rfl Tryz.call68 Tryz.ntmps68 (congrArg Array.toList Tryz.results68) (by simp) (by kernel_rfl) [] (exts := []) rfl rfl ?_
  simp only [go_sem, ↓reduceIte, reduceCtorEq, Nat.reduceEqDiff, Nat.reduceAdd, Nat.reduceSub, Nat.reduceMul, Nat.reduceLT, Nat.reduceLeDiff, Int.reduceLT, Int.reduceLE, Int.reduceEq, Int.reduceNe, Int.reduceToNat, Int.reduceAdd, Int.reduceSub, Int.reduceMul, Int.natCast_zero]
  refine call graph0 [] ?_
  simp only [go_sem, ↓reduceIte, reduceCtorEq, Nat.reduceEqDiff, Nat.reduceAdd, Nat.reduceSub, Nat.reduceMul, Nat.reduceLT, Nat.reduceLeDiff, Int.reduceLT, Int.reduceLE, Int.reduceEq, Int.reduceNe, Int.reduceToNat, Int.reduceAdd, Int.reduceSub, Int.reduceMul, Int.natCast_zero]
  refine call (policy13 p h1 h2) [] ?_
  cases polV p
  · simp only [go_sem, ↓reduceIte, reduceCtorEq, Nat.reduceEqDiff, Nat.reduceAdd, Nat.reduceSub, Nat.reduceMul, Nat.reduceLT, Nat.reduceLeDiff, Int.reduceLT, Int.reduceLE, Int.reduceEq, Int.reduceNe, Int.reduceToNat, Int.reduceAdd, Int.reduceSub, Int.reduceMul, Int.natCast_zero]
  · simp only [go_sem, ↓reduceIte, reduceCtorEq, Nat.reduceEqDiff, Nat.reduceAdd, Nat.reduceSub, Nat.reduceMul, Nat.reduceLT, Nat.reduceLeDiff, Int.reduceLT, Int.reduceLE, Int.reduceEq, Int.reduceNe, Int.reduceToNat, Int.reduceAdd, Int.reduceSub, Int.reduceMul, Int.natCast_zero]

def ruleE (r : Rl) : Int := if rosV r.gen = false then 43 else if polV r.pol = false then 15 else if (1 ≤ r.seats ∧ r.seats ≤ 9 ∧ 1 ≤ r.span ∧ r.span ≤ 1000000 ∧ 0 ≤ r.quota ∧ r.quota ≤ 64) then 0 else 40
set_option maxHeartbeats 1000000 in
set_option maxRecDepth 100000 in
theorem rcheck24 (r : Rl) (h0 : big r.gen.length) (h1 : big r.pol.se.length) (h2 : big r.pol.ta.length) : Den Tryz.prog 49 [.agg (rl r)] [] (.int .i64 (ruleE r)) [] [] := by
  refine den_of Tryz.mixed Tryz.func49 rfl Tryz.call49 Tryz.ntmps49 (congrArg Array.toList Tryz.results49) (by simp) (by kernel_rfl) [] (exts := []) rfl rfl ?_
  generalize hm : ruleE r = m
  simp only [go_sem, ↓reduceIte, reduceCtorEq, Nat.reduceEqDiff, Nat.reduceAdd, Nat.reduceSub, Nat.reduceMul, Nat.reduceLT, Nat.reduceLeDiff, Int.reduceLT, Int.reduceLE, Int.reduceEq, Int.reduceNe, Int.reduceToNat, Int.reduceAdd, Int.reduceSub, Int.reduceMul, Int.natCast_zero]
  refine call (ros24 r.gen h0) [] ?_
  cases a1 : rosV r.gen
  · rw [ruleE, if_pos a1] at hm
    simp only [go_sem, ↓reduceIte, reduceCtorEq, Nat.reduceEqDiff, Nat.reduceAdd, Nat.reduceSub, Nat.reduceMul, Nat.reduceLT, Nat.reduceLeDiff, Int.reduceLT, Int.reduceLE, Int.reduceEq, Int.reduceNe, Int.reduceToNat, Int.reduceAdd, Int.reduceSub, Int.reduceMul, Int.natCast_zero]
    exact hm
  rw [ruleE, if_neg (by simp [a1])] at hm
  simp only [go_sem, ↓reduceIte, reduceCtorEq, Nat.reduceEqDiff, Nat.reduceAdd, Nat.reduceSub, Nat.reduceMul, Nat.reduceLT, Nat.reduceLeDiff, Int.reduceLT, Int.reduceLE, Int.reduceEq, Int.reduceNe, Int.reduceToNat, Int.reduceAdd, Int.reduceSub, Int.reduceMul, Int.natCast_zero]
  refine call (pcheck13 r.pol h1 h2) [] ?_
  cases a2 : polV r.pol
  · rw [if_pos a2] at hm
    simp only [go_sem, ↓reduceIte, reduceCtorEq, Nat.reduceEqDiff, Nat.reduceAdd, Nat.reduceSub, Nat.reduceMul, Nat.reduceLT, Nat.reduceLeDiff, Int.reduceLT, Int.reduceLE, Int.reduceEq, Int.reduceNe, Int.reduceToNat, Int.reduceAdd, Int.reduceSub, Int.reduceMul, Int.natCast_zero]
    exact hm
  rw [if_neg (by simp [a2])] at hm
  by_cases c1 : r.seats < 1
  · rw [if_neg (by omega)] at hm
    simp only [go_sem, ↓reduceIte, reduceCtorEq, Nat.reduceEqDiff, Nat.reduceAdd, Nat.reduceSub, Nat.reduceMul, Nat.reduceLT, Nat.reduceLeDiff, Int.reduceLT, Int.reduceLE, Int.reduceEq, Int.reduceNe, Int.reduceToNat, Int.reduceAdd, Int.reduceSub, Int.reduceMul, Int.natCast_zero, c1]
    exact hm
  by_cases c2 : 9 < r.seats
  · rw [if_neg (by omega)] at hm
    simp only [go_sem, ↓reduceIte, reduceCtorEq, Nat.reduceEqDiff, Nat.reduceAdd, Nat.reduceSub, Nat.reduceMul, Nat.reduceLT, Nat.reduceLeDiff, Int.reduceLT, Int.reduceLE, Int.reduceEq, Int.reduceNe, Int.reduceToNat, Int.reduceAdd, Int.reduceSub, Int.reduceMul, Int.natCast_zero, c1, c2]
    exact hm
  by_cases c3 : r.span < 1
  · rw [if_neg (by omega)] at hm
    simp only [go_sem, ↓reduceIte, reduceCtorEq, Nat.reduceEqDiff, Nat.reduceAdd, Nat.reduceSub, Nat.reduceMul, Nat.reduceLT, Nat.reduceLeDiff, Int.reduceLT, Int.reduceLE, Int.reduceEq, Int.reduceNe, Int.reduceToNat, Int.reduceAdd, Int.reduceSub, Int.reduceMul, Int.natCast_zero, c1, c2, c3]
    exact hm
  by_cases c4 : 1000000 < r.span
  · rw [if_neg (by omega)] at hm
    simp only [go_sem, ↓reduceIte, reduceCtorEq, Nat.reduceEqDiff, Nat.reduceAdd, Nat.reduceSub, Nat.reduceMul, Nat.reduceLT, Nat.reduceLeDiff, Int.reduceLT, Int.reduceLE, Int.reduceEq, Int.reduceNe, Int.reduceToNat, Int.reduceAdd, Int.reduceSub, Int.reduceMul, Int.natCast_zero, c1, c2, c3, c4]
    exact hm
  by_cases c5 : r.quota < 0
  · rw [if_neg (by omega)] at hm
    simp only [go_sem, ↓reduceIte, reduceCtorEq, Nat.reduceEqDiff, Nat.reduceAdd, Nat.reduceSub, Nat.reduceMul, Nat.reduceLT, Nat.reduceLeDiff, Int.reduceLT, Int.reduceLE, Int.reduceEq, Int.reduceNe, Int.reduceToNat, Int.reduceAdd, Int.reduceSub, Int.reduceMul, Int.natCast_zero, c1, c2, c3, c4, c5]
    exact hm
  by_cases c6 : 64 < r.quota
  · rw [if_neg (by omega)] at hm
    simp only [go_sem, ↓reduceIte, reduceCtorEq, Nat.reduceEqDiff, Nat.reduceAdd, Nat.reduceSub, Nat.reduceMul, Nat.reduceLT, Nat.reduceLeDiff, Int.reduceLT, Int.reduceLE, Int.reduceEq, Int.reduceNe, Int.reduceToNat, Int.reduceAdd, Int.reduceSub, Int.reduceMul, Int.natCast_zero, c1, c2, c3, c4, c5, c6]
    exact hm
  rw [if_pos (by omega)] at hm
  simp only [go_sem, ↓reduceIte, reduceCtorEq, Nat.reduceEqDiff, Nat.reduceAdd, Nat.reduceSub, Nat.reduceMul, Nat.reduceLT, Nat.reduceLeDiff, Int.reduceLT, Int.reduceLE, Int.reduceEq, Int.reduceNe, Int.reduceToNat, Int.reduceAdd, Int.reduceSub, Int.reduceMul, Int.natCast_zero, c1, c2, c3, c4, c5, c6]
  exact hm
end Go.Proofs.Am
