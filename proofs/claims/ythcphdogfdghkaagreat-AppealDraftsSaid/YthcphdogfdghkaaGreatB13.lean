/- Statements: the check. -/
import Derived.Test.YthcphdogfdghkaaGreatB12
set_option linter.unusedSimpArgs false
set_option linter.unusedVariables false
namespace Go.Proofs.Am
open Go Go.RowKit
open Go.Proofs

theorem el_get {α : Type} [Inhabited α] (l : List α) (i : Nat) (h : i < l.length) : el l i = l[i] := by simp [el, List.getD_eq_getElem?_getD, h]
/-- The place of the first for which p holds. -/
def fidx (p : Int → Bool) (l : List Int) : Int := match l.findIdx? p with | some i => (i : Int) | none => -1
theorem fidx_at {p : Int → Bool} {l : List Int} {i : Nat} (hi : i < l.length) (h : p (el l i) = true) (hb : ∀ j, j < i → p (el l j) = false) : fidx p l = i := by
  have : l.findIdx? p = some i := by
    rw [List.findIdx?_eq_some_iff_getElem]
    refine ⟨hi, by rw [← el_get]; exact h, fun j hj => ?_⟩
    have := hb j hj
    rw [el_get l j (by omega)] at this
    simp [this]
  rw [fidx, this]
theorem fidx_none {p : Int → Bool} {l : List Int} (hb : ∀ j, j < l.length → p (el l j) = false) : fidx p l = -1 := by
  have : l.findIdx? p = none := by
    rw [List.findIdx?_eq_none_iff]
    intro x hx
    obtain ⟨j, hj, rfl⟩ := List.getElem_of_mem hx
    have := hb j hj
    rw [el_get l j hj] at this
    exact this
  rw [fidx, this]
theorem fidx_any (p : Int → Bool) (l : List Int) : decide (0 ≤ fidx p l) = l.any p := by
  cases h : l.any p with
  | false =>
    have : l.findIdx? p = none := by
      rw [List.findIdx?_eq_none_iff]
      intro x hx
      rw [List.any_eq_false] at h
      simpa using h x hx
    rw [fidx, this]; rfl
  | true =>
    cases hf : l.findIdx? p with
    | none =>
      rw [List.findIdx?_eq_none_iff] at hf
      rw [List.any_eq_true] at h
      obtain ⟨x, hx, hp⟩ := h
      rw [hf x hx] at hp
      cases hp
    | some i => rw [fidx, hf]; simp

theorem indexF_den (p : Int → Bool) (f : FuncId) (hf : ∀ x, Den Tryz.prog f [.int .i64 x] [] (.bool (p x)) [] []) (l : List Int) (hl : big l.length) : Den Tryz.prog 64 [.vs (l.map i1), .fn f []] [] (.int .i64 (fidx p l)) [] [] := by
  refine den_of Tryz.mixed Tryz.func64 rfl Tryz.call64 Tryz.ntmps64 (congrArg Array.toList Tryz.results64) (by simp) (by kernel_rfl) [] (exts := []) rfl rfl ?_
  simp only [go_sem, ↓reduceIte, reduceCtorEq, Nat.reduceEqDiff, Nat.reduceAdd, Nat.reduceSub, Nat.reduceMul, Nat.reduceLT, Nat.reduceLeDiff, Int.reduceLT, Int.reduceLE, Int.reduceEq, Int.reduceNe, Int.reduceToNat, Int.reduceAdd, Int.reduceSub, Int.reduceMul, Int.natCast_zero]
  refine loop Tryz.mixed 0 (fun i : Nat => [(0, .vs (l.map i1)), (1, .fn f []), (7, .int .i64 l.length), (8, .int .i64 i)]) (fun i => []) (fun i => i ≤ l.length ∧ ∀ j, j < i → p (el l j) = false) (fun i => l.length - i) (by kernel_rfl) ?_ ?_ ?_
  · simp
  · simp only [go_sem, ↓reduceIte, reduceCtorEq, Nat.reduceEqDiff, Nat.reduceAdd, Nat.reduceSub, Nat.reduceMul, Nat.reduceLT, Nat.reduceLeDiff, Int.reduceLT, Int.reduceLE, Int.reduceEq, Int.reduceNe, Int.reduceToNat, Int.reduceAdd, Int.reduceSub, Int.reduceMul, Int.natCast_zero]
  · rintro i ⟨hi, hp⟩
    by_cases hi' : i < l.length
    · have hlt : (i : Int) < (l.length : Int) := by omega
      simp only [go_sem, ↓reduceIte, reduceCtorEq, Nat.reduceEqDiff, Nat.reduceAdd, Nat.reduceSub, Nat.reduceMul, Nat.reduceLT, Nat.reduceLeDiff, Int.reduceLT, Int.reduceLE, Int.reduceEq, Int.reduceNe, Int.reduceToNat, Int.reduceAdd, Int.reduceSub, Int.reduceMul, Int.natCast_zero, hlt, hi']
      refine call (hf (el l i)) [] ?_
      cases e : p (el l i)
      · simp only [go_sem, ↓reduceIte, reduceCtorEq, Nat.reduceEqDiff, Nat.reduceAdd, Nat.reduceSub, Nat.reduceMul, Nat.reduceLT, Nat.reduceLeDiff, Int.reduceLT, Int.reduceLE, Int.reduceEq, Int.reduceNe, Int.reduceToNat, Int.reduceAdd, Int.reduceSub, Int.reduceMul, Int.natCast_zero]
        refine ⟨i + 1, ⟨⟨by omega, fun j hj => ?_⟩, by omega⟩, by rw [wrapI] <;> omega⟩
        by_cases hji : j = i
        · rw [hji]; exact e
        · exact hp j (by omega)
      · simp only [go_sem, ↓reduceIte, reduceCtorEq, Nat.reduceEqDiff, Nat.reduceAdd, Nat.reduceSub, Nat.reduceMul, Nat.reduceLT, Nat.reduceLeDiff, Int.reduceLT, Int.reduceLE, Int.reduceEq, Int.reduceNe, Int.reduceToNat, Int.reduceAdd, Int.reduceSub, Int.reduceMul, Int.natCast_zero]
        rw [fidx_at hi' e hp]
    · have hf : ¬ ((i : Int) < (l.length : Int)) := by omega
      have : i = l.length := by omega
      subst this
      simp only [go_sem, ↓reduceIte, reduceCtorEq, Nat.reduceEqDiff, Nat.reduceAdd, Nat.reduceSub, Nat.reduceMul, Nat.reduceLT, Nat.reduceLeDiff, Int.reduceLT, Int.reduceLE, Int.reduceEq, Int.reduceNe, Int.reduceToNat, Int.reduceAdd, Int.reduceSub, Int.reduceMul, Int.natCast_zero, hf]
      rw [fidx_none hp]
theorem containsF_den (p : Int → Bool) (f : FuncId) (hf : ∀ x, Den Tryz.prog f [.int .i64 x] [] (.bool (p x)) [] []) (l : List Int) (hl : big l.length) : Den Tryz.prog 44 [.vs (l.map i1), .fn f []] [] (.bool (l.any p)) [] [] := by
  refine den_of Tryz.mixed Tryz.func44 rfl Tryz.call44 Tryz.ntmps44 (congrArg Array.toList Tryz.results44) (by simp) (by kernel_rfl) [] (exts := []) rfl rfl ?_
  simp only [go_sem, ↓reduceIte, reduceCtorEq, Nat.reduceEqDiff, Nat.reduceAdd, Nat.reduceSub, Nat.reduceMul, Nat.reduceLT, Nat.reduceLeDiff, Int.reduceLT, Int.reduceLE, Int.reduceEq, Int.reduceNe, Int.reduceToNat, Int.reduceAdd, Int.reduceSub, Int.reduceMul, Int.natCast_zero]
  refine call (indexF_den p f hf l hl) [] ?_
  simp only [go_sem, ↓reduceIte, reduceCtorEq, Nat.reduceEqDiff, Nat.reduceAdd, Nat.reduceSub, Nat.reduceMul, Nat.reduceLT, Nat.reduceLeDiff, Int.reduceLT, Int.reduceLE, Int.reduceEq, Int.reduceNe, Int.reduceToNat, Int.reduceAdd, Int.reduceSub, Int.reduceMul, Int.natCast_zero]
  exact fidx_any p l

theorem z0 : inB 0 0 199 = true := rfl
def checkE (s : Stm) : Int :=
  if inB s.au 0 63 = false then 4
  else if (!inB s.kd 1 3 && !inB s.kd 10 31) = true then 5
  else if inB s.ti 0 2147483648 = false then 9
  else if (!inB s.nu 0 199 || !valB s.a || !valB s.b || !valB s.c || !meantB s || s.li.any fun x => !valB x) = true then 2
  else if (decide (64 < s.li.length) || decide (64 < s.pins.length) || decide (4096 < s.body.length)) = true then 3
  else if ((decide (s.nu = 0) && decide (s.prev ≠ [])) || (decide (0 < s.nu) && decide (s.prev.length ≠ 32)) || !pinsB s.pins || (decide (s.kd ≤ 3) && decide (0 < s.li.length + s.pins.length + s.body.length))) = true then 1
  else 0

set_option maxHeartbeats 1000000 in
set_option maxRecDepth 100000 in
theorem check_den (s : Stm) (hs : okS s) : Den Tryz.prog 28 [.agg (sm s)] [] (.int .i64 (checkE s)) [] [] := by
  simp only [okS, stB, pre2, pre1, hdB, List.length_append, beL_len, be8_len, txB_len, l5, List.length_cons, List.length_nil] at hs
  have hfg := flat_ge s.pins
  have hbl : big s.li.length := by simp only [big]; omega
  have hbp : big s.pins.length := by simp only [big]; omega
  refine den_of Tryz.mixed Tryz.func28 rfl Tryz.call28 Tryz.ntmps28 (congrArg Array.toList Tryz.results28) (by simp) (by kernel_rfl) [] (exts := []) rfl rfl ?_
  generalize hm : checkE s = m
  simp only [go_sem, ↓reduceIte, reduceCtorEq, Nat.reduceEqDiff, Nat.reduceAdd, Nat.reduceSub, Nat.reduceMul, Nat.reduceLT, Nat.reduceLeDiff, Int.reduceLT, Int.reduceLE, Int.reduceEq, Int.reduceNe, Int.reduceToNat, Int.reduceAdd, Int.reduceSub, Int.reduceMul, Int.natCast_zero]
  refine call (in_den s.au 0 63) [] ?_
  cases e1 : inB s.au 0 63
  · simp only [go_sem, ↓reduceIte, reduceCtorEq, Nat.reduceEqDiff, Nat.reduceAdd, Nat.reduceSub, Nat.reduceMul, Nat.reduceLT, Nat.reduceLeDiff, Int.reduceLT, Int.reduceLE, Int.reduceEq, Int.reduceNe, Int.reduceToNat, Int.reduceAdd, Int.reduceSub, Int.reduceMul, Int.natCast_zero]
    rw [← hm]; simp only [checkE, e1]; rfl
  simp only [go_sem, ↓reduceIte, reduceCtorEq, Nat.reduceEqDiff, Nat.reduceAdd, Nat.reduceSub, Nat.reduceMul, Nat.reduceLT, Nat.reduceLeDiff, Int.reduceLT, Int.reduceLE, Int.reduceEq, Int.reduceNe, Int.reduceToNat, Int.reduceAdd, Int.reduceSub, Int.reduceMul, Int.natCast_zero]
  refine call (in_den s.kd 1 3) [] ?_
  cases e2 : inB s.kd 1 3
  · simp only [go_sem, ↓reduceIte, reduceCtorEq, Nat.reduceEqDiff, Nat.reduceAdd, Nat.reduceSub, Nat.reduceMul, Nat.reduceLT, Nat.reduceLeDiff, Int.reduceLT, Int.reduceLE, Int.reduceEq, Int.reduceNe, Int.reduceToNat, Int.reduceAdd, Int.reduceSub, Int.reduceMul, Int.natCast_zero]
    refine call (in_den s.kd 10 31) [] ?_
    cases e3 : inB s.kd 10 31
    · simp only [go_sem, ↓reduceIte, reduceCtorEq, Nat.reduceEqDiff, Nat.reduceAdd, Nat.reduceSub, Nat.reduceMul, Nat.reduceLT, Nat.reduceLeDiff, Int.reduceLT, Int.reduceLE, Int.reduceEq, Int.reduceNe, Int.reduceToNat, Int.reduceAdd, Int.reduceSub, Int.reduceMul, Int.natCast_zero]
      rw [← hm]; simp [checkE, e1, e2, e3]
    have ek : (!inB s.kd 1 3 && !inB s.kd 10 31) = false := by simp [e2, e3]
    simp only [go_sem, ↓reduceIte, reduceCtorEq, Nat.reduceEqDiff, Nat.reduceAdd, Nat.reduceSub, Nat.reduceMul, Nat.reduceLT, Nat.reduceLeDiff, Int.reduceLT, Int.reduceLE, Int.reduceEq, Int.reduceNe, Int.reduceToNat, Int.reduceAdd, Int.reduceSub, Int.reduceMul, Int.natCast_zero]
    refine call (in_den s.ti 0 2147483648) [] ?_
    cases e4 : inB s.ti 0 2147483648
    · simp only [go_sem, ↓reduceIte, reduceCtorEq, Nat.reduceEqDiff, Nat.reduceAdd, Nat.reduceSub, Nat.reduceMul, Nat.reduceLT, Nat.reduceLeDiff, Int.reduceLT, Int.reduceLE, Int.reduceEq, Int.reduceNe, Int.reduceToNat, Int.reduceAdd, Int.reduceSub, Int.reduceMul, Int.natCast_zero]
      rw [← hm]; simp [checkE, e1, ek, e4]
    simp only [go_sem, ↓reduceIte, reduceCtorEq, Nat.reduceEqDiff, Nat.reduceAdd, Nat.reduceSub, Nat.reduceMul, Nat.reduceLT, Nat.reduceLeDiff, Int.reduceLT, Int.reduceLE, Int.reduceEq, Int.reduceNe, Int.reduceToNat, Int.reduceAdd, Int.reduceSub, Int.reduceMul, Int.natCast_zero]
    refine call (in_den s.nu 0 199) [] ?_
    cases e5 : inB s.nu 0 199
    · simp only [go_sem, ↓reduceIte, reduceCtorEq, Nat.reduceEqDiff, Nat.reduceAdd, Nat.reduceSub, Nat.reduceMul, Nat.reduceLT, Nat.reduceLeDiff, Int.reduceLT, Int.reduceLE, Int.reduceEq, Int.reduceNe, Int.reduceToNat, Int.reduceAdd, Int.reduceSub, Int.reduceMul, Int.natCast_zero]
      rw [← hm]; simp [checkE, e1, ek, e4, e5]
    simp only [go_sem, ↓reduceIte, reduceCtorEq, Nat.reduceEqDiff, Nat.reduceAdd, Nat.reduceSub, Nat.reduceMul, Nat.reduceLT, Nat.reduceLeDiff, Int.reduceLT, Int.reduceLE, Int.reduceEq, Int.reduceNe, Int.reduceToNat, Int.reduceAdd, Int.reduceSub, Int.reduceMul, Int.natCast_zero]
    refine call (value_den s.a) [] ?_
    cases e6 : valB s.a
    · simp only [go_sem, ↓reduceIte, reduceCtorEq, Nat.reduceEqDiff, Nat.reduceAdd, Nat.reduceSub, Nat.reduceMul, Nat.reduceLT, Nat.reduceLeDiff, Int.reduceLT, Int.reduceLE, Int.reduceEq, Int.reduceNe, Int.reduceToNat, Int.reduceAdd, Int.reduceSub, Int.reduceMul, Int.natCast_zero]
      rw [← hm]; simp [checkE, e1, ek, e4, e5, e6]
    simp only [go_sem, ↓reduceIte, reduceCtorEq, Nat.reduceEqDiff, Nat.reduceAdd, Nat.reduceSub, Nat.reduceMul, Nat.reduceLT, Nat.reduceLeDiff, Int.reduceLT, Int.reduceLE, Int.reduceEq, Int.reduceNe, Int.reduceToNat, Int.reduceAdd, Int.reduceSub, Int.reduceMul, Int.natCast_zero]
    refine call (value_den s.b) [] ?_
    cases e7 : valB s.b
    · simp only [go_sem, ↓reduceIte, reduceCtorEq, Nat.reduceEqDiff, Nat.reduceAdd, Nat.reduceSub, Nat.reduceMul, Nat.reduceLT, Nat.reduceLeDiff, Int.reduceLT, Int.reduceLE, Int.reduceEq, Int.reduceNe, Int.reduceToNat, Int.reduceAdd, Int.reduceSub, Int.reduceMul, Int.natCast_zero]
      rw [← hm]; simp [checkE, e1, ek, e4, e5, e6, e7]
    simp only [go_sem, ↓reduceIte, reduceCtorEq, Nat.reduceEqDiff, Nat.reduceAdd, Nat.reduceSub, Nat.reduceMul, Nat.reduceLT, Nat.reduceLeDiff, Int.reduceLT, Int.reduceLE, Int.reduceEq, Int.reduceNe, Int.reduceToNat, Int.reduceAdd, Int.reduceSub, Int.reduceMul, Int.natCast_zero]
    refine call (value_den s.c) [] ?_
    cases e8 : valB s.c
    · simp only [go_sem, ↓reduceIte, reduceCtorEq, Nat.reduceEqDiff, Nat.reduceAdd, Nat.reduceSub, Nat.reduceMul, Nat.reduceLT, Nat.reduceLeDiff, Int.reduceLT, Int.reduceLE, Int.reduceEq, Int.reduceNe, Int.reduceToNat, Int.reduceAdd, Int.reduceSub, Int.reduceMul, Int.natCast_zero]
      rw [← hm]; simp [checkE, e1, ek, e4, e5, e6, e7, e8]
    simp only [go_sem, ↓reduceIte, reduceCtorEq, Nat.reduceEqDiff, Nat.reduceAdd, Nat.reduceSub, Nat.reduceMul, Nat.reduceLT, Nat.reduceLeDiff, Int.reduceLT, Int.reduceLE, Int.reduceEq, Int.reduceNe, Int.reduceToNat, Int.reduceAdd, Int.reduceSub, Int.reduceMul, Int.natCast_zero]
    refine call (meant_den s) [] ?_
    cases e9 : meantB s
    · simp only [go_sem, ↓reduceIte, reduceCtorEq, Nat.reduceEqDiff, Nat.reduceAdd, Nat.reduceSub, Nat.reduceMul, Nat.reduceLT, Nat.reduceLeDiff, Int.reduceLT, Int.reduceLE, Int.reduceEq, Int.reduceNe, Int.reduceToNat, Int.reduceAdd, Int.reduceSub, Int.reduceMul, Int.natCast_zero]
      rw [← hm]; simp [checkE, e1, ek, e4, e5, e6, e7, e8, e9]
    simp only [go_sem, ↓reduceIte, reduceCtorEq, Nat.reduceEqDiff, Nat.reduceAdd, Nat.reduceSub, Nat.reduceMul, Nat.reduceLT, Nat.reduceLeDiff, Int.reduceLT, Int.reduceLE, Int.reduceEq, Int.reduceNe, Int.reduceToNat, Int.reduceAdd, Int.reduceSub, Int.reduceMul, Int.natCast_zero]
    refine call (containsF_den (fun x => !valB x) 45 notval_den s.li hbl) [] ?_
    cases e10 : (s.li.any fun x => !valB x)
    rotate_left
    · simp only [go_sem, ↓reduceIte, reduceCtorEq, Nat.reduceEqDiff, Nat.reduceAdd, Nat.reduceSub, Nat.reduceMul, Nat.reduceLT, Nat.reduceLeDiff, Int.reduceLT, Int.reduceLE, Int.reduceEq, Int.reduceNe, Int.reduceToNat, Int.reduceAdd, Int.reduceSub, Int.reduceMul, Int.natCast_zero]
      rw [← hm]; simp [checkE, e1, ek, e4, e5, e6, e7, e8, e9, e10]
    by_cases e11 : (64 : Int) < (s.li.length : Int)
    · have e11' : 64 < s.li.length := by omega
      simp only [go_sem, ↓reduceIte, reduceCtorEq, Nat.reduceEqDiff, Nat.reduceAdd, Nat.reduceSub, Nat.reduceMul, Nat.reduceLT, Nat.reduceLeDiff, Int.reduceLT, Int.reduceLE, Int.reduceEq, Int.reduceNe, Int.reduceToNat, Int.reduceAdd, Int.reduceSub, Int.reduceMul, Int.natCast_zero, e11]
      rw [← hm]; simp [checkE, e1, ek, e4, e5, e6, e7, e8, e9, e10, (show (decide (64 < s.li.length) || decide (64 < s.pins.length) || decide (4096 < s.body.length)) = true by simp [e11'])]
    by_cases e12 : (64 : Int) < (s.pins.length : Int)
    · have e12' : 64 < s.pins.length := by omega
      simp only [go_sem, ↓reduceIte, reduceCtorEq, Nat.reduceEqDiff, Nat.reduceAdd, Nat.reduceSub, Nat.reduceMul, Nat.reduceLT, Nat.reduceLeDiff, Int.reduceLT, Int.reduceLE, Int.reduceEq, Int.reduceNe, Int.reduceToNat, Int.reduceAdd, Int.reduceSub, Int.reduceMul, Int.natCast_zero, e11, e12]
      rw [← hm]; simp [checkE, e1, ek, e4, e5, e6, e7, e8, e9, e10, (show (decide (64 < s.li.length) || decide (64 < s.pins.length) || decide (4096 < s.body.length)) = true by simp [e12'])]
    by_cases e13 : (4096 : Int) < (s.body.length : Int)
    · have e13' : 4096 < s.body.length := by omega
      simp only [go_sem, ↓reduceIte, reduceCtorEq, Nat.reduceEqDiff, Nat.reduceAdd, Nat.reduceSub, Nat.reduceMul, Nat.reduceLT, Nat.reduceLeDiff, Int.reduceLT, Int.reduceLE, Int.reduceEq, Int.reduceNe, Int.reduceToNat, Int.reduceAdd, Int.reduceSub, Int.reduceMul, Int.natCast_zero, e11, e12, e13]
      rw [← hm]; simp [checkE, e1, ek, e4, e5, e6, e7, e8, e9, e10, (show (decide (64 < s.li.length) || decide (64 < s.pins.length) || decide (4096 < s.body.length)) = true by simp [e13'])]
    have elen : (decide (64 < s.li.length) || decide (64 < s.pins.length) || decide (4096 < s.body.length)) = false := by simp; omega
    by_cases n0 : s.nu = 0
    · by_cases n1 : s.prev = []
      · simp only [go_sem, ↓reduceIte, reduceCtorEq, Nat.reduceEqDiff, Nat.reduceAdd, Nat.reduceSub, Nat.reduceMul, Nat.reduceLT, Nat.reduceLeDiff, Int.reduceLT, Int.reduceLE, Int.reduceEq, Int.reduceNe, Int.reduceToNat, Int.reduceAdd, Int.reduceSub, Int.reduceMul, Int.natCast_zero, e11, e12, e13, n0, n1]
        refine call (pinned_den s.pins hbp) [] ?_
        cases e14 : pinsB s.pins
        · simp only [go_sem, ↓reduceIte, reduceCtorEq, Nat.reduceEqDiff, Nat.reduceAdd, Nat.reduceSub, Nat.reduceMul, Nat.reduceLT, Nat.reduceLeDiff, Int.reduceLT, Int.reduceLE, Int.reduceEq, Int.reduceNe, Int.reduceToNat, Int.reduceAdd, Int.reduceSub, Int.reduceMul, Int.natCast_zero]
          rw [← hm]; simp [checkE, e1, ek, e4, e5, e6, e7, e8, e9, e10, elen, n0, z0, n1, e14]
        by_cases e15 : s.kd ≤ 3
        · have w1 : IntKind.i64.wrap ((s.li.length : Int) + s.pins.length) = ((s.li.length + s.pins.length : Nat) : Int) := by rw [wrapI] <;> omega
          have w2 : IntKind.i64.wrap (((s.li.length + s.pins.length : Nat) : Int) + s.body.length) = ((s.li.length + s.pins.length + s.body.length : Nat) : Int) := by rw [wrapI] <;> omega
          by_cases e16 : 0 < s.li.length + s.pins.length + s.body.length
          · have e16' : (0 : Int) < ((s.li.length + s.pins.length + s.body.length : Nat) : Int) := by omega
            simp only [go_sem, ↓reduceIte, reduceCtorEq, Nat.reduceEqDiff, Nat.reduceAdd, Nat.reduceSub, Nat.reduceMul, Nat.reduceLT, Nat.reduceLeDiff, Int.reduceLT, Int.reduceLE, Int.reduceEq, Int.reduceNe, Int.reduceToNat, Int.reduceAdd, Int.reduceSub, Int.reduceMul, Int.natCast_zero, e15, w1, w2, e16']
            rw [← hm]; simp [checkE, e1, ek, e4, e5, e6, e7, e8, e9, e10, elen, n0, z0, n1, e14, e15, e16]
            try omega
          · have e16' : ¬ (0 : Int) < ((s.li.length + s.pins.length + s.body.length : Nat) : Int) := by omega
            simp only [go_sem, ↓reduceIte, reduceCtorEq, Nat.reduceEqDiff, Nat.reduceAdd, Nat.reduceSub, Nat.reduceMul, Nat.reduceLT, Nat.reduceLeDiff, Int.reduceLT, Int.reduceLE, Int.reduceEq, Int.reduceNe, Int.reduceToNat, Int.reduceAdd, Int.reduceSub, Int.reduceMul, Int.natCast_zero, e15, w1, w2, e16']
            rw [← hm]; simp [checkE, e1, ek, e4, e5, e6, e7, e8, e9, e10, elen, n0, z0, n1, e14, e15, e16]
            try omega
        · simp only [go_sem, ↓reduceIte, reduceCtorEq, Nat.reduceEqDiff, Nat.reduceAdd, Nat.reduceSub, Nat.reduceMul, Nat.reduceLT, Nat.reduceLeDiff, Int.reduceLT, Int.reduceLE, Int.reduceEq, Int.reduceNe, Int.reduceToNat, Int.reduceAdd, Int.reduceSub, Int.reduceMul, Int.natCast_zero, e15]
          rw [← hm]; simp [checkE, e1, ek, e4, e5, e6, e7, e8, e9, e10, elen, n0, z0, n1, e14, e15]
      · simp only [go_sem, ↓reduceIte, reduceCtorEq, Nat.reduceEqDiff, Nat.reduceAdd, Nat.reduceSub, Nat.reduceMul, Nat.reduceLT, Nat.reduceLeDiff, Int.reduceLT, Int.reduceLE, Int.reduceEq, Int.reduceNe, Int.reduceToNat, Int.reduceAdd, Int.reduceSub, Int.reduceMul, Int.natCast_zero, e11, e12, e13, n0, n1]
        rw [← hm]; simp [checkE, e1, ek, e4, e5, e6, e7, e8, e9, e10, elen, n0, z0, n1]
    · have n2 : 0 < s.nu := by simp only [inB, decide_eq_true_eq] at e5; omega
      by_cases n3 : (s.prev.length : Int) = 32
      · have n3' : s.prev.length = 32 := by omega
        simp only [go_sem, ↓reduceIte, reduceCtorEq, Nat.reduceEqDiff, Nat.reduceAdd, Nat.reduceSub, Nat.reduceMul, Nat.reduceLT, Nat.reduceLeDiff, Int.reduceLT, Int.reduceLE, Int.reduceEq, Int.reduceNe, Int.reduceToNat, Int.reduceAdd, Int.reduceSub, Int.reduceMul, Int.natCast_zero, e11, e12, e13, n0, n2, n3]
        refine call (pinned_den s.pins hbp) [] ?_
        cases e14 : pinsB s.pins
        · simp only [go_sem, ↓reduceIte, reduceCtorEq, Nat.reduceEqDiff, Nat.reduceAdd, Nat.reduceSub, Nat.reduceMul, Nat.reduceLT, Nat.reduceLeDiff, Int.reduceLT, Int.reduceLE, Int.reduceEq, Int.reduceNe, Int.reduceToNat, Int.reduceAdd, Int.reduceSub, Int.reduceMul, Int.natCast_zero]
          rw [← hm]; simp [checkE, e1, ek, e4, e5, e6, e7, e8, e9, e10, elen, n0, n3', e14]
        by_cases e15 : s.kd ≤ 3
        · have w1 : IntKind.i64.wrap ((s.li.length : Int) + s.pins.length) = ((s.li.length + s.pins.length : Nat) : Int) := by rw [wrapI] <;> omega
          have w2 : IntKind.i64.wrap (((s.li.length + s.pins.length : Nat) : Int) + s.body.length) = ((s.li.length + s.pins.length + s.body.length : Nat) : Int) := by rw [wrapI] <;> omega
          by_cases e16 : 0 < s.li.length + s.pins.length + s.body.length
          · have e16' : (0 : Int) < ((s.li.length + s.pins.length + s.body.length : Nat) : Int) := by omega
            simp only [go_sem, ↓reduceIte, reduceCtorEq, Nat.reduceEqDiff, Nat.reduceAdd, Nat.reduceSub, Nat.reduceMul, Nat.reduceLT, Nat.reduceLeDiff, Int.reduceLT, Int.reduceLE, Int.reduceEq, Int.reduceNe, Int.reduceToNat, Int.reduceAdd, Int.reduceSub, Int.reduceMul, Int.natCast_zero, e15, w1, w2, e16']
            rw [← hm]; simp [checkE, e1, ek, e4, e5, e6, e7, e8, e9, e10, elen, n0, n3', e14, e15, e16]
            try omega
          · have e16' : ¬ (0 : Int) < ((s.li.length + s.pins.length + s.body.length : Nat) : Int) := by omega
            simp only [go_sem, ↓reduceIte, reduceCtorEq, Nat.reduceEqDiff, Nat.reduceAdd, Nat.reduceSub, Nat.reduceMul, Nat.reduceLT, Nat.reduceLeDiff, Int.reduceLT, Int.reduceLE, Int.reduceEq, Int.reduceNe, Int.reduceToNat, Int.reduceAdd, Int.reduceSub, Int.reduceMul, Int.natCast_zero, e15, w1, w2, e16']
            rw [← hm]; simp [checkE, e1, ek, e4, e5, e6, e7, e8, e9, e10, elen, n0, n3', e14, e15, e16]
            try omega
        · simp only [go_sem, ↓reduceIte, reduceCtorEq, Nat.reduceEqDiff, Nat.reduceAdd, Nat.reduceSub, Nat.reduceMul, Nat.reduceLT, Nat.reduceLeDiff, Int.reduceLT, Int.reduceLE, Int.reduceEq, Int.reduceNe, Int.reduceToNat, Int.reduceAdd, Int.reduceSub, Int.reduceMul, Int.natCast_zero, e15]
          rw [← hm]; simp [checkE, e1, ek, e4, e5, e6, e7, e8, e9, e10, elen, n0, n3', e14, e15]
      · have n3' : ¬ s.prev.length = 32 := by omega
        simp only [go_sem, ↓reduceIte, reduceCtorEq, Nat.reduceEqDiff, Nat.reduceAdd, Nat.reduceSub, Nat.reduceMul, Nat.reduceLT, Nat.reduceLeDiff, Int.reduceLT, Int.reduceLE, Int.reduceEq, Int.reduceNe, Int.reduceToNat, Int.reduceAdd, Int.reduceSub, Int.reduceMul, Int.natCast_zero, e11, e12, e13, n0, n2, n3]
        rw [← hm]; simp [checkE, e1, ek, e4, e5, e6, e7, e8, e9, e10, elen, n0, n2, n3']
  have ek : (!inB s.kd 1 3 && !inB s.kd 10 31) = false := by simp [e2]
  simp only [go_sem, ↓reduceIte, reduceCtorEq, Nat.reduceEqDiff, Nat.reduceAdd, Nat.reduceSub, Nat.reduceMul, Nat.reduceLT, Nat.reduceLeDiff, Int.reduceLT, Int.reduceLE, Int.reduceEq, Int.reduceNe, Int.reduceToNat, Int.reduceAdd, Int.reduceSub, Int.reduceMul, Int.natCast_zero]
  refine call (in_den s.ti 0 2147483648) [] ?_
  cases e4 : inB s.ti 0 2147483648
  · simp only [go_sem, ↓reduceIte, reduceCtorEq, Nat.reduceEqDiff, Nat.reduceAdd, Nat.reduceSub, Nat.reduceMul, Nat.reduceLT, Nat.reduceLeDiff, Int.reduceLT, Int.reduceLE, Int.reduceEq, Int.reduceNe, Int.reduceToNat, Int.reduceAdd, Int.reduceSub, Int.reduceMul, Int.natCast_zero]
    rw [← hm]; simp [checkE, e1, ek, e4]
  simp only [go_sem, ↓reduceIte, reduceCtorEq, Nat.reduceEqDiff, Nat.reduceAdd, Nat.reduceSub, Nat.reduceMul, Nat.reduceLT, Nat.reduceLeDiff, Int.reduceLT, Int.reduceLE, Int.reduceEq, Int.reduceNe, Int.reduceToNat, Int.reduceAdd, Int.reduceSub, Int.reduceMul, Int.natCast_zero]
  refine call (in_den s.nu 0 199) [] ?_
  cases e5 : inB s.nu 0 199
  · simp only [go_sem, ↓reduceIte, reduceCtorEq, Nat.reduceEqDiff, Nat.reduceAdd, Nat.reduceSub, Nat.reduceMul, Nat.reduceLT, Nat.reduceLeDiff, Int.reduceLT, Int.reduceLE, Int.reduceEq, Int.reduceNe, Int.reduceToNat, Int.reduceAdd, Int.reduceSub, Int.reduceMul, Int.natCast_zero]
    rw [← hm]; simp [checkE, e1, ek, e4, e5]
  simp only [go_sem, ↓reduceIte, reduceCtorEq, Nat.reduceEqDiff, Nat.reduceAdd, Nat.reduceSub, Nat.reduceMul, Nat.reduceLT, Nat.reduceLeDiff, Int.reduceLT, Int.reduceLE, Int.reduceEq, Int.reduceNe, Int.reduceToNat, Int.reduceAdd, Int.reduceSub, Int.reduceMul, Int.natCast_zero]
  refine call (value_den s.a) [] ?_
  cases e6 : valB s.a
  · simp only [go_sem, ↓reduceIte, reduceCtorEq, Nat.reduceEqDiff, Nat.reduceAdd, Nat.reduceSub, Nat.reduceMul, Nat.reduceLT, Nat.reduceLeDiff, Int.reduceLT, Int.reduceLE, Int.reduceEq, Int.reduceNe, Int.reduceToNat, Int.reduceAdd, Int.reduceSub, Int.reduceMul, Int.natCast_zero]
    rw [← hm]; simp [checkE, e1, ek, e4, e5, e6]
  simp only [go_sem, ↓reduceIte, reduceCtorEq, Nat.reduceEqDiff, Nat.reduceAdd, Nat.reduceSub, Nat.reduceMul, Nat.reduceLT, Nat.reduceLeDiff, Int.reduceLT, Int.reduceLE, Int.reduceEq, Int.reduceNe, Int.reduceToNat, Int.reduceAdd, Int.reduceSub, Int.reduceMul, Int.natCast_zero]
  refine call (value_den s.b) [] ?_
  cases e7 : valB s.b
  · simp only [go_sem, ↓reduceIte, reduceCtorEq, Nat.reduceEqDiff, Nat.reduceAdd, Nat.reduceSub, Nat.reduceMul, Nat.reduceLT, Nat.reduceLeDiff, Int.reduceLT, Int.reduceLE, Int.reduceEq, Int.reduceNe, Int.reduceToNat, Int.reduceAdd, Int.reduceSub, Int.reduceMul, Int.natCast_zero]
    rw [← hm]; simp [checkE, e1, ek, e4, e5, e6, e7]
  simp only [go_sem, ↓reduceIte, reduceCtorEq, Nat.reduceEqDiff, Nat.reduceAdd, Nat.reduceSub, Nat.reduceMul, Nat.reduceLT, Nat.reduceLeDiff, Int.reduceLT, Int.reduceLE, Int.reduceEq, Int.reduceNe, Int.reduceToNat, Int.reduceAdd, Int.reduceSub, Int.reduceMul, Int.natCast_zero]
  refine call (value_den s.c) [] ?_
  cases e8 : valB s.c
  · simp only [go_sem, ↓reduceIte, reduceCtorEq, Nat.reduceEqDiff, Nat.reduceAdd, Nat.reduceSub, Nat.reduceMul, Nat.reduceLT, Nat.reduceLeDiff, Int.reduceLT, Int.reduceLE, Int.reduceEq, Int.reduceNe, Int.reduceToNat, Int.reduceAdd, Int.reduceSub, Int.reduceMul, Int.natCast_zero]
    rw [← hm]; simp [checkE, e1, ek, e4, e5, e6, e7, e8]
  simp only [go_sem, ↓reduceIte, reduceCtorEq, Nat.reduceEqDiff, Nat.reduceAdd, Nat.reduceSub, Nat.reduceMul, Nat.reduceLT, Nat.reduceLeDiff, Int.reduceLT, Int.reduceLE, Int.reduceEq, Int.reduceNe, Int.reduceToNat, Int.reduceAdd, Int.reduceSub, Int.reduceMul, Int.natCast_zero]
  refine call (meant_den s) [] ?_
  cases e9 : meantB s
  · simp only [go_sem, ↓reduceIte, reduceCtorEq, Nat.reduceEqDiff, Nat.reduceAdd, Nat.reduceSub, Nat.reduceMul, Nat.reduceLT, Nat.reduceLeDiff, Int.reduceLT, Int.reduceLE, Int.reduceEq, Int.reduceNe, Int.reduceToNat, Int.reduceAdd, Int.reduceSub, Int.reduceMul, Int.natCast_zero]
    rw [← hm]; simp [checkE, e1, ek, e4, e5, e6, e7, e8, e9]
  simp only [go_sem, ↓reduceIte, reduceCtorEq, Nat.reduceEqDiff, Nat.reduceAdd, Nat.reduceSub, Nat.reduceMul, Nat.reduceLT, Nat.reduceLeDiff, Int.reduceLT, Int.reduceLE, Int.reduceEq, Int.reduceNe, Int.reduceToNat, Int.reduceAdd, Int.reduceSub, Int.reduceMul, Int.natCast_zero]
  refine call (containsF_den (fun x => !valB x) 45 notval_den s.li hbl) [] ?_
  cases e10 : (s.li.any fun x => !valB x)
  rotate_left
  · simp only [go_sem, ↓reduceIte, reduceCtorEq, Nat.reduceEqDiff, Nat.reduceAdd, Nat.reduceSub, Nat.reduceMul, Nat.reduceLT, Nat.reduceLeDiff, Int.reduceLT, Int.reduceLE, Int.reduceEq, Int.reduceNe, Int.reduceToNat, Int.reduceAdd, Int.reduceSub, Int.reduceMul, Int.natCast_zero]
    rw [← hm]; simp [checkE, e1, ek, e4, e5, e6, e7, e8, e9, e10]
  by_cases e11 : (64 : Int) < (s.li.length : Int)
  · have e11' : 64 < s.li.length := by omega
    simp only [go_sem, ↓reduceIte, reduceCtorEq, Nat.reduceEqDiff, Nat.reduceAdd, Nat.reduceSub, Nat.reduceMul, Nat.reduceLT, Nat.reduceLeDiff, Int.reduceLT, Int.reduceLE, Int.reduceEq, Int.reduceNe, Int.reduceToNat, Int.reduceAdd, Int.reduceSub, Int.reduceMul, Int.natCast_zero, e11]
    rw [← hm]; simp [checkE, e1, ek, e4, e5, e6, e7, e8, e9, e10, (show (decide (64 < s.li.length) || decide (64 < s.pins.length) || decide (4096 < s.body.length)) = true by simp [e11'])]
  by_cases e12 : (64 : Int) < (s.pins.length : Int)
  · have e12' : 64 < s.pins.length := by omega
    simp only [go_sem, ↓reduceIte, reduceCtorEq, Nat.reduceEqDiff, Nat.reduceAdd, Nat.reduceSub, Nat.reduceMul, Nat.reduceLT, Nat.reduceLeDiff, Int.reduceLT, Int.reduceLE, Int.reduceEq, Int.reduceNe, Int.reduceToNat, Int.reduceAdd, Int.reduceSub, Int.reduceMul, Int.natCast_zero, e11, e12]
    rw [← hm]; simp [checkE, e1, ek, e4, e5, e6, e7, e8, e9, e10, (show (decide (64 < s.li.length) || decide (64 < s.pins.length) || decide (4096 < s.body.length)) = true by simp [e12'])]
  by_cases e13 : (4096 : Int) < (s.body.length : Int)
  · have e13' : 4096 < s.body.length := by omega
    simp only [go_sem, ↓reduceIte, reduceCtorEq, Nat.reduceEqDiff, Nat.reduceAdd, Nat.reduceSub, Nat.reduceMul, Nat.reduceLT, Nat.reduceLeDiff, Int.reduceLT, Int.reduceLE, Int.reduceEq, Int.reduceNe, Int.reduceToNat, Int.reduceAdd, Int.reduceSub, Int.reduceMul, Int.natCast_zero, e11, e12, e13]
    rw [← hm]; simp [checkE, e1, ek, e4, e5, e6, e7, e8, e9, e10, (show (decide (64 < s.li.length) || decide (64 < s.pins.length) || decide (4096 < s.body.length)) = true by simp [e13'])]
  have elen : (decide (64 < s.li.length) || decide (64 < s.pins.length) || decide (4096 < s.body.length)) = false := by simp; omega
  by_cases n0 : s.nu = 0
  · by_cases n1 : s.prev = []
    · simp only [go_sem, ↓reduceIte, reduceCtorEq, Nat.reduceEqDiff, Nat.reduceAdd, Nat.reduceSub, Nat.reduceMul, Nat.reduceLT, Nat.reduceLeDiff, Int.reduceLT, Int.reduceLE, Int.reduceEq, Int.reduceNe, Int.reduceToNat, Int.reduceAdd, Int.reduceSub, Int.reduceMul, Int.natCast_zero, e11, e12, e13, n0, n1]
      refine call (pinned_den s.pins hbp) [] ?_
      cases e14 : pinsB s.pins
      · simp only [go_sem, ↓reduceIte, reduceCtorEq, Nat.reduceEqDiff, Nat.reduceAdd, Nat.reduceSub, Nat.reduceMul, Nat.reduceLT, Nat.reduceLeDiff, Int.reduceLT, Int.reduceLE, Int.reduceEq, Int.reduceNe, Int.reduceToNat, Int.reduceAdd, Int.reduceSub, Int.reduceMul, Int.natCast_zero]
        rw [← hm]; simp [checkE, e1, ek, e4, e5, e6, e7, e8, e9, e10, elen, n0, z0, n1, e14]
      by_cases e15 : s.kd ≤ 3
      · have w1 : IntKind.i64.wrap ((s.li.length : Int) + s.pins.length) = ((s.li.length + s.pins.length : Nat) : Int) := by rw [wrapI] <;> omega
        have w2 : IntKind.i64.wrap (((s.li.length + s.pins.length : Nat) : Int) + s.body.length) = ((s.li.length + s.pins.length + s.body.length : Nat) : Int) := by rw [wrapI] <;> omega
        by_cases e16 : 0 < s.li.length + s.pins.length + s.body.length
        · have e16' : (0 : Int) < ((s.li.length + s.pins.length + s.body.length : Nat) : Int) := by omega
          simp only [go_sem, ↓reduceIte, reduceCtorEq, Nat.reduceEqDiff, Nat.reduceAdd, Nat.reduceSub, Nat.reduceMul, Nat.reduceLT, Nat.reduceLeDiff, Int.reduceLT, Int.reduceLE, Int.reduceEq, Int.reduceNe, Int.reduceToNat, Int.reduceAdd, Int.reduceSub, Int.reduceMul, Int.natCast_zero, e15, w1, w2, e16']
          rw [← hm]; simp [checkE, e1, ek, e4, e5, e6, e7, e8, e9, e10, elen, n0, z0, n1, e14, e15, e16]
          try omega
        · have e16' : ¬ (0 : Int) < ((s.li.length + s.pins.length + s.body.length : Nat) : Int) := by omega
          simp only [go_sem, ↓reduceIte, reduceCtorEq, Nat.reduceEqDiff, Nat.reduceAdd, Nat.reduceSub, Nat.reduceMul, Nat.reduceLT, Nat.reduceLeDiff, Int.reduceLT, Int.reduceLE, Int.reduceEq, Int.reduceNe, Int.reduceToNat, Int.reduceAdd, Int.reduceSub, Int.reduceMul, Int.natCast_zero, e15, w1, w2, e16']
          rw [← hm]; simp [checkE, e1, ek, e4, e5, e6, e7, e8, e9, e10, elen, n0, z0, n1, e14, e15, e16]
          try omega
      · simp only [go_sem, ↓reduceIte, reduceCtorEq, Nat.reduceEqDiff, Nat.reduceAdd, Nat.reduceSub, Nat.reduceMul, Nat.reduceLT, Nat.reduceLeDiff, Int.reduceLT, Int.reduceLE, Int.reduceEq, Int.reduceNe, Int.reduceToNat, Int.reduceAdd, Int.reduceSub, Int.reduceMul, Int.natCast_zero, e15]
        rw [← hm]; simp [checkE, e1, ek, e4, e5, e6, e7, e8, e9, e10, elen, n0, z0, n1, e14, e15]
    · simp only [go_sem, ↓reduceIte, reduceCtorEq, Nat.reduceEqDiff, Nat.reduceAdd, Nat.reduceSub, Nat.reduceMul, Nat.reduceLT, Nat.reduceLeDiff, Int.reduceLT, Int.reduceLE, Int.reduceEq, Int.reduceNe, Int.reduceToNat, Int.reduceAdd, Int.reduceSub, Int.reduceMul, Int.natCast_zero, e11, e12, e13, n0, n1]
      rw [← hm]; simp [checkE, e1, ek, e4, e5, e6, e7, e8, e9, e10, elen, n0, z0, n1]
  · have n2 : 0 < s.nu := by simp only [inB, decide_eq_true_eq] at e5; omega
    by_cases n3 : (s.prev.length : Int) = 32
    · have n3' : s.prev.length = 32 := by omega
      simp only [go_sem, ↓reduceIte, reduceCtorEq, Nat.reduceEqDiff, Nat.reduceAdd, Nat.reduceSub, Nat.reduceMul, Nat.reduceLT, Nat.reduceLeDiff, Int.reduceLT, Int.reduceLE, Int.reduceEq, Int.reduceNe, Int.reduceToNat, Int.reduceAdd, Int.reduceSub, Int.reduceMul, Int.natCast_zero, e11, e12, e13, n0, n2, n3]
      refine call (pinned_den s.pins hbp) [] ?_
      cases e14 : pinsB s.pins
      · simp only [go_sem, ↓reduceIte, reduceCtorEq, Nat.reduceEqDiff, Nat.reduceAdd, Nat.reduceSub, Nat.reduceMul, Nat.reduceLT, Nat.reduceLeDiff, Int.reduceLT, Int.reduceLE, Int.reduceEq, Int.reduceNe, Int.reduceToNat, Int.reduceAdd, Int.reduceSub, Int.reduceMul, Int.natCast_zero]
        rw [← hm]; simp [checkE, e1, ek, e4, e5, e6, e7, e8, e9, e10, elen, n0, n3', e14]
      by_cases e15 : s.kd ≤ 3
      · have w1 : IntKind.i64.wrap ((s.li.length : Int) + s.pins.length) = ((s.li.length + s.pins.length : Nat) : Int) := by rw [wrapI] <;> omega
        have w2 : IntKind.i64.wrap (((s.li.length + s.pins.length : Nat) : Int) + s.body.length) = ((s.li.length + s.pins.length + s.body.length : Nat) : Int) := by rw [wrapI] <;> omega
        by_cases e16 : 0 < s.li.length + s.pins.length + s.body.length
        · have e16' : (0 : Int) < ((s.li.length + s.pins.length + s.body.length : Nat) : Int) := by omega
          simp only [go_sem, ↓reduceIte, reduceCtorEq, Nat.reduceEqDiff, Nat.reduceAdd, Nat.reduceSub, Nat.reduceMul, Nat.reduceLT, Nat.reduceLeDiff, Int.reduceLT, Int.reduceLE, Int.reduceEq, Int.reduceNe, Int.reduceToNat, Int.reduceAdd, Int.reduceSub, Int.reduceMul, Int.natCast_zero, e15, w1, w2, e16']
          rw [← hm]; simp [checkE, e1, ek, e4, e5, e6, e7, e8, e9, e10, elen, n0, n3', e14, e15, e16]
          try omega
        · have e16' : ¬ (0 : Int) < ((s.li.length + s.pins.length + s.body.length : Nat) : Int) := by omega
          simp only [go_sem, ↓reduceIte, reduceCtorEq, Nat.reduceEqDiff, Nat.reduceAdd, Nat.reduceSub, Nat.reduceMul, Nat.reduceLT, Nat.reduceLeDiff, Int.reduceLT, Int.reduceLE, Int.reduceEq, Int.reduceNe, Int.reduceToNat, Int.reduceAdd, Int.reduceSub, Int.reduceMul, Int.natCast_zero, e15, w1, w2, e16']
          rw [← hm]; simp [checkE, e1, ek, e4, e5, e6, e7, e8, e9, e10, elen, n0, n3', e14, e15, e16]
          try omega
      · simp only [go_sem, ↓reduceIte, reduceCtorEq, Nat.reduceEqDiff, Nat.reduceAdd, Nat.reduceSub, Nat.reduceMul, Nat.reduceLT, Nat.reduceLeDiff, Int.reduceLT, Int.reduceLE, Int.reduceEq, Int.reduceNe, Int.reduceToNat, Int.reduceAdd, Int.reduceSub, Int.reduceMul, Int.natCast_zero, e15]
        rw [← hm]; simp [checkE, e1, ek, e4, e5, e6, e7, e8, e9, e10, elen, n0, n3', e14, e15]
    · have n3' : ¬ s.prev.length = 32 := by omega
      simp only [go_sem, ↓reduceIte, reduceCtorEq, Nat.reduceEqDiff, Nat.reduceAdd, Nat.reduceSub, Nat.reduceMul, Nat.reduceLT, Nat.reduceLeDiff, Int.reduceLT, Int.reduceLE, Int.reduceEq, Int.reduceNe, Int.reduceToNat, Int.reduceAdd, Int.reduceSub, Int.reduceMul, Int.natCast_zero, e11, e12, e13, n0, n2, n3]
      rw [← hm]; simp [checkE, e1, ek, e4, e5, e6, e7, e8, e9, e10, elen, n0, n2, n3']
end Go.Proofs.Am
