/- Drafts of honest members; who is admitted, by the reference. -/
import Derived.Test.YthcphdogfdghkaaB15
set_option linter.unusedSimpArgs false
set_option linter.unusedVariables false
namespace Go.Proofs.Am
open Go Go.RowKit
open Go.Proofs

theorem minus_den (a b : List Int) (ha : big a.length) (hb : big b.length) : Den Try.prog 30 [.vs (a.map i1), .vs (b.map i1)] [] (.vs ((keysW (fun k => decide (k ∈ a) && !decide (k ∈ b)) 64).map i1)) [] [] := by
  refine den_of Try.mixed Try.func30 rfl Try.call30 Try.ntmps30 (congrArg Array.toList Try.results30) (by simp) (by kernel_rfl) [] (exts := []) rfl rfl ?_
  simp only [go_sem, ↓reduceIte, reduceCtorEq, Nat.reduceEqDiff, Nat.reduceAdd, Nat.reduceSub, Nat.reduceMul, Nat.reduceLT, Nat.reduceLeDiff, Int.reduceLT, Int.reduceLE, Int.reduceEq, Int.reduceNe, Int.reduceToNat, Int.reduceAdd, Int.reduceSub, Int.reduceMul, Int.natCast_zero]
  generalize hc : (fun k => decide (k ∈ a) && !decide (k ∈ b)) = c
  have hc' : ∀ k, c k = (decide (k ∈ a) && !decide (k ∈ b)) := fun k => by rw [← hc]
  refine promote 5 99 3 1 false ?_ ?_ ?_ (by omega)
  · simp only [go_sem, ↓reduceIte, reduceCtorEq, Nat.reduceEqDiff, Nat.reduceAdd, Nat.reduceSub, Nat.reduceMul, Nat.reduceLT, Nat.reduceLeDiff, Int.reduceLT, Int.reduceLE, Int.reduceEq, Int.reduceNe, Int.reduceToNat, Int.reduceAdd, Int.reduceSub, Int.reduceMul, Int.natCast_zero]
    refine loop Try.mixed 0 (fun i : Nat => [(0, .vs (a.map i1)), (1, .vs (b.map i1)), (5, .os 99 (keysW c i).length), (6, .int .i64 i)]) (fun i => [(99, .arr 3 1 false ((keysW c i).map i1))]) (fun i => i ≤ 64) (fun i => 64 - i) (by kernel_rfl) ?_ ?_ ?_
    · simp
    · simp only [keysW, List.range_zero, List.map_nil, List.filter_nil]
      simp only [go_sem, ↓reduceIte, reduceCtorEq, Nat.reduceEqDiff, Nat.reduceAdd, Nat.reduceSub, Nat.reduceMul, Nat.reduceLT, Nat.reduceLeDiff, Int.reduceLT, Int.reduceLE, Int.reduceEq, Int.reduceNe, Int.reduceToNat, Int.reduceAdd, Int.reduceSub, Int.reduceMul, Int.natCast_zero]
    · intro i hi
      have hl := keysW_len c i
      have hs := keysW_succ c i
      rw [hc'] at hs
      have fin : ∀ t : Bool, (decide ((i : Int) ∈ a) && !decide ((i : Int) ∈ b)) = t → keysW c (i + 1) = keysW c i ++ (if t then [(i : Int)] else []) := fun t ht => by rw [hs, ht]
      by_cases hi' : i < 64
      · have hlt : (i : Int) < 64 := by omega
        simp only [go_sem, ↓reduceIte, reduceCtorEq, Nat.reduceEqDiff, Nat.reduceAdd, Nat.reduceSub, Nat.reduceMul, Nat.reduceLT, Nat.reduceLeDiff, Int.reduceLT, Int.reduceLE, Int.reduceEq, Int.reduceNe, Int.reduceToNat, Int.reduceAdd, Int.reduceSub, Int.reduceMul, Int.natCast_zero, hlt]
        refine call (has24 a i ha) [] ?_
        by_cases h1 : (i : Int) ∈ a
        · simp only [go_sem, ↓reduceIte, reduceCtorEq, Nat.reduceEqDiff, Nat.reduceAdd, Nat.reduceSub, Nat.reduceMul, Nat.reduceLT, Nat.reduceLeDiff, Int.reduceLT, Int.reduceLE, Int.reduceEq, Int.reduceNe, Int.reduceToNat, Int.reduceAdd, Int.reduceSub, Int.reduceMul, Int.natCast_zero, h1]
          refine call (has24 b i hb) [] ?_
          by_cases h2 : (i : Int) ∈ b
          · have := fin false (by simp [h2])
            simp only [go_sem, ↓reduceIte, reduceCtorEq, Nat.reduceEqDiff, Nat.reduceAdd, Nat.reduceSub, Nat.reduceMul, Nat.reduceLT, Nat.reduceLeDiff, Int.reduceLT, Int.reduceLE, Int.reduceEq, Int.reduceNe, Int.reduceToNat, Int.reduceAdd, Int.reduceSub, Int.reduceMul, Int.natCast_zero, h2]
            refine ⟨i + 1, ⟨by omega, by omega⟩, ?_⟩
            simp only [go_sem, ↓reduceIte, reduceCtorEq, Nat.reduceEqDiff, Nat.reduceAdd, Nat.reduceSub, Nat.reduceMul, Nat.reduceLT, Nat.reduceLeDiff, Int.reduceLT, Int.reduceLE, Int.reduceEq, Int.reduceNe, Int.reduceToNat, Int.reduceAdd, Int.reduceSub, Int.reduceMul, Int.natCast_zero, this, List.map_append, List.length_append]
            rw [wrapI] <;> omega
          · have := fin true (by simp [h1, h2])
            simp only [go_sem, ↓reduceIte, reduceCtorEq, Nat.reduceEqDiff, Nat.reduceAdd, Nat.reduceSub, Nat.reduceMul, Nat.reduceLT, Nat.reduceLeDiff, Int.reduceLT, Int.reduceLE, Int.reduceEq, Int.reduceNe, Int.reduceToNat, Int.reduceAdd, Int.reduceSub, Int.reduceMul, Int.natCast_zero, h2]
            refine ⟨by omega, i + 1, ⟨by omega, by omega⟩, ?_⟩
            simp only [go_sem, ↓reduceIte, reduceCtorEq, Nat.reduceEqDiff, Nat.reduceAdd, Nat.reduceSub, Nat.reduceMul, Nat.reduceLT, Nat.reduceLeDiff, Int.reduceLT, Int.reduceLE, Int.reduceEq, Int.reduceNe, Int.reduceToNat, Int.reduceAdd, Int.reduceSub, Int.reduceMul, Int.natCast_zero, this, List.map_append, List.length_append]
            rw [wrapI] <;> omega
        · have := fin false (by simp [h1])
          simp only [go_sem, ↓reduceIte, reduceCtorEq, Nat.reduceEqDiff, Nat.reduceAdd, Nat.reduceSub, Nat.reduceMul, Nat.reduceLT, Nat.reduceLeDiff, Int.reduceLT, Int.reduceLE, Int.reduceEq, Int.reduceNe, Int.reduceToNat, Int.reduceAdd, Int.reduceSub, Int.reduceMul, Int.natCast_zero, h1]
          refine ⟨i + 1, ⟨by omega, by omega⟩, ?_⟩
          simp only [go_sem, ↓reduceIte, reduceCtorEq, Nat.reduceEqDiff, Nat.reduceAdd, Nat.reduceSub, Nat.reduceMul, Nat.reduceLT, Nat.reduceLeDiff, Int.reduceLT, Int.reduceLE, Int.reduceEq, Int.reduceNe, Int.reduceToNat, Int.reduceAdd, Int.reduceSub, Int.reduceMul, Int.natCast_zero, this, List.map_append, List.length_append]
          rw [wrapI] <;> omega
      · have : i = 64 := by omega
        have hf : ¬ ((i : Int) < 64) := by omega
        simp only [go_sem, ↓reduceIte, reduceCtorEq, Nat.reduceEqDiff, Nat.reduceAdd, Nat.reduceSub, Nat.reduceMul, Nat.reduceLT, Nat.reduceLeDiff, Int.reduceLT, Int.reduceLE, Int.reduceEq, Int.reduceNe, Int.reduceToNat, Int.reduceAdd, Int.reduceSub, Int.reduceMul, Int.natCast_zero, hf]
        subst this
        rfl
  · simp only [go_sem, ↓reduceIte, reduceCtorEq, Nat.reduceEqDiff, Nat.reduceAdd, Nat.reduceSub, Nat.reduceMul, Nat.reduceLT, Nat.reduceLeDiff, Int.reduceLT, Int.reduceLE, Int.reduceEq, Int.reduceNe, Int.reduceToNat, Int.reduceAdd, Int.reduceSub, Int.reduceMul, Int.natCast_zero]
  · simp only [go_sem, ↓reduceIte, reduceCtorEq, Nat.reduceEqDiff, Nat.reduceAdd, Nat.reduceSub, Nat.reduceMul, Nat.reduceLT, Nat.reduceLeDiff, Int.reduceLT, Int.reduceLE, Int.reduceEq, Int.reduceNe, Int.reduceToNat, Int.reduceAdd, Int.reduceSub, Int.reduceMul, Int.natCast_zero]

/-- ref33.Admit -/
def want (appl ref order : List Int) : List Int := order.filter fun k => decide (k ∈ appl) && !decide (k ∈ ref)
theorem want_take {appl ref order : List Int} {i : Nat} (h : i < order.length) : want appl ref (order.take (i + 1)) = want appl ref (order.take i) ++ (if decide (el order i ∈ appl) && !decide (el order i ∈ ref) then [el order i] else []) := by
  rw [take_el h, want, List.filter_append, List.filter_cons, List.filter_nil]
  rfl
theorem want_len (appl ref order : List Int) (i : Nat) : (want appl ref (order.take i)).length ≤ order.length := by
  refine Nat.le_trans (List.length_filter_le _ _) ?_
  simp; omega

theorem admit33_den (order roster appl ref : List Int) (q : Int) (ho : order.length ≤ 1000000) (hr : big roster.length) (ha : big appl.length) (hf : big ref.length) : Den Try.prog 14 [.vs (order.map i1), .vs (roster.map i1), .vs (appl.map i1), .vs (ref.map i1), .int .i64 q] [] (.vs ((newc roster q (want appl ref order) []).map i1)) [] [] := by
  refine den_of Try.mixed Try.func14 rfl Try.call14 Try.ntmps14 (congrArg Array.toList Try.results14) (by simp) (by kernel_rfl) [] (exts := []) rfl rfl ?_
  simp only [go_sem, ↓reduceIte, reduceCtorEq, Nat.reduceEqDiff, Nat.reduceAdd, Nat.reduceSub, Nat.reduceMul, Nat.reduceLT, Nat.reduceLeDiff, Int.reduceLT, Int.reduceLE, Int.reduceEq, Int.reduceNe, Int.reduceToNat, Int.reduceAdd, Int.reduceSub, Int.reduceMul, Int.natCast_zero]
  refine promote 11 99 3 1 false ?_ ?_ ?_ (by omega)
  · refine loop Try.mixed 0 (fun i : Nat => [(0, .vs (order.map i1)), (1, .vs (roster.map i1)), (2, .vs (appl.map i1)), (3, .vs (ref.map i1)), (4, .int .i64 q), (11, .os 99 (want appl ref (order.take i)).length), (12, .int .i64 i)]) (fun i => [(99, .arr 3 1 false ((want appl ref (order.take i)).map i1))]) (fun i => i ≤ order.length) (fun i => order.length - i) (by kernel_rfl) ?_ ?_ ?_
    · simp
    · simp only [go_sem, ↓reduceIte, reduceCtorEq, Nat.reduceEqDiff, Nat.reduceAdd, Nat.reduceSub, Nat.reduceMul, Nat.reduceLT, Nat.reduceLeDiff, Int.reduceLT, Int.reduceLE, Int.reduceEq, Int.reduceNe, Int.reduceToNat, Int.reduceAdd, Int.reduceSub, Int.reduceMul, Int.natCast_zero, List.take_zero, want, List.filter_nil]
    · intro i hi
      have hwl := want_len appl ref order i
      by_cases hi' : i < order.length
      · have hlt : (i : Int) < (order.length : Int) := by omega
        have hs := want_take (appl := appl) (ref := ref) hi'
        simp only [go_sem, ↓reduceIte, reduceCtorEq, Nat.reduceEqDiff, Nat.reduceAdd, Nat.reduceSub, Nat.reduceMul, Nat.reduceLT, Nat.reduceLeDiff, Int.reduceLT, Int.reduceLE, Int.reduceEq, Int.reduceNe, Int.reduceToNat, Int.reduceAdd, Int.reduceSub, Int.reduceMul, Int.natCast_zero, hlt, hi']
        refine call (has24 appl (el order i) ha) [] ?_
        by_cases h1 : el order i ∈ appl
        · simp only [go_sem, ↓reduceIte, reduceCtorEq, Nat.reduceEqDiff, Nat.reduceAdd, Nat.reduceSub, Nat.reduceMul, Nat.reduceLT, Nat.reduceLeDiff, Int.reduceLT, Int.reduceLE, Int.reduceEq, Int.reduceNe, Int.reduceToNat, Int.reduceAdd, Int.reduceSub, Int.reduceMul, Int.natCast_zero, h1]
          (repeat refine And.intro (by first | omega | exact okD_of (by kernel_rfl)) ?_)
          refine call (has24 ref (el order i) hf) [] ?_
          by_cases h2 : el order i ∈ ref
          · rw [show (decide (el order i ∈ appl) && !decide (el order i ∈ ref)) = false by simp [h2]] at hs
            simp only [go_sem, ↓reduceIte, reduceCtorEq, Nat.reduceEqDiff, Nat.reduceAdd, Nat.reduceSub, Nat.reduceMul, Nat.reduceLT, Nat.reduceLeDiff, Int.reduceLT, Int.reduceLE, Int.reduceEq, Int.reduceNe, Int.reduceToNat, Int.reduceAdd, Int.reduceSub, Int.reduceMul, Int.natCast_zero, h2]
            refine ⟨i + 1, ⟨by omega, by omega⟩, ?_⟩
            simp only [go_sem, ↓reduceIte, reduceCtorEq, Nat.reduceEqDiff, Nat.reduceAdd, Nat.reduceSub, Nat.reduceMul, Nat.reduceLT, Nat.reduceLeDiff, Int.reduceLT, Int.reduceLE, Int.reduceEq, Int.reduceNe, Int.reduceToNat, Int.reduceAdd, Int.reduceSub, Int.reduceMul, Int.natCast_zero, hs, List.map_append, List.length_append]
            rw [wrapI] <;> omega
          · rw [show (decide (el order i ∈ appl) && !decide (el order i ∈ ref)) = true by simp [h1, h2]] at hs
            simp only [go_sem, ↓reduceIte, reduceCtorEq, Nat.reduceEqDiff, Nat.reduceAdd, Nat.reduceSub, Nat.reduceMul, Nat.reduceLT, Nat.reduceLeDiff, Int.reduceLT, Int.reduceLE, Int.reduceEq, Int.reduceNe, Int.reduceToNat, Int.reduceAdd, Int.reduceSub, Int.reduceMul, Int.natCast_zero, h2, hi']
            (repeat refine And.intro (by first | omega | exact okD_of (by kernel_rfl)) ?_)
            refine ⟨i + 1, ⟨by omega, by omega⟩, ?_⟩
            simp only [go_sem, ↓reduceIte, reduceCtorEq, Nat.reduceEqDiff, Nat.reduceAdd, Nat.reduceSub, Nat.reduceMul, Nat.reduceLT, Nat.reduceLeDiff, Int.reduceLT, Int.reduceLE, Int.reduceEq, Int.reduceNe, Int.reduceToNat, Int.reduceAdd, Int.reduceSub, Int.reduceMul, Int.natCast_zero, hs, List.map_append, List.length_append]
            rw [wrapI] <;> omega
        · rw [show (decide (el order i ∈ appl) && !decide (el order i ∈ ref)) = false by simp [h1]] at hs
          simp only [go_sem, ↓reduceIte, reduceCtorEq, Nat.reduceEqDiff, Nat.reduceAdd, Nat.reduceSub, Nat.reduceMul, Nat.reduceLT, Nat.reduceLeDiff, Int.reduceLT, Int.reduceLE, Int.reduceEq, Int.reduceNe, Int.reduceToNat, Int.reduceAdd, Int.reduceSub, Int.reduceMul, Int.natCast_zero, h1]
          refine ⟨i + 1, ⟨by omega, by omega⟩, ?_⟩
          simp only [go_sem, ↓reduceIte, reduceCtorEq, Nat.reduceEqDiff, Nat.reduceAdd, Nat.reduceSub, Nat.reduceMul, Nat.reduceLT, Nat.reduceLeDiff, Int.reduceLT, Int.reduceLE, Int.reduceEq, Int.reduceNe, Int.reduceToNat, Int.reduceAdd, Int.reduceSub, Int.reduceMul, Int.natCast_zero, hs, List.map_append, List.length_append]
          rw [wrapI] <;> omega
      · have : i = order.length := by omega
        have hff : ¬ ((i : Int) < (order.length : Int)) := by omega
        simp only [go_sem, ↓reduceIte, reduceCtorEq, Nat.reduceEqDiff, Nat.reduceAdd, Nat.reduceSub, Nat.reduceMul, Nat.reduceLT, Nat.reduceLeDiff, Int.reduceLT, Int.reduceLE, Int.reduceEq, Int.reduceNe, Int.reduceToNat, Int.reduceAdd, Int.reduceSub, Int.reduceMul, Int.natCast_zero, hff]
        subst this
        have hwl : (want appl ref order).length ≤ order.length := List.length_filter_le _ _
        rw [List.take_length]
        refine call (newc31 (want appl ref order) roster q (by simp only [big]; omega) hr (by omega)) [] ?_
        simp only [go_sem, ↓reduceIte, reduceCtorEq, Nat.reduceEqDiff, Nat.reduceAdd, Nat.reduceSub, Nat.reduceMul, Nat.reduceLT, Nat.reduceLeDiff, Int.reduceLT, Int.reduceLE, Int.reduceEq, Int.reduceNe, Int.reduceToNat, Int.reduceAdd, Int.reduceSub, Int.reduceMul, Int.natCast_zero]
  · simp only [go_sem, ↓reduceIte, reduceCtorEq, Nat.reduceEqDiff, Nat.reduceAdd, Nat.reduceSub, Nat.reduceMul, Nat.reduceLT, Nat.reduceLeDiff, Int.reduceLT, Int.reduceLE, Int.reduceEq, Int.reduceNe, Int.reduceToNat, Int.reduceAdd, Int.reduceSub, Int.reduceMul, Int.natCast_zero]
  · simp only [go_sem, ↓reduceIte, reduceCtorEq, Nat.reduceEqDiff, Nat.reduceAdd, Nat.reduceSub, Nat.reduceMul, Nat.reduceLT, Nat.reduceLeDiff, Int.reduceLT, Int.reduceLE, Int.reduceEq, Int.reduceNe, Int.reduceToNat, Int.reduceAdd, Int.reduceSub, Int.reduceMul, Int.natCast_zero]
end Go.Proofs.Am
