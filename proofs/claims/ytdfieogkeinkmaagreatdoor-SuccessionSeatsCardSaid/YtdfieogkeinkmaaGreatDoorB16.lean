/- B16. -/
import Derived.Test.YtdfieogkeinkmaaGreatDoorDFour
set_option linter.unusedSimpArgs false
set_option linter.unusedVariables false
namespace Go.Proofs.Am
open Go Go.RowKit
open Go.Proofs
set_option maxHeartbeats 1000000 in
set_option maxRecDepth 100000 in
theorem minusB_den (a b : List Int) (ha : big a.length) (hb : big b.length) : Den Tryz.prog 77 [.vs (a.map i1), .vs (b.map i1)] [] (.vs ((keysW (fun k => decide (k ∈ a) && !decide (k ∈ b)) 64).map i1)) [] [] := by
  refine den_of Tryz.mixed Tryz.func77 rfl Tryz.call77 Tryz.ntmps77 (congrArg Array.toList Tryz.results77) (by simp) (by kernel_rfl) [] (exts := []) rfl rfl ?_
  simp only [go_sem]
  generalize hc : (fun k => decide (k ∈ a) && !decide (k ∈ b)) = c
  have hc' : ∀ k, c k = (decide (k ∈ a) && !decide (k ∈ b)) := fun k => by rw [← hc]
  refine promote 5 99 3 1 false ?_ ?_ ?_ (by omega)
  · simp only [go_sem]
    refine loop Tryz.mixed 0 (fun i : Nat => [(0, .vs (a.map i1)), (1, .vs (b.map i1)), (5, .os 99 (keysW c i).length), (6, .int .i64 i)]) (fun i => [(99, .arr 3 1 false ((keysW c i).map i1))]) (fun i => i ≤ 64) (fun i => 64 - i) (by kernel_rfl) ?_ ?_ ?_
    · simp
    · simp only [keysW, List.range_zero, List.map_nil, List.filter_nil]
      simp only [go_sem]
    · intro i hi
      have hl := keysW_len c i
      have hs := keysW_succ c i
      rw [hc'] at hs
      have fin : ∀ t : Bool, (decide ((i : Int) ∈ a) && !decide ((i : Int) ∈ b)) = t → keysW c (i + 1) = keysW c i ++ (if t then [(i : Int)] else []) := fun t ht => by rw [hs, ht]
      by_cases hi' : i < 64
      · have hlt : (i : Int) < 64 := by omega
        simp only [go_sem, hlt]
        refine call (has24 a i ha) [] ?_
        by_cases h1 : (i : Int) ∈ a
        · simp only [go_sem, h1]
          refine call (has24 b i hb) [] ?_
          by_cases h2 : (i : Int) ∈ b
          · have := fin false (by simp [h2])
            simp only [go_sem, h2]
            refine ⟨i + 1, ⟨by omega, by omega⟩, ?_⟩
            simp only [go_sem, this, List.map_append, List.length_append]
            rw [wrapI] <;> omega
          · have := fin true (by simp [h1, h2])
            simp only [go_sem, h2]
            refine ⟨by omega, i + 1, ⟨by omega, by omega⟩, ?_⟩
            simp only [go_sem, this, List.map_append, List.length_append]
            rw [wrapI] <;> omega
        · have := fin false (by simp [h1])
          simp only [go_sem, h1]
          refine ⟨i + 1, ⟨by omega, by omega⟩, ?_⟩
          simp only [go_sem, this, List.map_append, List.length_append]
          rw [wrapI] <;> omega
      · have : i = 64 := by omega
        have hf : ¬ ((i : Int) < 64) := by omega
        simp only [go_sem, hf]
        subst this
        rfl
  · simp only [go_sem]
  · simp only [go_sem]
def want (appl ref order : List Int) : List Int := order.filter fun k => decide (k ∈ appl) && !decide (k ∈ ref)
end Go.Proofs.Am
