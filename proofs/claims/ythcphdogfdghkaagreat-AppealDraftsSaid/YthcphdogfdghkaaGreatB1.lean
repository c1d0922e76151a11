/- Lists of numbers: the functions that only look at them. -/
import Derived.Test.YthcphdogfdghkaaGreatAmV
import Derived.Test.YthcphdogfdghkaaGreatR1F
import Derived.Laws.Bits64
import Derived.Laws.Bits64b
set_option linter.unusedSimpArgs false
set_option linter.unusedVariables false
namespace Go.Proofs.Am
open Go Go.RowKit
open Go.Proofs

theorem Tryz.mixed : Tryz.prog.follows .mixedOrders = true := by kernel_rfl
/-- A number as a row. -/
def i1 (x : Int) : List PV := [.int .i64 x]
theorem i1_eq (x : Int) : i1 x = [.int .i64 x] := rfl
attribute [go_sem] i1_eq
abbrev big (n : Nat) : Prop := n < 4611686018427387904

theorem wrapI {n : Int} (h : -9223372036854775808 ≤ n) (h' : n < 9223372036854775808) : IntKind.i64.wrap n = n := by rw [IntKind.wrap_i64]; omega

theorem mem_of_el {l : List Int} {i : Nat} (h : i < l.length) : el l i ∈ l := by
  simp only [el, List.getD_eq_getElem?_getD, List.getElem?_eq_getElem h, Option.getD_some]
  exact List.getElem_mem h
theorem el_of_mem {l : List Int} {x : Int} (h : x ∈ l) : ∃ i, i < l.length ∧ el l i = x := by
  obtain ⟨i, h1, h2⟩ := List.getElem_of_mem h
  exact ⟨i, h1, by simp only [el, List.getD_eq_getElem?_getD, List.getElem?_eq_getElem h1, Option.getD_some]; exact h2⟩
theorem notMem_of_el {l : List Int} {x : Int} {n : Nat} (hn : l.length ≤ n) (h : ∀ j, j < n → el l j ≠ x) : x ∉ l := fun hx => by
  obtain ⟨i, h1, h2⟩ := el_of_mem hx
  exact h i (by omega) h2

theorem el_cons_succ (a : Int) (l : List Int) (i : Nat) : el (a :: l) (i + 1) = el l i := by simp [el]
theorem el_cons_zero (a : Int) (l : List Int) : el (a :: l) 0 = a := by simp [el]
theorem idx_of : ∀ {l : List Int} {i : Nat} {k : Int}, i < l.length → k = el l i → (∀ j, j < i → el l j ≠ k) → l.idxOf k = i
  | [], _, _, h, _, _ => by simp at h
  | a :: l, 0, k, _, hk, _ => by rw [hk, el_cons_zero]; simp
  | a :: l, i + 1, k, h, hk, hn => by
    have h0 := hn 0 (by omega)
    rw [el_cons_zero] at h0
    rw [el_cons_succ] at hk
    have := idx_of (l := l) (i := i) (k := k) (by simpa using h) hk fun j hj => by have := hn (j + 1) (by omega); rwa [el_cons_succ] at this
    rw [List.idxOf_cons, this]
    have : (a == k) = false := by simpa using h0
    simp only [this, cond_false]

/-- ref24.Has -/
theorem has24 (l : List Int) (k : Int) (hl : big l.length) : Den Tryz.prog 12 [.vs (l.map i1), .int .i64 k] [] (.bool (decide (k ∈ l))) [] [] := by
  refine den_of Tryz.mixed Tryz.func12 rfl Tryz.call12 Tryz.ntmps12 (congrArg Array.toList Tryz.results12) (by simp) (by kernel_rfl) [] (exts := []) rfl rfl ?_
  simp only [go_sem, ↓reduceIte, reduceCtorEq, Nat.reduceEqDiff, Nat.reduceAdd, Nat.reduceSub, Nat.reduceMul, Nat.reduceLT, Nat.reduceLeDiff, Int.reduceLT, Int.reduceLE, Int.reduceEq, Int.reduceNe, Int.reduceToNat, Int.reduceAdd, Int.reduceSub, Int.reduceMul, Int.natCast_zero]
  refine loop (by kernel_rfl) 0 (fun i : Nat => [(0, .vs (l.map i1)), (1, .int .i64 k), (5, .int .i64 i)]) (fun _ => []) (fun i => i ≤ l.length ∧ ∀ j, j < i → el l j ≠ k) (fun i => l.length - i) (by kernel_rfl) ?_ ?_ ?_
  · simp
  · simp only [go_sem, ↓reduceIte, reduceCtorEq, Nat.reduceEqDiff, Nat.reduceAdd, Nat.reduceSub, Nat.reduceMul, Nat.reduceLT, Nat.reduceLeDiff, Int.reduceLT, Int.reduceLE, Int.reduceEq, Int.reduceNe, Int.reduceToNat, Int.reduceAdd, Int.reduceSub, Int.reduceMul, Int.natCast_zero]
  · intro i ⟨hi, hn⟩
    simp only [go_sem, ↓reduceIte, reduceCtorEq, Nat.reduceEqDiff, Nat.reduceAdd, Nat.reduceSub, Nat.reduceMul, Nat.reduceLT, Nat.reduceLeDiff, Int.reduceLT, Int.reduceLE, Int.reduceEq, Int.reduceNe, Int.reduceToNat, Int.reduceAdd, Int.reduceSub, Int.reduceMul, Int.natCast_zero]
    refine ⟨fun h => ⟨by omega, fun e => ?_, fun e => ⟨i + 1, ⟨⟨by omega, fun j hj => ?_⟩, by omega⟩, ?_⟩⟩, fun h => ?_⟩
    · rw [← e]; simp [mem_of_el h]
    · rcases Nat.lt_succ_iff_lt_or_eq.1 hj with h' | h'
      · exact hn j h'
      · rw [h']; exact e
    · rw [wrapI] <;> omega
    · simp [notMem_of_el (by omega) hn]

/-- slices.Index, slices.Contains, roster.Has -/
theorem index_den (l : List Int) (k : Int) (hl : big l.length) : Den Tryz.prog 67 [.vs (l.map i1), .int .i64 k] [] (.int .i64 (if k ∈ l then (l.idxOf k : Nat) else -1)) [] [] := by
  refine den_of Tryz.mixed Tryz.func67 rfl Tryz.call67 Tryz.ntmps67 (congrArg Array.toList Tryz.results67) (by simp) (by kernel_rfl) [] (exts := []) rfl rfl ?_
  simp only [go_sem, ↓reduceIte, reduceCtorEq, Nat.reduceEqDiff, Nat.reduceAdd, Nat.reduceSub, Nat.reduceMul, Nat.reduceLT, Nat.reduceLeDiff, Int.reduceLT, Int.reduceLE, Int.reduceEq, Int.reduceNe, Int.reduceToNat, Int.reduceAdd, Int.reduceSub, Int.reduceMul, Int.natCast_zero]
  refine loop (by kernel_rfl) 0 (fun i : Nat => [(0, .vs (l.map i1)), (1, .int .i64 k), (7, .int .i64 l.length), (8, .int .i64 i)]) (fun _ => []) (fun i => i ≤ l.length ∧ ∀ j, j < i → el l j ≠ k) (fun i => l.length - i) (by kernel_rfl) ?_ ?_ ?_
  · simp
  · simp only [go_sem, ↓reduceIte, reduceCtorEq, Nat.reduceEqDiff, Nat.reduceAdd, Nat.reduceSub, Nat.reduceMul, Nat.reduceLT, Nat.reduceLeDiff, Int.reduceLT, Int.reduceLE, Int.reduceEq, Int.reduceNe, Int.reduceToNat, Int.reduceAdd, Int.reduceSub, Int.reduceMul, Int.natCast_zero]
  · intro i ⟨hi, hn⟩
    simp only [go_sem, ↓reduceIte, reduceCtorEq, Nat.reduceEqDiff, Nat.reduceAdd, Nat.reduceSub, Nat.reduceMul, Nat.reduceLT, Nat.reduceLeDiff, Int.reduceLT, Int.reduceLE, Int.reduceEq, Int.reduceNe, Int.reduceToNat, Int.reduceAdd, Int.reduceSub, Int.reduceMul, Int.natCast_zero]
    refine ⟨fun h => ⟨by omega, fun e => ?_, fun e => ⟨i + 1, ⟨⟨by omega, fun j hj => ?_⟩, by omega⟩, ?_⟩⟩, fun h => ?_⟩
    · have hm : k ∈ l := by rw [e]; exact mem_of_el h
      rw [if_pos hm]
      rw [idx_of h e hn]
    · rcases Nat.lt_succ_iff_lt_or_eq.1 hj with h' | h'
      · exact hn j h'
      · rw [h']; exact fun h2 => e h2.symm
    · rw [wrapI] <;> omega
    · rw [if_neg (notMem_of_el (by omega) hn)]

theorem contains_den (l : List Int) (k : Int) (hl : big l.length) : Den Tryz.prog 48 [.vs (l.map i1), .int .i64 k] [] (.bool (decide (k ∈ l))) [] [] := by
  refine den_of Tryz.mixed Tryz.func48 rfl Tryz.call48 Tryz.ntmps48 (congrArg Array.toList Tryz.results48) (by simp) (by kernel_rfl) [] (exts := []) rfl rfl ?_
  simp only [go_sem, ↓reduceIte, reduceCtorEq, Nat.reduceEqDiff, Nat.reduceAdd, Nat.reduceSub, Nat.reduceMul, Nat.reduceLT, Nat.reduceLeDiff, Int.reduceLT, Int.reduceLE, Int.reduceEq, Int.reduceNe, Int.reduceToNat, Int.reduceAdd, Int.reduceSub, Int.reduceMul, Int.natCast_zero]
  refine call (index_den l k hl) [] ?_
  simp only [go_sem, ↓reduceIte, reduceCtorEq, Nat.reduceEqDiff, Nat.reduceAdd, Nat.reduceSub, Nat.reduceMul, Nat.reduceLT, Nat.reduceLeDiff, Int.reduceLT, Int.reduceLE, Int.reduceEq, Int.reduceNe, Int.reduceToNat, Int.reduceAdd, Int.reduceSub, Int.reduceMul, Int.natCast_zero]
  by_cases h : k ∈ l
  · simp [h]
  · simp [h]

theorem rhas (l : List Int) (k : Int) (hl : big l.length) : Den Tryz.prog 30 [.vs (l.map i1), .int .i64 k] [] (.bool (decide (k ∈ l))) [] [] := by
  refine den_of Tryz.mixed Tryz.func30 rfl Tryz.call30 Tryz.ntmps30 (congrArg Array.toList Tryz.results30) (by simp) (by kernel_rfl) [] (exts := []) rfl rfl ?_
  simp only [go_sem, ↓reduceIte, reduceCtorEq, Nat.reduceEqDiff, Nat.reduceAdd, Nat.reduceSub, Nat.reduceMul, Nat.reduceLT, Nat.reduceLeDiff, Int.reduceLT, Int.reduceLE, Int.reduceEq, Int.reduceNe, Int.reduceToNat, Int.reduceAdd, Int.reduceSub, Int.reduceMul, Int.natCast_zero]
  refine call (contains_den l k hl) [] ?_
  simp only [go_sem, ↓reduceIte, reduceCtorEq, Nat.reduceEqDiff, Nat.reduceAdd, Nat.reduceSub, Nat.reduceMul, Nat.reduceLT, Nat.reduceLeDiff, Int.reduceLT, Int.reduceLE, Int.reduceEq, Int.reduceNe, Int.reduceToNat, Int.reduceAdd, Int.reduceSub, Int.reduceMul, Int.natCast_zero]

end Go.Proofs.Am
