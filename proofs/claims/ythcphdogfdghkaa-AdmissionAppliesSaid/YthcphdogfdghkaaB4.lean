/- Who comes in. -/
import Derived.Test.YthcphdogfdghkaaB3
set_option linter.unusedSimpArgs false
set_option linter.unusedVariables false
namespace Go.Proofs.Am
open Go Go.RowKit
open Go.Proofs

theorem join_vs (a b : List Int) (ha : big a.length) (hb : big b.length) : Den Try.prog 16 [.vs (a.map i1), .vs (b.map i1)] [] (.vs ((keysW (fun k => decide (k ∈ a) || decide (k ∈ b)) 64).map i1)) [] [] :=
  (join_den a b ha hb).vs (by simp) trivial rfl

/-- The first keys of an order that are not in a roster. -/
def newc (roster : List Int) (q : Int) : List Int → List Int → List Int
  | [], out => out
  | k :: r, out => if q ≤ out.length then out else newc roster q r (if k ∈ roster ∨ k ∈ out then out else out ++ [k])
theorem newc_full {roster : List Int} {q : Int} {r out : List Int} (h : q ≤ out.length) : newc roster q r out = out := by
  cases r with
  | nil => rfl
  | cons k r => simp [newc, h]
theorem drop_el {l : List Int} {i : Nat} (h : i < l.length) : l.drop i = el l i :: l.drop (i + 1) := by
  simp [el, List.getD_eq_getElem?_getD, h]

theorem newc31 (order roster : List Int) (q : Int) (ho : big order.length) (hr : big roster.length) (ho2 : order.length ≤ 1000000) : Den Try.prog 27 [.vs (order.map i1), .vs (roster.map i1), .int .i64 q] [] (.vs ((newc roster q order []).map i1)) [] [] := by
  refine den_of Try.mixed Try.func27 rfl Try.call27 Try.ntmps27 (congrArg Array.toList Try.results27) (by simp) (by kernel_rfl) [] (exts := []) rfl rfl ?_
  simp only [go_sem, ↓reduceIte, reduceCtorEq, Nat.reduceEqDiff, Nat.reduceAdd, Nat.reduceSub, Nat.reduceMul, Nat.reduceLT, Nat.reduceLeDiff, Int.reduceLT, Int.reduceLE, Int.reduceEq, Int.reduceNe, Int.reduceToNat, Int.reduceAdd, Int.reduceSub, Int.reduceMul, Int.natCast_zero]
  refine promote 7 99 3 1 true ?_ ?_ ?_ (by omega)
  · simp only [go_sem, ↓reduceIte, reduceCtorEq, Nat.reduceEqDiff, Nat.reduceAdd, Nat.reduceSub, Nat.reduceMul, Nat.reduceLT, Nat.reduceLeDiff, Int.reduceLT, Int.reduceLE, Int.reduceEq, Int.reduceNe, Int.reduceToNat, Int.reduceAdd, Int.reduceSub, Int.reduceMul, Int.natCast_zero]
    refine loop Try.mixed (0, []) (fun j : Nat × List Int => [(0, .vs (order.map i1)), (1, .vs (roster.map i1)), (2, .int .i64 q), (7, .os 99 j.2.length), (8, .int .i64 j.1)]) (fun j => [(99, .arr 3 1 true (j.2.map i1))])
      (fun j => j.1 ≤ order.length ∧ newc roster q order [] = newc roster q (order.drop j.1) j.2 ∧ j.2.length ≤ j.1) (fun j => order.length - j.1) (by kernel_rfl) ?_ ?_ ?_
    · simp
    · simp only [go_sem, ↓reduceIte, reduceCtorEq, Nat.reduceEqDiff, Nat.reduceAdd, Nat.reduceSub, Nat.reduceMul, Nat.reduceLT, Nat.reduceLeDiff, Int.reduceLT, Int.reduceLE, Int.reduceEq, Int.reduceNe, Int.reduceToNat, Int.reduceAdd, Int.reduceSub, Int.reduceMul, Int.natCast_zero]
    · rintro ⟨i, out⟩ ⟨h1, h2, h3⟩
      simp only at h1 h2 h3
      simp only [go_sem, ↓reduceIte, reduceCtorEq, Nat.reduceEqDiff, Nat.reduceAdd, Nat.reduceSub, Nat.reduceMul, Nat.reduceLT, Nat.reduceLeDiff, Int.reduceLT, Int.reduceLE, Int.reduceEq, Int.reduceNe, Int.reduceToNat, Int.reduceAdd, Int.reduceSub, Int.reduceMul, Int.natCast_zero]
      have fin : newc roster q (order.drop i) out = out → List.map i1 out = List.map i1 (newc roster q order []) := fun h => by rw [h2, h]
      refine ⟨fun h => ⟨fun h' => ⟨by omega, call (has24 roster (el order i) hr) [] ?_⟩, fun h' => ?_⟩, fun h => ?_⟩
      · simp only [go_sem, ↓reduceIte, reduceCtorEq, Nat.reduceEqDiff, Nat.reduceAdd, Nat.reduceSub, Nat.reduceMul, Nat.reduceLT, Nat.reduceLeDiff, Int.reduceLT, Int.reduceLE, Int.reduceEq, Int.reduceNe, Int.reduceToNat, Int.reduceAdd, Int.reduceSub, Int.reduceMul, Int.natCast_zero]
        rw [drop_el h, newc, if_neg (by omega)] at h2
        refine ⟨fun h4 => ⟨by omega, call (has24 out (el order i) (by simp only [big]; omega)) [] ?_⟩, fun h4 => ?_⟩
        · simp only [go_sem, ↓reduceIte, reduceCtorEq, Nat.reduceEqDiff, Nat.reduceAdd, Nat.reduceSub, Nat.reduceMul, Nat.reduceLT, Nat.reduceLeDiff, Int.reduceLT, Int.reduceLE, Int.reduceEq, Int.reduceNe, Int.reduceToNat, Int.reduceAdd, Int.reduceSub, Int.reduceMul, Int.natCast_zero]
          refine ⟨fun h5 => ⟨by omega, by omega, (i + 1, out ++ [el order i]), ⟨⟨by simp only; omega, ?_, ?_⟩, by simp only; omega⟩, ?_⟩, fun h5 => ⟨(i + 1, out), ⟨⟨by simp only; omega, ?_, by simp only; omega⟩, by simp only; omega⟩, ?_⟩⟩
          · rw [h2, if_neg (by simp [h4, h5])]
          · simp only [List.length_append, List.length_cons, List.length_nil]; omega
          · simp only [go_sem, ↓reduceIte, reduceCtorEq, Nat.reduceEqDiff, Nat.reduceAdd, Nat.reduceSub, Nat.reduceMul, Nat.reduceLT, Nat.reduceLeDiff, Int.reduceLT, Int.reduceLE, Int.reduceEq, Int.reduceNe, Int.reduceToNat, Int.reduceAdd, Int.reduceSub, Int.reduceMul, Int.natCast_zero, List.map_append]
            rw [wrapI] <;> omega
          · rw [h2, if_pos (by simp [h5])]
          · simp only [go_sem, ↓reduceIte, reduceCtorEq, Nat.reduceEqDiff, Nat.reduceAdd, Nat.reduceSub, Nat.reduceMul, Nat.reduceLT, Nat.reduceLeDiff, Int.reduceLT, Int.reduceLE, Int.reduceEq, Int.reduceNe, Int.reduceToNat, Int.reduceAdd, Int.reduceSub, Int.reduceMul, Int.natCast_zero]
            rw [wrapI] <;> omega
        · refine ⟨(i + 1, out), ⟨⟨by simp only; omega, ?_, by simp only; omega⟩, by simp only; omega⟩, ?_⟩
          · rw [h2, if_pos (by simp [h4])]
          · simp only [go_sem, ↓reduceIte, reduceCtorEq, Nat.reduceEqDiff, Nat.reduceAdd, Nat.reduceSub, Nat.reduceMul, Nat.reduceLT, Nat.reduceLeDiff, Int.reduceLT, Int.reduceLE, Int.reduceEq, Int.reduceNe, Int.reduceToNat, Int.reduceAdd, Int.reduceSub, Int.reduceMul, Int.natCast_zero]
            rw [wrapI] <;> omega
      · exact fin (newc_full (by omega))
      · exact fin (by rw [List.drop_eq_nil_of_le (by omega)]; rfl)
  · simp only [go_sem, ↓reduceIte, reduceCtorEq, Nat.reduceEqDiff, Nat.reduceAdd, Nat.reduceSub, Nat.reduceMul, Nat.reduceLT, Nat.reduceLeDiff, Int.reduceLT, Int.reduceLE, Int.reduceEq, Int.reduceNe, Int.reduceToNat, Int.reduceAdd, Int.reduceSub, Int.reduceMul, Int.natCast_zero]
  · simp only [go_sem, ↓reduceIte, reduceCtorEq, Nat.reduceEqDiff, Nat.reduceAdd, Nat.reduceSub, Nat.reduceMul, Nat.reduceLT, Nat.reduceLeDiff, Int.reduceLT, Int.reduceLE, Int.reduceEq, Int.reduceNe, Int.reduceToNat, Int.reduceAdd, Int.reduceSub, Int.reduceMul, Int.natCast_zero]

theorem newcq (order roster : List Int) (q : Int) (ho : big order.length) (hr : big roster.length) (ho2 : order.length ≤ 1000000) : Den Try.prog 26 [.vs (order.map i1), .vs (roster.map i1), .int .i64 q] [] (.vs ((newc roster q order []).map i1)) [] [] := by
  refine den_of Try.mixed Try.func26 rfl Try.call26 Try.ntmps26 (congrArg Array.toList Try.results26) (by simp) (by kernel_rfl) [] (exts := []) rfl rfl ?_
  simp only [go_sem, ↓reduceIte, reduceCtorEq, Nat.reduceEqDiff, Nat.reduceAdd, Nat.reduceSub, Nat.reduceMul, Nat.reduceLT, Nat.reduceLeDiff, Int.reduceLT, Int.reduceLE, Int.reduceEq, Int.reduceNe, Int.reduceToNat, Int.reduceAdd, Int.reduceSub, Int.reduceMul, Int.natCast_zero]
  refine promote 7 99 3 1 true ?_ ?_ ?_ (by omega)
  · simp only [go_sem, ↓reduceIte, reduceCtorEq, Nat.reduceEqDiff, Nat.reduceAdd, Nat.reduceSub, Nat.reduceMul, Nat.reduceLT, Nat.reduceLeDiff, Int.reduceLT, Int.reduceLE, Int.reduceEq, Int.reduceNe, Int.reduceToNat, Int.reduceAdd, Int.reduceSub, Int.reduceMul, Int.natCast_zero]
    refine loop Try.mixed (0, []) (fun j : Nat × List Int => [(0, .vs (order.map i1)), (1, .vs (roster.map i1)), (2, .int .i64 q), (7, .os 99 j.2.length), (11, .int .i64 order.length), (12, .int .i64 j.1)]) (fun j => [(99, .arr 3 1 true (j.2.map i1))])
      (fun j => j.1 ≤ order.length ∧ newc roster q order [] = newc roster q (order.drop j.1) j.2 ∧ j.2.length ≤ j.1) (fun j => order.length - j.1) (by kernel_rfl) ?_ ?_ ?_
    · simp
    · simp only [go_sem, ↓reduceIte, reduceCtorEq, Nat.reduceEqDiff, Nat.reduceAdd, Nat.reduceSub, Nat.reduceMul, Nat.reduceLT, Nat.reduceLeDiff, Int.reduceLT, Int.reduceLE, Int.reduceEq, Int.reduceNe, Int.reduceToNat, Int.reduceAdd, Int.reduceSub, Int.reduceMul, Int.natCast_zero]
    · rintro ⟨i, out⟩ ⟨h1, h2, h3⟩
      simp only at h1 h2 h3
      simp only [go_sem, ↓reduceIte, reduceCtorEq, Nat.reduceEqDiff, Nat.reduceAdd, Nat.reduceSub, Nat.reduceMul, Nat.reduceLT, Nat.reduceLeDiff, Int.reduceLT, Int.reduceLE, Int.reduceEq, Int.reduceNe, Int.reduceToNat, Int.reduceAdd, Int.reduceSub, Int.reduceMul, Int.natCast_zero]
      have fin : newc roster q (order.drop i) out = out → List.map i1 out = List.map i1 (newc roster q order []) := fun h => by rw [h2, h]
      refine ⟨fun h => ⟨by omega, fun h' => ?_, fun h' => call (rhas roster (el order i) hr) [] ?_⟩, fun h => ?_⟩
      · exact fin (newc_full (by omega))
      · simp only [go_sem, ↓reduceIte, reduceCtorEq, Nat.reduceEqDiff, Nat.reduceAdd, Nat.reduceSub, Nat.reduceMul, Nat.reduceLT, Nat.reduceLeDiff, Int.reduceLT, Int.reduceLE, Int.reduceEq, Int.reduceNe, Int.reduceToNat, Int.reduceAdd, Int.reduceSub, Int.reduceMul, Int.natCast_zero]
        rw [drop_el h, newc, if_neg (by omega)] at h2
        refine ⟨fun h4 => call (contains_den out (el order i) (by simp only [big]; omega)) [] ?_, fun h4 => ?_⟩
        · simp only [go_sem, ↓reduceIte, reduceCtorEq, Nat.reduceEqDiff, Nat.reduceAdd, Nat.reduceSub, Nat.reduceMul, Nat.reduceLT, Nat.reduceLeDiff, Int.reduceLT, Int.reduceLE, Int.reduceEq, Int.reduceNe, Int.reduceToNat, Int.reduceAdd, Int.reduceSub, Int.reduceMul, Int.natCast_zero]
          refine ⟨fun h5 => ⟨by omega, (i + 1, out ++ [el order i]), ⟨⟨by simp only; omega, ?_, ?_⟩, by simp only; omega⟩, ?_⟩, fun h5 => ⟨(i + 1, out), ⟨⟨by simp only; omega, ?_, by simp only; omega⟩, by simp only; omega⟩, ?_⟩⟩
          · rw [h2, if_neg (by simp [h4, h5])]
          · simp only [List.length_append, List.length_cons, List.length_nil]; omega
          · simp only [go_sem, ↓reduceIte, reduceCtorEq, Nat.reduceEqDiff, Nat.reduceAdd, Nat.reduceSub, Nat.reduceMul, Nat.reduceLT, Nat.reduceLeDiff, Int.reduceLT, Int.reduceLE, Int.reduceEq, Int.reduceNe, Int.reduceToNat, Int.reduceAdd, Int.reduceSub, Int.reduceMul, Int.natCast_zero, List.map_append]
            rw [wrapI] <;> omega
          · rw [h2, if_pos (by simp [h5])]
          · simp only [go_sem, ↓reduceIte, reduceCtorEq, Nat.reduceEqDiff, Nat.reduceAdd, Nat.reduceSub, Nat.reduceMul, Nat.reduceLT, Nat.reduceLeDiff, Int.reduceLT, Int.reduceLE, Int.reduceEq, Int.reduceNe, Int.reduceToNat, Int.reduceAdd, Int.reduceSub, Int.reduceMul, Int.natCast_zero]
            rw [wrapI] <;> omega
        · refine ⟨(i + 1, out), ⟨⟨by simp only; omega, ?_, by simp only; omega⟩, by simp only; omega⟩, ?_⟩
          · rw [h2, if_pos (by simp [h4])]
          · simp only [go_sem, ↓reduceIte, reduceCtorEq, Nat.reduceEqDiff, Nat.reduceAdd, Nat.reduceSub, Nat.reduceMul, Nat.reduceLT, Nat.reduceLeDiff, Int.reduceLT, Int.reduceLE, Int.reduceEq, Int.reduceNe, Int.reduceToNat, Int.reduceAdd, Int.reduceSub, Int.reduceMul, Int.natCast_zero]
            rw [wrapI] <;> omega
      · exact fin (by rw [List.drop_eq_nil_of_le (by omega)]; rfl)
  · simp only [go_sem, ↓reduceIte, reduceCtorEq, Nat.reduceEqDiff, Nat.reduceAdd, Nat.reduceSub, Nat.reduceMul, Nat.reduceLT, Nat.reduceLeDiff, Int.reduceLT, Int.reduceLE, Int.reduceEq, Int.reduceNe, Int.reduceToNat, Int.reduceAdd, Int.reduceSub, Int.reduceMul, Int.natCast_zero]
  · simp only [go_sem, ↓reduceIte, reduceCtorEq, Nat.reduceEqDiff, Nat.reduceAdd, Nat.reduceSub, Nat.reduceMul, Nat.reduceLT, Nat.reduceLeDiff, Int.reduceLT, Int.reduceLE, Int.reduceEq, Int.reduceNe, Int.reduceToNat, Int.reduceAdd, Int.reduceSub, Int.reduceMul, Int.natCast_zero]

/-- mill.Keys -/
def dkeys (l : List Int) (n p : Nat) : List Int := if (dsome l n 0 p).length = 0 then [dnext l (dskip l n p) n] else dsome l n 0 p
def dkpos (l : List Int) (n p : Nat) : Nat := if (dsome l n 0 p).length = 0 then dpos l (dskip l n p) else dskip l n p
theorem keys_den (l : List Int) (p : Nat) (n : Nat) (hl : big l.length) (hp : p ≤ l.length) (hn : n ≤ 1000) : Den Try.prog 22 [.ptr 1000000 0, .int .i64 n] [dbox l p] (.vs ((dkeys l n p).map i1)) [] [dbox l (dkpos l n p)] := by
  refine den_of Try.mixed Try.func22 rfl Try.call22 Try.ntmps22 (congrArg Array.toList Try.results22) (by simp) (by kernel_rfl) [] (exts := [1000000]) rfl rfl ?_
  simp only [go_sem, ↓reduceIte, reduceCtorEq, Nat.reduceEqDiff, Nat.reduceAdd, Nat.reduceSub, Nat.reduceMul, Nat.reduceLT, Nat.reduceLeDiff, Int.reduceLT, Int.reduceLE, Int.reduceEq, Int.reduceNe, Int.reduceToNat, Int.reduceAdd, Int.reduceSub, Int.reduceMul, Int.natCast_zero]
  refine call (some_vs l p n hl hp hn) [1000000] ?_
  simp only [go_sem, ↓reduceIte, reduceCtorEq, Nat.reduceEqDiff, Nat.reduceAdd, Nat.reduceSub, Nat.reduceMul, Nat.reduceLT, Nat.reduceLeDiff, Int.reduceLT, Int.reduceLE, Int.reduceEq, Int.reduceNe, Int.reduceToNat, Int.reduceAdd, Int.reduceSub, Int.reduceMul, Int.natCast_zero]
  refine ⟨fun h => call (next_den l (dskip l n p) n hl (dskip_le l n p hp) (by omega)) [1000000] ?_, fun h => ?_⟩
  · simp only [go_sem, ↓reduceIte, reduceCtorEq, Nat.reduceEqDiff, Nat.reduceAdd, Nat.reduceSub, Nat.reduceMul, Nat.reduceLT, Nat.reduceLeDiff, Int.reduceLT, Int.reduceLE, Int.reduceEq, Int.reduceNe, Int.reduceToNat, Int.reduceAdd, Int.reduceSub, Int.reduceMul, Int.natCast_zero]
    have : (dsome l n 0 p).length = 0 := by omega
    simp [dkeys, dkpos, this, i1]
  · have : ¬ (dsome l n 0 p).length = 0 := by omega
    simp only [dkeys, dkpos, if_neg this]
    simp only [go_sem, ↓reduceIte, reduceCtorEq, Nat.reduceEqDiff, Nat.reduceAdd, Nat.reduceSub, Nat.reduceMul, Nat.reduceLT, Nat.reduceLeDiff, Int.reduceLT, Int.reduceLE, Int.reduceEq, Int.reduceNe, Int.reduceToNat, Int.reduceAdd, Int.reduceSub, Int.reduceMul, Int.natCast_zero]

end Go.Proofs.Am
