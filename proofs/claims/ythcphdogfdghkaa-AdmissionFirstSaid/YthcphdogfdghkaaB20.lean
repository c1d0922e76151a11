/- AdmissionAdmits. -/
import Derived.Test.YthcphdogfdghkaaB19
set_option linter.unusedSimpArgs false
set_option linter.unusedVariables false
namespace Go.Proofs.Am
open Go Go.RowKit
open Go.Proofs

/-- k numbers of the dice. -/
def dnx (l : List Int) (n : Int) : Nat → Nat → List Int
  | 0, _ => []
  | k + 1, p => dnext l p n :: dnx l n k (dpos l p)
theorem dskip_succ (l : List Int) : ∀ (k p : Nat), dskip l (k + 1) p = dpos l (dskip l k p)
  | 0, _ => rfl
  | k + 1, p => dskip_succ l k (dpos l p)
theorem dnx_succ (l : List Int) (n : Int) : ∀ (k p : Nat), dnx l n (k + 1) p = dnx l n k p ++ [dnext l (dskip l k p) n]
  | 0, _ => rfl
  | k + 1, p => by
    have := dnx_succ l n k (dpos l p)
    rw [dnx, this]
    rfl
theorem dnx_len (l : List Int) (n : Int) : ∀ (k p : Nat), (dnx l n k p).length = k
  | 0, _ => rfl
  | k + 1, p => by simp [dnx, dnx_len l n k]

theorem newc_len (roster : List Int) (q : Int) : ∀ (r out : List Int), (newc roster q r out).length ≤ out.length + r.length
  | [], out => by simp [newc]
  | k :: r, out => by
    rw [newc]
    split
    · simp
    · have := newc_len roster q r (if k ∈ roster ∨ k ∈ out then out else out ++ [k])
      refine Nat.le_trans this ?_
      split <;> simp <;> omega

set_option maxHeartbeats 1000000 in
set_option maxRecDepth 100000 in
theorem admits_den (order roster l : List Int) : Den Try.prog 3 [.vs (order.map i1), .vs (roster.map i1), .vs (l.map i1)] [] (.bool true) [] [] := by
  refine den_of Try.mixed Try.func3 rfl Try.call3 Try.ntmps3 (congrArg Array.toList Try.results3) (by simp) (by kernel_rfl) [] (exts := []) rfl rfl ?_
  simp only [go_sem, ↓reduceIte, reduceCtorEq, Nat.reduceEqDiff, Nat.reduceAdd, Nat.reduceSub, Nat.reduceMul, Nat.reduceLT, Nat.reduceLeDiff, Int.reduceLT, Int.reduceLE, Int.reduceEq, Int.reduceNe, Int.reduceToNat, Int.reduceAdd, Int.reduceSub, Int.reduceMul, Int.natCast_zero]
  refine call (light_den l) [] ?_
  by_cases h1 : l.length ≤ 400
  · by_cases h2 : (100 : Int) < (order.length : Int)
    · simp only [go_sem, ↓reduceIte, reduceCtorEq, Nat.reduceEqDiff, Nat.reduceAdd, Nat.reduceSub, Nat.reduceMul, Nat.reduceLT, Nat.reduceLeDiff, Int.reduceLT, Int.reduceLE, Int.reduceEq, Int.reduceNe, Int.reduceToNat, Int.reduceAdd, Int.reduceSub, Int.reduceMul, Int.natCast_zero, h1, h2]
      refine call awake_den [] ?_
      simp only [go_sem, ↓reduceIte, reduceCtorEq, Nat.reduceEqDiff, Nat.reduceAdd, Nat.reduceSub, Nat.reduceMul, Nat.reduceLT, Nat.reduceLeDiff, Int.reduceLT, Int.reduceLE, Int.reduceEq, Int.reduceNe, Int.reduceToNat, Int.reduceAdd, Int.reduceSub, Int.reduceMul, Int.natCast_zero]
    · by_cases h3 : (100 : Int) < (roster.length : Int)
      · simp only [go_sem, ↓reduceIte, reduceCtorEq, Nat.reduceEqDiff, Nat.reduceAdd, Nat.reduceSub, Nat.reduceMul, Nat.reduceLT, Nat.reduceLeDiff, Int.reduceLT, Int.reduceLE, Int.reduceEq, Int.reduceNe, Int.reduceToNat, Int.reduceAdd, Int.reduceSub, Int.reduceMul, Int.natCast_zero, h1, h2, h3]
        refine call awake_den [] ?_
        simp only [go_sem, ↓reduceIte, reduceCtorEq, Nat.reduceEqDiff, Nat.reduceAdd, Nat.reduceSub, Nat.reduceMul, Nat.reduceLT, Nat.reduceLeDiff, Int.reduceLT, Int.reduceLE, Int.reduceEq, Int.reduceNe, Int.reduceToNat, Int.reduceAdd, Int.reduceSub, Int.reduceMul, Int.natCast_zero]
      · simp only [go_sem, ↓reduceIte, reduceCtorEq, Nat.reduceEqDiff, Nat.reduceAdd, Nat.reduceSub, Nat.reduceMul, Nat.reduceLT, Nat.reduceLeDiff, Int.reduceLT, Int.reduceLE, Int.reduceEq, Int.reduceNe, Int.reduceToNat, Int.reduceAdd, Int.reduceSub, Int.reduceMul, Int.natCast_zero, h1, h2, h3]
        have hl : big l.length := by simp only [big]; omega
        have hr : big roster.length := by simp only [big]; omega
        refine call (roll9 l) [] ?_
        simp only [go_sem, ↓reduceIte, reduceCtorEq, Nat.reduceEqDiff, Nat.reduceAdd, Nat.reduceSub, Nat.reduceMul, Nat.reduceLT, Nat.reduceLeDiff, Int.reduceLT, Int.reduceLE, Int.reduceEq, Int.reduceNe, Int.reduceToNat, Int.reduceAdd, Int.reduceSub, Int.reduceMul, Int.natCast_zero]
        refine call (some_den l 0 9 hl (by omega) (by omega)) [30] ?_
        have hs1 := dsome_len l 9 0 0
        have hp1 := dskip_le l 9 0 (by omega)
        simp only [go_sem, ↓reduceIte, reduceCtorEq, Nat.reduceEqDiff, Nat.reduceAdd, Nat.reduceSub, Nat.reduceMul, Nat.reduceLT, Nat.reduceLeDiff, Int.reduceLT, Int.reduceLE, Int.reduceEq, Int.reduceNe, Int.reduceToNat, Int.reduceAdd, Int.reduceSub, Int.reduceMul, Int.natCast_zero]
        generalize dsome l 9 0 0 = s1 at *
        generalize dskip l 9 0 = p1 at *
        refine ⟨by omega, call (some_vs l p1 9 hl hp1 (by omega)) [30] ?_⟩
        have hs2 := dsome_len l 9 0 p1
        have hp2 := dskip_le l 9 p1 hp1
        simp only [go_sem, ↓reduceIte, reduceCtorEq, Nat.reduceEqDiff, Nat.reduceAdd, Nat.reduceSub, Nat.reduceMul, Nat.reduceLT, Nat.reduceLeDiff, Int.reduceLT, Int.reduceLE, Int.reduceEq, Int.reduceNe, Int.reduceToNat, Int.reduceAdd, Int.reduceSub, Int.reduceMul, Int.natCast_zero]
        generalize dsome l 9 0 p1 = s2 at *
        generalize dskip l 9 p1 = p2 at *
        refine call (next_den l p2 6 hl hp2 (by omega)) [30] ?_
        have hp3 : dpos l p2 ≤ l.length := dpos_le hp2
        simp only [go_sem, ↓reduceIte, reduceCtorEq, Nat.reduceEqDiff, Nat.reduceAdd, Nat.reduceSub, Nat.reduceMul, Nat.reduceLT, Nat.reduceLeDiff, Int.reduceLT, Int.reduceLE, Int.reduceEq, Int.reduceNe, Int.reduceToNat, Int.reduceAdd, Int.reduceSub, Int.reduceMul, Int.natCast_zero]
        generalize IntKind.i64.wrap (dnext l p2 6 - 1) = q
        generalize dpos l p2 = p3 at *
        refine call (next_den l p3 12 hl hp3 (by omega)) [30] ?_
        have hp4 : dpos l p3 ≤ l.length := dpos_le hp3
        have hc := dnext_lt (l := l) (p := p3) (n := 12) (by omega)
        simp only [go_sem, ↓reduceIte, reduceCtorEq, Nat.reduceEqDiff, Nat.reduceAdd, Nat.reduceSub, Nat.reduceMul, Nat.reduceLT, Nat.reduceLeDiff, Int.reduceLT, Int.reduceLE, Int.reduceEq, Int.reduceNe, Int.reduceToNat, Int.reduceAdd, Int.reduceSub, Int.reduceMul, Int.natCast_zero]
        obtain ⟨c, hcc⟩ : ∃ c : Nat, dnext l p3 12 = (c : Int) := ⟨(dnext l p3 12).toNat, by omega⟩
        rw [hcc] at hc ⊢
        generalize dpos l p3 = p4 at *
        refine promote 11 99 3 1 false ?_ ?_ ?_ (by omega)
        · refine loop Try.mixed 0 (fun j : Nat => [(0, .vs (order.map i1)), (1, .vs (roster.map i1)), (7, .ptr 30 0), (8, .vs ((s1 ++ order).map i1)), (9, .vs (s2.map i1)), (10, .int .i64 q), (11, .os 99 (dnx l 10 j p4).length), (12, .int .i64 ((c : Int) - (j : Int)))]) (fun j => [(30, dbox l (dskip l j p4)), (99, .arr 3 1 false ((dnx l 10 j p4).map i1))]) (fun j => j ≤ c) (fun j => c - j) (by kernel_rfl) ?_ ?_ ?_
          · simp
          · simp only [go_sem, ↓reduceIte, reduceCtorEq, Nat.reduceEqDiff, Nat.reduceAdd, Nat.reduceSub, Nat.reduceMul, Nat.reduceLT, Nat.reduceLeDiff, Int.reduceLT, Int.reduceLE, Int.reduceEq, Int.reduceNe, Int.reduceToNat, Int.reduceAdd, Int.reduceSub, Int.reduceMul, Int.natCast_zero, dnx, dskip, List.map_append]
            omega
          · intro j hj
            have hpj := dskip_le l j p4 hp4
            have hdl := dnx_len l 10 j p4
            by_cases hj' : j < c
            · have hlt : (0 : Int) < (c : Int) - (j : Int) := by omega
              simp only [go_sem, ↓reduceIte, reduceCtorEq, Nat.reduceEqDiff, Nat.reduceAdd, Nat.reduceSub, Nat.reduceMul, Nat.reduceLT, Nat.reduceLeDiff, Int.reduceLT, Int.reduceLE, Int.reduceEq, Int.reduceNe, Int.reduceToNat, Int.reduceAdd, Int.reduceSub, Int.reduceMul, Int.natCast_zero, hlt]
              refine call (next_den l (dskip l j p4) 10 hl hpj (by omega)) [30] ?_
              simp only [go_sem, ↓reduceIte, reduceCtorEq, Nat.reduceEqDiff, Nat.reduceAdd, Nat.reduceSub, Nat.reduceMul, Nat.reduceLT, Nat.reduceLeDiff, Int.reduceLT, Int.reduceLE, Int.reduceEq, Int.reduceNe, Int.reduceToNat, Int.reduceAdd, Int.reduceSub, Int.reduceMul, Int.natCast_zero]
              refine ⟨by omega, j + 1, ⟨by omega, by omega⟩, ?_⟩
              simp only [go_sem, ↓reduceIte, reduceCtorEq, Nat.reduceEqDiff, Nat.reduceAdd, Nat.reduceSub, Nat.reduceMul, Nat.reduceLT, Nat.reduceLeDiff, Int.reduceLT, Int.reduceLE, Int.reduceEq, Int.reduceNe, Int.reduceToNat, Int.reduceAdd, Int.reduceSub, Int.reduceMul, Int.natCast_zero, dnx_succ, dskip_succ, List.map_append, List.length_append]
              rw [wrapI] <;> omega
            · have hlt : ¬ (0 : Int) < (c : Int) - (j : Int) := by omega
              have hjc : j = c := by omega
              subst hjc
              simp only [go_sem, ↓reduceIte, reduceCtorEq, Nat.reduceEqDiff, Nat.reduceAdd, Nat.reduceSub, Nat.reduceMul, Nat.reduceLT, Nat.reduceLeDiff, Int.reduceLT, Int.reduceLE, Int.reduceEq, Int.reduceNe, Int.reduceToNat, Int.reduceAdd, Int.reduceSub, Int.reduceMul, Int.natCast_zero, hlt]
              generalize dskip l j p4 = p5 at *
              generalize dnx l 10 j p4 = o at *
              refine call (some_vs l p5 10 hl hpj (by omega)) [30] ?_
              have hs3 := dsome_len l 10 0 p5
              have hp6 := dskip_le l 10 p5 hpj
              simp only [go_sem, ↓reduceIte, reduceCtorEq, Nat.reduceEqDiff, Nat.reduceAdd, Nat.reduceSub, Nat.reduceMul, Nat.reduceLT, Nat.reduceLeDiff, Int.reduceLT, Int.reduceLE, Int.reduceEq, Int.reduceNe, Int.reduceToNat, Int.reduceAdd, Int.reduceSub, Int.reduceMul, Int.natCast_zero]
              generalize dsome l 10 0 p5 = s3 at *
              generalize dskip l 10 p5 = p6 at *
              refine call (some_vs l p6 10 hl hp6 (by omega)) [30] ?_
              have hs4 := dsome_len l 10 0 p6
              simp only [go_sem, ↓reduceIte, reduceCtorEq, Nat.reduceEqDiff, Nat.reduceAdd, Nat.reduceSub, Nat.reduceMul, Nat.reduceLT, Nat.reduceLeDiff, Int.reduceLT, Int.reduceLE, Int.reduceEq, Int.reduceNe, Int.reduceToNat, Int.reduceAdd, Int.reduceSub, Int.reduceMul, Int.natCast_zero]
              generalize dsome l 10 0 p6 = s4 at *
              refine call (admit_den order roster (s1 ++ order) s2 q (by omega) hr (by simp only [big, List.length_append]; omega) (by simp only [big]; omega)) [] ?_
              simp only [go_sem, ↓reduceIte, reduceCtorEq, Nat.reduceEqDiff, Nat.reduceAdd, Nat.reduceSub, Nat.reduceMul, Nat.reduceLT, Nat.reduceLeDiff, Int.reduceLT, Int.reduceLE, Int.reduceEq, Int.reduceNe, Int.reduceToNat, Int.reduceAdd, Int.reduceSub, Int.reduceMul, Int.natCast_zero]
              refine call (admit33_den order roster (s1 ++ order) s2 q (by omega) hr (by simp only [big, List.length_append]; omega) (by simp only [big]; omega)) [] ?_
              simp only [go_sem, ↓reduceIte, reduceCtorEq, Nat.reduceEqDiff, Nat.reduceAdd, Nat.reduceSub, Nat.reduceMul, Nat.reduceLT, Nat.reduceLeDiff, Int.reduceLT, Int.reduceLE, Int.reduceEq, Int.reduceNe, Int.reduceToNat, Int.reduceAdd, Int.reduceSub, Int.reduceMul, Int.natCast_zero]
              have nb1 := newc_len roster q (want (s1 ++ order) s2 order) []
              have wl1 : (want (s1 ++ order) s2 order).length ≤ order.length := List.length_filter_le _ _
              simp only [List.length_nil] at nb1
              refine call (sameInts_den (newc roster q (want (s1 ++ order) s2 order) []) (newc roster q (want (s1 ++ order) s2 order) []) (by simp only [big]; omega) (by simp only [big]; omega)) [] ?_
              simp only [go_sem, ↓reduceIte, reduceCtorEq, Nat.reduceEqDiff, Nat.reduceAdd, Nat.reduceSub, Nat.reduceMul, Nat.reduceLT, Nat.reduceLeDiff, Int.reduceLT, Int.reduceLE, Int.reduceEq, Int.reduceNe, Int.reduceToNat, Int.reduceAdd, Int.reduceSub, Int.reduceMul, Int.natCast_zero]
              refine call (admit_den o s2 s3 s4 q (by omega) (by simp only [big]; omega) (by simp only [big]; omega) (by simp only [big]; omega)) [] ?_
              simp only [go_sem, ↓reduceIte, reduceCtorEq, Nat.reduceEqDiff, Nat.reduceAdd, Nat.reduceSub, Nat.reduceMul, Nat.reduceLT, Nat.reduceLeDiff, Int.reduceLT, Int.reduceLE, Int.reduceEq, Int.reduceNe, Int.reduceToNat, Int.reduceAdd, Int.reduceSub, Int.reduceMul, Int.natCast_zero]
              refine call (admit33_den o s2 s3 s4 q (by omega) (by simp only [big]; omega) (by simp only [big]; omega) (by simp only [big]; omega)) [] ?_
              simp only [go_sem, ↓reduceIte, reduceCtorEq, Nat.reduceEqDiff, Nat.reduceAdd, Nat.reduceSub, Nat.reduceMul, Nat.reduceLT, Nat.reduceLeDiff, Int.reduceLT, Int.reduceLE, Int.reduceEq, Int.reduceNe, Int.reduceToNat, Int.reduceAdd, Int.reduceSub, Int.reduceMul, Int.natCast_zero]
              have nb2 := newc_len s2 q (want s3 s4 o) []
              have wl2 : (want s3 s4 o).length ≤ o.length := List.length_filter_le _ _
              simp only [List.length_nil] at nb2
              refine call (sameInts_den (newc s2 q (want s3 s4 o) []) (newc s2 q (want s3 s4 o) []) (by simp only [big]; omega) (by simp only [big]; omega)) [] ?_
              simp only [go_sem, ↓reduceIte, reduceCtorEq, Nat.reduceEqDiff, Nat.reduceAdd, Nat.reduceSub, Nat.reduceMul, Nat.reduceLT, Nat.reduceLeDiff, Int.reduceLT, Int.reduceLE, Int.reduceEq, Int.reduceNe, Int.reduceToNat, Int.reduceAdd, Int.reduceSub, Int.reduceMul, Int.natCast_zero]
              refine call awake_den [] ?_
              simp only [go_sem, ↓reduceIte, reduceCtorEq, Nat.reduceEqDiff, Nat.reduceAdd, Nat.reduceSub, Nat.reduceMul, Nat.reduceLT, Nat.reduceLeDiff, Int.reduceLT, Int.reduceLE, Int.reduceEq, Int.reduceNe, Int.reduceToNat, Int.reduceAdd, Int.reduceSub, Int.reduceMul, Int.natCast_zero]
        · simp only [go_sem, ↓reduceIte, reduceCtorEq, Nat.reduceEqDiff, Nat.reduceAdd, Nat.reduceSub, Nat.reduceMul, Nat.reduceLT, Nat.reduceLeDiff, Int.reduceLT, Int.reduceLE, Int.reduceEq, Int.reduceNe, Int.reduceToNat, Int.reduceAdd, Int.reduceSub, Int.reduceMul, Int.natCast_zero]
        · simp only [go_sem, ↓reduceIte, reduceCtorEq, Nat.reduceEqDiff, Nat.reduceAdd, Nat.reduceSub, Nat.reduceMul, Nat.reduceLT, Nat.reduceLeDiff, Int.reduceLT, Int.reduceLE, Int.reduceEq, Int.reduceNe, Int.reduceToNat, Int.reduceAdd, Int.reduceSub, Int.reduceMul, Int.natCast_zero]
  · simp only [go_sem, ↓reduceIte, reduceCtorEq, Nat.reduceEqDiff, Nat.reduceAdd, Nat.reduceSub, Nat.reduceMul, Nat.reduceLT, Nat.reduceLeDiff, Int.reduceLT, Int.reduceLE, Int.reduceEq, Int.reduceNe, Int.reduceToNat, Int.reduceAdd, Int.reduceSub, Int.reduceMul, Int.natCast_zero, h1]
    refine call awake_den [] ?_
    simp only [go_sem, ↓reduceIte, reduceCtorEq, Nat.reduceEqDiff, Nat.reduceAdd, Nat.reduceSub, Nat.reduceMul, Nat.reduceLT, Nat.reduceLeDiff, Int.reduceLT, Int.reduceLE, Int.reduceEq, Int.reduceNe, Int.reduceToNat, Int.reduceAdd, Int.reduceSub, Int.reduceMul, Int.natCast_zero]
end Go.Proofs.Am
