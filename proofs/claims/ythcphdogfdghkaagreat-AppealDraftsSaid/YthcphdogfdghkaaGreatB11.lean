/- Statements: their bytes by the program, their digests, seals. -/
import Derived.Test.YthcphdogfdghkaaGreatB10
set_option linter.unusedSimpArgs false
set_option linter.unusedVariables false
namespace Go.Proofs.Am
open Go Go.RowKit
open Go.Proofs

set_option maxRecDepth 100000 in
theorem wbytes_den (s : Stm) (hs : okS s) : Den Tryz.prog 66 [.agg (sm s)] [] (.vs ((stB s).map u8)) [] [] := by
  refine den_of Tryz.mixed Tryz.func66 rfl Tryz.call66 Tryz.ntmps66 (congrArg Array.toList Tryz.results66) (by simp) (by kernel_rfl) [] (exts := []) rfl rfl ?_
  simp only [okS, stB, pre2, pre1, hdB, List.length_append, beL_len, be8_len, txB_len, l5, List.length_cons, List.length_nil] at hs
  simp only [go_sem, ↓reduceIte, reduceCtorEq, Nat.reduceEqDiff, Nat.reduceAdd, Nat.reduceSub, Nat.reduceMul, Nat.reduceLT, Nat.reduceLeDiff, Int.reduceLT, Int.reduceLE, Int.reduceEq, Int.reduceNe, Int.reduceToNat, Int.reduceAdd, Int.reduceSub, Int.reduceMul, Int.natCast_zero]
  refine call (wintv [] s.au (by simp only [small, List.length_nil]; omega)) [] ?_
  simp only [go_sem, ↓reduceIte, reduceCtorEq, Nat.reduceEqDiff, Nat.reduceAdd, Nat.reduceSub, Nat.reduceMul, Nat.reduceLT, Nat.reduceLeDiff, Int.reduceLT, Int.reduceLE, Int.reduceEq, Int.reduceNe, Int.reduceToNat, Int.reduceAdd, Int.reduceSub, Int.reduceMul, Int.natCast_zero]
  refine call (wintv (be8 s.au) s.nu (by simp only [small, be8_len]; omega)) [] ?_
  simp only [go_sem, ↓reduceIte, reduceCtorEq, Nat.reduceEqDiff, Nat.reduceAdd, Nat.reduceSub, Nat.reduceMul, Nat.reduceLT, Nat.reduceLeDiff, Int.reduceLT, Int.reduceLE, Int.reduceEq, Int.reduceNe, Int.reduceToNat, Int.reduceAdd, Int.reduceSub, Int.reduceMul, Int.natCast_zero]
  refine call (wtextv (be8 s.au ++ be8 s.nu) s.prev (by simp only [small, List.length_append, be8_len]; omega) (by simp only [small]; omega)) [] ?_
  simp only [go_sem, ↓reduceIte, reduceCtorEq, Nat.reduceEqDiff, Nat.reduceAdd, Nat.reduceSub, Nat.reduceMul, Nat.reduceLT, Nat.reduceLeDiff, Int.reduceLT, Int.reduceLE, Int.reduceEq, Int.reduceNe, Int.reduceToNat, Int.reduceAdd, Int.reduceSub, Int.reduceMul, Int.natCast_zero]
  (repeat refine And.intro (by first | omega | exact okD_of (by kernel_rfl)) ?_)
  have hh : (hdB s).length = 24 + s.prev.length := by simp only [hdB, List.length_append, be8_len, txB_len]; omega
  refine loop Tryz.mixed 0 (fun i : Nat => [(1, .ptr 1 0), (3, .vs ((hdB s ++ beL ((l5 s).take i)).map u8)), (29, .agg ((l5 s).map c8)), (30, .int .i64 i)]) (fun i => [(1, .cells (sm s))]) (fun i => i ≤ 5) (fun i => 5 - i) (by kernel_rfl) ?_ ?_ ?_
  · simp
  · simp only [go_sem, ↓reduceIte, reduceCtorEq, Nat.reduceEqDiff, Nat.reduceAdd, Nat.reduceSub, Nat.reduceMul, Nat.reduceLT, Nat.reduceLeDiff, Int.reduceLT, Int.reduceLE, Int.reduceEq, Int.reduceNe, Int.reduceToNat, Int.reduceAdd, Int.reduceSub, Int.reduceMul, Int.natCast_zero, hdB, List.append_assoc, List.take_zero, beL, List.flatMap_nil, l5, txB, c8]
  · intro i hi
    have hl5 : (l5 s).length = 5 := rfl
    have htl : ((l5 s).take i).length = i := by simp [hl5]; omega
    simp only [go_sem, ↓reduceIte, reduceCtorEq, Nat.reduceEqDiff, Nat.reduceAdd, Nat.reduceSub, Nat.reduceMul, Nat.reduceLT, Nat.reduceLeDiff, Int.reduceLT, Int.reduceLE, Int.reduceEq, Int.reduceNe, Int.reduceToNat, Int.reduceAdd, Int.reduceSub, Int.reduceMul, Int.natCast_zero, hl5]
    refine ⟨fun h => ⟨⟨by omega, by omega⟩, ?_⟩, fun h => ?_⟩
    · refine call (wintv (hdB s ++ beL ((l5 s).take i)) (el (l5 s) i) (by simp only [small, List.length_append, hh, beL_len, htl]; omega)) [] ?_
      simp only [go_sem, ↓reduceIte, reduceCtorEq, Nat.reduceEqDiff, Nat.reduceAdd, Nat.reduceSub, Nat.reduceMul, Nat.reduceLT, Nat.reduceLeDiff, Int.reduceLT, Int.reduceLE, Int.reduceEq, Int.reduceNe, Int.reduceToNat, Int.reduceAdd, Int.reduceSub, Int.reduceMul, Int.natCast_zero]
      refine ⟨i + 1, ⟨by omega, by omega⟩, ?_, ?_⟩
      · rw [take_el (by omega), beL_append, List.append_assoc]; simp [beL]
      · rw [wrapI] <;> omega
    · have hi5 : i = 5 := by omega
      subst hi5
      have hp1 : hdB s ++ beL ((l5 s).take 5) = pre1 s := rfl
      have hp1l : (pre1 s).length = 64 + s.prev.length := by simp only [pre1, List.length_append, hh, beL_len, hl5]; omega
      rw [hp1]
      refine call (wintsv (pre1 s) s.li (by omega) (by omega)) [] ?_
      simp only [go_sem, ↓reduceIte, reduceCtorEq, Nat.reduceEqDiff, Nat.reduceAdd, Nat.reduceSub, Nat.reduceMul, Nat.reduceLT, Nat.reduceLeDiff, Int.reduceLT, Int.reduceLE, Int.reduceEq, Int.reduceNe, Int.reduceToNat, Int.reduceAdd, Int.reduceSub, Int.reduceMul, Int.natCast_zero]
      refine call (wintv (pre1 s ++ (be8 s.li.length ++ beL s.li)) s.pins.length (by simp only [small, List.length_append, hp1l, beL_len, be8_len]; omega)) [] ?_
      simp only [go_sem, ↓reduceIte, reduceCtorEq, Nat.reduceEqDiff, Nat.reduceAdd, Nat.reduceSub, Nat.reduceMul, Nat.reduceLT, Nat.reduceLeDiff, Int.reduceLT, Int.reduceLE, Int.reduceEq, Int.reduceNe, Int.reduceToNat, Int.reduceAdd, Int.reduceSub, Int.reduceMul, Int.natCast_zero]
      (repeat refine And.intro (by first | omega | exact okD_of (by kernel_rfl)) ?_)
      have hp2l : (pre2 s).length = 80 + s.prev.length + 8 * s.li.length := by simp only [pre2, List.length_append, hp1l, beL_len, be8_len]; omega
      refine loop Tryz.mixed 0 (fun i : Nat => [(1, .ptr 1 0), (3, .vs ((pre2 s ++ (s.pins.take i).flatMap pnB).map u8)), (47, .vs (s.pins.map pn)), (48, .int .i64 s.pins.length), (49, .int .i64 i)]) (fun i => [(1, .cells (sm s))]) (fun i => i ≤ s.pins.length) (fun i => s.pins.length - i) (by kernel_rfl) ?_ ?_ ?_
      · simp
      · simp only [go_sem, ↓reduceIte, reduceCtorEq, Nat.reduceEqDiff, Nat.reduceAdd, Nat.reduceSub, Nat.reduceMul, Nat.reduceLT, Nat.reduceLeDiff, Int.reduceLT, Int.reduceLE, Int.reduceEq, Int.reduceNe, Int.reduceToNat, Int.reduceAdd, Int.reduceSub, Int.reduceMul, Int.natCast_zero, pre2, List.append_assoc, List.take_zero, List.flatMap_nil]
      · intro i hi
        by_cases hi' : i < s.pins.length
        · have hfs := flat_step hi'
          have hfg := flat_ge s.pins
          simp only [go_sem, ↓reduceIte, reduceCtorEq, Nat.reduceEqDiff, Nat.reduceAdd, Nat.reduceSub, Nat.reduceMul, Nat.reduceLT, Nat.reduceLeDiff, Int.reduceLT, Int.reduceLE, Int.reduceEq, Int.reduceNe, Int.reduceToNat, Int.reduceAdd, Int.reduceSub, Int.reduceMul, Int.natCast_zero]
          refine ⟨fun _ => ⟨by omega, ?_⟩, fun h => by omega⟩
          refine call (wintv (pre2 s ++ (s.pins.take i).flatMap pnB) (el s.pins i).au (by simp only [small, List.length_append, hp2l]; omega)) [] ?_
          simp only [go_sem, ↓reduceIte, reduceCtorEq, Nat.reduceEqDiff, Nat.reduceAdd, Nat.reduceSub, Nat.reduceMul, Nat.reduceLT, Nat.reduceLeDiff, Int.reduceLT, Int.reduceLE, Int.reduceEq, Int.reduceNe, Int.reduceToNat, Int.reduceAdd, Int.reduceSub, Int.reduceMul, Int.natCast_zero]
          refine call (wintv (pre2 s ++ (s.pins.take i).flatMap pnB ++ be8 (el s.pins i).au) (el s.pins i).he (by simp only [small, List.length_append, hp2l, be8_len]; omega)) [] ?_
          simp only [go_sem, ↓reduceIte, reduceCtorEq, Nat.reduceEqDiff, Nat.reduceAdd, Nat.reduceSub, Nat.reduceMul, Nat.reduceLT, Nat.reduceLeDiff, Int.reduceLT, Int.reduceLE, Int.reduceEq, Int.reduceNe, Int.reduceToNat, Int.reduceAdd, Int.reduceSub, Int.reduceMul, Int.natCast_zero]
          refine call (wtextv (pre2 s ++ (s.pins.take i).flatMap pnB ++ be8 (el s.pins i).au ++ be8 (el s.pins i).he) (el s.pins i).di (by simp only [small, List.length_append, hp2l, be8_len]; omega) (by simp only [small]; omega)) [] ?_
          simp only [go_sem, ↓reduceIte, reduceCtorEq, Nat.reduceEqDiff, Nat.reduceAdd, Nat.reduceSub, Nat.reduceMul, Nat.reduceLT, Nat.reduceLeDiff, Int.reduceLT, Int.reduceLE, Int.reduceEq, Int.reduceNe, Int.reduceToNat, Int.reduceAdd, Int.reduceSub, Int.reduceMul, Int.natCast_zero]
          (repeat refine And.intro (by first | omega | exact okD_of (by kernel_rfl)) ?_)
          refine ⟨i + 1, ⟨by omega, by omega⟩, ?_, ?_⟩
          · rw [pinB_take hi']; simp only [pnB, List.append_assoc]
          · rw [wrapI] <;> omega
        · have hi2 : i = s.pins.length := by omega
          have hf : ¬ ((i : Int) < (s.pins.length : Int)) := by omega
          simp only [go_sem, ↓reduceIte, reduceCtorEq, Nat.reduceEqDiff, Nat.reduceAdd, Nat.reduceSub, Nat.reduceMul, Nat.reduceLT, Nat.reduceLeDiff, Int.reduceLT, Int.reduceLE, Int.reduceEq, Int.reduceNe, Int.reduceToNat, Int.reduceAdd, Int.reduceSub, Int.reduceMul, Int.natCast_zero, hf]
          rw [hi2, List.take_length]
          refine call (wtextv (pre2 s ++ s.pins.flatMap pnB) s.body (by simp only [small, List.length_append, hp2l]; omega) (by simp only [small]; omega)) [] ?_
          simp only [go_sem, ↓reduceIte, reduceCtorEq, Nat.reduceEqDiff, Nat.reduceAdd, Nat.reduceSub, Nat.reduceMul, Nat.reduceLT, Nat.reduceLeDiff, Int.reduceLT, Int.reduceLE, Int.reduceEq, Int.reduceNe, Int.reduceToNat, Int.reduceAdd, Int.reduceSub, Int.reduceMul, Int.natCast_zero]
          rfl

/-- The digest of a statement. -/
def dig (s : Stm) : List UInt8 := sha (stB s)
theorem rdig_den (s : Stm) (hs : okS s) : Den Tryz.prog 39 [.agg (sm s)] [] (.str (dig s)) [] [] := by
  refine den_of Tryz.mixed Tryz.func39 rfl Tryz.call39 Tryz.ntmps39 (congrArg Array.toList Tryz.results39) (by simp) (by kernel_rfl) [] (exts := []) rfl rfl ?_
  simp only [go_sem, ↓reduceIte, reduceCtorEq, Nat.reduceEqDiff, Nat.reduceAdd, Nat.reduceSub, Nat.reduceMul, Nat.reduceLT, Nat.reduceLeDiff, Int.reduceLT, Int.reduceLE, Int.reduceEq, Int.reduceNe, Int.reduceToNat, Int.reduceAdd, Int.reduceSub, Int.reduceMul, Int.natCast_zero]
  refine call (rbytes_den s hs) [] ?_
  simp only [go_sem, ↓reduceIte, reduceCtorEq, Nat.reduceEqDiff, Nat.reduceAdd, Nat.reduceSub, Nat.reduceMul, Nat.reduceLT, Nat.reduceLeDiff, Int.reduceLT, Int.reduceLE, Int.reduceEq, Int.reduceNe, Int.reduceToNat, Int.reduceAdd, Int.reduceSub, Int.reduceMul, Int.natCast_zero]
  refine call (sum_den (stB s) hs) [] ?_
  simp only [go_sem, ↓reduceIte, reduceCtorEq, Nat.reduceEqDiff, Nat.reduceAdd, Nat.reduceSub, Nat.reduceMul, Nat.reduceLT, Nat.reduceLeDiff, Int.reduceLT, Int.reduceLE, Int.reduceEq, Int.reduceNe, Int.reduceToNat, Int.reduceAdd, Int.reduceSub, Int.reduceMul, Int.natCast_zero]
  rfl
theorem wdig_den (s : Stm) (hs : okS s) : Den Tryz.prog 47 [.agg (sm s)] [] (.str (dig s)) [] [] := by
  refine den_of Tryz.mixed Tryz.func47 rfl Tryz.call47 Tryz.ntmps47 (congrArg Array.toList Tryz.results47) (by simp) (by kernel_rfl) [] (exts := []) rfl rfl ?_
  simp only [go_sem, ↓reduceIte, reduceCtorEq, Nat.reduceEqDiff, Nat.reduceAdd, Nat.reduceSub, Nat.reduceMul, Nat.reduceLT, Nat.reduceLeDiff, Int.reduceLT, Int.reduceLE, Int.reduceEq, Int.reduceNe, Int.reduceToNat, Int.reduceAdd, Int.reduceSub, Int.reduceMul, Int.natCast_zero]
  refine call (wbytes_den s hs) [] ?_
  simp only [go_sem, ↓reduceIte, reduceCtorEq, Nat.reduceEqDiff, Nat.reduceAdd, Nat.reduceSub, Nat.reduceMul, Nat.reduceLT, Nat.reduceLeDiff, Int.reduceLT, Int.reduceLE, Int.reduceEq, Int.reduceNe, Int.reduceToNat, Int.reduceAdd, Int.reduceSub, Int.reduceMul, Int.natCast_zero]
  refine call (sum2_den (stB s) hs) [] ?_
  simp only [go_sem, ↓reduceIte, reduceCtorEq, Nat.reduceEqDiff, Nat.reduceAdd, Nat.reduceSub, Nat.reduceMul, Nat.reduceLT, Nat.reduceLeDiff, Int.reduceLT, Int.reduceLE, Int.reduceEq, Int.reduceNe, Int.reduceToNat, Int.reduceAdd, Int.reduceSub, Int.reduceMul, Int.natCast_zero]
  rfl

theorem sealed_den (s : Stm) (hs : okS s) : Den Tryz.prog 29 [.agg (sm s)] [] (.bool (decide (s.sk = s.au ∧ s.sd = dig s))) [] [] := by
  refine den_of Tryz.mixed Tryz.func29 rfl Tryz.call29 Tryz.ntmps29 (congrArg Array.toList Tryz.results29) (by simp) (by kernel_rfl) [] (exts := []) rfl rfl ?_
  simp only [go_sem, ↓reduceIte, reduceCtorEq, Nat.reduceEqDiff, Nat.reduceAdd, Nat.reduceSub, Nat.reduceMul, Nat.reduceLT, Nat.reduceLeDiff, Int.reduceLT, Int.reduceLE, Int.reduceEq, Int.reduceNe, Int.reduceToNat, Int.reduceAdd, Int.reduceSub, Int.reduceMul, Int.natCast_zero]
  refine call (wdig_den s hs) [] ?_
  simp only [go_sem, ↓reduceIte, reduceCtorEq, Nat.reduceEqDiff, Nat.reduceAdd, Nat.reduceSub, Nat.reduceMul, Nat.reduceLT, Nat.reduceLeDiff, Int.reduceLT, Int.reduceLE, Int.reduceEq, Int.reduceNe, Int.reduceToNat, Int.reduceAdd, Int.reduceSub, Int.reduceMul, Int.natCast_zero]
  (repeat refine And.intro (by first | omega | exact okD_of (by kernel_rfl)) ?_)
  simp

set_option maxRecDepth 100000 in
theorem copy_den (s : Stm) (hs : okS s) : Den Tryz.prog 38 [.agg (sm s)] [] (.agg (sm s)) [] [] := by
  refine den_of Tryz.mixed Tryz.func38 rfl Tryz.call38 Tryz.ntmps38 (congrArg Array.toList Tryz.results38) (by simp) (by kernel_rfl) [] (exts := []) rfl rfl ?_
  simp only [okS, stB, pre2, pre1, hdB, List.length_append, beL_len, be8_len, txB_len, l5, List.length_cons, List.length_nil] at hs
  have := flat_ge s.pins
  simp only [go_sem, ↓reduceIte, reduceCtorEq, Nat.reduceEqDiff, Nat.reduceAdd, Nat.reduceSub, Nat.reduceMul, Nat.reduceLT, Nat.reduceLeDiff, Int.reduceLT, Int.reduceLE, Int.reduceEq, Int.reduceNe, Int.reduceToNat, Int.reduceAdd, Int.reduceSub, Int.reduceMul, Int.natCast_zero]
  omega

/-- The sealed statement. -/
def sealS (s : Stm) : Stm := { s with sk := s.au, sd := dig s }
set_option maxRecDepth 100000 in
theorem seal_den (s : Stm) (hs : okS s) : Den Tryz.prog 25 [.agg (sm s)] [] (.agg (sm (sealS s))) [] [] := by
  refine den_of Tryz.mixed Tryz.func25 rfl Tryz.call25 Tryz.ntmps25 (congrArg Array.toList Tryz.results25) (by simp) (by kernel_rfl) [] (exts := []) rfl rfl ?_
  simp only [go_sem, ↓reduceIte, reduceCtorEq, Nat.reduceEqDiff, Nat.reduceAdd, Nat.reduceSub, Nat.reduceMul, Nat.reduceLT, Nat.reduceLeDiff, Int.reduceLT, Int.reduceLE, Int.reduceEq, Int.reduceNe, Int.reduceToNat, Int.reduceAdd, Int.reduceSub, Int.reduceMul, Int.natCast_zero]
  refine call (copy_den s hs) [] ?_
  simp only [go_sem, ↓reduceIte, reduceCtorEq, Nat.reduceEqDiff, Nat.reduceAdd, Nat.reduceSub, Nat.reduceMul, Nat.reduceLT, Nat.reduceLeDiff, Int.reduceLT, Int.reduceLE, Int.reduceEq, Int.reduceNe, Int.reduceToNat, Int.reduceAdd, Int.reduceSub, Int.reduceMul, Int.natCast_zero]
  refine call (rdig_den s hs) [] ?_
  simp only [go_sem, ↓reduceIte, reduceCtorEq, Nat.reduceEqDiff, Nat.reduceAdd, Nat.reduceSub, Nat.reduceMul, Nat.reduceLT, Nat.reduceLeDiff, Int.reduceLT, Int.reduceLE, Int.reduceEq, Int.reduceNe, Int.reduceToNat, Int.reduceAdd, Int.reduceSub, Int.reduceMul, Int.natCast_zero]
  (repeat refine And.intro (by first | omega | exact okD_of (by kernel_rfl)) ?_)
  exact ⟨rfl, rfl, rfl, rfl, rfl, rfl, rfl, rfl, rfl, rfl, rfl, rfl, rfl⟩
end Go.Proofs.Am
