/- The digest: the program's own sum. -/
import Derived.Test.YthcphdogfdghkaaGreatB8
set_option linter.unusedSimpArgs false
set_option linter.unusedVariables false
namespace Go.Proofs.Am
open Go Go.RowKit
open Go.Proofs

set_option maxRecDepth 100000 in
theorem sum2_den (b : List UInt8) (hb : b.length ≤ 1000000000) : Den Tryz.prog 65 [.vs (b.map u8)] [] (.str (sha b)) [] [] := by
  refine den_of Tryz.mixed Tryz.func65 rfl Tryz.call65 Tryz.ntmps65 (congrArg Array.toList Tryz.results65) (by simp) (by kernel_rfl) [] (exts := []) rfl rfl ?_
  simp only [go_sem, ↓reduceIte, reduceCtorEq, Nat.reduceEqDiff, Nat.reduceAdd, Nat.reduceSub, Nat.reduceMul, Nat.reduceLT, Nat.reduceLeDiff, Int.reduceLT, Int.reduceLE, Int.reduceEq, Int.reduceNe, Int.reduceToNat, Int.reduceAdd, Int.reduceSub, Int.reduceMul, Int.natCast_zero]
  (repeat refine And.intro (by first | omega | exact okD_of (by kernel_rfl)) ?_)
  refine loop Tryz.mixed 0 (fun z : Nat => [(0, .vs (b.map u8)), (3, .os 12 (pad0 b z).length)]) (fun z => [(12, .arr 5 1 false ((pad0 b z).map u8))]) (fun z => z ≤ padN b.length) (fun z => padN b.length - z) (by kernel_rfl) ?_ ?_ ?_
  · simp
  · simp only [go_sem, ↓reduceIte, reduceCtorEq, Nat.reduceEqDiff, Nat.reduceAdd, Nat.reduceSub, Nat.reduceMul, Nat.reduceLT, Nat.reduceLeDiff, Int.reduceLT, Int.reduceLE, Int.reduceEq, Int.reduceNe, Int.reduceToNat, Int.reduceAdd, Int.reduceSub, Int.reduceMul, Int.natCast_zero]
    simp [pad0, u8]
  · intro z hz
    have hpl := pad0_len b z
    have hpn := padN_le b.length
    by_cases hz' : z < padN b.length
    · have hc : ¬ ((((pad0 b z).length : Nat) : Int).tmod 64 = 56) := by
        have := padN_lt hz'
        rw [hpl, tm64]; omega
      simp only [go_sem, ↓reduceIte, reduceCtorEq, Nat.reduceEqDiff, Nat.reduceAdd, Nat.reduceSub, Nat.reduceMul, Nat.reduceLT, Nat.reduceLeDiff, Int.reduceLT, Int.reduceLE, Int.reduceEq, Int.reduceNe, Int.reduceToNat, Int.reduceAdd, Int.reduceSub, Int.reduceMul, Int.natCast_zero, hc]
      refine ⟨by omega, z + 1, ⟨by omega, by omega⟩, ?_⟩
      rw [pad0_succ]
      simp only [go_sem, ↓reduceIte, reduceCtorEq, Nat.reduceEqDiff, Nat.reduceAdd, Nat.reduceSub, Nat.reduceMul, Nat.reduceLT, Nat.reduceLeDiff, Int.reduceLT, Int.reduceLE, Int.reduceEq, Int.reduceNe, Int.reduceToNat, Int.reduceAdd, Int.reduceSub, Int.reduceMul, Int.natCast_zero, List.map_append]
      simp [u8]
    · have hz2 : z = padN b.length := by omega
      subst hz2
      have hc : (((pad0 b (padN b.length)).length : Nat) : Int).tmod 64 = 56 := by
        have := padN_spec b.length
        rw [hpl, tm64]; omega
      simp only [go_sem, ↓reduceIte, reduceCtorEq, Nat.reduceEqDiff, Nat.reduceAdd, Nat.reduceSub, Nat.reduceMul, Nat.reduceLT, Nat.reduceLeDiff, Int.reduceLT, Int.reduceLE, Int.reduceEq, Int.reduceNe, Int.reduceToNat, Int.reduceAdd, Int.reduceSub, Int.reduceMul, Int.natCast_zero, hc]
      generalize hp : pad0 b (padN b.length) = p at *
      refine loop Tryz.mixed 0 (fun m : Nat => [(3, .os 12 (p ++ (be8 ((8 * b.length : Nat) : Int)).take m).length), (4, .int .u64 ((8 * b.length : Nat) : Int)), (5, .int .i64 (56 - 8 * (m : Int)))]) (fun m => [(12, .arr 5 1 false ((p ++ (be8 ((8 * b.length : Nat) : Int)).take m).map u8))]) (fun m => m ≤ 8) (fun m => 8 - m) (by kernel_rfl) ?_ ?_ ?_
      · simp
      · simp only [go_sem, ↓reduceIte, reduceCtorEq, Nat.reduceEqDiff, Nat.reduceAdd, Nat.reduceSub, Nat.reduceMul, Nat.reduceLT, Nat.reduceLeDiff, Int.reduceLT, Int.reduceLE, Int.reduceEq, Int.reduceNe, Int.reduceToNat, Int.reduceAdd, Int.reduceSub, Int.reduceMul, Int.natCast_zero, List.take_zero, List.append_nil]
        simp only [IntKind.wrap_u64]
        omega
      · intro m hm
        generalize hv : 8 * b.length = v at *
        have hl : ((be8 (v : Int)).take m).length = m := by simp [be8]; omega
        have e1 : m < 8 → IntKind.u64.wrap (56 - 8 * (m : Int)) = ((56 - 8 * m : Nat) : Int) := fun h => by rw [IntKind.wrap_u64]; omega
        by_cases hm' : m < 8
        · have e0 : (be8 (v : Int)).take (m + 1) = (be8 (v : Int)).take m ++ [bAt v (56 - 8 * m)] := by
            have : m = 0 ∨ m = 1 ∨ m = 2 ∨ m = 3 ∨ m = 4 ∨ m = 5 ∨ m = 6 ∨ m = 7 := by omega
            rcases this with rfl | rfl | rfl | rfl | rfl | rfl | rfl | rfl <;> rfl
          have e2 : min (56 - 8 * m) 64 = 56 - 8 * m := by omega
          have hc : (0 : Int) ≤ 56 - 8 * (m : Int) := by omega
          rw [List.length_append, hl]
          simp only [go_sem, ↓reduceIte, reduceCtorEq, Nat.reduceEqDiff, Nat.reduceAdd, Nat.reduceSub, Nat.reduceMul, Nat.reduceLT, Nat.reduceLeDiff, Int.reduceLT, Int.reduceLE, Int.reduceEq, Int.reduceNe, Int.reduceToNat, Int.reduceAdd, Int.reduceSub, Int.reduceMul, Int.natCast_zero, e1 hm', hc, e2, wrapB, hl]
          refine ⟨by omega, m + 1, ⟨by omega, by omega⟩, ?_⟩
          rw [e0]
          simp only [go_sem, ↓reduceIte, reduceCtorEq, Nat.reduceEqDiff, Nat.reduceAdd, Nat.reduceSub, Nat.reduceMul, Nat.reduceLT, Nat.reduceLeDiff, Int.reduceLT, Int.reduceLE, Int.reduceEq, Int.reduceNe, Int.reduceToNat, Int.reduceAdd, Int.reduceSub, Int.reduceMul, Int.natCast_zero, List.map_append, List.append_assoc, hl]
          rw [wrapI] <;> omega
        · have hm2 : m = 8 := by omega
          subst hm2
          have hS : p ++ (be8 (v : Int)).take 8 = allB b := by rw [allB, hp, hv]; rfl
          rw [hS]
          simp only [go_sem, ↓reduceIte, reduceCtorEq, Nat.reduceEqDiff, Nat.reduceAdd, Nat.reduceSub, Nat.reduceMul, Nat.reduceLT, Nat.reduceLeDiff, Int.reduceLT, Int.reduceLE, Int.reduceEq, Int.reduceNe, Int.reduceToNat, Int.reduceAdd, Int.reduceSub, Int.reduceMul, Int.natCast_zero]
          refine call rounds_den [] ?_
          obtain ⟨q0, hq0, hq1⟩ := allB_len b
          have hkl : kK.length = 64 := rfl
          simp only [go_sem, ↓reduceIte, reduceCtorEq, Nat.reduceEqDiff, Nat.reduceAdd, Nat.reduceSub, Nat.reduceMul, Nat.reduceLT, Nat.reduceLeDiff, Int.reduceLT, Int.reduceLE, Int.reduceEq, Int.reduceNe, Int.reduceToNat, Int.reduceAdd, Int.reduceSub, Int.reduceMul, Int.natCast_zero, hkl]
          refine loop Tryz.mixed 0 (fun q : Nat => [(3, .vs (((allB b).drop (64 * q)).map u8)), (6, .ptr 6 0), (7, .ptr 7 0)]) (fun q => [(6, .cells ((hs b q).map c4)), (7, .cells (kK.map c4))]) (fun q => q ≤ q0) (fun q => q0 - q) (by kernel_rfl) ?_ ?_ ?_
          · simp
          · simp only [go_sem, ↓reduceIte, reduceCtorEq, Nat.reduceEqDiff, Nat.reduceAdd, Nat.reduceSub, Nat.reduceMul, Nat.reduceLT, Nat.reduceLeDiff, Int.reduceLT, Int.reduceLE, Int.reduceEq, Int.reduceNe, Int.reduceToNat, Int.reduceAdd, Int.reduceSub, Int.reduceMul, Int.natCast_zero, hs]
            rfl
          · intro q hq
            have hhl := hs_len b q
            by_cases hq' : q < q0
            · have hdl : ((allB b).drop (64 * q)).length = 64 * (q0 - q) := by simp; omega
              have hcl : (((allB b).drop (64 * q)).take 64).length = 64 := by simp; omega
              have hpos : (0 : Int) < ((64 * (q0 - q) : Nat) : Int) := by omega
              simp only [go_sem, ↓reduceIte, reduceCtorEq, Nat.reduceEqDiff, Nat.reduceAdd, Nat.reduceSub, Nat.reduceMul, Nat.reduceLT, Nat.reduceLeDiff, Int.reduceLT, Int.reduceLE, Int.reduceEq, Int.reduceNe, Int.reduceToNat, Int.reduceAdd, Int.reduceSub, Int.reduceMul, Int.natCast_zero, hdl, hpos]
              refine ⟨by omega, ?_⟩
              refine call (block2_den (hs b q) _ kK hhl hcl hkl) [6, 7] ?_
              simp only [go_sem, ↓reduceIte, reduceCtorEq, Nat.reduceEqDiff, Nat.reduceAdd, Nat.reduceSub, Nat.reduceMul, Nat.reduceLT, Nat.reduceLeDiff, Int.reduceLT, Int.reduceLE, Int.reduceEq, Int.reduceNe, Int.reduceToNat, Int.reduceAdd, Int.reduceSub, Int.reduceMul, Int.natCast_zero, hdl, hpos]
              refine ⟨⟨by omega, by omega, by omega⟩, q + 1, ⟨by omega, by omega⟩, ?_, ?_⟩
              · rw [List.take_of_length_le (by omega), List.drop_drop, Nat.mul_succ]
              · rw [hs, List.take_drop]
            · have hq2 : q = q0 := by omega
              subst hq2
              have hdl : (allB b).drop (64 * q) = [] := by simp; omega
              rw [hdl]
              have ht8 : (hs b q).take 8 = hs b q := by rw [← hhl, List.take_length]
              simp only [go_sem, ↓reduceIte, reduceCtorEq, Nat.reduceEqDiff, Nat.reduceAdd, Nat.reduceSub, Nat.reduceMul, Nat.reduceLT, Nat.reduceLeDiff, Int.reduceLT, Int.reduceLE, Int.reduceEq, Int.reduceNe, Int.reduceToNat, Int.reduceAdd, Int.reduceSub, Int.reduceMul, Int.natCast_zero, ht8, hhl]
              have hsha : sha b = (hs b q).flatMap outW := by rw [sha, hq0, Nat.mul_div_cancel_left _ (by omega)]
              generalize hV : hs b q = V at *
              refine promote 8 14 5 1 false ?_ ?_ ?_ (by omega)
              · refine loop Tryz.mixed 0 (fun j : Nat => [(48, .agg (V.map c4)), (8, .os 14 ((V.take j).flatMap outW).length), (49, .int .i64 j)]) (fun j => [(14, .arr 5 1 false (((V.take j).flatMap outW).map u8))]) (fun j => j ≤ 8) (fun j => 8 - j) (by kernel_rfl) ?_ ?_ ?_
                · simp
                · simp only [go_sem, ↓reduceIte, reduceCtorEq, Nat.reduceEqDiff, Nat.reduceAdd, Nat.reduceSub, Nat.reduceMul, Nat.reduceLT, Nat.reduceLeDiff, Int.reduceLT, Int.reduceLE, Int.reduceEq, Int.reduceNe, Int.reduceToNat, Int.reduceAdd, Int.reduceSub, Int.reduceMul, Int.natCast_zero, List.take_zero, List.flatMap_nil]
                · intro j hj
                  have hjl : ((V.take j).flatMap outW).length = 4 * j := by
                    rw [outL_len]; simp; omega
                  by_cases hj' : j < 8
                  · simp only [go_sem, ↓reduceIte, reduceCtorEq, Nat.reduceEqDiff, Nat.reduceAdd, Nat.reduceSub, Nat.reduceMul, Nat.reduceLT, Nat.reduceLeDiff, Int.reduceLT, Int.reduceLE, Int.reduceEq, Int.reduceNe, Int.reduceToNat, Int.reduceAdd, Int.reduceSub, Int.reduceMul, Int.natCast_zero, hhl]
                    refine ⟨fun _ => ⟨⟨hj', hj'⟩, by omega, j + 1, ⟨by omega, by omega⟩, ?_⟩, fun h => by omega⟩
                    rw [take_el (by omega), wrapB, wrapB, wrapB, wrapB0]
                    simp only [go_sem, ↓reduceIte, reduceCtorEq, Nat.reduceEqDiff, Nat.reduceAdd, Nat.reduceSub, Nat.reduceMul, Nat.reduceLT, Nat.reduceLeDiff, Int.reduceLT, Int.reduceLE, Int.reduceEq, Int.reduceNe, Int.reduceToNat, Int.reduceAdd, Int.reduceSub, Int.reduceMul, Int.natCast_zero, List.flatMap_append, List.map_append, List.flatMap_cons, List.flatMap_nil, outW]
                    rw [wrapI] <;> omega
                  · have hj2 : j = 8 := by omega
                    have hf : ¬ ((j : Int) < 8) := by omega
                    have hV8 : V.take j = V := by rw [hj2, ← hhl, List.take_length]
                    rw [hV8, ← hsha]
                    simp only [go_sem, ↓reduceIte, reduceCtorEq, Nat.reduceEqDiff, Nat.reduceAdd, Nat.reduceSub, Nat.reduceMul, Nat.reduceLT, Nat.reduceLeDiff, Int.reduceLT, Int.reduceLE, Int.reduceEq, Int.reduceNe, Int.reduceToNat, Int.reduceAdd, Int.reduceSub, Int.reduceMul, Int.natCast_zero, hf]
                    exact ⟨_, rfl, rfl⟩
              · simp only [go_sem, ↓reduceIte, reduceCtorEq, Nat.reduceEqDiff, Nat.reduceAdd, Nat.reduceSub, Nat.reduceMul, Nat.reduceLT, Nat.reduceLeDiff, Int.reduceLT, Int.reduceLE, Int.reduceEq, Int.reduceNe, Int.reduceToNat, Int.reduceAdd, Int.reduceSub, Int.reduceMul, Int.natCast_zero]
              · simp only [go_sem, ↓reduceIte, reduceCtorEq, Nat.reduceEqDiff, Nat.reduceAdd, Nat.reduceSub, Nat.reduceMul, Nat.reduceLT, Nat.reduceLeDiff, Int.reduceLT, Int.reduceLE, Int.reduceEq, Int.reduceNe, Int.reduceToNat, Int.reduceAdd, Int.reduceSub, Int.reduceMul, Int.natCast_zero]
end Go.Proofs.Am
