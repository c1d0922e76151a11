/- The digest: the program's own. -/
import Derived.Test.YthcphdogfdghkaaGreatB7
import Derived.Test.YthcphdogfdghkaaGreatAmW
set_option linter.unusedSimpArgs false
set_option linter.unusedVariables false
namespace Go.Proofs.Am
open Go Go.RowKit
open Go.Proofs

theorem or_comm4 (k : IntKind) (a b : Int) : bits .or k a b = bits .or k b a := by
  unfold bits
  simp only [BitVec.or_comm]

theorem rotl_den (x k : Int) (n : Nat) (h0 : 0 < n) (hn : n < 32) (hk : bits .and .u64 (IntKind.u64.wrap k) 31 = ((32 - n : Nat) : Int)) : Den Tryz.prog 92 [.int .u32 x, .int .i64 k] [] (.int .u32 (rot x n)) [] [] := by
  refine den_of Tryz.mixed Tryz.func92 rfl Tryz.call92 Tryz.ntmps92 (congrArg Array.toList Tryz.results92) (by simp) (by kernel_rfl) [] (exts := []) rfl rfl ?_
  have e1 : IntKind.u64.wrap (32 - ((32 - n : Nat) : Int)) = (n : Int) := by rw [IntKind.wrap_u64]; omega
  have e2 : min n 32 = n := by omega
  have e3 : min (32 - n) 32 = 32 - n := by omega
  simp only [go_sem, ↓reduceIte, reduceCtorEq, Nat.reduceEqDiff, Nat.reduceAdd, Nat.reduceSub, Nat.reduceMul, Nat.reduceLT, Nat.reduceLeDiff, Int.reduceLT, Int.reduceLE, Int.reduceEq, Int.reduceNe, Int.reduceToNat, Int.reduceAdd, Int.reduceSub, Int.reduceMul, Int.natCast_zero, hk, e1, e2, e3]
  rw [or_comm4]; rfl

theorem turn2_den (x : Int) (n : Nat) (m : Int) (h0 : 0 < n) (hn : n < 32) (hk : bits .and .u64 (IntKind.u64.wrap (IntKind.i64.wrap (0 - m))) 31 = ((32 - n : Nat) : Int)) : Den Tryz.prog 91 [.int .u32 x, .int .i64 m] [] (.int .u32 (rot x n)) [] [] := by
  refine den_of Tryz.mixed Tryz.func91 rfl Tryz.call91 Tryz.ntmps91 (congrArg Array.toList Tryz.results91) (by simp) (by kernel_rfl) [] (exts := []) rfl rfl ?_
  simp only [go_sem, ↓reduceIte, reduceCtorEq, Nat.reduceEqDiff, Nat.reduceAdd, Nat.reduceSub, Nat.reduceMul, Nat.reduceLT, Nat.reduceLeDiff, Int.reduceLT, Int.reduceLE, Int.reduceEq, Int.reduceNe, Int.reduceToNat, Int.reduceAdd, Int.reduceSub, Int.reduceMul, Int.natCast_zero]
  refine call (rotl_den x _ n h0 hn hk) [] ?_
  simp only [go_sem, ↓reduceIte, reduceCtorEq, Nat.reduceEqDiff, Nat.reduceAdd, Nat.reduceSub, Nat.reduceMul, Nat.reduceLT, Nat.reduceLeDiff, Int.reduceLT, Int.reduceLE, Int.reduceEq, Int.reduceNe, Int.reduceToNat, Int.reduceAdd, Int.reduceSub, Int.reduceMul, Int.natCast_zero]

set_option maxRecDepth 100000 in
theorem rounds_den : Den Tryz.prog 78 [] [] (.agg (kK.map c4)) [] [] := by
  refine den_of Tryz.mixed Tryz.func78 rfl Tryz.call78 Tryz.ntmps78 (congrArg Array.toList Tryz.results78) (by simp) (by kernel_rfl) [] (exts := []) rfl rfl ?_
  simp only [go_sem, ↓reduceIte, reduceCtorEq, Nat.reduceEqDiff, Nat.reduceAdd, Nat.reduceSub, Nat.reduceMul, Nat.reduceLT, Nat.reduceLeDiff, Int.reduceLT, Int.reduceLE, Int.reduceEq, Int.reduceNe, Int.reduceToNat, Int.reduceAdd, Int.reduceSub, Int.reduceMul, Int.natCast_zero]
  rfl

theorem ad_assoc (a b c : Int) : ad (ad a b) c = ad a (ad b c) := by
  simp only [ad, IntKind.wrap_u32]; omega
theorem ad_comm (a b : Int) : ad a b = ad b a := by
  simp only [ad, Int.add_comm]
theorem fin_comm {v h : List Int} (hv : v.length = 8) (hh : h.length = 8) : fin v h 8 = fin h v 8 := by
  match v, h, hv, hh with
  | [a0, a1, a2, a3, a4, a5, a6, a7], [b0, b1, b2, b3, b4, b5, b6, b7], _, _ =>
    show [ad a0 b0, ad a1 b1, ad a2 b2, ad a3 b3, ad a4 b4, ad a5 b5, ad a6 b6, ad a7 b7] = [ad b0 a0, ad b1 a1, ad b2 a2, ad b3 a3, ad b4 a4, ad b5 a5, ad b6 a6, ad b7 a7]
    rw [ad_comm a0, ad_comm a1, ad_comm a2, ad_comm a3, ad_comm a4, ad_comm a5, ad_comm a6, ad_comm a7]

set_option maxRecDepth 100000 in
theorem block2_den (h : List Int) (b : List UInt8) (k : List Int) (hh : h.length = 8) (hb : b.length = 64) (hk : k.length = 64) : Den Tryz.prog 79 [.ptr 1000000 0, .vs (b.map u8), .ptr 1000001 0] [.cells (h.map c4), .cells (k.map c4)] (.tup []) [] [.cells ((sblk h b k).map c4), .cells (k.map c4)] := by
  refine den_of Tryz.mixed Tryz.func79 rfl Tryz.call79 Tryz.ntmps79 (congrArg Array.toList Tryz.results79) (by simp) (by kernel_rfl) [] (exts := [1000000, 1000001]) rfl rfl ?_
  simp only [go_sem, ↓reduceIte, reduceCtorEq, Nat.reduceEqDiff, Nat.reduceAdd, Nat.reduceSub, Nat.reduceMul, Nat.reduceLT, Nat.reduceLeDiff, Int.reduceLT, Int.reduceLE, Int.reduceEq, Int.reduceNe, Int.reduceToNat, Int.reduceAdd, Int.reduceSub, Int.reduceMul, Int.natCast_zero]
  refine loop Tryz.mixed 0 (fun i : Nat => [(0, .ptr 1000000 0), (1, .vs (b.map u8)), (2, .ptr 1000001 0), (6, .ptr 6 0), (19, .int .i64 i)]) (fun i => [(6, .cells ((wA b i).map c4)), (1000000, .cells (h.map c4)), (1000001, .cells (k.map c4))]) (fun i => i ≤ 16) (fun i => 16 - i) (by kernel_rfl) ?_ ?_ ?_
  · simp
  · simp only [go_sem, ↓reduceIte, reduceCtorEq, Nat.reduceEqDiff, Nat.reduceAdd, Nat.reduceSub, Nat.reduceMul, Nat.reduceLT, Nat.reduceLeDiff, Int.reduceLT, Int.reduceLE, Int.reduceEq, Int.reduceNe, Int.reduceToNat, Int.reduceAdd, Int.reduceSub, Int.reduceMul, Int.natCast_zero, wA, List.map_replicate]
    rfl
  · intro i hi
    have e1 : i < 16 → IntKind.i64.wrap (4 * (i : Int)) = ((4 * i : Nat) : Int) := fun h => by rw [wrapI] <;> omega
    have e2 : i < 16 → IntKind.i64.wrap (((4 * i : Nat) : Int) + 1) = ((4 * i + 1 : Nat) : Int) := fun h => by rw [wrapI] <;> omega
    have e3 : i < 16 → IntKind.i64.wrap (((4 * i : Nat) : Int) + 2) = ((4 * i + 2 : Nat) : Int) := fun h => by rw [wrapI] <;> omega
    have e4 : i < 16 → IntKind.i64.wrap (((4 * i : Nat) : Int) + 3) = ((4 * i + 3 : Nat) : Int) := fun h => by rw [wrapI] <;> omega
    have hw := wA_len b i
    by_cases hi' : i < 16
    · simp only [go_sem, ↓reduceIte, reduceCtorEq, Nat.reduceEqDiff, Nat.reduceAdd, Nat.reduceSub, Nat.reduceMul, Nat.reduceLT, Nat.reduceLeDiff, Int.reduceLT, Int.reduceLE, Int.reduceEq, Int.reduceNe, Int.reduceToNat, Int.reduceAdd, Int.reduceSub, Int.reduceMul, Int.natCast_zero, e1 hi', e2 hi', e3 hi', e4 hi', hw, hb]
      refine ⟨fun _ => ⟨by omega, by omega, by omega, by omega, by omega, by omega, okD_of (by kernel_rfl), i + 1, ⟨by omega, by omega⟩, ?_⟩, fun h => by omega⟩
      exact ⟨by rw [wrapI] <;> omega, rfl⟩
    · have : i = 16 := by omega
      have hf : ¬ ((i : Int) < 16) := by omega
      simp only [go_sem, ↓reduceIte, reduceCtorEq, Nat.reduceEqDiff, Nat.reduceAdd, Nat.reduceSub, Nat.reduceMul, Nat.reduceLT, Nat.reduceLeDiff, Int.reduceLT, Int.reduceLE, Int.reduceEq, Int.reduceNe, Int.reduceToNat, Int.reduceAdd, Int.reduceSub, Int.reduceMul, Int.natCast_zero, hf]
      subst this
      refine loop Tryz.mixed 0 (fun m : Nat => [(0, .ptr 1000000 0), (2, .ptr 1000001 0), (6, .ptr 6 0), (8, .fn 91 []), (9, .int .i64 ((16 + m : Nat) : Int))]) (fun m => [(6, .cells ((wB b m).map c4)), (1000000, .cells (h.map c4)), (1000001, .cells (k.map c4))]) (fun m => m ≤ 48) (fun m => 48 - m) (by kernel_rfl) ?_ ?_ ?_
      · simp
      · simp only [go_sem, ↓reduceIte, reduceCtorEq, Nat.reduceEqDiff, Nat.reduceAdd, Nat.reduceSub, Nat.reduceMul, Nat.reduceLT, Nat.reduceLeDiff, Int.reduceLT, Int.reduceLE, Int.reduceEq, Int.reduceNe, Int.reduceToNat, Int.reduceAdd, Int.reduceSub, Int.reduceMul, Int.natCast_zero, wB]
      · intro m hm
        have hw := wB_len b m
        by_cases hm' : m < 48
        · have f1 : IntKind.i64.wrap (((16 + m : Nat) : Int) - 15) = ((m + 1 : Nat) : Int) := by rw [wrapI] <;> omega
          have f2 : IntKind.i64.wrap (((16 + m : Nat) : Int) - 2) = ((m + 14 : Nat) : Int) := by rw [wrapI] <;> omega
          have f3 : IntKind.i64.wrap (((16 + m : Nat) : Int) - 16) = ((m : Nat) : Int) := by rw [wrapI] <;> omega
          have f4 : IntKind.i64.wrap (((16 + m : Nat) : Int) - 7) = ((m + 9 : Nat) : Int) := by rw [wrapI] <;> omega
          simp only [go_sem, ↓reduceIte, reduceCtorEq, Nat.reduceEqDiff, Nat.reduceAdd, Nat.reduceSub, Nat.reduceMul, Nat.reduceLT, Nat.reduceLeDiff, Int.reduceLT, Int.reduceLE, Int.reduceEq, Int.reduceNe, Int.reduceToNat, Int.reduceAdd, Int.reduceSub, Int.reduceMul, Int.natCast_zero, f1, f2, f3, f4, hw]
          refine ⟨fun _ => ?_, fun h => by omega⟩
          (repeat refine And.intro (by first | omega | exact okD_of (by kernel_rfl)) ?_)
          refine call (turn2_den (el (wB b m) (m + 1)) 7 7 (by omega) (by omega) (by rfl)) [] ?_
          simp only [go_sem, ↓reduceIte, reduceCtorEq, Nat.reduceEqDiff, Nat.reduceAdd, Nat.reduceSub, Nat.reduceMul, Nat.reduceLT, Nat.reduceLeDiff, Int.reduceLT, Int.reduceLE, Int.reduceEq, Int.reduceNe, Int.reduceToNat, Int.reduceAdd, Int.reduceSub, Int.reduceMul, Int.natCast_zero, f1, f2, f3, f4, hw]
          (repeat refine And.intro (by first | omega | exact okD_of (by kernel_rfl)) ?_)
          refine call (turn2_den (el (wB b m) (m + 1)) 18 18 (by omega) (by omega) (by rfl)) [] ?_
          simp only [go_sem, ↓reduceIte, reduceCtorEq, Nat.reduceEqDiff, Nat.reduceAdd, Nat.reduceSub, Nat.reduceMul, Nat.reduceLT, Nat.reduceLeDiff, Int.reduceLT, Int.reduceLE, Int.reduceEq, Int.reduceNe, Int.reduceToNat, Int.reduceAdd, Int.reduceSub, Int.reduceMul, Int.natCast_zero, f1, f2, f3, f4, hw]
          (repeat refine And.intro (by first | omega | exact okD_of (by kernel_rfl)) ?_)
          refine call (turn2_den (el (wB b m) (m + 14)) 17 17 (by omega) (by omega) (by rfl)) [] ?_
          simp only [go_sem, ↓reduceIte, reduceCtorEq, Nat.reduceEqDiff, Nat.reduceAdd, Nat.reduceSub, Nat.reduceMul, Nat.reduceLT, Nat.reduceLeDiff, Int.reduceLT, Int.reduceLE, Int.reduceEq, Int.reduceNe, Int.reduceToNat, Int.reduceAdd, Int.reduceSub, Int.reduceMul, Int.natCast_zero, f1, f2, f3, f4, hw]
          (repeat refine And.intro (by first | omega | exact okD_of (by kernel_rfl)) ?_)
          refine call (turn2_den (el (wB b m) (m + 14)) 19 19 (by omega) (by omega) (by rfl)) [] ?_
          simp only [go_sem, ↓reduceIte, reduceCtorEq, Nat.reduceEqDiff, Nat.reduceAdd, Nat.reduceSub, Nat.reduceMul, Nat.reduceLT, Nat.reduceLeDiff, Int.reduceLT, Int.reduceLE, Int.reduceEq, Int.reduceNe, Int.reduceToNat, Int.reduceAdd, Int.reduceSub, Int.reduceMul, Int.natCast_zero, f1, f2, f3, f4, hw]
          (repeat refine And.intro (by first | omega | exact okD_of (by kernel_rfl)) ?_)
          refine ⟨m + 1, ⟨by omega, by omega⟩, ?_⟩
          exact ⟨by rw [wrapI] <;> omega, rfl⟩
        · have hf : ¬ (((16 + m : Nat) : Int) < 64) := by omega
          have : m = 48 := by omega
          subst this
          generalize hW : wB b 48 = W at *
          have ht8 : h.take 8 = h := by rw [← hh, List.take_length]
          simp only [go_sem, ↓reduceIte, reduceCtorEq, Nat.reduceEqDiff, Nat.reduceAdd, Nat.reduceSub, Nat.reduceMul, Nat.reduceLT, Nat.reduceLeDiff, Int.reduceLT, Int.reduceLE, Int.reduceEq, Int.reduceNe, Int.reduceToNat, Int.reduceAdd, Int.reduceSub, Int.reduceMul, Int.natCast_zero, hf, ht8, hh]
          refine loop Tryz.mixed 0 (fun j : Nat => [(0, .ptr 1000000 0), (2, .ptr 1000001 0), (6, .ptr 6 0), (8, .fn 91 []), (12, .ptr 12 0), (106, .int .i64 j)]) (fun j => [(6, .cells (W.map c4)), (12, .cells ((rnds h k W j).map c4)), (1000000, .cells (h.map c4)), (1000001, .cells (k.map c4))]) (fun j => j ≤ 64) (fun j => 64 - j) (by kernel_rfl) ?_ ?_ ?_
          · simp
          · simp only [go_sem, ↓reduceIte, reduceCtorEq, Nat.reduceEqDiff, Nat.reduceAdd, Nat.reduceSub, Nat.reduceMul, Nat.reduceLT, Nat.reduceLeDiff, Int.reduceLT, Int.reduceLE, Int.reduceEq, Int.reduceNe, Int.reduceToNat, Int.reduceAdd, Int.reduceSub, Int.reduceMul, Int.natCast_zero, rnds]
          · intro j hj
            have hv := rnds_len (k := k) (w := W) hh j
            by_cases hj' : j < 64
            · have hR : rnds h k W (j + 1) = rnd (rnds h k W j) (el k j) (el W j) := rfl
              generalize rnds h k W j = V at *
              simp only [go_sem, ↓reduceIte, reduceCtorEq, Nat.reduceEqDiff, Nat.reduceAdd, Nat.reduceSub, Nat.reduceMul, Nat.reduceLT, Nat.reduceLeDiff, Int.reduceLT, Int.reduceLE, Int.reduceEq, Int.reduceNe, Int.reduceToNat, Int.reduceAdd, Int.reduceSub, Int.reduceMul, Int.natCast_zero, hv, hw, hk]
              refine ⟨fun _ => ?_, fun h => by omega⟩
              (repeat refine And.intro (by first | omega | exact okD_of (by kernel_rfl)) ?_)
              refine call (turn2_den (el V 4) 6 6 (by omega) (by omega) (by rfl)) [] ?_
              simp only [go_sem, ↓reduceIte, reduceCtorEq, Nat.reduceEqDiff, Nat.reduceAdd, Nat.reduceSub, Nat.reduceMul, Nat.reduceLT, Nat.reduceLeDiff, Int.reduceLT, Int.reduceLE, Int.reduceEq, Int.reduceNe, Int.reduceToNat, Int.reduceAdd, Int.reduceSub, Int.reduceMul, Int.natCast_zero, hv, hw, hk]
              refine call (turn2_den (el V 4) 11 11 (by omega) (by omega) (by rfl)) [] ?_
              simp only [go_sem, ↓reduceIte, reduceCtorEq, Nat.reduceEqDiff, Nat.reduceAdd, Nat.reduceSub, Nat.reduceMul, Nat.reduceLT, Nat.reduceLeDiff, Int.reduceLT, Int.reduceLE, Int.reduceEq, Int.reduceNe, Int.reduceToNat, Int.reduceAdd, Int.reduceSub, Int.reduceMul, Int.natCast_zero, hv, hw, hk]
              refine call (turn2_den (el V 4) 25 25 (by omega) (by omega) (by rfl)) [] ?_
              simp only [go_sem, ↓reduceIte, reduceCtorEq, Nat.reduceEqDiff, Nat.reduceAdd, Nat.reduceSub, Nat.reduceMul, Nat.reduceLT, Nat.reduceLeDiff, Int.reduceLT, Int.reduceLE, Int.reduceEq, Int.reduceNe, Int.reduceToNat, Int.reduceAdd, Int.reduceSub, Int.reduceMul, Int.natCast_zero, hv, hw, hk]
              (repeat refine And.intro (by first | omega | exact okD_of (by kernel_rfl)) ?_)
              refine call (turn2_den (el V 0) 2 2 (by omega) (by omega) (by rfl)) [] ?_
              simp only [go_sem, ↓reduceIte, reduceCtorEq, Nat.reduceEqDiff, Nat.reduceAdd, Nat.reduceSub, Nat.reduceMul, Nat.reduceLT, Nat.reduceLeDiff, Int.reduceLT, Int.reduceLE, Int.reduceEq, Int.reduceNe, Int.reduceToNat, Int.reduceAdd, Int.reduceSub, Int.reduceMul, Int.natCast_zero, hv, hw, hk]
              refine call (turn2_den (el V 0) 13 13 (by omega) (by omega) (by rfl)) [] ?_
              simp only [go_sem, ↓reduceIte, reduceCtorEq, Nat.reduceEqDiff, Nat.reduceAdd, Nat.reduceSub, Nat.reduceMul, Nat.reduceLT, Nat.reduceLeDiff, Int.reduceLT, Int.reduceLE, Int.reduceEq, Int.reduceNe, Int.reduceToNat, Int.reduceAdd, Int.reduceSub, Int.reduceMul, Int.natCast_zero, hv, hw, hk]
              refine call (turn2_den (el V 0) 22 22 (by omega) (by omega) (by rfl)) [] ?_
              simp only [go_sem, ↓reduceIte, reduceCtorEq, Nat.reduceEqDiff, Nat.reduceAdd, Nat.reduceSub, Nat.reduceMul, Nat.reduceLT, Nat.reduceLeDiff, Int.reduceLT, Int.reduceLE, Int.reduceEq, Int.reduceNe, Int.reduceToNat, Int.reduceAdd, Int.reduceSub, Int.reduceMul, Int.natCast_zero, hv, hw, hk]
              (repeat refine And.intro (by first | omega | exact okD_of (by kernel_rfl)) ?_)
              refine ⟨j + 1, ⟨by omega, by omega⟩, by rw [wrapI] <;> omega, ?_⟩
              rw [hR, rnd, ad_assoc, List.drop_of_length_le (by omega : V.length ≤ 8)]
              rfl
            · have hf : ¬ ((j : Int) < 64) := by omega
              simp only [go_sem, ↓reduceIte, reduceCtorEq, Nat.reduceEqDiff, Nat.reduceAdd, Nat.reduceSub, Nat.reduceMul, Nat.reduceLT, Nat.reduceLeDiff, Int.reduceLT, Int.reduceLE, Int.reduceEq, Int.reduceNe, Int.reduceToNat, Int.reduceAdd, Int.reduceSub, Int.reduceMul, Int.natCast_zero, hf]
              have : j = 64 := by omega
              subst this
              generalize hV : rnds h k W 64 = V at *
              refine loop Tryz.mixed 0 (fun j : Nat => [(0, .ptr 1000000 0), (12, .ptr 12 0), (196, .int .i64 j)]) (fun j => [(12, .cells (V.map c4)), (1000000, .cells ((fin h V j).map c4)), (1000001, .cells (k.map c4))]) (fun j => j ≤ 8) (fun j => 8 - j) (by kernel_rfl) ?_ ?_ ?_
              · simp
              · simp only [go_sem, ↓reduceIte, reduceCtorEq, Nat.reduceEqDiff, Nat.reduceAdd, Nat.reduceSub, Nat.reduceMul, Nat.reduceLT, Nat.reduceLeDiff, Int.reduceLT, Int.reduceLE, Int.reduceEq, Int.reduceNe, Int.reduceToNat, Int.reduceAdd, Int.reduceSub, Int.reduceMul, Int.natCast_zero, fin]
              · intro j hj
                have hfl := fin_len (h := V) hh j
                by_cases hj' : j < 8
                · simp only [go_sem, ↓reduceIte, reduceCtorEq, Nat.reduceEqDiff, Nat.reduceAdd, Nat.reduceSub, Nat.reduceMul, Nat.reduceLT, Nat.reduceLeDiff, Int.reduceLT, Int.reduceLE, Int.reduceEq, Int.reduceNe, Int.reduceToNat, Int.reduceAdd, Int.reduceSub, Int.reduceMul, Int.natCast_zero, hfl, hh, hv]
                  refine ⟨fun _ => ?_, fun h => by omega⟩
                  (repeat refine And.intro (by first | omega | exact okD_of (by kernel_rfl)) ?_)
                  exact ⟨j + 1, ⟨by omega, by omega⟩, by rw [wrapI] <;> omega, rfl⟩
                · have hf : ¬ ((j : Int) < 8) := by omega
                  simp only [go_sem, ↓reduceIte, reduceCtorEq, Nat.reduceEqDiff, Nat.reduceAdd, Nat.reduceSub, Nat.reduceMul, Nat.reduceLT, Nat.reduceLeDiff, Int.reduceLT, Int.reduceLE, Int.reduceEq, Int.reduceNe, Int.reduceToNat, Int.reduceAdd, Int.reduceSub, Int.reduceMul, Int.natCast_zero, hf]
                  have : j = 8 := by omega
                  subst this
                  have hs : sblk h b k = fin V h 8 := by rw [← hV, ← hW]; rfl
                  rw [hs, fin_comm hv hh]

end Go.Proofs.Am
