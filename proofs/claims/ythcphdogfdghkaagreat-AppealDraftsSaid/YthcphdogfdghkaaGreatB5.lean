/- Numbers and strings as bytes. -/
import Derived.Test.YthcphdogfdghkaaGreatB4
set_option linter.unusedSimpArgs false
set_option linter.unusedVariables false
namespace Go.Proofs.Am
open Go Go.RowKit
open Go.Proofs

/-- The byte of a number from bit j on. -/
def bAt (v : Int) (j : Nat) : UInt8 := UInt8.ofNat ((v / (2 : Int) ^ j) % 256).toNat
def be8 (v : Int) : List UInt8 := [bAt v 56, bAt v 48, bAt v 40, bAt v 32, bAt v 24, bAt v 16, bAt v 8, bAt v 0]

theorem bAt_toNat (v : Int) (j : Nat) : ((bAt v j).toNat : Int) = (v / (2 : Int) ^ j) % 256 := by
  have h1 := Int.emod_nonneg (v / (2 : Int) ^ j) (b := 256) (by omega)
  have h2 := Int.emod_lt_of_pos (v / (2 : Int) ^ j) (b := 256) (by omega)
  simp only [bAt]
  rw [UInt8.toNat_ofNat']
  omega

theorem wrapB (v : Int) (j : Nat) : IntKind.u8.wrap (v.fdiv ((2 : Int) ^ j)) = ((bAt v j).toNat : Int) := by
  have h : (0 : Int) ≤ (2 : Int) ^ j := Int.pow_nonneg (by omega)
  rw [IntKind.wrap_u8, bAt_toNat, Int.fdiv_eq_ediv_of_nonneg _ h]

theorem wrapB64 (v : Int) (j : Nat) (hj : j ≤ 56) : IntKind.u8.wrap ((IntKind.u64.wrap v).fdiv ((2 : Int) ^ j)) = ((bAt v j).toNat : Int) := by
  have h : (0 : Int) < (2 : Int) ^ j := Int.pow_pos (by omega)
  rw [IntKind.wrap_u8, bAt_toNat, Int.fdiv_eq_ediv_of_nonneg _ (by omega), IntKind.wrap_u64]
  have e64 : (18446744073709551616 : Int) = (2 : Int) ^ j * (256 * (2 : Int) ^ (56 - j)) := by
    rw [show (256 : Int) = 2 ^ 8 by rfl, ← Int.pow_add, ← Int.pow_add]
    have : j + (8 + (56 - j)) = 64 := by omega
    rw [this]
    rfl
  have e1 : v = (v % 18446744073709551616) + (2 : Int) ^ j * (256 * (2 : Int) ^ (56 - j)) * (v / 18446744073709551616) := by
    rw [← e64]
    have := Int.emod_add_mul_ediv v 18446744073709551616
    omega
  generalize v % 18446744073709551616 = r at *
  generalize v / 18446744073709551616 = q at *
  rw [e1, Int.mul_assoc, Int.add_mul_ediv_left _ _ (by omega), Int.mul_assoc, Int.add_mul_emod_self_left]

abbrev small (n : Nat) : Prop := n ≤ 1000000000000

theorem put_den (bs : List UInt8) (v : Int) (hb : small bs.length) : Den Tryz.prog 93 [.os 1000000 bs.length, .int .i64 v] [.arr 5 1 false (bs.map u8)] (.os 1000000 (bs ++ be8 v).length) [] [.arr 5 1 false ((bs ++ be8 v).map u8)] := by
  refine den_of Tryz.mixed Tryz.func93 rfl Tryz.call93 Tryz.ntmps93 (congrArg Array.toList Tryz.results93) (by simp) (by kernel_rfl) [] (exts := [1000000]) rfl rfl ?_
  simp only [go_sem, ↓reduceIte, reduceCtorEq, Nat.reduceEqDiff, Nat.reduceAdd, Nat.reduceSub, Nat.reduceMul, Nat.reduceLT, Nat.reduceLeDiff, Int.reduceLT, Int.reduceLE, Int.reduceEq, Int.reduceNe, Int.reduceToNat, Int.reduceAdd, Int.reduceSub, Int.reduceMul, Int.natCast_zero]
  refine loop Tryz.mixed 0 (fun m : Nat => [(0, .os 1000000 (bs ++ (be8 v).take m).length), (1, .int .i64 v), (5, .int .i64 (56 - 8 * (m : Int)))]) (fun m => [(1000000, .arr 5 1 false ((bs ++ (be8 v).take m).map u8))]) (fun m => m ≤ 8) (fun m => 8 - m) (by kernel_rfl) ?_ ?_ ?_
  · simp
  · simp only [go_sem, ↓reduceIte, reduceCtorEq, Nat.reduceEqDiff, Nat.reduceAdd, Nat.reduceSub, Nat.reduceMul, Nat.reduceLT, Nat.reduceLeDiff, Int.reduceLT, Int.reduceLE, Int.reduceEq, Int.reduceNe, Int.reduceToNat, Int.reduceAdd, Int.reduceSub, Int.reduceMul, Int.natCast_zero]
  · intro m hm
    have hl : ((be8 v).take m).length = m := by simp [be8]; omega
    simp only [go_sem, ↓reduceIte, reduceCtorEq, Nat.reduceEqDiff, Nat.reduceAdd, Nat.reduceSub, Nat.reduceMul, Nat.reduceLT, Nat.reduceLeDiff, Int.reduceLT, Int.reduceLE, Int.reduceEq, Int.reduceNe, Int.reduceToNat, Int.reduceAdd, Int.reduceSub, Int.reduceMul, Int.natCast_zero]
    rw [hl]
    have e1 : m < 8 → IntKind.u64.wrap (56 - 8 * (m : Int)) = ((56 - 8 * m : Nat) : Int) := fun h => by rw [IntKind.wrap_u64]; omega
    refine ⟨fun h => ⟨by rw [e1] <;> omega, by omega, m + 1, ⟨by omega, by omega⟩, ?_⟩, fun h => ?_⟩
    · have e0 : (be8 v).take (m + 1) = (be8 v).take m ++ [bAt v (56 - 8 * m)] := by
        have : m = 0 ∨ m = 1 ∨ m = 2 ∨ m = 3 ∨ m = 4 ∨ m = 5 ∨ m = 6 ∨ m = 7 := by omega
        rcases this with rfl | rfl | rfl | rfl | rfl | rfl | rfl | rfl <;> rfl
      have e1 := e1 (by omega)
      have e2 : min (56 - 8 * m) 64 = 56 - 8 * m := by omega
      simp only [e0, e1, Int.toNat_natCast, e2]
      rw [wrapB64 _ _ (by omega)]
      simp only [go_sem, ↓reduceIte, reduceCtorEq, Nat.reduceEqDiff, Nat.reduceAdd, Nat.reduceSub, Nat.reduceMul, Nat.reduceLT, Nat.reduceLeDiff, Int.reduceLT, Int.reduceLE, Int.reduceEq, Int.reduceNe, Int.reduceToNat, Int.reduceAdd, Int.reduceSub, Int.reduceMul, Int.natCast_zero, List.map_append]
      refine ⟨⟨by omega, ?_⟩, ?_⟩
      · rw [wrapI] <;> omega
      · simp
    · have : m = 8 := by omega
      subst this
      simp [be8]

theorem be8_len (v : Int) : (be8 v).length = 8 := rfl
/-- slices.Clone -/
theorem clone_den (bs : List UInt8) (hb : small bs.length) : Den Tryz.prog 94 [.vs (bs.map u8)] [] (.os 0 bs.length) [.arr 5 1 false (bs.map u8)] [] := by
  cases bs with
  | nil =>
    refine den_split [] fun b => ?_
    refine den_ofX Tryz.mixed Tryz.func94 rfl Tryz.call94 Tryz.ntmps94 (congrArg Array.toList Tryz.results94) (by simp) (by kernel_rfl) (exts := []) rfl rfl ?_
    simp only [go_sem, ↓reduceIte, reduceCtorEq, Nat.reduceEqDiff, Nat.reduceAdd, Nat.reduceSub, Nat.reduceMul, Nat.reduceLT, Nat.reduceLeDiff, Int.reduceLT, Int.reduceLE, Int.reduceEq, Int.reduceNe, Int.reduceToNat, Int.reduceAdd, Int.reduceSub, Int.reduceMul, Int.natCast_zero]
    refine ⟨fun h => retX_of [(2, 99, 5, 1)] [99] ?_ ?_, fun h => retX_of [] [5] ?_ ?_⟩
    · simp only [go_sem, ↓reduceIte, reduceCtorEq, Nat.reduceEqDiff, Nat.reduceAdd, Nat.reduceSub, Nat.reduceMul, Nat.reduceLT, Nat.reduceLeDiff, Int.reduceLT, Int.reduceLE, Int.reduceEq, Int.reduceNe, Int.reduceToNat, Int.reduceAdd, Int.reduceSub, Int.reduceMul, Int.natCast_zero]
    · simp only [go_sem, ↓reduceIte, reduceCtorEq, Nat.reduceEqDiff, Nat.reduceAdd, Nat.reduceSub, Nat.reduceMul, Nat.reduceLT, Nat.reduceLeDiff, Int.reduceLT, Int.reduceLE, Int.reduceEq, Int.reduceNe, Int.reduceToNat, Int.reduceAdd, Int.reduceSub, Int.reduceMul, Int.natCast_zero]
    · simp only [go_sem, ↓reduceIte, reduceCtorEq, Nat.reduceEqDiff, Nat.reduceAdd, Nat.reduceSub, Nat.reduceMul, Nat.reduceLT, Nat.reduceLeDiff, Int.reduceLT, Int.reduceLE, Int.reduceEq, Int.reduceNe, Int.reduceToNat, Int.reduceAdd, Int.reduceSub, Int.reduceMul, Int.natCast_zero]
    · simp only [go_sem, ↓reduceIte, reduceCtorEq, Nat.reduceEqDiff, Nat.reduceAdd, Nat.reduceSub, Nat.reduceMul, Nat.reduceLT, Nat.reduceLeDiff, Int.reduceLT, Int.reduceLE, Int.reduceEq, Int.reduceNe, Int.reduceToNat, Int.reduceAdd, Int.reduceSub, Int.reduceMul, Int.natCast_zero]
  | cons c bs =>
    refine den_ofX Tryz.mixed Tryz.func94 rfl Tryz.call94 Tryz.ntmps94 (congrArg Array.toList Tryz.results94) (by simp) (by kernel_rfl) (exts := []) rfl rfl ?_
    have hb' : small (bs.length + 1) := by simpa using hb
    simp only [go_sem, ↓reduceIte, reduceCtorEq, Nat.reduceEqDiff, Nat.reduceAdd, Nat.reduceSub, Nat.reduceMul, Nat.reduceLT, Nat.reduceLeDiff, Int.reduceLT, Int.reduceLE, Int.reduceEq, Int.reduceNe, Int.reduceToNat, Int.reduceAdd, Int.reduceSub, Int.reduceMul, Int.natCast_zero, Nat.zero_lt_succ, List.mem_map, List.forall_mem_cons]
    refine ⟨?_, by omega, retX_of [] [5] ?_ ?_⟩
    · rintro y (rfl | ⟨a, _, rfl⟩) <;> rfl
    · simp only [go_sem, ↓reduceIte, reduceCtorEq, Nat.reduceEqDiff, Nat.reduceAdd, Nat.reduceSub, Nat.reduceMul, Nat.reduceLT, Nat.reduceLeDiff, Int.reduceLT, Int.reduceLE, Int.reduceEq, Int.reduceNe, Int.reduceToNat, Int.reduceAdd, Int.reduceSub, Int.reduceMul, Int.natCast_zero]
    · simp only [go_sem, ↓reduceIte, reduceCtorEq, Nat.reduceEqDiff, Nat.reduceAdd, Nat.reduceSub, Nat.reduceMul, Nat.reduceLT, Nat.reduceLeDiff, Int.reduceLT, Int.reduceLE, Int.reduceEq, Int.reduceNe, Int.reduceToNat, Int.reduceAdd, Int.reduceSub, Int.reduceMul, Int.natCast_zero]

theorem wint_den (bs : List UInt8) (v : Int) (hb : small bs.length) : Den Tryz.prog 80 [.vs (bs.map u8), .int .i64 v] [] (.os 0 (bs ++ be8 v).length) [.arr 5 1 false ((bs ++ be8 v).map u8)] [] := by
  refine den_of Tryz.mixed Tryz.func80 rfl Tryz.call80 Tryz.ntmps80 (congrArg Array.toList Tryz.results80) (by simp) (by kernel_rfl) [6] (exts := []) rfl rfl ?_
  simp only [go_sem, ↓reduceIte, reduceCtorEq, Nat.reduceEqDiff, Nat.reduceAdd, Nat.reduceSub, Nat.reduceMul, Nat.reduceLT, Nat.reduceLeDiff, Int.reduceLT, Int.reduceLE, Int.reduceEq, Int.reduceNe, Int.reduceToNat, Int.reduceAdd, Int.reduceSub, Int.reduceMul, Int.natCast_zero]
  refine call (clone_den bs hb) [] ?_
  simp only [go_sem, ↓reduceIte, reduceCtorEq, Nat.reduceEqDiff, Nat.reduceAdd, Nat.reduceSub, Nat.reduceMul, Nat.reduceLT, Nat.reduceLeDiff, Int.reduceLT, Int.reduceLE, Int.reduceEq, Int.reduceNe, Int.reduceToNat, Int.reduceAdd, Int.reduceSub, Int.reduceMul, Int.natCast_zero]
  refine call (put_den bs v hb) [6] ?_
  simp only [go_sem, ↓reduceIte, reduceCtorEq, Nat.reduceEqDiff, Nat.reduceAdd, Nat.reduceSub, Nat.reduceMul, Nat.reduceLT, Nat.reduceLeDiff, Int.reduceLT, Int.reduceLE, Int.reduceEq, Int.reduceNe, Int.reduceToNat, Int.reduceAdd, Int.reduceSub, Int.reduceMul, Int.natCast_zero]
  omega

theorem wtext_den (bs : List UInt8) (s : List UInt8) (hb : small bs.length) (hs : small s.length) : Den Tryz.prog 81 [.vs (bs.map u8), .str s] [] (.os 0 (bs ++ (be8 s.length ++ s)).length) [.arr 5 1 false ((bs ++ (be8 s.length ++ s)).map u8)] [] := by
  refine den_of Tryz.mixed Tryz.func81 rfl Tryz.call81 Tryz.ntmps81 (congrArg Array.toList Tryz.results81) (by simp) (by kernel_rfl) [8] (exts := []) rfl rfl ?_
  simp only [go_sem, ↓reduceIte, reduceCtorEq, Nat.reduceEqDiff, Nat.reduceAdd, Nat.reduceSub, Nat.reduceMul, Nat.reduceLT, Nat.reduceLeDiff, Int.reduceLT, Int.reduceLE, Int.reduceEq, Int.reduceNe, Int.reduceToNat, Int.reduceAdd, Int.reduceSub, Int.reduceMul, Int.natCast_zero]
  refine call (wint_den bs s.length hb) [] ?_
  simp only [go_sem, ↓reduceIte, reduceCtorEq, Nat.reduceEqDiff, Nat.reduceAdd, Nat.reduceSub, Nat.reduceMul, Nat.reduceLT, Nat.reduceLeDiff, Int.reduceLT, Int.reduceLE, Int.reduceEq, Int.reduceNe, Int.reduceToNat, Int.reduceAdd, Int.reduceSub, Int.reduceMul, Int.natCast_zero, be8_len, List.append_assoc, List.map_append]
  omega

/-- A list of numbers as bytes. -/
def beL (l : List Int) : List UInt8 := l.flatMap be8
theorem beL_len (l : List Int) : (beL l).length = 8 * l.length := by
  induction l with
  | nil => rfl
  | cons a r ih => simp only [beL, List.flatMap_cons, List.length_append, be8_len, List.length_cons] at *; omega
theorem beL_append (l m : List Int) : beL (l ++ m) = beL l ++ beL m := by simp [beL]
theorem take_el {α : Type} [Inhabited α] {l : List α} {i : Nat} (h : i < l.length) : l.take (i + 1) = l.take i ++ [el l i] := by
  simp [el, List.getD_eq_getElem?_getD, h, List.take_append_getElem]

theorem wints_den (bs : List UInt8) (l : List Int) (hb : bs.length ≤ 1000000000) (hl : l.length ≤ 1000000000) : Den Tryz.prog 82 [.vs (bs.map u8), .vs (l.map i1)] [] (.os 0 (bs ++ (be8 l.length ++ beL l)).length) [.arr 5 1 false ((bs ++ (be8 l.length ++ beL l)).map u8)] [] := by
  refine den_of Tryz.mixed Tryz.func82 rfl Tryz.call82 Tryz.ntmps82 (congrArg Array.toList Tryz.results82) (by simp) (by kernel_rfl) [11] (exts := []) rfl rfl ?_
  simp only [go_sem, ↓reduceIte, reduceCtorEq, Nat.reduceEqDiff, Nat.reduceAdd, Nat.reduceSub, Nat.reduceMul, Nat.reduceLT, Nat.reduceLeDiff, Int.reduceLT, Int.reduceLE, Int.reduceEq, Int.reduceNe, Int.reduceToNat, Int.reduceAdd, Int.reduceSub, Int.reduceMul, Int.natCast_zero]
  refine call (wint_den bs l.length (by simp only [small]; omega)) [] ?_
  simp only [go_sem, ↓reduceIte, reduceCtorEq, Nat.reduceEqDiff, Nat.reduceAdd, Nat.reduceSub, Nat.reduceMul, Nat.reduceLT, Nat.reduceLeDiff, Int.reduceLT, Int.reduceLE, Int.reduceEq, Int.reduceNe, Int.reduceToNat, Int.reduceAdd, Int.reduceSub, Int.reduceMul, Int.natCast_zero]
  refine loop Tryz.mixed 0 (fun i : Nat => [(1, .vs (l.map i1)), (5, .os 11 (bs ++ (be8 l.length ++ beL (l.take i))).length), (12, .vs (l.map i1)), (13, .int .i64 l.length), (14, .int .i64 i)]) (fun i => [(11, .arr 5 1 false ((bs ++ (be8 l.length ++ beL (l.take i))).map u8))]) (fun i => i ≤ l.length) (fun i => l.length - i) (by kernel_rfl) ?_ ?_ ?_
  · simp
  · simp only [go_sem, ↓reduceIte, reduceCtorEq, Nat.reduceEqDiff, Nat.reduceAdd, Nat.reduceSub, Nat.reduceMul, Nat.reduceLT, Nat.reduceLeDiff, Int.reduceLT, Int.reduceLE, Int.reduceEq, Int.reduceNe, Int.reduceToNat, Int.reduceAdd, Int.reduceSub, Int.reduceMul, Int.natCast_zero, List.take_zero, beL, List.flatMap_nil]
  · intro i hi
    have hti : (l.take i).length = i := by simp; omega
    simp only [go_sem, ↓reduceIte, reduceCtorEq, Nat.reduceEqDiff, Nat.reduceAdd, Nat.reduceSub, Nat.reduceMul, Nat.reduceLT, Nat.reduceLeDiff, Int.reduceLT, Int.reduceLE, Int.reduceEq, Int.reduceNe, Int.reduceToNat, Int.reduceAdd, Int.reduceSub, Int.reduceMul, Int.natCast_zero]
    refine ⟨fun h => ⟨by omega, call (put_den (bs ++ (be8 l.length ++ beL (l.take i))) (el l i) (by simp only [small, List.length_append, be8_len, beL_len, hti]; omega)) [11] ?_⟩, fun h => ?_⟩
    · simp only [go_sem, ↓reduceIte, reduceCtorEq, Nat.reduceEqDiff, Nat.reduceAdd, Nat.reduceSub, Nat.reduceMul, Nat.reduceLT, Nat.reduceLeDiff, Int.reduceLT, Int.reduceLE, Int.reduceEq, Int.reduceNe, Int.reduceToNat, Int.reduceAdd, Int.reduceSub, Int.reduceMul, Int.natCast_zero]
      refine ⟨?_, i + 1, ⟨by omega, by omega⟩, ?_⟩
      · omega
      · rw [take_el h, beL_append]
        simp only [go_sem, ↓reduceIte, reduceCtorEq, Nat.reduceEqDiff, Nat.reduceAdd, Nat.reduceSub, Nat.reduceMul, Nat.reduceLT, Nat.reduceLeDiff, Int.reduceLT, Int.reduceLE, Int.reduceEq, Int.reduceNe, Int.reduceToNat, Int.reduceAdd, Int.reduceSub, Int.reduceMul, Int.natCast_zero, List.map_append, List.append_assoc, beL, List.flatMap_cons, List.flatMap_nil]
        refine ⟨by omega, ?_⟩
        rw [wrapI] <;> omega
    · have : i = l.length := by omega
      subst this
      simp only [go_sem, ↓reduceIte, reduceCtorEq, Nat.reduceEqDiff, Nat.reduceAdd, Nat.reduceSub, Nat.reduceMul, Nat.reduceLT, Nat.reduceLeDiff, Int.reduceLT, Int.reduceLE, Int.reduceEq, Int.reduceNe, Int.reduceToNat, Int.reduceAdd, Int.reduceSub, Int.reduceMul, Int.natCast_zero, List.take_length]

/-! ### The reference -/
theorem rint_den (bs : List UInt8) (v : Int) (hb : small bs.length) : Den Tryz.prog 76 [.vs (bs.map u8), .int .i64 v] [] (.os 0 (bs ++ be8 v).length) [.arr 5 1 false ((bs ++ be8 v).map u8)] [] := by
  refine den_of Tryz.mixed Tryz.func76 rfl Tryz.call76 Tryz.ntmps76 (congrArg Array.toList Tryz.results76) (by simp) (by kernel_rfl) [8] (exts := []) rfl rfl ?_
  simp only [go_sem, ↓reduceIte, reduceCtorEq, Nat.reduceEqDiff, Nat.reduceAdd, Nat.reduceSub, Nat.reduceMul, Nat.reduceLT, Nat.reduceLeDiff, Int.reduceLT, Int.reduceLE, Int.reduceEq, Int.reduceNe, Int.reduceToNat, Int.reduceAdd, Int.reduceSub, Int.reduceMul, Int.natCast_zero]
  refine ⟨by omega, ?_⟩
  refine loop Tryz.mixed 0 (fun m : Nat => [(1, .int .i64 v), (5, .os 8 (bs ++ (be8 v).take m).length), (6, .int .i64 (7 - (m : Int)))]) (fun m => [(8, .arr 5 1 false ((bs ++ (be8 v).take m).map u8))]) (fun m => m ≤ 8) (fun m => 8 - m) (by kernel_rfl) ?_ ?_ ?_
  · simp
  · simp only [go_sem, ↓reduceIte, reduceCtorEq, Nat.reduceEqDiff, Nat.reduceAdd, Nat.reduceSub, Nat.reduceMul, Nat.reduceLT, Nat.reduceLeDiff, Int.reduceLT, Int.reduceLE, Int.reduceEq, Int.reduceNe, Int.reduceToNat, Int.reduceAdd, Int.reduceSub, Int.reduceMul, Int.natCast_zero]
  · intro m hm
    have hl : ((be8 v).take m).length = m := by simp [be8]; omega
    simp only [go_sem, ↓reduceIte, reduceCtorEq, Nat.reduceEqDiff, Nat.reduceAdd, Nat.reduceSub, Nat.reduceMul, Nat.reduceLT, Nat.reduceLeDiff, Int.reduceLT, Int.reduceLE, Int.reduceEq, Int.reduceNe, Int.reduceToNat, Int.reduceAdd, Int.reduceSub, Int.reduceMul, Int.natCast_zero]
    rw [hl]
    have e1 : m < 8 → IntKind.u64.wrap (IntKind.i64.wrap (8 * (7 - (m : Int)))) = ((56 - 8 * m : Nat) : Int) := fun h => by rw [wrapI (by omega) (by omega), IntKind.wrap_u64]; omega
    refine ⟨fun h => ⟨by rw [e1] <;> omega, by omega, m + 1, ⟨by omega, by omega⟩, ?_⟩, fun h => ?_⟩
    · have e0 : (be8 v).take (m + 1) = (be8 v).take m ++ [bAt v (56 - 8 * m)] := by
        have : m = 0 ∨ m = 1 ∨ m = 2 ∨ m = 3 ∨ m = 4 ∨ m = 5 ∨ m = 6 ∨ m = 7 := by omega
        rcases this with rfl | rfl | rfl | rfl | rfl | rfl | rfl | rfl <;> rfl
      have e1 := e1 (by omega)
      have e2 : min (56 - 8 * m) 64 = 56 - 8 * m := by omega
      simp only [e0, e1, Int.toNat_natCast, e2]
      rw [wrapB]
      simp only [go_sem, ↓reduceIte, reduceCtorEq, Nat.reduceEqDiff, Nat.reduceAdd, Nat.reduceSub, Nat.reduceMul, Nat.reduceLT, Nat.reduceLeDiff, Int.reduceLT, Int.reduceLE, Int.reduceEq, Int.reduceNe, Int.reduceToNat, Int.reduceAdd, Int.reduceSub, Int.reduceMul, Int.natCast_zero, List.map_append]
      refine ⟨⟨by omega, ?_⟩, ?_⟩
      · rw [wrapI] <;> omega
      · simp
    · have : m = 8 := by omega
      subst this
      simp [be8]

theorem rtext_den (bs : List UInt8) (s : List UInt8) (hb : small bs.length) (hs : small s.length) : Den Tryz.prog 75 [.vs (bs.map u8), .str s] [] (.os 0 (bs ++ (be8 s.length ++ s)).length) [.arr 5 1 false ((bs ++ (be8 s.length ++ s)).map u8)] [] := by
  refine den_of Tryz.mixed Tryz.func75 rfl Tryz.call75 Tryz.ntmps75 (congrArg Array.toList Tryz.results75) (by simp) (by kernel_rfl) [8] (exts := []) rfl rfl ?_
  simp only [go_sem, ↓reduceIte, reduceCtorEq, Nat.reduceEqDiff, Nat.reduceAdd, Nat.reduceSub, Nat.reduceMul, Nat.reduceLT, Nat.reduceLeDiff, Int.reduceLT, Int.reduceLE, Int.reduceEq, Int.reduceNe, Int.reduceToNat, Int.reduceAdd, Int.reduceSub, Int.reduceMul, Int.natCast_zero]
  refine call (rint_den bs s.length hb) [] ?_
  simp only [go_sem, ↓reduceIte, reduceCtorEq, Nat.reduceEqDiff, Nat.reduceAdd, Nat.reduceSub, Nat.reduceMul, Nat.reduceLT, Nat.reduceLeDiff, Int.reduceLT, Int.reduceLE, Int.reduceEq, Int.reduceNe, Int.reduceToNat, Int.reduceAdd, Int.reduceSub, Int.reduceMul, Int.natCast_zero, be8_len, List.append_assoc, List.map_append]
  omega

theorem rints_den (bs : List UInt8) (l : List Int) (hb : bs.length ≤ 1000000000) (hl : l.length ≤ 1000000000) : Den Tryz.prog 77 [.vs (bs.map u8), .vs (l.map i1)] [] (.vs ((bs ++ (be8 l.length ++ beL l)).map u8)) [] [] := by
  refine den_of Tryz.mixed Tryz.func77 rfl Tryz.call77 Tryz.ntmps77 (congrArg Array.toList Tryz.results77) (by simp) (by kernel_rfl) [] (exts := []) rfl rfl ?_
  simp only [go_sem, ↓reduceIte, reduceCtorEq, Nat.reduceEqDiff, Nat.reduceAdd, Nat.reduceSub, Nat.reduceMul, Nat.reduceLT, Nat.reduceLeDiff, Int.reduceLT, Int.reduceLE, Int.reduceEq, Int.reduceNe, Int.reduceToNat, Int.reduceAdd, Int.reduceSub, Int.reduceMul, Int.natCast_zero]
  refine call ((rint_den bs l.length (by simp only [small]; omega)).vs (by simp) trivial rfl) [] ?_
  simp only [go_sem, ↓reduceIte, reduceCtorEq, Nat.reduceEqDiff, Nat.reduceAdd, Nat.reduceSub, Nat.reduceMul, Nat.reduceLT, Nat.reduceLeDiff, Int.reduceLT, Int.reduceLE, Int.reduceEq, Int.reduceNe, Int.reduceToNat, Int.reduceAdd, Int.reduceSub, Int.reduceMul, Int.natCast_zero]
  refine loop Tryz.mixed 0 (fun i : Nat => [(1, .vs (l.map i1)), (5, .vs ((bs ++ (be8 l.length ++ beL (l.take i))).map u8)), (6, .int .i64 i)]) (fun i => []) (fun i => i ≤ l.length) (fun i => l.length - i) (by kernel_rfl) ?_ ?_ ?_
  · simp
  · simp only [go_sem, ↓reduceIte, reduceCtorEq, Nat.reduceEqDiff, Nat.reduceAdd, Nat.reduceSub, Nat.reduceMul, Nat.reduceLT, Nat.reduceLeDiff, Int.reduceLT, Int.reduceLE, Int.reduceEq, Int.reduceNe, Int.reduceToNat, Int.reduceAdd, Int.reduceSub, Int.reduceMul, Int.natCast_zero, List.take_zero, beL, List.flatMap_nil]
  · intro i hi
    have hti : (l.take i).length = i := by simp; omega
    simp only [go_sem, ↓reduceIte, reduceCtorEq, Nat.reduceEqDiff, Nat.reduceAdd, Nat.reduceSub, Nat.reduceMul, Nat.reduceLT, Nat.reduceLeDiff, Int.reduceLT, Int.reduceLE, Int.reduceEq, Int.reduceNe, Int.reduceToNat, Int.reduceAdd, Int.reduceSub, Int.reduceMul, Int.natCast_zero]
    refine ⟨fun h => ⟨by omega, call ((rint_den (bs ++ (be8 l.length ++ beL (l.take i))) (el l i) (by simp only [small, List.length_append, be8_len, beL_len, hti]; omega)).vs (by simp) trivial rfl) [] ?_⟩, fun h => ?_⟩
    · simp only [go_sem, ↓reduceIte, reduceCtorEq, Nat.reduceEqDiff, Nat.reduceAdd, Nat.reduceSub, Nat.reduceMul, Nat.reduceLT, Nat.reduceLeDiff, Int.reduceLT, Int.reduceLE, Int.reduceEq, Int.reduceNe, Int.reduceToNat, Int.reduceAdd, Int.reduceSub, Int.reduceMul, Int.natCast_zero]
      refine ⟨i + 1, ⟨by omega, by omega⟩, ?_⟩
      rw [take_el h, beL_append]
      simp only [go_sem, ↓reduceIte, reduceCtorEq, Nat.reduceEqDiff, Nat.reduceAdd, Nat.reduceSub, Nat.reduceMul, Nat.reduceLT, Nat.reduceLeDiff, Int.reduceLT, Int.reduceLE, Int.reduceEq, Int.reduceNe, Int.reduceToNat, Int.reduceAdd, Int.reduceSub, Int.reduceMul, Int.natCast_zero, List.map_append, List.append_assoc, beL, List.flatMap_cons, List.flatMap_nil]
      rw [wrapI] <;> omega
    · have : i = l.length := by omega
      subst this
      simp only [go_sem, ↓reduceIte, reduceCtorEq, Nat.reduceEqDiff, Nat.reduceAdd, Nat.reduceSub, Nat.reduceMul, Nat.reduceLT, Nat.reduceLeDiff, Int.reduceLT, Int.reduceLE, Int.reduceEq, Int.reduceNe, Int.reduceToNat, Int.reduceAdd, Int.reduceSub, Int.reduceMul, Int.natCast_zero, List.take_length]

end Go.Proofs.Am
