/- Dice. -/
import Derived.Test.YthcphdogfdghkaaGreatB1
set_option linter.unusedSimpArgs false
set_option linter.unusedVariables false
namespace Go.Proofs.Am
open Go Go.RowKit
open Go.Proofs

def mmod (n m : Int) : Int := if m < 1 then 0 else n % m

theorem tmod_emod {n m : Int} (hm : 0 < m) (h : n.tmod m < 0) : n.tmod m + m = n % m := by
  have h1 := Int.lt_tmod_of_pos n (b := m) hm
  have e1 := Int.mul_tdiv_add_tmod n m
  have e : n = (n.tmod m + m) + m * (n.tdiv m - 1) := by rw [Int.mul_sub]; omega
  conv => rhs; rw [e]
  rw [Int.add_mul_emod_self_left]
  exact (Int.emod_eq_of_lt (by omega) (by omega)).symm
theorem tmod_emod' {n m : Int} (hm : 0 < m) (h : ¬ n.tmod m < 0) : n.tmod m = n % m := by
  have h1 := Int.tmod_lt_of_pos n (b := m) hm
  have e1 := Int.mul_tdiv_add_tmod n m
  have e : n = n.tmod m + m * (n.tdiv m) := by omega
  conv => rhs; rw [e]
  rw [Int.add_mul_emod_self_left]
  exact (Int.emod_eq_of_lt (by omega) (by omega)).symm

theorem mod24 (n m : Int) (hm : m < 9223372036854775808) : Den Tryz.prog 23 [.int .i64 n, .int .i64 m] [] (.int .i64 (mmod n m)) [] [] := by
  refine den_of Tryz.mixed Tryz.func23 rfl Tryz.call23 Tryz.ntmps23 (congrArg Array.toList Tryz.results23) (by simp) (by kernel_rfl) [] (exts := []) rfl rfl ?_
  simp only [go_sem, ↓reduceIte, reduceCtorEq, Nat.reduceEqDiff, Nat.reduceAdd, Nat.reduceSub, Nat.reduceMul, Nat.reduceLT, Nat.reduceLeDiff, Int.reduceLT, Int.reduceLE, Int.reduceEq, Int.reduceNe, Int.reduceToNat, Int.reduceAdd, Int.reduceSub, Int.reduceMul, Int.natCast_zero]
  refine ⟨fun h => ?_, fun h => ⟨by omega, fun h' => ?_, fun h' => ?_⟩⟩
  · simp [mmod, h]
  · have h2 := Int.lt_tmod_of_pos n (b := m) (by omega)
    rw [wrapI (by omega) (by omega)]
    simp only [mmod, if_neg h]
    exact tmod_emod (by omega) h'
  · simp only [mmod, if_neg h]
    exact tmod_emod' (by omega) h'

/-- The next number, and how many have been given out then. -/
def dnext (l : List Int) (p : Nat) (n : Int) : Int := if p < l.length then mmod (el l p) n else 0
def dpos (l : List Int) (p : Nat) : Nat := if p < l.length then p + 1 else p
abbrev dbox (l : List Int) (p : Nat) : Box := .cells [.vs (l.map i1), .int .i64 p]

theorem next_den (l : List Int) (p : Nat) (n : Int) (hl : big l.length) (hp : p ≤ l.length) (hn : n < 9223372036854775808) : Den Tryz.prog 8 [.ptr 1000000 0, .int .i64 n] [dbox l p] (.int .i64 (dnext l p n)) [] [dbox l (dpos l p)] := by
  refine den_of Tryz.mixed Tryz.func8 rfl Tryz.call8 Tryz.ntmps8 (congrArg Array.toList Tryz.results8) (by simp) (by kernel_rfl) [] (exts := [1000000]) rfl rfl ?_
  simp only [go_sem, ↓reduceIte, reduceCtorEq, Nat.reduceEqDiff, Nat.reduceAdd, Nat.reduceSub, Nat.reduceMul, Nat.reduceLT, Nat.reduceLeDiff, Int.reduceLT, Int.reduceLE, Int.reduceEq, Int.reduceNe, Int.reduceToNat, Int.reduceAdd, Int.reduceSub, Int.reduceMul, Int.natCast_zero]
  refine ⟨okD_of (by kernel_rfl), fun h => ?_, fun h => ?_⟩
  · have : ¬ p < l.length := by omega
    simp [dpos, dnext, this]
  · have e1 : IntKind.i64.wrap ((p : Int) + 1) = (p : Int) + 1 := wrapI (by omega) (by omega)
    have e2 : IntKind.i64.wrap ((p : Int) + 1 - 1) = (p : Int) := by rw [wrapI] <;> omega
    simp only [e1, e2]
    refine ⟨by omega, call (mod24 (el l (p : Int).toNat) n hn) [] ?_⟩
    simp only [go_sem, ↓reduceIte, reduceCtorEq, Nat.reduceEqDiff, Nat.reduceAdd, Nat.reduceSub, Nat.reduceMul, Nat.reduceLT, Nat.reduceLeDiff, Int.reduceLT, Int.reduceLE, Int.reduceEq, Int.reduceNe, Int.reduceToNat, Int.reduceAdd, Int.reduceSub, Int.reduceMul, Int.natCast_zero]
    have hp : p < l.length := by omega
    refine ⟨okD_of (by kernel_rfl), ?_, ?_⟩
    · simp [dpos, hp]
    · simp [dnext, hp]

theorem dpos_le {l : List Int} {p : Nat} (h : p ≤ l.length) : dpos l p ≤ l.length := by unfold dpos; split <;> omega
theorem mmod_lt {n m : Int} (h : 0 < m) : 0 ≤ mmod n m ∧ mmod n m < m := by
  unfold mmod
  rw [if_neg (by omega)]
  exact ⟨Int.emod_nonneg _ (by omega), Int.emod_lt_of_pos _ h⟩
theorem dnext_lt {l : List Int} {p : Nat} {n : Int} (h : 0 < n) : 0 ≤ dnext l p n ∧ dnext l p n < n := by
  unfold dnext
  split
  · exact mmod_lt h
  · omega

theorem one_den (l : List Int) (p : Nat) (n : Int) (hl : big l.length) (hp : p ≤ l.length) (h0 : 0 < n) (hn : n < 9223372036854775808) : Den Tryz.prog 19 [.ptr 1000000 0, .int .i64 n] [dbox l p] (.bool (decide (dnext l p n = n - 1))) [] [dbox l (dpos l p)] := by
  refine den_of Tryz.mixed Tryz.func19 rfl Tryz.call19 Tryz.ntmps19 (congrArg Array.toList Tryz.results19) (by simp) (by kernel_rfl) [] (exts := [1000000]) rfl rfl ?_
  simp only [go_sem, ↓reduceIte, reduceCtorEq, Nat.reduceEqDiff, Nat.reduceAdd, Nat.reduceSub, Nat.reduceMul, Nat.reduceLT, Nat.reduceLeDiff, Int.reduceLT, Int.reduceLE, Int.reduceEq, Int.reduceNe, Int.reduceToNat, Int.reduceAdd, Int.reduceSub, Int.reduceMul, Int.natCast_zero]
  refine call (next_den l p n hl hp hn) [1000000] ?_
  simp only [go_sem, ↓reduceIte, reduceCtorEq, Nat.reduceEqDiff, Nat.reduceAdd, Nat.reduceSub, Nat.reduceMul, Nat.reduceLT, Nat.reduceLeDiff, Int.reduceLT, Int.reduceLE, Int.reduceEq, Int.reduceNe, Int.reduceToNat, Int.reduceAdd, Int.reduceSub, Int.reduceMul, Int.natCast_zero]
  rw [wrapI (by omega) (by omega)]

theorem of_den (l : List Int) (p : Nat) (xs : List Int) (hl : big l.length) (hp : p ≤ l.length) (hx : 0 < xs.length) (hxb : big xs.length) : Den Tryz.prog 31 [.ptr 1000000 0, .vs (xs.map i1)] [dbox l p] (.int .i64 (el xs (dnext l p xs.length).toNat)) [] [dbox l (dpos l p)] := by
  refine den_of Tryz.mixed Tryz.func31 rfl Tryz.call31 Tryz.ntmps31 (congrArg Array.toList Tryz.results31) (by simp) (by kernel_rfl) [] (exts := [1000000]) rfl rfl ?_
  simp only [go_sem, ↓reduceIte, reduceCtorEq, Nat.reduceEqDiff, Nat.reduceAdd, Nat.reduceSub, Nat.reduceMul, Nat.reduceLT, Nat.reduceLeDiff, Int.reduceLT, Int.reduceLE, Int.reduceEq, Int.reduceNe, Int.reduceToNat, Int.reduceAdd, Int.reduceSub, Int.reduceMul, Int.natCast_zero]
  refine call (next_den l p xs.length hl hp (by omega)) [1000000] ?_
  simp only [go_sem, ↓reduceIte, reduceCtorEq, Nat.reduceEqDiff, Nat.reduceAdd, Nat.reduceSub, Nat.reduceMul, Nat.reduceLT, Nat.reduceLeDiff, Int.reduceLT, Int.reduceLE, Int.reduceEq, Int.reduceNe, Int.reduceToNat, Int.reduceAdd, Int.reduceSub, Int.reduceMul, Int.natCast_zero]
  have := dnext_lt (l := l) (p := p) (n := xs.length) (by omega)
  omega

theorem roll23 (l : List Int) : Den Tryz.prog 14 [.vs (l.map i1)] [] (.ptr 0 0) [dbox l 0] [] := by
  refine den_of Tryz.mixed Tryz.func14 rfl Tryz.call14 Tryz.ntmps14 (congrArg Array.toList Tryz.results14) (by simp) (by kernel_rfl) [5] (exts := []) rfl rfl ?_
  simp only [go_sem, ↓reduceIte, reduceCtorEq, Nat.reduceEqDiff, Nat.reduceAdd, Nat.reduceSub, Nat.reduceMul, Nat.reduceLT, Nat.reduceLeDiff, Int.reduceLT, Int.reduceLE, Int.reduceEq, Int.reduceNe, Int.reduceToNat, Int.reduceAdd, Int.reduceSub, Int.reduceMul, Int.natCast_zero]


theorem roll9 (l : List Int) : Den Tryz.prog 6 [.vs (l.map i1)] [] (.ptr 0 0) [dbox l 0] [] := by
  refine den_of Tryz.mixed Tryz.func6 rfl Tryz.call6 Tryz.ntmps6 (congrArg Array.toList Tryz.results6) (by simp) (by kernel_rfl) [4] (exts := []) rfl rfl ?_
  simp only [go_sem, ↓reduceIte, reduceCtorEq, Nat.reduceEqDiff, Nat.reduceAdd, Nat.reduceSub, Nat.reduceMul, Nat.reduceLT, Nat.reduceLeDiff, Int.reduceLT, Int.reduceLE, Int.reduceEq, Int.reduceNe, Int.reduceToNat, Int.reduceAdd, Int.reduceSub, Int.reduceMul, Int.natCast_zero]
  refine call (roll23 l) [] ?_
  simp only [go_sem, ↓reduceIte, reduceCtorEq, Nat.reduceEqDiff, Nat.reduceAdd, Nat.reduceSub, Nat.reduceMul, Nat.reduceLT, Nat.reduceLeDiff, Int.reduceLT, Int.reduceLE, Int.reduceEq, Int.reduceNe, Int.reduceToNat, Int.reduceAdd, Int.reduceSub, Int.reduceMul, Int.natCast_zero]

/-- Dice.Some: which numbers come, and how far the dice are then. -/
def dsome (l : List Int) : Nat → Nat → Nat → List Int
  | 0, _, _ => []
  | n + 1, i, p => (if dnext l p 3 = 0 then [(i : Int)] else []) ++ dsome l n (i + 1) (dpos l p)
def dskip (l : List Int) : Nat → Nat → Nat
  | 0, p => p
  | n + 1, p => dskip l n (dpos l p)

end Go.Proofs.Am
