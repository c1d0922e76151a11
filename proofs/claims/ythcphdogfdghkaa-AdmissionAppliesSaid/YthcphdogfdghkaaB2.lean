/- Dice. -/
import Derived.Test.YthcphdogfdghkaaB1
set_option linter.unusedSimpArgs false
set_option linter.unusedVariables false
namespace Go.Proofs.Am
open Go Go.RowKit
open Go.Proofs

def mmod (n m : Int) : Int := if m < 1 then 0 else n % m

theorem tmod_emod {n m : Int} (hm : 0 < m) (h : n.tmod m < 0) : n.tmod m + m = n % m := by
  have h1 := Int.lt_tmod_of_pos n (b := m) hm
  have e1 := Int.mul_tdiv_add_tmod n m
  have e : n = (n.tmod m + m) + m * (n.tdiv m - 1) := by rw [Int.mul_sub]; omega
  conv => rhs; rw [e]
  rw [Int.add_mul_emod_self_left]
  exact (Int.emod_eq_of_lt (by omega) (by omega)).symm
theorem tmod_emod' {n m : Int} (hm : 0 < m) (h : ¬ n.tmod m < 0) : n.tmod m = n % m := by
  have h1 := Int.tmod_lt_of_pos n (b := m) hm
  have e1 := Int.mul_tdiv_add_tmod n m
  have e : n = n.tmod m + m * (n.tdiv m) := by omega
  conv => rhs; rw [e]
  rw [Int.add_mul_emod_self_left]
  exact (Int.emod_eq_of_lt (by omega) (by omega)).symm

theorem mod24 (n m : Int) (hm : m < 9223372036854775808) : Den Try.prog 24 [.int .i64 n, .int .i64 m] [] (.int .i64 (mmod n m)) [] [] := by
  refine den_of Try.mixed Try.func24 rfl Try.call24 Try.ntmps24 (congrArg Array.toList Try.results24) (by simp) (by kernel_rfl) [] (exts := []) rfl rfl ?_
  simp only [go_sem, ↓reduceIte, reduceCtorEq, Nat.reduceEqDiff, Nat.reduceAdd, Nat.reduceSub, Nat.reduceMul, Nat.reduceLT, Nat.reduceLeDiff, Int.reduceLT, Int.reduceLE, Int.reduceEq, Int.reduceNe, Int.reduceToNat, Int.reduceAdd, Int.reduceSub, Int.reduceMul, Int.natCast_zero]
  refine ⟨fun h => ?_, fun h => ⟨by omega, fun h' => ?_, fun h' => ?_⟩⟩
  · simp [mmod, h]
  · have h2 := Int.lt_tmod_of_pos n (b := m) (by omega)
    rw [wrapI (by omega) (by omega)]
    simp only [mmod, if_neg h]
    exact tmod_emod (by omega) h'
  · simp only [mmod, if_neg h]
    exact tmod_emod' (by omega) h'

theorem mmod29 (n m : Int) (hm : m < 9223372036854775808) : Den Try.prog 29 [.int .i64 n, .int .i64 m] [] (.int .i64 (mmod n m)) [] [] := by
  refine den_of Try.mixed Try.func29 rfl Try.call29 Try.ntmps29 (congrArg Array.toList Try.results29) (by simp) (by kernel_rfl) [] (exts := []) rfl rfl ?_
  simp only [go_sem, ↓reduceIte, reduceCtorEq, Nat.reduceEqDiff, Nat.reduceAdd, Nat.reduceSub, Nat.reduceMul, Nat.reduceLT, Nat.reduceLeDiff, Int.reduceLT, Int.reduceLE, Int.reduceEq, Int.reduceNe, Int.reduceToNat, Int.reduceAdd, Int.reduceSub, Int.reduceMul, Int.natCast_zero]
  refine call (mod24 n m hm) [] ?_
  simp only [go_sem, ↓reduceIte, reduceCtorEq, Nat.reduceEqDiff, Nat.reduceAdd, Nat.reduceSub, Nat.reduceMul, Nat.reduceLT, Nat.reduceLeDiff, Int.reduceLT, Int.reduceLE, Int.reduceEq, Int.reduceNe, Int.reduceToNat, Int.reduceAdd, Int.reduceSub, Int.reduceMul, Int.natCast_zero]

/-- The next number, and how many have been given out then. -/
def dnext (l : List Int) (p : Nat) (n : Int) : Int := if p < l.length then mmod (el l p) n else 0
def dpos (l : List Int) (p : Nat) : Nat := if p < l.length then p + 1 else p
abbrev dbox (l : List Int) (p : Nat) : Box := .cells [.vs (l.map i1), .int .i64 p]

theorem next_den (l : List Int) (p : Nat) (n : Int) (hl : big l.length) (hp : p ≤ l.length) (hn : n < 9223372036854775808) : Den Try.prog 11 [.ptr 1000000 0, .int .i64 n] [dbox l p] (.int .i64 (dnext l p n)) [] [dbox l (dpos l p)] := by
  refine den_of Try.mixed Try.func11 rfl Try.call11 Try.ntmps11 (congrArg Array.toList Try.results11) (by simp) (by kernel_rfl) [] (exts := [1000000]) rfl rfl ?_
  simp only [go_sem, ↓reduceIte, reduceCtorEq, Nat.reduceEqDiff, Nat.reduceAdd, Nat.reduceSub, Nat.reduceMul, Nat.reduceLT, Nat.reduceLeDiff, Int.reduceLT, Int.reduceLE, Int.reduceEq, Int.reduceNe, Int.reduceToNat, Int.reduceAdd, Int.reduceSub, Int.reduceMul, Int.natCast_zero]
  refine ⟨okD_of (by kernel_rfl), fun h => ?_, fun h => ?_⟩
  · have : ¬ p < l.length := by omega
    simp [dpos, dnext, this]
  · have e1 : IntKind.i64.wrap ((p : Int) + 1) = (p : Int) + 1 := wrapI (by omega) (by omega)
    have e2 : IntKind.i64.wrap ((p : Int) + 1 - 1) = (p : Int) := by rw [wrapI] <;> omega
    simp only [e1, e2]
    refine ⟨by omega, call (mod24 (el l (p : Int).toNat) n hn) [] ?_⟩
    simp only [go_sem, ↓reduceIte, reduceCtorEq, Nat.reduceEqDiff, Nat.reduceAdd, Nat.reduceSub, Nat.reduceMul, Nat.reduceLT, Nat.reduceLeDiff, Int.reduceLT, Int.reduceLE, Int.reduceEq, Int.reduceNe, Int.reduceToNat, Int.reduceAdd, Int.reduceSub, Int.reduceMul, Int.natCast_zero]
    have hp : p < l.length := by omega
    refine ⟨okD_of (by kernel_rfl), ?_, ?_⟩
    · simp [dpos, hp]
    · simp [dnext, hp]

theorem dpos_le {l : List Int} {p : Nat} (h : p ≤ l.length) : dpos l p ≤ l.length := by unfold dpos; split <;> omega
theorem mmod_lt {n m : Int} (h : 0 < m) : 0 ≤ mmod n m ∧ mmod n m < m := by
  unfold mmod
  rw [if_neg (by omega)]
  exact ⟨Int.emod_nonneg _ (by omega), Int.emod_lt_of_pos _ h⟩
theorem dnext_lt {l : List Int} {p : Nat} {n : Int} (h : 0 < n) : 0 ≤ dnext l p n ∧ dnext l p n < n := by
  unfold dnext
  split
  · exact mmod_lt h
  · omega

theorem one_den (l : List Int) (p : Nat) (n : Int) (hl : big l.length) (hp : p ≤ l.length) (h0 : 0 < n) (hn : n < 9223372036854775808) : Den Try.prog 17 [.ptr 1000000 0, .int .i64 n] [dbox l p] (.bool (decide (dnext l p n = n - 1))) [] [dbox l (dpos l p)] := by
  refine den_of Try.mixed Try.func17 rfl Try.call17 Try.ntmps17 (congrArg Array.toList Try.results17) (by simp) (by kernel_rfl) [] (exts := [1000000]) rfl rfl ?_
  simp only [go_sem, ↓reduceIte, reduceCtorEq, Nat.reduceEqDiff, Nat.reduceAdd, Nat.reduceSub, Nat.reduceMul, Nat.reduceLT, Nat.reduceLeDiff, Int.reduceLT, Int.reduceLE, Int.reduceEq, Int.reduceNe, Int.reduceToNat, Int.reduceAdd, Int.reduceSub, Int.reduceMul, Int.natCast_zero]
  refine call (next_den l p n hl hp hn) [1000000] ?_
  simp only [go_sem, ↓reduceIte, reduceCtorEq, Nat.reduceEqDiff, Nat.reduceAdd, Nat.reduceSub, Nat.reduceMul, Nat.reduceLT, Nat.reduceLeDiff, Int.reduceLT, Int.reduceLE, Int.reduceEq, Int.reduceNe, Int.reduceToNat, Int.reduceAdd, Int.reduceSub, Int.reduceMul, Int.natCast_zero]
  rw [wrapI (by omega) (by omega)]

theorem of_den (l : List Int) (p : Nat) (xs : List Int) (hl : big l.length) (hp : p ≤ l.length) (hx : 0 < xs.length) (hxb : big xs.length) : Den Try.prog 31 [.ptr 1000000 0, .vs (xs.map i1)] [dbox l p] (.int .i64 (el xs (dnext l p xs.length).toNat)) [] [dbox l (dpos l p)] := by
  refine den_of Try.mixed Try.func31 rfl Try.call31 Try.ntmps31 (congrArg Array.toList Try.results31) (by simp) (by kernel_rfl) [] (exts := [1000000]) rfl rfl ?_
  simp only [go_sem, ↓reduceIte, reduceCtorEq, Nat.reduceEqDiff, Nat.reduceAdd, Nat.reduceSub, Nat.reduceMul, Nat.reduceLT, Nat.reduceLeDiff, Int.reduceLT, Int.reduceLE, Int.reduceEq, Int.reduceNe, Int.reduceToNat, Int.reduceAdd, Int.reduceSub, Int.reduceMul, Int.natCast_zero]
  refine call (next_den l p xs.length hl hp (by omega)) [1000000] ?_
  simp only [go_sem, ↓reduceIte, reduceCtorEq, Nat.reduceEqDiff, Nat.reduceAdd, Nat.reduceSub, Nat.reduceMul, Nat.reduceLT, Nat.reduceLeDiff, Int.reduceLT, Int.reduceLE, Int.reduceEq, Int.reduceNe, Int.reduceToNat, Int.reduceAdd, Int.reduceSub, Int.reduceMul, Int.natCast_zero]
  have := dnext_lt (l := l) (p := p) (n := xs.length) (by omega)
  omega

theorem roll23 (l : List Int) : Den Try.prog 23 [.vs (l.map i1)] [] (.ptr 0 0) [dbox l 0] [] := by
  refine den_of Try.mixed Try.func23 rfl Try.call23 Try.ntmps23 (congrArg Array.toList Try.results23) (by simp) (by kernel_rfl) [5] (exts := []) rfl rfl ?_
  simp only [go_sem, ↓reduceIte, reduceCtorEq, Nat.reduceEqDiff, Nat.reduceAdd, Nat.reduceSub, Nat.reduceMul, Nat.reduceLT, Nat.reduceLeDiff, Int.reduceLT, Int.reduceLE, Int.reduceEq, Int.reduceNe, Int.reduceToNat, Int.reduceAdd, Int.reduceSub, Int.reduceMul, Int.natCast_zero]


theorem roll9 (l : List Int) : Den Try.prog 9 [.vs (l.map i1)] [] (.ptr 0 0) [dbox l 0] [] := by
  refine den_of Try.mixed Try.func9 rfl Try.call9 Try.ntmps9 (congrArg Array.toList Try.results9) (by simp) (by kernel_rfl) [4] (exts := []) rfl rfl ?_
  simp only [go_sem, ↓reduceIte, reduceCtorEq, Nat.reduceEqDiff, Nat.reduceAdd, Nat.reduceSub, Nat.reduceMul, Nat.reduceLT, Nat.reduceLeDiff, Int.reduceLT, Int.reduceLE, Int.reduceEq, Int.reduceNe, Int.reduceToNat, Int.reduceAdd, Int.reduceSub, Int.reduceMul, Int.natCast_zero]
  refine call (roll23 l) [] ?_
  simp only [go_sem, ↓reduceIte, reduceCtorEq, Nat.reduceEqDiff, Nat.reduceAdd, Nat.reduceSub, Nat.reduceMul, Nat.reduceLT, Nat.reduceLeDiff, Int.reduceLT, Int.reduceLE, Int.reduceEq, Int.reduceNe, Int.reduceToNat, Int.reduceAdd, Int.reduceSub, Int.reduceMul, Int.natCast_zero]

/-- Dice.Some: which numbers come, and how far the dice are then. -/
def dsome (l : List Int) : Nat → Nat → Nat → List Int
  | 0, _, _ => []
  | n + 1, i, p => (if dnext l p 3 = 0 then [(i : Int)] else []) ++ dsome l n (i + 1) (dpos l p)
def dskip (l : List Int) : Nat → Nat → Nat
  | 0, p => p
  | n + 1, p => dskip l n (dpos l p)

theorem some_den (l : List Int) (p : Nat) (n : Nat) (hl : big l.length) (hp : p ≤ l.length) (hn : n ≤ 1000) : Den Try.prog 10 [.ptr 1000000 0, .int .i64 n] [dbox l p] (.os 0 (dsome l n 0 p).length) [.arr 3 1 false ((dsome l n 0 p).map i1)] [dbox l (dskip l n p)] := by
  refine den_of Try.mixed Try.func10 rfl Try.call10 Try.ntmps10 (congrArg Array.toList Try.results10) (by simp) (by kernel_rfl) [99] (exts := [1000000]) rfl rfl ?_
  simp only [go_sem, ↓reduceIte, reduceCtorEq, Nat.reduceEqDiff, Nat.reduceAdd, Nat.reduceSub, Nat.reduceMul, Nat.reduceLT, Nat.reduceLeDiff, Int.reduceLT, Int.reduceLE, Int.reduceEq, Int.reduceNe, Int.reduceToNat, Int.reduceAdd, Int.reduceSub, Int.reduceMul, Int.natCast_zero]
  refine promote 5 99 3 1 false ?_ ?_ ?_ (by omega)
  · simp only [go_sem, ↓reduceIte, reduceCtorEq, Nat.reduceEqDiff, Nat.reduceAdd, Nat.reduceSub, Nat.reduceMul, Nat.reduceLT, Nat.reduceLeDiff, Int.reduceLT, Int.reduceLE, Int.reduceEq, Int.reduceNe, Int.reduceToNat, Int.reduceAdd, Int.reduceSub, Int.reduceMul, Int.natCast_zero]
    refine loop Try.mixed (0, p, []) (fun j : Nat × Nat × List Int => [(0, .ptr 1000000 0), (1, .int .i64 n), (5, .os 99 j.2.2.length), (6, .int .i64 j.1)]) (fun j => [(1000000, dbox l j.2.1), (99, .arr 3 1 false (j.2.2.map i1))])
      (fun j => j.1 ≤ n ∧ j.2.1 ≤ l.length ∧ dsome l n 0 p = j.2.2 ++ dsome l (n - j.1) j.1 j.2.1 ∧ dskip l n p = dskip l (n - j.1) j.2.1 ∧ j.2.2.length ≤ j.1) (fun j => n - j.1) (by kernel_rfl) ?_ ?_ ?_
    · simp [hp]
    · simp only [go_sem, ↓reduceIte, reduceCtorEq, Nat.reduceEqDiff, Nat.reduceAdd, Nat.reduceSub, Nat.reduceMul, Nat.reduceLT, Nat.reduceLeDiff, Int.reduceLT, Int.reduceLE, Int.reduceEq, Int.reduceNe, Int.reduceToNat, Int.reduceAdd, Int.reduceSub, Int.reduceMul, Int.natCast_zero]
    · rintro ⟨i, q, out⟩ ⟨h1, h2, h3, h4, h5⟩
      simp only [go_sem, ↓reduceIte, reduceCtorEq, Nat.reduceEqDiff, Nat.reduceAdd, Nat.reduceSub, Nat.reduceMul, Nat.reduceLT, Nat.reduceLeDiff, Int.reduceLT, Int.reduceLE, Int.reduceEq, Int.reduceNe, Int.reduceToNat, Int.reduceAdd, Int.reduceSub, Int.reduceMul, Int.natCast_zero]
      simp only at h1 h2 h3 h4 h5
      refine ⟨fun h => call (next_den l q 3 hl h2 (by omega)) [1000000] ?_, fun h => ?_⟩
      · simp only [go_sem, ↓reduceIte, reduceCtorEq, Nat.reduceEqDiff, Nat.reduceAdd, Nat.reduceSub, Nat.reduceMul, Nat.reduceLT, Nat.reduceLeDiff, Int.reduceLT, Int.reduceLE, Int.reduceEq, Int.reduceNe, Int.reduceToNat, Int.reduceAdd, Int.reduceSub, Int.reduceMul, Int.natCast_zero]
        have e : n - i = (n - (i + 1)) + 1 := by omega
        rw [e] at h3 h4
        simp only [dsome, dskip] at h3 h4
        refine ⟨fun h' => ⟨by omega, (i + 1, dpos l q, out ++ [(i : Int)]), ⟨⟨by simp only; omega, dpos_le h2, ?_, h4, ?_⟩, by simp only; omega⟩, ?_⟩, fun h' => ⟨(i + 1, dpos l q, out), ⟨⟨by simp only; omega, dpos_le h2, ?_, h4, by simp only; omega⟩, by simp only; omega⟩, ?_⟩⟩
        · simpa [h'] using h3
        · simp only [List.length_append, List.length_cons, List.length_nil]; omega
        · simp only [go_sem, ↓reduceIte, reduceCtorEq, Nat.reduceEqDiff, Nat.reduceAdd, Nat.reduceSub, Nat.reduceMul, Nat.reduceLT, Nat.reduceLeDiff, Int.reduceLT, Int.reduceLE, Int.reduceEq, Int.reduceNe, Int.reduceToNat, Int.reduceAdd, Int.reduceSub, Int.reduceMul, Int.natCast_zero, List.map_append]
          rw [wrapI] <;> omega
        · simpa [h'] using h3
        · simp only [go_sem, ↓reduceIte, reduceCtorEq, Nat.reduceEqDiff, Nat.reduceAdd, Nat.reduceSub, Nat.reduceMul, Nat.reduceLT, Nat.reduceLeDiff, Int.reduceLT, Int.reduceLE, Int.reduceEq, Int.reduceNe, Int.reduceToNat, Int.reduceAdd, Int.reduceSub, Int.reduceMul, Int.natCast_zero]
          rw [wrapI] <;> omega
      · have e : n - i = 0 := by omega
        rw [e] at h3 h4
        simp only [dsome, dskip, List.append_nil] at h3 h4
        rw [h3, h4]
        simp only [go_sem, ↓reduceIte, reduceCtorEq, Nat.reduceEqDiff, Nat.reduceAdd, Nat.reduceSub, Nat.reduceMul, Nat.reduceLT, Nat.reduceLeDiff, Int.reduceLT, Int.reduceLE, Int.reduceEq, Int.reduceNe, Int.reduceToNat, Int.reduceAdd, Int.reduceSub, Int.reduceMul, Int.natCast_zero]
  · simp only [go_sem, ↓reduceIte, reduceCtorEq, Nat.reduceEqDiff, Nat.reduceAdd, Nat.reduceSub, Nat.reduceMul, Nat.reduceLT, Nat.reduceLeDiff, Int.reduceLT, Int.reduceLE, Int.reduceEq, Int.reduceNe, Int.reduceToNat, Int.reduceAdd, Int.reduceSub, Int.reduceMul, Int.natCast_zero]
  · simp only [go_sem, ↓reduceIte, reduceCtorEq, Nat.reduceEqDiff, Nat.reduceAdd, Nat.reduceSub, Nat.reduceMul, Nat.reduceLT, Nat.reduceLeDiff, Int.reduceLT, Int.reduceLE, Int.reduceEq, Int.reduceNe, Int.reduceToNat, Int.reduceAdd, Int.reduceSub, Int.reduceMul, Int.natCast_zero]

end Go.Proofs.Am
