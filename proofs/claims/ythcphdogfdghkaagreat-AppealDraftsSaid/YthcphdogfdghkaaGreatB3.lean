/- Lists of numbers: sets of keys, who comes in. -/
import Derived.Test.YthcphdogfdghkaaGreatB2
set_option linter.unusedSimpArgs false
set_option linter.unusedVariables false
namespace Go.Proofs.Am
open Go Go.RowKit
open Go.Proofs

theorem dsome_len (l : List Int) : ∀ (n i p : Nat), (dsome l n i p).length ≤ n
  | 0, _, _ => by simp [dsome]
  | n + 1, i, p => by
    have := dsome_len l n (i + 1) (dpos l p)
    simp only [dsome, List.length_append]
    split <;> simp <;> omega
theorem dskip_le (l : List Int) : ∀ (n p : Nat), p ≤ l.length → dskip l n p ≤ l.length
  | 0, _, h => h
  | n + 1, _, h => dskip_le l n _ (dpos_le h)
theorem dsome_range (l : List Int) : ∀ (n i p : Nat), ∀ x ∈ dsome l n i p, (i : Int) ≤ x ∧ x < i + n
  | 0, _, _, x, h => by simp [dsome] at h
  | n + 1, i, p, x, h => by
    simp only [dsome, List.mem_append] at h
    rcases h with h | h
    · split at h
      · simp at h; omega
      · simp at h
    · have := dsome_range l n (i + 1) (dpos l p) x h
      omega

/-- mill.Light -/
theorem light_den (l : List Int) : Den Tryz.prog 4 [.vs (l.map i1)] [] (.bool (decide (l.length ≤ 400))) [] [] := by
  refine den_of Tryz.mixed Tryz.func4 rfl Tryz.call4 Tryz.ntmps4 (congrArg Array.toList Tryz.results4) (by simp) (by kernel_rfl) [] (exts := []) rfl rfl ?_
  simp only [go_sem, ↓reduceIte, reduceCtorEq, Nat.reduceEqDiff, Nat.reduceAdd, Nat.reduceSub, Nat.reduceMul, Nat.reduceLT, Nat.reduceLeDiff, Int.reduceLT, Int.reduceLE, Int.reduceEq, Int.reduceNe, Int.reduceToNat, Int.reduceAdd, Int.reduceSub, Int.reduceMul, Int.natCast_zero]
  simp only [decide_eq_decide]
  omega

/-- The keys from 0 to 63 that are chosen. -/
def keysW (c : Int → Bool) (n : Nat) : List Int := ((List.range n).map fun i : Nat => (i : Int)).filter c
theorem keysW_succ (c : Int → Bool) (n : Nat) : keysW c (n + 1) = keysW c n ++ (if c n then [(n : Int)] else []) := by
  simp only [keysW, List.range_succ, List.map_append, List.filter_append, List.map_cons, List.map_nil, List.filter_cons, List.filter_nil]
theorem keysW_len (c : Int → Bool) : ∀ n, (keysW c n).length ≤ n := fun n => by
  have := List.length_filter_le c ((List.range n).map fun i : Nat => (i : Int))
  simpa [keysW] using this
theorem mem_keysW {c : Int → Bool} {n : Nat} {x : Int} : x ∈ keysW c n ↔ (0 ≤ x ∧ x < n) ∧ c x = true := by
  simp only [keysW, List.mem_filter, List.mem_map, List.mem_range]
  constructor
  · rintro ⟨⟨i, h1, rfl⟩, h2⟩; exact ⟨⟨by omega, by omega⟩, h2⟩
  · rintro ⟨⟨h0, h1⟩, h2⟩; exact ⟨⟨x.toNat, by omega, by omega⟩, h2⟩

end Go.Proofs.Am
