/- WOne. -/
import Derived.Test.YteakcpfdfglndaaGreatDoorUOne
import Derived.Test.YteakcpfdfglndaaGreatDoorVTwo
set_option linter.unusedSimpArgs false
set_option linter.unusedVariables false
namespace Go.Proofs.Am
open Go Go.RowKit
open Go.Proofs
theorem decG_big {r : Rl} {L : List Stm} {t : Tm} {c : Cs} : bigC (decG r L t c).1 := by
 unfold decG
 split
 ·exact by simp [noC, bigC, big]
 ·show bigC (oneC (decA L c (seatsG r t c).1))
  unfold decA
  split
  ·exact oneC_big
  ·exact by simp [oneC, noC, bigC, big]
end Go.Proofs.Am

/- The mill's chain of votes for rosters: the walk. -/
namespace Go.Proofs.Am
open Go Go.RowKit
open Go.Proofs
theorem mrules_szW (l : List Int) (p : Nat) : (mrules l p).gen.length ≤ 7 ∧ (mrules l p).pol.se.length ≤ 2 ∧ (mrules l p).pol.ta.length ≤ 2 := by
 refine ⟨?_, ?_, ?_⟩
 ·show (([0, 1, 2, 3, 4, 5, 6] : List Int).take _).length ≤ 7
  rw [List.length_take]
  exact Nat.min_le_right _ _
 ·show (if _ then [0, 1] else [0] : List Int).length ≤ 2
  split <;> simp
 ·exact Nat.le_refl 2
theorem mrules_RlB (l : List Int) (p : Nat) : RlB (mrules l p) := by
 obtain ⟨h0, h1, h2⟩ := mrules_szW l p
 exact ⟨by omega, by omega, by omega⟩
theorem chStep_eq (l : List Int) (r : Rl) (ep : Int) (s : ChS) : chStep l r ep s = ⟨(chGo l ep (chX l ep s).1 (chY l ep s).1 (chS r ep s) ((chY l ep s).2, s.L) (chS r ep s).length).1,
  (chGo l ep (chX l ep s).1 (chY l ep s).1 (chS r ep s) ((chY l ep s).2, s.L) (chS r ep s).length).2,
  (decL (chX l ep s).1.li).1, nextV s.v ep (chX l ep s).1.li⟩ := rfl
end Go.Proofs.Am
