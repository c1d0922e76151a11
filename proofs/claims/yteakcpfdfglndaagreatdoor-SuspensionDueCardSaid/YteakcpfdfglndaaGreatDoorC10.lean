/- C10. -/
import Derived.Test.YteakcpfdfglndaaGreatDoorC9
set_option linter.unusedSimpArgs false
set_option linter.unusedVariables false
namespace Go.Proofs.Am
open Go Go.RowKit
open Go.Proofs
theorem a7u(c:Cs):ban (apD c):=⟨by simp[apD],by simp[apD]⟩
theorem aup(l:List Int)(p:Nat):(dd l p).gen.length≤7∧(dd l p).pol.se.length≤2∧(dd l p).pol.ta.length≤2:=by
 refine⟨?_,?_,?_⟩
 ·show(([0,1,2,3,4,5,6]:List Int).take _).length≤7
  rw[List.length_take]
  exact Nat.min_le_right _ _
 ·show(if _ then [0,1]else [0]:List Int).length≤2
  split<;>simp
 ·exact Nat.le_refl 2
end Go.Proofs.Am
