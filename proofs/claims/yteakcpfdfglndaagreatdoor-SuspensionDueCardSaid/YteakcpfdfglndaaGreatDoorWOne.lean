/- WOne. -/
import Derived.Test.YteakcpfdfglndaaGreatDoorUOne
import Derived.Test.YteakcpfdfglndaaGreatDoorVTwo
set_option linter.unusedSimpArgs false
set_option linter.unusedVariables false
namespace Go.Proofs.Am
open Go Go.RowKit
open Go.Proofs
theorem decG_big{r:Rl}{L:List Stm}{t:Tm}{c:Cs}:lw (gh r L t c).1:=by
 unfold gh
 split
 ·exact by simp[noC,lw,big]
 ·show lw (aja (abk L c (am r t c).1))
  unfold abk
  split
  ·exact al0
  ·exact by simp[aja,noC,lw,big]
theorem ang(l:List Int)(p:Nat):(dd l p).gen.length≤7∧(dd l p).pol.se.length≤2∧(dd l p).pol.ta.length≤2:=by
 refine⟨?_,?_,?_⟩
 ·show(([0,1,2,3,4,5,6]:List Int).take _).length≤7
  rw[List.length_take]
  exact Nat.min_le_right _ _
 ·show(if _ then [0,1]else [0]:List Int).length≤2
  split<;>simp
 ·exact Nat.le_refl 2
theorem amc(l:List Int)(p:Nat):RlB (dd l p):=by
 obtain⟨h0,h1,h2⟩:=ang l p
 exact⟨by omega,by omega,by omega⟩
theorem a7p(l:List Int)(r:Rl)(ep:Int)(s:ChS):a93 l r ep s=⟨(a7y l ep (chX l ep s).1 (chY l ep s).1 (chS r ep s) ((chY l ep s).2,s.L) (chS r ep s).length).1,
  (a7y l ep (chX l ep s).1 (chY l ep s).1 (chS r ep s) ((chY l ep s).2,s.L) (chS r ep s).length).2,
  (bad (chX l ep s).1.li).1,a6g s.v ep (chX l ep s).1.li⟩:=rfl
end Go.Proofs.Am
