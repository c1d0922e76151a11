/- WOne. -/
import Derived.Test.YteakcpfdfglndaaGreatDoorUOne
import Derived.Test.YteakcpfdfglndaaGreatDoorVTwo
set_option linter.unusedSimpArgs false
set_option linter.unusedVariables false
namespace Go.Proofs.Am
open Go Go.RowKit
open Go.Proofs
theorem decG_big{r:Rl}{L:List Stm}{t:Tm}{c:Cs}:l4 (fh r L t c).1:=by
 unfold fh
 split
 ·exact by simp[noC,l4,big]
 ·show l4 (yl (ya L c (av r t c).1))
  unfold ya
  split
  ·exact aki
  ·exact by simp[yl,noC,l4,big]
theorem ape(l:List Int)(p:Nat):(dc l p).gen.length≤7∧(dc l p).pol.se.length≤2∧(dc l p).pol.ta.length≤2:=by
 refine⟨?_,?_,?_⟩
 ·show(([0,1,2,3,4,5,6]:List Int).take _).length≤7
  rw[List.length_take]
  exact Nat.min_le_right _ _
 ·show(if _ then [0,1]else [0]:List Int).length≤2
  split<;>simp
 ·exact Nat.le_refl 2
theorem apy(l:List Int)(p:Nat):RlB (dc l p):=by
 obtain⟨h0,h1,h2⟩:=ape l p
 exact⟨by omega,by omega,by omega⟩
theorem bbs(l:List Int)(r:Rl)(ep:Int)(s:ChS):bas l r ep s=⟨(bak l ep (chX l ep s).1 (chY l ep s).1 (chS r ep s) ((chY l ep s).2,s.L) (chS r ep s).length).1,
  (bak l ep (chX l ep s).1 (chY l ep s).1 (chS r ep s) ((chY l ep s).2,s.L) (chS r ep s).length).2,
  (bbz (chX l ep s).1.li).1,a7f s.v ep (chX l ep s).1.li⟩:=rfl
end Go.Proofs.Am
