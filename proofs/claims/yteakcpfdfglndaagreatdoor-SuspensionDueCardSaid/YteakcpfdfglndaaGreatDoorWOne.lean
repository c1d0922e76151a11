/- WOne. -/
import Derived.Test.YteakcpfdfglndaaGreatDoorUOne
import Derived.Test.YteakcpfdfglndaaGreatDoorVTwo
set_option linter.unusedSimpArgs false
set_option linter.unusedVariables false
namespace Go.Proofs.Am
open Go Go.RowKit
open Go.Proofs
theorem decG_big{r:Rl}{L:List Stm}{t:Tm}{c:Cs}:lw (ga r L t c).1:=by
 unfold ga
 split
 ·exact by simp[noC,lw,big]
 ·show lw (ags (aal L c (am r t c).1))
  unfold aal
  split
  ·exact ak8
  ·exact by simp[ags,noC,lw,big]
theorem apm(l:List Int)(p:Nat):(db l p).gen.length≤7∧(db l p).pol.se.length≤2∧(db l p).pol.ta.length≤2:=by
 refine⟨?_,?_,?_⟩
 ·show(([0,1,2,3,4,5,6]:List Int).take _).length≤7
  rw[List.length_take]
  exact Nat.min_le_right _ _
 ·show(if _ then [0,1]else [0]:List Int).length≤2
  split<;>simp
 ·exact Nat.le_refl 2
theorem aph(l:List Int)(p:Nat):RlB (db l p):=by
 obtain⟨h0,h1,h2⟩:=apm l p
 exact⟨by omega,by omega,by omega⟩
theorem a74(l:List Int)(r:Rl)(ep:Int)(s:ChS):a8m l r ep s=⟨(a9j l ep (chX l ep s).1 (chY l ep s).1 (chS r ep s) ((chY l ep s).2,s.L) (chS r ep s).length).1,
  (a9j l ep (chX l ep s).1 (chY l ep s).1 (chS r ep s) ((chY l ep s).2,s.L) (chS r ep s).length).2,
  (bai (chX l ep s).1.li).1,a5l s.v ep (chX l ep s).1.li⟩:=rfl
end Go.Proofs.Am
