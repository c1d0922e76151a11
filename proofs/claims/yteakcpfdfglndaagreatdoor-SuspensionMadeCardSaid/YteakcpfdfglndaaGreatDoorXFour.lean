/- XFour. -/
import Derived.Test.YteakcpfdfglndaaGreatDoorXOne
import Derived.Test.YteakcpfdfglndaaGreatDoorWOne
import Derived.Test.YteakcpfdfglndaaGreatDoorEOne
import Derived.Test.YteakcpfdfglndaaGreatDoorAmCut
set_option linter.unusedSimpArgs false
set_option linter.unusedVariables false
namespace Go.Proofs.Am
open Go Go.RowKit
open Go.Proofs
theorem bek{P:Program}{N:Nat}{c:Code}{Q:pv}{fr:AFr}{σ:ASt}{m j:Nat}{cs:List PV}(hm:ah σ m=some (.cells cs))(hj:cs[j]? =some .nils)
  (h:W P N c Q fr (s6 σ m (.cells (cs.set j (.vs []))))):W P N c Q fr σ:=fun x a hv w hG=>by
 refine h x a hv w (hG.again hm (fun off h=>h.elim) (fun v=>⟨⟨_,rfl⟩,rfl⟩) fun hb=> ?_)
 obtain⟨b,t,arr,h1,h2,h3,h4⟩:=hb
 refine⟨b,t,arr,h1,h2,by simp[h3],fun i u hu=> ?_⟩
 rw[List.getElem?_set]at hu
 split at hu
 ·rename_i hij
  subst hij
  split at hu
  ·cases hu
   rw[(h4 _ _ hj).nils_inv]
   exact .pure (.vs (sz:=0) (fun _ _=>undef) rfl (Nat.le_refl _) (by simp) (by simp) (by simp) (by simp))
  ·cases hu
 ·exact h4 i u hu
theorem bcl{P:Program}{N:Nat}{c:Code}{Q:pv}{fr:AFr}{V:PV}{xs:List (List PV)}(ss:PV→ASt)(m j:Nat)(cs:List PV)(hV:V= .vs xs∨V= .nils∧xs=[])(h1:ah (ss .nils) m=some (.cells cs))(h2:cs[j]? =some .nils)
  (h3:s6 (ss .nils) m (.cells (cs.set j (.vs [])))=ss (.vs [])) (h:W P N c Q fr (ss (.vs xs))):W P N c Q fr (ss V):=by
 rcases hV with rfl|⟨rfl,rfl⟩
 ·exact h
 ·exact bek h1 h2 (h3 ▸ h)
structure MdS where
 R:Rl
 T:Tm
 V:PV
 C:Cs
 S:List Stm
end Go.Proofs.Am
