/- MOne. -/
import Derived.Test.YteakcpfdfglndaaGreatDoorHOne
set_option linter.unusedSimpArgs false
set_option linter.unusedVariables false
namespace Go.Proofs.Am
open Go Go.RowKit
open Go.Proofs
theorem axh{seats:List Int}{l:List Stm}{c:Cs}:(tj seats (al l c)).length≤l.length:=by
 have h1:=ac6 l c
 have h2:=(aqt seats (fun y hy=>(qe (l:=l) (c:=c) y hy).1) _ (Nat.le_refl _)).1
 have h3:(tj seats (al l c)).length≤(cnR seats (al l c)).length:=by
  unfold tj
  rw[List.length_map]
  exact List.length_filter_le _ _
 have h4:cnI seats (al l c) (al l c).length=cnR seats (al l c):=rfl
 rw[h4]at h2
 omega
end Go.Proofs.Am
