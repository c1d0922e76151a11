/- MOne. -/
import Derived.Test.YteakcpfdfglndaaGreatDoorHOne
set_option linter.unusedSimpArgs false
set_option linter.unusedVariables false
namespace Go.Proofs.Am
open Go Go.RowKit
open Go.Proofs
theorem ax1{seats:List Int}{l:List Stm}{c:Cs}:(tc seats (al l c)).length≤l.length:=by
 have h1:=afm l c
 have h2:=(ats seats (fun y hy=>(qd (l:=l) (c:=c) y hy).1) _ (Nat.le_refl _)).1
 have h3:(tc seats (al l c)).length≤(cnR seats (al l c)).length:=by
  unfold tc
  rw[List.length_map]
  exact List.length_filter_le _ _
 have h4:cnI seats (al l c) (al l c).length=cnR seats (al l c):=rfl
 rw[h4]at h2
 omega
end Go.Proofs.Am
