/- DEight. -/
import Derived.Test.YteakcpfdfglndaaGreatDoorLOne
set_option linter.unusedSimpArgs false
set_option linter.unusedVariables false
namespace Go.Proofs.Am
open Go Go.RowKit
open Go.Proofs
def V1:List Vt:=[⟨1,cA,a8b⟩,⟨2,cA,noA⟩,⟨2,cA,a8b⟩]
theorem azi(k nu ti:Int)(d:Drf)(hd:a9k d):okS (gh k nu ti d):=by
 obtain⟨h1,h2⟩:=hd
 have hxp:=mi d.pins
 have hp:(if 0<nu then List.replicate 32 (0:UInt8)else []).length≤32:=by split<;>simp
 show okS (nh _)
 simp only[nh,okS,stB,qa,wn,hdB,List.length_append,cr,ap,ei,l5,List.length_cons,List.length_nil]
 omega
end Go.Proofs.Am
