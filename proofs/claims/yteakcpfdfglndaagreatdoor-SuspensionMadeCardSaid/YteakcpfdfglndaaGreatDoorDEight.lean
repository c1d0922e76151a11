/- DEight. -/
import Derived.Test.YteakcpfdfglndaaGreatDoorLOne
set_option linter.unusedSimpArgs false
set_option linter.unusedVariables false
namespace Go.Proofs.Am
open Go Go.RowKit
open Go.Proofs
def V1:List Vt:=[⟨1,cA,a9r⟩,⟨2,cA,noA⟩,⟨2,cA,a9r⟩]
theorem a2y(k nu ti:Int)(d:Drf)(hd:a99 d):okS (gn k nu ti d):=by
 obtain⟨h1,h2⟩:=hd
 have hxp:=nf d.pins
 have hp:(if 0<nu then List.replicate 32 (0:UInt8)else []).length≤32:=by split<;>simp
 show okS (nw _)
 simp only[nw,okS,stB,qj,ww,hdB,List.length_append,db,aq,er,l5,List.length_cons,List.length_nil]
 omega
end Go.Proofs.Am
