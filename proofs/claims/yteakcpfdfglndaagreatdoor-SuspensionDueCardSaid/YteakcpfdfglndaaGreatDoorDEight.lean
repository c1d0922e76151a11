/- DEight. -/
import Derived.Test.YteakcpfdfglndaaGreatDoorLOne
set_option linter.unusedSimpArgs false
set_option linter.unusedVariables false
namespace Go.Proofs.Am
open Go Go.RowKit
open Go.Proofs
def V1:List Vt:=[⟨1,cA,a68⟩,⟨2,cA,noA⟩,⟨2,cA,a68⟩]
theorem axh(k nu ti:Int)(d:Drf)(hd:ban d):okS (dm k nu ti d):=by
 obtain⟨h1,h2⟩:=hd
 have hxp:=oy d.pins
 have hp:(if 0<nu then List.replicate 32 (0:UInt8)else []).length≤32:=by split<;>simp
 show okS (qu _)
 simp only[qu,okS,stB,ra,x8,hdB,List.length_append,db,ar,fl,l5,List.length_cons,List.length_nil]
 omega
end Go.Proofs.Am
