/- DEight. -/
import Derived.Test.YtloaichcpoboeaaGreatDoorLOne
set_option linter.unusedSimpArgs false
set_option linter.unusedVariables false
namespace Go.Proofs.Am
open Go Go.RowKit
open Go.Proofs
def V1:List Vt:=[⟨1,cA,a89⟩,⟨2,cA,noA⟩,⟨2,cA,a89⟩]
theorem a11(k nu ti:Int)(d:Drf)(hd:bd6 d):okS (lr k nu ti d):=by
 obtain⟨h1,h2⟩:=hd
 have hxp:=vb d.pins
 have hp:(if 0<nu then List.replicate 32 (0:UInt8)else []).length≤32:=by split<;>simp
 show okS (ye _)
 simp only[ye,okS,stB,r8,ze,hdB,List.length_append,c7,aq,fj,l5,List.length_cons,List.length_nil]
 omega
end Go.Proofs.Am
