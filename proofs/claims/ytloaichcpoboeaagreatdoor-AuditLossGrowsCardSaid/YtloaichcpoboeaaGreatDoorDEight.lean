/- DEight. -/
import Derived.Test.YtloaichcpoboeaaGreatDoorLOne
set_option linter.unusedSimpArgs false
set_option linter.unusedVariables false
namespace Go.Proofs.Am
open Go Go.RowKit
open Go.Proofs
def V1:List Vt:=[⟨1,cA,a85⟩,⟨2,cA,noA⟩,⟨2,cA,a85⟩]
theorem ayg(k nu ti:Int)(d:Drf)(hd:bdy d):okS (lg k nu ti d):=by
 obtain⟨h1,h2⟩:=hd
 have hxp:=vj d.pins
 have hp:(if 0<nu then List.replicate 32 (0:UInt8)else []).length≤32:=by split<;>simp
 show okS (xx _)
 simp only[xx,okS,stB,sb,y3,hdB,List.length_append,c7,aq,fc,l5,List.length_cons,List.length_nil]
 omega
end Go.Proofs.Am
