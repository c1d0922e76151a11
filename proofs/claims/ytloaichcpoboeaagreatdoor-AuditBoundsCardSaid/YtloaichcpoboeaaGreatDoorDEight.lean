/- DEight. -/
import Derived.Test.YtloaichcpoboeaaGreatDoorLOne
set_option linter.unusedSimpArgs false
set_option linter.unusedVariables false
namespace Go.Proofs.Am
open Go Go.RowKit
open Go.Proofs
def V1:List Vt:=[⟨1,cA,bfo⟩,⟨2,cA,noA⟩,⟨2,cA,bfo⟩]
theorem a7v(k nu ti:Int)(d:Drf)(hd:bkw d):okS (mz k nu ti d):=by
 obtain⟨h1,h2⟩:=hd;have hxp:=yx d.pins;have hp:(if 0<nu then List.replicate 32 (0:UInt8)else []).length<=32:=by split<;>simp
 show okS (aam _);simp only[aam,okS,stB,uu,acp,hdB,List.length_append,dw,az,gh,l5,List.length_cons,List.length_nil];omega
end Go.Proofs.Am
