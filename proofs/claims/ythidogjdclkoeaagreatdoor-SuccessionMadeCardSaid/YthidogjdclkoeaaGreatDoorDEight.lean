/- DEight. -/
import Derived.Test.YthidogjdclkoeaaGreatDoorLOne
set_option linter.unusedSimpArgs false
set_option linter.unusedVariables false
namespace Go.Proofs.Am
open Go Go.RowKit
open Go.Proofs
def V1:List Vt:=[⟨1,cA,a4e⟩,⟨2,cA,noA⟩,⟨2,cA,a4e⟩]
theorem ay2(k nu ti:Int)(d:Drf)(hd:a8b d):okS (aoq k nu ti d):=by
 obtain⟨h1,h2⟩:=hd;have hxp:=n8 d.pins;have hp:(if 0<nu then List.replicate 32 (0:UInt8)else []).length<=32:=by split<;>simp
 show okS (al4 _);simp only[al4,okS,stB,ui,aan,hdB,List.length_append,dw,aw,fe,l5,List.length_cons,List.length_nil];omega
end Go.Proofs.Am
