/- GOne. -/
import Derived.Test.YtloaichcpoboeaaGreatDoorDSix
import Derived.Test.YtloaichcpoboeaaGreatDoorZOne
import Derived.Test.YtloaichcpoboeaaGreatDoorEOne
set_option linter.unusedSimpArgs false
set_option linter.unusedVariables false
namespace Go.Proofs.Am
open Go Go.RowKit
open Go.Proofs
def azb(v s:Nat):Bool:=decide (1<=s/\s<=9/\v<=s/\3*s<4*v)
def ams(seats:List Int)(v:List Vt):List Ct:=((cnR seats v).filter fun n=>azb n.ks.length seats.length).map Cn.x
theorem aqt{seats:List Int}{v:List Vt}{x:Ct}:x∈ams seats v↔∃n∈cnR seats v,n.x=x/\azb n.ks.length seats.length=true:=by
 simp only[ams,List.mem_map,List.mem_filter];constructor
 ·rintro⟨n,⟨h1,h2⟩,h3⟩;exact⟨n,h1,h3,h2⟩
 ·rintro⟨n,h1,h3,h2⟩;exact⟨n,⟨h1,h2⟩,h3⟩
theorem a7j{seats:List Int}{v:List Vt}{n:Cn}(h:n∈cnR seats v):n.ks.Nodup:=((vq seats v).r2 n h).imp fun h=>by omega
theorem ak8{seats:List Int}{v:List Vt}{n:Cn}(h:n∈cnR seats v){k:Int}(hk:k∈n.ks):k∈seats/\∃y∈v,y.x=n.x/\y.k=k:=a2p.1 (((vq seats v).r3 n.x k).1 ⟨n,h,rfl,hk⟩)
theorem bgs{seats:List Int}{v:List Vt}{n:Cn}(h:n∈cnR seats v):n.ks.length<=seats.length:=azt (a7j h) fun _ hk=>(ak8 h hk).1
structure ChkP(c:Cs)(l:List Stm)(seats:List Int)(x:Ct):Prop where
 ok: ∀s∈l,okV c s=true/\s.au∈seats/\(ej s).1.x=x
 up:l.Pairwise fun a b=>a.au<b.au
 en:azb l.length seats.length=true
end Go.Proofs.Am
