/- GOne. -/
import Derived.Test.YthidogjdclkoeaaGreatDoorDSix
import Derived.Test.YthidogjdclkoeaaGreatDoorZOne
import Derived.Test.YthidogjdclkoeaaGreatDoorEOne
set_option linter.unusedSimpArgs false
set_option linter.unusedVariables false
namespace Go.Proofs.Am
open Go Go.RowKit
open Go.Proofs
def ag6(v s:Nat):Bool:=decide (1<=s/\s<=9/\v<=s/\3*s<4*v)
def acs(seats:List Int)(v:List Vt):List Ct:=((cnR seats v).filter fun n=>ag6 n.ks.length seats.length).map Cn.x
theorem ayb{seats:List Int}{v:List Vt}{x:Ct}:x∈acs seats v↔∃n∈cnR seats v,n.x=x/\ag6 n.ks.length seats.length=true:=by
 simp only[acs,List.mem_map,List.mem_filter];constructor
 ·rintro⟨n,⟨h1,h2⟩,h3⟩;exact⟨n,h1,h3,h2⟩
 ·rintro⟨n,h1,h3,h2⟩;exact⟨n,⟨h1,h2⟩,h3⟩
theorem avz{seats:List Int}{v:List Vt}{n:Cn}(h:n∈cnR seats v):n.ks.Nodup:=((ab1 seats v).r2 n h).imp fun h=>by omega
theorem aqt{seats:List Int}{v:List Vt}{n:Cn}(h:n∈cnR seats v){k:Int}(hk:k∈n.ks):k∈seats/\∃y∈v,y.x=n.x/\y.k=k:=atv.1 (((ab1 seats v).r3 n.x k).1 ⟨n,h,rfl,hk⟩)
theorem a4t{seats:List Int}{v:List Vt}{n:Cn}(h:n∈cnR seats v):n.ks.length<=seats.length:=apr (avz h) fun _ hk=>(aqt h hk).1
structure ChkP(c:Cs)(l:List Stm)(seats:List Int)(x:Ct):Prop where
 ok: ∀s∈l,okV c s=true/\s.au∈seats/\(ez s).1.x=x
 up:l.Pairwise fun a b=>a.au<b.au
 en:ag6 l.length seats.length=true
end Go.Proofs.Am
