/- GOne. -/
import Derived.Test.YteakcpfdfglndaaGreatDoorDSix
import Derived.Test.YteakcpfdfglndaaGreatDoorZOne
import Derived.Test.YteakcpfdfglndaaGreatDoorEOne
set_option linter.unusedSimpArgs false
set_option linter.unusedVariables false
namespace Go.Proofs.Am
open Go Go.RowKit
open Go.Proofs
def ajb(v s:Nat):Bool:=decide (1≤s∧s≤9∧v≤s∧3*s<4*v)
def adw(seats:List Int)(v:List Vt):List Ct:=((cnR seats v).filter fun n=>ajb n.ks.length seats.length).map Cn.x
theorem ame{seats:List Int}{v:List Vt}{x:Ct}:x∈adw seats v↔∃n∈cnR seats v,n.x=x∧ajb n.ks.length seats.length=true:=by
 simp only[adw,List.mem_map,List.mem_filter]
 constructor
 ·rintro⟨n,⟨h1,h2⟩,h3⟩;exact⟨n,h1,h3,h2⟩
 ·rintro⟨n,h1,h3,h2⟩;exact⟨n,⟨h1,h2⟩,h3⟩
theorem a2n{seats:List Int}{v:List Vt}{n:Cn}(h:n∈cnR seats v):n.ks.Nodup:=((vd seats v).r2 n h).imp fun h=>by omega
theorem akq{seats:List Int}{v:List Vt}{n:Cn}(h:n∈cnR seats v){k:Int}(hk:k∈n.ks):k∈seats∧∃y∈v,y.x=n.x∧y.k=k:=asv.1 (((vd seats v).r3 n.x k).1 ⟨n,h,rfl,hk⟩)
theorem bbe{seats:List Int}{v:List Vt}{n:Cn}(h:n∈cnR seats v):n.ks.length≤seats.length:=axv (a2n h) fun _ hk=>(akq h hk).1
def a3r(a b:Stm):Bool:=decide (a.nu<b.nu∨a.nu=b.nu∧Lib.compareBytes a.sd b.sd<0)
def ahx(c:Cs)(x:Ct)(k:Int)(s:Stm):Bool:=okV c s&&decide (s.au=k)&&decide ((cw s).1.x=x)
def o9(l:List Stm)(k:Int)(c:Cs)(x:Ct):Option Stm:=bfb a3r (l.filter (ahx c x k))
structure ChkP(c:Cs)(l:List Stm)(seats:List Int)(x:Ct):Prop where
 ok: ∀s∈l,okV c s=true∧s.au∈seats∧(cw s).1.x=x
 up:l.Pairwise fun a b=>a.au<b.au
 en:ajb l.length seats.length=true
end Go.Proofs.Am
