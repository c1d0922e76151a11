/- GOne. -/
import Derived.Test.YteakcpfdfglndaaGreatDoorDSix
import Derived.Test.YteakcpfdfglndaaGreatDoorZOne
import Derived.Test.YteakcpfdfglndaaGreatDoorEOne
set_option linter.unusedSimpArgs false
set_option linter.unusedVariables false
namespace Go.Proofs.Am
open Go Go.RowKit
open Go.Proofs
def ajx(v s:Nat):Bool:=decide (1≤s∧s≤9∧v≤s∧3*s<4*v)
def ac9(seats:List Int)(v:List Vt):List Ct:=((cnR seats v).filter fun n=>ajx n.ks.length seats.length).map Cn.x
theorem amg{seats:List Int}{v:List Vt}{x:Ct}:x∈ac9 seats v↔∃n∈cnR seats v,n.x=x∧ajx n.ks.length seats.length=true:=by
 simp only[ac9,List.mem_map,List.mem_filter]
 constructor
 ·rintro⟨n,⟨h1,h2⟩,h3⟩;exact⟨n,h1,h3,h2⟩
 ·rintro⟨n,h1,h3,h2⟩;exact⟨n,⟨h1,h2⟩,h3⟩
theorem azn{seats:List Int}{v:List Vt}{n:Cn}(h:n∈cnR seats v):n.ks.Nodup:=((tz seats v).r2 n h).imp fun h=>by omega
theorem ajb{seats:List Int}{v:List Vt}{n:Cn}(h:n∈cnR seats v){k:Int}(hk:k∈n.ks):k∈seats∧∃y∈v,y.x=n.x∧y.k=k:=aq0.1 (((tz seats v).r3 n.x k).1 ⟨n,h,rfl,hk⟩)
theorem bbp{seats:List Int}{v:List Vt}{n:Cn}(h:n∈cnR seats v):n.ks.length≤seats.length:=ahw (azn h) fun _ hk=>(ajb h hk).1
def az6(a b:Stm):Bool:=decide (a.nu<b.nu∨a.nu=b.nu∧Lib.compareBytes a.sd b.sd<0)
def ag7(c:Cs)(x:Ct)(k:Int)(s:Stm):Bool:=okV c s&&decide (s.au=k)&&decide ((bu s).1.x=x)
def ot(l:List Stm)(k:Int)(c:Cs)(x:Ct):Option Stm:=bd8 az6 (l.filter (ag7 c x k))
structure ChkP(c:Cs)(l:List Stm)(seats:List Int)(x:Ct):Prop where
 ok: ∀s∈l,okV c s=true∧s.au∈seats∧(bu s).1.x=x
 up:l.Pairwise fun a b=>a.au<b.au
 en:ajx l.length seats.length=true
end Go.Proofs.Am
