/- XTwo. -/
import Derived.Test.YteakcpfdfglndaaGreatDoorXOne
import Derived.Test.YteakcpfdfglndaaGreatDoorWOne
import Derived.Test.YteakcpfdfglndaaGreatDoorEOne
import Derived.Test.YteakcpfdfglndaaGreatDoorVTwo
import Derived.Test.YteakcpfdfglndaaGreatDoorCThree
import Derived.Test.YteakcpfdfglndaaGreatDoorBThree
set_option linter.unusedSimpArgs false
set_option linter.unusedVariables false
namespace Go.Proofs.Am
open Go Go.RowKit
open Go.Proofs
theorem bd3{c:Cs}{nu:Int}{x:Ct}{s:List Int}(hk:c.kd≠1)(hx:x.pi=[]): ∀y∈rr c nu x s,plS y∧(ue x→okS y):=fun y hy=>by
 obtain⟨k,_,rfl⟩:=aak.1 hy
 exact⟨bc3 hk hx,fun h=>a3h _ _ _ h⟩
def rfL(r:Rl)(t:Tm)(c:Cs)(x0 x1:Ct):Nat→List Stm
 |0=>[]
 |1=>rr c 0 x0 (av r t c).1
 |_=>rr c 0 x0 (av r t c).1++(if(av r t (l8 c)).2=0 then rr (l8 c) 1 x1 (av r t (l8 c)).1 else [])
theorem bc8(r:Rl)(t:Tm)(c:Cs)(x0 x1:Ct):rfL r t c x0 x1 2=rr c 0 x0 (av r t c).1++(if(av r t (l8 c)).2=0 then rr (l8 c) 1 x1 (av r t (l8 c)).1 else []):=rfl
theorem awh{c:Cs}{n:Int}(hc:dh c=true)(hk:c.kd≠1)(hn:n=0∨n=1):fg c ⟨[n],[]⟩=true:=by
 unfold fg
 rw[hc]
 have h1:ah (aqb [])=0:=by decide+kernel
 rw[show(⟨[n],[]⟩:Ct).pi=[] from rfl,h1]
 unfold abn
 rw[if_neg hk]
 rcases hn with rfl|rfl<;>rfl
end Go.Proofs.Am
