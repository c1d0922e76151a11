/- XTwo. -/
import Derived.Test.YteakcpfdfglndaaGreatDoorXOne
import Derived.Test.YteakcpfdfglndaaGreatDoorWOne
import Derived.Test.YteakcpfdfglndaaGreatDoorEOne
import Derived.Test.YteakcpfdfglndaaGreatDoorVTwo
import Derived.Test.YteakcpfdfglndaaGreatDoorCThree
import Derived.Test.YteakcpfdfglndaaGreatDoorBThree
set_option linter.unusedSimpArgs false
set_option linter.unusedVariables false
namespace Go.Proofs.Am
open Go Go.RowKit
open Go.Proofs
theorem yw{c:Cs}{nu:Int}{x:Ct}{s:List Int}:(dh c nu x s).length=s.length:=by simp[dh]
theorem agy{c:Cs}{nu:Int}{x:Ct}{s:List Int}{i:Nat}(h:i<s.length):dh c nu x (s.take (i+1))=dh c nu x (s.take i)++[vt (el s i) nu c x]:=by
 unfold dh
 rw[az h,List.map_append,List.map_singleton]
theorem a9y{c:Cs}{nu:Int}{x:Ct}{s:List Int}(hk:c.kd≠1)(hx:x.pi=[]): ∀y∈dh c nu x s,plS y∧(vf x→okS y):=fun y hy=>by
 obtain⟨k,_,rfl⟩:=q7.1 hy
 exact⟨bap hk hx,fun h=>a2z _ _ _ h⟩
def rfL(r:Rl)(t:Tm)(c:Cs)(x0 x1:Ct):Nat→List Stm
 |0=>[]
 |1=>dh c 0 x0 (am r t c).1
 |_=>dh c 0 x0 (am r t c).1++(if(am r t (x6 c)).2=0 then dh (x6 c) 1 x1 (am r t (x6 c)).1 else [])
theorem bbr(r:Rl)(t:Tm)(c:Cs)(x0 x1:Ct):rfL r t c x0 x1 2=dh c 0 x0 (am r t c).1++(if(am r t (x6 c)).2=0 then dh (x6 c) 1 x1 (am r t (x6 c)).1 else []):=rfl
theorem a64{c:Cs}{n:Int}(hc:dq c=true)(hk:c.kd≠1)(hn:n=0∨n=1):cz c ⟨[n],[]⟩=true:=by
 unfold cz
 rw[hc]
 have h1:ah (apv [])=0:=by decide+kernel
 rw[show(⟨[n],[]⟩:Ct).pi=[] from rfl,h1]
 unfold aa6
 rw[if_neg hk]
 rcases hn with rfl|rfl<;>rfl
end Go.Proofs.Am
