/- XTwo. -/
import Derived.Test.YteakcpfdfglndaaGreatDoorXOne
import Derived.Test.YteakcpfdfglndaaGreatDoorWOne
import Derived.Test.YteakcpfdfglndaaGreatDoorEOne
import Derived.Test.YteakcpfdfglndaaGreatDoorVTwo
import Derived.Test.YteakcpfdfglndaaGreatDoorCThree
import Derived.Test.YteakcpfdfglndaaGreatDoorBThree
set_option linter.unusedSimpArgs false
set_option linter.unusedVariables false
namespace Go.Proofs.Am
open Go Go.RowKit
open Go.Proofs
theorem zm{c:Cs}{nu:Int}{x:Ct}{s:List Int}:(da c nu x s).length=s.length:=by simp[da]
theorem agw{c:Cs}{nu:Int}{x:Ct}{s:List Int}{i:Nat}(h:i<s.length):da c nu x (s.take (i+1))=da c nu x (s.take i)++[vt (el s i) nu c x]:=by
 unfold da
 rw[az h,List.map_append,List.map_singleton]
theorem a8y{c:Cs}{nu:Int}{x:Ct}{s:List Int}(hk:c.kd≠1)(hx:x.pi=[]): ∀y∈da c nu x s,plS y∧(w9 x→okS y):=fun y hy=>by
 obtain⟨k,_,rfl⟩:=rc.1 hy
 exact⟨bbf hk hx,fun h=>a18 _ _ _ h⟩
def rfL(r:Rl)(t:Tm)(c:Cs)(x0 x1:Ct):Nat→List Stm
 |0=>[]
 |1=>da c 0 x0 (am r t c).1
 |_=>da c 0 x0 (am r t c).1++(if(am r t (x5 c)).2=0 then da (x5 c) 1 x1 (am r t (x5 c)).1 else [])
theorem bbw(r:Rl)(t:Tm)(c:Cs)(x0 x1:Ct):rfL r t c x0 x1 2=da c 0 x0 (am r t c).1++(if(am r t (x5 c)).2=0 then da (x5 c) 1 x1 (am r t (x5 c)).1 else []):=rfl
theorem a5g{c:Cs}{n:Int}(hc:dq c=true)(hk:c.kd≠1)(hn:n=0∨n=1):cz c ⟨[n],[]⟩=true:=by
 unfold cz
 rw[hc]
 have h1:ah (ap0 [])=0:=by decide+kernel
 rw[show(⟨[n],[]⟩:Ct).pi=[] from rfl,h1]
 unfold aa2
 rw[if_neg hk]
 rcases hn with rfl|rfl<;>rfl
end Go.Proofs.Am
