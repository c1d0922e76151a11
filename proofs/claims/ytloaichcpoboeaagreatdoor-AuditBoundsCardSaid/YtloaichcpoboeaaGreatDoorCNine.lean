/- CNine. -/
import Derived.Test.YtloaichcpoboeaaGreatDoorCThree
import Derived.Test.YtloaichcpoboeaaGreatDoorDThree
set_option linter.unusedSimpArgs false
set_option linter.unusedVariables false
namespace Go.Proofs.Am
open Go Go.RowKit
open Go.Proofs
def a91(p:Stm->Bool)(l:List Stm):Int:=match l.findIdx? p with|some i=>(i:Int)|none=> -1
theorem elG(l:List Stm)(i:Nat)(h:i<l.length):el l i=l[i]:=by simp[el,aw,h]
theorem ba4{p:Stm->Bool}{l:List Stm}{i:Nat}(hi:i<l.length)(h:p (el l i)=true)(hb: ∀j,j<i->p (el l j)=false):a91 p l=i:=by
 have:l.findIdx? p=some i:=by
  rw[List.findIdx?_eq_some_iff_getElem];refine⟨hi,by rw[<-elG];exact h,fun j hj=> ?_⟩;have:=hb j hj;rw[elG l j (by omega)]at this;simp[this]
 rw[a91,this]
theorem a02{p:Stm->Bool}{l:List Stm}(hb: ∀j,j<l.length->p (el l j)=false):a91 p l= -1:=by
 have:l.findIdx? p=none:=by
  rw[List.findIdx?_eq_none_iff];intro x hx;obtain⟨j,hj,rfl⟩:=List.getElem_of_mem hx;have:=hb j hj;rw[elG l j hj]at this;exact this
 rw[a91,this]
end Go.Proofs.Am
