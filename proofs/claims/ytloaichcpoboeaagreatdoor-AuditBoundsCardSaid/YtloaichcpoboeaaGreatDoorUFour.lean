/- UFour. -/
import Derived.Test.YtloaichcpoboeaaGreatDoorVTwo
import Derived.Test.YtloaichcpoboeaaGreatDoorCNine
import Derived.Test.YtloaichcpoboeaaGreatDoorEOne
import Derived.Test.YtloaichcpoboeaaGreatDoorUOne
set_option linter.unusedSimpArgs false
set_option linter.unusedVariables false
namespace Go.Proofs.Am
open Go Go.RowKit
open Go.Proofs
theorem a0j{r:Rl}{L:List Stm}{t:Tm}{c:Cs}(h: ∀s∈L,okV c s=false):(azk r L t c).2.1=false:=by
 have hA: ∀S,aqo L c S=[]:=fun S=>by
  unfold aqo;split
  ·refine List.eq_nil_iff_forall_not_mem.2 fun u hu=> ?_;obtain⟨n,hn,_,_⟩:=aqt.1 hu;have hk:n.ks≠[]:=(vq _ _).r4 n hn;obtain⟨k,ks,hk⟩:=List.exists_cons_of_ne_nil hk;obtain⟨_,y,hy,_,_⟩:=ak8 hn (k:=k) (by rw[hk];simp);obtain⟨s,s1,s2,_⟩:=jn.1 hy;rw[h s s1]at s2
   cases s2
  ·rfl
 unfold azk;split
 ·rfl
 ·rw[hA];rfl
theorem bhu{au nu ti:Int}{d:Drf}{c:Cs}(h:d.kd≠10):okV c (mz au nu ti d)=false:=by
 have hk:(mz au nu ti d).kd=d.kd:=rfl
 have he:(ofE (mz au nu ti d)).2≠0:=by
  unfold ofE;split
  ·assumption
  ·rw[if_neg (fun hh=>h (hk ▸ hh.1))];simp
 simp[okV,ej,he]
end Go.Proofs.Am
