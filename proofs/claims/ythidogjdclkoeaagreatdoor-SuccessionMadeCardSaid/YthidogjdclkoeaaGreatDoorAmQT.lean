/- AmQT. -/
import Derived.Test.YthidogjdclkoeaaGreatDoorAmV
import Derived.Test.YthidogjdclkoeaaGreatDoorAmZ
set_option linter.unusedSimpArgs false
set_option linter.unusedVariables false
namespace Go.Proofs.Am
open Go Go.RowKit
variable {P:Program}
end Go.Proofs.Am

/- More conversions: a nil slice in a cell that is to grow; marks; queues. -/
namespace Go.Proofs.Am
open Go Go.RowKit
variable {P:Program} {N:Nat} {fr fr' fr'':AFr} {σ σ' σ'':ASt}
theorem a8f{c:Code}{Q:o8}(hc:Cv P N fr σ fr' σ')(h:wv P N (.loop c) Q fr' σ'):wv P N (.loop c) Q fr σ:=by
 intro x a hv w hG;have h':W P N (.loop c) Q fr' σ':=h;obtain⟨hv',hG'⟩:=hc x a hv w hG;exact h' x a hv' w hG'
theorem Cv.shr{n e sz:Nat}{sh:Bool}{xs:List (List PV)}(hn:ah σ n=some (.arr e sz sh xs))(h:qn σ n (.arr e sz true xs)=σ'):Cv P N fr σ fr σ':=fun x a hv w hG=>by
 subst h;obtain⟨hS,hE⟩:=hG.sim.shared (dp (ah σ) [n])
 have he:ar (ah σ) [n]=ah (qn σ n (.arr e sz true xs)):=by
  rw[bi];funext m;unfold ar upd;by_cases hm:m=n
  ·subst hm;simp[hn,Box.share]
  ·simp[hm]
 rw[he]at hS hE;exact⟨hv,hS,hG.size,hG.defers,fun t=>(hG.regs t).mono hE⟩
end Go.Proofs.Am
