/- AmZ3. -/
import Derived.Test.YteakcpfdfglndaaGreatDoorAmZ
set_option linter.unusedSimpArgs false
set_option linter.unusedVariables false
namespace Go.Proofs.Am
open Go Go.RowKit
variable {P:Program} {N:Nat} {fr:AFr} {σ:ASt}
theorem Good.again{x:Ctx P}{a:Act}{hv:Nat→Value}{w:World}{n:Nat}{B B':Box}(hG:Good x N (look fr) (ag σ) a hv w)(hn:ag σ n=some B)(hp: ∀off,B.perm off→B'.perm off)(hk: ∀v,Box.keep B v B' v)
  (hB:BoxRep P (env x (ag σ) hv w) w (hv n) B→BoxRep P (env x (ag σ) hv w) w (hv n) B'):Good x N (look fr) (ag (wl σ n B')) a hv w:=by
 have hE:Env.le (env x (ag σ) hv w) (env x (upd (ag σ) n (some B')) hv w):=by
  refine ms (fun ad v hp'=>⟨hp'.1,hp'.2.1,fun m C hC hb=> ?_⟩) fun m C hC=> ?_
  ·by_cases hm:m=n
   ·subst hm
    rw[ap]at hC
    cases hC
    exact hp _ (hp'.2.2 m B hn hb)
   ·rw[ak _ _ hm]at hC
    exact hp'.2.2 m C hC hb
  ·by_cases hm:m=n
   ·subst hm
    rw[hn]at hC
    cases hC
    exact⟨B',ap _ _ _,hk _⟩
   ·exact⟨C,by rw[ak _ _ hm];exact hC,Box.keep_refl _ _⟩
 have hS:SimW x (upd (ag σ) n (some B')) hv w:=by
  refine hG.sim.step rfl rfl rfl (Nat.le_refl _) hE (fun m hm=>by unfold upd;split<;>simp_all) (fun _ _ _=>rfl) fun m C hC=> ?_
  by_cases hm:m=n
  ·subst hm
   rw[ap]at hC
   cases hC
   refine .inr ⟨(hB (hG.sim.box m B hn)).mono hE,fun p hp=>Box.keep_trans (hG.sim.ext m p B hp hn) (hk _),fun b hb=>⟨hG.sim.loc m B b hn hb,fun k C hk' hC hbk=> ?_⟩⟩
   rw[ak _ _ hk']at hC
   exact hk' (hG.sim.inj k m C B b hC hn hbk hb)
  ·rw[ak _ _ hm]at hC
   exact .inl ⟨hC,rfl,fun _ _=>rfl⟩
 refine⟨by rw[dc];exact hS,hG.size,hG.defers,fun t=> ?_⟩
 rw[dc]
 exact(hG.regs t).mono hE
end Go.Proofs.Am
