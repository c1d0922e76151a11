/- AmZ3. -/
import Derived.Test.YteakcpfdfglndaaGreatDoorAmZ
set_option linter.unusedSimpArgs false
set_option linter.unusedVariables false
namespace Go.Proofs.Am
open Go Go.RowKit
variable {P:Program} {N:Nat} {fr:AFr} {σ:ASt}
theorem Good.again{x:Ctx P}{a:Act}{hv:Nat→Value}{w:World}{n:Nat}{B B':Box}(hG:Good x N (look fr) (ah σ) a hv w)(hn:ah σ n=some B)(hp: ∀off,B.perm off→B'.perm off)(hk: ∀v,Box.keep B v B' v)
  (hB:BoxRep P (env x (ah σ) hv w) w (hv n) B→BoxRep P (env x (ah σ) hv w) w (hv n) B'):Good x N (look fr) (ah (s6 σ n B')) a hv w:=by
 have hE:Env.le (env x (ah σ) hv w) (env x (upd (ah σ) n (some B')) hv w):=by
  refine ng (fun ad v hp'=>⟨hp'.1,hp'.2.1,fun m C hC hb=> ?_⟩) fun m C hC=> ?_
  ·by_cases hm:m=n
   ·subst hm
    rw[ap]at hC
    cases hC
    exact hp _ (hp'.2.2 m B hn hb)
   ·rw[al _ _ hm]at hC
    exact hp'.2.2 m C hC hb
  ·by_cases hm:m=n
   ·subst hm
    rw[hn]at hC
    cases hC
    exact⟨B',ap _ _ _,hk _⟩
   ·exact⟨C,by rw[al _ _ hm];exact hC,Box.keep_refl _ _⟩
 have hS:SimW x (upd (ah σ) n (some B')) hv w:=by
  refine hG.sim.step rfl rfl rfl (Nat.le_refl _) hE (fun m hm=>by unfold upd;split<;>simp_all) (fun _ _ _=>rfl) fun m C hC=> ?_
  by_cases hm:m=n
  ·subst hm
   rw[ap]at hC
   cases hC
   refine .inr ⟨(hB (hG.sim.box m B hn)).mono hE,fun p hp=>Box.keep_trans (hG.sim.ext m p B hp hn) (hk _),fun b hb=>⟨hG.sim.loc m B b hn hb,fun k C hk' hC hbk=> ?_⟩⟩
   rw[al _ _ hk']at hC
   exact hk' (hG.sim.inj k m C B b hC hn hbk hb)
  ·rw[al _ _ hm]at hC
   exact .inl ⟨hC,rfl,fun _ _=>rfl⟩
 refine⟨by rw[cr];exact hS,hG.size,hG.defers,fun t=> ?_⟩
 rw[cr]
 exact(hG.regs t).mono hE
theorem Cv.asL{n slot e sz:Nat}{sh:Bool}{xs:List (List PV)}(hs:look fr slot= .os n xs.length)(hn:ah σ n=some (.arr e sz sh xs)):
  Cv P N fr σ ((slot,.vs xs)::fr) (s6 σ n (.arr e sz true xs)):=fun x a hv w hG=>by
 obtain⟨hS,hE⟩:=hG.sim.shared (dv (ah σ) [n])
 have he:ar (ah σ) [n]=upd (ah σ) n (some (.arr e sz true xs)):=by
  funext m
  unfold ar upd
  by_cases hm:m=n
  ·subst hm;simp[hn,Box.share]
  ·simp[hm]
 rw[he]at hS hE
 have h0:upd (ah σ) n (some (.arr e sz true xs)) n=some (.arr e sz true xs):=ap _ _ _
 refine⟨hv,by rw[cr];exact hS,hG.size,hG.defers,fun t=> ?_⟩
 rw[cr]
 simp only[look]
 split
 ·rename_i hst
  subst hst
  have hr:=hG.regs slot
  rw[hs]at hr
  obtain⟨_,B,sz',l,k1,k2,k3,k4⟩:=hr.os_inv
  rw[hn]at k1
  cases k1
  simp only[Box.dim,Option.some.injEq,Prod.mk.injEq]at k2
  rw[k4 k2.2]
  exact .pure (hS.asList h0)
 ·exact(hG.regs t).mono hE
end Go.Proofs.Am
