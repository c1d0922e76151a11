/- AmQT. -/
import Derived.Test.YtlaoaleoeknhoaaGreatDoorAmZ
set_option linter.unusedSimpArgs false
set_option linter.unusedVariables false
namespace Go.Proofs.Am
open Go Go.RowKit
variable {n sz:Nat}
variable {P:Program}
theorem SimW.toQ{x:Ctx P}{s:St}{hv:Nat->Value}{w:World}(h:SimW x s hv w){e k:Nat}{xs:List LP}(hn:s n=some (.arr e sz false xs))(a2:n<1000000)(O: ∀m B,m≠n->s m=some B->B.hin (λj=>j≠n)):
  SimW x (upd s n (some (.arq e sz k xs))) hv w/\∀v u,RV (env x s hv w) v u->Hin (λj=>j≠n) u->RV (env x (upd s n (some (.arq e sz k xs))) hv w) v u:=by
 have N: ∀m B,m≠n->s m=some B->upd s n (some (.arq e sz k xs)) m=some B:=λm B d f=>by rw[ak _ _ d];exact f
 have K: ∀m B,m≠n->upd s n (some (.arq e sz k xs)) m=some B->s m=some B:=λm B d f=>by rw[ak _ _ d]at f;exact f
 have H: ∀a v,pcOf x s hv w a v->pcOf x (upd s n (some (.arq e sz k xs))) hv w a v:=λa v L=>⟨L.1,L.2.1,λm B f Q=>by
  by_cases d:m=n
  .subst d;exact(L.2.2 m _ hn Q).elim
  .exact L.2.2 m B (K m B d f) Q⟩
 have U: ∀v u,RV (env x s hv w) v u->Hin (λj=>j≠n) u->RV (env x (upd s n (some (.arq e sz k xs))) hv w) v u:=λv u W A=>
  W.hin (F:=env x (upd s n (some (.arq e sz k xs))) hv w) H (λm o v d=>by rintro⟨⟨cs,I⟩,c⟩;exact⟨⟨cs,N m _ d I⟩,c⟩) (λm k v d=>by rintro⟨E,B,sz,l,I,c⟩;exact⟨E,B,sz,l,N m _ d I,c⟩) (λm k i o v d=>by rintro⟨E,B,sz,l,I,c⟩;exact⟨E,B,sz,l,N m _ d I,c⟩) (λm v d=>by rintro⟨⟨O,B,I,hM⟩,c⟩;exact⟨⟨O,B,N m _ d I,hM⟩,c⟩) (λm k v d=>by rintro⟨E,B,sz,l,I,c⟩;exact⟨E,B,sz,l,N m _ d I,c⟩) A
 have D: ∀m B,upd s n (some (.arq e sz k xs)) m=some B->∃C,s m=some C:=λm B f=>by by_cases d:m=n;{subst d;exact⟨_,hn⟩};.exact⟨B,K m B d f⟩
 refine⟨{h with
  extin:=λm d=>⟨λS=>by
   have q:=h.extin m d;by_cases G:m=n
   .subst G;rw[av]at S;cases S
   .rw[ak _ _ G]at S;exact q.1 S,(h.extin m d).2⟩
  box:=λm B f=> ?_
  loc:=λm B b f O=>by obtain⟨C,V⟩:=D m B f;exact h.loc m C b V O
  inj:=λm T B C b f V=>by obtain⟨Z,a0⟩:=D m B f;obtain⟨C',a1⟩:=D T C V;exact h.inj m T Z C' b a0 a1
  ext:=λm p B hx f=>by
   by_cases G:m=n
   .subst G;have:=(h.extin m (by rw[hx];simp)).2;omega
   .exact h.ext m p B hx (K m B G f)},U⟩
 by_cases d:m=n
 .subst d;rw[av]at f;cases f;obtain⟨h0,M,q,z,y,J⟩:=h.box m _ hn;exact⟨h0,M,q.queue,z,y,λi r j u hr A=>(J i r j u hr A).mono H⟩
 have R:=K m B d f;have g:=h.box m B R;have hin:=O m B d R
 cases B with|cells cs=>obtain⟨b,t,arr,q,z,J,X⟩:=g;exact⟨b,t,arr,q,z,J,λi u A=>U _ _ (X i u A) (hin u (b0e A))⟩|arr e sz sh xs=>obtain⟨h0,M,q,z,y,J⟩:=g;exact⟨h0,M,q,z,y,λi x j u hx A=>(J i x j u hx A).mono H⟩|arh e sz xs=>obtain⟨h0,M,q,z,y,J⟩:=g;exact⟨h0,M,q,z,y,λi x j u hx A=>U _ _ (J i x j u hx A) (hin x (b0e hx) u (b0e A))⟩|mp es=>obtain⟨b,arr,q,z,J,X⟩:=g;refine⟨b,arr,q,z,J,λi p L=> ?_⟩;obtain⟨en,e1,e2,e3,e4⟩:=X i p L;exact⟨en,e1,e2,e3.mono H,U _ _ e4 (hin p (b0e L))⟩|it T k' d'=>obtain⟨r,b,q,z,⟨⟨Y,Z,I,hM⟩,c⟩⟩:=g;exact⟨r,b,q,z,⟨⟨Y,Z,N T _ hin I,hM⟩,c⟩⟩|si l p=>exact g|arq e' sz' k' xs'=>obtain⟨h0,M,q,z,y,J⟩:=g;exact⟨h0,M,q,z,y,λi x j u hx A=>(J i x j u hx A).mono H⟩|dead sz l=>exact g
def bmp(fr:AFr):AFr->Prop
 |[]=>True
 |(s,u)::r=>(bv (look fr s) λv=>v=u)/\bmp fr r
theorem amz{fr:AFr}: ∀{fr2:AFr},bmp fr fr2->∀t,look fr2 t= .undef\/look fr2 t=look fr t
 |[],_,t=> .inl rfl
 |(s,u)::r,h,t=>by
  simp only[look];split
  .rename_i hs;subst hs;exact .inr h.1.symm
  .exact amz h.2 t
def rmv(n:Nat):ASt->ASt
 |[]=>[]
 |(m,B)::r=>if m=n then rmv n r else(m,B)::rmv n r
theorem ajz{m:Nat}(h:m≠n): ∀σ:ASt,ai (rmv n σ) m=ai σ m
 |[]=>rfl
 |(k,B)::r=>by
  simp only[rmv,ai];by_cases hk:k=n
  .rw[if_pos hk,if_neg (by omega)];exact ajz h r
  .rw[if_neg hk];simp only[ai];split
   .rfl
   .exact ajz h r
theorem bdl(fr:AFr):bmp fr []=True:=(rfl)
theorem a3z(fr:AFr)(s:Nat)(u:PV)(r:AFr):bmp fr ((s,u)::r)=((bv (look fr s) λv=>v=u)/\bmp fr r):=(rfl)
attribute [go_sem ↓] bdl a3z
/- More conversions: a nil slice in a cell that is to grow; marks; queues. -/
variable {P:Program} {N:Nat} {fr fr' fr'':AFr} {σ σ' σ'':ASt}
theorem ak7{c:Code}{Q:r8}(f:Cv P N fr σ fr' σ')(h:wv P N (.loop c) Q fr' σ'):wv P N (.loop c) Q fr σ:=by intro x a g w i;have e:W P N (.loop c) Q fr' σ':=h;obtain⟨b,d⟩:=f x a g w i;exact e x a b w d
theorem Cv.cellLift{m j e:Nat}{cs:LP}(c:ai σ m=some (.cells cs))(q:cs[j]? =some .nils)(f:ai σ n=none)(p:0<sz):Cv P N fr σ fr (s7 (s7 σ n (.arr e sz false [])) m (.cells (cs.set j (.os n 0)))):=λx a hv w hG=>by
 have hmn:m≠n:=λh=>by rw[h,f]at c;cases c
 obtain⟨hS,hE⟩:=hG.sim.new (d:=n) (B:= .arr e sz false []) (hd:= .slice none 0 0) (w':=w) f rfl rfl rfl (b0f _) (λ_ _=>rfl) (λb hb=>by cases hb)
  (λE _=>⟨p,[],⟨Ad,.inl ⟨rfl,rfl⟩⟩,Ad,Ad,λi y j u hy hu=>by simp at hy⟩)
 have hG1:Good x N (look fr) (ai (s7 σ n (.arr e sz false []))) a (upd hv n (.slice none 0 0)) w:=⟨by rw[bp];exact hS,hG.size,hG.defers,λt=>by rw[bp];exact(hG.regs t).mono hE⟩;have hfn:ai (s7 σ n (.arr e sz false [])) n=some (.arr e sz false []):=by rw[bp,av]
 refine⟨_,hG1.again (n:=m) (B:= .cells cs) (B':= .cells (cs.set j (.os n 0))) (by rw[bp,ak _ _ hmn];exact c) (λr h=>h) (λv=>⟨⟨_,rfl⟩,rfl⟩) λhb=> ?_⟩;obtain⟨b,t,arr,k,l,o,g⟩:=hb;refine⟨b,t,arr,k,l,by simp[o],λi u hu=> ?_⟩;rw[b2x]at hu;split at hu
 .rename_i hij;subst hij;split at hu
  .cases hu
   rw[(g _ _ q).nils_inv];exact .os ⟨⟨none,0,rfl⟩,.arr e sz false [],sz,0,hfn,rfl,b0f _,λ_=>(av _ _ _).symm⟩
  .cases hu
 .exact g i u hu
theorem Cv.hint(f:ai σ n=none):Cv P N fr σ fr (s7 σ n (.dead 1 0)):=λx a j w c=>by
 obtain⟨g,i⟩:=c.sim.new (d:=n) (B:= .dead 1 0) (hd:= .bool false) (w':=w) f rfl rfl rfl (b0f _) (λ_ _=>rfl) (λb e=>by cases e)
  (λE _=>⟨λb e=>(by cases e),λh=>Aa⟩)
 exact⟨_,by rw[bp];exact g,c.size,c.defers,λt=>by rw[bp];exact(c.regs t).mono i⟩
theorem Cv.toQ(slot n e sz k:Nat)(xs:List LP)(c:AFr)(d:LN)(hs:look fr slot= .os n xs.length)(C:ai σ n=some (.arr e sz false xs))(s:n<1000000)(g:d.contains n=false)(f:bmp fr c)(hd:bcq d c=true)(G:abz d (rmv n σ)=true):
  Cv P N fr σ ((slot,.oq n k)::c) (s7 σ n (.arq e sz k xs)):=λx a I w h=>by
 have b: ∀j,j∈d->j≠n:=λj M o=>by
  subst o;simp at g;exact g M
 obtain⟨v,J⟩:=h.sim.toQ (k:=k) C s λm B D H=>by
  have:=iy G m B (by rw[ajz D];exact H)
  cases B with
  |cells cs=>exact λu y=>(this u y).mono b
  |arr=>trivial
  |arh e sz xs=>exact λr i u y=>(this r i u y).mono b
  |mp es=>exact λe L=>(this e L).mono b
  |it m k dn=>exact b m this
  |si l p=>trivial
  |arq=>trivial
  |dead sz l=>trivial
 refine⟨I,by rw[bp];exact v,h.size,h.defers,λt=> ?_⟩;rw[bp];simp only[look];split
 .rename_i hst;subst hst;have i:=h.regs slot;rw[hs]at i;obtain⟨⟨E,K,q⟩,B,O,l,A,z,Q,F⟩:=i.os_inv;rw[C]at A
  cases A
  simp only[Box.dim,b0c,b0t]at z;exact .oq ⟨⟨E,_,K,q⟩,.arq e sz k xs,sz,k,av _ _ _,rfl,b0f _,λ_=>F z.2⟩
 .rcases amz f t with ht|ht
  .rw[ht];exact .undef _
  .have h9:=ach hd t;rw[ht]at h9 ⊢;exact J _ _ (h.regs t) (h9.mono b)
theorem Cv.cellNil{m j:Nat}{cs:LP}(k:ai σ m=some (.cells cs))(p:cs[j]? =some .nils):Cv P N fr σ fr (s7 σ m (.cells (cs.set j (.vs [])))):=λx a l w r=>by
 refine⟨l,r.again (B:= .cells cs) (B':= .cells (cs.set j (.vs []))) k (λq h=>h.elim) (λv=>⟨⟨_,rfl⟩,rfl⟩) λg=> ?_⟩;obtain⟨b,t,d,f,n,o,e⟩:=g;refine⟨b,t,d,f,n,by simp[o],λi u c=> ?_⟩;rw[b2x]at c;split at c
 .rename_i hij;subst hij;split at c
  .cases c
   rw[(e _ _ p).nils_inv];exact .pure (.vs (sz:=0) (λ_ _=>undef) rfl (b0f _) Ad Ad Ad Ad)
  .cases c
 .exact e i u c
theorem Cv.shr{e:Nat}{sh:Bool}{xs:List LP}(c:ai σ n=some (.arr e sz sh xs))(h:s7 σ n (.arr e sz true xs)=σ'):Cv P N fr σ fr σ':=λx a hv w hG=>by
 subst h;obtain⟨hS,hE⟩:=hG.sim.shared (em (ai σ) [n])
 have he:a8 (ai σ) [n]=ai (s7 σ n (.arr e sz true xs)):=by
  rw[bp];funext m;unfold a8 upd;by_cases b:m=n
  .subst b;simp[c,Box.share]
  .simp[b]
 rw[he]at hS hE;exact⟨hv,hS,hG.size,hG.defers,λt=>(hG.regs t).mono hE⟩
def a5a(cargs:LP)(ext0:List Box)(el sz kk kk2:Nat)(xs xs2:List LP)(r:PV)(nb ext0':List Box)(ren0:LN)(c m:Nat)(ren:LN)(us:LP)(dst:Option Nat)(σ:ASt)(K:KT):Prop:=
 bv (ye σ ren us) λp=>bv (bfm σ ren0) λq=>bv (ai σ c) λC=>bv (ai σ m) λM=>match p,q with
 |some (cg,ns1),some (e,ns2)=>(cg=cargs/\e=ext0/\C=some (.cells [.os m kk])/\M=some (.arr el sz false xs))/\(zt ren=true/\aoy ren (ns1++ns2)=true/\ahk ext0 ext0'/\afa as6 nb/\(wh (dst.getD 0) nb).all (λn=>(ai σ n).isNone)=true/\nb.length<1000000/\okR nb.length (ext0.length+2) r)/\
   bv (bml (rnm (dst.getD 0) ren) r) λu=>bv (aak σ (dst.getD 0) (ns1++ns2) ren (ext0'++[.cells [.os m kk2],.arr el sz false xs2]) nb) λδ=>K u δ ((ns1++ns2)++(ren++wh (dst.getD 0) nb))
 |_,_=>False
theorem bsw{P:Program}{k:FuncId}{v w:LP}{ext:List Box}{el kk p:Nat}{xs i:List LP}{r:PV}{M l:List Box}(D:Den P k w ext r M l)(s g:List Box)(t:LN)(c m:Nat)(q:LN)
  (z:ext=s++[.cells [.os (1000000+(s.length+1)) kk],.arr el sz false xs]) (o:l=g++[.cells [.os (1000000+(s.length+1)) p],.arr el sz false i]) (hg:xs.length<=i.length) (H:q=t++[c,m]) {us:LP} {x:Option Nat} {σ:ASt} {K:KT}
  (h:a5a w s el sz kk p xs i r M g t c m q (us++v) x σ K):zh P (.fn k v) us x σ K:=by
 simp only[a5a,bv]at h;split at h
 rotate_left
 .exact h.elim
 rename_i cg O e T h1 h2;obtain⟨⟨rfl,rfl,hC,R⟩,⟨a1,a2,Z,a4,a5,a6,a7⟩,hK⟩:=h;obtain⟨W,l2,l3⟩:=abm h2;obtain⟨G,X⟩:=wo Z;have F:=mj a1;have y:ext.length=e.length+2:=by rw[z];simp
 have hc:q[e.length]? =some c:=by rw[H,b0y Aa,W];simp
 have Q:q[e.length+1]? =some m:=by rw[H,b0y Aa,W];simp
 have C:qp q m=some (e.length+1):=lh F Q;have A:ext[e.length]? =some (.cells [.os (1000000+(e.length+1)) kk]):=by rw[z,b0y Aa];simp
 have I:ext[e.length+1]? =some (.arr el sz false xs):=by rw[z,b0y Aa];simp
 have B:l[e.length]? =some (.cells [.os (1000000+(e.length+1)) p]):=by rw[o,b0y Aa,G];simp
 have E:l[e.length+1]? =some (.arr el sz false i):=by rw[o,b0y Aa,G];simp
 have N:(g++[.cells [.os m p],.arr el sz false i])[e.length]? =some (.cells [.os m p]):=by rw[b0y Aa,G];simp
 have U:(g++[.cells [.os m p],.arr el sz false i])[e.length+1]? =some (.arr el sz false i):=by rw[b0y Aa,G];simp
 have V: ∀(j:Nat),j<e.length+2->j<e.length\/j=e.length\/j=e.length+1:=λj d=>Aa
 refine⟨k,v,cg,ext,r,M,M,l,g++[.cells [.os m p],.arr el sz false i],O,T,q,x.getD 0,rfl,D,h1,⟨by rw[y,H];simp[W],l2,λj n d=> ?_⟩,F,λn J=>kj a2 J,⟨?_,λj a d=> ?_⟩,⟨?_,λj b d=> ?_⟩,a4m (allL_iff.1 a4),λn J=> ?_,a6,by rw[y];exact a7,rfl,hK⟩
 .have f:j<e.length+2:=(by have:=(dm.1 d).1;rw[H]at this;simp at this;omega);rcases V j f with f|rfl|rfl;{have hj0:t[j]? =some n:=(by rw[H,b09 Aa]at d;exact d);have he:ext[j]? =e[j]?:=(by rw[z,b09 f]);rw[he];rcases l3 j n hj0 with h|h;{exact .inr (.inr (.inl h))};.exact .inr (.inl h)};{rw[hc]at d;cases d;exact .inl ⟨[.os m kk],[.os (1000000+(e.length+1)) kk],[],hC,by simp[jk,ado,C],Ad,A⟩};.rw[Q]at d;cases d;exact .inr (.inl ⟨_,_,_,R,I⟩)
 .rw[z,o];simp[G]
 .have f:j<e.length+2:=(by have:=(dm.1 d).1;omega);rcases V j f with f|rfl|rfl;{rw[z,b09 f]at d;obtain⟨b,L,S,_⟩:=X j a d;exact⟨b,by rw[o,b09 Aa];exact L,S⟩};{rw[A]at d;cases d;exact⟨_,B,trivial⟩};.rw[I]at d;cases d;exact⟨_,E,rfl,hg⟩
 .rw[o];simp
 .have f:j<e.length+2:=(by have:=(dm.1 d).1;rw[o]at this;simp at this;omega);rcases V j f with f|rfl|rfl;{rw[o,b09 Aa]at d;refine⟨b,by rw[b09 Aa];exact d,.inl ⟨?_,rfl⟩⟩;obtain⟨b',L,_,S⟩:=X j _ (bq f);rw[d]at L;cases L;exact S};{rw[B]at d;cases d;refine⟨_,N,.inr ⟨_,rfl,λu Y=> ?_,?_⟩⟩;{simp only[b1h]at Y;subst Y;exact .inr Aa};.have J: ¬(1000000+(e.length+1)<1000000):=Aa;have hr:rnm (x.getD 0) q (1000000+(e.length+1))=m:=(by simp only[rnm,if_neg J,b3h,bd,Q,b1o]);simp only[b07,b0o,bej,hr]};.rw[E]at d;cases d;exact⟨_,U,.inl ⟨trivial,rfl⟩⟩
 .have:=b06.1 a5 n J;simpa using this
attribute [go_sem ↓] a5a
end Go.Proofs.Am
