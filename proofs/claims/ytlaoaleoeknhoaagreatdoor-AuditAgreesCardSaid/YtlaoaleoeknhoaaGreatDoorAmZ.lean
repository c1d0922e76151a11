/- AmZ. -/
import Derived.Test.YtlaoaleoeknhoaaGreatDoorAmX
set_option linter.unusedSimpArgs false
set_option linter.unusedVariables false
namespace Go.Proofs.Am
open Go Go.RowKit
variable {w:World}{n slot sz:Nat}{r:PV}{B:Box}{a:Act}{k:FuncId}{Q:r8}
variable {P:Program} {N:Nat} {fr fr' fr'':AFr} {σ σ' σ'':ASt}
def Cv(P:Program)(N:Nat)(fr:AFr)(σ:ASt)(fr':AFr)(σ':ASt):Prop:=
 ∀(x:Ctx P) (a:Act) (hv:Nat->Value) (w:World),Good x N (look fr) (ai σ) a hv w->∃hv',Good x N (look fr') (ai σ') a hv' w
theorem Cv.refl:Cv P N fr σ fr σ:=λx a b w h=>⟨b,h⟩
theorem Cv.trans(h:Cv P N fr σ fr' σ')(k:Cv P N fr' σ' fr'' σ''):Cv P N fr σ fr'' σ'':=λx a d w e=>by
 obtain⟨b,c⟩:=h x a d w e;exact k x a b w c
theorem Cv.wk(h:Am.wk fr σ fr' σ'):Cv P N fr σ fr' σ':=λx a b w c=>⟨b,c.wk h⟩
theorem Cv.wkR(l:List (Nat×Nat))(h:Am.wkR l fr σ fr' σ'):Cv P N fr σ fr' σ':=λx a e w d=>by
 obtain⟨b,c⟩:=Good.rns l d h.1;exact⟨b,c.wk h.2⟩
theorem Cv.rn(l:List (Nat×Nat))(h:bgq l fr σ):Cv P N fr σ (a24 l fr σ).1 (a24 l fr σ).2:=λx a c w b=>Good.rns l b h
theorem Cv.weak(i: ∀t,look fr' t= .undef\/look fr' t=look fr t)(g: ∀n B,ai σ' n=some B->ai σ n=some B)(bcq: ∀t,Hin (λm=>ai σ' m≠none) (look fr' t))
  (abz: ∀n B,ai σ' n=some B->B.hin (λm=>ai σ' m≠none)) (b: ∀n,1000000<=n->ai σ n≠none->ai σ' n≠none):Cv P N fr σ fr' σ':=λx a l w c=>by
 obtain⟨e,f⟩:=c.sim.drop (s':=ai σ') g abz (λn d=>by
  obtain⟨k,j⟩:=c.sim.extin n d;exact b n j k)
 refine⟨l,e,c.size,c.defers,λt=> ?_⟩;rcases i t with h|h
 .rw[h];exact .undef _
 .refine f _ _ ?_ (bcq t);rw[h];exact c.regs t
theorem Cv.new(p:ai σ n=none)(g:(∃e sz,0<sz/\(B= .arr e sz false []\/B= .arh e sz []))):Cv P N fr σ fr (s7 σ n B):=λx a o w f=>by
 obtain⟨e,sz,k,g⟩:=g
 have c: ∀E,BoxRep P E w (.slice none 0 0) B:=λE=>by
  rcases g with rfl|rfl
  .exact⟨k,[],⟨Ad,.inl ⟨rfl,rfl⟩⟩,Ad,Ad,λi y j u h l=>by simp at h⟩
  .exact⟨k,[],⟨Ad,.inl ⟨rfl,rfl⟩⟩,Ad,Ad,λi y j u h l=>by simp at h⟩
 obtain⟨q,r⟩:=f.sim.new (d:=n) (B:=B) (hd:= .slice none 0 0) (w':=w) p rfl rfl rfl (b0f _) (λ_ _=>rfl) (λb m=>by cases m) (λE _=>c E);refine⟨upd o n (.slice none 0 0),by rw[bp];exact q,f.size,f.defers,λt=> ?_⟩;rw[bp];exact(f.regs t).mono r
theorem Cv.lift(hs:look fr slot= .nils)(g:ai σ n=none)(c:(∃e sz,0<sz/\(B= .arr e sz false []\/B= .arh e sz []))):Cv P N fr σ ((slot,.os n 0)::fr) (s7 σ n B):=λx a hv w hG=>by
 obtain⟨e,sz,hz,c⟩:=c
 have hrep: ∀E,BoxRep P E w (.slice none 0 0) B:=λE=>by
  rcases c with rfl|rfl
  .exact⟨hz,[],⟨Ad,.inl ⟨rfl,rfl⟩⟩,Ad,Ad,λi y j u hy hu=>by simp at hy⟩
  .exact⟨hz,[],⟨Ad,.inl ⟨rfl,rfl⟩⟩,Ad,Ad,λi y j u hy hu=>by simp at hy⟩
 have hdim:B.dim=some (sz,0):=by rcases c with rfl|rfl<;>rfl
 obtain⟨h,l⟩:=hG.sim.new (d:=n) (B:=B) (hd:= .slice none 0 0) (w':=w) g rfl rfl rfl (b0f _) (λ_ _=>rfl) (λb k=>by cases k) (λE _=>hrep E);refine⟨upd hv n (.slice none 0 0),by rw[bp];exact h,hG.size,hG.defers,λt=> ?_⟩;rw[bp];simp only[look];split
 .rename_i hst;subst hst;have f:=hG.regs slot;rw[hs]at f;rw[f.nils_inv];exact .os ⟨⟨none,0,rfl⟩,B,sz,0,av _ _ _,hdim,b0f _,λ_=>(av _ _ _).symm⟩
 .exact(hG.regs t).mono l
theorem Cv.again{B':Box}(f:ai σ n=some B)(i: ∀off,B.perm off->B'.perm off)(l: ∀v,Box.keep B v B' v)(q: ∀(x:Ctx P) hv w,SimW x (ai σ) hv w->BoxRep P (env x (ai σ) hv w) w (hv n) B->BoxRep P (env x (ai σ) hv w) w (hv n) B'):
  Cv P N fr σ fr (s7 σ n B'):=λx a hv w hG=>by
 have hE:Env.le (env x (ai σ) hv w) (env x (upd (ai σ) n (some B')) hv w):=by
  refine qh (λad v e=>⟨e.1,e.2.1,λm C c g=> ?_⟩) λm C c=> ?_
  .by_cases d:m=n
   .subst d;rw[av]at c
    cases c
    exact i _ (e.2.2 m B f g)
   .rw[ak _ _ d]at c;exact e.2.2 m C c g
  .by_cases d:m=n
   .subst d;rw[f]at c
    cases c
    exact⟨B',av _ _ _,l _⟩
   .exact⟨C,by rw[ak _ _ d];exact c,Box.keep_refl _ _⟩
 have o:SimW x (upd (ai σ) n (some B')) hv w:=by
  refine hG.sim.step rfl rfl rfl (b0f _) hE (λm d=>Aw) (λ_ _ _=>rfl) λm C c=> ?_;by_cases d:m=n
  .subst d;rw[av]at c
   cases c
   refine .inr ⟨(q x hv w hG.sim (hG.sim.box m B f)).mono hE,λp i=>Box.keep_trans (hG.sim.ext m p B i f) (l _),λb g=>⟨hG.sim.loc m B b f g,λk C h c j=> ?_⟩⟩;rw[ak _ _ h]at c;exact h (hG.sim.inj k m C B b c f j g)
  .rw[ak _ _ d]at c;exact .inl ⟨c,rfl,λ_ _=>rfl⟩
 refine⟨hv,by rw[bp];exact o,hG.size,hG.defers,λt=> ?_⟩;rw[bp];exact(hG.regs t).mono hE
theorem Cv.opn{e:Nat}{xs:List LP}(f:ai σ n=some (.arr e sz false xs)):Cv P N fr σ fr (s7 σ n (.arh e sz xs)):=
 Cv.again f (λo h=>h.elim) (λv=>⟨_,rfl,b0f _,λ_=>rfl⟩) λx p w q d=>by
  obtain⟨h0,m,b,g,l,k⟩:=d;exact⟨h0,m,b,g,l,λi r j u c a=> .pure (k i r j u c a)⟩
theorem Cv.shutB{e:Nat}{xs:List LP}(a:ai σ n=some (.arh e sz xs))(hx:l7 σ xs=some (xs,[])):Cv P N fr σ fr (s7 σ n (.arr e sz false xs)):=
 Cv.again a (λoff h=>h.elim) (λv=>⟨_,rfl,b0f _,λ_=>rfl⟩) λx hv w hW hb=>by
  obtain⟨h0,ys,h1,h2,h3,h4⟩:=hb;refine⟨h0,ys,h1,h2,h3,λi r j u hr hu=> ?_⟩;obtain⟨_,_,g⟩:=oy hx;obtain⟨b,p1,p2⟩:=g i r r hr hr;have hb:b=[]:=C5
  subst hb;obtain⟨_,q⟩:=ew (ns:=[]) hW (λn a=>by simp at a) p1 (λn a=>by simp at a);have:=q j u u hu hu _ (h4 i r j u hr hu);have d:a8 (ai σ) []=ai σ:=by funext m;simp[a8]
  rwa [d]at this
def cvQ(P:Program)(N:Nat)(Q:r8):r8:=λe fr σ=> ∃fr' σ',Cv P N fr σ fr' σ'/\Q e fr' σ'
theorem asq{x:Ctx P}{e:Exit}(h:lift x N (cvQ P N Q) e a w):lift x N Q e a w:=by have g: ∀(i:EX),(∃b σ d,cvQ P N Q i b σ/\Good x N (look b) (ai σ) a d w)->∃b σ d,Q i b σ/\Good x N (look b) (ai σ) a d w:=λi=>(by rintro⟨b,σ,d,⟨k,σ',n,m⟩,o⟩;obtain⟨f,j⟩:=n x a d w o;exact⟨k,σ',f,m,j⟩);cases e with|normal=>exact g _ h|exit id=>exact g _ h|ret=>exact g _ h|goto l=>exact h.elim|panic c=>exact h.elim|outgrown=>exact h.elim
theorem yw(A:P.follows .mixedOrders=true){c:Code}{ι:Type}(n:ι)(h:ι->AFr)(g:ι->ASt)(I:ι->Prop)(μ:ι->Nat)(D:ix N c=true)(J:I n)(G:Cv P N fr σ (h n) (g n))
  (f: ∀i,I i->wv P N c (yk (λfr' σ'=> ∃j,(I j/\μ j<μ i)/\Cv P N fr' σ' (h j) (g j)) (cvQ P N Q)) (h i) (g i)):wv P N (.loop c) Q fr σ:=by intro x a C w L;obtain⟨r,u⟩:=G x a C w L;refine un (λ(i:ι) k m=> ∃d,Good x N (look (h i)) (ai (g i)) k d m/\I i) μ ⟨n,r,u,J⟩ λi k m y=> ?_;obtain⟨d,q,s⟩:=y;refine wp_mono (jb A c D _ (h i) (g i) (f i s) x k d m q) λe F K z=> ?_;have b:=rq (K':=λk m=> ∃j,(∃d,Good x N (look (h j)) (ai (g j)) k d m/\I j)/\μ j<μ i) (λfr' σ' v p E B H=> ?_) z;{cases e with|normal=>exact b|exit id=>exact asq (P:=P) (Q:=Q) (e:= .exit id) b|ret=>exact asq (P:=P) (Q:=Q) (e:= .ret) b|goto l=>exact b|panic c=>exact b|outgrown=>exact b};.obtain⟨j,⟨hj,hlt⟩,hcv⟩:=B;obtain⟨t,o⟩:=hcv x v p E H;exact⟨j,⟨t,o,hj⟩,hlt⟩
theorem ng(Q:r8)(a:Nat)(h:Q (.exit a) fr σ):cvQ P N Q (.exit a) fr σ:=⟨fr,σ,Cv.refl,h⟩
theorem ar3(Q:r8)(h:Q .ret fr σ):cvQ P N Q .ret fr σ:=⟨fr,σ,Cv.refl,h⟩
def grp(b:Nat):List Box->ASt
 |[]=>[]
 |B::r=>(b,B)::grp (b+1) r
theorem j9: ∀(l:List Box) (b n:Nat),ai (grp b l) n=if b<=n then l[n - b]? else none
 |[],b,n=>by simp[grp,ai]
 |B::r,b,n=>by
  simp only[grp,ai];by_cases h:b=n
  .subst h;simp
  .rw[if_neg h,j9 r (b+1) n];by_cases h2:b+1<=n
   .rw[if_pos h2,if_pos (by omega),show n - b=(n - (b+1))+1 by omega];simp
   .rw[if_neg h2];by_cases h3:b<=n
    .omega
    .rw[if_neg h3]
theorem mz(l:List Box)(b j:Nat):ai (grp b l) (b+j)=l[j]?:=by rw[j9];simp
theorem adl(l:List Box)(b n:Nat)(h:n<b):ai (grp b l) n=none:=by rw[j9,if_neg Aa]
/- Contracts at whatever world, as contracts on abstract values, and back; what is known of the variables. -/
variable {P:Program}
theorem ij(n:Nat):fg [] [] n=none:=by unfold fg;split<;>simp
theorem ab4{args:LP}(d: ∀us w,(callFunc k us).run P w= .ok (.enter k us) w)
  (h: ∀(w:World) (V:Addr->Prop) (vals:List Value),Laid P w->(∀a,V a->a.block<w.heap.size)->vals.length=args.length->
   (∀(i:Nat) (v:Value) (u:PV),vals[i]? =some v->args[i]? =some u->∃E:Env,RV E v u/\(∀a x,E.pc a x->w.cell? a=some x/\V a))->
   Calls P k vals.toArray w λe W'=> ∃v,e= .returned v/\Below w.heap.size w W'/\RP (λa x=>W'.cell? a=some x/\(V a\/w.heap.size<=a.block)) v r):
  Den P k args [] r [] []:=by refine⟨d,λw V t y vals g j l=> ?_⟩;have D: ∀b,¬(cx (P:=P) w V t [] y).E b:=λb=>(by rintro⟨n,B,h,_⟩;rw[ij]at h;cases h);refine(h w V vals (g.tabs w λb o s=>(g.glb b o s).1) (λa q=>(g.vis a q).2) j λi v u A z=>⟨_,l i v u A z,λa x q=>⟨q.1,?_⟩⟩).mono λF G=> ?_;{rcases q.2.1 with c|c|c;{exact c};{have:=block_lt_of_cell q.1;simp only[cx]at c;omega};.exact(D _ c).elim};.rintro⟨v,rfl,f,hR⟩;refine⟨v,t,rfl,{os:=f.os,tape:=f.tape,output:=f.output,size:=f.size,old:=λb s _=>f.block b s,box:=λn B h=> ?_,loc:=λn B b h=> ?_,inj:=λn m B C b h=> ?_,ext:=λn p B c h=> ?_,vis:=g.vis,extin:=λn h=> ?_,glb:=g.glb,tabs:=g.tabs},.pure (RP.mono (λa x h=>⟨h.1,?_,λn B f=> ?_⟩) hR)⟩;{rw[ij]at h;cases h};{rw[ij]at h;cases h};{rw[ij]at h;cases h};{rw[ij]at h;cases h};{simp[cx,ij]at h};{rcases h.2 with c|c;{exact .inl c};.exact .inr (.inl c)};.rw[ij]at f;cases f
theorem ab9(_:Laid P w):Tabs P (λb o=>w.heap[b]? =some o):=λ_ _=>⟨trivial⟩
theorem vq{args:LP}(D:Den P k args [] r [] [])(W:World)(q:Laid P W)(V:Addr->Prop)(vals:List Value)(w:vals.length=args.length)
  (h: ∀(i:Nat) (v:Value) (u:PV),vals[i]? =some v->args[i]? =some u->RP (λa x=>W.cell? a=some x/\V a) v u):
  Calls P k vals.toArray W λe W'=> ∃v,e= .returned v/\W.grownBy W' none/\∃E:Env,RV E v r/\∀a x,E.pc a x->W'.cell? a=some x/\(V a\/W.heap.size<=a.block):=by have s:SimW (cx (P:=P) W (λa=>V a/\a.block<W.heap.size) (λ_=>Go.undef) [] (λb o=>W.heap[b]? =some o)) (fg [] []) (λ_=>Go.undef) W:=(by refine {os:=rfl,tape:=rfl,output:=rfl,size:=b0f _,old:=λ_ _ _=>rfl,box:=λn B h=> ?_,loc:=λn B b h=> ?_,inj:=λn m B C b h=> ?_,ext:=λn p B c h=> ?_,vis:=λa d=>⟨?_,d.2⟩,extin:=λn h=> ?_,glb:=λb o f=>⟨f,?_⟩,tabs:=ab9 q};{rw[ij]at h;cases h};{rw[ij]at h;cases h};{rw[ij]at h;cases h};{rw[ij]at h;cases h};{rintro⟨n,B,h,_⟩;rw[ij]at h;cases h};{simp[cx,ij]at h};.rintro⟨n,B,h,_⟩;rw[ij]at h;cases h);refine(D.run W _ _ _ vals s w λi v u l j=> .pure (RP.mono (λa x ⟨c,t⟩=>⟨c,.inl ⟨t,block_lt_of_cell c⟩,λn B g=>by rw[ij]at g;cases g⟩) (h i v u l j))).mono λy z=> ?_;.rintro⟨v,hv',rfl,hS',hR⟩;refine⟨v,rfl,⟨hS'.os,hS'.tape,hS'.output,hS'.size,λb f _=> ?_⟩,_,hR,λa x d=>⟨d.1,?_⟩⟩;{refine hS'.old b f ?_;rintro⟨n,B,h,_⟩;rw[ij]at h;cases h};.rcases d.2.1 with c|c|⟨n,B,c,_⟩;{exact .inl c.1};{exact .inr c};.rw[ij]at c;cases c
theorem at5{e:Addr->Value->Prop}{v:Value}{xs:List LP}(h:RP e v (.vs xs))(hs: ∀x∈xs,x.length=sz): ∃(a:Option Addr) (c:Nat) (U:Nat->Nat->Value),v= .slice a xs.length c/\xs.length<=c/\
  (0<xs.length->∃ad,a=some ad/\∀i x j u,xs[i]? =some x->x[j]? =some u->e (ad.add (i*sz+j)) (U i j))/\∀i x j u,xs[i]? =some x->x[j]? =some u->RP e (U i j) u:=by
 obtain⟨a,c,f,U,k,l,n,p,m,o⟩:=h.vs_inv;refine⟨a,c,U,k,l,λg=> ?_,o⟩;obtain⟨d,b⟩: ∃d,d∈xs:=by cases xs with|nil=>simp at g|cons x r=>exact⟨x,Ad⟩
 have:f=sz:=by rw[<-n d b,hs d b]
 subst this;exact m g
/- A cell that holds a nil slice which is to grow; the Builder's cells. -/
variable {P:Program} {N:Nat} {fr:AFr} {σ:ASt}
theorem Good.again{x:Ctx P}{hv:Nat->Value}{B':Box}(f:Good x N (look fr) (ai σ) a hv w)(g:ai σ n=some B)(j: ∀off,B.perm off->B'.perm off)(q: ∀v,Box.keep B v B' v)
  (s:BoxRep P (env x (ai σ) hv w) w (hv n) B->BoxRep P (env x (ai σ) hv w) w (hv n) B'):Good x N (look fr) (ai (s7 σ n B')) a hv w:=by
 have l:Env.le (env x (ai σ) hv w) (env x (upd (ai σ) n (some B')) hv w):=by refine qh (λad v e=>⟨e.1,e.2.1,λm C c h=> ?_⟩) λm C c=> ?_;{by_cases d:m=n;{subst d;rw[av]at c;cases c;exact j _ (e.2.2 m B g h)};.rw[ak _ _ d]at c;exact e.2.2 m C c h};.by_cases d:m=n;{subst d;rw[g]at c;cases c;exact⟨B',av _ _ _,q _⟩};.exact⟨C,by rw[ak _ _ d];exact c,Box.keep_refl _ _⟩
 have r:SimW x (upd (ai σ) n (some B')) hv w:=by refine f.sim.step rfl rfl rfl (b0f _) l (λm d=>Aw) (λ_ _ _=>rfl) λm C c=> ?_;by_cases d:m=n;{subst d;rw[av]at c;cases c;refine .inr ⟨(s (f.sim.box m B g)).mono l,λp j=>Box.keep_trans (f.sim.ext m p B j g) (q _),λb h=>⟨f.sim.loc m B b g h,λk C i c o=> ?_⟩⟩;rw[ak _ _ i]at c;exact i (f.sim.inj k m C B b c g o h)};.rw[ak _ _ d]at c;exact .inl ⟨c,rfl,λ_ _=>rfl⟩
 refine⟨by rw[bp];exact r,f.size,f.defers,λt=> ?_⟩;rw[bp];exact(f.regs t).mono l
theorem Cv.asL{e:Nat}{sh:Bool}{xs:List LP}(hs:look fr slot= .os n xs.length)(b:ai σ n=some (.arr e sz sh xs)):
  Cv P N fr σ ((slot,.vs xs)::fr) (s7 σ n (.arr e sz true xs)):=λx a hv w hG=>by
 obtain⟨hS,hE⟩:=hG.sim.shared (em (ai σ) [n])
 have he:a8 (ai σ) [n]=upd (ai σ) n (some (.arr e sz true xs)):=by
  funext m;unfold a8 upd;by_cases g:m=n
  .subst g;simp[b,Box.share]
  .simp[g]
 rw[he]at hS hE;have h0:upd (ai σ) n (some (.arr e sz true xs)) n=some (.arr e sz true xs):=av _ _ _;refine⟨hv,by rw[bp];exact hS,hG.size,hG.defers,λt=> ?_⟩;rw[bp];simp only[look];split
 .rename_i hst;subst hst;have c:=hG.regs slot;rw[hs]at c;obtain⟨_,B,i,l,d,f,j,h⟩:=c.os_inv;rw[b]at d
  cases d
  simp only[Box.dim,b0c,b0t]at f;rw[h f.2];exact .pure (hS.asList h0)
 .exact(hG.regs t).mono hE
end Go.Proofs.Am
