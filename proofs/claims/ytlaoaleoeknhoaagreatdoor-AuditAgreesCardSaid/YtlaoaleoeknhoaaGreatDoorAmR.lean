/- AmR. -/
import Derived.Test.YtlaoaleoeknhoaaGreatDoorAmM
set_option linter.unusedSimpArgs false
set_option linter.unusedVariables false
namespace Go.Proofs.Am
open Go Go.RowKit
variable {P:Program}
inductive EX where
 |normal
 |exit (id:Nat)
 |ret
abbrev r8:=EX->AFr->ASt->Prop
variable {P:Program}{σ:ASt}{w:World}{N m n:Nat}{x:Ctx P}{hv:Nat->Value}{d:LN}{u:PV}{c:Code}{fr:AFr}{B:Box}{a:Act}{ι:Type}
def lift(x:Ctx P)(N:Nat)(Q:r8):Exit->Act->World->Prop
 | .normal,a,w=> ∃fr σ hv,Q .normal fr σ/\Good x N (look fr) (ai σ) a hv w
 | .exit id,a,w=> ∃fr σ hv,Q (.exit id) fr σ/\Good x N (look fr) (ai σ) a hv w
 | .ret,a,w=> ∃fr σ hv,Q .ret fr σ/\Good x N (look fr) (ai σ) a hv w
 |_,_,_=>False
def W(P:Program)(N:Nat)(c:Code)(Q:r8)(fr:AFr)(σ:ASt):Prop:=
 ∀(x:Ctx P) (a:Act) (hv:Nat->Value) (w:World),Good x N (look fr) (ai σ) a hv w->c.wp P (lift x N Q) a w
def yk(K:AFr->ASt->Prop)(Q:r8):r8
 | .normal,fr,σ=>K fr σ
 |e,fr,σ=>Q e fr σ
def af2(id:Nat)(Q:r8):r8
 | .exit id',fr,σ=>if id'=id then Q .normal fr σ else Q (.exit id') fr σ
 |e,fr,σ=>Q e fr σ
def wv(P:Program)(N:Nat):Code->r8->AFr->ASt->Prop
 | .skip,Q,fr,σ=>Q .normal fr σ
 | .region _ ops d,Q,fr,σ=>
  match d with
  |true=>evD P ops ops.toList fr σ [] λfr' σ' g=>am7 ops g.reverse=true/\Q .normal fr' σ'
  |false=>ql P ops ops.toList fr σ (Q .normal)
 | .seq a b,Q,fr,σ=>wv P N a (yk (wv P N b Q) Q) fr σ
 | .cond c a b,Q,fr,σ=>match ev fr c with
  | .bool t=>(t=true->wv P N a Q fr σ)/\(t=false->wv P N b Q fr σ)
  |_=>False
 | .block id c,Q,fr,σ=>wv P N c (af2 id Q) fr σ
 | .loop c,Q,fr,σ=>W P N (.loop c) Q fr σ
 | .exit id,Q,fr,σ=>Q (.exit id) fr σ
 | .ret,Q,fr,σ=>Q .ret fr σ
 | .label _,Q,fr,σ=>Q .normal fr σ
 | .scope c,Q,fr,σ=>W P N (.scope c) Q fr σ
 |c,Q,fr,σ=>W P N c Q fr σ
def ix(N:Nat):Code->Bool
 | .region _ ops _=>agt N ops
 | .seq a b=>ix N a&&ix N b
 | .cond _ a b=>ix N a&&ix N b
 | .block _ c=>ix N c
 |_=>true
theorem rq{K:AFr->ASt->Prop}{Q:r8}{K':Act->World->Prop}(d: ∀fr σ a hv w,K fr σ->Good x N (look fr) (ai σ) a hv w->K' a w){e:Exit}(h:lift x N (yk K Q) e a w):
  Exit.then K' (lift x N Q) e a w:=by cases e with|normal=>obtain⟨fr,σ,hv,f,b⟩:=h;exact d fr σ a hv w f b|exit id=>exact h|ret=>exact h|goto l=>exact h.elim|panic c=>exact h.elim|outgrown=>exact h.elim
theorem jb(j:P.follows .mixedOrders=true): ∀(c:Code),ix N c=true->∀(Q:r8) (fr:AFr) (σ:ASt),wv P N c Q fr σ->W P N c Q fr σ
 | .skip,hc,Q,fr,σ,h,x,a,hv,w,hG=>wp_skip ⟨fr,σ,hv,h,hG⟩
 | .label _,hc,Q,fr,σ,h,x,a,hv,w,hG=>wp_label ⟨fr,σ,hv,h,hG⟩
 | .exit id,hc,Q,fr,σ,h,x,a,hv,w,hG=>wp_exit ⟨fr,σ,hv,h,hG⟩
 | .ret,hc,Q,fr,σ,h,x,a,hv,w,hG=>wp_ret ⟨fr,σ,hv,h,hG⟩
 | .loop c,hc,Q,fr,σ,h,x,a,hv,w,hG=>h x a hv w hG
 | .scope c,hc,Q,fr,σ,h,x,a,hv,w,hG=>h x a hv w hG
 | .seq c d,hc,Q,fr,σ,h,x,a,hv,w,hG=>by
  have h1:=jb j c Fj _ fr σ h x a hv w hG
  exact wp_seq (wp_mono h1 λe o r f=>rq (λb σ' p k q m i=>jb j d Fi Q b σ' m x p k q i) f)
 | .cond c d e,hc,Q,fr,σ,h,x,a,hv,w,hG=>by
  simp only[wv]at h;split at h
  .rename_i t ht;have s:=hG.opnd c;have n:evL (look fr) c= .bool t:=ht;rw[n]at s;exact wp_cond_split s.bool_inv (λh1=>jb j d Fj Q fr σ (h.1 h1) x a hv w hG) λh1=>jb j e Fi Q fr σ (h.2 h1) x a hv w hG
  .exact h.elim
 | .block id c,hc,Q,fr,σ,h,x,a,hv,w,hG=>by
  have h1:=jb j c hc _ fr σ h x a hv w hG;refine wp_block (wp_mono h1 λe o r f=> ?_)
  cases e with
  |normal=>exact f
  |exit id'=>
   obtain⟨b,σ',g,f,i⟩:=f;simp only[af2]at f;simp only[Exit.inBlock];split
   .rename_i hid;rw[if_pos hid]at f;exact⟨b,σ',g,f,i⟩
   .rename_i hid;rw[if_neg hid]at f;exact⟨b,σ',g,f,i⟩
  |ret=>exact f
  |goto l=>exact f.elim
  |panic c=>exact f.elim
  |outgrown=>exact f.elim
 | .region id ops d,hc,Q,fr,σ,h,x,a,hv,w,hG=>by
  simp only[wv]at h;have u:agt N ops=true:=hc
  cases d with
  |true=>
   exact a7r j u h hG λb σ' o g r m i=>⟨b,σ',g,m,i⟩
  |false=>
   refine wp_region ?_;have:=p7 (Q:=lift x N Q) u ops.toList 0 fr σ a hv w Ad h hG λb σ' o g r m i=>⟨b,σ',g,m,i⟩;rw[b7j]
   simpa using this
 | .rangeFunc ..,hc,Q,fr,σ,h,x,a,hv,w,hG=>h x a hv w hG
 | .goto ..,hc,Q,fr,σ,h,x,a,hv,w,hG=>h x a hv w hG
 | .refuse ..,hc,Q,fr,σ,h,x,a,hv,w,hG=>h x a hv w hG
def wkU(σ:ASt):PV->PV->Prop
 | .os n k,.vs xs=>match ai σ n with
  |some (.arr _ _ _ ys)=>ys=xs/\k=ys.length
  |_=>False
 | .nils,.vs xs=>xs=[]
 |v,u=>v=u
def wkF(σ:ASt)(fr:AFr):AFr->Prop
 |[]=>True
 |(s,u)::r=>wkU σ (look fr s) u/\wkF σ fr r
def bmy:PV->PV->LN
 | .os n _,.vs _=>[n]
 |_,_=>[]
def wkN(fr:AFr):AFr->LN
 |[]=>[]
 |(s,u)::r=>bmy (look fr s) u++wkN fr r
def wkS(σ:ASt):ASt->Prop
 |[]=>True
 |(n,B)::r=>ai σ n=some B/\wkS σ r
mutual
def bge(d:LN):PV->Bool
 | .ptr n _=>d.contains n
 | .os n _=>d.contains n
 | .oel n _ _ _=>d.contains n
 | .osl n _ _=>d.contains n
 | .mh n=>d.contains n
 | .oq n _=>d.contains n
 | .oqe n _ _ _ _=>d.contains n
 | .oss n _ _ _=>d.contains n
 | .agg cs=>aop d cs
 | .tup cs=>aop d cs
 | .ago cs=>aop d cs
 | .fn _ cs=>aop d cs
 |_=>true
def aop(d:LN):LP->Bool
 |[]=>true
 |u::r=>bge d u&&aop d r
end
def bcq(d:LN):AFr->Bool
 |[]=>true
 |(_,u)::r=>bge d u&&bcq d r
def ac2(d:LN):List LP->Bool
 |[]=>true
 |u::r=>aop d u&&ac2 d r
def bno(d:LN):List (PV×PV)->Bool
 |[]=>true
 |p::r=>bge d p.2&&bno d r
def abz(d:LN):ASt->Bool
 |[]=>true
 |(_,.cells cs)::r=>aop d cs&&abz d r
 |(_,.arr _ _ _ _)::r=>abz d r
 |(_,.arh _ _ xs)::r=>ac2 d xs&&abz d r
 |(_,.mp es)::r=>bno d es&&abz d r
 |(_,.it m _ _)::r=>d.contains m&&abz d r
 |(_,.si _ _)::r=>abz d r
 |(_,.arq _ _ _ _)::r=>abz d r
 |(_,.dead _ _)::r=>abz d r
def bmm(d:LN):ASt->Bool
 |[]=>true
 |(n,_)::r=>(decide (n<1000000)||d.contains n)&&bmm d r
def wk(fr:AFr)(σ:ASt)(fr':AFr)(σ':ASt):Prop:=
 wkF σ fr fr'/\wkS σ σ'/\aoy (σ'.map (·.1)) (wkN fr fr')=true/\bcq (σ'.map (·.1)) fr'=true/\abz (σ'.map (·.1)) σ'=true/\bmm (σ'.map (·.1)) σ=true
theorem lu(d:LN)(n:Nat):d.contains n=true↔n∈d:=Ad
mutual
theorem ab1: ∀(u:PV),bge d u=true->Hin (· ∈d) u
 | .ptr n o,h=> .ptr n o ((lu d n).1 h)
 | .os n o,h=> .os n o ((lu d n).1 h)
 | .oel n k i o,h=> .oel n k i o ((lu d n).1 h)
 | .osl n k i,h=> .osl n k i ((lu d n).1 h)
 | .mh n,h=> .mh n ((lu d n).1 h)
 | .oq n k,h=> .oq n k ((lu d n).1 h)
 | .oqe n k i sz off,h=> .oqe n k i sz off ((lu d n).1 h)
 | .oss n k i m,h=> .oss n k i m ((lu d n).1 h)
 | .agg cs,h=> .agg cs (md cs h)
 | .tup cs,h=> .tup cs (md cs h)
 | .ago cs,h=> .ago cs (md cs h)
 | .fn f cs,h=> .fn f cs (md cs h)
 | .undef,_=> .undef
 | .bool b,_=> .bool b
 | .int k n,_=> .int k n
 | .str l,_=> .str l
 | .nils,_=> .nils
 | .vs xs,_=> .vs xs
 | .vx xs,_=> .vx xs
 | .sn b,_=> .sn b
 | .nilp,_=> .nilp
 | .el cs,_=> .el cs
 | .nilf,_=> .nilf
 | .ifc t u,_=> .ifc t u
 | .nili,_=> .nili
 | .nilm,_=> .nilm
theorem md: ∀(us:LP),aop d us=true->∀u∈us,Hin (· ∈d) u
 |[],_=>λ_ hu=>by simp at hu
 |v::r,h=>λu hu=>by
  have hv:=ab1 v ((b0l _ _ ▸ h:_/\_).1);have a:=md r ((b0l _ _ ▸ h:_/\_).2);rcases b0p.1 hu with rfl|hu
  .exact hv
  .exact a u hu
end
theorem Hin.mono{d a:Nat->Prop}(h: ∀n,d n->a n)(c:Hin d u):Hin a u:=by induction c with|undef=>exact .undef|bool b=>exact .bool b|int k n=>exact .int k n|str l=>exact .str l|nils=>exact .nils|vs xs=>exact .vs xs|vx xs=>exact .vx xs|sn b=>exact .sn b|nilp=>exact .nilp|el cs=>exact .el cs|nilf=>exact .nilf|ifc t u=>exact .ifc t u|nili=>exact .nili|nilm=>exact .nilm|ptr n o hn=>exact .ptr n o (h n hn)|os n o hn=>exact .os n o (h n hn)|oel n k i o hn=>exact .oel n k i o (h n hn)|osl n k i hn=>exact .osl n k i (h n hn)|mh n hn=>exact .mh n (h n hn)|oq n k hn=>exact .oq n k (h n hn)|oqe n k i sz off hn=>exact .oqe n k i sz off (h n hn)|oss n k i m hn=>exact .oss n k i m (h n hn)|agg cs _ ih=>exact .agg cs ih|tup cs _ ih=>exact .tup cs ih|ago cs _ ih=>exact .ago cs ih|fn f cs _ ih=>exact .fn f cs ih
theorem ach: ∀{fr:AFr},bcq d fr=true->∀t,Hin (· ∈d) (look fr t)
 |[],_,t=> .undef
 |(s,u)::r,h,t=>by
  simp only[bcq,b0l]at h;simp only[look];split
  .exact ab1 u h.1
  .exact ach h.2 t
theorem aoz(h:ai σ n=some B):(n,B)∈σ:=by induction σ with|nil=>cases h|cons p r ih=>obtain⟨m,C⟩:=p;simp only[ai]at h;split at h;{rename_i hm;cases h;subst hm;simp};.exact b3z _ (ih h)
theorem aqu(h:n∈σ.map (·.1)):ai σ n≠none:=by induction σ with|nil=>cases h|cons p r ih=>obtain⟨m,C⟩:=p;simp only[ai];split;{simp};.rename_i hm;simp only[b07,b0p]at h;rcases h with h|h;{exact absurd h.symm hm};.exact ih h
theorem afe: ∀{xs:List LP},ac2 d xs=true->∀r∈xs,∀u∈r,Hin (· ∈d) u
 |[],_,r,hr,_,_=>by simp at hr
 |x::xs,h,r,hr,u,hu=>by
  simp only[ac2,b0l]at h;rcases b0p.1 hr with rfl|hr
  .exact md _ h.1 u hu
  .exact afe h.2 r hr u hu
theorem al3: ∀{es:List (PV×PV)},bno d es=true->∀e∈es,Hin (· ∈d) e.2
 |[],_,r,hr=>by simp at hr
 |x::xs,h,r,hr=>by
  simp only[bno,b0l]at h;rcases b0p.1 hr with rfl|hr
  .exact ab1 _ h.1
  .exact al3 h.2 r hr
theorem iy: ∀{σ:ASt},abz d σ=true->∀n B,ai σ n=some B->B.hin (· ∈d)
 |[],_,n,B,h=>by cases h
 |(m,C)::r,hs,n,B,h=>by
  simp only[ai]at h
  cases C with
  |cells cs=>
   simp only[abz,b0l]at hs;split at h
   .cases h;exact md cs hs.1
   .exact iy hs.2 n B h
  |arr e sz sh xs=>
   simp only[abz]at hs;split at h
   .cases h;trivial
   .exact iy hs n B h
  |arh e sz xs=>
   simp only[abz,b0l]at hs;split at h
   .cases h;exact afe hs.1
   .exact iy hs.2 n B h
  |mp es=>
   simp only[abz,b0l]at hs;split at h
   .cases h;exact al3 hs.1
   .exact iy hs.2 n B h
  |it m k dn=>
   simp only[abz,b0l]at hs;split at h
   .cases h;exact(lu d m).1 hs.1
   .exact iy hs.2 n B h
  |si l p=>
   simp only[abz]at hs;split at h
   .cases h;trivial
   .exact iy hs n B h
  |arq e sz k xs=>
   simp only[abz]at hs;split at h
   .cases h;trivial
   .exact iy hs n B h
  |dead sz l=>
   simp only[abz]at hs;split at h
   .cases h;trivial
   .exact iy hs n B h
theorem alw: ∀{σ:ASt},bmm d σ=true->∀n,1000000<=n->ai σ n≠none->n∈d
 |[],_,n,_,h=>absurd rfl h
 |(m,C)::r,hs,n,hn,h=>by
  simp only[bmm,b0l]at hs;simp only[ai]at h;split at h
  .rename_i hm;subst hm;have h1:=hs.1;simp only[b1v,b01]at h1;rcases h1 with h1|h1
   .omega
   .simpa using h1
  .exact alw hs.2 n hn h
theorem auv: ∀{fr':AFr},wkF σ fr fr'->∀t,look fr' t= .undef\/(wkU σ (look fr t) (look fr' t)/\∀n∈bmy (look fr t) (look fr' t),n∈wkN fr fr')
 |[],_,t=> .inl rfl
 |(s,u)::r,h,t=>by
  simp only[look];split
  .rename_i hs;subst hs;exact .inr ⟨h.1,λn hn=>by simp only[wkN];exact b0j.2 (.inl hn)⟩
  .rcases auv h.2 t with h1|⟨h1,h2⟩
   .exact .inl h1
   .exact .inr ⟨h1,λn hn=>by simp only[wkN];exact b0j.2 (.inr (h2 n hn))⟩
theorem as8: ∀{σ':ASt},wkS σ σ'->∀n B,ai σ' n=some B->ai σ n=some B
 |[],_,n,B,h=>by cases h
 |(m,C)::r,hs,n,B,h=>by
  simp only[ai]at h;split at h
  .rename_i hm;subst hm;cases h;exact hs.1
  .exact as8 hs.2 n B h
theorem bkg{v:PV}(h:wkU σ v u):v=u\/∃a,pur σ v=some (u,a)/\∀n∈a,n∈bmy v u:=by unfold wkU at h;split at h;{rename_i n k xs;split at h;{rename_i e sz sh ys hf;obtain⟨rfl,c⟩:=h;exact .inr ⟨[n],by simp[pur,hf,c],λm b=>by simpa [bmy] using b⟩};.exact h.elim};{subst h;exact .inr ⟨[],rfl,Ad⟩};.exact .inl h
theorem Good.wk{fr':AFr}{σ':ASt}(h:Good x N (look fr) (ai σ) a hv w)(H:Am.wk fr σ fr' σ'):Good x N (look fr') (ai σ') a hv w:=by
 obtain⟨v,C,j,G,D,E⟩:=H;have b: ∀n,n∈σ'.map (·.1)->ai σ' n≠none:=λn f=>aqu f;have d:=h.sim.shared (em (ai σ) (wkN fr fr'))
 have s: ∀n B,ai σ' n=some B->n∉wkN fr fr':=λn B c=>kj j (by
  have:=aoz c;exact b0z.2 ⟨_,this,rfl⟩)
 obtain⟨F,A⟩:=d.1.drop (s':=ai σ') (λn B c=>by
   simp only[a8,if_neg (s n B c)];exact as8 C n B c)
  (λn B c=>by
   have:=iy D n B c
   cases B with
   |cells cs=>exact λu g=>(this u g).mono b
   |arr=>trivial
   |arh e sz xs=>exact λr z u g=>(this r z u g).mono b
   |mp es=>exact λe q=>(this e q).mono b
   |it m k dn=>exact b m this
   |si l p=>trivial
   |arq=>trivial
   |dead sz l=>trivial)
  (λn f=>by
   have:=h.sim.extin n f;exact b n (alw E n this.2 this.1))
 refine⟨F,h.size,h.defers,λt=> ?_⟩;rcases auv v t with i|⟨i,o⟩
 .rw[i];exact .undef _
 .have hh:=(ach G t).mono b;refine A _ _ ?_ hh;rcases bkg i with q|⟨a,y,I⟩;{rw[<-q];exact(h.regs t).mono d.2};.exact .pure (f9 (ns:=wkN fr fr') h.sim (λ_ _=>rfl) y (λn f=>o n (I n f)) (h.regs t))
theorem un{Q:Exit->Act->World->Prop}(I:ι->Act->World->Prop)(μ:ι->Nat)(v: ∃i,I i a w)
  (h: ∀i a w,I i a w->c.wp P (Exit.then (λa' w'=> ∃j,I j a' w'/\μ j<μ i) Q) a w):(Code.loop c).wp P Q a w:=by
 intro b k cs
 have p: ∀n i a w,μ i=n->I i a w->
   ∃e a' w',Q e a' w'/\Arrives P (lone (b.at a (.code c:: .inLoop c::k)) cs w) b k cs e a' w':=by
  intro n
  induction n using Nat.strongRecOn with
  |_ n ih=>
   intro i a w y B;obtain⟨e,o,m,f,d⟩:=h i a w B b (.inLoop c::k) cs
   cases e with
   |normal=>
    obtain⟨j,r,q⟩:=f;obtain⟨z,u,A,s,g⟩:=ih (μ j) (y ▸ q) j o m rfl r
    exact⟨z,u,A,s,.of_steps (Steps.trans d (.one step_inLoop)) g⟩
   |exit id=>exact⟨_,o,m,f,.pass (x:= .inLoop c) rfl (λ_ _=> .inl Ad) d⟩
   |goto l=>exact⟨_,o,m,f,.pass (x:= .inLoop c) rfl (λ_ _=> .inl Ad) d⟩
   |ret=>exact⟨_,o,m,f,.pass (x:= .inLoop c) rfl (λ_ _=> .inl Ad) d⟩
   |panic ch=>exact⟨_,o,m,f,.pass (x:= .inLoop c) rfl (λ_ _=> .inl Ad) d⟩
   |outgrown=>exact⟨_,o,m,f,.pass (x:= .inLoop c) rfl (λ_ _=> .inl Ad) d⟩
 obtain⟨i,t⟩:=v;obtain⟨e,a',w',f,d⟩:=p _ i a w rfl t;exact⟨e,a',w',f,.of_steps (.one step_loop) d⟩
theorem bo2(t:P.follows .mixedOrders=true){Q:r8}(u:ix N c=true)(g:ι->AFr)(f:ι->ASt)(I:ι->Prop)(μ:ι->Nat)(h:ι)(D:I h)(A:wk fr σ (g h) (f h))
  (d: ∀i,I i->wv P N c (yk (λfr' σ'=> ∃j,(I j/\μ j<μ i)/\wk fr' σ' (g j) (f j)) Q) (g i) (f i)):W P N (.loop c) Q fr σ:=by
 intro x a y w F;refine un (λ(i:ι) m q=> ∃b,Good x N (look (g i)) (ai (f i)) m b q/\I i) μ ⟨h,y,F.wk A,D⟩ λi m q r=> ?_;obtain⟨b,l,o⟩:=r;refine wp_mono (jb t c u _ (g i) (f i) (d i o) x m b q l) λe z E s=>rq (λfr' σ' G k H v B=> ?_) s;obtain⟨j,⟨C,n⟩,p⟩:=v;exact⟨j,⟨k,B.wk p,C⟩,n⟩
/- Boxes under other names. -/
def rn(n m k:Nat):Nat:=if k=n then m else k
mutual
def renV(n m:Nat):PV->PV
 | .ptr k o=> .ptr (rn n m k) o
 | .os k l=> .os (rn n m k) l
 | .oel k a i o=> .oel (rn n m k) a i o
 | .osl k a i=> .osl (rn n m k) a i
 | .mh k=> .mh (rn n m k)
 | .oq k l=> .oq (rn n m k) l
 | .oqe k l i sz off=> .oqe (rn n m k) l i sz off
 | .oss k l i c=> .oss (rn n m k) l i c
 | .agg cs=> .agg (qj n m cs)
 | .tup cs=> .tup (qj n m cs)
 | .ago cs=> .ago (qj n m cs)
 | .fn f cs=> .fn f (qj n m cs)
 |u=>u
def qj(n m:Nat):LP->LP
 |[]=>[]
 |u::r=>renV n m u::qj n m r
end
theorem jl(n m:Nat): ∀(cs:LP) (i:Nat),(qj n m cs)[i]? =(cs[i]?).map (renV n m)
 |[],i=>by simp[qj]
 |u::r,0=>by simp[qj]
 |u::r,i+1=>by simp[qj,jl n m r i]
theorem my(n m:Nat): ∀(cs:LP),(qj n m cs).length=cs.length
 |[]=>rfl
 |u::r=>by simp[qj,my n m r]
theorem avv{cs:LP}(h: ∀(i:Nat) (u:PV),cs[i]? =some u->renV n m u=u):qj n m cs=cs:=by apply b6n;intro i;rw[jl];cases hc:cs[i]? with|none=>rfl|some u=>simp[h i u hc]
theorem RP.renV{d:Addr->Value->Prop}{v:Value}(h:RP d v u)(n m:Nat):Am.renV n m u=u:=by induction h with|bool b=>rfl|int k i=>rfl|str l=>rfl|nils=>rfl|nilp=>rfl|nilf=>rfl|nili=>rfl|nilm=>rfl|sn b c h=>rfl|fn f=>rfl|vs U hn hc hsz h1 ha hr ih=>rfl| @agg vs cs hl h ih=>simp only[Am.renV];rw[avv λi u a=>ih i u a]| @tup vs cs hl h ih=>simp only[Am.renV];rw[avv λi u a=>ih i u a]|ifc t h ih=>rfl
def na(n m:Nat):Box->Box
 | .cells cs=> .cells (qj n m cs)
 | .arr e sz sh xs=> .arr e sz sh xs
 | .arh e sz xs=> .arh e sz (xs.map (qj n m))
 | .mp es=> .mp (es.map λp=>(p.1,renV n m p.2))
 | .it k c d=> .it (rn n m k) c d
 | .si l p=> .si l p
 | .arq e sz k xs=> .arq e sz k xs
 | .dead sz l=> .dead sz l
theorem a9z(n m:Nat)(u:PV):fy (renV n m u)=fy u:=by cases u<;>rfl
def a89(n m:Nat):AFr->AFr
 |[]=>[]
 |(s,u)::r=>(s,renV n m u)::a89 n m r
def ae0(n m:Nat):ASt->ASt
 |[]=>[]
 |(k,B)::r=>(rn n m k,na n m B)::ae0 n m r
theorem ki(n m:Nat): ∀(fr:AFr) (t:Nat),look (a89 n m fr) t=renV n m (look fr t)
 |[],t=>rfl
 |(s,u)::r,t=>by
  simp only[a89,look];split
  .rfl
  .exact ki n m r t
theorem wy: ∀{σ:ASt},ai σ m=none->∀k,k≠n->ai (ae0 n m σ) (rn n m n)=(ai σ n).map (na n m)/\ai (ae0 n m σ) k=if k=m then(ai σ n).map (na n m)else(ai σ k).map (na n m)
 |[],_,k,_=>by simp[ae0,ai]
 |(j,B)::r,hm,k,hk=>by
  simp only[ai]at hm;split at hm
  .cases hm
  .rename_i hjm;obtain⟨h1,h2⟩:=wy hm k hk;simp only[ae0,ai];have hrn:rn n m n=m:=by simp[rn]
   rw[hrn]at h1 ⊢;by_cases c:j=n
   .subst c;simp only[rn,b4i];refine⟨rfl,?_⟩;by_cases a:m=k
    .subst a;simp
    .rw[if_neg a,h2,if_neg (Ne.symm a),if_neg (Ne.symm a),if_neg (Ne.symm hk)]
   .simp only[rn,if_neg c];rw[if_neg hjm];refine⟨h1,?_⟩;by_cases b:j=k
    .subst b;rw[if_pos rfl,if_neg hjm,if_pos rfl];rfl
    .rw[if_neg b,h2];by_cases a:k=m
     .rw[if_pos a,if_pos a]
     .rw[if_neg a,if_neg a,if_neg b]
theorem ace(a:n≠m): ∀{σ:ASt},ai (ae0 n m σ) n=none
 |[]=>rfl
 |(j,B)::r=>by
  simp only[ae0,ai]
  have:rn n m j≠n:=by
   unfold rn;split
   .exact Ne.symm a
   .assumption
  rw[if_neg this];exact ace a
theorem awe{off:Nat}:(na n m B).perm off↔B.perm off:=by cases B<;>simp[na,Box.perm]
theorem m5:(na n m B).dim=B.dim:=by cases B<;>simp[na,Box.dim]
theorem r9:(na n m B).isM=B.isM:=by cases B<;>rfl
theorem aqj:(na n m B).qdim=B.qdim:=by cases B<;>rfl
theorem awf{A:Box}{h g:Value}(k:Box.keep A h B g):Box.keep A h (na n m B) g:=by cases A with|cells cs=>obtain⟨⟨j,rfl⟩,d⟩:=k;exact⟨⟨_,rfl⟩,d⟩|arr e sz sh xs=>obtain⟨l,f,d⟩:=k;exact⟨l,by rw[m5];exact f,d⟩|arh e sz xs=>obtain⟨l,f,d⟩:=k;exact⟨l,by rw[m5];exact f,d⟩|mp es=>exact⟨F7,k.2⟩|it a b c=>exact⟨F7,k.2⟩|si a b=>exact⟨F7,k.2⟩|arq e sz k xs=>obtain⟨l,f,d⟩:=k;exact⟨l,by rw[aqj];exact f,d⟩|dead sz l=>obtain⟨i,f,d⟩:=k;exact⟨i,by rw[m5];exact f,d⟩
theorem Good.ren(F:Good x N (look fr) (ai σ) a hv w)(hm:ai σ m=none)(a4:n<1000000)(a3:m<1000000)(X:n≠m):
  ∃hv',Good x N (look (a89 n m fr)) (ai (ae0 n m σ)) a hv' w:=by
 let hv':Nat->Value:=λk=>if k=m then hv n else hv k
 have S:rn n m n=m:=by simp[rn]
 have V:ai (ae0 n m σ) m=(ai σ n).map (na n m):=by have:=(wy hm m (Ne.symm X)).1;rwa [S]at this
 have W: ∀k,k≠n->k≠m->ai (ae0 n m σ) k=(ai σ k).map (na n m):=λk h1 h2=>by have:=(wy hm k h1).2;rwa [if_neg h2]at this
 have y: ∀k J,ai (ae0 n m σ) k=some J->∃H B,rn n m H=k/\ai σ H=some B/\J=na n m B/\hv' k=hv H:=λk J s=>by by_cases h1:k=n;{subst h1;rw[ace X]at s;cases s};.by_cases h2:k=m;{subst h2;rw[V]at s;cases hf:ai σ n with|none=>rw[hf]at s;cases s|some B=>rw[hf]at s;cases s;exact⟨n,B,S,hf,rfl,by simp[hv']⟩};.rw[W k h1 h2]at s;cases hf:ai σ k with|none=>rw[hf]at s;cases s|some B=>rw[hf]at s;cases s;exact⟨k,B,by simp[rn,h1],hf,rfl,by simp[hv',h2]⟩
 have o: ∀k B,ai σ k=some B->ai (ae0 n m σ) (rn n m k)=some (na n m B)/\hv' (rn n m k)=hv k:=λk B s=>by by_cases h1:k=n;{subst h1;rw[S,V,s];exact⟨rfl,by simp[hv']⟩};.have h2:k≠m:=λe=>(by subst e;rw[hm]at s;cases s);have:rn n m k=k:=(by simp[rn,h1]);rw[this,W k h1 h2,s];exact⟨rfl,by simp[hv',h2]⟩
 have G: ∀ad v,(env x (ai σ) hv w).pc ad v->(env x (ai (ae0 n m σ)) hv' w).pc ad v:=λad v O=>by refine⟨O.1,O.2.1,λk J s A=> ?_⟩;obtain⟨H,B,_,h2,rfl,P⟩:=y k J s;rw[P]at A;exact awe.2 (O.2.2 H B h2 A)
 have hR: ∀v u,RV (env x (ai σ) hv w) v u->RV (env x (ai (ae0 n m σ)) hv' w) v (renV n m u):=λv u h=>by induction h with|undef v=>exact .undef v|pure h=>rw[h.renV];exact .pure (h.mono G)| @ptr k off v h=>obtain⟨⟨cs,h1⟩,b,h2,L⟩:=h;obtain⟨k1,E⟩:=o k _ h1;exact .ptr ⟨⟨_,k1⟩,b,by rw[E];exact h2,L⟩| @os k l v h=>obtain⟨z,B,I,l,h1,M,h2,L⟩:=h;obtain⟨k1,E⟩:=o k _ h1;exact .os ⟨z,_,I,l,k1,Ez,h2,λD=>by rw[E];exact L D⟩| @oel k l i off v h=>obtain⟨z,B,I,R,h1,M,h2,L⟩:=h;obtain⟨k1,E⟩:=o k _ h1;exact .oel ⟨z,_,I,R,k1,Ez,h2,λD Y=>by rw[E];exact L D Y⟩| @osl k l i c q v hv0 h=>obtain⟨z,B,I,R,h1,M,h2,L⟩:=h;obtain⟨k1,E⟩:=o k _ h1;exact .osl hv0 ⟨z,_,I,R,k1,Ez,h2,λD Y=>by rw[E];exact L D Y⟩| @vx xs a n v hv0 h=>exact .vx hv0 (h.mono G)| @mh k v h=>obtain⟨⟨A,B,h1,hM⟩,h2⟩:=h;obtain⟨k1,E⟩:=o k _ h1;exact .mh ⟨⟨A,_,k1,by rw[r9];exact hM⟩,by rw[E];exact h2⟩| @oq k l v h=>obtain⟨z,B,I,R,h1,M,h2,L⟩:=h;obtain⟨k1,E⟩:=o k _ h1;exact .oq ⟨z,_,I,R,k1,by rw[aqj];exact M,h2,λD=>by rw[E];exact L D⟩| @oqe k l i I off v0 v h h1' hq=>obtain⟨z,B,a2,R,h1,M,h2,L⟩:=h;obtain⟨k1,E⟩:=o k _ h1;exact .oqe ⟨z,_,a2,R,k1,by rw[aqj];exact M,h2,λD=>by rw[E];exact L D⟩ h1' hq|el U ha K=>exact .el U (λj u g=>G _ _ (ha j u g)) λj u g=>(K j u g).mono G| @agg vs cs D h ih=>(refine .agg D9 λi u g=> ?_;rw[jl]at g;cases hc:cs[i]? with|none=>rw[hc]at g;cases g|some u0=>rw[hc]at g;cases g;exact ih i u0 hc)| @oss k l i m' c q v hv0 h=>obtain⟨z,B,I,R,h1,M,h2,L⟩:=h;obtain⟨k1,E⟩:=o k _ h1;exact .oss hv0 ⟨z,_,I,R,k1,Ez,h2,λD Y=>by rw[E];exact L D Y⟩| @ago vs cs D h ih=>(refine .ago D9 λi u g=> ?_;rw[jl]at g;cases hc:cs[i]? with|none=>rw[hc]at g;cases g|some u0=>rw[hc]at g;cases g;exact ih i u0 hc)| @tup vs cs D h ih=>(refine .tup D9 λi u g=> ?_;rw[jl]at g;cases hc:cs[i]? with|none=>rw[hc]at g;cases g|some u0=>rw[hc]at g;cases g;exact ih i u0 hc)| @fn f vs cs D h ih=>refine .fn f D9 λi u g=> ?_;rw[jl]at g;cases hc:cs[i]? with|none=>rw[hc]at g;cases g|some u0=>rw[hc]at g;cases g;exact ih i u0 hc
 refine⟨hv',⟨{
  os:=F.sim.os,tape:=F.sim.tape,output:=F.sim.output,size:=F.sim.size,old:=F.sim.old,glb:=F.sim.glb,tabs:=F.sim.tabs
  box:=λk J s=>by
   obtain⟨H,B,_,h2,rfl,P⟩:=y k J s;rw[P];have A:=F.sim.box H B h2
   cases B with
   |cells cs=>
    obtain⟨b,t,arr,e1,e2,e3,Q⟩:=A;refine⟨b,t,arr,e1,e2,by rw[my];exact e3,λi u g=> ?_⟩;rw[jl]at g
    cases hc:cs[i]? with
    |none=>rw[hc]at g;cases g
    |some u0=>rw[hc]at g;cases g;exact hR _ _ (Q i u0 hc)
   |arr e I sh xs=>
    obtain⟨h0,ys,e1,e2,e3,Q⟩:=A
    exact⟨h0,ys,e1,e2,e3,λi x j u hx g=>(Q i x j u hx g).mono G⟩
   |arh e I xs=>
    obtain⟨h0,ys,e1,e2,e3,Q⟩:=A;refine⟨h0,ys,by rw[b0x];exact e1,λr K=> ?_,λr K=> ?_,λi r j u K g=> ?_⟩
    .obtain⟨r0,q1,rfl⟩:=b0z.1 K;rw[my];exact e2 r0 q1
    .obtain⟨r0,q1,rfl⟩:=b0z.1 K;refine b06.2 λu g=> ?_;obtain⟨j,Z⟩:=b2v.1 g;rw[jl]at Z
     cases hc:r0[j]? with
     |none=>rw[hc]at Z;cases Z
     |some u0=>rw[hc]at Z;cases Z;rw[a9z];exact b06.1 (e3 r0 q1) u0 (b0e hc)
    .rw[b0s]at K
     cases hq:xs[i]? with
     |none=>rw[hq]at K;cases K
     |some r0=>
      rw[hq]at K
      cases K
      rw[jl]at g
      cases hc:r0[j]? with
      |none=>rw[hc]at g;cases g
      |some u0=>rw[hc]at g;cases g;exact hR _ _ (Q i r0 j u0 hq hc)
   |mp es=>
    obtain⟨b,arr,e1,e2,e3,Q⟩:=A;refine⟨b,arr,e1,by rw[b0x];exact e2,by rw[b0x];exact e3,λi p O=> ?_⟩;rw[b0s]at O
    cases hq:es[i]? with
    |none=>rw[hq]at O;cases O
    |some p0=>
     rw[hq]at O
     cases O
     obtain⟨en,q1,q2,q3,q4⟩:=Q i p0 hq
     exact⟨en,q1,q2,q3.mono G,hR _ _ q4⟩
   |it k' c d=>
    obtain⟨r,b,e1,e2,⟨A,B,h1,hM⟩,h2⟩:=A;obtain⟨k1,E⟩:=o k' _ h1
    exact⟨r,b,e1,e2,⟨A,_,k1,by rw[r9];exact hM⟩,by rw[E];exact h2⟩
   |si l p=>exact A
   |arq e I k xs=>
    obtain⟨h0,ys,e1,e2,e3,Q⟩:=A
    exact⟨h0,ys,e1,e2,e3,λi x j u hx g=>(Q i x j u hx g).mono G⟩
   |dead I l=>exact A
  loc:=λk J b s A=>by
   obtain⟨H,B,_,h2,rfl,P⟩:=y k J s;rw[P]at A;exact F.sim.loc H B b h2 A
  inj:=λk k' J C' b s hC A T=>by
   obtain⟨H,B,h1,h2,rfl,P⟩:=y k J s;obtain⟨a0,C,h1',h2',rfl,a1⟩:=y k' C' hC;rw[P]at A;rw[a1]at T;rw[<-h1,<-h1',F.sim.inj H a0 B C b h2 h2' A T]
  ext:=λk p J hx s=>by
   have hk:=(F.sim.extin k (by rw[hx];simp)).2;obtain⟨H,B,h1,h2,rfl,P⟩:=y k J s
   have h0:H=k:=by
    unfold rn at h1;split at h1
    .omega
    .exact h1
   subst h0;rw[P];exact awf (F.sim.ext H p B hx h2)
  vis:=F.sim.vis
  extin:=λk hk=>by
   obtain⟨h1,h2⟩:=F.sim.extin k hk;refine⟨?_,h2⟩
   cases hf:ai σ k with
   |none=>exact absurd hf h1
   |some B=>
    have:=(o k B hf).1;have K:rn n m k=k:=by unfold rn;rw[if_neg Aa]
    rw[K]at this;rw[this];simp},F.size,F.defers,λt=>by rw[ki];exact hR _ _ (F.regs t)⟩⟩
def bgq:List (Nat×Nat)->AFr->ASt->Prop
 |[],_,_=>True
 |(n,m)::r,fr,σ=>(ai σ m=none/\n<1000000/\m<1000000/\n≠m)/\bgq r (a89 n m fr) (ae0 n m σ)
def a24:List (Nat×Nat)->AFr->ASt->AFr×ASt
 |[],fr,σ=>(fr,σ)
 |(n,m)::r,fr,σ=>a24 r (a89 n m fr) (ae0 n m σ)
theorem Good.rns: ∀(l:List (Nat×Nat)) {fr:AFr} {σ:ASt} {hv:Nat->Value},Good x N (look fr) (ai σ) a hv w->bgq l fr σ->∃hv',Good x N (look (a24 l fr σ).1) (ai (a24 l fr σ).2) a hv' w
 |[],_,_,hv,hG,_=>⟨hv,hG⟩
 |(n,m)::r,fr,σ,hv,hG,h=>by
  obtain⟨⟨h1,h2,h3,h4⟩,h5⟩:=h;obtain⟨c,b⟩:=hG.ren h1 h2 h3 h4;exact Good.rns r b h5
def wkR(l:List (Nat×Nat))(fr:AFr)(σ:ASt)(fr':AFr)(σ':ASt):Prop:=bgq l fr σ/\wk (a24 l fr σ).1 (a24 l fr σ).2 fr' σ'
theorem bis(A:P.follows .mixedOrders=true){Q:r8}(G:ix N c=true)(g:ι->AFr)(h:ι->ASt)(I:ι->Prop)(μ:ι->Nat)(k:ι)(K:I k)(y:List (Nat×Nat))(v:wkR y fr σ (g k) (h k))
  (d: ∀i,I i->wv P N c (yk (λfr' σ'=> ∃j l,(I j/\μ j<μ i)/\wkR l fr' σ' (g j) (h j)) Q) (g i) (h i)):W P N (.loop c) Q fr σ:=by intro x a R w D;obtain⟨m,p⟩:=D.rns y v.1;refine un (λ(i:ι) n q=> ∃b,Good x N (look (g i)) (ai (h i)) n b q/\I i) μ ⟨k,m,p.wk v.2,K⟩ λi n q F=> ?_;obtain⟨b,s,u⟩:=F;refine wp_mono (jb A c G _ (g i) (h i) (d i u) x n b q s) λe B L z=>rq (λfr' σ' M E O H C=> ?_) z;obtain⟨j,l,⟨J,t⟩,f⟩:=H;obtain⟨o,r⟩:=C.rns l f.1;exact⟨j,⟨o,r.wk f.2,J⟩,t⟩
end Go.Proofs.Am
