/- AmR. -/
import Derived.Test.YthidogjdclkoeaaGreatDoorAmM
set_option linter.unusedSimpArgs false
set_option linter.unusedVariables false
namespace Go.Proofs.Am
open Go Go.RowKit
variable {P:Program}
inductive EX where
 |normal
 |exit (id:Nat)
 |ret
abbrev o8:=EX->AFr->ASt->Prop
def lift(x:Ctx P)(N:Nat)(Q:o8):Exit->Act->World->Prop
 | .normal,a,w=> ∃fr σ hv,Q .normal fr σ/\Good x N (look fr) (ah σ) a hv w
 | .exit id,a,w=> ∃fr σ hv,Q (.exit id) fr σ/\Good x N (look fr) (ah σ) a hv w
 | .ret,a,w=> ∃fr σ hv,Q .ret fr σ/\Good x N (look fr) (ah σ) a hv w
 |_,_,_=>False
def W(P:Program)(N:Nat)(c:Code)(Q:o8)(fr:AFr)(σ:ASt):Prop:=
 ∀(x:Ctx P) (a:Act) (hv:Nat->Value) (w:World),Good x N (look fr) (ah σ) a hv w->c.wp P (lift x N Q) a w
def ru(K:AFr->ASt->Prop)(Q:o8):o8
 | .normal,fr,σ=>K fr σ
 |e,fr,σ=>Q e fr σ
def zw(id:Nat)(Q:o8):o8
 | .exit id',fr,σ=>if id'=id then Q .normal fr σ else Q (.exit id') fr σ
 |e,fr,σ=>Q e fr σ
def wv(P:Program)(N:Nat):Code->o8->AFr->ASt->Prop
 | .skip,Q,fr,σ=>Q .normal fr σ
 | .region _ ops d,Q,fr,σ=>
  match d with
  |true=>evD P ops ops.toList fr σ [] fun fr' σ' g=>ad9 ops g.reverse=true/\Q .normal fr' σ'
  |false=>lw P ops ops.toList fr σ (Q .normal)
 | .seq a b,Q,fr,σ=>wv P N a (ru (wv P N b Q) Q) fr σ
 | .cond c a b,Q,fr,σ=>match ev fr c with
  | .bool t=>(t=true->wv P N a Q fr σ)/\(t=false->wv P N b Q fr σ)
  |_=>False
 | .block id c,Q,fr,σ=>wv P N c (zw id Q) fr σ
 | .loop c,Q,fr,σ=>W P N (.loop c) Q fr σ
 | .exit id,Q,fr,σ=>Q (.exit id) fr σ
 | .ret,Q,fr,σ=>Q .ret fr σ
 | .label _,Q,fr,σ=>Q .normal fr σ
 | .scope c,Q,fr,σ=>W P N (.scope c) Q fr σ
 |c,Q,fr,σ=>W P N c Q fr σ
def fb(N:Nat):Code->Bool
 | .region _ ops _=>yz N ops
 | .seq a b=>fb N a&&fb N b
 | .cond _ a b=>fb N a&&fb N b
 | .block _ c=>fb N c
 |_=>true
theorem kw{x:Ctx P}{N:Nat}{K:AFr->ASt->Prop}{Q:o8}{K':Act->World->Prop}(hK: ∀fr σ a hv w,K fr σ->Good x N (look fr) (ah σ) a hv w->K' a w){e:Exit}{a:Act}{w:World}(h:lift x N (ru K Q) e a w):
  Exit.then K' (lift x N Q) e a w:=by
 cases e with
 |normal=>obtain⟨fr,σ,hv,hq,hG⟩:=h;exact hK fr σ a hv w hq hG
 |exit id=>exact h
 |ret=>exact h
 |goto l=>exact h.elim
 |panic c=>exact h.elim
 |outgrown=>exact h.elim
theorem eo{P:Program}(hm:P.follows .mixedOrders=true){N:Nat}: ∀(c:Code),fb N c=true->∀(Q:o8) (fr:AFr) (σ:ASt),wv P N c Q fr σ->W P N c Q fr σ
 | .skip,hc,Q,fr,σ,h,x,a,hv,w,hG=>wp_skip ⟨fr,σ,hv,h,hG⟩
 | .label _,hc,Q,fr,σ,h,x,a,hv,w,hG=>wp_label ⟨fr,σ,hv,h,hG⟩
 | .exit id,hc,Q,fr,σ,h,x,a,hv,w,hG=>wp_exit ⟨fr,σ,hv,h,hG⟩
 | .ret,hc,Q,fr,σ,h,x,a,hv,w,hG=>wp_ret ⟨fr,σ,hv,h,hG⟩
 | .loop c,hc,Q,fr,σ,h,x,a,hv,w,hG=>h x a hv w hG
 | .scope c,hc,Q,fr,σ,h,x,a,hv,w,hG=>h x a hv w hG
 | .seq c d,hc,Q,fr,σ,h,x,a,hv,w,hG=>by
  have h1:=eo hm c (by simp only[fb,Bool.and_eq_true]at hc;exact hc.1) _ fr σ h x a hv w hG
  exact wp_seq (wp_mono h1 fun e a' w' hq=>kw (fun fr' σ' a'' hv'' w'' hk hg=>eo hm d (by simp only[fb,Bool.and_eq_true]at hc;exact hc.2) Q fr' σ' hk x a'' hv'' w'' hg) hq)
 | .cond c d e,hc,Q,fr,σ,h,x,a,hv,w,hG=>by
  simp only[wv]at h;split at h
  ·rename_i t ht;have hr:=hG.opnd c;have ht':evL (look fr) c= .bool t:=ht;rw[ht']at hr;exact wp_cond_split hr.bool_inv (fun h1=>eo hm d (by simp only[fb,Bool.and_eq_true]at hc;exact hc.1) Q fr σ (h.1 h1) x a hv w hG) fun h1=>eo hm e (by simp only[fb,Bool.and_eq_true]at hc;exact hc.2) Q fr σ (h.2 h1) x a hv w hG
  ·exact h.elim
 | .block id c,hc,Q,fr,σ,h,x,a,hv,w,hG=>by
  have h1:=eo hm c hc _ fr σ h x a hv w hG;refine wp_block (wp_mono h1 fun e a' w' hq=> ?_)
  cases e with
  |normal=>exact hq
  |exit id'=>
   obtain⟨fr',σ',hv',hq,hg⟩:=hq;simp only[zw]at hq;simp only[Exit.inBlock];split
   ·rename_i hid;rw[if_pos hid]at hq;exact⟨fr',σ',hv',hq,hg⟩
   ·rename_i hid;rw[if_neg hid]at hq;exact⟨fr',σ',hv',hq,hg⟩
  |ret=>exact hq
  |goto l=>exact hq.elim
  |panic c=>exact hq.elim
  |outgrown=>exact hq.elim
 | .region id ops d,hc,Q,fr,σ,h,x,a,hv,w,hG=>by
  simp only[wv]at h;have hN:yz N ops=true:=hc
  cases d with
  |true=>
   exact at7 hm hN h hG fun fr' σ' a' hv' w' hk hg=>⟨fr',σ',hv',hk,hg⟩
  |false=>
   refine wp_region ?_;have:=la (Q:=lift x N Q) hN ops.toList 0 fr σ a hv w (by simp) h hG fun fr' σ' a' hv' w' hk hg=>⟨fr',σ',hv',hk,hg⟩;rw[List.range_eq_range']
   simpa using this
 | .rangeFunc ..,hc,Q,fr,σ,h,x,a,hv,w,hG=>h x a hv w hG
 | .goto ..,hc,Q,fr,σ,h,x,a,hv,w,hG=>h x a hv w hG
 | .refuse ..,hc,Q,fr,σ,h,x,a,hv,w,hG=>h x a hv w hG
def wkU(σ:ASt):PV->PV->Prop
 | .os n k,.vs xs=>match ah σ n with
  |some (.arr _ _ _ ys)=>ys=xs/\k=ys.length
  |_=>False
 | .nils,.vs xs=>xs=[]
 |v,u=>v=u
def wkF(σ:ASt)(fr:AFr):AFr->Prop
 |[]=>True
 |(s,u)::r=>wkU σ (look fr s) u/\wkF σ fr r
def a4k:PV->PV->List Nat
 | .os n _,.vs _=>[n]
 |_,_=>[]
def wkN(fr:AFr):AFr->List Nat
 |[]=>[]
 |(s,u)::r=>a4k (look fr s) u++wkN fr r
def wkS(σ:ASt):ASt->Prop
 |[]=>True
 |(n,B)::r=>ah σ n=some B/\wkS σ r
mutual
def as3(d:List Nat):PV->Bool
 | .ptr n _=>d.contains n
 | .os n _=>d.contains n
 | .oel n _ _ _=>d.contains n
 | .osl n _ _=>d.contains n
 | .mh n=>d.contains n
 | .oq n _=>d.contains n
 | .oqe n _ _ _ _=>d.contains n
 | .oss n _ _ _=>d.contains n
 | .agg cs=>acw d cs
 | .tup cs=>acw d cs
 | .ago cs=>acw d cs
 | .fn _ cs=>acw d cs
 |_=>true
def acw(d:List Nat):List PV->Bool
 |[]=>true
 |u::r=>as3 d u&&acw d r
end
def az1(d:List Nat):AFr->Bool
 |[]=>true
 |(_,u)::r=>as3 d u&&az1 d r
def ra(d:List Nat):List (List PV)->Bool
 |[]=>true
 |u::r=>acw d u&&ra d r
def a4p(d:List Nat):List (PV×PV)->Bool
 |[]=>true
 |p::r=>as3 d p.2&&a4p d r
def x7(d:List Nat):ASt->Bool
 |[]=>true
 |(_,.cells cs)::r=>acw d cs&&x7 d r
 |(_,.arr _ _ _ _)::r=>x7 d r
 |(_,.arh _ _ xs)::r=>ra d xs&&x7 d r
 |(_,.mp es)::r=>a4p d es&&x7 d r
 |(_,.it m _ _)::r=>d.contains m&&x7 d r
 |(_,.si _ _)::r=>x7 d r
 |(_,.arq _ _ _ _)::r=>x7 d r
 |(_,.dead _ _)::r=>x7 d r
def a4g(d:List Nat):ASt->Bool
 |[]=>true
 |(n,_)::r=>(decide (n<1000000)||d.contains n)&&a4g d r
def wk(fr:AFr)(σ:ASt)(fr':AFr)(σ':ASt):Prop:=
 wkF σ fr fr'/\wkS σ σ'/\ak4 (σ'.map (·.1)) (wkN fr fr')=true/\az1 (σ'.map (·.1)) fr'=true/\x7 (σ'.map (·.1)) σ'=true/\a4g (σ'.map (·.1)) σ=true
theorem iy(d:List Nat)(n:Nat):d.contains n=true↔n∈d:=by simp
mutual
theorem wa{d:List Nat}: ∀(u:PV),as3 d u=true->Hin (· ∈d) u
 | .ptr n o,h=> .ptr n o ((iy d n).1 h)
 | .os n o,h=> .os n o ((iy d n).1 h)
 | .oel n k i o,h=> .oel n k i o ((iy d n).1 h)
 | .osl n k i,h=> .osl n k i ((iy d n).1 h)
 | .mh n,h=> .mh n ((iy d n).1 h)
 | .oq n k,h=> .oq n k ((iy d n).1 h)
 | .oqe n k i sz off,h=> .oqe n k i sz off ((iy d n).1 h)
 | .oss n k i m,h=> .oss n k i m ((iy d n).1 h)
 | .agg cs,h=> .agg cs (jm cs h)
 | .tup cs,h=> .tup cs (jm cs h)
 | .ago cs,h=> .ago cs (jm cs h)
 | .fn f cs,h=> .fn f cs (jm cs h)
 | .undef,_=> .undef
 | .bool b,_=> .bool b
 | .int k n,_=> .int k n
 | .str l,_=> .str l
 | .nils,_=> .nils
 | .vs xs,_=> .vs xs
 | .vx xs,_=> .vx xs
 | .sn b,_=> .sn b
 | .nilp,_=> .nilp
 | .el cs,_=> .el cs
 | .nilf,_=> .nilf
 | .ifc t u,_=> .ifc t u
 | .nili,_=> .nili
 | .nilm,_=> .nilm
theorem jm{d:List Nat}: ∀(us:List PV),acw d us=true->∀u∈us,Hin (· ∈d) u
 |[],_=>fun _ hu=>by simp at hu
 |v::r,h=>fun u hu=>by
  have hv:=wa v ((Bool.and_eq_true _ _ ▸ h:_/\_).1);have hr:=jm r ((Bool.and_eq_true _ _ ▸ h:_/\_).2);rcases List.mem_cons.1 hu with rfl|hu
  ·exact hv
  ·exact hr u hu
end
theorem Hin.mono{d d':Nat->Prop}(h: ∀n,d n->d' n){u:PV}(hu:Hin d u):Hin d' u:=by
 induction hu with
 |undef=>exact .undef
 |bool b=>exact .bool b
 |int k n=>exact .int k n
 |str l=>exact .str l
 |nils=>exact .nils
 |vs xs=>exact .vs xs
 |vx xs=>exact .vx xs
 |sn b=>exact .sn b
 |nilp=>exact .nilp
 |el cs=>exact .el cs
 |nilf=>exact .nilf
 |ifc t u=>exact .ifc t u
 |nili=>exact .nili
 |nilm=>exact .nilm
 |ptr n o hn=>exact .ptr n o (h n hn)
 |os n o hn=>exact .os n o (h n hn)
 |oel n k i o hn=>exact .oel n k i o (h n hn)
 |osl n k i hn=>exact .osl n k i (h n hn)
 |mh n hn=>exact .mh n (h n hn)
 |oq n k hn=>exact .oq n k (h n hn)
 |oqe n k i sz off hn=>exact .oqe n k i sz off (h n hn)
 |oss n k i m hn=>exact .oss n k i m (h n hn)
 |agg cs _ ih=>exact .agg cs ih
 |tup cs _ ih=>exact .tup cs ih
 |ago cs _ ih=>exact .ago cs ih
 |fn f cs _ ih=>exact .fn f cs ih
theorem acz{d:List Nat}: ∀{fr:AFr},az1 d fr=true->∀t,Hin (· ∈d) (look fr t)
 |[],_,t=> .undef
 |(s,u)::r,h,t=>by
  simp only[az1,Bool.and_eq_true]at h;simp only[look];split
  ·exact wa u h.1
  ·exact acz h.2 t
theorem ahg{σ:ASt}{n:Nat}{B:Box}(h:ah σ n=some B):(n,B)∈σ:=by
 induction σ with
 |nil=>cases h
 |cons p r ih=>
  obtain⟨m,C⟩:=p;simp only[ah]at h;split at h
  ·rename_i hm;cases h;subst hm;simp
  ·exact List.mem_cons_of_mem _ (ih h)
theorem ahr{σ:ASt}{n:Nat}(h:n∈σ.map (·.1)):ah σ n≠none:=by
 induction σ with
 |nil=>cases h
 |cons p r ih=>
  obtain⟨m,C⟩:=p;simp only[ah];split
  ·simp
  ·rename_i hm;simp only[List.map_cons,List.mem_cons]at h;rcases h with h|h
   ·exact absurd h.symm hm
   ·exact ih h
theorem yq{d:List Nat}: ∀{xs:List (List PV)},ra d xs=true->∀r∈xs,∀u∈r,Hin (· ∈d) u
 |[],_,r,hr,_,_=>by simp at hr
 |x::xs,h,r,hr,u,hu=>by
  simp only[ra,Bool.and_eq_true]at h;rcases List.mem_cons.1 hr with rfl|hr
  ·exact jm _ h.1 u hu
  ·exact yq h.2 r hr u hu
theorem afn{d:List Nat}: ∀{es:List (PV×PV)},a4p d es=true->∀e∈es,Hin (· ∈d) e.2
 |[],_,r,hr=>by simp at hr
 |x::xs,h,r,hr=>by
  simp only[a4p,Bool.and_eq_true]at h;rcases List.mem_cons.1 hr with rfl|hr
  ·exact wa _ h.1
  ·exact afn h.2 r hr
theorem gg{d:List Nat}: ∀{σ:ASt},x7 d σ=true->∀n B,ah σ n=some B->B.hin (· ∈d)
 |[],_,n,B,h=>by cases h
 |(m,C)::r,hs,n,B,h=>by
  simp only[ah]at h
  cases C with
  |cells cs=>
   simp only[x7,Bool.and_eq_true]at hs;split at h
   ·cases h;exact jm cs hs.1
   ·exact gg hs.2 n B h
  |arr e sz sh xs=>
   simp only[x7]at hs;split at h
   ·cases h;trivial
   ·exact gg hs n B h
  |arh e sz xs=>
   simp only[x7,Bool.and_eq_true]at hs;split at h
   ·cases h;exact yq hs.1
   ·exact gg hs.2 n B h
  |mp es=>
   simp only[x7,Bool.and_eq_true]at hs;split at h
   ·cases h;exact afn hs.1
   ·exact gg hs.2 n B h
  |it m k dn=>
   simp only[x7,Bool.and_eq_true]at hs;split at h
   ·cases h;exact(iy d m).1 hs.1
   ·exact gg hs.2 n B h
  |si l p=>
   simp only[x7]at hs;split at h
   ·cases h;trivial
   ·exact gg hs n B h
  |arq e sz k xs=>
   simp only[x7]at hs;split at h
   ·cases h;trivial
   ·exact gg hs n B h
  |dead sz l=>
   simp only[x7]at hs;split at h
   ·cases h;trivial
   ·exact gg hs n B h
theorem adf{d:List Nat}: ∀{σ:ASt},a4g d σ=true->∀n,1000000<=n->ah σ n≠none->n∈d
 |[],_,n,_,h=>absurd rfl h
 |(m,C)::r,hs,n,hn,h=>by
  simp only[a4g,Bool.and_eq_true]at hs;simp only[ah]at h;split at h
  ·rename_i hm;subst hm;have h1:=hs.1;simp only[Bool.or_eq_true,decide_eq_true_eq]at h1;rcases h1 with h1|h1
   ·omega
   ·simpa using h1
  ·exact adf hs.2 n hn h
theorem ak1{fr:AFr}{σ:ASt}: ∀{fr':AFr},wkF σ fr fr'->∀t,look fr' t= .undef\/(wkU σ (look fr t) (look fr' t)/\∀n∈a4k (look fr t) (look fr' t),n∈wkN fr fr')
 |[],_,t=> .inl rfl
 |(s,u)::r,h,t=>by
  simp only[look];split
  ·rename_i hs;subst hs;exact .inr ⟨h.1,fun n hn=>by simp only[wkN];exact List.mem_append.2 (.inl hn)⟩
  ·rcases ak1 h.2 t with h1|⟨h1,h2⟩
   ·exact .inl h1
   ·exact .inr ⟨h1,fun n hn=>by simp only[wkN];exact List.mem_append.2 (.inr (h2 n hn))⟩
theorem aj0{σ:ASt}: ∀{σ':ASt},wkS σ σ'->∀n B,ah σ' n=some B->ah σ n=some B
 |[],_,n,B,h=>by cases h
 |(m,C)::r,hs,n,B,h=>by
  simp only[ah]at h;split at h
  ·rename_i hm;subst hm;cases h;exact hs.1
  ·exact aj0 hs.2 n B h
theorem a1m{σ:ASt}{v u:PV}(h:wkU σ v u):v=u\/∃a,pur σ v=some (u,a)/\∀n∈a,n∈a4k v u:=by
 unfold wkU at h;split at h
 ·rename_i n k xs;split at h
  ·rename_i e sz sh ys hf;obtain⟨rfl,hk⟩:=h;exact .inr ⟨[n],by simp[pur,hf,hk],fun m hm=>by simpa [a4k] using hm⟩
  ·exact h.elim
 ·subst h;exact .inr ⟨[],rfl,by simp⟩
 ·exact .inl h
theorem Good.wk{x:Ctx P}{N:Nat}{fr fr':AFr}{σ σ':ASt}{a:Act}{hv:Nat->Value}{w:World}(h:Good x N (look fr) (ah σ) a hv w)(hw:Am.wk fr σ fr' σ'):Good x N (look fr') (ah σ') a hv w:=by
 obtain⟨h1,h2,h2',h3,h4,h5⟩:=hw;have hdom: ∀n,n∈σ'.map (·.1)->ah σ' n≠none:=fun n hn=>ahr hn;have hsh:=h.sim.shared (dp (ah σ) (wkN fr fr'))
 have hnm: ∀n B,ah σ' n=some B->n∉wkN fr fr':=fun n B hB=>jk h2' (by
  have:=ahg hB;exact List.mem_map.2 ⟨_,this,rfl⟩)
 obtain⟨hS,hR⟩:=hsh.1.drop (s':=ah σ') (fun n B hB=>by
   simp only[ar,if_neg (hnm n B hB)];exact aj0 h2 n B hB)
  (fun n B hB=>by
   have:=gg h4 n B hB
   cases B with
   |cells cs=>exact fun u hu=>(this u hu).mono hdom
   |arr=>trivial
   |arh e sz xs=>exact fun r hr u hu=>(this r hr u hu).mono hdom
   |mp es=>exact fun e he=>(this e he).mono hdom
   |it m k dn=>exact hdom m this
   |si l p=>trivial
   |arq=>trivial
   |dead sz l=>trivial)
  (fun n hn=>by
   have:=h.sim.extin n hn;exact hdom n (adf h5 n this.2 this.1))
 refine⟨hS,h.size,h.defers,fun t=> ?_⟩;rcases ak1 h1 t with ht|⟨ht,htn⟩
 ·rw[ht];exact .undef _
 ·have hh:=(acz h3 t).mono hdom;refine hR _ _ ?_ hh;rcases a1m ht with he|⟨a,hp,ha⟩
  ·rw[<-he];exact(h.regs t).mono hsh.2
  ·exact .pure (ee (ns:=wkN fr fr') h.sim (fun _ _=>rfl) hp (fun n hn=>htn n (ha n hn)) (h.regs t))
theorem o6{P:Program}{Q:Exit->Act->World->Prop}{a:Act}{w:World}{c:Code}{ι:Type}(I:ι->Act->World->Prop)(μ:ι->Nat)(h₀: ∃i,I i a w)
  (round: ∀i a w,I i a w->c.wp P (Exit.then (fun a' w'=> ∃j,I j a' w'/\μ j<μ i) Q) a w):(Code.loop c).wp P Q a w:=by
 intro b k cs
 have key: ∀n i a w,μ i=n->I i a w->
   ∃e a' w',Q e a' w'/\Arrives P (lone (b.at a (.code c:: .inLoop c::k)) cs w) b k cs e a' w':=by
  intro n
  induction n using Nat.strongRecOn with
  |_ n ih=>
   intro i a w hn hI;obtain⟨e,a₁,w₁,hq,harr⟩:=round i a w hI b (.inLoop c::k) cs
   cases e with
   |normal=>
    obtain⟨j,hI₁,hlt⟩:=hq;obtain⟨e₂,a₂,w₂,hq₂,harr₂⟩:=ih (μ j) (hn ▸ hlt) j a₁ w₁ rfl hI₁
    exact⟨e₂,a₂,w₂,hq₂,.of_steps (Steps.trans harr (.one step_inLoop)) harr₂⟩
   |exit id=>exact⟨_,a₁,w₁,hq,.pass (x:= .inLoop c) rfl (fun _ _=> .inl (by simp)) harr⟩
   |goto l=>exact⟨_,a₁,w₁,hq,.pass (x:= .inLoop c) rfl (fun _ _=> .inl (by simp)) harr⟩
   |ret=>exact⟨_,a₁,w₁,hq,.pass (x:= .inLoop c) rfl (fun _ _=> .inl (by simp)) harr⟩
   |panic ch=>exact⟨_,a₁,w₁,hq,.pass (x:= .inLoop c) rfl (fun _ _=> .inl (by simp)) harr⟩
   |outgrown=>exact⟨_,a₁,w₁,hq,.pass (x:= .inLoop c) rfl (fun _ _=> .inl (by simp)) harr⟩
 obtain⟨i,hi⟩:=h₀;obtain⟨e,a',w',hq,harr⟩:=key _ i a w rfl hi;exact⟨e,a',w',hq,.of_steps (.one step_loop) harr⟩
theorem a7l{P:Program}(hm:P.follows .mixedOrders=true){N:Nat}{c:Code}{Q:o8}{fr:AFr}{σ:ASt}(hc:fb N c=true){ι:Type}(fs:ι->AFr)(ss:ι->ASt)(I:ι->Prop)(μ:ι->Nat)(i0:ι)(hI:I i0)(hw:wk fr σ (fs i0) (ss i0))
  (round: ∀i,I i->wv P N c (ru (fun fr' σ'=> ∃j,(I j/\μ j<μ i)/\wk fr' σ' (fs j) (ss j)) Q) (fs i) (ss i)):W P N (.loop c) Q fr σ:=by
 intro x a hv w hG;refine o6 (fun(i:ι) a' w'=> ∃hv',Good x N (look (fs i)) (ah (ss i)) a' hv' w'/\I i) μ ⟨i0,hv,hG.wk hw,hI⟩ fun i a' w' hi=> ?_;obtain⟨hv',hG',hI'⟩:=hi;refine wp_mono (eo hm c hc _ (fs i) (ss i) (round i hI') x a' hv' w' hG') fun e a'' w'' hq=>kw (fun fr' σ' a3 hv3 w3 hk hg=> ?_) hq;obtain⟨j,⟨hj,hlt⟩,hwk⟩:=hk;exact⟨j,⟨hv3,hg.wk hwk,hj⟩,hlt⟩
end Go.Proofs.Am

/- Boxes under other names. -/
namespace Go.Proofs.Am
open Go Go.RowKit
variable {P:Program}
def rn(n m k:Nat):Nat:=if k=n then m else k
mutual
def renV(n m:Nat):PV->PV
 | .ptr k o=> .ptr (rn n m k) o
 | .os k l=> .os (rn n m k) l
 | .oel k a i o=> .oel (rn n m k) a i o
 | .osl k a i=> .osl (rn n m k) a i
 | .mh k=> .mh (rn n m k)
 | .oq k l=> .oq (rn n m k) l
 | .oqe k l i sz off=> .oqe (rn n m k) l i sz off
 | .oss k l i c=> .oss (rn n m k) l i c
 | .agg cs=> .agg (lf n m cs)
 | .tup cs=> .tup (lf n m cs)
 | .ago cs=> .ago (lf n m cs)
 | .fn f cs=> .fn f (lf n m cs)
 |u=>u
def lf(n m:Nat):List PV->List PV
 |[]=>[]
 |u::r=>renV n m u::lf n m r
end
theorem f9(n m:Nat): ∀(cs:List PV) (i:Nat),(lf n m cs)[i]? =(cs[i]?).map (renV n m)
 |[],i=>by simp[lf]
 |u::r,0=>by simp[lf]
 |u::r,i+1=>by simp[lf,f9 n m r i]
theorem jb(n m:Nat): ∀(cs:List PV),(lf n m cs).length=cs.length
 |[]=>rfl
 |u::r=>by simp[lf,jb n m r]
theorem aj8{n m:Nat}{cs:List PV}(h: ∀(i:Nat) (u:PV),cs[i]? =some u->renV n m u=u):lf n m cs=cs:=by
 apply List.ext_getElem?;intro i;rw[f9]
 cases hc:cs[i]? with
 |none=>rfl
 |some u=>simp[h i u hc]
theorem RP.renV{pc:Addr->Value->Prop}{v:Value}{u:PV}(h:RP pc v u)(n m:Nat):Am.renV n m u=u:=by
 induction h with
 |bool b=>rfl
 |int k i=>rfl
 |str l=>rfl
 |nils=>rfl
 |nilp=>rfl
 |nilf=>rfl
 |nili=>rfl
 |nilm=>rfl
 |sn b c h=>rfl
 |fn f=>rfl
 |vs U hn hc hsz h1 ha hr ih=>rfl
 | @agg vs cs hl h ih=>
  simp only[Am.renV]
  rw[aj8 fun i u hu=>ih i u hu]
 | @tup vs cs hl h ih=>
  simp only[Am.renV]
  rw[aj8 fun i u hu=>ih i u hu]
 |ifc t h ih=>rfl
def ju(n m:Nat):Box->Box
 | .cells cs=> .cells (lf n m cs)
 | .arr e sz sh xs=> .arr e sz sh xs
 | .arh e sz xs=> .arh e sz (xs.map (lf n m))
 | .mp es=> .mp (es.map fun p=>(p.1,renV n m p.2))
 | .it k c d=> .it (rn n m k) c d
 | .si l p=> .si l p
 | .arq e sz k xs=> .arq e sz k xs
 | .dead sz l=> .dead sz l
theorem ayp(n m:Nat)(u:PV):eh (renV n m u)=eh u:=by cases u<;>rfl
def avd(n m:Nat):AFr->AFr
 |[]=>[]
 |(s,u)::r=>(s,renV n m u)::avd n m r
def yf(n m:Nat):ASt->ASt
 |[]=>[]
 |(k,B)::r=>(rn n m k,ju n m B)::yf n m r
theorem io(n m:Nat): ∀(fr:AFr) (t:Nat),look (avd n m fr) t=renV n m (look fr t)
 |[],t=>rfl
 |(s,u)::r,t=>by
  simp only[avd,look];split
  ·rfl
  ·exact io n m r t
theorem qe{n m:Nat}: ∀{σ:ASt},ah σ m=none->∀k,k≠n->ah (yf n m σ) (rn n m n)=(ah σ n).map (ju n m)/\ah (yf n m σ) k=if k=m then(ah σ n).map (ju n m)else(ah σ k).map (ju n m)
 |[],_,k,_=>by simp[yf,ah]
 |(j,B)::r,hm,k,hk=>by
  simp only[ah]at hm;split at hm
  ·cases hm
  ·rename_i hjm;obtain⟨h1,h2⟩:=qe hm k hk;simp only[yf,ah];have hrn:rn n m n=m:=by simp[rn]
   rw[hrn]at h1 ⊢;by_cases hj:j=n
   ·subst hj;simp only[rn,if_true];refine⟨rfl,?_⟩;by_cases hkm:m=k
    ·subst hkm;simp
    ·rw[if_neg hkm,h2,if_neg (Ne.symm hkm),if_neg (Ne.symm hkm),if_neg (Ne.symm hk)]
   ·simp only[rn,if_neg hj];rw[if_neg hjm];refine⟨h1,?_⟩;by_cases hjk:j=k
    ·subst hjk;rw[if_pos rfl,if_neg hjm,if_pos rfl];rfl
    ·rw[if_neg hjk,h2];by_cases hkm:k=m
     ·rw[if_pos hkm,if_pos hkm]
     ·rw[if_neg hkm,if_neg hkm,if_neg hjk]
theorem xh{n m:Nat}(hnm:n≠m): ∀{σ:ASt},ah (yf n m σ) n=none
 |[]=>rfl
 |(j,B)::r=>by
  simp only[yf,ah]
  have:rn n m j≠n:=by
   unfold rn;split
   ·exact Ne.symm hnm
   ·assumption
  rw[if_neg this];exact xh hnm
theorem aop{n m:Nat}{B:Box}{off:Nat}:(ju n m B).perm off↔B.perm off:=by cases B<;>simp[ju,Box.perm]
theorem jr{n m:Nat}{B:Box}:(ju n m B).dim=B.dim:=by cases B<;>simp[ju,Box.dim]
theorem mq{n m:Nat}{B:Box}:(ju n m B).isM=B.isM:=by cases B<;>rfl
theorem ag0{n m:Nat}{B:Box}:(ju n m B).qdim=B.qdim:=by cases B<;>rfl
theorem anp{n m:Nat}{A B:Box}{h h':Value}(k:Box.keep A h B h'):Box.keep A h (ju n m B) h':=by
 cases A with
 |cells cs=>obtain⟨⟨ds,rfl⟩,k2⟩:=k;exact⟨⟨_,rfl⟩,k2⟩
 |arr e sz sh xs=>obtain⟨l,k1,k2⟩:=k;exact⟨l,by rw[jr];exact k1,k2⟩
 |arh e sz xs=>obtain⟨l,k1,k2⟩:=k;exact⟨l,by rw[jr];exact k1,k2⟩
 |mp es=>exact⟨by rw[mq];exact k.1,k.2⟩
 |it a b c=>exact⟨by rw[mq];exact k.1,k.2⟩
 |si a b=>exact⟨by rw[mq];exact k.1,k.2⟩
 |arq e sz k xs=>obtain⟨l,k1,k2⟩:=k;exact⟨l,by rw[ag0];exact k1,k2⟩
 |dead sz l=>obtain⟨l',k1,k2⟩:=k;exact⟨l',by rw[jr];exact k1,k2⟩
theorem Good.ren{x:Ctx P}{N:Nat}{fr:AFr}{σ:ASt}{a:Act}{hv:Nat->Value}{w:World}(hG:Good x N (look fr) (ah σ) a hv w){n m:Nat}(hm:ah σ m=none)(hn1:n<1000000)(hm1:m<1000000)(hnm:n≠m):
  ∃hv',Good x N (look (avd n m fr)) (ah (yf n m σ)) a hv' w:=by
 let hv':Nat->Value:=fun k=>if k=m then hv n else hv k
 have hrn:rn n m n=m:=by simp[rn]
 have hfm:ah (yf n m σ) m=(ah σ n).map (ju n m):=by
  have:=(qe hm m (Ne.symm hnm)).1
  rwa [hrn]at this
 have hfk: ∀k,k≠n->k≠m->ah (yf n m σ) k=(ah σ k).map (ju n m):=fun k h1 h2=>by
  have:=(qe hm k h1).2
  rwa [if_neg h2]at this
 have kinds: ∀k B',ah (yf n m σ) k=some B'->∃k0 B,rn n m k0=k/\ah σ k0=some B/\B'=ju n m B/\hv' k=hv k0:=fun k B' hB=>by
  by_cases h1:k=n
  ·subst h1;rw[xh hnm]at hB;cases hB
  ·by_cases h2:k=m
   ·subst h2;rw[hfm]at hB
    cases hf:ah σ n with
    |none=>rw[hf]at hB;cases hB
    |some B=>rw[hf]at hB;cases hB;exact⟨n,B,hrn,hf,rfl,by simp[hv']⟩
   ·rw[hfk k h1 h2]at hB
    cases hf:ah σ k with
    |none=>rw[hf]at hB;cases hB
    |some B=>rw[hf]at hB;cases hB;exact⟨k,B,by simp[rn,h1],hf,rfl,by simp[hv',h2]⟩
 have back: ∀k B,ah σ k=some B->ah (yf n m σ) (rn n m k)=some (ju n m B)/\hv' (rn n m k)=hv k:=fun k B hB=>by
  by_cases h1:k=n
  ·subst h1;rw[hrn,hfm,hB];exact⟨rfl,by simp[hv']⟩
  ·have h2:k≠m:=fun e=>by subst e;rw[hm]at hB;cases hB
   have:rn n m k=k:=by simp[rn,h1]
   rw[this,hfk k h1 h2,hB];exact⟨rfl,by simp[hv',h2]⟩
 have hpc: ∀ad v,(env x (ah σ) hv w).pc ad v->(env x (ah (yf n m σ)) hv' w).pc ad v:=fun ad v hp=>by
  refine⟨hp.1,hp.2.1,fun k B' hB hb=> ?_⟩;obtain⟨k0,B,_,h2,rfl,h4⟩:=kinds k B' hB;rw[h4]at hb;exact aop.2 (hp.2.2 k0 B h2 hb)
 have hR: ∀v u,RV (env x (ah σ) hv w) v u->RV (env x (ah (yf n m σ)) hv' w) v (renV n m u):=fun v u h=>by
  induction h with
  |undef v=>exact .undef v
  |pure h=>rw[h.renV];exact .pure (h.mono hpc)
  | @ptr k off v h=>
   obtain⟨⟨cs,h1⟩,b,h2,h3⟩:=h;obtain⟨k1,k2⟩:=back k _ h1
   exact .ptr ⟨⟨_,k1⟩,b,by rw[k2];exact h2,h3⟩
  | @os k l v h=>
   obtain⟨hsh,B,sz,l,h1,hd,h2,h3⟩:=h;obtain⟨k1,k2⟩:=back k _ h1
   exact .os ⟨hsh,_,sz,l,k1,by rw[jr];exact hd,h2,fun hl=>by rw[k2];exact h3 hl⟩
  | @oel k l i off v h=>
   obtain⟨hsh,B,sz,l',h1,hd,h2,h3⟩:=h;obtain⟨k1,k2⟩:=back k _ h1
   exact .oel ⟨hsh,_,sz,l',k1,by rw[jr];exact hd,h2,fun hl hi=>by rw[k2];exact h3 hl hi⟩
  | @osl k l i c q v hv0 h=>
   obtain⟨hsh,B,sz,l',h1,hd,h2,h3⟩:=h;obtain⟨k1,k2⟩:=back k _ h1
   exact .osl hv0 ⟨hsh,_,sz,l',k1,by rw[jr];exact hd,h2,fun hl hi=>by rw[k2];exact h3 hl hi⟩
  | @vx xs a n v hv0 h=>exact .vx hv0 (h.mono hpc)
  | @mh k v h=>
   obtain⟨⟨hb,B,h1,hM⟩,h2⟩:=h;obtain⟨k1,k2⟩:=back k _ h1
   exact .mh ⟨⟨hb,_,k1,by rw[mq];exact hM⟩,by rw[k2];exact h2⟩
  | @oq k l v h=>
   obtain⟨hsh,B,sz,l',h1,hd,h2,h3⟩:=h;obtain⟨k1,k2⟩:=back k _ h1
   exact .oq ⟨hsh,_,sz,l',k1,by rw[ag0];exact hd,h2,fun hl=>by rw[k2];exact h3 hl⟩
  | @oqe k l i sz off v0 v h h1' hq=>
   obtain⟨hsh,B,sz',l',h1,hd,h2,h3⟩:=h;obtain⟨k1,k2⟩:=back k _ h1
   exact .oqe ⟨hsh,_,sz',l',k1,by rw[ag0];exact hd,h2,fun hl=>by rw[k2];exact h3 hl⟩ h1' hq
  |el U ha hr=>exact .el U (fun j u hu=>hpc _ _ (ha j u hu)) fun j u hu=>(hr j u hu).mono hpc
  | @agg vs cs hl h ih=>
   refine .agg (by rw[jb];exact hl) fun i u hu=> ?_;rw[f9]at hu
   cases hc:cs[i]? with
   |none=>rw[hc]at hu;cases hu
   |some u0=>rw[hc]at hu;cases hu;exact ih i u0 hc
  | @oss k l i m' c q v hv0 h=>
   obtain⟨hsh,B,sz,l',h1,hd,h2,h3⟩:=h;obtain⟨k1,k2⟩:=back k _ h1
   exact .oss hv0 ⟨hsh,_,sz,l',k1,by rw[jr];exact hd,h2,fun hl hi=>by rw[k2];exact h3 hl hi⟩
  | @ago vs cs hl h ih=>
   refine .ago (by rw[jb];exact hl) fun i u hu=> ?_;rw[f9]at hu
   cases hc:cs[i]? with
   |none=>rw[hc]at hu;cases hu
   |some u0=>rw[hc]at hu;cases hu;exact ih i u0 hc
  | @tup vs cs hl h ih=>
   refine .tup (by rw[jb];exact hl) fun i u hu=> ?_;rw[f9]at hu
   cases hc:cs[i]? with
   |none=>rw[hc]at hu;cases hu
   |some u0=>rw[hc]at hu;cases hu;exact ih i u0 hc
  | @fn f vs cs hl h ih=>
   refine .fn f (by rw[jb];exact hl) fun i u hu=> ?_;rw[f9]at hu
   cases hc:cs[i]? with
   |none=>rw[hc]at hu;cases hu
   |some u0=>rw[hc]at hu;cases hu;exact ih i u0 hc
 refine⟨hv',⟨{
  os:=hG.sim.os,tape:=hG.sim.tape,output:=hG.sim.output,size:=hG.sim.size,old:=hG.sim.old,glb:=hG.sim.glb,tabs:=hG.sim.tabs
  box:=fun k B' hB=>by
   obtain⟨k0,B,_,h2,rfl,h4⟩:=kinds k B' hB;rw[h4];have hb:=hG.sim.box k0 B h2
   cases B with
   |cells cs=>
    obtain⟨b,t,arr,e1,e2,e3,e4⟩:=hb;refine⟨b,t,arr,e1,e2,by rw[jb];exact e3,fun i u hu=> ?_⟩;rw[f9]at hu
    cases hc:cs[i]? with
    |none=>rw[hc]at hu;cases hu
    |some u0=>rw[hc]at hu;cases hu;exact hR _ _ (e4 i u0 hc)
   |arr e sz sh xs=>
    obtain⟨h0,ys,e1,e2,e3,e4⟩:=hb
    exact⟨h0,ys,e1,e2,e3,fun i x j u hx hu=>(e4 i x j u hx hu).mono hpc⟩
   |arh e sz xs=>
    obtain⟨h0,ys,e1,e2,e3,e4⟩:=hb;refine⟨h0,ys,by rw[List.length_map];exact e1,fun r hr=> ?_,fun r hr=> ?_,fun i r j u hr hu=> ?_⟩
    ·obtain⟨r0,q1,rfl⟩:=List.mem_map.1 hr;rw[jb];exact e2 r0 q1
    ·obtain⟨r0,q1,rfl⟩:=List.mem_map.1 hr;refine List.all_eq_true.2 fun u hu=> ?_;obtain⟨j,hj⟩:=List.mem_iff_getElem?.1 hu;rw[f9]at hj
     cases hc:r0[j]? with
     |none=>rw[hc]at hj;cases hj
     |some u0=>rw[hc]at hj;cases hj;rw[ayp];exact List.all_eq_true.1 (e3 r0 q1) u0 (List.mem_of_getElem? hc)
    ·rw[List.getElem?_map]at hr
     cases hq:xs[i]? with
     |none=>rw[hq]at hr;cases hr
     |some r0=>
      rw[hq]at hr
      cases hr
      rw[f9]at hu
      cases hc:r0[j]? with
      |none=>rw[hc]at hu;cases hu
      |some u0=>rw[hc]at hu;cases hu;exact hR _ _ (e4 i r0 j u0 hq hc)
   |mp es=>
    obtain⟨b,arr,e1,e2,e3,e4⟩:=hb;refine⟨b,arr,e1,by rw[List.length_map];exact e2,by rw[List.length_map];exact e3,fun i p hp=> ?_⟩;rw[List.getElem?_map]at hp
    cases hq:es[i]? with
    |none=>rw[hq]at hp;cases hp
    |some p0=>
     rw[hq]at hp
     cases hp
     obtain⟨en,q1,q2,q3,q4⟩:=e4 i p0 hq
     exact⟨en,q1,q2,q3.mono hpc,hR _ _ q4⟩
   |it k' c d=>
    obtain⟨r,b,e1,e2,⟨hb,B,h1,hM⟩,h2⟩:=hb;obtain⟨k1,k2⟩:=back k' _ h1
    exact⟨r,b,e1,e2,⟨hb,_,k1,by rw[mq];exact hM⟩,by rw[k2];exact h2⟩
   |si l p=>exact hb
   |arq e sz k xs=>
    obtain⟨h0,ys,e1,e2,e3,e4⟩:=hb
    exact⟨h0,ys,e1,e2,e3,fun i x j u hx hu=>(e4 i x j u hx hu).mono hpc⟩
   |dead sz l=>exact hb
  loc:=fun k B' b hB hb=>by
   obtain⟨k0,B,_,h2,rfl,h4⟩:=kinds k B' hB;rw[h4]at hb;exact hG.sim.loc k0 B b h2 hb
  inj:=fun k k' B' C' b hB hC hb hb'=>by
   obtain⟨k0,B,h1,h2,rfl,h4⟩:=kinds k B' hB;obtain⟨k0',C,h1',h2',rfl,h4'⟩:=kinds k' C' hC;rw[h4]at hb;rw[h4']at hb';rw[<-h1,<-h1',hG.sim.inj k0 k0' B C b h2 h2' hb hb']
  ext:=fun k p B' hx hB=>by
   have hk:=(hG.sim.extin k (by rw[hx];simp)).2;obtain⟨k0,B,h1,h2,rfl,h4⟩:=kinds k B' hB
   have h0:k0=k:=by
    unfold rn at h1;split at h1
    ·omega
    ·exact h1
   subst h0;rw[h4];exact anp (hG.sim.ext k0 p B hx h2)
  vis:=hG.sim.vis
  extin:=fun k hk=>by
   obtain⟨h1,h2⟩:=hG.sim.extin k hk;refine⟨?_,h2⟩
   cases hf:ah σ k with
   |none=>exact absurd hf h1
   |some B=>
    have:=(back k B hf).1;have hr:rn n m k=k:=by unfold rn;rw[if_neg (by omega)]
    rw[hr]at this;rw[this];simp},hG.size,hG.defers,fun t=>by rw[io];exact hR _ _ (hG.regs t)⟩⟩
def azn:List (Nat×Nat)->AFr->ASt->Prop
 |[],_,_=>True
 |(n,m)::r,fr,σ=>(ah σ m=none/\n<1000000/\m<1000000/\n≠m)/\azn r (avd n m fr) (yf n m σ)
def ar7:List (Nat×Nat)->AFr->ASt->AFr×ASt
 |[],fr,σ=>(fr,σ)
 |(n,m)::r,fr,σ=>ar7 r (avd n m fr) (yf n m σ)
theorem Good.rns{x:Ctx P}{N:Nat}{a:Act}{w:World}: ∀(l:List (Nat×Nat)) {fr:AFr} {σ:ASt} {hv:Nat->Value},Good x N (look fr) (ah σ) a hv w->azn l fr σ->∃hv',Good x N (look (ar7 l fr σ).1) (ah (ar7 l fr σ).2) a hv' w
 |[],_,_,hv,hG,_=>⟨hv,hG⟩
 |(n,m)::r,fr,σ,hv,hG,h=>by
  obtain⟨⟨h1,h2,h3,h4⟩,h5⟩:=h;obtain⟨hv1,hG1⟩:=hG.ren h1 h2 h3 h4;exact Good.rns r hG1 h5
def wkR(l:List (Nat×Nat))(fr:AFr)(σ:ASt)(fr':AFr)(σ':ASt):Prop:=azn l fr σ/\wk (ar7 l fr σ).1 (ar7 l fr σ).2 fr' σ'
theorem a1h{P:Program}(hm:P.follows .mixedOrders=true){N:Nat}{c:Code}{Q:o8}{fr:AFr}{σ:ASt}(hc:fb N c=true){ι:Type}(fs:ι->AFr)(ss:ι->ASt)(I:ι->Prop)(μ:ι->Nat)(i0:ι)(hI:I i0)(l0:List (Nat×Nat))(hw:wkR l0 fr σ (fs i0) (ss i0))
  (round: ∀i,I i->wv P N c (ru (fun fr' σ'=> ∃j l,(I j/\μ j<μ i)/\wkR l fr' σ' (fs j) (ss j)) Q) (fs i) (ss i)):W P N (.loop c) Q fr σ:=by
 intro x a hv w hG;obtain⟨hv0,hG0⟩:=hG.rns l0 hw.1;refine o6 (fun(i:ι) a' w'=> ∃hv',Good x N (look (fs i)) (ah (ss i)) a' hv' w'/\I i) μ ⟨i0,hv0,hG0.wk hw.2,hI⟩ fun i a' w' hi=> ?_;obtain⟨hv',hG',hI'⟩:=hi;refine wp_mono (eo hm c hc _ (fs i) (ss i) (round i hI') x a' hv' w' hG') fun e a'' w'' hq=>kw (fun fr' σ' a3 hv3 w3 hk hg=> ?_) hq;obtain⟨j,l,⟨hj,hlt⟩,hwk⟩:=hk;obtain⟨hv4,hG4⟩:=hg.rns l hwk.1;exact⟨j,⟨hv4,hG4.wk hwk.2,hj⟩,hlt⟩
end Go.Proofs.Am
