/- AmZ. -/
import Derived.Test.YthidogjdclkoeaaGreatDoorAmX
import Derived.Below
set_option linter.unusedSimpArgs false
set_option linter.unusedVariables false
namespace Go.Proofs.Am
open Go Go.RowKit
variable {P:Program} {N:Nat} {fr fr' fr'':AFr} {σ σ' σ'':ASt}
def Cv(P:Program)(N:Nat)(fr:AFr)(σ:ASt)(fr':AFr)(σ':ASt):Prop:=
 ∀(x:Ctx P) (a:Act) (hv:Nat->Value) (w:World),Good x N (look fr) (ah σ) a hv w->∃hv',Good x N (look fr') (ah σ') a hv' w
theorem Cv.refl:Cv P N fr σ fr σ:=fun x a hv w h=>⟨hv,h⟩
theorem Cv.trans(h:Cv P N fr σ fr' σ')(k:Cv P N fr' σ' fr'' σ''):Cv P N fr σ fr'' σ'':=fun x a hv w hG=>by
 obtain⟨hv1,h1⟩:=h x a hv w hG;exact k x a hv1 w h1
theorem Cv.wk(h:Am.wk fr σ fr' σ'):Cv P N fr σ fr' σ':=fun x a hv w hG=>⟨hv,hG.wk h⟩
theorem Cv.wkR(l:List (Nat×Nat))(h:Am.wkR l fr σ fr' σ'):Cv P N fr σ fr' σ':=fun x a hv w hG=>by
 obtain⟨hv1,h1⟩:=Good.rns l hG h.1;exact⟨hv1,h1.wk h.2⟩
theorem Cv.rn(l:List (Nat×Nat))(h:azn l fr σ):Cv P N fr σ (ar7 l fr σ).1 (ar7 l fr σ).2:=fun x a hv w hG=>Good.rns l hG h
theorem Cv.weak(hF: ∀t,look fr' t= .undef\/look fr' t=look fr t)(hS: ∀n B,ah σ' n=some B->ah σ n=some B)(az1: ∀t,Hin (fun m=>ah σ' m≠none) (look fr' t))
  (x7: ∀n B,ah σ' n=some B->B.hin (fun m=>ah σ' m≠none)) (hext: ∀n,1000000<=n->ah σ n≠none->ah σ' n≠none):Cv P N fr σ fr' σ':=fun x a hv w hG=>by
 obtain⟨h1,h2⟩:=hG.sim.drop (s':=ah σ') hS x7 (fun n hn=>by
  obtain⟨q1,q2⟩:=hG.sim.extin n hn;exact hext n q2 q1)
 refine⟨hv,h1,hG.size,hG.defers,fun t=> ?_⟩;rcases hF t with h|h
 ·rw[h];exact .undef _
 ·refine h2 _ _ ?_ (az1 t);rw[h];exact hG.regs t
theorem Cv.new{n:Nat}{B:Box}(hn:ah σ n=none)(hB:(∃e sz,0<sz/\(B= .arr e sz false []\/B= .arh e sz []))):Cv P N fr σ fr (qn σ n B):=fun x a hv w hG=>by
 obtain⟨e,sz,hz,hB⟩:=hB
 have hrep: ∀E,BoxRep P E w (.slice none 0 0) B:=fun E=>by
  rcases hB with rfl|rfl
  ·exact⟨hz,[],⟨by simp,.inl ⟨rfl,rfl⟩⟩,by simp,by simp,fun i y j u hy hu=>by simp at hy⟩
  ·exact⟨hz,[],⟨by simp,.inl ⟨rfl,rfl⟩⟩,by simp,by simp,fun i y j u hy hu=>by simp at hy⟩
 obtain⟨hS,hE⟩:=hG.sim.new (d:=n) (B:=B) (hd:= .slice none 0 0) (w':=w) hn rfl rfl rfl (Nat.le_refl _) (fun _ _=>rfl) (fun b hb=>by cases hb) (fun E _=>hrep E);refine⟨upd hv n (.slice none 0 0),by rw[bi];exact hS,hG.size,hG.defers,fun t=> ?_⟩;rw[bi];exact(hG.regs t).mono hE
theorem Cv.lift{n slot:Nat}{B:Box}(hs:look fr slot= .nils)(hn:ah σ n=none)(hB:(∃e sz,0<sz/\(B= .arr e sz false []\/B= .arh e sz []))):Cv P N fr σ ((slot,.os n 0)::fr) (qn σ n B):=fun x a hv w hG=>by
 obtain⟨e,sz,hz,hB⟩:=hB
 have hrep: ∀E,BoxRep P E w (.slice none 0 0) B:=fun E=>by
  rcases hB with rfl|rfl
  ·exact⟨hz,[],⟨by simp,.inl ⟨rfl,rfl⟩⟩,by simp,by simp,fun i y j u hy hu=>by simp at hy⟩
  ·exact⟨hz,[],⟨by simp,.inl ⟨rfl,rfl⟩⟩,by simp,by simp,fun i y j u hy hu=>by simp at hy⟩
 have hdim:B.dim=some (sz,0):=by rcases hB with rfl|rfl<;>rfl
 obtain⟨hS,hE⟩:=hG.sim.new (d:=n) (B:=B) (hd:= .slice none 0 0) (w':=w) hn rfl rfl rfl (Nat.le_refl _) (fun _ _=>rfl) (fun b hb=>by cases hb) (fun E _=>hrep E);refine⟨upd hv n (.slice none 0 0),by rw[bi];exact hS,hG.size,hG.defers,fun t=> ?_⟩;rw[bi];simp only[look];split
 ·rename_i hst;subst hst;have hr:=hG.regs slot;rw[hs]at hr;rw[hr.nils_inv];exact .os ⟨⟨none,0,rfl⟩,B,sz,0,ap _ _ _,hdim,Nat.le_refl _,fun _=>(ap _ _ _).symm⟩
 ·exact(hG.regs t).mono hE
theorem Cv.again{n:Nat}{B B':Box}(hn:ah σ n=some B)(hp: ∀off,B.perm off->B'.perm off)(hk: ∀v,Box.keep B v B' v)(hB: ∀(x:Ctx P) hv w,SimW x (ah σ) hv w->BoxRep P (env x (ah σ) hv w) w (hv n) B->BoxRep P (env x (ah σ) hv w) w (hv n) B'):
  Cv P N fr σ fr (qn σ n B'):=fun x a hv w hG=>by
 have hE:Env.le (env x (ah σ) hv w) (env x (upd (ah σ) n (some B')) hv w):=by
  refine lu (fun ad v hp'=>⟨hp'.1,hp'.2.1,fun m C hC hb=> ?_⟩) fun m C hC=> ?_
  ·by_cases hm:m=n
   ·subst hm;rw[ap]at hC
    cases hC
    exact hp _ (hp'.2.2 m B hn hb)
   ·rw[al _ _ hm]at hC;exact hp'.2.2 m C hC hb
  ·by_cases hm:m=n
   ·subst hm;rw[hn]at hC
    cases hC
    exact⟨B',ap _ _ _,hk _⟩
   ·exact⟨C,by rw[al _ _ hm];exact hC,Box.keep_refl _ _⟩
 have hS:SimW x (upd (ah σ) n (some B')) hv w:=by
  refine hG.sim.step rfl rfl rfl (Nat.le_refl _) hE (fun m hm=>by unfold upd;split<;>simp_all) (fun _ _ _=>rfl) fun m C hC=> ?_;by_cases hm:m=n
  ·subst hm;rw[ap]at hC
   cases hC
   refine .inr ⟨(hB x hv w hG.sim (hG.sim.box m B hn)).mono hE,fun p hp=>Box.keep_trans (hG.sim.ext m p B hp hn) (hk _),fun b hb=>⟨hG.sim.loc m B b hn hb,fun k C hk' hC hbk=> ?_⟩⟩;rw[al _ _ hk']at hC;exact hk' (hG.sim.inj k m C B b hC hn hbk hb)
  ·rw[al _ _ hm]at hC;exact .inl ⟨hC,rfl,fun _ _=>rfl⟩
 refine⟨hv,by rw[bi];exact hS,hG.size,hG.defers,fun t=> ?_⟩;rw[bi];exact(hG.regs t).mono hE
theorem Cv.opn{n e sz:Nat}{xs:List (List PV)}(hn:ah σ n=some (.arr e sz false xs)):Cv P N fr σ fr (qn σ n (.arh e sz xs)):=
 Cv.again hn (fun off h=>h.elim) (fun v=>⟨_,rfl,Nat.le_refl _,fun _=>rfl⟩) fun x hv w hW hb=>by
  obtain⟨h0,ys,h1,h2,h3,h4⟩:=hb;exact⟨h0,ys,h1,h2,h3,fun i r j u hr hu=> .pure (h4 i r j u hr hu)⟩
theorem Cv.shutB{n e sz:Nat}{xs:List (List PV)}(hn:ah σ n=some (.arh e sz xs))(hx:lm σ xs=some (xs,[])):Cv P N fr σ fr (qn σ n (.arr e sz false xs)):=
 Cv.again hn (fun off h=>h.elim) (fun v=>⟨_,rfl,Nat.le_refl _,fun _=>rfl⟩) fun x hv w hW hb=>by
  obtain⟨h0,ys,h1,h2,h3,h4⟩:=hb;refine⟨h0,ys,h1,h2,h3,fun i r j u hr hu=> ?_⟩;obtain⟨_,_,g⟩:=kv hx;obtain⟨b,p1,p2⟩:=g i r r hr hr;have hb:b=[]:=by cases b with|nil=>rfl|cons c b=>exact absurd (p2 c (by simp)) (by simp)
  subst hb;obtain⟨_,q⟩:=dh (ns:=[]) hW (fun n hn=>by simp at hn) p1 (fun n hn=>by simp at hn);have:=q j u u hu hu _ (h4 i r j u hr hu);have hsh:ar (ah σ) []=ah σ:=by funext m;simp[ar]
  rwa [hsh]at this
def cvQ(P:Program)(N:Nat)(Q:o8):o8:=fun e fr σ=> ∃fr' σ',Cv P N fr σ fr' σ'/\Q e fr' σ'
theorem aja{x:Ctx P}{Q:o8}{e:Exit}{a:Act}{w:World}(h:lift x N (cvQ P N Q) e a w):lift x N Q e a w:=by
 have go: ∀(e':EX),(∃fr σ hv,cvQ P N Q e' fr σ/\Good x N (look fr) (ah σ) a hv w)->∃fr σ hv,Q e' fr σ/\Good x N (look fr) (ah σ) a hv w:=fun e'=>by
  rintro⟨fr,σ,hv,⟨fr',σ',hc,hq⟩,hG⟩;obtain⟨hv',hG'⟩:=hc x a hv w hG;exact⟨fr',σ',hv',hq,hG'⟩
 cases e with
 |normal=>exact go _ h
 |exit id=>exact go _ h
 |ret=>exact go _ h
 |goto l=>exact h.elim
 |panic c=>exact h.elim
 |outgrown=>exact h.elim
theorem amy(hm:P.follows .mixedOrders=true){c:Code}{Q:o8}{ι:Type}(i0:ι)(fs:ι->AFr)(ss:ι->ASt)(I:ι->Prop)(μ:ι->Nat)(hc:fb N c=true)(hI:I i0)(hw:Cv P N fr σ (fs i0) (ss i0))
  (round: ∀i,I i->wv P N c (ru (fun fr' σ'=> ∃j,(I j/\μ j<μ i)/\Cv P N fr' σ' (fs j) (ss j)) (cvQ P N Q)) (fs i) (ss i)):wv P N (.loop c) Q fr σ:=by
 intro x a hv w hG;obtain⟨hv0,hG0⟩:=hw x a hv w hG;refine o6 (fun(i:ι) a' w'=> ∃hv',Good x N (look (fs i)) (ah (ss i)) a' hv' w'/\I i) μ ⟨i0,hv0,hG0,hI⟩ fun i a' w' hi=> ?_;obtain⟨hv',hG',hI'⟩:=hi;refine wp_mono (eo hm c hc _ (fs i) (ss i) (round i hI') x a' hv' w' hG') fun e a'' w'' hq=> ?_;have hq':=kw (K':=fun a' w'=> ∃j,(∃hv',Good x N (look (fs j)) (ah (ss j)) a' hv' w'/\I j)/\μ j<μ i) (fun fr' σ' a3 hv3 w3 hk hg=> ?_) hq
 ·cases e with
  |normal=>exact hq'
  |exit id=>exact aja (P:=P) (Q:=Q) (e:= .exit id) hq'
  |ret=>exact aja (P:=P) (Q:=Q) (e:= .ret) hq'
  |goto l=>exact hq'
  |panic c=>exact hq'
  |outgrown=>exact hq'
 ·obtain⟨j,⟨hj,hlt⟩,hcv⟩:=hk;obtain⟨hv4,hG4⟩:=hcv x a3 hv3 w3 hg;exact⟨j,⟨hv4,hG4,hj⟩,hlt⟩
theorem uj(Q:o8)(id:Nat)(h:Q (.exit id) fr σ):cvQ P N Q (.exit id) fr σ:=⟨fr,σ,Cv.refl,h⟩
theorem a2t(Q:o8)(h:Q .ret fr σ):cvQ P N Q .ret fr σ:=⟨fr,σ,Cv.refl,h⟩
def grp(b:Nat):List Box->ASt
 |[]=>[]
 |B::r=>(b,B)::grp (b+1) r
theorem gz: ∀(l:List Box) (b n:Nat),ah (grp b l) n=if b<=n then l[n - b]? else none
 |[],b,n=>by simp[grp,ah]
 |B::r,b,n=>by
  simp only[grp,ah];by_cases h:b=n
  ·subst h;simp
  ·rw[if_neg h,gz r (b+1) n];by_cases h2:b+1<=n
   ·rw[if_pos h2,if_pos (by omega),show n - b=(n - (b+1))+1 by omega];simp
   ·rw[if_neg h2];by_cases h3:b<=n
    ·omega
    ·rw[if_neg h3]
theorem ji(l:List Box)(b j:Nat):ah (grp b l) (b+j)=l[j]?:=by rw[gz];simp
theorem xe(l:List Box)(b n:Nat)(h:n<b):ah (grp b l) n=none:=by rw[gz,if_neg (by omega)]
end Go.Proofs.Am

/- Contracts at whatever world, as contracts on abstract values, and back; what is known of the variables. -/
namespace Go.Proofs.Am
open Go Go.RowKit
variable {P:Program}
theorem ew(n:Nat):d4 [] [] n=none:=by unfold d4;split<;>simp
theorem wx{k:FuncId}{args:List PV}{r:PV}(henter: ∀us w,(callFunc k us).run P w= .ok (.enter k us) w)
  (h: ∀(w:World) (V:Addr->Prop) (vals:List Value),Laid P w->(∀a,V a->a.block<w.heap.size)->vals.length=args.length->
   (∀(i:Nat) (v:Value) (u:PV),vals[i]? =some v->args[i]? =some u->∃E:Env,RV E v u/\(∀a x,E.pc a x->w.cell? a=some x/\V a))->
   Calls P k vals.toArray w fun e W'=> ∃v,e= .returned v/\Below w.heap.size w W'/\RP (fun a x=>W'.cell? a=some x/\(V a\/w.heap.size<=a.block)) v r):
  Den P k args [] r [] []:=by
 refine⟨henter,fun w V hv gc vals hS hlen hval=> ?_⟩
 have hE: ∀b,¬(cx (P:=P) w V hv [] gc).E b:=fun b=>by
  rintro⟨n,B,h,_⟩;rw[ew]at h;cases h
 refine(h w V vals (hS.tabs w fun b o hb=>(hS.glb b o hb).1) (fun a ha=>(hS.vis a ha).2) hlen fun i v u hi hu=>⟨_,hval i v u hi hu,fun a x ha=>⟨ha.1,?_⟩⟩).mono fun en w'=> ?_
 ·rcases ha.2.1 with h1|h1|h1
  ·exact h1
  ·have:=block_lt_of_cell ha.1;simp only[cx]at h1;omega
  ·exact(hE _ h1).elim
 ·rintro⟨v,rfl,hB,hR⟩;refine⟨v,hv,rfl,{os:=hB.os,tape:=hB.tape,output:=hB.output,size:=hB.size,old:=fun b hb _=>hB.block b hb,box:=fun n B h=> ?_,loc:=fun n B b h=> ?_,inj:=fun n m B C b h=> ?_,ext:=fun n p B h1 h=> ?_,vis:=hS.vis,extin:=fun n h=> ?_,glb:=hS.glb,tabs:=hS.tabs},.pure (RP.mono (fun a x h=>⟨h.1,?_,fun n B hB=> ?_⟩) hR)⟩
  ·rw[ew]at h;cases h
  ·rw[ew]at h;cases h
  ·rw[ew]at h;cases h
  ·rw[ew]at h;cases h
  ·simp[cx,ew]at h
  ·rcases h.2 with h1|h1
   ·exact .inl h1
   ·exact .inr (.inl h1)
  ·rw[ew]at hB;cases hB
theorem qr{w:World}(h:Laid P w):Tabs P (fun b o=>w.heap[b]? =some o):=fun w' hw=>by
 have hc: ∀a v,w.cell? a=some v->w'.cell? a=some v:=fun a v ha=>by
  have hlt:=block_lt_of_cell ha;exact(World.cell?_of_block ((hw a.block _ (Array.getElem?_eq_getElem hlt)).trans (Array.getElem?_eq_getElem hlt).symm)).trans ha
 have ts: ∀g k t,Lib.TabSlice g k t w->Lib.TabSlice g k t w':=fun g k t=>by
  rintro⟨R,o,c,h1,h2⟩;exact⟨R,o,c,hc _ _ h1,fun j hj=>hc _ _ (h2 j hj)⟩
 refine⟨fun g20 g21 g22 g23 e1 e2 e3 e4=> ?_,fun g3 g4 e1 e2=> ?_,fun g e=> ?_⟩
 ·obtain⟨p1,p2,p3,p4,p5⟩:=h.print g20 g21 g22 g23 e1 e2 e3 e4;exact⟨ts _ _ _ p1,ts _ _ _ p2,ts _ _ _ p3,ts _ _ _ p4,p5⟩
 ·obtain⟨p1,p2⟩:=h.utf8 g3 g4 e1 e2;exact⟨fun c hcc=>hc _ _ (p1 c hcc),fun i hi=>⟨hc _ _ (p2 i hi).1,hc _ _ (p2 i hi).2⟩⟩
 ·have p:=h.pow g e;unfold Lib.TabIs World.var? at p ⊢;rw[e]at p ⊢;simp only[Option.bind_some]at p ⊢
  cases hg:w.heap[g]? with
  |none=>rw[hg]at p;cases p
  |some o=>rw[hw g o hg];rw[hg]at p;exact p
theorem x5{k:FuncId}{args:List PV}{r:PV}(D:Den P k args [] r [] [])(W:World)(hL:Laid P W)(V:Addr->Prop)(vals:List Value)(hl:vals.length=args.length)
  (h: ∀(i:Nat) (v:Value) (u:PV),vals[i]? =some v->args[i]? =some u->RP (fun a x=>W.cell? a=some x/\V a) v u):
  Calls P k vals.toArray W fun e W'=> ∃v,e= .returned v/\W.grownBy W' none/\∃E:Env,RV E v r/\∀a x,E.pc a x->W'.cell? a=some x/\(V a\/W.heap.size<=a.block):=by
 have hS:SimW (cx (P:=P) W (fun a=>V a/\a.block<W.heap.size) (fun _=>Go.undef) [] (fun b o=>W.heap[b]? =some o)) (d4 [] []) (fun _=>Go.undef) W:=by
  refine {os:=rfl,tape:=rfl,output:=rfl,size:=Nat.le_refl _,old:=fun _ _ _=>rfl,box:=fun n B h=> ?_,loc:=fun n B b h=> ?_,inj:=fun n m B C b h=> ?_,ext:=fun n p B h1 h=> ?_,vis:=fun a ha=>⟨?_,ha.2⟩,extin:=fun n h=> ?_,glb:=fun b o hb=>⟨hb,?_⟩,tabs:=qr hL}
  ·rw[ew]at h;cases h
  ·rw[ew]at h;cases h
  ·rw[ew]at h;cases h
  ·rw[ew]at h;cases h
  ·rintro⟨n,B,h,_⟩;rw[ew]at h;cases h
  ·simp[cx,ew]at h
  ·rintro⟨n,B,h,_⟩;rw[ew]at h;cases h
 refine(D.run W _ _ _ vals hS hl fun i v u hi hu=> .pure (RP.mono (fun a x ⟨h1,h2⟩=>⟨h1,.inl ⟨h2,block_lt_of_cell h1⟩,fun n B hB=>by rw[ew]at hB;cases hB⟩) (h i v u hi hu))).mono fun en w'=> ?_
 ·rintro⟨v,hv',rfl,hS',hR⟩;refine⟨v,rfl,⟨hS'.os,hS'.tape,hS'.output,hS'.size,fun b hb _=> ?_⟩,_,hR,fun a x ha=>⟨ha.1,?_⟩⟩
  ·refine hS'.old b hb ?_;rintro⟨n,B,h,_⟩;rw[ew]at h;cases h
  ·rcases ha.2.1 with h1|h1|⟨n,B,h1,_⟩
   ·exact .inl h1.1
   ·exact .inr h1
   ·rw[ew]at h1;cases h1
theorem ajp{pc:Addr->Value->Prop}{v:Value}{xs:List (List PV)}{sz:Nat}(h:RP pc v (.vs xs))(hs: ∀x∈xs,x.length=sz): ∃(a:Option Addr) (c:Nat) (U:Nat->Nat->Value),v= .slice a xs.length c/\xs.length<=c/\
  (0<xs.length->∃ad,a=some ad/\∀i x j u,xs[i]? =some x->x[j]? =some u->pc (ad.add (i*sz+j)) (U i j))/\∀i x j u,xs[i]? =some x->x[j]? =some u->RP pc (U i j) u:=by
 obtain⟨a,c,sz',U,h1,h2,h3,h4,h5,h6⟩:=h.vs_inv;refine⟨a,c,U,h1,h2,fun hp=> ?_,h6⟩;obtain⟨x0,hx0⟩: ∃x0,x0∈xs:=by cases xs with|nil=>simp at hp|cons x r=>exact⟨x,by simp⟩
 have:sz'=sz:=by rw[<-h3 x0 hx0,hs x0 hx0]
 subst this;exact h5 hp
end Go.Proofs.Am

/- A cell that holds a nil slice which is to grow; the Builder's cells. -/
namespace Go.Proofs.Am
open Go Go.RowKit
variable {P:Program} {N:Nat} {fr:AFr} {σ:ASt}
theorem Good.again{x:Ctx P}{a:Act}{hv:Nat->Value}{w:World}{n:Nat}{B B':Box}(hG:Good x N (look fr) (ah σ) a hv w)(hn:ah σ n=some B)(hp: ∀off,B.perm off->B'.perm off)(hk: ∀v,Box.keep B v B' v)
  (hB:BoxRep P (env x (ah σ) hv w) w (hv n) B->BoxRep P (env x (ah σ) hv w) w (hv n) B'):Good x N (look fr) (ah (qn σ n B')) a hv w:=by
 have hE:Env.le (env x (ah σ) hv w) (env x (upd (ah σ) n (some B')) hv w):=by
  refine lu (fun ad v hp'=>⟨hp'.1,hp'.2.1,fun m C hC hb=> ?_⟩) fun m C hC=> ?_
  ·by_cases hm:m=n
   ·subst hm;rw[ap]at hC
    cases hC
    exact hp _ (hp'.2.2 m B hn hb)
   ·rw[al _ _ hm]at hC;exact hp'.2.2 m C hC hb
  ·by_cases hm:m=n
   ·subst hm;rw[hn]at hC
    cases hC
    exact⟨B',ap _ _ _,hk _⟩
   ·exact⟨C,by rw[al _ _ hm];exact hC,Box.keep_refl _ _⟩
 have hS:SimW x (upd (ah σ) n (some B')) hv w:=by
  refine hG.sim.step rfl rfl rfl (Nat.le_refl _) hE (fun m hm=>by unfold upd;split<;>simp_all) (fun _ _ _=>rfl) fun m C hC=> ?_;by_cases hm:m=n
  ·subst hm;rw[ap]at hC
   cases hC
   refine .inr ⟨(hB (hG.sim.box m B hn)).mono hE,fun p hp=>Box.keep_trans (hG.sim.ext m p B hp hn) (hk _),fun b hb=>⟨hG.sim.loc m B b hn hb,fun k C hk' hC hbk=> ?_⟩⟩;rw[al _ _ hk']at hC;exact hk' (hG.sim.inj k m C B b hC hn hbk hb)
  ·rw[al _ _ hm]at hC;exact .inl ⟨hC,rfl,fun _ _=>rfl⟩
 refine⟨by rw[bi];exact hS,hG.size,hG.defers,fun t=> ?_⟩;rw[bi];exact(hG.regs t).mono hE
theorem Cv.asL{n slot e sz:Nat}{sh:Bool}{xs:List (List PV)}(hs:look fr slot= .os n xs.length)(hn:ah σ n=some (.arr e sz sh xs)):
  Cv P N fr σ ((slot,.vs xs)::fr) (qn σ n (.arr e sz true xs)):=fun x a hv w hG=>by
 obtain⟨hS,hE⟩:=hG.sim.shared (dp (ah σ) [n])
 have he:ar (ah σ) [n]=upd (ah σ) n (some (.arr e sz true xs)):=by
  funext m;unfold ar upd;by_cases hm:m=n
  ·subst hm;simp[hn,Box.share]
  ·simp[hm]
 rw[he]at hS hE;have h0:upd (ah σ) n (some (.arr e sz true xs)) n=some (.arr e sz true xs):=ap _ _ _;refine⟨hv,by rw[bi];exact hS,hG.size,hG.defers,fun t=> ?_⟩;rw[bi];simp only[look];split
 ·rename_i hst;subst hst;have hr:=hG.regs slot;rw[hs]at hr;obtain⟨_,B,sz',l,k1,k2,k3,k4⟩:=hr.os_inv;rw[hn]at k1
  cases k1
  simp only[Box.dim,Option.some.injEq,Prod.mk.injEq]at k2;rw[k4 k2.2];exact .pure (hS.asList h0)
 ·exact(hG.regs t).mono hE
end Go.Proofs.Am
