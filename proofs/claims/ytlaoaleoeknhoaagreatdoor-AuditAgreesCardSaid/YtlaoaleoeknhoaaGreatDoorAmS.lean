/- AmS. -/
import Derived.Test.YtlaoaleoeknhoaaGreatDoorAmR
set_option linter.unusedSimpArgs false
set_option linter.unusedVariables false
namespace Go.Proofs.Am
open Go Go.RowKit
variable {P:Program}{σ:ASt}{w:World}{N sz:Nat}{x:Ctx P}{xs:List LP}{exts:LN}{r:PV}{args:LP}{c:Code}{fr:AFr}{a:Act}{k:FuncId}{ext ext' nb:List Box}{fn:Func}{α:Type}{rs:List ResultVar}
def aad:Nat->LP->AFr
 |_,[]=>[]
 |i,u::r=>(i,u)::aad (i+1) r
def yu:Nat->List Box->ASt
 |_,[]=>[]
 |j,B::r=>(1000000+j,B)::yu (j+1) r
theorem afx: ∀(args:LP) (i t:Nat),look (aad i args) t=if i<=t then args.getD (t - i) .undef else .undef
 |[],i,t=>by simp[aad,look]
 |u::r,i,t=>by
  simp only[aad,look];rw[afx r (i+1) t];by_cases h:i=t
  .subst h;simp
  .rw[if_neg h];by_cases h':i<=t
   .have:t - i=(t - (i+1))+1:=Aa
    rw[if_pos Aa,if_pos h',this];simp
   .rw[if_neg Aa,if_neg h']
theorem agb: ∀(ext:List Box) (j n:Nat),ai (yu j ext) n=if 1000000+j<=n then ext[n - (1000000+j)]? else none
 |[],j,n=>by simp[yu,ai]
 |B::r,j,n=>by
  simp only[yu,ai];rw[agb r (j+1) n];by_cases h:1000000+j=n
  .subst h;simp
  .rw[if_neg h];by_cases h':1000000+j<=n
   .have:n - (1000000+j)=(n - (1000000+(j+1)))+1:=Aa
    rw[if_pos Aa,if_pos h',this];simp
   .rw[if_neg Aa,if_neg h']
theorem amt(ext:List Box):ai (yu 0 ext)=fg [] ext:=by funext n;rw[agb];unfold fg;by_cases h:n<1000000;{rw[if_pos h,if_neg Aa];rfl};.rw[if_neg h,if_pos Aa]
def t6(σ:ASt)(ns exts:LN):LP->Option (LP×LN)
 |[]=>some ([],[])
 |u::us=>match a9l σ ns exts u,t6 σ ns exts us with
  |some (v,a),some (vs,b)=>some (v::vs,a++b)
  |_,_=>none
theorem alf{ns:LN}: ∀{us us':LP} {b:LN},t6 σ ns exts us=some (us',b)->us'.length=us.length/\∀(i:Nat) (u u':PV),us[i]? =some u->us'[i]? =some u'->∃a,a9l σ ns exts u=some (u',a)/\∀n∈a,n∈b
 |[],us',b,h=>by cases h;simp
 |u::us,us',b,h=>by
  simp only[t6]at h
  cases h1:a9l σ ns exts u with
  |none=>rw[h1]at h;cases h
  |some p=>
   cases h2:t6 σ ns exts us with
   |none=>rw[h1,h2]at h;cases h
   |some q=>
    obtain⟨v,a⟩:=p;obtain⟨s,o⟩:=q;rw[h1,h2]at h;simp only[b0c,b0t]at h;obtain⟨rfl,rfl⟩:=h;obtain⟨j,k⟩:=alf h2;refine⟨by simp[j],λi r g f d=> ?_⟩
    cases i with
    |zero=>
     simp at f d;subst f d
     exact⟨a,h1,λn e=>D4⟩
    |succ i=>
     obtain⟨c,l,m⟩:=k i r g F3 Aq;exact⟨c,l,λn e=>by simp[m n e]⟩
def aml:LP->PV
 |[u]=>u
 |us=> .tup us
def zt:LN->Bool
 |[]=>true
 |n::r=> !r.contains n&&zt r
theorem mj: ∀{l:LN},zt l=true->l.Nodup
 |[],_=>List.nodup_nil
 |n::r,h=>by
  simp only[zt,b0l]at h;exact b3i.2 ⟨by simpa using h.1,mj h.2⟩
def wu(ns exts shl:LN):Bool:=ns.all (λn=>decide (n<1000000))&&zt ns&&decide (ns.length<1000000)&&aoy ns shl&&aoy exts shl
def bep(P:Program)(rs:List ResultVar)(ns exts:LN)(r:PV)(nb ext':List Box)(fr:AFr)(σ:ASt):Prop:=
 match ao5 P fr σ rs with
 |some us=>match aai σ ns,aai σ exts,t6 σ ns exts us with
  |some (nb0,b1),some (e0,b2),some (us',b3)=>wu ns exts (b1++(b2++b3))=true/\nb0=nb/\e0=ext'/\aml us'=r
  |_,_,_=>False
 |none=>False
def bpr(P:Program)(rs:List ResultVar)(ns exts:LN)(r:PV)(nb ext':List Box):r8
 | .exit _,_,_=>False
 |_,fr,σ=>bep P rs ns exts r nb ext' fr σ
theorem ap8{tmps:Array Value}{vs:List Value}(h:(fn.results.toList.mapM (bmr tmps)).run P w= .ok vs w):
  (results fn tmps).run P w= .ok (match vs with|[v]=>v|vs=> .tuple vs.toArray) w:=by have a:results fn tmps=(fn.results.mapM (bmr tmps))>>=λvs=>pure (if h:vs.size=1 then vs[0]else .tuple vs):=(by unfold results;congr 1);rw[a,Array.mapM_eq_mapM_toList];simp only[b0v,map_eq_pure_bind,bind_assoc,pure_bind,h,b0w,b1r];congr 1;match vs with|[]=>rfl|[v]=>rfl|v::u::r=>simp
def lifts:List (Nat×Nat×Nat×Nat)->AFr->ASt->AFr×ASt
 |[],fr,σ=>(fr,σ)
 |(slot,n,e,sz)::r,fr,σ=>lifts r ((slot,.os n 0)::fr) (s7 σ n (.arr e sz false []))
def uo:List (Nat×Nat×Nat×Nat)->AFr->ASt->Prop
 |[],_,_=>True
 |(slot,n,e,sz)::r,fr,σ=>look fr slot= .nils/\ai σ n=none/\0<sz/\uo r ((slot,.os n 0)::fr) (s7 σ n (.arr e sz false []))
theorem Good.lift1{hv:Nat->Value}(c:Good x N (look fr) (ai σ) a hv w){slot n e:Nat}{sh:Bool}(hs:look fr slot= .nils)(g:ai σ n=none)(o:0<sz):
  ∃hv',Good x N (look ((slot,.os n 0)::fr)) (ai (s7 σ n (.arr e sz sh []))) a hv' w:=by obtain⟨h,m⟩:=c.sim.new (d:=n) (B:= .arr e sz sh []) (hd:= .slice none 0 0) (w':=w) g rfl rfl rfl (b0f _) (λ_ _=>rfl) (λb k=>by cases k) (λE _=>⟨o,[],⟨Ad,.inl ⟨rfl,rfl⟩⟩,Ad,Ad,λi y j u l p=>by simp at l⟩);refine⟨upd hv n (.slice none 0 0),by rw[bp];exact h,c.size,c.defers,λt=> ?_⟩;rw[bp];simp only[look];split;{rename_i hst;subst hst;have f:=c.regs slot;rw[hs]at f;rw[f.nils_inv];exact .os ⟨⟨none,0,rfl⟩,.arr e sz sh [],sz,0,av _ _ _,rfl,b0f _,λ_=>(av _ _ _).symm⟩};.exact(c.regs t).mono m
theorem Good.lifts: ∀(l:List (Nat×Nat×Nat×Nat)) {fr:AFr} {σ:ASt} {hv:Nat->Value},Good x N (look fr) (ai σ) a hv w->uo l fr σ->
  ∃hv',Good x N (look (Am.lifts l fr σ).1) (ai (Am.lifts l fr σ).2) a hv' w
 |[],_,_,hv,hG,_=>⟨hv,hG⟩
 |(slot,n,e,sz)::r,fr,σ,hv,hG,h=>by
  obtain⟨h1,h2,h3,h4⟩:=h;obtain⟨c,b⟩:=hG.lift1 (e:=e) (sh:=false) h1 h2 h3;exact Good.lifts r b h4
def br1(P:Program)(rs:List ResultVar)(ns exts:LN)(r:PV)(nb ext':List Box)(fr:AFr)(σ:ASt):Prop:=
 ∃us b1 b2 us' b3,ao5 P fr σ rs=some us/\brd σ ns exts nb b1/\bs1 σ exts ext' b2/\t6 σ ns exts us=some (us',b3)/\wu ns exts (b1++(b2++b3))=true/\aml us'=r
theorem a16{ns:LN}(h:bep P rs ns exts r nb ext' fr σ):br1 P rs ns exts r nb ext' fr σ:=by unfold bep at h;split at h;{rename_i us hus;split at h;{rename_i nb0 b1 e0 b2 us' b3 h1 h2 h3;obtain⟨a,rfl,rfl,rfl⟩:=h;exact⟨us,b1,b2,us',b3,hus,a6e h1,blj h2,h3,a,rfl⟩};.exact h.elim};.exact h.elim
def bn2(P:Program)(rs:List ResultVar)(ns exts0 exts:LN)(c m:Nat)(es:List (PV×PV))(r:PV)(nb ext0':List Box)(fr:AFr)(σ:ASt):Prop:=
 match ao5 P fr σ rs with
 |some us=>match aai σ ns,aai σ exts0,t6 σ ns exts us with
  |some (nb0,b1),some (e0,b2),some (us',b3)=>(ai σ c=some (.cells [.mh m])/\ai σ m=some (.mp es))/\wu ns exts (b1++(b2++b3))=true/\nb0=nb/\e0=ext0'/\aml us'=r
  |_,_,_=>False
 |none=>False
def ano(P:Program)(rs:List ResultVar)(ns exts0 exts:LN)(c m:Nat)(e sz k:Nat)(xs:List LP)(r:PV)(nb ext0':List Box)(fr:AFr)(σ:ASt):Prop:=
 match ao5 P fr σ rs with
 |some us=>match aai σ ns,aai σ exts0,t6 σ ns exts us with
  |some (nb0,b1),some (e0,b2),some (us',b3)=>(ai σ c=some (.cells [.os m k])/\ai σ m=some (.arr e sz false xs))/\wu ns exts (b1++(b2++b3))=true/\nb0=nb/\e0=ext0'/\aml us'=r
  |_,_,_=>False
 |none=>False
theorem bbv{ns b:LN}{c m:Nat}{e k:Nat}{d:List Box}(l:exts=b++[c,m])(f:ext'=d++[.cells [.os m k],.arr e sz false xs])(h:ano P rs ns b exts c m e sz k xs r nb d fr σ):br1 P rs ns exts r nb ext' fr σ:=by unfold ano at h;split at h;{rename_i us hus;split at h;{rename_i nb0 b1 e0 b2 us' b3 h1 h2 h3;obtain⟨⟨w,v⟩,o,rfl,rfl,rfl⟩:=h;obtain⟨p,y⟩:=aba h2;refine⟨us,b1,b2,us',b3,hus,a6e h1,⟨by rw[l,f];simp[p],λj n g=> ?_⟩,h3,o,rfl⟩;have i:j<b.length\/j=b.length\/j=b.length+1:=(by have:=(dm.1 g).1;rw[l]at this;simp at this;omega);rcases i with i|rfl|rfl;{rw[l,b09 i]at g;obtain⟨B,s,a,t,x,z,A⟩:=y j n g;exact⟨B,s,a,t,by rw[f,b09 Aa];exact x,.inl z,A⟩};{rw[l,b0y Aa]at g;simp at g;subst g;refine⟨_,_,[],w,by rw[f,b0y Aa,p];simp,.inr ⟨rfl,rfl,.inl ⟨_,rfl,λu q=> .inl ⟨m,by rw[l];simp,.inr ⟨k,by simpa using q⟩⟩⟩⟩,Ad⟩};.rw[l,b0y Aa]at g;simp at g;subst g;refine⟨_,_,[],v,by rw[f,b0y Aa,p];simp,.inl rfl,Ad⟩};.exact h.elim};.exact h.elim
def bhi(P:Program)(rs:List ResultVar)(ns exts0 exts:LN)(c m:Nat)(e sz k:Nat)(xs:List LP)(r:PV)(nb ext0':List Box):r8
 | .exit _,_,_=>False
 |_,fr,σ=>ano P rs ns exts0 exts c m e sz k xs r nb ext0' fr σ
def bmw(P:Program)(rs:List ResultVar)(exts:LN)(r:PV)(nb ext':List Box)(fr:AFr)(σ:ASt):Prop:=
 ∃(l:List (Nat×Nat×Nat×Nat)) (ns:LN),uo l fr σ/\br1 P rs ns exts r nb ext' (lifts l fr σ).1 (lifts l fr σ).2
def bio(P:Program)(rs:List ResultVar)(exts:LN)(r:PV)(nb ext':List Box):r8
 | .exit _,_,_=>False
 |_,fr,σ=>bmw P rs exts r nb ext' fr σ
theorem ar5(hm:P.follows .mixedOrders=true)(hf:P.funcs[k]? =some fn)(hb:fn.body=some c)
  (S: ∀as w,(callFunc k as).run P w= .ok (.enter k as) w) (hN:fn.ntmps=N) (U:fn.results.toList=rs) (a6:args.length<=N)  (m:exts=List.range' 1000000 ext'.length) (a0:ext'.length=ext.length)
  (h:W P N c (bio P rs exts r nb ext') (aad 0 args) (yu 0 ext)):Den P k args ext r nb ext':=by
 refine⟨S,λw V o x b hS hl hR=> ?_⟩;refine calls_of_wp hf hb ?_
 have hG:Good (cx (P:=P) w V o ext x) N (look (aad 0 args)) (ai (yu 0 ext)) {tmps:=b.toArray++Array.replicate (fn.ntmps - b.toArray.size) undef,defers:=[]} o w:=by refine⟨by rw[amt];exact hS,Ag,rfl,λt=> ?_⟩;rw[afx,amt];simp only[b0k,b4i,Nat.sub_zero];by_cases C:t<args.length;{have htv:t<b.length:=Aa;have:=hR t _ _ (bq htv) (bq C);rw[bd,bq C];have e:(b.toArray++Array.replicate (fn.ntmps - b.toArray.size) undef).getD t undef=b[t]:=(by rw[b1c,b23 (by simpa using htv)];simp[htv]);rw[e];exact this};.rw[bd,b2o Aa];exact .undef _
 refine wp_mono (h (cx (P:=P) w V o ext x) _ o w hG) λe R y f=> ?_
 have fin:(∃fr σ g,bmw P rs exts r nb ext' fr σ/\Good (cx (P:=P) w V o ext x) N (look fr) (ai σ) R g y)->
   R.defers=[]/\∃v,(results fn R.tmps).run P y= .ok v y/\∃v' g,Ending.returned v= .returned v'/\SimW (cx (P:=P) w V o ext x) (fg nb ext') g y/\RV (env (cx (P:=P) w V o ext x) (fg nb ext') g y) v' r:=by
  rintro⟨H,σ0,G,⟨l,ns,M,f⟩,Q⟩;obtain⟨g,I⟩:=Q.lifts l M;revert f I;generalize (lifts l H σ0).1=fr;generalize (lifts l H σ0).2=σ;intro f I;obtain⟨us,b1,b2,p,b3,T,h1,h2,X,D,rfl⟩:=f;simp only[wu,b0l,b01]at D;obtain⟨⟨⟨⟨a1,a2⟩,a3⟩,a4⟩,a5⟩:=D
  obtain⟨z,O,L⟩:=a7e (shl:=b1++(b2++b3)) I.sim h1 h2 m (λn d=>by
    simp only[cx]at d
    cases f:fg [] ext n with
    |none=>rw[f]at d;simp at d
    |some B=>
     rcases gj f with ⟨_,X⟩|⟨j,rfl,hj⟩
     .simp at X
     .have:=(dm.1 hj).1;rw[m];simp[b5m];omega)
   (λn d=>by have:=b06.1 a1 n d;simpa using this) (mj a2) a3 (λn d=>Bi) (λn d=>Bi)
   (λn d=>kj a4 d) (λn d=>kj a5 d)
  subst U;obtain⟨E,f1,f2,f3⟩:=afu I T;obtain⟨Y,g2⟩:=alf X
  have q: ∀(i:Nat) (v:Value) (A:PV),E[i]? =some v->p[i]? =some A->RV (env (cx (P:=P) w V o ext x) (fg nb ext') z y) v A:=λi v A G J=>by
   have K:=(dm.1 J).1;rw[Y]at K;obtain⟨a,e1,e2⟩:=g2 i _ A (bq K) J;exact L v _ A a (f3 i v _ G (bq K)) e1 λn d=>by simp[e2 n d]
  refine⟨I.defers,_,ap8 f1,_,z,rfl,O,?_⟩;have s:E.length=p.length:=by rw[f2,Y]
  have F:RV (env (cx (P:=P) w V o ext x) (fg nb ext') z y) (.tuple E.toArray) (.tup p):=by
   refine .tup (by simpa using s) λi u Z=> ?_;have K:=(dm.1 Z).1;have:=q i (E[i]' Aa) u (bq Aa) Z;rw[lc,bd,bq Aa];exact this
  match E,p,s,q,F with
  |[],[],_,_,C=>exact C
  |[v],[u],_,ha,_=>exact ha 0 v u rfl rfl
  |v::v'::r,u::A::r',_,_,C=>exact C
 cases e with|normal=>exact fin f|ret=>exact fin f|exit id=>obtain⟨_,_,_,h,_⟩:=f;exact h.elim|goto l=>exact f.elim|panic c=>exact f.elim|outgrown=>exact f.elim
theorem bgz(q:P.follows .mixedOrders=true)(z:P.funcs[k]? =some fn)(t:fn.body=some c)
  (o: ∀as w,(callFunc k as).run P w= .ok (.enter k as) w) (y:fn.ntmps=N) (j:fn.results.toList=rs) (p:args.length<=N) (u:ix N c=true) (ns:LN)  (f:exts=List.range' 1000000 ext'.length) (n:ext'.length=ext.length)
  (h:wv P N c (bpr P rs ns exts r nb ext') (aad 0 args) (yu 0 ext)):Den P k args ext r nb ext':=by refine ar5 q z t o y j p f n λx a v w A=>wp_mono (jb q c u _ _ _ h x a v w A) λe B C g=> ?_;have s: ∀d σ,bep P rs ns exts r nb ext' d σ->bmw P rs exts r nb ext' d σ:=λd σ h=>⟨[],ns,trivial,a16 h⟩;cases e with|normal=>obtain⟨d,σ,b,i,m⟩:=g;exact⟨d,σ,b,s _ _ i,m⟩|ret=>obtain⟨d,σ,b,i,m⟩:=g;exact⟨d,σ,b,s _ _ i,m⟩|exit id=>exact g|goto l=>exact g|panic c=>exact g|outgrown=>exact g
theorem xy(y:P.follows .mixedOrders=true){n:Code}(G:P.funcs[k]? =some fn)(D:fn.body=some n)
  (s: ∀as w,(callFunc k as).run P w= .ok (.enter k as) w) (B:fn.ntmps=N) (v:fn.results.toList=rs) (t:args.length<=N) (E:ix N n=true) (ns:LN) {el kk:Nat}  (d:LN) (c m:Nat) (b:List Box)  (i:exts=List.range' 1000000 ext'.length) (q:ext'.length=ext.length)
  (A:exts=d++[c,m]) (o:ext'=b++[.cells [.os m kk],.arr el sz false xs])
  (h:wv P N n (bhi P rs ns d exts c m el sz kk xs r nb b) (aad 0 args) (yu 0 ext)):Den P k args ext r nb ext':=by refine ar5 y G D s B v t i q λx a F w C=>wp_mono (jb y n E _ _ _ h x a F w C) λe H I j=> ?_;have z: ∀g σ,ano P rs ns d exts c m el sz kk xs r nb b g σ->bmw P rs exts r nb ext' g σ:=λg σ h=>⟨[],ns,trivial,bbv A o h⟩;cases e with|normal=>obtain⟨g,σ,f,u,p⟩:=j;exact⟨g,σ,f,z _ _ u,p⟩|ret=>obtain⟨g,σ,f,u,p⟩:=j;exact⟨g,σ,f,z _ _ u,p⟩|exit id=>exact j|goto l=>exact j|panic c=>exact j|outgrown=>exact j
theorem aqy(g:P.follows .mixedOrders=true)(m:P.funcs[k]? =some fn)(i:fn.body=some c)
  (d: ∀as w,(callFunc k as).run P w= .ok (.enter k as) w) (j:fn.ntmps=N) (f:fn.results.toList=rs) (e:args.length<=N) (l:ix N c=true)  (a:exts=List.range' 1000000 ext'.length) (b:ext'.length=ext.length)
  (h:wv P N c (bio P rs exts r nb ext') (aad 0 args) (yu 0 ext)):Den P k args ext r nb ext':=
 ar5 g m i d j f e a b (jb g c l _ _ _ h)
theorem adt{q:LP}(d:LP)(h: ∀b,Den P k (d++ .sn b::q) ext r nb ext'):Den P k (d++ .vs []::q) ext r nb ext':=by
 refine⟨(h true).enter,λw V z t e A s p=> ?_⟩;have o:d.length<e.length:=by rw[s];simp
 have n:=p d.length e[d.length] (.vs []) (bq o) Ad;obtain⟨a,c,B,U,y,_⟩:=n.vs_inv.vs_inv;refine(h a.isNone).run w V z t e A (by rw[s];simp) λi v u f l=> ?_;by_cases g:i=d.length
 .subst g;rw[bq o]at f
  cases f
  simp at l;subst l;rw[y];exact .pure (.sn _ c rfl)
 .refine p i v u f ?_;rw[<-l];rcases b4r g with j|j
  .rw[b09 j,b09 j]
  .rw[b0y Aa,b0y Aa];obtain⟨m,x⟩: ∃m,i - d.length=m+1:=⟨i - d.length - 1,Aa⟩;rw[x];simp
/- Stepping: rules that reckon a walk. -/
def bv(a:α)(k:α->Prop):Prop:=k a
def mk(a:α):α:=a
theorem bsx(a:α):mk a=a:=(rfl)
theorem bag{a b:α}{k:α->Prop}(h:mk a=b):bv a k=bv b k:=by rw[<-h];rfl
theorem bsv(a:α)(k:α->Prop):bv a k=k a:=(rfl)
def kk(K:KT)(u:PV)(δ:ASt)(F:LN):Prop:=bv u λu=>bv δ λδ=>K u δ F
theorem brv(K:KT)(u:PV)(δ:ASt)(F:LN):kk K u δ F=bv u λu=>bv δ λδ=>K u δ F:=(rfl)
def dq(xs:List LP)(i:Nat):LP:=xs.getD i []
def gq(cs:LP)(i:Nat):PV:=cs.getD i .undef
def el [Inhabited α](l:List α)(i:Nat):α:=l.getD i default
def evO(P:Program)(op:Op)(d:Option Nat)(fr:AFr)(σ:ASt)(K:KT):Prop:=ael P ⟨d,op,0, "", #[],none⟩ (ev fr) σ K
theorem aa1(P:Program)(d:Option Nat)(a:Op)(ty:TypeId)(p:String)(b:Array Edge)(g:Option (Nat×Bool))(fr:AFr)(σ:ASt)(K:KT):ael P ⟨d,a,ty,p,b,g⟩ (ev fr) σ K=evO P a d fr σ K:=by unfold evO ael;cases a<;>rfl
theorem a7w(s:Nat)(u:PV)(r:AFr)(t:Nat):look ((s,u)::r) t=if s=t then u else look r t:=(rfl)
theorem be7(t:Nat)(u:PV)(r:AFr):look ((t,u)::r) t=u:=by simp[look]
theorem boi(fr:AFr)(t:Nat):ev fr (.tmp t)=look fr t:=(rfl)
theorem ben(fr:AFr)(v:Value):ev fr (.const v)=adf v:=(rfl)
theorem bkj(fr:AFr)(f:FuncId):ev fr (.func f)= .fn f []:=(rfl)
theorem a5d(m:Nat)(B:Box)(r:ASt)(n:Nat):ai ((m,B)::r) n=if m=n then some B else ai r n:=(rfl)
theorem bdn(n:Nat):ai [] n=none:=(rfl)
theorem be5(σ:ASt):agm σ []=σ:=(rfl)
theorem a5p(σ:ASt)(n:Nat)(B:Box)(r:ASt):agm σ ((n,B)::r)=agm (s7 σ n B) r:=(rfl)
theorem bdq(n:Nat)(B:Box):s7 [] n B=[(n,B)]:=(rfl)
theorem a08(m:Nat)(C:Box)(r:ASt)(n:Nat)(B:Box):s7 ((m,C)::r) n B=if m=n then(n,B)::r else(m,C)::s7 r n B:=(rfl)
theorem a63(b:Bool):adf (.bool b)= .bool b:=(rfl)
theorem baa(k:IntKind)(n:Int):adf (.int k n)= .int k n:=(rfl)
theorem a9p(s:ByteArray):adf (.string s)= .str s.data.toList:=(rfl)
theorem a3h:adf (.pointer none)= .nilp:=(rfl)
theorem a8f:adf (.slice none 0 0)= .nils:=(rfl)
def nx(P:Program)(all:Array Oper)(r:List Oper)(fr:AFr)(d:Option Nat)(u:PV)(σ δ:ASt)(K:AFr->ASt->Prop):Prop:=ql P all r (aou fr d u) (agm σ δ) K
theorem ara(P:Program)(a:Array Oper)(r:List Oper)(fr:AFr)(d:Nat)(u:PV)(σ:ASt)(K:AFr->ASt->Prop):nx P a r fr (some d) u σ [] K=ql P a r ((d,u)::fr) σ K:=(rfl)
theorem akt(P:Program)(a:Array Oper)(r:List Oper)(fr:AFr)(d:Nat)(u:PV)(σ:ASt)(p:Nat×Box)(δ:ASt)(K:AFr->ASt->Prop):
  nx P a r fr (some d) u σ (p::δ) K=bv (agm σ (p::δ)) λσ=>ql P a r ((d,u)::fr) σ K:=(rfl)
theorem akd(P:Program)(a:Array Oper)(r:List Oper)(fr:AFr)(u:PV)(σ:ASt)(p:Nat×Box)(δ:ASt)(K:AFr->ASt->Prop):
  nx P a r fr none u σ (p::δ) K=bv (agm σ (p::δ)) λσ=>ql P a r fr σ K:=(rfl)
theorem a7b(P:Program)(a:Array Oper)(fr:AFr)(σ:ASt)(K:AFr->ASt->Prop):ql P a [] fr σ K=K fr σ:=(rfl)
theorem awh(P:Program)(a:Array Oper)(d:Option Nat)(b:Op)(ty:TypeId)(p:String)(c:Array Edge)(r:List Oper)(fr:AFr)(σ:ASt)(K:AFr->ASt->Prop):
  ql P a (⟨d,b,ty,p,c,none⟩::r) fr σ K=evO P b d fr σ λu δ _=>nx P a r fr d u σ δ K:=by simp only[ql];rw[aa1];rfl
def vG(P:Program)(all:Array Oper)(op:Op)(d:Option Nat)(r:List Oper)(fr:AFr)(σ:ASt)(K:AFr->ASt->Prop)(t:Nat)(want:Bool):PV->Prop
 | .bool b=>(b=want->evO P op d ((t,.bool want)::fr) σ λu δ _=>nx P all r ((t,.bool want)::fr) d u σ δ K)/\(b= !want->nx P all r ((t,.bool (!want))::fr) d (.tup []) σ [] K)
 | .tup []=>nx P all r fr d (.tup []) σ [] K
 |_=>False
theorem axj(P:Program)(a:Array Oper)(d:Option Nat)(c:Op)(ty:TypeId)(p:String)(e:Array Edge)(j:Nat)(want:Bool)(r:List Oper)(fr:AFr)(σ:ASt)(K:AFr->ASt->Prop):
  ql P a (⟨d,c,ty,p,e,some (j,want)⟩::r) fr σ K=bv (lr a j) λt=>match t with|some t=>bv (look fr t) λu=>vG P a c d r fr σ K t want u|none=>False:=by simp only[ql,bv];cases lr a j with|none=>rfl|some t=>simp only;cases look fr t with|tup cs=>cases cs<;>simp only[vG]<;>rfl|bool b=>simp only[vG,aa1];rfl|_=>simp only[vG]
theorem ay7(o:Oper)(l:List Oper):lr (List.toArray (o::l)) 0=o.dst:=(rfl)
theorem aw7(o:Oper)(l:List Oper)(j:Nat):lr (List.toArray (o::l)) (j+1)=lr (List.toArray l) j:=by simp[lr]
theorem ar2(P:Program)(a:Array Oper)(c:Op)(d:Option Nat)(r:List Oper)(fr:AFr)(σ:ASt)(K:AFr->ASt->Prop)(t:Nat)(want b:Bool):vG P a c d r fr σ K t want (.bool b)=
  ((b=want->evO P c d ((t,.bool want)::fr) σ λu δ _=>nx P a r ((t,.bool want)::fr) d u σ δ K)/\(b= !want->bv (PV.bool (!want)) λv=>nx P a r ((t,v)::fr) d (.tup []) σ [] K)):=(rfl)
theorem bho(P:Program)(a:Array Oper)(b:Op)(d:Option Nat)(r:List Oper)(fr:AFr)(σ:ASt)(K:AFr->ASt->Prop)(t:Nat)(want:Bool):vG P a b d r fr σ K t want (.tup [])=nx P a r fr d (.tup []) σ [] K:=(rfl)
def nxD(P:Program)(all:Array Oper)(r:List Oper)(fr:AFr)(d:Option Nat)(u:PV)(σ δ:ASt)(g:Log)(F:LN)(K:AFr->ASt->Log->Prop):Prop:=evD P all r (aou fr d u) (agm σ δ) ((δ.map (·.1),F)::g) K
theorem akj(P:Program)(a:Array Oper)(r:List Oper)(fr:AFr)(d:Nat)(u:PV)(σ:ASt)(g:Log)(F:LN)(K:AFr->ASt->Log->Prop):nxD P a r fr (some d) u σ [] g F K=evD P a r ((d,u)::fr) σ (([],F)::g) K:=(rfl)
theorem ajn(P:Program)(a:Array Oper)(r:List Oper)(fr:AFr)(d:Nat)(u:PV)(σ:ASt)(p:Nat×Box)(δ:ASt)(g:Log)(F:LN)(K:AFr->ASt->Log->Prop):
  nxD P a r fr (some d) u σ (p::δ) g F K=bv ((p::δ).map (·.1)) λm=>bv (agm σ (p::δ)) λσ=>evD P a r ((d,u)::fr) σ ((m,F)::g) K:=(rfl)
theorem ahe(P:Program)(a:Array Oper)(r:List Oper)(fr:AFr)(u:PV)(σ:ASt)(p:Nat×Box)(δ:ASt)(g:Log)(F:LN)(K:AFr->ASt->Log->Prop):
  nxD P a r fr none u σ (p::δ) g F K=bv ((p::δ).map (·.1)) λm=>bv (agm σ (p::δ)) λσ=>evD P a r fr σ ((m,F)::g) K:=(rfl)
theorem bi7(P:Program)(a:Array Oper)(fr:AFr)(σ:ASt)(g:Log)(K:AFr->ASt->Log->Prop):evD P a [] fr σ g K=K fr σ g:=(rfl)
theorem bct(P:Program)(a:Array Oper)(d:Option Nat)(b:Op)(ty:TypeId)(p:String)(c:Array Edge)(r:List Oper)(fr:AFr)(σ:ASt)(g:Log)(K:AFr->ASt->Log->Prop):
  evD P a (⟨d,b,ty,p,c,none⟩::r) fr σ g K=(gy b=false/\evO P b d fr σ λu δ F=>bv F λF=>nxD P a r fr d u σ δ g F K):=by simp only[evD];rw[aa1];rfl
def vGD(P:Program)(all:Array Oper)(op:Op)(d:Option Nat)(r:List Oper)(fr:AFr)(σ:ASt)(g:Log)(K:AFr->ASt->Log->Prop)(t:Nat)(want:Bool):PV->Prop
 | .bool b=>(b=want->evO P op d ((t,.bool want)::fr) σ λu δ F=>bv F λF=>nxD P all r ((t,.bool want)::fr) d u σ δ g F K)/\(b= !want->evD P all r (aou ((t,.bool (!want))::fr) d (.tup [])) σ (([],[])::g) K)
 | .tup []=>nxD P all r fr d (.tup []) σ [] g [] K
 |_=>False
theorem a9i(P:Program)(a:Array Oper)(d:Option Nat)(c:Op)(ty:TypeId)(p:String)(e:Array Edge)(j:Nat)(want:Bool)(r:List Oper)(fr:AFr)(σ:ASt)(g:Log)(K:AFr->ASt->Log->Prop):
  evD P a (⟨d,c,ty,p,e,some (j,want)⟩::r) fr σ g K=(gy c=false/\bv (lr a j) λt=>match t with|some t=>bv (look fr t) λu=>vGD P a c d r fr σ g K t want u|none=>False):=by simp only[evD,bv];cases lr a j with|none=>rfl|some t=>simp only;cases look fr t with|tup cs=>cases cs<;>simp only[vGD]<;>rfl|bool b=>simp only[vGD,aa1];rfl|_=>simp only[vGD]
theorem aju(P:Program)(a:Array Oper)(c:Op)(d:Option Nat)(r:List Oper)(fr:AFr)(σ:ASt)(g:Log)(K:AFr->ASt->Log->Prop)(t:Nat)(want b:Bool):vGD P a c d r fr σ g K t want (.bool b)=
  ((b=want->evO P c d ((t,.bool want)::fr) σ λu δ F=>bv F λF=>nxD P a r ((t,.bool want)::fr) d u σ δ g F K)/\(b= !want->bv (PV.bool (!want)) λv=>nxD P a r ((t,v)::fr) d (.tup []) σ [] g [] K)):=(rfl)
theorem bdc(P:Program)(a:Array Oper)(b:Op)(d:Option Nat)(r:List Oper)(fr:AFr)(σ:ASt)(g:Log)(K:AFr->ASt->Log->Prop)(t:Nat)(want:Bool):vGD P a b d r fr σ g K t want (.tup [])=nxD P a r fr d (.tup []) σ [] g [] K:=(rfl)
section
variable (P:Program) (d:Option Nat) (fr:AFr) (σ:ASt) (K:KT)
theorem v8 [Inhabited α](f:α->LP)(l:List α)(i:Nat)(h:i<l.length):dq (l.map f) i=f (el l i):=by simp[dq,el,bd,h]
theorem azl(u:PV)(r:LP):gq (u::r) 0=u:=(rfl)
theorem az7(u:PV)(r:LP)(i:Nat):gq (u::r) (i+1)=gq r i:=(rfl)
theorem azp(u:LP)(r:List LP):dq (u::r) 0=u:=(rfl)
theorem azf(u:LP)(r:List LP)(i:Nat):dq (u::r) (i+1)=dq r i:=(rfl)
theorem bab(x:Operand):evO P (.move x) d fr σ K=kk K (ev fr x) [] []:=(rfl)
theorem axx(x:Operand):evO P (.assign x) d fr σ K=kk K (ev fr x) [] []:=(rfl)
def bk8(fr:AFr)(a b:Operand)(K:KT):PV->Prop
 | .bool t=>(t=true->kk K (ev fr a) [] [])/\(t=false->kk K (ev fr b) [] [])
 |_=>False
theorem bbh(c a b:Operand):evO P (.pick c a b) d fr σ K=bv (ev fr c) (bk8 fr a b K):=by simp only[evO,ael,bv];cases ev fr c<;>rfl
theorem af9(a b:Operand)(t:Bool):bk8 fr a b K (.bool t)=((t=true->kk K (ev fr a) [] [])/\(t=false->kk K (ev fr b) [] [])):=(rfl)
def brk(K:KT):PV->Prop
 | .ptr n k=>K (.ptr n k) [] []
 | .el cs=>K (.el cs) [] []
 | .oel n k i off=>K (.oel n k i off) [] []
 |_=>False
theorem aom(x:Operand):evO P (.nilCheck x) d fr σ K=bv (ev fr x) (brk K):=by simp only[evO,ael,bv];cases ev fr x<;>rfl
theorem bbn(n k:Nat):brk K (.ptr n k)=K (.ptr n k) [] []:=(rfl)
theorem be9(n k i off:Nat):brk K (.oel n k i off)=K (.oel n k i off) [] []:=(rfl)
def bs8(i:Nat)(K:KT):PV->Prop
 | .tup us=>i<us.length/\kk K (gq us i) [] []
 |_=>False
theorem ar8(t:Operand)(i:Nat):evO P (.extract t i) d fr σ K=bv (ev fr t) (bs8 i K):=by simp only[evO,ael,bv];cases ev fr t<;>rfl
theorem ba0(i:Nat)(us:LP):bs8 i K (.tup us)=(i<us.length/\kk K (gq us i) [] []):=(rfl)
theorem a2t(t:TypeId)(d:Nat):evO P (.alloc t) (some d) fr σ K=bv (az P t) λz=>match z with|some zs=>ai σ d=none/\K (.ptr d 0) [(d,.cells zs)] [d]|none=>False:=by simp only[evO,ael,bv];cases az P t<;>rfl
theorem bjq(t:TypeId)(x:Operand)(d:Nat):evO P (.box t x) (some d) fr σ K=bv (ei (ev fr x)) λz=>match z with|some us=>ai σ d=none/\K (.ptr d 0) [(d,.cells us)] [d]|none=>False:=by simp only[evO,ael,bv];cases ei (ev fr x)<;>rfl
def bdt(fr:AFr):List (Nat×Operand)->List (Nat×PV)
 |[]=>[]
 |(i,x)::r=>(i,ev fr x)::bdt fr r
theorem avm(l:List (Nat×Operand)):(l.map λp=>(p.1,ev fr p.2))=bdt fr l:=by induction l with|nil=>rfl|cons p r ih=>obtain⟨i,x⟩:=p;simp only[b07,bdt,ih]
theorem a9o:bdt fr []=[]:=(rfl)
theorem a4l(i:Nat)(x:Operand)(r:List (Nat×Operand)):bdt fr ((i,x)::r)=(i,ev fr x)::bdt fr r:=(rfl)
theorem a8m(t:TypeId)(ps:List (Nat×Operand)):evO P (.build t ps.toArray) d fr σ K=bv (ac9 P t (bdt fr ps)) λz=>match z with|some cs=>K (.agg cs) [] []|none=>False:=by simp only[evO,ael,bv,avm];cases ac9 P t (bdt fr ps)<;>rfl
theorem aet(t:TypeId)(n:Nat)(ps:List (Nat×Operand)):evO P (.buildSlice t n ps.toArray) d fr σ K=bv (bdt fr ps) λz=>kc P t n z d σ K:=by simp only[evO,ael,bv,avm]
theorem bfn(t:TypeId)(a:Operand):evO P (.load t a) d fr σ K=bv (ev fr a) λu=>qi P t σ u K:=(rfl)
theorem a1p(t:TypeId)(a v:Operand):evO P (.store t a v) d fr σ K=bv (ev fr a) λu=>bv (ev fr v) λv=>p6 P t σ u v K:=(rfl)
theorem ahq(t:TypeId)(x:Operand)(f:Nat):evO P (.fieldAddr t x f) d fr σ K=bv (ev fr x) λu=>ip P t f σ u K:=(rfl)
theorem ag2(t:TypeId)(x i:Operand):evO P (.indexAddr t x i) d fr σ K=bv (ev fr x) λu=>bv (ev fr i) λv=>da P t σ u v K:=(rfl)
theorem a6d(t:TypeId)(x i:Operand):evO P (.index t x i) d fr σ K=bv (ev fr x) λu=>bv (ev fr i) λv=>rg P t u v K:=(rfl)
theorem a4h(a:BinOp)(t:TypeId)(x y:Operand)(b:TypeId):evO P (.binOp a t x y b) d fr σ K=bv (ev fr x) λu=>bv (ev fr y) λv=>jf P a t u v λu=>kk K u [] []:=(rfl)
theorem bcd(a:UnOp)(t:TypeId)(x:Operand):evO P (.unOp a t x) d fr σ K=bv (ev fr x) λu=>bj3 a u λu=>kk K u [] []:=(rfl)
theorem apl(s e:TypeId)(x:Operand):evO P (.convert s e x) d fr σ K=bv (ev fr x) λu=>tw P s e d σ u λu δ F=>kk K u δ F:=(rfl)
theorem a4j(t:TypeId)(x:Operand)(lo hi mx:Option Operand):evO P (.slice t x lo hi mx) d fr σ K=bv (ev fr x) λu=>bv (lo.map (ev fr)) λlo=>bv (hi.map (ev fr)) λhi=>bv (mx.map (ev fr)) λmx=>jc P t σ u lo hi mx λu δ F=>kk K u δ F:=(rfl)
theorem ag5(t:TypeId)(l c:Operand):evO P (.makeSlice t l c) d fr σ K=bv (ev fr l) λu=>bv (ev fr c) λv=>yg P t d σ u v λu δ F=>kk K u δ F:=(rfl)
def bgl(fr:AFr):List Operand->LP
 |[]=>[]
 |x::r=>ev fr x::bgl fr r
theorem au3(l:List Operand):l.map (ev fr)=bgl fr l:=by induction l with|nil=>rfl|cons x r ih=>simp only[b07,bgl,ih]
theorem bfa:bgl fr []=[]:=(rfl)
theorem a2b(x:Operand)(r:List Operand):bgl fr (x::r)=ev fr x::bgl fr r:=(rfl)
theorem ak3(f:FuncId)(a:List Operand):evO P (.makeFunc (.func f) #[] a.toArray) d fr σ K=bv (bgl fr a) λus=>K (.fn f us) [] []:=by simp only[evO,ael,bv,au3,bkl]
theorem bbx(f:Operand)(a:List Operand)(ts:Array TypeId):evO P (.call ⟨.value f,a.toArray,ts⟩) d fr σ K=bv (ev fr f) λf=>bv (bgl fr a) λus=>zh P f us d σ λu δ F=>kk K u δ F:=by simp only[evO,ael,bv,au3,brm];rfl
theorem a5x(t:TypeId)(cs:LP):blh P t σ (.agg cs) K=(ifT P t=true/\bv (lg σ cs) λp=>match p with
  |some (us,[])=>K (.ifc t (.agg us)) [] []
  |_=>False):=(rfl)
theorem blz(y:Operand)(t:TypeId):evO P (.call ⟨.builtin .len, #[y], #[t]⟩) d fr σ K=bv (ev fr y) λu=>r7 P t σ u K:=(rfl)
theorem a7v(y:Operand)(t:TypeId):evO P (.call ⟨.builtin .clear, #[y], #[t]⟩) d fr σ K=bv (ev fr y) λu=>awk P t σ u K:=(rfl)
theorem az6(y z:Operand)(t a:TypeId):evO P (.call ⟨.builtin .append, #[y,z], #[t,a]⟩) d fr σ K=bv (ev fr y) λu=>bv (ev fr z) λv=>qe P t a d σ u v λu δ F=>kk K u δ F:=(rfl)
theorem bai(y z:Operand)(t a:TypeId):evO P (.call ⟨.builtin .copy, #[y,z], #[t,a]⟩) d fr σ K=bv (ev fr y) λu=>bv (ev fr z) λv=>agv P t a σ u v λu δ F=>kk K u δ F:=(rfl)
theorem bjk(y z:Operand)(ts:Array TypeId):evO P (.call ⟨.builtin .min, #[y,z],ts⟩) d fr σ K=bv (ev fr y) λu=>bv (ev fr z) λv=>bg2 false u v λu δ F=>kk K u δ F:=(rfl)
theorem bj5(y z:Operand)(ts:Array TypeId):evO P (.call ⟨.builtin .max, #[y,z],ts⟩) d fr σ K=bv (ev fr y) λu=>bv (ev fr z) λv=>bg2 true u v λu δ F=>kk K u δ F:=(rfl)
theorem aw5(t:TypeId)(n off:Nat):qi P t σ (.ptr n off) K=bv (ldT P t) λl=>bv (ai σ n) λB=>match l,B with
  |some none,some (.cells cs)=>off<cs.length/\kk K (gq cs off) [] [n]
  |some (some m),some (.cells cs)=>off+m<=cs.length/\kk K (.agg ((cs.drop off).take m)) [] [n]
  |_,_=>False:=by simp only[qi,bv,kk,dq,gq];rcases ldT P t with _|_|m<;>(try rfl)<;>rcases ai σ n with _|B<;>(try rfl)<;>cases B<;>rfl
theorem a5q(t:TypeId)(cs:LP):qi P t σ (.el cs) K=bv (ldT P t) λl=>match l with
  |some none=>0<cs.length/\kk K (gq cs 0) [] []
  |some (some m)=>m<=cs.length/\kk K (.agg (cs.take m)) [] []
  |none=>False:=by simp only[qi,bv,kk,dq,gq];rcases ldT P t with _|_|m<;>rfl
def a0h(n k i off:Nat)(K:KT):Option (Option Nat)->Option Box->Prop
 |some none,some (.arr _ _ _ xs)=>(k=xs.length/\i<k/\off<(dq xs i).length)/\kk K (gq (dq xs i) off) [] [n]
 |some (some m),some (.arr _ _ _ xs)=>(k=xs.length/\i<k/\off+m<=(dq xs i).length)/\kk K (.agg (((dq xs i).drop off).take m)) [] [n]
 |some none,some (.arh _ _ xs)=>(k=xs.length/\i<k/\off<(dq xs i).length)/\kk K (gq (dq xs i) off) [] [n]
 |some (some m),some (.arh _ _ xs)=>(k=xs.length/\i<k/\off+m<=(dq xs i).length)/\kk K (.agg (((dq xs i).drop off).take m)) [] [n]
 |_,_=>False
theorem aze(t:TypeId)(n k i off:Nat):qi P t σ (.oel n k i off) K=bv (ldT P t) λl=>bv (ai σ n) λB=>a0h n k i off K l B:=by simp only[qi,bv,kk];rcases ldT P t with _|_|m<;>(try rfl)<;>rcases ai σ n with _|B<;>(try rfl)<;>cases B<;>first|rfl|simp only[a0h,kk,bv,dq,gq,b2s]
theorem bez(n k i off e sz:Nat)(sh:Bool)(xs:List LP):a0h n k i off K (some none) (some (.arr e sz sh xs))=((k=xs.length/\i<k/\off<(dq xs i).length)/\kk K (gq (dq xs i) off) [] [n]):=(rfl)
theorem a27(n k i off e sz:Nat)(xs:List LP):a0h n k i off K (some none) (some (.arh e sz xs))=((k=xs.length/\i<k/\off<(dq xs i).length)/\kk K (gq (dq xs i) off) [] [n]):=(rfl)
theorem ada(t:TypeId)(n off:Nat)(v:PV):p6 P t σ (.ptr n off) v K=bv (dx P t) λm=>bv (ei v) λus=>bv (ai σ n) λB=>match m,us,B with
  |some m,some us,some (.cells cs)=>(us.length=m/\us.all fy=true/\off+m<=cs.length)/\kk K .undef [(n,.cells (cs.take off++us++cs.drop (off+m)))] [n]
  |_,_,_=>False:=by simp only[p6,bv,kk,dq,gq];rcases dx P t with _|m<;>(try rfl)<;>rcases ei v with _|us<;>(try rfl)<;>rcases ai σ n with _|B<;>(try (simp only[b42];done))<;>cases B<;>simp only[b2s,b42]
def aoq(σ:ASt)(n k i off:Nat)(K:KT):Option Nat->Option LP->Option Box->Prop
 |some m,some us,some (.arr e sz false xs)=>match lg σ us with
   |some (us',ns)=>(us.length=m/\us.all fy=true/\k=xs.length/\i<k/\off+m<=sz/\n∉ns)/\kk K .undef (ej σ ns++[(n,.arr e sz false (xs.set i ((dq xs i).take off++us'++(dq xs i).drop (off+m))))]) (n::ns)
   |none=>False
 |some m,some us,some (.arh e sz xs)=>(us.length=m/\us.all fy=true/\k=xs.length/\i<k/\off+m<=sz)/\kk K .undef [(n,.arh e sz (xs.set i ((dq xs i).take off++us++(dq xs i).drop (off+m))))] [n]
 |_,_,_=>False
theorem aqb(t:TypeId)(n k i off:Nat)(v:PV):p6 P t σ (.oel n k i off) v K=bv (dx P t) λm=>bv (ei v) λus=>bv (ai σ n) λB=>aoq σ n k i off K m us B:=by simp only[p6,bv,kk];rcases dx P t with _|m<;>(try rfl)<;>rcases ei v with _|us<;>(try rfl)<;>rcases ai σ n with _|B<;>(try (simp only[aoq,b42];done))<;>cases B with|cells cs=>simp only[aoq,b42]|arr e sz sh xs=>(cases sh<;>simp only[aoq,b42]<;>rcases lg σ us with _|⟨a,b⟩<;>simp only[kk,bv,dq,b2s,b42])|arh e sz xs=>simp only[aoq,kk,bv,dq,b2s]|mp es=>simp only[aoq,b42]|it m k d=>simp only[aoq,b42]|si l p=>simp only[aoq,b42]|arq e sz k xs=>simp only[aoq,b42]|dead sz l=>simp only[aoq,b42]
theorem bpl(n k i off m e sz:Nat)(us:LP)(xs:List LP):aoq σ n k i off K (some m) (some us) (some (.arh e sz xs))=((us.length=m/\us.all fy=true/\k=xs.length/\i<k/\off+m<=sz)/\bv (dq xs i) λc=>bv (xs.set i (c.take off++us++c.drop (off+m))) λxs'=>kk K .undef [(n,.arh e sz xs')] [n]):=(rfl)
theorem auc(n k i off m e sz:Nat)(us:LP)(xs:List LP):aoq σ n k i off K (some m) (some us) (some (.arr e sz false xs))=bv (lg σ us) λp=>match p with
   |some (us',ns)=>(us.length=m/\us.all fy=true/\k=xs.length/\i<k/\off+m<=sz/\n∉ns)/\kk K .undef (ej σ ns++[(n,.arr e sz false (xs.set i ((dq xs i).take off++us'++(dq xs i).drop (off+m))))]) (n::ns)
   |none=>False:=by simp only[aoq,bv]
theorem bds [Inhabited α](f:α->LP)(l:List α)(n k i off m e sz:Nat)(us:LP):aoq σ n k i off K (some m) (some us) (some (.arr e sz false (l.map f)))=bv (lg σ us) λp=>match p with
   |some (us',ns)=>(us.length=m/\us.all fy=true/\k=l.length/\i<k/\off+m<=sz/\n∉ns)/\bv (f (el l i)) λc=>bv ((l.map f).set i (c.take off++us'++c.drop (off+m))) λxs'=>kk K .undef (ej σ ns++[(n,.arr e sz false xs')]) (n::ns)
   |none=>False:=by rw[auc];simp only[bv];rcases lg σ us with _|⟨us',ns⟩;{rfl};.simp only[b0x,b2s];refine propext (b1x λ_=>b1x λ_=>b1x λa=>b1x λb=> ?_);rw[v8 f l i Aa]
theorem apv(t:TypeId)(f n k:Nat):ip P t f σ (.ptr n k) K=bv (fo P t f) λo=>match o with|some off=>bv (k+off) λk=>K (.ptr n k) [] []|none=>False:=(rfl)
theorem axk(t:TypeId)(f:Nat)(cs:LP):ip P t f σ (.el cs) K=bv (fo P t f) λo=>match o with|some off=>kk K (.el (cs.drop off)) [] []|none=>False:=(rfl)
theorem aqn(t:TypeId)(f n k i a:Nat):ip P t f σ (.oel n k i a) K=bv (fo P t f) λo=>bv (ai σ n) λB=>match o,B with
  |some off,some (.arr _ _ _ xs)=>(k=xs.length/\i<k)/\bv (a+off) λo=>K (.oel n k i o) [] [n]
  |some off,some (.arh _ _ xs)=>(k=xs.length/\i<k)/\bv (a+off) λo=>K (.oel n k i o) [] [n]
  |_,_=>False:=by simp only[ip,bv];rcases fo P t f with _|off<;>(try rfl)<;>rcases ai σ n with _|B<;>(try rfl)<;>cases B<;>first|rfl|simp only[b2s]
theorem ath(t:TypeId)(xs:List LP)(kd:IntKind)(i:Int):da P t σ (.vs xs) (.int kd i) K=bv (slT P t) λs=>match s with
  |some (_,sz,_)=>(0<=i/\i<xs.length)/\(dq xs i.toNat).length=sz/\kk K (.el (dq xs i.toNat)) [] []
  |none=>False:=by simp only[da,bv,kk,dq,gq];rcases slT P t with _|⟨e,sz,b⟩<;>first|rfl|simp only[b2s]
theorem a93(t:TypeId)(n m:Nat)(kd:IntKind)(i:Int):da P t σ (.os n m) (.int kd i) K=bv (slT P t) λs=>bv (ai σ n) λB=>match s,B with
  |some (_,sz,_),some (.arr _ sz' _ xs)=>(sz'=sz/\m=xs.length/\0<=i/\i<xs.length)/\kk K (.oel n m i.toNat 0) [] [n]
  |some (_,sz,_),some (.arh _ sz' xs)=>(sz'=sz/\m=xs.length/\0<=i/\i<xs.length)/\kk K (.oel n m i.toNat 0) [] [n]
  |_,_=>False:=by simp only[da,bv,kk,dq,gq];rcases slT P t with _|⟨e,sz,b⟩<;>(try rfl)<;>rcases ai σ n with _|B<;>(try rfl)<;>cases B<;>first|rfl|simp only[b2s]
theorem a4k(t:TypeId)(n m a:Nat)(kd:IntKind)(i:Int):da P t σ (.osl n m a) (.int kd i) K=bv (slT P t) λs=>bv (ai σ n) λB=>match s,B with
  |some (_,sz,_),some (.arh _ sz' xs)=>(sz'=sz/\m=xs.length/\0<=i/\a+i<xs.length)/\kk K (.oel n m (a+i.toNat) 0) [] [n]
  |_,_=>False:=by simp only[da,bv,kk,dq,gq];rcases slT P t with _|⟨e,sz,b⟩<;>(try rfl)<;>rcases ai σ n with _|B<;>(try rfl)<;>cases B<;>first|rfl|simp only[b2s]
theorem a1t(t:TypeId)(n m:Nat)(kd:IntKind)(i:Int):da P t σ (.ptr n m) (.int kd i) K=bv (arT P t) λs=>match s with
  |some (len,sz)=>(0<=i/\i<len)/\kk K (.ptr n (m+i.toNat*sz)) [] []
  |none=>False:=by simp only[da,bv,kk,dq,gq];rcases arT P t with _|⟨len,sz⟩<;>first|rfl|simp only[b2s]
theorem arp(t:TypeId)(cs:LP)(kd:IntKind)(n:Int):rg P t (.agg cs) (.int kd n) K=bv (aae P t) λs=>match s with
  |some (len,e)=>bv (lp P e) λr=>bv (dx P e) λz=>(r=some false/\z=some 1)/\(0<=n/\n<len/\n<cs.length)/\kk K (gq cs n.toNat) [] []
  |none=>False:=by simp only[rg,bv,kk,dq,gq];cases h:aae P t with|none=>simp|some p=>obtain⟨len,e⟩:=p;apply propext;constructor;{rintro⟨l,e',h1,h2,h3,h4,h5,h6,h7⟩;cases h1;exact⟨⟨h2,h3⟩,⟨h4,h5,h6⟩,h7⟩};.rintro⟨⟨h2,h3⟩,⟨h4,h5,h6⟩,h7⟩;exact⟨len,e,rfl,h2,h3,h4,h5,h6,h7⟩
theorem apx(t:TypeId)(l:LB)(kd:IntKind)(n:Int):rg P t (.str l) (.int kd n) K=bv (je P t) λs=>s=true/\(0<=n/\n<l.length)/\kk K (.int .u8 ((l.getD n.toNat 0).toNat:Int)) [] []:=by simp only[rg,bv,kk,b2s]
theorem a8h(t:TypeId)(l:LB):xu P t σ (.str l) K=bv (je P t) λs=>s=true/\kk K (.int .i64 l.length) [] []:=(rfl)
theorem bby(t:TypeId)(xs:List LP):xu P t σ (.vs xs) K=bv (ay P t) λs=>s=true/\kk K (.int .i64 xs.length) [] []:=(rfl)
theorem bew(t:TypeId)(n k:Nat):xu P t σ (.os n k) K=bv (ai σ n) λB=>bv (ay P t) λs=>match B with
  |some (.arr _ _ _ xs)=>(k=xs.length/\s=true)/\kk K (.int .i64 k) [] [n]
  |some (.arh _ _ xs)=>(k=xs.length/\s=true)/\kk K (.int .i64 k) [] [n]
  |_=>False:=by simp only[xu,bv,kk,dq,gq];rcases ai σ n with _|B<;>(try rfl)<;>cases B<;>first|rfl|simp only[b2s]
theorem a05(t:TypeId)(n k i:Nat):xu P t σ (.osl n k i) K=bv (ay P t) λs=>s=true/\kk K (.int .i64 ((k - i:Nat):Int)) [] []:=(rfl)
theorem ap7(s e:TypeId)(k:IntKind)(n:Int):tw P s e d σ (.int k n) K=v7 P s e σ (.int k n) K:=(rfl)
theorem axf(s e:TypeId)(n k:Nat):tw P s e d σ (.os n k) K=v7 P s e σ (.os n k) K:=(rfl)
def bs3(d e:Nat)(l:LB)(K:KT):Prop:=kk K (.os d l.length) [(d,.arr e 1 false (cz l))] [d]
theorem asa(s e:TypeId)(l:LB)(d:Nat):tw P s e (some d) σ (.str l) K=bv (je P e) λq=>bv (kz P s) λz=>bv (je P s) λp=>bv (m6 P e) λy=>bv (cw P e) λel=>if q=true then z=true/\K (.str l) [] []else match el with
  |some t=>p=true/\y=true/\bv (ai σ d) (λB=>B=none)/\l.length<=140737488355328/\bs3 d t l K
  |none=>False:=(rfl)
theorem awb(s e:TypeId)(k:IntKind)(n:Int):v7 P s e σ (.int k n) K=bv (qv P e) λq=>bv (kz P s) λz=>match q with|some k'=>z=true/\K (.int k' (k'.wrap n)) [] []|none=>False:=(rfl)
theorem a3n(s e:TypeId)(n k:Nat):v7 P s e σ (.os n k) K=bv (ai σ n) λB=>bv (m6 P s) λq=>bv (je P e) λp=>match B with
  |some (.arr _ _ _ xs)=>(k=xs.length/\q=true/\p=true)/\∃l,xs=cz l/\K (.str l) [] [n]
  |_=>False:=by simp only[v7,bv];rcases ai σ n with _|B<;>(try rfl)<;>cases B<;>first|rfl|simp only[b2s]
theorem a4x(t:TypeId)(n:Nat):r7 P t σ (.mh n) K=bv (ai σ n) λB=>bv (aon P t) λm=>match B,m with
  |some (.mp es),some _=>kk K (.int .i64 es.length) [] [n]
  |_,_=>False:=(rfl)
theorem axq(t:TypeId)(l:LB):r7 P t σ (.str l) K=xu P t σ (.str l) K:=(rfl)
theorem a6f(t:TypeId)(xs:List LP):r7 P t σ (.vs xs) K=xu P t σ (.vs xs) K:=(rfl)
theorem a73(t:TypeId)(n k:Nat):r7 P t σ (.os n k) K=xu P t σ (.os n k) K:=(rfl)
def bo4(ok:Bool)(n:Nat)(q:PV)(K:KT):Option Box->Option (TypeId×TypeDesc×TypeId)->(TypeId->Option PV)->Prop
 |some (.mp es),some (_,dk,e),zv=>bv (qw dk q) λb=>bv (p8 q es 0) λr=>bv (zv e) λz=>match r,z with
  |some r,some z=>b=true/\kk K (bkb es z ok r) [] [n]
  |_,_=>False
 |_,_,_=>False
theorem ay1(t:TypeId)(x i:Operand)(a:Bool):evO P (.lookup t x i a) d fr σ K=bv (ev fr x) λu=>bv (ev fr i) λq=>afq P t a σ u q K:=(rfl)
theorem a1c(t:TypeId)(a:Bool)(n:Nat)(q:PV):afq P t a σ (.mh n) q K=bv (ai σ n) λB=>bv (aon P t) λm=>bo4 a n q K B m (aww P):=by simp only[afq,bv,kk];rcases ai σ n with _|B<;>(try rfl)<;>cases B<;>(try rfl)<;>rcases aon P t with _|⟨k,b,e⟩<;>(try rfl)
theorem ba1(d:Bool)(n:Nat)(q:PV)(es:List (PV×PV))(k e:TypeId)(a:TypeDesc)(c:TypeId->Option PV):bo4 d n q K (some (.mp es)) (some (k,a,e)) c=bv (qw a q) λb=>bv (p8 q es 0) λr=>bv (c e) λz=>match r,z with
  |some r,some z=>b=true/\kk K (bkb es z d r) [] [n]
  |_,_=>False:=(rfl)
def bta(n:Nat)(q v:PV)(K:KT):Option Box->Option (TypeId×TypeDesc×TypeId)->Prop
 |some (.mp es),some (_,dk,_)=>bv (qw dk q) λb=>bv (p8 q es 0) λr=>match r with
  |some r=>b=true/\bv (avr es q v r) λes'=>kk K .undef [(n,.mp es')] [n]
  |_=>False
 |_,_=>False
theorem aio(t:TypeId)(x i v:Operand):evO P (.mapUpdate t x i v) d fr σ K=bv (ev fr x) λu=>bv (ev fr i) λq=>bv (ev fr v) λv=>ap0 P t σ u q v K:=(rfl)
theorem bb9(t:TypeId)(n:Nat)(q v:PV):ap0 P t σ (.mh n) q v K=bv (ai σ n) λB=>bv (aon P t) λm=>bta n q v K B m:=by simp only[ap0,bv,kk];rcases ai σ n with _|B<;>(try rfl)<;>cases B<;>(try rfl)<;>rcases aon P t with _|⟨k,a,e⟩<;>(try rfl)
theorem bla(n:Nat)(q v:PV)(es:List (PV×PV))(k e:TypeId)(a:TypeDesc):bta n q v K (some (.mp es)) (some (k,a,e))=bv (qw a q) λb=>bv (p8 q es 0) λr=>match r with
  |some r=>b=true/\bv (avr es q v r) λes'=>kk K .undef [(n,.mp es')] [n]
  |_=>False:=(rfl)
theorem aq3(t:TypeId)(d:Nat):evO P (.makeMap t none) (some d) fr σ K=(bv (ai σ d) (λB=>B=none)/\K (.mh d) [(d,.mp [])] [d]):=(rfl)
theorem a4i(t:TypeId)(x:Operand)(d:Nat):evO P (.range t x) (some d) fr σ K=bv (ev fr x) λu=>a2z P t (some d) σ u K:=(rfl)
theorem a4e(x:Operand):evO P (.next x true) d fr σ K=bv (ev fr x) λu=>ack σ u K:=(rfl)
def bs6(l:LB)(pos n:Nat)(r:Nat×Nat)(K:KT):Prop:=kk K (.tup [.bool true,.int .i64 pos,.int .i32 r.1]) [(n,.si l (pos+r.2))] [n]
theorem bjt(l:LB)(c n a b:Nat)(K:KT):bs6 l c n (a,b) K=kk K (.tup [.bool true,.int .i64 c,.int .i32 a]) [(n,.si l (c+b))] [n]:=(rfl)
theorem aw3(n:Nat):ack σ (.mh n) K=bv (ai σ n) λB=>match B with
  |some (.si l pos)=>(pos<l.length->bv (a3c l pos) λr=>bs6 l pos n r K)/\(¬pos<l.length->K (.tup [.bool false]) [] [n])
  |_=>False:=(rfl)
theorem a15(t:TypeId)(l:LB)(d:Nat):a2z P t (some d) σ (.str l) K=(je P t=true/\bv (ai σ d) (λB=>B=none)/\K (.mh d) [(d,.si l 0)] [d]):=(rfl)
end
end Go.Proofs.Am
