/- AmS. -/
import Derived.Test.YthidogjdclkoeaaGreatDoorAmR
set_option linter.unusedSimpArgs false
set_option linter.unusedVariables false
namespace Go.Proofs.Am
open Go Go.RowKit
variable {P:Program}
def rk:Nat->List PV->AFr
 |_,[]=>[]
 |i,u::r=>(i,u)::rk (i+1) r
def qg:Nat->List Box->ASt
 |_,[]=>[]
 |j,B::r=>(1000000+j,B)::qg (j+1) r
theorem aaf: ∀(args:List PV) (i t:Nat),look (rk i args) t=if i<=t then args.getD (t - i) .undef else .undef
 |[],i,t=>by simp[rk,look]
 |u::r,i,t=>by
  simp only[rk,look];rw[aaf r (i+1) t];by_cases h:i=t
  ·subst h;simp
  ·rw[if_neg h];by_cases h':i<=t
   ·have:t - i=(t - (i+1))+1:=by omega
    rw[if_pos (by omega),if_pos h',this];simp
   ·rw[if_neg (by omega),if_neg h']
theorem yr: ∀(ext:List Box) (j n:Nat),ah (qg j ext) n=if 1000000+j<=n then ext[n - (1000000+j)]? else none
 |[],j,n=>by simp[qg,ah]
 |B::r,j,n=>by
  simp only[qg,ah];rw[yr r (j+1) n];by_cases h:1000000+j=n
  ·subst h;simp
  ·rw[if_neg h];by_cases h':1000000+j<=n
   ·have:n - (1000000+j)=(n - (1000000+(j+1)))+1:=by omega
    rw[if_pos (by omega),if_pos h',this];simp
   ·rw[if_neg (by omega),if_neg h']
theorem aea(ext:List Box):ah (qg 0 ext)=d4 [] ext:=by
 funext n;rw[yr];unfold d4;by_cases h:n<1000000
 ·rw[if_pos h,if_neg (by omega)];rfl
 ·rw[if_neg h,if_pos (by omega)]
def o5(σ:ASt)(ns exts:List Nat):List PV->Option (List PV×List Nat)
 |[]=>some ([],[])
 |u::us=>match axd σ ns exts u,o5 σ ns exts us with
  |some (v,a),some (vs,b)=>some (v::vs,a++b)
  |_,_=>none
theorem acy{σ:ASt}{ns exts:List Nat}: ∀{us us':List PV} {b:List Nat},o5 σ ns exts us=some (us',b)->us'.length=us.length/\∀(i:Nat) (u u':PV),us[i]? =some u->us'[i]? =some u'->∃a,axd σ ns exts u=some (u',a)/\∀n∈a,n∈b
 |[],us',b,h=>by cases h;simp
 |u::us,us',b,h=>by
  simp only[o5]at h
  cases h1:axd σ ns exts u with
  |none=>rw[h1]at h;cases h
  |some p=>
   cases h2:o5 σ ns exts us with
   |none=>rw[h1,h2]at h;cases h
   |some q=>
    obtain⟨v,a⟩:=p;obtain⟨vs,b'⟩:=q;rw[h1,h2]at h;simp only[Option.some.injEq,Prod.mk.injEq]at h;obtain⟨rfl,rfl⟩:=h;obtain⟨k1,k2⟩:=acy h2;refine⟨by simp[k1],fun i r r' hr hr'=> ?_⟩
    cases i with
    |zero=>
     simp at hr hr';subst hr hr'
     exact⟨a,h1,fun n hn=>by simp[hn]⟩
    |succ i=>
     obtain⟨c,e1,e2⟩:=k2 i r r' (by simpa using hr) (by simpa using hr');exact⟨c,e1,fun n hn=>by simp[e2 n hn]⟩
def afi:List PV->PV
 |[u]=>u
 |us=> .tup us
def xk:List Nat->Bool
 |[]=>true
 |n::r=> !r.contains n&&xk r
theorem lp: ∀{l:List Nat},xk l=true->l.Nodup
 |[],_=>List.nodup_nil
 |n::r,h=>by
  simp only[xk,Bool.and_eq_true]at h;exact List.nodup_cons.2 ⟨by simpa using h.1,lp h.2⟩
def pq(ns exts shl:List Nat):Bool:=ns.all (fun n=>decide (n<1000000))&&xk ns&&decide (ns.length<1000000)&&ak4 ns shl&&ak4 exts shl
def avc(P:Program)(rs:List ResultVar)(ns exts:List Nat)(r:PV)(nb ext':List Box)(fr:AFr)(σ:ASt):Prop:=
 match ahq P fr σ rs with
 |some us=>match ug σ ns,ug σ exts,o5 σ ns exts us with
  |some (nb0,b1),some (e0,b2),some (us',b3)=>pq ns exts (b1++(b2++b3))=true/\nb0=nb/\e0=ext'/\afi us'=r
  |_,_,_=>False
 |none=>False
def a6o(P:Program)(rs:List ResultVar)(ns exts:List Nat)(r:PV)(nb ext':List Box):o8
 | .exit _,_,_=>False
 |_,fr,σ=>avc P rs ns exts r nb ext' fr σ
theorem ahk{P:Program}{fn:Func}{tmps:Array Value}{w:World}{vs:List Value}(h:(fn.results.toList.mapM (a4j tmps)).run P w= .ok vs w):
  (results fn tmps).run P w= .ok (match vs with|[v]=>v|vs=> .tuple vs.toArray) w:=by
 have h1:results fn tmps=(fn.results.mapM (a4j tmps))>>=fun vs=>pure (if h:vs.size=1 then vs[0]else .tuple vs):=by
  unfold results;congr 1
 rw[h1,Array.mapM_eq_mapM_toList];simp only[Sem.run_bind,map_eq_pure_bind,bind_assoc,pure_bind,h,Result.andThen_ok,Sem.run_pure];congr 1
 match vs with
 |[]=>rfl
 |[v]=>rfl
 |v::u::r=>simp
def lifts:List (Nat×Nat×Nat×Nat)->AFr->ASt->AFr×ASt
 |[],fr,σ=>(fr,σ)
 |(slot,n,e,sz)::r,fr,σ=>lifts r ((slot,.os n 0)::fr) (qn σ n (.arr e sz false []))
def n7:List (Nat×Nat×Nat×Nat)->AFr->ASt->Prop
 |[],_,_=>True
 |(slot,n,e,sz)::r,fr,σ=>look fr slot= .nils/\ah σ n=none/\0<sz/\n7 r ((slot,.os n 0)::fr) (qn σ n (.arr e sz false []))
theorem Good.lift1{x:Ctx P}{N:Nat}{fr:AFr}{σ:ASt}{a:Act}{hv:Nat->Value}{w:World}(hG:Good x N (look fr) (ah σ) a hv w){slot n e sz:Nat}{sh:Bool}(hs:look fr slot= .nils)(hn:ah σ n=none)(hz:0<sz):
  ∃hv',Good x N (look ((slot,.os n 0)::fr)) (ah (qn σ n (.arr e sz sh []))) a hv' w:=by
 obtain⟨hS,hE⟩:=hG.sim.new (d:=n) (B:= .arr e sz sh []) (hd:= .slice none 0 0) (w':=w) hn rfl rfl rfl (Nat.le_refl _) (fun _ _=>rfl) (fun b hb=>by cases hb)
  (fun E _=>⟨hz,[],⟨by simp,.inl ⟨rfl,rfl⟩⟩,by simp,by simp,fun i y j u hy hu=>by simp at hy⟩)
 refine⟨upd hv n (.slice none 0 0),by rw[bi];exact hS,hG.size,hG.defers,fun t=> ?_⟩;rw[bi];simp only[look];split
 ·rename_i hst;subst hst;have hr:=hG.regs slot;rw[hs]at hr;rw[hr.nils_inv];exact .os ⟨⟨none,0,rfl⟩,.arr e sz sh [],sz,0,ap _ _ _,rfl,Nat.le_refl _,fun _=>(ap _ _ _).symm⟩
 ·exact(hG.regs t).mono hE
theorem Good.lifts{x:Ctx P}{N:Nat}{a:Act}{w:World}: ∀(l:List (Nat×Nat×Nat×Nat)) {fr:AFr} {σ:ASt} {hv:Nat->Value},Good x N (look fr) (ah σ) a hv w->n7 l fr σ->
  ∃hv',Good x N (look (Am.lifts l fr σ).1) (ah (Am.lifts l fr σ).2) a hv' w
 |[],_,_,hv,hG,_=>⟨hv,hG⟩
 |(slot,n,e,sz)::r,fr,σ,hv,hG,h=>by
  obtain⟨h1,h2,h3,h4⟩:=h;obtain⟨hv1,hG1⟩:=hG.lift1 (e:=e) (sh:=false) h1 h2 h3;exact Good.lifts r hG1 h4
def a8z(P:Program)(rs:List ResultVar)(ns exts:List Nat)(r:PV)(nb ext':List Box)(fr:AFr)(σ:ASt):Prop:=
 ∃us b1 b2 us' b3,ahq P fr σ rs=some us/\a8k σ ns exts nb b1/\a79 σ exts ext' b2/\o5 σ ns exts us=some (us',b3)/\pq ns exts (b1++(b2++b3))=true/\afi us'=r
theorem agm{P:Program}{rs:List ResultVar}{ns exts:List Nat}{r:PV}{nb ext':List Box}{fr:AFr}{σ:ASt}(h:avc P rs ns exts r nb ext' fr σ):a8z P rs ns exts r nb ext' fr σ:=by
 unfold avc at h;split at h
 ·rename_i us hus;split at h
  ·rename_i nb0 b1 e0 b2 us' b3 h1 h2 h3;obtain⟨hap,rfl,rfl,rfl⟩:=h;exact⟨us,b1,b2,us',b3,hus,a32 h1,ath h2,h3,hap,rfl⟩
  ·exact h.elim
 ·exact h.elim
def a6w(P:Program)(rs:List ResultVar)(ns exts0 exts:List Nat)(c m:Nat)(es:List (PV×PV))(r:PV)(nb ext0':List Box)(fr:AFr)(σ:ASt):Prop:=
 match ahq P fr σ rs with
 |some us=>match ug σ ns,ug σ exts0,o5 σ ns exts us with
  |some (nb0,b1),some (e0,b2),some (us',b3)=>(ah σ c=some (.cells [.mh m])/\ah σ m=some (.mp es))/\pq ns exts (b1++(b2++b3))=true/\nb0=nb/\e0=ext0'/\afi us'=r
  |_,_,_=>False
 |none=>False
def agq(P:Program)(rs:List ResultVar)(n0:Nat)(ns1 exts:List Nat)(r:PV)(e sz:Nat)(xs:List (List PV))(nb1 ext':List Box)(fr:AFr)(σ:ASt):Prop:=
 match ahq P fr σ rs with
 |some us=>match ug σ ns1,ug σ exts,o5 σ (n0::ns1) exts us with
  |some (nb0,b1),some (e0,b2),some (us',b3)=>(ah σ n0=some (.arh e sz xs)/\∀x∈xs,∀u∈x,okI (n0::ns1) u)/\pq (n0::ns1) exts (b1++(b2++b3))=true/\nb0=nb1/\e0=ext'/\afi us'=r
  |_,_,_=>False
 |none=>False
theorem ayo{P:Program}{rs:List ResultVar}{n0:Nat}{ns1 exts:List Nat}{r:PV}{e sz:Nat}{xs:List (List PV)}{nb1 ext':List Box}{fr:AFr}{σ:ASt}(h:agq P rs n0 ns1 exts r e sz xs nb1 ext' fr σ):a8z P rs (n0::ns1) exts r (.arh e sz xs::nb1) ext' fr σ:=by
 unfold agq at h;split at h
 ·rename_i us hus;split at h
  ·rename_i nb0 b1 e0 b2 us' b3 h1 h2 h3;obtain⟨⟨hc,hm⟩,hap,rfl,rfl,rfl⟩:=h;obtain⟨k1,k2⟩:=uw h1;refine⟨us,b1,b2,us',b3,hus,⟨by simp[k1],fun j n hj=> ?_⟩,ath h2,h3,hap,rfl⟩
   cases j with
   |zero=>
    simp at hj;subst hj
    exact⟨_,_,[],hc,rfl,.inr ⟨e,sz,xs,rfl,rfl,rfl,hm⟩,by simp⟩
   |succ j=>
    obtain⟨B,B',a,e1,e2,e3,e4⟩:=k2 j n (by simpa using hj);exact⟨B,B',a,e1,by simpa using e2,.inl (.inl e3),e4⟩
  ·exact h.elim
 ·exact h.elim
def a6u(P:Program)(rs:List ResultVar)(n0:Nat)(ns1 exts:List Nat)(r:PV)(e sz:Nat)(xs:List (List PV))(nb1 ext':List Box):o8
 | .exit _,_,_=>False
 |_,fr,σ=>agq P rs n0 ns1 exts r e sz xs nb1 ext' fr σ
def a30(P:Program)(rs:List ResultVar)(exts:List Nat)(r:PV)(nb ext':List Box)(fr:AFr)(σ:ASt):Prop:=
 ∃(l:List (Nat×Nat×Nat×Nat)) (ns:List Nat),n7 l fr σ/\a8z P rs ns exts r nb ext' (lifts l fr σ).1 (lifts l fr σ).2
def a3q(P:Program)(rs:List ResultVar)(exts:List Nat)(r:PV)(nb ext':List Box):o8
 | .exit _,_,_=>False
 |_,fr,σ=>a30 P rs exts r nb ext' fr σ
theorem aah{P:Program}(hm:P.follows .mixedOrders=true){k:FuncId}{fn:Func}{c:Code}{N:Nat}{rs:List ResultVar}{args:List PV}{ext:List Box}{r:PV}{nb ext':List Box}(hf:P.funcs[k]? =some fn)(hb:fn.body=some c)
  (hen: ∀as w,(callFunc k as).run P w= .ok (.enter k as) w) (hN:fn.ntmps=N) (hrs:fn.results.toList=rs) (hle:args.length<=N) {exts:List Nat} (hexts:exts=List.range' 1000000 ext'.length) (hel:ext'.length=ext.length)
  (h:W P N c (a3q P rs exts r nb ext') (rk 0 args) (qg 0 ext)):Den P k args ext r nb ext':=by
 refine⟨hen,fun w V hv gc vals hS hl hR=> ?_⟩;refine calls_of_wp hf hb ?_
 have hG:Good (cx (P:=P) w V hv ext gc) N (look (rk 0 args)) (ah (qg 0 ext)) {tmps:=vals.toArray++Array.replicate (fn.ntmps - vals.toArray.size) undef,defers:=[]} hv w:=by
  refine⟨by rw[aea];exact hS,by simp;omega,rfl,fun t=> ?_⟩;rw[aaf,aea];simp only[Nat.zero_le,if_true,Nat.sub_zero];by_cases ht:t<args.length
  ·have htv:t<vals.length:=by omega
   have:=hR t _ _ (bf htv) (bf ht);rw[bq,bf ht]
   have e:(vals.toArray++Array.replicate (fn.ntmps - vals.toArray.size) undef).getD t undef=vals[t]:=by
    rw[Array.getD_eq_getD_getElem?,Array.getElem?_append_left (by simpa using htv)];simp[htv]
   rw[e];exact this
  ·rw[bq,List.getElem?_eq_none (by omega)];exact .undef _
 refine wp_mono (h (cx (P:=P) w V hv ext gc) _ hv w hG) fun e a' w' hq=> ?_
 have fin:(∃fr σ hv',a30 P rs exts r nb ext' fr σ/\Good (cx (P:=P) w V hv ext gc) N (look fr) (ah σ) a' hv' w')->
   a'.defers=[]/\∃v,(results fn a'.tmps).run P w'= .ok v w'/\∃v' hv',Ending.returned v= .returned v'/\SimW (cx (P:=P) w V hv ext gc) (d4 nb ext') hv' w'/\RV (env (cx (P:=P) w V hv ext gc) (d4 nb ext') hv' w') v' r:=by
  rintro⟨fr0,σ0,hv0,⟨l,ns,hl0,hq⟩,hg0⟩;obtain⟨hv',hg⟩:=hg0.lifts l hl0;revert hq hg;generalize (lifts l fr0 σ0).1=fr;generalize (lifts l fr0 σ0).2=σ;intro hq hg;obtain⟨us,b1,b2,us',b3,hus,h1,h2,h3,hap,rfl⟩:=hq;simp only[pq,Bool.and_eq_true,decide_eq_true_eq]at hap;obtain⟨⟨⟨⟨a1,a2⟩,a3⟩,a4⟩,a5⟩:=hap
  obtain⟨hv2,hS2,hR2⟩:=aq0 (shl:=b1++(b2++b3)) hg.sim h1 h2 hexts (fun n hn=>by
    simp only[cx]at hn
    cases hq:d4 [] ext n with
    |none=>rw[hq]at hn;simp at hn
    |some B=>
     rcases eg hq with ⟨_,h3⟩|⟨j,rfl,hj⟩
     ·simp at h3
     ·have:=(ca.1 hj).1;rw[hexts];simp[List.mem_range'_1];omega)
   (fun n hn=>by have:=List.all_eq_true.1 a1 n hn;simpa using this) (lp a2) a3 (fun n hn=>by simp[hn]) (fun n hn=>by simp[hn])
   (fun n hn=>jk a4 hn) (fun n hn=>jk a5 hn)
  subst hrs;obtain⟨vs,f1,f2,f3⟩:=y5 hg hus;obtain⟨g1,g2⟩:=acy h3
  have hall: ∀(i:Nat) (v:Value) (u':PV),vs[i]? =some v->us'[i]? =some u'->RV (env (cx (P:=P) w V hv ext gc) (d4 nb ext') hv2 w') v u':=fun i v u' hv0 hu'=>by
   have hi:=(ca.1 hu').1;rw[g1]at hi;obtain⟨a,e1,e2⟩:=g2 i _ u' (bf hi) hu';exact hR2 v _ u' a (f3 i v _ hv0 (bf hi)) e1 fun n hn=>by simp[e2 n hn]
  refine⟨hg.defers,_,ahk f1,_,hv2,rfl,hS2,?_⟩;have hlen:vs.length=us'.length:=by rw[f2,g1]
  have htup:RV (env (cx (P:=P) w V hv ext gc) (d4 nb ext') hv2 w') (.tuple vs.toArray) (.tup us'):=by
   refine .tup (by simpa using hlen) fun i u hu=> ?_;have hi:=(ca.1 hu).1;have:=hall i (vs[i]'(by omega)) u (bf (by omega)) hu;rw[ip,bq,bf (by omega)];exact this
  match vs,us',hlen,hall,htup with
  |[],[],_,_,ht=>exact ht
  |[v],[u],_,ha,_=>exact ha 0 v u rfl rfl
  |v::v'::r,u::u'::r',_,_,ht=>exact ht
 cases e with
 |normal=>exact fin hq
 |ret=>exact fin hq
 |exit id=>obtain⟨_,_,_,h,_⟩:=hq;exact h.elim
 |goto l=>exact hq.elim
 |panic c=>exact hq.elim
 |outgrown=>exact hq.elim
theorem a6k{P:Program}(hm:P.follows .mixedOrders=true){k:FuncId}{fn:Func}{c:Code}{N:Nat}{rs:List ResultVar}{args:List PV}{ext:List Box}{r:PV}{nb ext':List Box}(hf:P.funcs[k]? =some fn)(hb:fn.body=some c)
  (hen: ∀as w,(callFunc k as).run P w= .ok (.enter k as) w) (hN:fn.ntmps=N) (hrs:fn.results.toList=rs) (hle:args.length<=N) (hc:fb N c=true) (ns:List Nat) {exts:List Nat} (hexts:exts=List.range' 1000000 ext'.length) (hel:ext'.length=ext.length)
  (h:wv P N c (a6o P rs ns exts r nb ext') (rk 0 args) (qg 0 ext)):Den P k args ext r nb ext':=by
 refine aah hm hf hb hen hN hrs hle hexts hel fun x a hv w hG=>wp_mono (eo hm c hc _ _ _ h x a hv w hG) fun e a' w' hq=> ?_;have go: ∀fr σ,avc P rs ns exts r nb ext' fr σ->a30 P rs exts r nb ext' fr σ:=fun fr σ h=>⟨[],ns,trivial,agm h⟩
 cases e with
 |normal=>obtain⟨fr,σ,hv',h1,h2⟩:=hq;exact⟨fr,σ,hv',go _ _ h1,h2⟩
 |ret=>obtain⟨fr,σ,hv',h1,h2⟩:=hq;exact⟨fr,σ,hv',go _ _ h1,h2⟩
 |exit id=>exact hq
 |goto l=>exact hq
 |panic c=>exact hq
 |outgrown=>exact hq
theorem a1c{P:Program}(hm:P.follows .mixedOrders=true){k:FuncId}{fn:Func}{cd:Code}{N:Nat}{rs:List ResultVar}{args:List PV}{ext:List Box}{r:PV}{e sz:Nat}{xs:List (List PV)}{nb1 ext':List Box}(hf:P.funcs[k]? =some fn)(hb:fn.body=some cd)
  (hen: ∀as w,(callFunc k as).run P w= .ok (.enter k as) w) (hN:fn.ntmps=N) (hrs:fn.results.toList=rs) (hle:args.length<=N) (hc:fb N cd=true) (n0:Nat) (ns1:List Nat) {exts:List Nat} (hexts:exts=List.range' 1000000 ext'.length) (hel:ext'.length=ext.length)
  (h:wv P N cd (a6u P rs n0 ns1 exts r e sz xs nb1 ext') (rk 0 args) (qg 0 ext)):Den P k args ext r (.arh e sz xs::nb1) ext':=by
 refine aah hm hf hb hen hN hrs hle hexts hel fun x a hv w hG=>wp_mono (eo hm cd hc _ _ _ h x a hv w hG) fun en a' w' hq=> ?_;have go: ∀fr σ,agq P rs n0 ns1 exts r e sz xs nb1 ext' fr σ->a30 P rs exts r (.arh e sz xs::nb1) ext' fr σ:=fun fr σ h=>⟨[],n0::ns1,trivial,ayo h⟩
 cases en with
 |normal=>obtain⟨fr,σ,hv',h1,h2⟩:=hq;exact⟨fr,σ,hv',go _ _ h1,h2⟩
 |ret=>obtain⟨fr,σ,hv',h1,h2⟩:=hq;exact⟨fr,σ,hv',go _ _ h1,h2⟩
 |exit id=>exact hq
 |goto l=>exact hq
 |panic c=>exact hq
 |outgrown=>exact hq
theorem aqk{P:Program}(hm:P.follows .mixedOrders=true){k:FuncId}{fn:Func}{c:Code}{N:Nat}{rs:List ResultVar}{args:List PV}{ext:List Box}{r:PV}{nb ext':List Box}(hf:P.funcs[k]? =some fn)(hb:fn.body=some c)
  (hen: ∀as w,(callFunc k as).run P w= .ok (.enter k as) w) (hN:fn.ntmps=N) (hrs:fn.results.toList=rs) (hle:args.length<=N) (hc:fb N c=true) {exts:List Nat} (hexts:exts=List.range' 1000000 ext'.length) (hel:ext'.length=ext.length)
  (h:wv P N c (a3q P rs exts r nb ext') (rk 0 args) (qg 0 ext)):Den P k args ext r nb ext':=
 aah hm hf hb hen hN hrs hle hexts hel (eo hm c hc _ _ _ h)
theorem arz{P:Program}{k:FuncId}{bs:List PV}(pre:List PV){ext:List Box}{r:PV}{nb ext':List Box}(h: ∀b,Den P k (pre++ .sn b::bs) ext r nb ext'):Den P k (pre++ .vs []::bs) ext r nb ext':=by
 refine⟨(h true).enter,fun w V hv gc vals hS hl hR=> ?_⟩;have hi:pre.length<vals.length:=by rw[hl];simp
 have hva:=hR pre.length vals[pre.length] (.vs []) (bf hi) (by simp);obtain⟨a,c,sz,U,q1,_⟩:=hva.vs_inv.vs_inv;refine(h a.isNone).run w V hv gc vals hS (by rw[hl];simp) fun i v u hv0 hu=> ?_;by_cases hia:i=pre.length
 ·subst hia;rw[bf hi]at hv0
  cases hv0
  simp at hu;subst hu;rw[q1];exact .pure (.sn _ c rfl)
 ·refine hR i v u hv0 ?_;rw[<-hu];rcases Nat.lt_or_gt_of_ne hia with h1|h1
  ·rw[List.getElem?_append_left h1,List.getElem?_append_left h1]
  ·rw[List.getElem?_append_right (by omega),List.getElem?_append_right (by omega)];obtain⟨m,hm⟩: ∃m,i - pre.length=m+1:=⟨i - pre.length - 1,by omega⟩;rw[hm];simp
end Go.Proofs.Am

/- Stepping: rules that reckon a walk. -/
namespace Go.Proofs.Am
open Go Go.RowKit
variable {P:Program}
def bv{α:Type}(a:α)(k:α->Prop):Prop:=k a
def mk{α:Type}(a:α):α:=a
theorem a9h{α:Type}(a:α):mk a=a:=(rfl)
theorem avi{α:Type}{a b:α}{k:α->Prop}(h:mk a=b):bv a k=bv b k:=by rw[<-h];rfl
theorem a8p{α:Type}(a:α)(k:α->Prop):bv a k=k a:=(rfl)
def kk(K:KT)(u:PV)(δ:ASt)(F:List Nat):Prop:=bv u fun u=>bv δ fun δ=>K u δ F
theorem a86(K:KT)(u:PV)(δ:ASt)(F:List Nat):kk K u δ F=bv u fun u=>bv δ fun δ=>K u δ F:=(rfl)
def db(xs:List (List PV))(i:Nat):List PV:=xs.getD i []
def fc(cs:List PV)(i:Nat):PV:=cs.getD i .undef
def el{α:Type} [Inhabited α](l:List α)(i:Nat):α:=l.getD i default
def evO(P:Program)(op:Op)(d:Option Nat)(fr:AFr)(σ:ASt)(K:KT):Prop:=x8 P ⟨d,op,0, "", #[],none⟩ (ev fr) σ K
theorem uq(P:Program)(d:Option Nat)(op:Op)(ty:TypeId)(p:String)(af:Array Edge)(g:Option (Nat×Bool))(fr:AFr)(σ:ASt)(K:KT):x8 P ⟨d,op,ty,p,af,g⟩ (ev fr) σ K=evO P op d fr σ K:=by
 unfold evO x8
 cases op<;>rfl
theorem apb(s:Nat)(u:PV)(r:AFr)(t:Nat):look ((s,u)::r) t=if s=t then u else look r t:=(rfl)
theorem azd(t:Nat)(u:PV)(r:AFr):look ((t,u)::r) t=u:=by simp[look]
theorem a41(fr:AFr)(t:Nat):ev fr (.tmp t)=look fr t:=(rfl)
theorem avn(fr:AFr)(v:Value):ev fr (.const v)=abk v:=(rfl)
theorem a4a(fr:AFr)(f:FuncId):ev fr (.func f)= .fn f []:=(rfl)
theorem atb(m:Nat)(B:Box)(r:ASt)(n:Nat):ah ((m,B)::r) n=if m=n then some B else ah r n:=(rfl)
theorem axz(n:Nat):ah [] n=none:=(rfl)
theorem aw2(σ:ASt):zt σ []=σ:=(rfl)
theorem at4(σ:ASt)(n:Nat)(B:Box)(r:ASt):zt σ ((n,B)::r)=zt (qn σ n B) r:=(rfl)
theorem awy(n:Nat)(B:Box):qn [] n B=[(n,B)]:=(rfl)
theorem atx(m:Nat)(C:Box)(r:ASt)(n:Nat)(B:Box):qn ((m,C)::r) n B=if m=n then(n,B)::r else(m,C)::qn r n B:=(rfl)
theorem aq2(b:Bool):abk (.bool b)= .bool b:=(rfl)
theorem awn(k:IntKind)(n:Int):abk (.int k n)= .int k n:=(rfl)
theorem aya(s:ByteArray):abk (.string s)= .str s.data.toList:=(rfl)
theorem ate:abk (.pointer none)= .nilp:=(rfl)
theorem aqp:abk (.slice none 0 0)= .nils:=(rfl)
def nx(P:Program)(all:Array Oper)(r:List Oper)(fr:AFr)(d:Option Nat)(u:PV)(σ δ:ASt)(K:AFr->ASt->Prop):Prop:=lw P all r (aga fr d u) (zt σ δ) K
theorem ahd(P:Program)(all:Array Oper)(r:List Oper)(fr:AFr)(d:Nat)(u:PV)(σ:ASt)(K:AFr->ASt->Prop):nx P all r fr (some d) u σ [] K=lw P all r ((d,u)::fr) σ K:=(rfl)
theorem ad5(P:Program)(all:Array Oper)(r:List Oper)(fr:AFr)(d:Nat)(u:PV)(σ:ASt)(p:Nat×Box)(δ:ASt)(K:AFr->ASt->Prop):
  nx P all r fr (some d) u σ (p::δ) K=bv (zt σ (p::δ)) fun σ=>lw P all r ((d,u)::fr) σ K:=(rfl)
theorem afx(P:Program)(all:Array Oper)(r:List Oper)(fr:AFr)(u:PV)(σ:ASt)(p:Nat×Box)(δ:ASt)(K:AFr->ASt->Prop):
  nx P all r fr none u σ (p::δ) K=bv (zt σ (p::δ)) fun σ=>lw P all r fr σ K:=(rfl)
theorem arb(P:Program)(all:Array Oper)(fr:AFr)(σ:ASt)(K:AFr->ASt->Prop):lw P all [] fr σ K=K fr σ:=(rfl)
theorem an3(P:Program)(all:Array Oper)(d:Option Nat)(op:Op)(ty:TypeId)(p:String)(af:Array Edge)(r:List Oper)(fr:AFr)(σ:ASt)(K:AFr->ASt->Prop):
  lw P all (⟨d,op,ty,p,af,none⟩::r) fr σ K=evO P op d fr σ fun u δ _=>nx P all r fr d u σ δ K:=by
 simp only[lw];rw[uq];rfl
def vG(P:Program)(all:Array Oper)(op:Op)(d:Option Nat)(r:List Oper)(fr:AFr)(σ:ASt)(K:AFr->ASt->Prop)(t:Nat)(want:Bool):PV->Prop
 | .bool b=>(b=want->evO P op d ((t,.bool want)::fr) σ fun u δ _=>nx P all r ((t,.bool want)::fr) d u σ δ K)/\(b= !want->nx P all r ((t,.bool (!want))::fr) d (.tup []) σ [] K)
 | .tup []=>nx P all r fr d (.tup []) σ [] K
 |_=>False
theorem an5(P:Program)(all:Array Oper)(d:Option Nat)(op:Op)(ty:TypeId)(p:String)(af:Array Edge)(j:Nat)(want:Bool)(r:List Oper)(fr:AFr)(σ:ASt)(K:AFr->ASt->Prop):
  lw P all (⟨d,op,ty,p,af,some (j,want)⟩::r) fr σ K=bv (ix all j) fun t=>match t with|some t=>bv (look fr t) fun u=>vG P all op d r fr σ K t want u|none=>False:=by
 simp only[lw,bv]
 cases ix all j with
 |none=>rfl
 |some t=>
  simp only
  cases look fr t with
  |tup cs=>cases cs<;>simp only[vG]<;>rfl
  |bool b=>simp only[vG,uq];rfl
  |_=>simp only[vG]
theorem ama(o:Oper)(l:List Oper):ix (List.toArray (o::l)) 0=o.dst:=(rfl)
theorem ami(o:Oper)(l:List Oper)(j:Nat):ix (List.toArray (o::l)) (j+1)=ix (List.toArray l) j:=by simp[ix]
theorem ahz(P:Program)(all:Array Oper)(op:Op)(d:Option Nat)(r:List Oper)(fr:AFr)(σ:ASt)(K:AFr->ASt->Prop)(t:Nat)(want b:Bool):vG P all op d r fr σ K t want (.bool b)=
  ((b=want->evO P op d ((t,.bool want)::fr) σ fun u δ _=>nx P all r ((t,.bool want)::fr) d u σ δ K)/\(b= !want->bv (PV.bool (!want)) fun v=>nx P all r ((t,v)::fr) d (.tup []) σ [] K)):=(rfl)
theorem a2s(P:Program)(all:Array Oper)(op:Op)(d:Option Nat)(r:List Oper)(fr:AFr)(σ:ASt)(K:AFr->ASt->Prop)(t:Nat)(want:Bool):vG P all op d r fr σ K t want (.tup [])=nx P all r fr d (.tup []) σ [] K:=(rfl)
def nxD(P:Program)(all:Array Oper)(r:List Oper)(fr:AFr)(d:Option Nat)(u:PV)(σ δ:ASt)(g:Log)(F:List Nat)(K:AFr->ASt->Log->Prop):Prop:=evD P all r (aga fr d u) (zt σ δ) ((δ.map (·.1),F)::g) K
theorem af7(P:Program)(all:Array Oper)(r:List Oper)(fr:AFr)(d:Nat)(u:PV)(σ:ASt)(g:Log)(F:List Nat)(K:AFr->ASt->Log->Prop):nxD P all r fr (some d) u σ [] g F K=evD P all r ((d,u)::fr) σ (([],F)::g) K:=(rfl)
theorem aal(P:Program)(all:Array Oper)(r:List Oper)(fr:AFr)(d:Nat)(u:PV)(σ:ASt)(p:Nat×Box)(δ:ASt)(g:Log)(F:List Nat)(K:AFr->ASt->Log->Prop):
  nxD P all r fr (some d) u σ (p::δ) g F K=bv ((p::δ).map (·.1)) fun m=>bv (zt σ (p::δ)) fun σ=>evD P all r ((d,u)::fr) σ ((m,F)::g) K:=(rfl)
theorem ace(P:Program)(all:Array Oper)(r:List Oper)(fr:AFr)(u:PV)(σ:ASt)(p:Nat×Box)(δ:ASt)(g:Log)(F:List Nat)(K:AFr->ASt->Log->Prop):
  nxD P all r fr none u σ (p::δ) g F K=bv ((p::δ).map (·.1)) fun m=>bv (zt σ (p::δ)) fun σ=>evD P all r fr σ ((m,F)::g) K:=(rfl)
theorem a04(P:Program)(all:Array Oper)(fr:AFr)(σ:ASt)(g:Log)(K:AFr->ASt->Log->Prop):evD P all [] fr σ g K=K fr σ g:=(rfl)
theorem axn(P:Program)(all:Array Oper)(d:Option Nat)(op:Op)(ty:TypeId)(p:String)(af:Array Edge)(r:List Oper)(fr:AFr)(σ:ASt)(g:Log)(K:AFr->ASt->Log->Prop):
  evD P all (⟨d,op,ty,p,af,none⟩::r) fr σ g K=(em op=false/\evO P op d fr σ fun u δ F=>bv F fun F=>nxD P all r fr d u σ δ g F K):=by
 simp only[evD];rw[uq];rfl
def vGD(P:Program)(all:Array Oper)(op:Op)(d:Option Nat)(r:List Oper)(fr:AFr)(σ:ASt)(g:Log)(K:AFr->ASt->Log->Prop)(t:Nat)(want:Bool):PV->Prop
 | .bool b=>(b=want->evO P op d ((t,.bool want)::fr) σ fun u δ F=>bv F fun F=>nxD P all r ((t,.bool want)::fr) d u σ δ g F K)/\(b= !want->evD P all r (aga ((t,.bool (!want))::fr) d (.tup [])) σ (([],[])::g) K)
 | .tup []=>nxD P all r fr d (.tup []) σ [] g [] K
 |_=>False
theorem ayw(P:Program)(all:Array Oper)(d:Option Nat)(op:Op)(ty:TypeId)(p:String)(af:Array Edge)(j:Nat)(want:Bool)(r:List Oper)(fr:AFr)(σ:ASt)(g:Log)(K:AFr->ASt->Log->Prop):
  evD P all (⟨d,op,ty,p,af,some (j,want)⟩::r) fr σ g K=(em op=false/\bv (ix all j) fun t=>match t with|some t=>bv (look fr t) fun u=>vGD P all op d r fr σ g K t want u|none=>False):=by
 simp only[evD,bv]
 cases ix all j with
 |none=>rfl
 |some t=>
  simp only
  cases look fr t with
  |tup cs=>cases cs<;>simp only[vGD]<;>rfl
  |bool b=>simp only[vGD,uq];rfl
  |_=>simp only[vGD]
theorem aa9(P:Program)(all:Array Oper)(op:Op)(d:Option Nat)(r:List Oper)(fr:AFr)(σ:ASt)(g:Log)(K:AFr->ASt->Log->Prop)(t:Nat)(want b:Bool):vGD P all op d r fr σ g K t want (.bool b)=
  ((b=want->evO P op d ((t,.bool want)::fr) σ fun u δ F=>bv F fun F=>nxD P all r ((t,.bool want)::fr) d u σ δ g F K)/\(b= !want->bv (PV.bool (!want)) fun v=>nxD P all r ((t,v)::fr) d (.tup []) σ [] g [] K)):=(rfl)
theorem azh(P:Program)(all:Array Oper)(op:Op)(d:Option Nat)(r:List Oper)(fr:AFr)(σ:ASt)(g:Log)(K:AFr->ASt->Log->Prop)(t:Nat)(want:Bool):vGD P all op d r fr σ g K t want (.tup [])=nxD P all r fr d (.tup []) σ [] g [] K:=(rfl)
section
variable (P:Program) (d:Option Nat) (fr:AFr) (σ:ASt) (K:KT)
theorem pu{α:Type} [Inhabited α](f:α->List PV)(l:List α)(i:Nat)(h:i<l.length):db (l.map f) i=f (el l i):=by
 simp[db,el,bq,h]
theorem al3(u:PV)(r:List PV):fc (u::r) 0=u:=(rfl)
theorem am6(u:PV)(r:List PV)(i:Nat):fc (u::r) (i+1)=fc r i:=(rfl)
theorem aoi(u:List PV)(r:List (List PV)):db (u::r) 0=u:=(rfl)
theorem aoa(u:List PV)(r:List (List PV))(i:Nat):db (u::r) (i+1)=db r i:=(rfl)
theorem axp(x:Operand):evO P (.move x) d fr σ K=kk K (ev fr x) [] []:=(rfl)
theorem aos(x:Operand):evO P (.assign x) d fr σ K=kk K (ev fr x) [] []:=(rfl)
def a1i(fr:AFr)(a b:Operand)(K:KT):PV->Prop
 | .bool t=>(t=true->kk K (ev fr a) [] [])/\(t=false->kk K (ev fr b) [] [])
 |_=>False
theorem aze(c a b:Operand):evO P (.pick c a b) d fr σ K=bv (ev fr c) (a1i fr a b K):=by
 simp only[evO,x8,bv]
 cases ev fr c<;>rfl
theorem zp(a b:Operand)(t:Bool):a1i fr a b K (.bool t)=((t=true->kk K (ev fr a) [] [])/\(t=false->kk K (ev fr b) [] [])):=(rfl)
def a9w(K:KT):PV->Prop
 | .ptr n k=>K (.ptr n k) [] []
 | .el cs=>K (.el cs) [] []
 |_=>False
theorem ac7(x:Operand):evO P (.nilCheck x) d fr σ K=bv (ev fr x) (a9w K):=by
 simp only[evO,x8,bv]
 cases ev fr x<;>rfl
theorem ayt(n k:Nat):a9w K (.ptr n k)=K (.ptr n k) [] []:=(rfl)
def a9r(i:Nat)(K:KT):PV->Prop
 | .tup us=>i<us.length/\kk K (fc us i) [] []
 |_=>False
theorem agv(t:Operand)(i:Nat):evO P (.extract t i) d fr σ K=bv (ev fr t) (a9r i K):=by
 simp only[evO,x8,bv]
 cases ev fr t<;>rfl
theorem ayr(i:Nat)(us:List PV):a9r i K (.tup us)=(i<us.length/\kk K (fc us i) [] []):=(rfl)
theorem asv(t:TypeId)(d:Nat):evO P (.alloc t) (some d) fr σ K=bv (bk P t) fun z=>match z with|some zs=>ah σ d=none/\K (.ptr d 0) [(d,.cells zs)] [d]|none=>False:=by
 simp only[evO,x8,bv]
 cases bk P t<;>rfl
theorem a1p(t:TypeId)(x:Operand)(d:Nat):evO P (.box t x) (some d) fr σ K=bv (dl (ev fr x)) fun z=>match z with|some us=>ah σ d=none/\K (.ptr d 0) [(d,.cells us)] [d]|none=>False:=by
 simp only[evO,x8,bv]
 cases dl (ev fr x)<;>rfl
def avu(fr:AFr):List (Nat×Operand)->List (Nat×PV)
 |[]=>[]
 |(i,x)::r=>(i,ev fr x)::avu fr r
theorem akb(l:List (Nat×Operand)):(l.map fun p=>(p.1,ev fr p.2))=avu fr l:=by
 induction l with
 |nil=>rfl
 |cons p r ih=>obtain⟨i,x⟩:=p;simp only[List.map_cons,avu,ih]
theorem ayx:avu fr []=[]:=(rfl)
theorem atr(i:Nat)(x:Operand)(r:List (Nat×Operand)):avu fr ((i,x)::r)=(i,ev fr x)::avu fr r:=(rfl)
theorem as4(t:TypeId)(ps:List (Nat×Operand)):evO P (.build t ps.toArray) d fr σ K=bv (wd P t (avu fr ps)) fun z=>match z with|some cs=>K (.agg cs) [] []|none=>False:=by
 simp only[evO,x8,bv,akb]
 cases wd P t (avu fr ps)<;>rfl
theorem yj(t:TypeId)(n:Nat)(ps:List (Nat×Operand)):evO P (.buildSlice t n ps.toArray) d fr σ K=bv (avu fr ps) fun z=>ij P t n z d σ K:=by
 simp only[evO,x8,bv,akb]
theorem avp(t:TypeId)(a:Operand):evO P (.load t a) d fr σ K=bv (ev fr a) fun u=>nz P t σ u K:=(rfl)
theorem auv(t:TypeId)(a v:Operand):evO P (.store t a v) d fr σ K=bv (ev fr a) fun u=>bv (ev fr v) fun v=>lq P t σ u v K:=(rfl)
theorem aaz(t:TypeId)(x:Operand)(f:Nat):evO P (.fieldAddr t x f) d fr σ K=bv (ev fr x) fun u=>ey P t f σ u K:=(rfl)
theorem abe(t:TypeId)(x i:Operand):evO P (.indexAddr t x i) d fr σ K=bv (ev fr x) fun u=>bv (ev fr i) fun v=>cg P t σ u v K:=(rfl)
theorem aq7(t:TypeId)(x i:Operand):evO P (.index t x i) d fr σ K=bv (ev fr x) fun u=>bv (ev fr i) fun v=>l9 P t u v K:=(rfl)
theorem apo(op:BinOp)(t:TypeId)(x y:Operand)(yt:TypeId):evO P (.binOp op t x y yt) d fr σ K=bv (ev fr x) fun u=>bv (ev fr y) fun v=>fl P op t u v fun u=>kk K u [] []:=(rfl)
theorem av7(op:UnOp)(t:TypeId)(x:Operand):evO P (.unOp op t x) d fr σ K=bv (ev fr x) fun u=>a2f op u fun u=>kk K u [] []:=(rfl)
theorem aiq(s e:TypeId)(x:Operand):evO P (.convert s e x) d fr σ K=bv (ev fr x) fun u=>oz P s e d σ u fun u δ F=>kk K u δ F:=(rfl)
theorem apd(t:TypeId)(x:Operand)(lo hi mx:Option Operand):evO P (.slice t x lo hi mx) d fr σ K=bv (ev fr x) fun u=>bv (lo.map (ev fr)) fun lo=>bv (hi.map (ev fr)) fun hi=>bv (mx.map (ev fr)) fun mx=>iw P t σ u lo hi mx fun u δ F=>kk K u δ F:=(rfl)
theorem aao(t:TypeId)(l c:Operand):evO P (.makeSlice t l c) d fr σ K=bv (ev fr l) fun u=>bv (ev fr c) fun v=>r9 P t d σ u v fun u δ F=>kk K u δ F:=(rfl)
def azk(fr:AFr):List Operand->List PV
 |[]=>[]
 |x::r=>ev fr x::azk fr r
theorem ak7(l:List Operand):l.map (ev fr)=azk fr l:=by
 induction l with
 |nil=>rfl
 |cons x r ih=>simp only[List.map_cons,azk,ih]
theorem aw0:azk fr []=[]:=(rfl)
theorem atj(x:Operand)(r:List Operand):azk fr (x::r)=ev fr x::azk fr r:=(rfl)
theorem ads(f:FuncId)(cap:List Operand):evO P (.makeFunc (.func f) #[] cap.toArray) d fr σ K=bv (azk fr cap) fun us=>K (.fn f us) [] []:=by
 simp only[evO,x8,bv,ak7,a0s]
theorem av4(f:Operand)(ys:List Operand)(ts:Array TypeId):evO P (.call ⟨.value f,ys.toArray,ts⟩) d fr σ K=bv (ev fr f) fun f=>bv (azk fr ys) fun us=>y9 P f us d σ fun u δ F=>kk K u δ F:=by
 simp only[evO,x8,bv,ak7,a9b];rfl
theorem apx(t:TypeId)(cs:List PV):a3n P t σ (.agg cs) K=(ifT P t=true/\bv (gr σ cs) fun p=>match p with
  |some (us,[])=>K (.ifc t (.agg us)) [] []
  |_=>False):=(rfl)
theorem a3d(y:Operand)(t:TypeId):evO P (.call ⟨.builtin .len, #[y], #[t]⟩) d fr σ K=bv (ev fr y) fun u=>p9 P t σ u K:=(rfl)
theorem arf(y:Operand)(t:TypeId):evO P (.call ⟨.builtin .clear, #[y], #[t]⟩) d fr σ K=bv (ev fr y) fun u=>am8 P t σ u K:=(rfl)
theorem ams(y z:Operand)(t tx:TypeId):evO P (.call ⟨.builtin .append, #[y,z], #[t,tx]⟩) d fr σ K=bv (ev fr y) fun u=>bv (ev fr z) fun v=>nv P t tx d σ u v fun u δ F=>kk K u δ F:=(rfl)
theorem a1z(y z:Operand)(ts:Array TypeId):evO P (.call ⟨.builtin .min, #[y,z],ts⟩) d fr σ K=bv (ev fr y) fun u=>bv (ev fr z) fun v=>a4f false u v fun u δ F=>kk K u δ F:=(rfl)
theorem amr(t:TypeId)(n off:Nat):nz P t σ (.ptr n off) K=bv (ldT P t) fun l=>bv (ah σ n) fun B=>match l,B with
  |some none,some (.cells cs)=>off<cs.length/\kk K (fc cs off) [] [n]
  |some (some m),some (.cells cs)=>off+m<=cs.length/\kk K (.agg ((cs.drop off).take m)) [] [n]
  |_,_=>False:=by
 simp only[nz,bv,kk,db,fc];rcases ldT P t with _|_|m<;>(try rfl)<;>rcases ah σ n with _|B<;>(try rfl)<;>cases B<;>rfl
theorem asy(t:TypeId)(cs:List PV):nz P t σ (.el cs) K=bv (ldT P t) fun l=>match l with
  |some none=>0<cs.length/\kk K (fc cs 0) [] []
  |some (some m)=>m<=cs.length/\kk K (.agg (cs.take m)) [] []
  |none=>False:=by
 simp only[nz,bv,kk,db,fc];rcases ldT P t with _|_|m<;>rfl
def ar3(n k i off:Nat)(K:KT):Option (Option Nat)->Option Box->Prop
 |some none,some (.arr _ _ _ xs)=>(k=xs.length/\i<k/\off<(db xs i).length)/\kk K (fc (db xs i) off) [] [n]
 |some (some m),some (.arr _ _ _ xs)=>(k=xs.length/\i<k/\off+m<=(db xs i).length)/\kk K (.agg (((db xs i).drop off).take m)) [] [n]
 |some none,some (.arh _ _ xs)=>(k=xs.length/\i<k/\off<(db xs i).length)/\kk K (fc (db xs i) off) [] [n]
 |some (some m),some (.arh _ _ xs)=>(k=xs.length/\i<k/\off+m<=(db xs i).length)/\kk K (.agg (((db xs i).drop off).take m)) [] [n]
 |_,_=>False
theorem am4(t:TypeId)(n k i off:Nat):nz P t σ (.oel n k i off) K=bv (ldT P t) fun l=>bv (ah σ n) fun B=>ar3 n k i off K l B:=by
 simp only[nz,bv,kk];rcases ldT P t with _|_|m<;>(try rfl)<;>rcases ah σ n with _|B<;>(try rfl)<;>cases B<;>first|rfl|simp only[ar3,kk,bv,db,fc,and_assoc]
theorem awi(n k i off e sz:Nat)(sh:Bool)(xs:List (List PV)):ar3 n k i off K (some none) (some (.arr e sz sh xs))=((k=xs.length/\i<k/\off<(db xs i).length)/\kk K (fc (db xs i) off) [] [n]):=(rfl)
theorem aub(n k i off e sz:Nat)(xs:List (List PV)):ar3 n k i off K (some none) (some (.arh e sz xs))=((k=xs.length/\i<k/\off<(db xs i).length)/\kk K (fc (db xs i) off) [] [n]):=(rfl)
theorem at0(n k i off m e sz:Nat)(xs:List (List PV)):ar3 n k i off K (some (some m)) (some (.arh e sz xs))=((k=xs.length/\i<k/\off+m<=(db xs i).length)/\kk K (.agg (((db xs i).drop off).take m)) [] [n]):=(rfl)
theorem ww(t:TypeId)(n off:Nat)(v:PV):lq P t σ (.ptr n off) v K=bv (du P t) fun m=>bv (dl v) fun us=>bv (ah σ n) fun B=>match m,us,B with
  |some m,some us,some (.cells cs)=>(us.length=m/\us.all eh=true/\off+m<=cs.length)/\kk K .undef [(n,.cells (cs.take off++us++cs.drop (off+m)))] [n]
  |_,_,_=>False:=by
 simp only[lq,bv,kk,db,fc];rcases du P t with _|m<;>(try rfl)<;>rcases dl v with _|us<;>(try rfl)<;>rcases ah σ n with _|B<;>(try (simp only[and_false];done))<;>cases B<;>simp only[and_assoc,and_false]
def af9(σ:ASt)(n k i off:Nat)(K:KT):Option Nat->Option (List PV)->Option Box->Prop
 |some m,some us,some (.arr e sz false xs)=>match gr σ us with
   |some (us',ns)=>(us.length=m/\us.all eh=true/\k=xs.length/\i<k/\off+m<=sz/\n∉ns)/\kk K .undef (dj σ ns++[(n,.arr e sz false (xs.set i ((db xs i).take off++us'++(db xs i).drop (off+m))))]) (n::ns)
   |none=>False
 |some m,some us,some (.arh e sz xs)=>(us.length=m/\us.all eh=true/\k=xs.length/\i<k/\off+m<=sz)/\kk K .undef [(n,.arh e sz (xs.set i ((db xs i).take off++us++(db xs i).drop (off+m))))] [n]
 |_,_,_=>False
theorem aiy(t:TypeId)(n k i off:Nat)(v:PV):lq P t σ (.oel n k i off) v K=bv (du P t) fun m=>bv (dl v) fun us=>bv (ah σ n) fun B=>af9 σ n k i off K m us B:=by
 simp only[lq,bv,kk]
 rcases du P t with _|m<;>(try rfl)<;>rcases dl v with _|us<;>(try rfl)<;>rcases ah σ n with _|B<;>(try (simp only[af9,and_false];done))<;>cases B with
 |cells cs=>simp only[af9,and_false]
 |arr e sz sh xs=>cases sh<;>simp only[af9,and_false]<;>rcases gr σ us with _|⟨us',ns⟩<;>simp only[kk,bv,db,and_assoc,and_false]
 |arh e sz xs=>simp only[af9,kk,bv,db,and_assoc]
 |mp es=>simp only[af9,and_false]
 |it m k d=>simp only[af9,and_false]
 |si l p=>simp only[af9,and_false]
 |arq e sz k xs=>simp only[af9,and_false]
 |dead sz l=>simp only[af9,and_false]
theorem a5v(n k i off m e sz:Nat)(us:List PV)(xs:List (List PV)):af9 σ n k i off K (some m) (some us) (some (.arh e sz xs))=((us.length=m/\us.all eh=true/\k=xs.length/\i<k/\off+m<=sz)/\bv (db xs i) fun c=>bv (xs.set i (c.take off++us++c.drop (off+m))) fun xs'=>kk K .undef [(n,.arh e sz xs')] [n]):=(rfl)
theorem ai9(n k i off m e sz:Nat)(us:List PV)(xs:List (List PV)):af9 σ n k i off K (some m) (some us) (some (.arr e sz false xs))=bv (gr σ us) fun p=>match p with
   |some (us',ns)=>(us.length=m/\us.all eh=true/\k=xs.length/\i<k/\off+m<=sz/\n∉ns)/\kk K .undef (dj σ ns++[(n,.arr e sz false (xs.set i ((db xs i).take off++us'++(db xs i).drop (off+m))))]) (n::ns)
   |none=>False:=by
 simp only[af9,bv]
theorem awp{α:Type} [Inhabited α](f:α->List PV)(l:List α)(n k i off m e sz:Nat)(us:List PV):af9 σ n k i off K (some m) (some us) (some (.arr e sz false (l.map f)))=bv (gr σ us) fun p=>match p with
   |some (us',ns)=>(us.length=m/\us.all eh=true/\k=l.length/\i<k/\off+m<=sz/\n∉ns)/\bv (f (el l i)) fun c=>bv ((l.map f).set i (c.take off++us'++c.drop (off+m))) fun xs'=>kk K .undef (dj σ ns++[(n,.arr e sz false xs')]) (n::ns)
   |none=>False:=by
 rw[ai9];simp only[bv];rcases gr σ us with _|⟨us',ns⟩
 ·rfl
 ·simp only[List.length_map,and_assoc];refine propext (and_congr_right fun _=>and_congr_right fun _=>and_congr_right fun h1=>and_congr_right fun h2=> ?_);rw[pu f l i (by omega)]
theorem ah8(t:TypeId)(f n k:Nat):ey P t f σ (.ptr n k) K=bv (fo P t f) fun o=>match o with|some off=>bv (k+off) fun k=>K (.ptr n k) [] []|none=>False:=(rfl)
theorem amn(t:TypeId)(f:Nat)(cs:List PV):ey P t f σ (.el cs) K=bv (fo P t f) fun o=>match o with|some off=>kk K (.el (cs.drop off)) [] []|none=>False:=(rfl)
theorem ahv(t:TypeId)(f n k i o1:Nat):ey P t f σ (.oel n k i o1) K=bv (fo P t f) fun o=>bv (ah σ n) fun B=>match o,B with
  |some off,some (.arr _ _ _ xs)=>(k=xs.length/\i<k)/\bv (o1+off) fun o=>K (.oel n k i o) [] [n]
  |some off,some (.arh _ _ xs)=>(k=xs.length/\i<k)/\bv (o1+off) fun o=>K (.oel n k i o) [] [n]
  |_,_=>False:=by
 simp only[ey,bv];rcases fo P t f with _|off<;>(try rfl)<;>rcases ah σ n with _|B<;>(try rfl)<;>cases B<;>first|rfl|simp only[and_assoc]
theorem ai5(t:TypeId)(xs:List (List PV))(kd:IntKind)(i:Int):cg P t σ (.vs xs) (.int kd i) K=bv (slT P t) fun s=>match s with
  |some (_,sz,_)=>(0<=i/\i<xs.length)/\(db xs i.toNat).length=sz/\kk K (.el (db xs i.toNat)) [] []
  |none=>False:=by
 simp only[cg,bv,kk,db,fc];rcases slT P t with _|⟨e,sz,b⟩<;>first|rfl|simp only[and_assoc]
theorem azi(t:TypeId)(n m:Nat)(kd:IntKind)(i:Int):cg P t σ (.os n m) (.int kd i) K=bv (slT P t) fun s=>bv (ah σ n) fun B=>match s,B with
  |some (_,sz,_),some (.arr _ sz' _ xs)=>(sz'=sz/\m=xs.length/\0<=i/\i<xs.length)/\kk K (.oel n m i.toNat 0) [] [n]
  |some (_,sz,_),some (.arh _ sz' xs)=>(sz'=sz/\m=xs.length/\0<=i/\i<xs.length)/\kk K (.oel n m i.toNat 0) [] [n]
  |_,_=>False:=by
 simp only[cg,bv,kk,db,fc];rcases slT P t with _|⟨e,sz,b⟩<;>(try rfl)<;>rcases ah σ n with _|B<;>(try rfl)<;>cases B<;>first|rfl|simp only[and_assoc]
theorem asr(t:TypeId)(n m a:Nat)(kd:IntKind)(i:Int):cg P t σ (.osl n m a) (.int kd i) K=bv (slT P t) fun s=>bv (ah σ n) fun B=>match s,B with
  |some (_,sz,_),some (.arh _ sz' xs)=>(sz'=sz/\m=xs.length/\0<=i/\a+i<xs.length)/\kk K (.oel n m (a+i.toNat) 0) [] [n]
  |_,_=>False:=by
 simp only[cg,bv,kk,db,fc];rcases slT P t with _|⟨e,sz,b⟩<;>(try rfl)<;>rcases ah σ n with _|B<;>(try rfl)<;>cases B<;>first|rfl|simp only[and_assoc]
theorem au1(t:TypeId)(n m:Nat)(kd:IntKind)(i:Int):cg P t σ (.ptr n m) (.int kd i) K=bv (arT P t) fun s=>match s with
  |some (len,sz)=>(0<=i/\i<len)/\kk K (.ptr n (m+i.toNat*sz)) [] []
  |none=>False:=by
 simp only[cg,bv,kk,db,fc];rcases arT P t with _|⟨len,sz⟩<;>first|rfl|simp only[and_assoc]
theorem ah7(t:TypeId)(cs:List PV)(kd:IntKind)(n:Int):l9 P t (.agg cs) (.int kd n) K=bv (t8 P t) fun s=>match s with
  |some (len,e)=>bv (jt P e) fun r=>bv (du P e) fun z=>(r=some false/\z=some 1)/\(0<=n/\n<len/\n<cs.length)/\kk K (fc cs n.toNat) [] []
  |none=>False:=by
 simp only[l9,bv,kk,db,fc]
 cases h:t8 P t with
 |none=>simp
 |some p=>
  obtain⟨len,e⟩:=p;apply propext;constructor
  ·rintro⟨l,e',h1,h2,h3,h4,h5,h6,h7⟩
   cases h1
   exact⟨⟨h2,h3⟩,⟨h4,h5,h6⟩,h7⟩
  ·rintro⟨⟨h2,h3⟩,⟨h4,h5,h6⟩,h7⟩;exact⟨len,e,rfl,h2,h3,h4,h5,h6,h7⟩
theorem ah6(t:TypeId)(l:List UInt8)(kd:IntKind)(n:Int):l9 P t (.str l) (.int kd n) K=bv (fx P t) fun s=>s=true/\(0<=n/\n<l.length)/\kk K (.int .u8 ((l.getD n.toNat 0).toNat:Int)) [] []:=by
 simp only[l9,bv,kk,and_assoc]
theorem aru(t:TypeId)(l:List UInt8):uf P t σ (.str l) K=bv (fx P t) fun s=>s=true/\kk K (.int .i64 l.length) [] []:=(rfl)
theorem avj(t:TypeId)(xs:List (List PV)):uf P t σ (.vs xs) K=bv (ay P t) fun s=>s=true/\kk K (.int .i64 xs.length) [] []:=(rfl)
theorem awm(t:TypeId)(n k:Nat):uf P t σ (.os n k) K=bv (ah σ n) fun B=>bv (ay P t) fun s=>match B with
  |some (.arr _ _ _ xs)=>(k=xs.length/\s=true)/\kk K (.int .i64 k) [] [n]
  |some (.arh _ _ xs)=>(k=xs.length/\s=true)/\kk K (.int .i64 k) [] [n]
  |_=>False:=by
 simp only[uf,bv,kk,db,fc];rcases ah σ n with _|B<;>(try rfl)<;>cases B<;>first|rfl|simp only[and_assoc]
theorem as9(t:TypeId)(n k i:Nat):uf P t σ (.osl n k i) K=bv (ay P t) fun s=>s=true/\kk K (.int .i64 ((k - i:Nat):Int)) [] []:=(rfl)
theorem ait(s e:TypeId)(k:IntKind)(n:Int):oz P s e d σ (.int k n) K=pb P s e σ (.int k n) K:=(rfl)
theorem an8(s e:TypeId)(n k:Nat):oz P s e d σ (.os n k) K=pb P s e σ (.os n k) K:=(rfl)
def a9s(d e:Nat)(l:List UInt8)(K:KT):Prop:=kk K (.os d l.length) [(d,.arr e 1 false (bo l))] [d]
theorem aix(s e:TypeId)(l:List UInt8)(d:Nat):oz P s e (some d) σ (.str l) K=bv (fx P e) fun q=>bv (jn P s) fun z=>bv (fx P s) fun p=>bv (jg P e) fun y=>bv (br P e) fun el=>if q=true then z=true/\K (.str l) [] []else match el with
  |some t=>p=true/\y=true/\bv (ah σ d) (fun B=>B=none)/\l.length<=140737488355328/\a9s d t l K
  |none=>False:=(rfl)
theorem amb(s e:TypeId)(k:IntKind)(n:Int):pb P s e σ (.int k n) K=bv (mo P e) fun q=>bv (jn P s) fun z=>match q with|some k'=>z=true/\K (.int k' (k'.wrap n)) [] []|none=>False:=(rfl)
theorem asi(s e:TypeId)(n k:Nat):pb P s e σ (.os n k) K=bv (ah σ n) fun B=>bv (jg P s) fun q=>bv (fx P e) fun p=>match B with
  |some (.arr _ _ _ xs)=>(k=xs.length/\q=true/\p=true)/\∃l,xs=bo l/\K (.str l) [] [n]
  |_=>False:=by
 simp only[pb,bv];rcases ah σ n with _|B<;>(try rfl)<;>cases B<;>first|rfl|simp only[and_assoc]
theorem aq8(t:TypeId)(n:Nat):p9 P t σ (.mh n) K=bv (ah σ n) fun B=>bv (age P t) fun m=>match B,m with
  |some (.mp es),some _=>kk K (.int .i64 es.length) [] [n]
  |_,_=>False:=(rfl)
theorem aou(t:TypeId)(l:List UInt8):p9 P t σ (.str l) K=uf P t σ (.str l) K:=(rfl)
theorem atl(t:TypeId)(xs:List (List PV)):p9 P t σ (.vs xs) K=uf P t σ (.vs xs) K:=(rfl)
theorem aus(t:TypeId)(n k:Nat):p9 P t σ (.os n k) K=uf P t σ (.os n k) K:=(rfl)
def a4m(ok:Bool)(n:Nat)(q:PV)(K:KT):Option Box->Option (TypeId×TypeDesc×TypeId)->(TypeId->Option PV)->Prop
 |some (.mp es),some (_,dk,e),zv=>bv (mc dk q) fun b=>bv (lc q es 0) fun r=>bv (zv e) fun z=>match r,z with
  |some r,some z=>b=true/\kk K (a1f es z ok r) [] [n]
  |_,_=>False
 |_,_,_=>False
theorem anb(t:TypeId)(x i:Operand)(ok:Bool):evO P (.lookup t x i ok) d fr σ K=bv (ev fr x) fun u=>bv (ev fr i) fun q=>zn P t ok σ u q K:=(rfl)
theorem asm(t:TypeId)(ok:Bool)(n:Nat)(q:PV):zn P t ok σ (.mh n) q K=bv (ah σ n) fun B=>bv (age P t) fun m=>a4m ok n q K B m (aly P):=by
 simp only[zn,bv,kk];rcases ah σ n with _|B<;>(try rfl)<;>cases B<;>(try rfl)<;>rcases age P t with _|⟨k,dk,e⟩<;>(try rfl)
theorem ayv(ok:Bool)(n:Nat)(q:PV)(es:List (PV×PV))(k e:TypeId)(dk:TypeDesc)(zv:TypeId->Option PV):a4m ok n q K (some (.mp es)) (some (k,dk,e)) zv=bv (mc dk q) fun b=>bv (lc q es 0) fun r=>bv (zv e) fun z=>match r,z with
  |some r,some z=>b=true/\kk K (a1f es z ok r) [] [n]
  |_,_=>False:=(rfl)
def a9u(n:Nat)(q v:PV)(K:KT):Option Box->Option (TypeId×TypeDesc×TypeId)->Prop
 |some (.mp es),some (_,dk,_)=>bv (mc dk q) fun b=>bv (lc q es 0) fun r=>match r with
  |some r=>b=true/\bv (akj es q v r) fun es'=>kk K .undef [(n,.mp es')] [n]
  |_=>False
 |_,_=>False
theorem ab0(t:TypeId)(x i v:Operand):evO P (.mapUpdate t x i v) d fr σ K=bv (ev fr x) fun u=>bv (ev fr i) fun q=>bv (ev fr v) fun v=>agi P t σ u q v K:=(rfl)
theorem ayl(t:TypeId)(n:Nat)(q v:PV):agi P t σ (.mh n) q v K=bv (ah σ n) fun B=>bv (age P t) fun m=>a9u n q v K B m:=by
 simp only[agi,bv,kk];rcases ah σ n with _|B<;>(try rfl)<;>cases B<;>(try rfl)<;>rcases age P t with _|⟨k,dk,e⟩<;>(try rfl)
theorem a2y(n:Nat)(q v:PV)(es:List (PV×PV))(k e:TypeId)(dk:TypeDesc):a9u n q v K (some (.mp es)) (some (k,dk,e))=bv (mc dk q) fun b=>bv (lc q es 0) fun r=>match r with
  |some r=>b=true/\bv (akj es q v r) fun es'=>kk K .undef [(n,.mp es')] [n]
  |_=>False:=(rfl)
theorem aie(t:TypeId)(d:Nat):evO P (.makeMap t none) (some d) fr σ K=(bv (ah σ d) (fun B=>B=none)/\K (.mh d) [(d,.mp [])] [d]):=(rfl)
theorem aqw(t:TypeId)(x:Operand)(d:Nat):evO P (.range t x) (some d) fr σ K=bv (ev fr x) fun u=>arc P t (some d) σ u K:=(rfl)
theorem ap2(x:Operand):evO P (.next x true) d fr σ K=bv (ev fr x) fun u=>vk σ u K:=(rfl)
def a9m(l:List UInt8)(pos n:Nat)(r:Nat×Nat)(K:KT):Prop:=kk K (.tup [.bool true,.int .i64 pos,.int .i32 r.1]) [(n,.si l (pos+r.2))] [n]
theorem a0x(l:List UInt8)(pos n a b:Nat)(K:KT):a9m l pos n (a,b) K=kk K (.tup [.bool true,.int .i64 pos,.int .i32 a]) [(n,.si l (pos+b))] [n]:=(rfl)
theorem anv(n:Nat):vk σ (.mh n) K=bv (ah σ n) fun B=>match B with
  |some (.si l pos)=>(pos<l.length->bv (ar1 l pos) fun r=>a9m l pos n r K)/\(¬pos<l.length->K (.tup [.bool false]) [] [n])
  |_=>False:=(rfl)
theorem au5(t:TypeId)(l:List UInt8)(d:Nat):arc P t (some d) σ (.str l) K=(fx P t=true/\bv (ah σ d) (fun B=>B=none)/\K (.mh d) [(d,.si l 0)] [d]):=(rfl)
end
end Go.Proofs.Am
