/- AmS. -/
import Derived.Test.YtloaichcpoboeaaGreatDoorAmR
set_option linter.unusedSimpArgs false
set_option linter.unusedVariables false
namespace Go.Proofs.Am
open Go Go.RowKit
variable {P:Program}
def xp:Nat->List PV->AFr
 |_,[]=>[]
 |i,u::r=>(i,u)::xp (i+1) r
def uz:Nat->List Box->ASt
 |_,[]=>[]
 |j,B::r=>(1000000+j,B)::uz (j+1) r
theorem aa6: ∀(args:List PV) (i t:Nat),look (xp i args) t=if i<=t then args.getD (t - i) .undef else .undef
 |[],i,t=>by simp[xp,look]
 |u::r,i,t=>by
  simp only[xp,look];rw[aa6 r (i+1) t];by_cases h:i=t
  ·subst h;simp
  ·rw[if_neg h];by_cases h':i<=t
   ·have:t - i=(t - (i+1))+1:=by omega
    rw[if_pos (by omega),if_pos h',this];simp
   ·rw[if_neg (by omega),if_neg h']
theorem aa8: ∀(ext:List Box) (j n:Nat),ah (uz j ext) n=if 1000000+j<=n then ext[n - (1000000+j)]? else none
 |[],j,n=>by simp[uz,ah]
 |B::r,j,n=>by
  simp only[uz,ah];rw[aa8 r (j+1) n];by_cases h:1000000+j=n
  ·subst h;simp
  ·rw[if_neg h];by_cases h':1000000+j<=n
   ·have:n - (1000000+j)=(n - (1000000+(j+1)))+1:=by omega
    rw[if_pos (by omega),if_pos h',this];simp
   ·rw[if_neg (by omega),if_neg h']
theorem ahu(ext:List Box):ah (uz 0 ext)=dz [] ext:=by
 funext n;rw[aa8];unfold dz;by_cases h:n<1000000
 ·rw[if_pos h,if_neg (by omega)];rfl
 ·rw[if_neg h,if_pos (by omega)]
def p8(σ:ASt)(ns exts:List Nat):List PV->Option (List PV×List Nat)
 |[]=>some ([],[])
 |u::us=>match a4l σ ns exts u,p8 σ ns exts us with
  |some (v,a),some (vs,b)=>some (v::vs,a++b)
  |_,_=>none
theorem ahg{σ:ASt}{ns exts:List Nat}: ∀{us us':List PV} {b:List Nat},p8 σ ns exts us=some (us',b)->us'.length=us.length/\∀(i:Nat) (u u':PV),us[i]? =some u->us'[i]? =some u'->∃a,a4l σ ns exts u=some (u',a)/\∀n∈a,n∈b
 |[],us',b,h=>by cases h;simp
 |u::us,us',b,h=>by
  simp only[p8]at h
  cases h1:a4l σ ns exts u with
  |none=>rw[h1]at h;cases h
  |some p=>
   cases h2:p8 σ ns exts us with
   |none=>rw[h1,h2]at h;cases h
   |some q=>
    obtain⟨v,a⟩:=p;obtain⟨vs,b'⟩:=q;rw[h1,h2]at h;simp only[Option.some.injEq,Prod.mk.injEq]at h;obtain⟨rfl,rfl⟩:=h;obtain⟨k1,k2⟩:=ahg h2;refine⟨by simp[k1],fun i r r' hr hr'=> ?_⟩
    cases i with
    |zero=>
     simp at hr hr';subst hr hr'
     exact⟨a,h1,fun n hn=>by simp[hn]⟩
    |succ i=>
     obtain⟨c,e1,e2⟩:=k2 i r r' (by simpa using hr) (by simpa using hr');exact⟨c,e1,fun n hn=>by simp[e2 n hn]⟩
def ajs:List PV->PV
 |[u]=>u
 |us=> .tup us
def ut:List Nat->Bool
 |[]=>true
 |n::r=> !r.contains n&&ut r
theorem jw: ∀{l:List Nat},ut l=true->l.Nodup
 |[],_=>List.nodup_nil
 |n::r,h=>by
  simp only[ut,Bool.and_eq_true]at h;exact List.nodup_cons.2 ⟨by simpa using h.1,jw h.2⟩
def qu(ns exts shl:List Nat):Bool:=ns.all (fun n=>decide (n<1000000))&&ut ns&&decide (ns.length<1000000)&&al0 ns shl&&al0 exts shl
def a8c(P:Program)(rs:List ResultVar)(ns exts:List Nat)(r:PV)(nb ext':List Box)(fr:AFr)(σ:ASt):Prop:=
 match anm P fr σ rs with
 |some us=>match uj σ ns,uj σ exts,p8 σ ns exts us with
  |some (nb0,b1),some (e0,b2),some (us',b3)=>qu ns exts (b1++(b2++b3))=true/\nb0=nb/\e0=ext'/\ajs us'=r
  |_,_,_=>False
 |none=>False
def biu(P:Program)(rs:List ResultVar)(ns exts:List Nat)(r:PV)(nb ext':List Box):t7
 | .exit _,_,_=>False
 |_,fr,σ=>a8c P rs ns exts r nb ext' fr σ
theorem amm{P:Program}{fn:Func}{tmps:Array Value}{w:World}{vs:List Value}(h:(fn.results.toList.mapM (bfh tmps)).run P w= .ok vs w):
  (results fn tmps).run P w= .ok (match vs with|[v]=>v|vs=> .tuple vs.toArray) w:=by
 have h1:results fn tmps=(fn.results.mapM (bfh tmps))>>=fun vs=>pure (if h:vs.size=1 then vs[0]else .tuple vs):=by
  unfold results;congr 1
 rw[h1,Array.mapM_eq_mapM_toList];simp only[Sem.run_bind,map_eq_pure_bind,bind_assoc,pure_bind,h,Result.andThen_ok,Sem.run_pure];congr 1
 match vs with
 |[]=>rfl
 |[v]=>rfl
 |v::u::r=>simp
def lifts:List (Nat×Nat×Nat×Nat)->AFr->ASt->AFr×ASt
 |[],fr,σ=>(fr,σ)
 |(slot,n,e,sz)::r,fr,σ=>lifts r ((slot,.os n 0)::fr) (mn σ n (.arr e sz false []))
def pt:List (Nat×Nat×Nat×Nat)->AFr->ASt->Prop
 |[],_,_=>True
 |(slot,n,e,sz)::r,fr,σ=>look fr slot= .nils/\ah σ n=none/\0<sz/\pt r ((slot,.os n 0)::fr) (mn σ n (.arr e sz false []))
theorem Good.lift1{x:Ctx P}{N:Nat}{fr:AFr}{σ:ASt}{a:Act}{hv:Nat->Value}{w:World}(hG:Good x N (look fr) (ah σ) a hv w){slot n e sz:Nat}{sh:Bool}(hs:look fr slot= .nils)(hn:ah σ n=none)(hz:0<sz):
  ∃hv',Good x N (look ((slot,.os n 0)::fr)) (ah (mn σ n (.arr e sz sh []))) a hv' w:=by
 obtain⟨hS,hE⟩:=hG.sim.new (d:=n) (B:= .arr e sz sh []) (hd:= .slice none 0 0) (w':=w) hn rfl rfl rfl (Nat.le_refl _) (fun _ _=>rfl) (fun b hb=>by cases hb)
  (fun E _=>⟨hz,[],⟨by simp,.inl ⟨rfl,rfl⟩⟩,by simp,by simp,fun i y j u hy hu=>by simp at hy⟩)
 refine⟨upd hv n (.slice none 0 0),by rw[ax];exact hS,hG.size,hG.defers,fun t=> ?_⟩;rw[ax];simp only[look];split
 ·rename_i hst;subst hst;have hr:=hG.regs slot;rw[hs]at hr;rw[hr.nils_inv];exact .os ⟨⟨none,0,rfl⟩,.arr e sz sh [],sz,0,aq _ _ _,rfl,Nat.le_refl _,fun _=>(aq _ _ _).symm⟩
 ·exact(hG.regs t).mono hE
theorem Good.lifts{x:Ctx P}{N:Nat}{a:Act}{w:World}: ∀(l:List (Nat×Nat×Nat×Nat)) {fr:AFr} {σ:ASt} {hv:Nat->Value},Good x N (look fr) (ah σ) a hv w->pt l fr σ->
  ∃hv',Good x N (look (Am.lifts l fr σ).1) (ah (Am.lifts l fr σ).2) a hv' w
 |[],_,_,hv,hG,_=>⟨hv,hG⟩
 |(slot,n,e,sz)::r,fr,σ,hv,hG,h=>by
  obtain⟨h1,h2,h3,h4⟩:=h;obtain⟨hv1,hG1⟩:=hG.lift1 (e:=e) (sh:=false) h1 h2 h3;exact Good.lifts r hG1 h4
def bjg(P:Program)(rs:List ResultVar)(ns exts:List Nat)(r:PV)(nb ext':List Box)(fr:AFr)(σ:ASt):Prop:=
 ∃us b1 b2 us' b3,anm P fr σ rs=some us/\uj σ ns=some (nb,b1)/\bjs σ exts ext' b2/\p8 σ ns exts us=some (us',b3)/\qu ns exts (b1++(b2++b3))=true/\ajs us'=r
theorem avp{P:Program}{rs:List ResultVar}{ns exts:List Nat}{r:PV}{nb ext':List Box}{fr:AFr}{σ:ASt}(h:a8c P rs ns exts r nb ext' fr σ):bjg P rs ns exts r nb ext' fr σ:=by
 unfold a8c at h;split at h
 ·rename_i us hus;split at h
  ·rename_i nb0 b1 e0 b2 us' b3 h1 h2 h3;obtain⟨hap,rfl,rfl,rfl⟩:=h;exact⟨us,b1,b2,us',b3,hus,h1,bdn h2,h3,hap,rfl⟩
  ·exact h.elim
 ·exact h.elim
def bgr(P:Program)(rs:List ResultVar)(ns exts0 exts:List Nat)(c m:Nat)(es:List (PV×PV))(r:PV)(nb ext0':List Box)(fr:AFr)(σ:ASt):Prop:=
 match anm P fr σ rs with
 |some us=>match uj σ ns,uj σ exts0,p8 σ ns exts us with
  |some (nb0,b1),some (e0,b2),some (us',b3)=>(ah σ c=some (.cells [.mh m])/\ah σ m=some (.mp es))/\qu ns exts (b1++(b2++b3))=true/\nb0=nb/\e0=ext0'/\ajs us'=r
  |_,_,_=>False
 |none=>False
def aid(P:Program)(rs:List ResultVar)(ns exts0 exts:List Nat)(c m:Nat)(e sz k:Nat)(xs:List (List PV))(r:PV)(nb ext0':List Box)(fr:AFr)(σ:ASt):Prop:=
 match anm P fr σ rs with
 |some us=>match uj σ ns,uj σ exts0,p8 σ ns exts us with
  |some (nb0,b1),some (e0,b2),some (us',b3)=>(ah σ c=some (.cells [.os m k])/\ah σ m=some (.arr e sz false xs))/\qu ns exts (b1++(b2++b3))=true/\nb0=nb/\e0=ext0'/\ajs us'=r
  |_,_,_=>False
 |none=>False
theorem a85{P:Program}{rs:List ResultVar}{ns exts0 exts:List Nat}{c m:Nat}{e sz k:Nat}{xs:List (List PV)}{r:PV}{nb ext0' ext':List Box}{fr:AFr}{σ:ASt}(hE:exts=exts0++[c,m])(hE':ext'=ext0'++[.cells [.os m k],.arr e sz false xs])(h:aid P rs ns exts0 exts c m e sz k xs r nb ext0' fr σ):bjg P rs ns exts r nb ext' fr σ:=by
 unfold aid at h;split at h
 ·rename_i us hus;split at h
  ·rename_i nb0 b1 e0 b2 us' b3 h1 h2 h3;obtain⟨⟨hc,hm⟩,hap,rfl,rfl,rfl⟩:=h;obtain⟨k1,k2⟩:=wb h2;refine⟨us,b1,b2,us',b3,hus,h1,⟨by rw[hE,hE'];simp[k1],fun j n hj=> ?_⟩,h3,hap,rfl⟩
   have hjl:j<exts0.length\/j=exts0.length\/j=exts0.length+1:=by
    have:=(cr.1 hj).1;rw[hE]at this;simp at this;omega
   rcases hjl with hjl|rfl|rfl
   ·rw[hE,List.getElem?_append_left hjl]at hj;obtain⟨B,B',a,e1,e2,e3,e4⟩:=k2 j n hj;exact⟨B,B',a,e1,by rw[hE',List.getElem?_append_left (by omega)];exact e2,.inl e3,e4⟩
   ·rw[hE,List.getElem?_append_right (by omega)]at hj;simp at hj;subst hj;refine⟨_,_,[],hc,by rw[hE',List.getElem?_append_right (by omega),k1];simp,.inr ⟨rfl,rfl,.inl ⟨_,rfl,fun u hu=>⟨m,by rw[hE];simp,.inr ⟨k,by simpa using hu⟩⟩⟩⟩,by simp⟩
   ·rw[hE,List.getElem?_append_right (by omega)]at hj;simp at hj;subst hj;refine⟨_,_,[],hm,by rw[hE',List.getElem?_append_right (by omega),k1];simp,.inl rfl,by simp⟩
  ·exact h.elim
 ·exact h.elim
def bep(P:Program)(rs:List ResultVar)(ns exts0 exts:List Nat)(c m:Nat)(e sz k:Nat)(xs:List (List PV))(r:PV)(nb ext0':List Box):t7
 | .exit _,_,_=>False
 |_,fr,σ=>aid P rs ns exts0 exts c m e sz k xs r nb ext0' fr σ
def bfi(P:Program)(rs:List ResultVar)(exts:List Nat)(r:PV)(nb ext':List Box)(fr:AFr)(σ:ASt):Prop:=
 ∃(l:List (Nat×Nat×Nat×Nat)) (ns:List Nat),pt l fr σ/\bjg P rs ns exts r nb ext' (lifts l fr σ).1 (lifts l fr σ).2
def bcn(P:Program)(rs:List ResultVar)(exts:List Nat)(r:PV)(nb ext':List Box):t7
 | .exit _,_,_=>False
 |_,fr,σ=>bfi P rs exts r nb ext' fr σ
theorem alz{P:Program}(hm:P.follows .mixedOrders=true){k:FuncId}{fn:Func}{c:Code}{N:Nat}{rs:List ResultVar}{args:List PV}{ext:List Box}{r:PV}{nb ext':List Box}(hf:P.funcs[k]? =some fn)(hb:fn.body=some c)
  (hen: ∀as w,(callFunc k as).run P w= .ok (.enter k as) w) (hN:fn.ntmps=N) (hrs:fn.results.toList=rs) (hle:args.length<=N) {exts:List Nat} (hexts:exts=List.range' 1000000 ext'.length) (hel:ext'.length=ext.length)
  (h:W P N c (bcn P rs exts r nb ext') (xp 0 args) (uz 0 ext)):Den P k args ext r nb ext':=by
 refine⟨hen,fun w V hv gc vals hS hl hR=> ?_⟩;refine calls_of_wp hf hb ?_
 have hG:Good (cx (P:=P) w V hv ext gc) N (look (xp 0 args)) (ah (uz 0 ext)) {tmps:=vals.toArray++Array.replicate (fn.ntmps - vals.toArray.size) undef,defers:=[]} hv w:=by
  refine⟨by rw[ahu];exact hS,by simp;omega,rfl,fun t=> ?_⟩;rw[aa6,ahu];simp only[Nat.zero_le,if_true,Nat.sub_zero];by_cases ht:t<args.length
  ·have htv:t<vals.length:=by omega
   have:=hR t _ _ (a8 htv) (a8 ht);rw[aw,a8 ht]
   have e:(vals.toArray++Array.replicate (fn.ntmps - vals.toArray.size) undef).getD t undef=vals[t]:=by
    rw[Array.getD_eq_getD_getElem?,Array.getElem?_append_left (by simpa using htv)];simp[htv]
   rw[e];exact this
  ·rw[aw,List.getElem?_eq_none (by omega)];exact .undef _
 refine wp_mono (h (cx (P:=P) w V hv ext gc) _ hv w hG) fun e a' w' hq=> ?_
 have fin:(∃fr σ hv',bfi P rs exts r nb ext' fr σ/\Good (cx (P:=P) w V hv ext gc) N (look fr) (ah σ) a' hv' w')->
   a'.defers=[]/\∃v,(results fn a'.tmps).run P w'= .ok v w'/\∃v' hv',Ending.returned v= .returned v'/\SimW (cx (P:=P) w V hv ext gc) (dz nb ext') hv' w'/\RV (env (cx (P:=P) w V hv ext gc) (dz nb ext') hv' w') v' r:=by
  rintro⟨fr0,σ0,hv0,⟨l,ns,hl0,hq⟩,hg0⟩;obtain⟨hv',hg⟩:=hg0.lifts l hl0;revert hq hg;generalize (lifts l fr0 σ0).1=fr;generalize (lifts l fr0 σ0).2=σ;intro hq hg;obtain⟨us,b1,b2,us',b3,hus,h1,h2,h3,hap,rfl⟩:=hq;simp only[qu,Bool.and_eq_true,decide_eq_true_eq]at hap;obtain⟨⟨⟨⟨a1,a2⟩,a3⟩,a4⟩,a5⟩:=hap
  obtain⟨hv2,hS2,hR2⟩:=awi (shl:=b1++(b2++b3)) hg.sim h1 h2 hexts (fun n hn=>by
    simp only[cx]at hn
    cases hq:dz [] ext n with
    |none=>rw[hq]at hn;simp at hn
    |some B=>
     rcases eh hq with ⟨_,h3⟩|⟨j,rfl,hj⟩
     ·simp at h3
     ·have:=(cr.1 hj).1;rw[hexts];simp[List.mem_range'_1];omega)
   (fun n hn=>by have:=List.all_eq_true.1 a1 n hn;simpa using this) (jw a2) a3 (fun n hn=>by simp[hn]) (fun n hn=>by simp[hn])
   (fun n hn=>iz a4 hn) (fun n hn=>iz a5 hn)
  subst hrs;obtain⟨vs,f1,f2,f3⟩:=acs hg hus;obtain⟨g1,g2⟩:=ahg h3
  have hall: ∀(i:Nat) (v:Value) (u':PV),vs[i]? =some v->us'[i]? =some u'->RV (env (cx (P:=P) w V hv ext gc) (dz nb ext') hv2 w') v u':=fun i v u' hv0 hu'=>by
   have hi:=(cr.1 hu').1;rw[g1]at hi;obtain⟨a,e1,e2⟩:=g2 i _ u' (a8 hi) hu';exact hR2 v _ u' a (f3 i v _ hv0 (a8 hi)) e1 fun n hn=>by simp[e2 n hn]
  refine⟨hg.defers,_,amm f1,_,hv2,rfl,hS2,?_⟩;have hlen:vs.length=us'.length:=by rw[f2,g1]
  have htup:RV (env (cx (P:=P) w V hv ext gc) (dz nb ext') hv2 w') (.tuple vs.toArray) (.tup us'):=by
   refine .tup (by simpa using hlen) fun i u hu=> ?_;have hi:=(cr.1 hu).1;have:=hall i (vs[i]'(by omega)) u (a8 (by omega)) hu;rw[ja,aw,a8 (by omega)];exact this
  match vs,us',hlen,hall,htup with
  |[],[],_,_,ht=>exact ht
  |[v],[u],_,ha,_=>exact ha 0 v u rfl rfl
  |v::v'::r,u::u'::r',_,_,ht=>exact ht
 cases e with
 |normal=>exact fin hq
 |ret=>exact fin hq
 |exit id=>obtain⟨_,_,_,h,_⟩:=hq;exact h.elim
 |goto l=>exact hq.elim
 |panic c=>exact hq.elim
 |outgrown=>exact hq.elim
theorem bgo{P:Program}(hm:P.follows .mixedOrders=true){k:FuncId}{fn:Func}{c:Code}{N:Nat}{rs:List ResultVar}{args:List PV}{ext:List Box}{r:PV}{nb ext':List Box}(hf:P.funcs[k]? =some fn)(hb:fn.body=some c)
  (hen: ∀as w,(callFunc k as).run P w= .ok (.enter k as) w) (hN:fn.ntmps=N) (hrs:fn.results.toList=rs) (hle:args.length<=N) (hc:gj N c=true) (ns:List Nat) {exts:List Nat} (hexts:exts=List.range' 1000000 ext'.length) (hel:ext'.length=ext.length)
  (h:wv P N c (biu P rs ns exts r nb ext') (xp 0 args) (uz 0 ext)):Den P k args ext r nb ext':=by
 refine alz hm hf hb hen hN hrs hle hexts hel fun x a hv w hG=>wp_mono (gg hm c hc _ _ _ h x a hv w hG) fun e a' w' hq=> ?_;have go: ∀fr σ,a8c P rs ns exts r nb ext' fr σ->bfi P rs exts r nb ext' fr σ:=fun fr σ h=>⟨[],ns,trivial,avp h⟩
 cases e with
 |normal=>obtain⟨fr,σ,hv',h1,h2⟩:=hq;exact⟨fr,σ,hv',go _ _ h1,h2⟩
 |ret=>obtain⟨fr,σ,hv',h1,h2⟩:=hq;exact⟨fr,σ,hv',go _ _ h1,h2⟩
 |exit id=>exact hq
 |goto l=>exact hq
 |panic c=>exact hq
 |outgrown=>exact hq
theorem s8{P:Program}(hm:P.follows .mixedOrders=true){k:FuncId}{fn:Func}{cd:Code}{N:Nat}{rs:List ResultVar}{args:List PV}{ext:List Box}{r:PV}{nb ext':List Box}(hf:P.funcs[k]? =some fn)(hb:fn.body=some cd)
  (hen: ∀as w,(callFunc k as).run P w= .ok (.enter k as) w) (hN:fn.ntmps=N) (hrs:fn.results.toList=rs) (hle:args.length<=N) (hc:gj N cd=true) (ns:List Nat) {el sz kk:Nat} {xs:List (List PV)} (exts0:List Nat) (c m:Nat) (ext0':List Box) {exts:List Nat} (hexts:exts=List.range' 1000000 ext'.length) (hel:ext'.length=ext.length)
  (hE:exts=exts0++[c,m]) (hE':ext'=ext0'++[.cells [.os m kk],.arr el sz false xs])
  (h:wv P N cd (bep P rs ns exts0 exts c m el sz kk xs r nb ext0') (xp 0 args) (uz 0 ext)):Den P k args ext r nb ext':=by
 refine alz hm hf hb hen hN hrs hle hexts hel fun x a hv w hG=>wp_mono (gg hm cd hc _ _ _ h x a hv w hG) fun e a' w' hq=> ?_;have go: ∀fr σ,aid P rs ns exts0 exts c m el sz kk xs r nb ext0' fr σ->bfi P rs exts r nb ext' fr σ:=fun fr σ h=>⟨[],ns,trivial,a85 hE hE' h⟩
 cases e with
 |normal=>obtain⟨fr,σ,hv',h1,h2⟩:=hq;exact⟨fr,σ,hv',go _ _ h1,h2⟩
 |ret=>obtain⟨fr,σ,hv',h1,h2⟩:=hq;exact⟨fr,σ,hv',go _ _ h1,h2⟩
 |exit id=>exact hq
 |goto l=>exact hq
 |panic c=>exact hq
 |outgrown=>exact hq
theorem ak4{P:Program}(hm:P.follows .mixedOrders=true){k:FuncId}{fn:Func}{c:Code}{N:Nat}{rs:List ResultVar}{args:List PV}{ext:List Box}{r:PV}{nb ext':List Box}(hf:P.funcs[k]? =some fn)(hb:fn.body=some c)
  (hen: ∀as w,(callFunc k as).run P w= .ok (.enter k as) w) (hN:fn.ntmps=N) (hrs:fn.results.toList=rs) (hle:args.length<=N) (hc:gj N c=true) {exts:List Nat} (hexts:exts=List.range' 1000000 ext'.length) (hel:ext'.length=ext.length)
  (h:wv P N c (bcn P rs exts r nb ext') (xp 0 args) (uz 0 ext)):Den P k args ext r nb ext':=
 alz hm hf hb hen hN hrs hle hexts hel (gg hm c hc _ _ _ h)
theorem yw{P:Program}{k:FuncId}{bs:List PV}(pre:List PV){ext:List Box}{r:PV}{nb ext':List Box}(h: ∀b,Den P k (pre++ .sn b::bs) ext r nb ext'):Den P k (pre++ .vs []::bs) ext r nb ext':=by
 refine⟨(h true).enter,fun w V hv gc vals hS hl hR=> ?_⟩;have hi:pre.length<vals.length:=by rw[hl];simp
 have hva:=hR pre.length vals[pre.length] (.vs []) (a8 hi) (by simp);obtain⟨a,c,sz,U,q1,_⟩:=hva.vs_inv.vs_inv;refine(h a.isNone).run w V hv gc vals hS (by rw[hl];simp) fun i v u hv0 hu=> ?_;by_cases hia:i=pre.length
 ·subst hia;rw[a8 hi]at hv0
  cases hv0
  simp at hu;subst hu;rw[q1];exact .pure (.sn _ c rfl)
 ·refine hR i v u hv0 ?_;rw[<-hu];rcases Nat.lt_or_gt_of_ne hia with h1|h1
  ·rw[List.getElem?_append_left h1,List.getElem?_append_left h1]
  ·rw[List.getElem?_append_right (by omega),List.getElem?_append_right (by omega)];obtain⟨m,hm⟩: ∃m,i - pre.length=m+1:=⟨i - pre.length - 1,by omega⟩;rw[hm];simp
end Go.Proofs.Am

/- Stepping: rules that reckon a walk. -/
namespace Go.Proofs.Am
open Go Go.RowKit
variable {P:Program}
def bv{α:Type}(a:α)(k:α->Prop):Prop:=k a
def mk{α:Type}(a:α):α:=a
theorem bkn{α:Type}(a:α):mk a=a:=(rfl)
theorem a6z{α:Type}{a b:α}{k:α->Prop}(h:mk a=b):bv a k=bv b k:=by rw[<-h];rfl
theorem bkt{α:Type}(a:α)(k:α->Prop):bv a k=k a:=(rfl)
def kk(K:KT)(u:PV)(δ:ASt)(F:List Nat):Prop:=bv u fun u=>bv δ fun δ=>K u δ F
theorem bjb(K:KT)(u:PV)(δ:ASt)(F:List Nat):kk K u δ F=bv u fun u=>bv δ fun δ=>K u δ F:=(rfl)
def cw(xs:List (List PV))(i:Nat):List PV:=xs.getD i []
def ei(cs:List PV)(i:Nat):PV:=cs.getD i .undef
def el{α:Type} [Inhabited α](l:List α)(i:Nat):α:=l.getD i default
def evO(P:Program)(op:Op)(d:Option Nat)(fr:AFr)(σ:ASt)(K:KT):Prop:=aae P ⟨d,op,0, "", #[],none⟩ (ev fr) σ K
theorem wg(P:Program)(d:Option Nat)(op:Op)(ty:TypeId)(p:String)(af:Array Edge)(g:Option (Nat×Bool))(fr:AFr)(σ:ASt)(K:KT):aae P ⟨d,op,ty,p,af,g⟩ (ev fr) σ K=evO P op d fr σ K:=by
 unfold evO aae
 cases op<;>rfl
theorem avu(s:Nat)(u:PV)(r:AFr)(t:Nat):look ((s,u)::r) t=if s=t then u else look r t:=(rfl)
theorem a6o(t:Nat)(u:PV)(r:AFr):look ((t,u)::r) t=u:=by simp[look]
theorem bhm(fr:AFr)(t:Nat):ev fr (.tmp t)=look fr t:=(rfl)
theorem a7r(fr:AFr)(v:Value):ev fr (.const v)=adl v:=(rfl)
theorem bap(fr:AFr)(f:FuncId):ev fr (.func f)= .fn f []:=(rfl)
theorem a0w(m:Nat)(B:Box)(r:ASt)(n:Nat):ah ((m,B)::r) n=if m=n then some B else ah r n:=(rfl)
theorem a8l(n:Nat):ah [] n=none:=(rfl)
theorem a5p(σ:ASt):aby σ []=σ:=(rfl)
theorem ax5(σ:ASt)(n:Nat)(B:Box)(r:ASt):aby σ ((n,B)::r)=aby (mn σ n B) r:=(rfl)
theorem a5j(n:Nat)(B:Box):mn [] n B=[(n,B)]:=(rfl)
theorem aw7(m:Nat)(C:Box)(r:ASt)(n:Nat)(B:Box):mn ((m,C)::r) n B=if m=n then(n,B)::r else(m,C)::mn r n B:=(rfl)
theorem aw3(b:Bool):adl (.bool b)= .bool b:=(rfl)
theorem a7p(k:IntKind)(n:Int):adl (.int k n)= .int k n:=(rfl)
theorem a7n(s:ByteArray):adl (.string s)= .str s.data.toList:=(rfl)
theorem a0p:adl (.pointer none)= .nilp:=(rfl)
theorem a1j:adl (.slice none 0 0)= .nils:=(rfl)
def nx(P:Program)(all:Array Oper)(r:List Oper)(fr:AFr)(d:Option Nat)(u:PV)(σ δ:ASt)(K:AFr->ASt->Prop):Prop:=mr P all r (aj5 fr d u) (aby σ δ) K
theorem ald(P:Program)(all:Array Oper)(r:List Oper)(fr:AFr)(d:Nat)(u:PV)(σ:ASt)(K:AFr->ASt->Prop):nx P all r fr (some d) u σ [] K=mr P all r ((d,u)::fr) σ K:=(rfl)
theorem ajm(P:Program)(all:Array Oper)(r:List Oper)(fr:AFr)(d:Nat)(u:PV)(σ:ASt)(p:Nat×Box)(δ:ASt)(K:AFr->ASt->Prop):
  nx P all r fr (some d) u σ (p::δ) K=bv (aby σ (p::δ)) fun σ=>mr P all r ((d,u)::fr) σ K:=(rfl)
theorem aik(P:Program)(all:Array Oper)(r:List Oper)(fr:AFr)(u:PV)(σ:ASt)(p:Nat×Box)(δ:ASt)(K:AFr->ASt->Prop):
  nx P all r fr none u σ (p::δ) K=bv (aby σ (p::δ)) fun σ=>mr P all r fr σ K:=(rfl)
theorem awk(P:Program)(all:Array Oper)(fr:AFr)(σ:ASt)(K:AFr->ASt->Prop):mr P all [] fr σ K=K fr σ:=(rfl)
theorem ar0(P:Program)(all:Array Oper)(d:Option Nat)(op:Op)(ty:TypeId)(p:String)(af:Array Edge)(r:List Oper)(fr:AFr)(σ:ASt)(K:AFr->ASt->Prop):
  mr P all (⟨d,op,ty,p,af,none⟩::r) fr σ K=evO P op d fr σ fun u δ _=>nx P all r fr d u σ δ K:=by
 simp only[mr];rw[wg];rfl
def vG(P:Program)(all:Array Oper)(op:Op)(d:Option Nat)(r:List Oper)(fr:AFr)(σ:ASt)(K:AFr->ASt->Prop)(t:Nat)(want:Bool):PV->Prop
 | .bool b=>(b=want->evO P op d ((t,.bool want)::fr) σ fun u δ _=>nx P all r ((t,.bool want)::fr) d u σ δ K)/\(b= !want->nx P all r ((t,.bool (!want))::fr) d (.tup []) σ [] K)
 | .tup []=>nx P all r fr d (.tup []) σ [] K
 |_=>False
theorem auu(P:Program)(all:Array Oper)(d:Option Nat)(op:Op)(ty:TypeId)(p:String)(af:Array Edge)(j:Nat)(want:Bool)(r:List Oper)(fr:AFr)(σ:ASt)(K:AFr->ASt->Prop):
  mr P all (⟨d,op,ty,p,af,some (j,want)⟩::r) fr σ K=bv (jh all j) fun t=>match t with|some t=>bv (look fr t) fun u=>vG P all op d r fr σ K t want u|none=>False:=by
 simp only[mr,bv]
 cases jh all j with
 |none=>rfl
 |some t=>
  simp only
  cases look fr t with
  |tup cs=>cases cs<;>simp only[vG]<;>rfl
  |bool b=>simp only[vG,wg];rfl
  |_=>simp only[vG]
theorem aru(o:Oper)(l:List Oper):jh (List.toArray (o::l)) 0=o.dst:=(rfl)
theorem atq(o:Oper)(l:List Oper)(j:Nat):jh (List.toArray (o::l)) (j+1)=jh (List.toArray l) j:=by simp[jh]
theorem al1(P:Program)(all:Array Oper)(op:Op)(d:Option Nat)(r:List Oper)(fr:AFr)(σ:ASt)(K:AFr->ASt->Prop)(t:Nat)(want b:Bool):vG P all op d r fr σ K t want (.bool b)=
  ((b=want->evO P op d ((t,.bool want)::fr) σ fun u δ _=>nx P all r ((t,.bool want)::fr) d u σ δ K)/\(b= !want->bv (PV.bool (!want)) fun v=>nx P all r ((t,v)::fr) d (.tup []) σ [] K)):=(rfl)
theorem bdy(P:Program)(all:Array Oper)(op:Op)(d:Option Nat)(r:List Oper)(fr:AFr)(σ:ASt)(K:AFr->ASt->Prop)(t:Nat)(want:Bool):vG P all op d r fr σ K t want (.tup [])=nx P all r fr d (.tup []) σ [] K:=(rfl)
def nxD(P:Program)(all:Array Oper)(r:List Oper)(fr:AFr)(d:Option Nat)(u:PV)(σ δ:ASt)(g:Log)(F:List Nat)(K:AFr->ASt->Log->Prop):Prop:=evD P all r (aj5 fr d u) (aby σ δ) ((δ.map (·.1),F)::g) K
theorem aih(P:Program)(all:Array Oper)(r:List Oper)(fr:AFr)(d:Nat)(u:PV)(σ:ASt)(g:Log)(F:List Nat)(K:AFr->ASt->Log->Prop):nxD P all r fr (some d) u σ [] g F K=evD P all r ((d,u)::fr) σ (([],F)::g) K:=(rfl)
theorem acz(P:Program)(all:Array Oper)(r:List Oper)(fr:AFr)(d:Nat)(u:PV)(σ:ASt)(p:Nat×Box)(δ:ASt)(g:Log)(F:List Nat)(K:AFr->ASt->Log->Prop):
  nxD P all r fr (some d) u σ (p::δ) g F K=bv ((p::δ).map (·.1)) fun m=>bv (aby σ (p::δ)) fun σ=>evD P all r ((d,u)::fr) σ ((m,F)::g) K:=(rfl)
theorem ac0(P:Program)(all:Array Oper)(r:List Oper)(fr:AFr)(u:PV)(σ:ASt)(p:Nat×Box)(δ:ASt)(g:Log)(F:List Nat)(K:AFr->ASt->Log->Prop):
  nxD P all r fr none u σ (p::δ) g F K=bv ((p::δ).map (·.1)) fun m=>bv (aby σ (p::δ)) fun σ=>evD P all r fr σ ((m,F)::g) K:=(rfl)
theorem bd2(P:Program)(all:Array Oper)(fr:AFr)(σ:ASt)(g:Log)(K:AFr->ASt->Log->Prop):evD P all [] fr σ g K=K fr σ g:=(rfl)
theorem a8r(P:Program)(all:Array Oper)(d:Option Nat)(op:Op)(ty:TypeId)(p:String)(af:Array Edge)(r:List Oper)(fr:AFr)(σ:ASt)(g:Log)(K:AFr->ASt->Log->Prop):
  evD P all (⟨d,op,ty,p,af,none⟩::r) fr σ g K=(ez op=false/\evO P op d fr σ fun u δ F=>bv F fun F=>nxD P all r fr d u σ δ g F K):=by
 simp only[evD];rw[wg];rfl
def vGD(P:Program)(all:Array Oper)(op:Op)(d:Option Nat)(r:List Oper)(fr:AFr)(σ:ASt)(g:Log)(K:AFr->ASt->Log->Prop)(t:Nat)(want:Bool):PV->Prop
 | .bool b=>(b=want->evO P op d ((t,.bool want)::fr) σ fun u δ F=>bv F fun F=>nxD P all r ((t,.bool want)::fr) d u σ δ g F K)/\(b= !want->evD P all r (aj5 ((t,.bool (!want))::fr) d (.tup [])) σ (([],[])::g) K)
 | .tup []=>nxD P all r fr d (.tup []) σ [] g [] K
 |_=>False
theorem a34(P:Program)(all:Array Oper)(d:Option Nat)(op:Op)(ty:TypeId)(p:String)(af:Array Edge)(j:Nat)(want:Bool)(r:List Oper)(fr:AFr)(σ:ASt)(g:Log)(K:AFr->ASt->Log->Prop):
  evD P all (⟨d,op,ty,p,af,some (j,want)⟩::r) fr σ g K=(ez op=false/\bv (jh all j) fun t=>match t with|some t=>bv (look fr t) fun u=>vGD P all op d r fr σ g K t want u|none=>False):=by
 simp only[evD,bv]
 cases jh all j with
 |none=>rfl
 |some t=>
  simp only
  cases look fr t with
  |tup cs=>cases cs<;>simp only[vGD]<;>rfl
  |bool b=>simp only[vGD,wg];rfl
  |_=>simp only[vGD]
theorem adj(P:Program)(all:Array Oper)(op:Op)(d:Option Nat)(r:List Oper)(fr:AFr)(σ:ASt)(g:Log)(K:AFr->ASt->Log->Prop)(t:Nat)(want b:Bool):vGD P all op d r fr σ g K t want (.bool b)=
  ((b=want->evO P op d ((t,.bool want)::fr) σ fun u δ F=>bv F fun F=>nxD P all r ((t,.bool want)::fr) d u σ δ g F K)/\(b= !want->bv (PV.bool (!want)) fun v=>nxD P all r ((t,v)::fr) d (.tup []) σ [] g [] K)):=(rfl)
theorem a43(P:Program)(all:Array Oper)(op:Op)(d:Option Nat)(r:List Oper)(fr:AFr)(σ:ASt)(g:Log)(K:AFr->ASt->Log->Prop)(t:Nat)(want:Bool):vGD P all op d r fr σ g K t want (.tup [])=nxD P all r fr d (.tup []) σ [] g [] K:=(rfl)
section
variable (P:Program) (d:Option Nat) (fr:AFr) (σ:ASt) (K:KT)
theorem ag2{α:Type} [Inhabited α](f:α->List PV)(l:List α)(i:Nat)(h:i<l.length):cw (l.map f) i=f (el l i):=by
 simp[cw,el,aw,h]
theorem arf(u:PV)(r:List PV):ei (u::r) 0=u:=(rfl)
theorem ata(u:PV)(r:List PV)(i:Nat):ei (u::r) (i+1)=ei r i:=(rfl)
theorem auk(u:List PV)(r:List (List PV)):cw (u::r) 0=u:=(rfl)
theorem as9(u:List PV)(r:List (List PV))(i:Nat):cw (u::r) (i+1)=cw r i:=(rfl)
theorem a8v(x:Operand):evO P (.move x) d fr σ K=kk K (ev fr x) [] []:=(rfl)
theorem ar9(x:Operand):evO P (.assign x) d fr σ K=kk K (ev fr x) [] []:=(rfl)
def bbp(fr:AFr)(a b:Operand)(K:KT):PV->Prop
 | .bool t=>(t=true->kk K (ev fr a) [] [])/\(t=false->kk K (ev fr b) [] [])
 |_=>False
theorem a8z(c a b:Operand):evO P (.pick c a b) d fr σ K=bv (ev fr c) (bbp fr a b K):=by
 simp only[evO,aae,bv]
 cases ev fr c<;>rfl
theorem ab8(a b:Operand)(t:Bool):bbp fr a b K (.bool t)=((t=true->kk K (ev fr a) [] [])/\(t=false->kk K (ev fr b) [] [])):=(rfl)
def bkx(K:KT):PV->Prop
 | .ptr n k=>K (.ptr n k) [] []
 | .el cs=>K (.el cs) [] []
 |_=>False
theorem agb(x:Operand):evO P (.nilCheck x) d fr σ K=bv (ev fr x) (bkx K):=by
 simp only[evO,aae,bv]
 cases ev fr x<;>rfl
theorem a8o(n k:Nat):bkx K (.ptr n k)=K (.ptr n k) [] []:=(rfl)
def bk0(i:Nat)(K:KT):PV->Prop
 | .tup us=>i<us.length/\kk K (ei us i) [] []
 |_=>False
theorem al7(t:Operand)(i:Nat):evO P (.extract t i) d fr σ K=bv (ev fr t) (bk0 i K):=by
 simp only[evO,aae,bv]
 cases ev fr t<;>rfl
theorem a8j(i:Nat)(us:List PV):bk0 i K (.tup us)=(i<us.length/\kk K (ei us i) [] []):=(rfl)
theorem ay6(t:TypeId)(d:Nat):evO P (.alloc t) (some d) fr σ K=bv (ay P t) fun z=>match z with|some zs=>ah σ d=none/\K (.ptr d 0) [(d,.cells zs)] [d]|none=>False:=by
 simp only[evO,aae,bv]
 cases ay P t<;>rfl
theorem bby(t:TypeId)(x:Operand)(d:Nat):evO P (.box t x) (some d) fr σ K=bv (dx (ev fr x)) fun z=>match z with|some us=>ah σ d=none/\K (.ptr d 0) [(d,.cells us)] [d]|none=>False:=by
 simp only[evO,aae,bv]
 cases dx (ev fr x)<;>rfl
def a6p(fr:AFr):List (Nat×Operand)->List (Nat×PV)
 |[]=>[]
 |(i,x)::r=>(i,ev fr x)::a6p fr r
theorem aq7(l:List (Nat×Operand)):(l.map fun p=>(p.1,ev fr p.2))=a6p fr l:=by
 induction l with
 |nil=>rfl
 |cons p r ih=>obtain⟨i,x⟩:=p;simp only[List.map_cons,a6p,ih]
theorem a58:a6p fr []=[]:=(rfl)
theorem ayj(i:Nat)(x:Operand)(r:List (Nat×Operand)):a6p fr ((i,x)::r)=(i,ev fr x)::a6p fr r:=(rfl)
theorem ay0(t:TypeId)(ps:List (Nat×Operand)):evO P (.build t ps.toArray) d fr σ K=bv (xl P t (a6p fr ps)) fun z=>match z with|some cs=>K (.agg cs) [] []|none=>False:=by
 simp only[evO,aae,bv,aq7]
 cases xl P t (a6p fr ps)<;>rfl
theorem aat(t:TypeId)(n:Nat)(ps:List (Nat×Operand)):evO P (.buildSlice t n ps.toArray) d fr σ K=bv (a6p fr ps) fun z=>iy P t n z d σ K:=by
 simp only[evO,aae,bv,aq7]
theorem a6k(t:TypeId)(a:Operand):evO P (.load t a) d fr σ K=bv (ev fr a) fun u=>mj P t σ u K:=(rfl)
theorem aze(t:TypeId)(a v:Operand):evO P (.store t a v) d fr σ K=bv (ev fr a) fun u=>bv (ev fr v) fun v=>me P t σ u v K:=(rfl)
theorem adx(t:TypeId)(x:Operand)(f:Nat):evO P (.fieldAddr t x f) d fr σ K=bv (ev fr x) fun u=>fa P t f σ u K:=(rfl)
theorem adq(t:TypeId)(x i:Operand):evO P (.indexAddr t x i) d fr σ K=bv (ev fr x) fun u=>bv (ev fr i) fun v=>bp P t σ u v K:=(rfl)
theorem a2r(t:TypeId)(x i:Operand):evO P (.index t x i) d fr σ K=bv (ev fr x) fun u=>bv (ev fr i) fun v=>nw P t u v K:=(rfl)
theorem azd(op:BinOp)(t:TypeId)(x y:Operand)(yt:TypeId):evO P (.binOp op t x y yt) d fr σ K=bv (ev fr x) fun u=>bv (ev fr y) fun v=>ga P op t u v fun u=>kk K u [] []:=(rfl)
theorem a8q(op:UnOp)(t:TypeId)(x:Operand):evO P (.unOp op t x) d fr σ K=bv (ev fr x) fun u=>bb8 op u fun u=>kk K u [] []:=(rfl)
theorem alf(s e:TypeId)(x:Operand):evO P (.convert s e x) d fr σ K=bv (ev fr x) fun u=>pw P s e d σ u fun u δ F=>kk K u δ F:=(rfl)
theorem a0t(t:TypeId)(x:Operand)(lo hi mx:Option Operand):evO P (.slice t x lo hi mx) d fr σ K=bv (ev fr x) fun u=>bv (lo.map (ev fr)) fun lo=>bv (hi.map (ev fr)) fun hi=>bv (mx.map (ev fr)) fun mx=>fm P t σ u lo hi mx fun u δ F=>kk K u δ F:=(rfl)
theorem afo(t:TypeId)(l c:Operand):evO P (.makeSlice t l c) d fr σ K=bv (ev fr l) fun u=>bv (ev fr c) fun v=>tv P t d σ u v fun u δ F=>kk K u δ F:=(rfl)
def a9x(fr:AFr):List Operand->List PV
 |[]=>[]
 |x::r=>ev fr x::a9x fr r
theorem aou(l:List Operand):l.map (ev fr)=a9x fr l:=by
 induction l with
 |nil=>rfl
 |cons x r ih=>simp only[List.map_cons,a9x,ih]
theorem a7b:a9x fr []=[]:=(rfl)
theorem avl(x:Operand)(r:List Operand):a9x fr (x::r)=ev fr x::a9x fr r:=(rfl)
theorem ais(f:FuncId)(cap:List Operand):evO P (.makeFunc (.func f) #[] cap.toArray) d fr σ K=bv (a9x fr cap) fun us=>K (.fn f us) [] []:=by
 simp only[evO,aae,bv,aou,bdb]
theorem a6d(f:Operand)(ys:List Operand)(ts:Array TypeId):evO P (.call ⟨.value f,ys.toArray,ts⟩) d fr σ K=bv (ev fr f) fun f=>bv (a9x fr ys) fun us=>yb P f us d σ fun u δ F=>kk K u δ F:=by
 simp only[evO,aae,bv,aou,bjy];rfl
theorem avx(t:TypeId)(cs:List PV):bd0 P t σ (.agg cs) K=(ifT P t=true/\bv (gy σ cs) fun p=>match p with
  |some (us,[])=>K (.ifc t (.agg us)) [] []
  |_=>False):=(rfl)
theorem bdh(y:Operand)(t:TypeId):evO P (.call ⟨.builtin .len, #[y], #[t]⟩) d fr σ K=bv (ev fr y) fun u=>np P t σ u K:=(rfl)
theorem axm(y:Operand)(t:TypeId):evO P (.call ⟨.builtin .clear, #[y], #[t]⟩) d fr σ K=bv (ev fr y) fun u=>au5 P t σ u K:=(rfl)
theorem asw(y z:Operand)(t tx:TypeId):evO P (.call ⟨.builtin .append, #[y,z], #[t,tx]⟩) d fr σ K=bv (ev fr y) fun u=>bv (ev fr z) fun v=>rp P t tx d σ u v fun u δ F=>kk K u δ F:=(rfl)
theorem a4j(y z:Operand)(t tx:TypeId):evO P (.call ⟨.builtin .copy, #[y,z], #[t,tx]⟩) d fr σ K=bv (ev fr y) fun u=>bv (ev fr z) fun v=>abi P t tx σ u v fun u δ F=>kk K u δ F:=(rfl)
theorem bbf(y z:Operand)(ts:Array TypeId):evO P (.call ⟨.builtin .min, #[y,z],ts⟩) d fr σ K=bv (ev fr y) fun u=>bv (ev fr z) fun v=>a9k false u v fun u δ F=>kk K u δ F:=(rfl)
theorem bej(y z:Operand)(ts:Array TypeId):evO P (.call ⟨.builtin .max, #[y,z],ts⟩) d fr σ K=bv (ev fr y) fun u=>bv (ev fr z) fun v=>a9k true u v fun u δ F=>kk K u δ F:=(rfl)
theorem auf(t:TypeId)(n off:Nat):mj P t σ (.ptr n off) K=bv (ldT P t) fun l=>bv (ah σ n) fun B=>match l,B with
  |some none,some (.cells cs)=>off<cs.length/\kk K (ei cs off) [] [n]
  |some (some m),some (.cells cs)=>off+m<=cs.length/\kk K (.agg ((cs.drop off).take m)) [] [n]
  |_,_=>False:=by
 simp only[mj,bv,kk,cw,ei];rcases ldT P t with _|_|m<;>(try rfl)<;>rcases ah σ n with _|B<;>(try rfl)<;>cases B<;>rfl
theorem ax2(t:TypeId)(cs:List PV):mj P t σ (.el cs) K=bv (ldT P t) fun l=>match l with
  |some none=>0<cs.length/\kk K (ei cs 0) [] []
  |some (some m)=>m<=cs.length/\kk K (.agg (cs.take m)) [] []
  |none=>False:=by
 simp only[mj,bv,kk,cw,ei];rcases ldT P t with _|_|m<;>rfl
def au8(n k i off:Nat)(K:KT):Option (Option Nat)->Option Box->Prop
 |some none,some (.arr _ _ _ xs)=>(k=xs.length/\i<k/\off<(cw xs i).length)/\kk K (ei (cw xs i) off) [] [n]
 |some (some m),some (.arr _ _ _ xs)=>(k=xs.length/\i<k/\off+m<=(cw xs i).length)/\kk K (.agg (((cw xs i).drop off).take m)) [] [n]
 |some none,some (.arh _ _ xs)=>(k=xs.length/\i<k/\off<(cw xs i).length)/\kk K (ei (cw xs i) off) [] [n]
 |some (some m),some (.arh _ _ xs)=>(k=xs.length/\i<k/\off+m<=(cw xs i).length)/\kk K (.agg (((cw xs i).drop off).take m)) [] [n]
 |_,_=>False
theorem arz(t:TypeId)(n k i off:Nat):mj P t σ (.oel n k i off) K=bv (ldT P t) fun l=>bv (ah σ n) fun B=>au8 n k i off K l B:=by
 simp only[mj,bv,kk];rcases ldT P t with _|_|m<;>(try rfl)<;>rcases ah σ n with _|B<;>(try rfl)<;>cases B<;>first|rfl|simp only[au8,kk,bv,cw,ei,and_assoc]
theorem a7l(n k i off e sz:Nat)(sh:Bool)(xs:List (List PV)):au8 n k i off K (some none) (some (.arr e sz sh xs))=((k=xs.length/\i<k/\off<(cw xs i).length)/\kk K (ei (cw xs i) off) [] [n]):=(rfl)
theorem az2(n k i off e sz:Nat)(xs:List (List PV)):au8 n k i off K (some none) (some (.arh e sz xs))=((k=xs.length/\i<k/\off<(cw xs i).length)/\kk K (ei (cw xs i) off) [] [n]):=(rfl)
theorem ze(t:TypeId)(n off:Nat)(v:PV):me P t σ (.ptr n off) v K=bv (db P t) fun m=>bv (dx v) fun us=>bv (ah σ n) fun B=>match m,us,B with
  |some m,some us,some (.cells cs)=>(us.length=m/\us.all fu=true/\off+m<=cs.length)/\kk K .undef [(n,.cells (cs.take off++us++cs.drop (off+m)))] [n]
  |_,_,_=>False:=by
 simp only[me,bv,kk,cw,ei];rcases db P t with _|m<;>(try rfl)<;>rcases dx v with _|us<;>(try rfl)<;>rcases ah σ n with _|B<;>(try (simp only[and_false];done))<;>cases B<;>simp only[and_assoc,and_false]
def aj7(σ:ASt)(n k i off:Nat)(K:KT):Option Nat->Option (List PV)->Option Box->Prop
 |some m,some us,some (.arr e sz false xs)=>match gy σ us with
   |some (us',ns)=>(us.length=m/\us.all fu=true/\k=xs.length/\i<k/\off+m<=sz/\n∉ns)/\kk K .undef (dh σ ns++[(n,.arr e sz false (xs.set i ((cw xs i).take off++us'++(cw xs i).drop (off+m))))]) (n::ns)
   |none=>False
 |some m,some us,some (.arh e sz xs)=>(us.length=m/\us.all fu=true/\k=xs.length/\i<k/\off+m<=sz)/\kk K .undef [(n,.arh e sz (xs.set i ((cw xs i).take off++us++(cw xs i).drop (off+m))))] [n]
 |_,_,_=>False
theorem aml(t:TypeId)(n k i off:Nat)(v:PV):me P t σ (.oel n k i off) v K=bv (db P t) fun m=>bv (dx v) fun us=>bv (ah σ n) fun B=>aj7 σ n k i off K m us B:=by
 simp only[me,bv,kk]
 rcases db P t with _|m<;>(try rfl)<;>rcases dx v with _|us<;>(try rfl)<;>rcases ah σ n with _|B<;>(try (simp only[aj7,and_false];done))<;>cases B with
 |cells cs=>simp only[aj7,and_false]
 |arr e sz sh xs=>cases sh<;>simp only[aj7,and_false]<;>rcases gy σ us with _|⟨us',ns⟩<;>simp only[kk,bv,cw,and_assoc,and_false]
 |arh e sz xs=>simp only[aj7,kk,bv,cw,and_assoc]
 |mp es=>simp only[aj7,and_false]
 |it m k d=>simp only[aj7,and_false]
 |si l p=>simp only[aj7,and_false]
 |arq e sz k xs=>simp only[aj7,and_false]
 |dead sz l=>simp only[aj7,and_false]
theorem bfx(n k i off m e sz:Nat)(us:List PV)(xs:List (List PV)):aj7 σ n k i off K (some m) (some us) (some (.arh e sz xs))=((us.length=m/\us.all fu=true/\k=xs.length/\i<k/\off+m<=sz)/\bv (cw xs i) fun c=>bv (xs.set i (c.take off++us++c.drop (off+m))) fun xs'=>kk K .undef [(n,.arh e sz xs')] [n]):=(rfl)
theorem aq9(n k i off m e sz:Nat)(us:List PV)(xs:List (List PV)):aj7 σ n k i off K (some m) (some us) (some (.arr e sz false xs))=bv (gy σ us) fun p=>match p with
   |some (us',ns)=>(us.length=m/\us.all fu=true/\k=xs.length/\i<k/\off+m<=sz/\n∉ns)/\kk K .undef (dh σ ns++[(n,.arr e sz false (xs.set i ((cw xs i).take off++us'++(cw xs i).drop (off+m))))]) (n::ns)
   |none=>False:=by
 simp only[aj7,bv]
theorem a65{α:Type} [Inhabited α](f:α->List PV)(l:List α)(n k i off m e sz:Nat)(us:List PV):aj7 σ n k i off K (some m) (some us) (some (.arr e sz false (l.map f)))=bv (gy σ us) fun p=>match p with
   |some (us',ns)=>(us.length=m/\us.all fu=true/\k=l.length/\i<k/\off+m<=sz/\n∉ns)/\bv (f (el l i)) fun c=>bv ((l.map f).set i (c.take off++us'++c.drop (off+m))) fun xs'=>kk K .undef (dh σ ns++[(n,.arr e sz false xs')]) (n::ns)
   |none=>False:=by
 rw[aq9];simp only[bv];rcases gy σ us with _|⟨us',ns⟩
 ·rfl
 ·simp only[List.length_map,and_assoc];refine propext (and_congr_right fun _=>and_congr_right fun _=>and_congr_right fun h1=>and_congr_right fun h2=> ?_);rw[ag2 f l i (by omega)]
theorem anl(t:TypeId)(f n k:Nat):fa P t f σ (.ptr n k) K=bv (fo P t f) fun o=>match o with|some off=>bv (k+off) fun k=>K (.ptr n k) [] []|none=>False:=(rfl)
theorem atx(t:TypeId)(f:Nat)(cs:List PV):fa P t f σ (.el cs) K=bv (fo P t f) fun o=>match o with|some off=>kk K (.el (cs.drop off)) [] []|none=>False:=(rfl)
theorem ank(t:TypeId)(f n k i o1:Nat):fa P t f σ (.oel n k i o1) K=bv (fo P t f) fun o=>bv (ah σ n) fun B=>match o,B with
  |some off,some (.arr _ _ _ xs)=>(k=xs.length/\i<k)/\bv (o1+off) fun o=>K (.oel n k i o) [] [n]
  |some off,some (.arh _ _ xs)=>(k=xs.length/\i<k)/\bv (o1+off) fun o=>K (.oel n k i o) [] [n]
  |_,_=>False:=by
 simp only[fa,bv];rcases fo P t f with _|off<;>(try rfl)<;>rcases ah σ n with _|B<;>(try rfl)<;>cases B<;>first|rfl|simp only[and_assoc]
theorem aq4(t:TypeId)(xs:List (List PV))(kd:IntKind)(i:Int):bp P t σ (.vs xs) (.int kd i) K=bv (slT P t) fun s=>match s with
  |some (_,sz,_)=>(0<=i/\i<xs.length)/\(cw xs i.toNat).length=sz/\kk K (.el (cw xs i.toNat)) [] []
  |none=>False:=by
 simp only[bp,bv,kk,cw,ei];rcases slT P t with _|⟨e,sz,b⟩<;>first|rfl|simp only[and_assoc]
theorem a42(t:TypeId)(n m:Nat)(kd:IntKind)(i:Int):bp P t σ (.os n m) (.int kd i) K=bv (slT P t) fun s=>bv (ah σ n) fun B=>match s,B with
  |some (_,sz,_),some (.arr _ sz' _ xs)=>(sz'=sz/\m=xs.length/\0<=i/\i<xs.length)/\kk K (.oel n m i.toNat 0) [] [n]
  |some (_,sz,_),some (.arh _ sz' xs)=>(sz'=sz/\m=xs.length/\0<=i/\i<xs.length)/\kk K (.oel n m i.toNat 0) [] [n]
  |_,_=>False:=by
 simp only[bp,bv,kk,cw,ei];rcases slT P t with _|⟨e,sz,b⟩<;>(try rfl)<;>rcases ah σ n with _|B<;>(try rfl)<;>cases B<;>first|rfl|simp only[and_assoc]
theorem a2i(t:TypeId)(n m a:Nat)(kd:IntKind)(i:Int):bp P t σ (.osl n m a) (.int kd i) K=bv (slT P t) fun s=>bv (ah σ n) fun B=>match s,B with
  |some (_,sz,_),some (.arh _ sz' xs)=>(sz'=sz/\m=xs.length/\0<=i/\a+i<xs.length)/\kk K (.oel n m (a+i.toNat) 0) [] [n]
  |_,_=>False:=by
 simp only[bp,bv,kk,cw,ei];rcases slT P t with _|⟨e,sz,b⟩<;>(try rfl)<;>rcases ah σ n with _|B<;>(try rfl)<;>cases B<;>first|rfl|simp only[and_assoc]
theorem ayk(t:TypeId)(n m:Nat)(kd:IntKind)(i:Int):bp P t σ (.ptr n m) (.int kd i) K=bv (arT P t) fun s=>match s with
  |some (len,sz)=>(0<=i/\i<len)/\kk K (.ptr n (m+i.toNat*sz)) [] []
  |none=>False:=by
 simp only[bp,bv,kk,cw,ei];rcases arT P t with _|⟨len,sz⟩<;>first|rfl|simp only[and_assoc]
theorem alp(t:TypeId)(cs:List PV)(kd:IntKind)(n:Int):nw P t (.agg cs) (.int kd n) K=bv (uy P t) fun s=>match s with
  |some (len,e)=>bv (kc P e) fun r=>bv (db P e) fun z=>(r=some false/\z=some 1)/\(0<=n/\n<len/\n<cs.length)/\kk K (ei cs n.toNat) [] []
  |none=>False:=by
 simp only[nw,bv,kk,cw,ei]
 cases h:uy P t with
 |none=>simp
 |some p=>
  obtain⟨len,e⟩:=p;apply propext;constructor
  ·rintro⟨l,e',h1,h2,h3,h4,h5,h6,h7⟩
   cases h1
   exact⟨⟨h2,h3⟩,⟨h4,h5,h6⟩,h7⟩
  ·rintro⟨⟨h2,h3⟩,⟨h4,h5,h6⟩,h7⟩;exact⟨len,e,rfl,h2,h3,h4,h5,h6,h7⟩
theorem amx(t:TypeId)(l:List UInt8)(kd:IntKind)(n:Int):nw P t (.str l) (.int kd n) K=bv (fw P t) fun s=>s=true/\(0<=n/\n<l.length)/\kk K (.int .u8 ((l.getD n.toNat 0).toNat:Int)) [] []:=by
 simp only[nw,bv,kk,and_assoc]
theorem ayg(t:TypeId)(l:List UInt8):sb P t σ (.str l) K=bv (fw P t) fun s=>s=true/\kk K (.int .i64 l.length) [] []:=(rfl)
theorem a4k(t:TypeId)(xs:List (List PV)):sb P t σ (.vs xs) K=bv (av P t) fun s=>s=true/\kk K (.int .i64 xs.length) [] []:=(rfl)
theorem a73(t:TypeId)(n k:Nat):sb P t σ (.os n k) K=bv (ah σ n) fun B=>bv (av P t) fun s=>match B with
  |some (.arr _ _ _ xs)=>(k=xs.length/\s=true)/\kk K (.int .i64 k) [] [n]
  |some (.arh _ _ xs)=>(k=xs.length/\s=true)/\kk K (.int .i64 k) [] [n]
  |_=>False:=by
 simp only[sb,bv,kk,cw,ei];rcases ah σ n with _|B<;>(try rfl)<;>cases B<;>first|rfl|simp only[and_assoc]
theorem axz(t:TypeId)(n k i:Nat):sb P t σ (.osl n k i) K=bv (av P t) fun s=>s=true/\kk K (.int .i64 ((k - i:Nat):Int)) [] []:=(rfl)
theorem alo(s e:TypeId)(k:IntKind)(n:Int):pw P s e d σ (.int k n) K=qv P s e σ (.int k n) K:=(rfl)
theorem asy(s e:TypeId)(n k:Nat):pw P s e d σ (.os n k) K=qv P s e σ (.os n k) K:=(rfl)
def bkv(d e:Nat)(l:List UInt8)(K:KT):Prop:=kk K (.os d l.length) [(d,.arr e 1 false (bm l))] [d]
theorem ak3(s e:TypeId)(l:List UInt8)(d:Nat):pw P s e (some d) σ (.str l) K=bv (fw P e) fun q=>bv (jb P s) fun z=>bv (fw P s) fun p=>bv (jr P e) fun y=>bv (bq P e) fun el=>if q=true then z=true/\K (.str l) [] []else match el with
  |some t=>p=true/\y=true/\bv (ah σ d) (fun B=>B=none)/\l.length<=140737488355328/\bkv d t l K
  |none=>False:=(rfl)
theorem auy(s e:TypeId)(k:IntKind)(n:Int):qv P s e σ (.int k n) K=bv (n8 P e) fun q=>bv (jb P s) fun z=>match q with|some k'=>z=true/\K (.int k' (k'.wrap n)) [] []|none=>False:=(rfl)
theorem aw4(s e:TypeId)(n k:Nat):qv P s e σ (.os n k) K=bv (ah σ n) fun B=>bv (jr P s) fun q=>bv (fw P e) fun p=>match B with
  |some (.arr _ _ _ xs)=>(k=xs.length/\q=true/\p=true)/\∃l,xs=bm l/\K (.str l) [] [n]
  |_=>False:=by
 simp only[qv,bv];rcases ah σ n with _|B<;>(try rfl)<;>cases B<;>first|rfl|simp only[and_assoc]
theorem ayz(t:TypeId)(n:Nat):np P t σ (.mh n) K=bv (ah σ n) fun B=>bv (akb P t) fun m=>match B,m with
  |some (.mp es),some _=>kk K (.int .i64 es.length) [] [n]
  |_,_=>False:=(rfl)
theorem ato(t:TypeId)(l:List UInt8):np P t σ (.str l) K=sb P t σ (.str l) K:=(rfl)
theorem ayn(t:TypeId)(xs:List (List PV)):np P t σ (.vs xs) K=sb P t σ (.vs xs) K:=(rfl)
theorem ay4(t:TypeId)(n k:Nat):np P t σ (.os n k) K=sb P t σ (.os n k) K:=(rfl)
def bgh(ok:Bool)(n:Nat)(q:PV)(K:KT):Option Box->Option (TypeId×TypeDesc×TypeId)->(TypeId->Option PV)->Prop
 |some (.mp es),some (_,dk,e),zv=>bv (n7 dk q) fun b=>bv (ma q es 0) fun r=>bv (zv e) fun z=>match r,z with
  |some r,some z=>b=true/\kk K (ba5 es z ok r) [] [n]
  |_,_=>False
 |_,_,_=>False
theorem atl(t:TypeId)(x i:Operand)(ok:Bool):evO P (.lookup t x i ok) d fr σ K=bv (ev fr x) fun u=>bv (ev fr i) fun q=>abl P t ok σ u q K:=(rfl)
theorem azo(t:TypeId)(ok:Bool)(n:Nat)(q:PV):abl P t ok σ (.mh n) q K=bv (ah σ n) fun B=>bv (akb P t) fun m=>bgh ok n q K B m (au0 P):=by
 simp only[abl,bv,kk];rcases ah σ n with _|B<;>(try rfl)<;>cases B<;>(try rfl)<;>rcases akb P t with _|⟨k,dk,e⟩<;>(try rfl)
theorem a3x(ok:Bool)(n:Nat)(q:PV)(es:List (PV×PV))(k e:TypeId)(dk:TypeDesc)(zv:TypeId->Option PV):bgh ok n q K (some (.mp es)) (some (k,dk,e)) zv=bv (n7 dk q) fun b=>bv (ma q es 0) fun r=>bv (zv e) fun z=>match r,z with
  |some r,some z=>b=true/\kk K (ba5 es z ok r) [] [n]
  |_,_=>False:=(rfl)
def bk1(n:Nat)(q v:PV)(K:KT):Option Box->Option (TypeId×TypeDesc×TypeId)->Prop
 |some (.mp es),some (_,dk,_)=>bv (n7 dk q) fun b=>bv (ma q es 0) fun r=>match r with
  |some r=>b=true/\bv (ap7 es q v r) fun es'=>kk K .undef [(n,.mp es')] [n]
  |_=>False
 |_,_=>False
theorem adg(t:TypeId)(x i v:Operand):evO P (.mapUpdate t x i v) d fr σ K=bv (ev fr x) fun u=>bv (ev fr i) fun q=>bv (ev fr v) fun v=>alt P t σ u q v K:=(rfl)
theorem a8x(t:TypeId)(n:Nat)(q v:PV):alt P t σ (.mh n) q v K=bv (ah σ n) fun B=>bv (akb P t) fun m=>bk1 n q v K B m:=by
 simp only[alt,bv,kk];rcases ah σ n with _|B<;>(try rfl)<;>cases B<;>(try rfl)<;>rcases akb P t with _|⟨k,dk,e⟩<;>(try rfl)
theorem bc2(n:Nat)(q v:PV)(es:List (PV×PV))(k e:TypeId)(dk:TypeDesc):bk1 n q v K (some (.mp es)) (some (k,dk,e))=bv (n7 dk q) fun b=>bv (ma q es 0) fun r=>match r with
  |some r=>b=true/\bv (ap7 es q v r) fun es'=>kk K .undef [(n,.mp es')] [n]
  |_=>False:=(rfl)
theorem alb(t:TypeId)(d:Nat):evO P (.makeMap t none) (some d) fr σ K=(bv (ah σ d) (fun B=>B=none)/\K (.mh d) [(d,.mp [])] [d]):=(rfl)
theorem axr(t:TypeId)(x:Operand)(d:Nat):evO P (.range t x) (some d) fr σ K=bv (ev fr x) fun u=>azm P t (some d) σ u K:=(rfl)
theorem ayh(x:Operand):evO P (.next x true) d fr σ K=bv (ev fr x) fun u=>zy σ u K:=(rfl)
def bk5(l:List UInt8)(pos n:Nat)(r:Nat×Nat)(K:KT):Prop:=kk K (.tup [.bool true,.int .i64 pos,.int .i32 r.1]) [(n,.si l (pos+r.2))] [n]
theorem ba7(l:List UInt8)(pos n a b:Nat)(K:KT):bk5 l pos n (a,b) K=kk K (.tup [.bool true,.int .i64 pos,.int .i32 a]) [(n,.si l (pos+b))] [n]:=(rfl)
theorem aue(n:Nat):zy σ (.mh n) K=bv (ah σ n) fun B=>match B with
  |some (.si l pos)=>(pos<l.length->bv (a1u l pos) fun r=>bk5 l pos n r K)/\(¬pos<l.length->K (.tup [.bool false]) [] [n])
  |_=>False:=(rfl)
theorem a0d(t:TypeId)(l:List UInt8)(d:Nat):azm P t (some d) σ (.str l) K=(fw P t=true/\bv (ah σ d) (fun B=>B=none)/\K (.mh d) [(d,.si l 0)] [d]):=(rfl)
end
end Go.Proofs.Am
