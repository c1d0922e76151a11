/- AmS. -/
import Derived.Test.YtloaichcpoboeaaGreatDoorAmR
set_option linter.unusedSimpArgs false
set_option linter.unusedVariables false
namespace Go.Proofs.Am
open Go Go.RowKit
variable {P:Program}
def xt:Nat→List PV→AFr
 |_,[]=>[]
 |i,u::r=>(i,u)::xt (i+1) r
def wu:Nat→List Box→ASt
 |_,[]=>[]
 |j,B::r=>(1000000+j,B)::wu (j+1) r
theorem yn: ∀(args:List PV) (i t:Nat),look (xt i args) t=if i≤t then args.getD (t - i) .undef else .undef
 |[],i,t=>by simp[xt,look]
 |u::r,i,t=>by
  simp only[xt,look]
  rw[yn r (i+1) t]
  by_cases h:i=t
  ·subst h;simp
  ·rw[if_neg h]
   by_cases h':i≤t
   ·have:t - i=(t - (i+1))+1:=by omega
    rw[if_pos (by omega),if_pos h',this]
    simp
   ·rw[if_neg (by omega),if_neg h']
theorem zq: ∀(ext:List Box) (j n:Nat),ac (wu j ext) n=if 1000000+j≤n then ext[n - (1000000+j)]? else none
 |[],j,n=>by simp[wu,ac]
 |B::r,j,n=>by
  simp only[wu,ac]
  rw[zq r (j+1) n]
  by_cases h:1000000+j=n
  ·subst h;simp
  ·rw[if_neg h]
   by_cases h':1000000+j≤n
   ·have:n - (1000000+j)=(n - (1000000+(j+1)))+1:=by omega
    rw[if_pos (by omega),if_pos h',this]
    simp
   ·rw[if_neg (by omega),if_neg h']
theorem aes(ext:List Box):ac (wu 0 ext)=db [] ext:=by
 funext n
 rw[zq]
 unfold db
 by_cases h:n<1000000
 ·rw[if_pos h,if_neg (by omega)];rfl
 ·rw[if_neg h,if_pos (by omega)]
def n8(σ:ASt)(ns exts:List Nat):List PV→Option (List PV×List Nat)
 |[]=>some ([],[])
 |u::us=>match ay2 σ ns exts u,n8 σ ns exts us with
  |some (v,a),some (vs,b)=>some (v::vs,a++b)
  |_,_=>none
theorem agy{σ:ASt}{ns exts:List Nat}: ∀{us us':List PV} {b:List Nat},n8 σ ns exts us=some (us',b)→us'.length=us.length∧∀(i:Nat) (u u':PV),us[i]? =some u→us'[i]? =some u'→∃a,ay2 σ ns exts u=some (u',a)∧∀n∈a,n∈b
 |[],us',b,h=>by cases h;simp
 |u::us,us',b,h=>by
  simp only[n8]at h
  cases h1:ay2 σ ns exts u with
  |none=>rw[h1]at h;cases h
  |some p=>
   cases h2:n8 σ ns exts us with
   |none=>rw[h1,h2]at h;cases h
   |some q=>
    obtain⟨v,a⟩:=p
    obtain⟨vs,b'⟩:=q
    rw[h1,h2]at h
    simp only[Option.some.injEq,Prod.mk.injEq]at h
    obtain⟨rfl,rfl⟩:=h
    obtain⟨k1,k2⟩:=agy h2
    refine⟨by simp[k1],fun i r r' hr hr'=> ?_⟩
    cases i with
    |zero=>
     simp at hr hr'
     subst hr hr'
     exact⟨a,h1,fun n hn=>by simp[hn]⟩
    |succ i=>
     obtain⟨c,e1,e2⟩:=k2 i r r' (by simpa using hr) (by simpa using hr')
     exact⟨c,e1,fun n hn=>by simp[e2 n hn]⟩
def agb:List PV→PV
 |[u]=>u
 |us=> .tup us
def sv:List Nat→Bool
 |[]=>true
 |n::r=> !r.contains n&&sv r
theorem jg: ∀{l:List Nat},sv l=true→l.Nodup
 |[],_=>List.nodup_nil
 |n::r,h=>by
  simp only[sv,Bool.and_eq_true]at h
  exact List.nodup_cons.2 ⟨by simpa using h.1,jg h.2⟩
def oy(ns exts shl:List Nat):Bool:=ns.all (fun n=>decide (n<1000000))&&sv ns&&decide (ns.length<1000000)&&aht ns shl&&aht exts shl
def azx(P:Program)(rs:List ResultVar)(ns exts:List Nat)(r:PV)(nb ext':List Box)(fr:AFr)(σ:ASt):Prop:=
 match ajx P fr σ rs with
 |some us=>match r6 σ ns,r6 σ exts,n8 σ ns exts us with
  |some (nb0,b1),some (e0,b2),some (us',b3)=>oy ns exts (b1++(b2++b3))=true∧nb0=nb∧e0=ext'∧agb us'=r
  |_,_,_=>False
 |none=>False
def bdf(P:Program)(rs:List ResultVar)(ns exts:List Nat)(r:PV)(nb ext':List Box):rp
 | .exit _,_,_=>False
 |_,fr,σ=>azx P rs ns exts r nb ext' fr σ
theorem ahv{P:Program}{fn:Func}{tmps:Array Value}{w:World}{vs:List Value}(h:(fn.results.toList.mapM (a9b tmps)).run P w= .ok vs w):
  (results fn tmps).run P w= .ok (match vs with|[v]=>v|vs=> .tuple vs.toArray) w:=by
 have h1:results fn tmps=(fn.results.mapM (a9b tmps))>>=fun vs=>pure (if h:vs.size=1 then vs[0]else .tuple vs):=by
  unfold results
  congr 1
 rw[h1,Array.mapM_eq_mapM_toList]
 simp only[Sem.run_bind,map_eq_pure_bind,bind_assoc,pure_bind,h,Result.andThen_ok,Sem.run_pure]
 congr 1
 match vs with
 |[]=>rfl
 |[v]=>rfl
 |v::u::r=>simp
def lifts:List (Nat×Nat×Nat×Nat)→AFr→ASt→AFr×ASt
 |[],fr,σ=>(fr,σ)
 |(slot,n,e,sz)::r,fr,σ=>lifts r ((slot,.os n 0)::fr) (ln σ n (.arr e sz false []))
def oe:List (Nat×Nat×Nat×Nat)→AFr→ASt→Prop
 |[],_,_=>True
 |(slot,n,e,sz)::r,fr,σ=>look fr slot= .nils∧ac σ n=none∧0<sz∧oe r ((slot,.os n 0)::fr) (ln σ n (.arr e sz false []))
theorem Good.lift1{x:Ctx P}{N:Nat}{fr:AFr}{σ:ASt}{a:Act}{hv:Nat→Value}{w:World}(hG:Good x N (look fr) (ac σ) a hv w){slot n e sz:Nat}{sh:Bool}(hs:look fr slot= .nils)(hn:ac σ n=none)(hz:0<sz):
  ∃hv',Good x N (look ((slot,.os n 0)::fr)) (ac (ln σ n (.arr e sz sh []))) a hv' w:=by
 obtain⟨hS,hE⟩:=hG.sim.new (d:=n) (B:= .arr e sz sh []) (hd:= .slice none 0 0) (w':=w) hn rfl rfl rfl (Nat.le_refl _) (fun _ _=>rfl) (fun b hb=>by cases hb)
  (fun E _=>⟨hz,[],⟨by simp,.inl ⟨rfl,rfl⟩⟩,by simp,by simp,fun i y j u hy hu=>by simp at hy⟩)
 refine⟨upd hv n (.slice none 0 0),by rw[ar];exact hS,hG.size,hG.defers,fun t=> ?_⟩
 rw[ar]
 simp only[look]
 split
 ·rename_i hst
  subst hst
  have hr:=hG.regs slot
  rw[hs]at hr
  rw[hr.nils_inv]
  exact .os ⟨⟨none,0,rfl⟩,.arr e sz sh [],sz,0,ak _ _ _,rfl,Nat.le_refl _,fun _=>(ak _ _ _).symm⟩
 ·exact(hG.regs t).mono hE
theorem Good.lifts{x:Ctx P}{N:Nat}{a:Act}{w:World}: ∀(l:List (Nat×Nat×Nat×Nat)) {fr:AFr} {σ:ASt} {hv:Nat→Value},Good x N (look fr) (ac σ) a hv w→oe l fr σ→
  ∃hv',Good x N (look (Am.lifts l fr σ).1) (ac (Am.lifts l fr σ).2) a hv' w
 |[],_,_,hv,hG,_=>⟨hv,hG⟩
 |(slot,n,e,sz)::r,fr,σ,hv,hG,h=>by
  obtain⟨h1,h2,h3,h4⟩:=h
  obtain⟨hv1,hG1⟩:=hG.lift1 (e:=e) (sh:=false) h1 h2 h3
  exact Good.lifts r hG1 h4
def bcx(P:Program)(rs:List ResultVar)(ns exts:List Nat)(r:PV)(nb ext':List Box)(fr:AFr)(σ:ASt):Prop:=
 ∃us b1 b2 us' b3,ajx P fr σ rs=some us∧r6 σ ns=some (nb,b1)∧bc6 σ exts ext' b2∧n8 σ ns exts us=some (us',b3)∧oy ns exts (b1++(b2++b3))=true∧agb us'=r
theorem axt{P:Program}{rs:List ResultVar}{ns exts:List Nat}{r:PV}{nb ext':List Box}{fr:AFr}{σ:ASt}(h:azx P rs ns exts r nb ext' fr σ):bcx P rs ns exts r nb ext' fr σ:=by
 unfold azx at h
 split at h
 ·rename_i us hus
  split at h
  ·rename_i nb0 b1 e0 b2 us' b3 h1 h2 h3
   obtain⟨hap,rfl,rfl,rfl⟩:=h
   exact⟨us,b1,b2,us',b3,hus,h1,a8i h2,h3,hap,rfl⟩
  ·exact h.elim
 ·exact h.elim
def baf(P:Program)(rs:List ResultVar)(ns exts0 exts:List Nat)(c m:Nat)(es:List (PV×PV))(r:PV)(nb ext0':List Box)(fr:AFr)(σ:ASt):Prop:=
 match ajx P fr σ rs with
 |some us=>match r6 σ ns,r6 σ exts0,n8 σ ns exts us with
  |some (nb0,b1),some (e0,b2),some (us',b3)=>(ac σ c=some (.cells [.mh m])∧ac σ m=some (.mp es))∧oy ns exts (b1++(b2++b3))=true∧nb0=nb∧e0=ext0'∧agb us'=r
  |_,_,_=>False
 |none=>False
def ael(P:Program)(rs:List ResultVar)(ns exts0 exts:List Nat)(c m:Nat)(e sz k:Nat)(xs:List (List PV))(r:PV)(nb ext0':List Box)(fr:AFr)(σ:ASt):Prop:=
 match ajx P fr σ rs with
 |some us=>match r6 σ ns,r6 σ exts0,n8 σ ns exts us with
  |some (nb0,b1),some (e0,b2),some (us',b3)=>(ac σ c=some (.cells [.os m k])∧ac σ m=some (.arr e sz false xs))∧oy ns exts (b1++(b2++b3))=true∧nb0=nb∧e0=ext0'∧agb us'=r
  |_,_,_=>False
 |none=>False
theorem a08{P:Program}{rs:List ResultVar}{ns exts0 exts:List Nat}{c m:Nat}{e sz k:Nat}{xs:List (List PV)}{r:PV}{nb ext0' ext':List Box}{fr:AFr}{σ:ASt}(hE:exts=exts0++[c,m])(hE':ext'=ext0'++[.cells [.os m k],.arr e sz false xs])(h:ael P rs ns exts0 exts c m e sz k xs r nb ext0' fr σ):bcx P rs ns exts r nb ext' fr σ:=by
 unfold ael at h
 split at h
 ·rename_i us hus
  split at h
  ·rename_i nb0 b1 e0 b2 us' b3 h1 h2 h3
   obtain⟨⟨hc,hm⟩,hap,rfl,rfl,rfl⟩:=h
   obtain⟨k1,k2⟩:=ue h2
   refine⟨us,b1,b2,us',b3,hus,h1,⟨by rw[hE,hE'];simp[k1],fun j n hj=> ?_⟩,h3,hap,rfl⟩
   have hjl:j<exts0.length∨j=exts0.length∨j=exts0.length+1:=by
    have:=(List.getElem?_eq_some_iff.1 hj).1
    rw[hE]at this
    simp at this
    omega
   rcases hjl with hjl|rfl|rfl
   ·rw[hE,List.getElem?_append_left hjl]at hj
    obtain⟨B,B',a,e1,e2,e3,e4⟩:=k2 j n hj
    exact⟨B,B',a,e1,by rw[hE',List.getElem?_append_left (by omega)];exact e2,.inl e3,e4⟩
   ·rw[hE,List.getElem?_append_right (by omega)]at hj
    simp at hj
    subst hj
    refine⟨_,_,[],hc,by rw[hE',List.getElem?_append_right (by omega),k1];simp,.inr ⟨rfl,rfl,.inl ⟨_,rfl,fun u hu=>⟨m,by rw[hE];simp,.inr ⟨k,by simpa using hu⟩⟩⟩⟩,by simp⟩
   ·rw[hE,List.getElem?_append_right (by omega)]at hj
    simp at hj
    subst hj
    refine⟨_,_,[],hm,by rw[hE',List.getElem?_append_right (by omega),k1];simp,.inl rfl,by simp⟩
  ·exact h.elim
 ·exact h.elim
def a8l(P:Program)(rs:List ResultVar)(ns exts0 exts:List Nat)(c m:Nat)(e sz k:Nat)(xs:List (List PV))(r:PV)(nb ext0':List Box):rp
 | .exit _,_,_=>False
 |_,fr,σ=>ael P rs ns exts0 exts c m e sz k xs r nb ext0' fr σ
def a88(P:Program)(rs:List ResultVar)(exts:List Nat)(r:PV)(nb ext':List Box)(fr:AFr)(σ:ASt):Prop:=
 ∃(l:List (Nat×Nat×Nat×Nat)) (ns:List Nat),oe l fr σ∧bcx P rs ns exts r nb ext' (lifts l fr σ).1 (lifts l fr σ).2
def a5j(P:Program)(rs:List ResultVar)(exts:List Nat)(r:PV)(nb ext':List Box):rp
 | .exit _,_,_=>False
 |_,fr,σ=>a88 P rs exts r nb ext' fr σ
theorem ajj{P:Program}(hm:P.follows .mixedOrders=true){k:FuncId}{fn:Func}{c:Code}{N:Nat}{rs:List ResultVar}{args:List PV}{ext:List Box}{r:PV}{nb ext':List Box}(hf:P.funcs[k]? =some fn)(hb:fn.body=some c)
  (hen: ∀as w,(callFunc k as).run P w= .ok (.enter k as) w) (hN:fn.ntmps=N) (hrs:fn.results.toList=rs) (hle:args.length≤N) {exts:List Nat} (hexts:exts=List.range' 1000000 ext'.length) (hel:ext'.length=ext.length)
  (h:W P N c (a5j P rs exts r nb ext') (xt 0 args) (wu 0 ext)):Den P k args ext r nb ext':=by
 refine⟨hen,fun w V hv gc vals hS hl hR=> ?_⟩
 refine calls_of_wp hf hb ?_
 have hG:Good (cx (P:=P) w V hv ext gc) N (look (xt 0 args)) (ac (wu 0 ext)) {tmps:=vals.toArray++Array.replicate (fn.ntmps - vals.toArray.size) undef,defers:=[]} hv w:=by
  refine⟨by rw[aes];exact hS,by simp;omega,rfl,fun t=> ?_⟩
  rw[yn,aes]
  simp only[Nat.zero_le,if_true,Nat.sub_zero]
  by_cases ht:t<args.length
  ·have htv:t<vals.length:=by omega
   have:=hR t _ _ (List.getElem?_eq_getElem htv) (List.getElem?_eq_getElem ht)
   rw[List.getD_eq_getElem?_getD,List.getElem?_eq_getElem ht]
   have e:(vals.toArray++Array.replicate (fn.ntmps - vals.toArray.size) undef).getD t undef=vals[t]:=by
    rw[Array.getD_eq_getD_getElem?,Array.getElem?_append_left (by simpa using htv)]
    simp[htv]
   rw[e]
   exact this
  ·rw[List.getD_eq_getElem?_getD,List.getElem?_eq_none (by omega)]
   exact .undef _
 refine wp_mono (h (cx (P:=P) w V hv ext gc) _ hv w hG) fun e a' w' hq=> ?_
 have fin:(∃fr σ hv',a88 P rs exts r nb ext' fr σ∧Good (cx (P:=P) w V hv ext gc) N (look fr) (ac σ) a' hv' w')→
   a'.defers=[]∧∃v,(results fn a'.tmps).run P w'= .ok v w'∧∃v' hv',Ending.returned v= .returned v'∧SimW (cx (P:=P) w V hv ext gc) (db nb ext') hv' w'∧RV (env (cx (P:=P) w V hv ext gc) (db nb ext') hv' w') v' r:=by
  rintro⟨fr0,σ0,hv0,⟨l,ns,hl0,hq⟩,hg0⟩
  obtain⟨hv',hg⟩:=hg0.lifts l hl0
  revert hq hg
  generalize (lifts l fr0 σ0).1=fr
  generalize (lifts l fr0 σ0).2=σ
  intro hq hg
  obtain⟨us,b1,b2,us',b3,hus,h1,h2,h3,hap,rfl⟩:=hq
  simp only[oy,Bool.and_eq_true,decide_eq_true_eq]at hap
  obtain⟨⟨⟨⟨a1,a2⟩,a3⟩,a4⟩,a5⟩:=hap
  obtain⟨hv2,hS2,hR2⟩:=avo (shl:=b1++(b2++b3)) hg.sim h1 h2 hexts (fun n hn=>by
    simp only[cx]at hn
    cases hq:db [] ext n with
    |none=>rw[hq]at hn;simp at hn
    |some B=>
     rcases dx hq with ⟨_,h3⟩|⟨j,rfl,hj⟩
     ·simp at h3
     ·have:=(List.getElem?_eq_some_iff.1 hj).1
      rw[hexts]
      simp[List.mem_range'_1]
      omega)
   (fun n hn=>by have:=List.all_eq_true.1 a1 n hn;simpa using this) (jg a2) a3 (fun n hn=>by simp[hn]) (fun n hn=>by simp[hn])
   (fun n hn=>gw a4 hn) (fun n hn=>gw a5 hn)
  subst hrs
  obtain⟨vs,f1,f2,f3⟩:=zg hg hus
  obtain⟨g1,g2⟩:=agy h3
  have hall: ∀(i:Nat) (v:Value) (u':PV),vs[i]? =some v→us'[i]? =some u'→RV (env (cx (P:=P) w V hv ext gc) (db nb ext') hv2 w') v u':=fun i v u' hv0 hu'=>by
   have hi:=(List.getElem?_eq_some_iff.1 hu').1
   rw[g1]at hi
   obtain⟨a,e1,e2⟩:=g2 i _ u' (List.getElem?_eq_getElem hi) hu'
   exact hR2 v _ u' a (f3 i v _ hv0 (List.getElem?_eq_getElem hi)) e1 fun n hn=>by simp[e2 n hn]
  refine⟨hg.defers,_,ahv f1,_,hv2,rfl,hS2,?_⟩
  have hlen:vs.length=us'.length:=by rw[f2,g1]
  have htup:RV (env (cx (P:=P) w V hv ext gc) (db nb ext') hv2 w') (.tuple vs.toArray) (.tup us'):=by
   refine .tup (by simpa using hlen) fun i u hu=> ?_
   have hi:=(List.getElem?_eq_some_iff.1 hu).1
   have:=hall i (vs[i]'(by omega)) u (List.getElem?_eq_getElem (by omega)) hu
   rw[ii,List.getD_eq_getElem?_getD,List.getElem?_eq_getElem (by omega)]
   exact this
  match vs,us',hlen,hall,htup with
  |[],[],_,_,ht=>exact ht
  |[v],[u],_,ha,_=>exact ha 0 v u rfl rfl
  |v::v'::r,u::u'::r',_,_,ht=>exact ht
 cases e with
 |normal=>exact fin hq
 |ret=>exact fin hq
 |exit id=>obtain⟨_,_,_,h,_⟩:=hq;exact h.elim
 |goto l=>exact hq.elim
 |panic c=>exact hq.elim
 |outgrown=>exact hq.elim
theorem aa{P:Program}(hm:P.follows .mixedOrders=true){k:FuncId}{fn:Func}{c:Code}{N:Nat}{rs:List ResultVar}{args:List PV}{ext:List Box}{r:PV}{nb ext':List Box}(hf:P.funcs[k]? =some fn)(hb:fn.body=some c)
  (hen: ∀as w,(callFunc k as).run P w= .ok (.enter k as) w) (hN:fn.ntmps=N) (hrs:fn.results.toList=rs) (hle:args.length≤N) (hc:fw N c=true) (ns:List Nat) {exts:List Nat} (hexts:exts=List.range' 1000000 ext'.length) (hel:ext'.length=ext.length)
  (h:wv P N c (bdf P rs ns exts r nb ext') (xt 0 args) (wu 0 ext)):Den P k args ext r nb ext':=by
 refine ajj hm hf hb hen hN hrs hle hexts hel fun x a hv w hG=>wp_mono (fk hm c hc _ _ _ h x a hv w hG) fun e a' w' hq=> ?_
 have go: ∀fr σ,azx P rs ns exts r nb ext' fr σ→a88 P rs exts r nb ext' fr σ:=fun fr σ h=>⟨[],ns,trivial,axt h⟩
 cases e with
 |normal=>obtain⟨fr,σ,hv',h1,h2⟩:=hq;exact⟨fr,σ,hv',go _ _ h1,h2⟩
 |ret=>obtain⟨fr,σ,hv',h1,h2⟩:=hq;exact⟨fr,σ,hv',go _ _ h1,h2⟩
 |exit id=>exact hq
 |goto l=>exact hq
 |panic c=>exact hq
 |outgrown=>exact hq
theorem qx{P:Program}(hm:P.follows .mixedOrders=true){k:FuncId}{fn:Func}{cd:Code}{N:Nat}{rs:List ResultVar}{args:List PV}{ext:List Box}{r:PV}{nb ext':List Box}(hf:P.funcs[k]? =some fn)(hb:fn.body=some cd)
  (hen: ∀as w,(callFunc k as).run P w= .ok (.enter k as) w) (hN:fn.ntmps=N) (hrs:fn.results.toList=rs) (hle:args.length≤N) (hc:fw N cd=true) (ns:List Nat) {el sz kk:Nat} {xs:List (List PV)} (exts0:List Nat) (c m:Nat) (ext0':List Box) {exts:List Nat} (hexts:exts=List.range' 1000000 ext'.length) (hel:ext'.length=ext.length)
  (hE:exts=exts0++[c,m]) (hE':ext'=ext0'++[.cells [.os m kk],.arr el sz false xs])
  (h:wv P N cd (a8l P rs ns exts0 exts c m el sz kk xs r nb ext0') (xt 0 args) (wu 0 ext)):Den P k args ext r nb ext':=by
 refine ajj hm hf hb hen hN hrs hle hexts hel fun x a hv w hG=>wp_mono (fk hm cd hc _ _ _ h x a hv w hG) fun e a' w' hq=> ?_
 have go: ∀fr σ,ael P rs ns exts0 exts c m el sz kk xs r nb ext0' fr σ→a88 P rs exts r nb ext' fr σ:=fun fr σ h=>⟨[],ns,trivial,a08 hE hE' h⟩
 cases e with
 |normal=>obtain⟨fr,σ,hv',h1,h2⟩:=hq;exact⟨fr,σ,hv',go _ _ h1,h2⟩
 |ret=>obtain⟨fr,σ,hv',h1,h2⟩:=hq;exact⟨fr,σ,hv',go _ _ h1,h2⟩
 |exit id=>exact hq
 |goto l=>exact hq
 |panic c=>exact hq
 |outgrown=>exact hq
theorem ai7{P:Program}(hm:P.follows .mixedOrders=true){k:FuncId}{fn:Func}{c:Code}{N:Nat}{rs:List ResultVar}{args:List PV}{ext:List Box}{r:PV}{nb ext':List Box}(hf:P.funcs[k]? =some fn)(hb:fn.body=some c)
  (hen: ∀as w,(callFunc k as).run P w= .ok (.enter k as) w) (hN:fn.ntmps=N) (hrs:fn.results.toList=rs) (hle:args.length≤N) (hc:fw N c=true) {exts:List Nat} (hexts:exts=List.range' 1000000 ext'.length) (hel:ext'.length=ext.length)
  (h:wv P N c (a5j P rs exts r nb ext') (xt 0 args) (wu 0 ext)):Den P k args ext r nb ext':=
 ajj hm hf hb hen hN hrs hle hexts hel (fk hm c hc _ _ _ h)
theorem ul{P:Program}{k:FuncId}{bs:List PV}(pre:List PV){ext:List Box}{r:PV}{nb ext':List Box}(h: ∀b,Den P k (pre++ .sn b::bs) ext r nb ext'):Den P k (pre++ .vs []::bs) ext r nb ext':=by
 refine⟨(h true).enter,fun w V hv gc vals hS hl hR=> ?_⟩
 have hi:pre.length<vals.length:=by rw[hl];simp
 have hva:=hR pre.length vals[pre.length] (.vs []) (List.getElem?_eq_getElem hi) (by simp)
 obtain⟨a,c,sz,U,q1,_⟩:=hva.vs_inv.vs_inv
 refine(h a.isNone).run w V hv gc vals hS (by rw[hl];simp) fun i v u hv0 hu=> ?_
 by_cases hia:i=pre.length
 ·subst hia
  rw[List.getElem?_eq_getElem hi]at hv0
  cases hv0
  simp at hu
  subst hu
  rw[q1]
  exact .pure (.sn _ c rfl)
 ·refine hR i v u hv0 ?_
  rw[←hu]
  rcases Nat.lt_or_gt_of_ne hia with h1|h1
  ·rw[List.getElem?_append_left h1,List.getElem?_append_left h1]
  ·rw[List.getElem?_append_right (by omega),List.getElem?_append_right (by omega)]
   obtain⟨m,hm⟩: ∃m,i - pre.length=m+1:=⟨i - pre.length - 1,by omega⟩
   rw[hm]
   simp
end Go.Proofs.Am

/- Stepping: rules that reckon a walk. -/
namespace Go.Proofs.Am
open Go Go.RowKit
variable {P:Program}
def bv{α:Type}(a:α)(k:α→Prop):Prop:=k a
def mk{α:Type}(a:α):α:=a
theorem bdb{α:Type}(a:α):mk a=a:=(rfl)
theorem azc{α:Type}{a b:α}{k:α→Prop}(h:mk a=b):bv a k=bv b k:=by rw[←h];rfl
theorem bcp{α:Type}(a:α)(k:α→Prop):bv a k=k a:=(rfl)
def kk(K:KT)(u:PV)(δ:ASt)(F:List Nat):Prop:=bv u fun u=>bv δ fun δ=>K u δ F
theorem bck(K:KT)(u:PV)(δ:ASt)(F:List Nat):kk K u δ F=bv u fun u=>bv δ fun δ=>K u δ F:=(rfl)
def c9(xs:List (List PV))(i:Nat):List PV:=xs.getD i []
def ej(cs:List PV)(i:Nat):PV:=cs.getD i .undef
def el{α:Type} [Inhabited α](l:List α)(i:Nat):α:=l.getD i default
def evO(P:Program)(op:Op)(d:Option Nat)(fr:AFr)(σ:ASt)(K:KT):Prop:=xp P ⟨d,op,0, "", #[],none⟩ (ev fr) σ K
theorem t8(P:Program)(d:Option Nat)(op:Op)(ty:TypeId)(p:String)(af:Array Edge)(g:Option (Nat×Bool))(fr:AFr)(σ:ASt)(K:KT):xp P ⟨d,op,ty,p,af,g⟩ (ev fr) σ K=evO P op d fr σ K:=by
 unfold evO xp
 cases op<;>rfl
theorem avu(s:Nat)(u:PV)(r:AFr)(t:Nat):look ((s,u)::r) t=if s=t then u else look r t:=(rfl)
theorem a2u(t:Nat)(u:PV)(r:AFr):look ((t,u)::r) t=u:=by simp[look]
theorem bbk(fr:AFr)(t:Nat):ev fr (.tmp t)=look fr t:=(rfl)
theorem ayp(fr:AFr)(v:Value):ev fr (.const v)=abx v:=(rfl)
theorem a6o(fr:AFr)(f:FuncId):ev fr (.func f)= .fn f []:=(rfl)
theorem aro(m:Nat)(B:Box)(r:ASt)(n:Nat):ac ((m,B)::r) n=if m=n then some B else ac r n:=(rfl)
theorem a0x(n:Nat):ac [] n=none:=(rfl)
theorem a2i(σ:ASt):yz σ []=σ:=(rfl)
theorem aqy(σ:ASt)(n:Nat)(B:Box)(r:ASt):yz σ ((n,B)::r)=yz (ln σ n B) r:=(rfl)
theorem az4(n:Nat)(B:Box):ln [] n B=[(n,B)]:=(rfl)
theorem avl(m:Nat)(C:Box)(r:ASt)(n:Nat)(B:Box):ln ((m,C)::r) n B=if m=n then(n,B)::r else(m,C)::ln r n B:=(rfl)
theorem as0(b:Bool):abx (.bool b)= .bool b:=(rfl)
theorem a07(k:IntKind)(n:Int):abx (.int k n)= .int k n:=(rfl)
theorem ay9(s:ByteArray):abx (.string s)= .str s.data.toList:=(rfl)
theorem as7:abx (.pointer none)= .nilp:=(rfl)
theorem atx:abx (.slice none 0 0)= .nils:=(rfl)
def nx(P:Program)(all:Array Oper)(r:List Oper)(fr:AFr)(d:Option Nat)(u:PV)(σ δ:ASt)(K:AFr→ASt→Prop):Prop:=lm P all r (ag5 fr d u) (yz σ δ) K
theorem ajk(P:Program)(all:Array Oper)(r:List Oper)(fr:AFr)(d:Nat)(u:PV)(σ:ASt)(K:AFr→ASt→Prop):nx P all r fr (some d) u σ [] K=lm P all r ((d,u)::fr) σ K:=(rfl)
theorem ad4(P:Program)(all:Array Oper)(r:List Oper)(fr:AFr)(d:Nat)(u:PV)(σ:ASt)(p:Nat×Box)(δ:ASt)(K:AFr→ASt→Prop):
  nx P all r fr (some d) u σ (p::δ) K=bv (yz σ (p::δ)) fun σ=>lm P all r ((d,u)::fr) σ K:=(rfl)
theorem ady(P:Program)(all:Array Oper)(r:List Oper)(fr:AFr)(u:PV)(σ:ASt)(p:Nat×Box)(δ:ASt)(K:AFr→ASt→Prop):
  nx P all r fr none u σ (p::δ) K=bv (yz σ (p::δ)) fun σ=>lm P all r fr σ K:=(rfl)
theorem avp(P:Program)(all:Array Oper)(fr:AFr)(σ:ASt)(K:AFr→ASt→Prop):lm P all [] fr σ K=K fr σ:=(rfl)
theorem anc(P:Program)(all:Array Oper)(d:Option Nat)(op:Op)(ty:TypeId)(p:String)(af:Array Edge)(r:List Oper)(fr:AFr)(σ:ASt)(K:AFr→ASt→Prop):
  lm P all (⟨d,op,ty,p,af,none⟩::r) fr σ K=evO P op d fr σ fun u δ _=>nx P all r fr d u σ δ K:=by
 simp only[lm]
 rw[t8]
 rfl
def vG(P:Program)(all:Array Oper)(op:Op)(d:Option Nat)(r:List Oper)(fr:AFr)(σ:ASt)(K:AFr→ASt→Prop)(t:Nat)(want:Bool):PV→Prop
 | .bool b=>(b=want→evO P op d ((t,.bool want)::fr) σ fun u δ _=>nx P all r ((t,.bool want)::fr) d u σ δ K)∧(b= !want→nx P all r ((t,.bool (!want))::fr) d (.tup []) σ [] K)
 | .tup []=>nx P all r fr d (.tup []) σ [] K
 |_=>False
theorem aqg(P:Program)(all:Array Oper)(d:Option Nat)(op:Op)(ty:TypeId)(p:String)(af:Array Edge)(j:Nat)(want:Bool)(r:List Oper)(fr:AFr)(σ:ASt)(K:AFr→ASt→Prop):
  lm P all (⟨d,op,ty,p,af,some (j,want)⟩::r) fr σ K=bv (im all j) fun t=>match t with|some t=>bv (look fr t) fun u=>vG P all op d r fr σ K t want u|none=>False:=by
 simp only[lm,bv]
 cases im all j with
 |none=>rfl
 |some t=>
  simp only
  cases look fr t with
  |tup cs=>cases cs<;>simp only[vG]<;>rfl
  |bool b=>simp only[vG,t8];rfl
  |_=>simp only[vG]
theorem ann(o:Oper)(l:List Oper):im (List.toArray (o::l)) 0=o.dst:=(rfl)
theorem ap2(o:Oper)(l:List Oper)(j:Nat):im (List.toArray (o::l)) (j+1)=im (List.toArray l) j:=by simp[im]
theorem ajz(P:Program)(all:Array Oper)(op:Op)(d:Option Nat)(r:List Oper)(fr:AFr)(σ:ASt)(K:AFr→ASt→Prop)(t:Nat)(want b:Bool):vG P all op d r fr σ K t want (.bool b)=
  ((b=want→evO P op d ((t,.bool want)::fr) σ fun u δ _=>nx P all r ((t,.bool want)::fr) d u σ δ K)∧(b= !want→bv (PV.bool (!want)) fun v=>nx P all r ((t,v)::fr) d (.tup []) σ [] K)):=(rfl)
theorem a81(P:Program)(all:Array Oper)(op:Op)(d:Option Nat)(r:List Oper)(fr:AFr)(σ:ASt)(K:AFr→ASt→Prop)(t:Nat)(want:Bool):vG P all op d r fr σ K t want (.tup [])=nx P all r fr d (.tup []) σ [] K:=(rfl)
def nxD(P:Program)(all:Array Oper)(r:List Oper)(fr:AFr)(d:Option Nat)(u:PV)(σ δ:ASt)(g:Log)(F:List Nat)(K:AFr→ASt→Log→Prop):Prop:=evD P all r (ag5 fr d u) (yz σ δ) ((δ.map (·.1),F)::g) K
theorem afz(P:Program)(all:Array Oper)(r:List Oper)(fr:AFr)(d:Nat)(u:PV)(σ:ASt)(g:Log)(F:List Nat)(K:AFr→ASt→Log→Prop):nxD P all r fr (some d) u σ [] g F K=evD P all r ((d,u)::fr) σ (([],F)::g) K:=(rfl)
theorem ac4(P:Program)(all:Array Oper)(r:List Oper)(fr:AFr)(d:Nat)(u:PV)(σ:ASt)(p:Nat×Box)(δ:ASt)(g:Log)(F:List Nat)(K:AFr→ASt→Log→Prop):
  nxD P all r fr (some d) u σ (p::δ) g F K=bv ((p::δ).map (·.1)) fun m=>bv (yz σ (p::δ)) fun σ=>evD P all r ((d,u)::fr) σ ((m,F)::g) K:=(rfl)
theorem abv(P:Program)(all:Array Oper)(r:List Oper)(fr:AFr)(u:PV)(σ:ASt)(p:Nat×Box)(δ:ASt)(g:Log)(F:List Nat)(K:AFr→ASt→Log→Prop):
  nxD P all r fr none u σ (p::δ) g F K=bv ((p::δ).map (·.1)) fun m=>bv (yz σ (p::δ)) fun σ=>evD P all r fr σ ((m,F)::g) K:=(rfl)
theorem a7g(P:Program)(all:Array Oper)(fr:AFr)(σ:ASt)(g:Log)(K:AFr→ASt→Log→Prop):evD P all [] fr σ g K=K fr σ g:=(rfl)
theorem ayz(P:Program)(all:Array Oper)(d:Option Nat)(op:Op)(ty:TypeId)(p:String)(af:Array Edge)(r:List Oper)(fr:AFr)(σ:ASt)(g:Log)(K:AFr→ASt→Log→Prop):
  evD P all (⟨d,op,ty,p,af,none⟩::r) fr σ g K=(eb op=false∧evO P op d fr σ fun u δ F=>bv F fun F=>nxD P all r fr d u σ δ g F K):=by
 simp only[evD]
 rw[t8]
 rfl
def vGD(P:Program)(all:Array Oper)(op:Op)(d:Option Nat)(r:List Oper)(fr:AFr)(σ:ASt)(g:Log)(K:AFr→ASt→Log→Prop)(t:Nat)(want:Bool):PV→Prop
 | .bool b=>(b=want→evO P op d ((t,.bool want)::fr) σ fun u δ F=>bv F fun F=>nxD P all r ((t,.bool want)::fr) d u σ δ g F K)∧(b= !want→evD P all r (ag5 ((t,.bool (!want))::fr) d (.tup [])) σ (([],[])::g) K)
 | .tup []=>nxD P all r fr d (.tup []) σ [] g [] K
 |_=>False
theorem a0l(P:Program)(all:Array Oper)(d:Option Nat)(op:Op)(ty:TypeId)(p:String)(af:Array Edge)(j:Nat)(want:Bool)(r:List Oper)(fr:AFr)(σ:ASt)(g:Log)(K:AFr→ASt→Log→Prop):
  evD P all (⟨d,op,ty,p,af,some (j,want)⟩::r) fr σ g K=(eb op=false∧bv (im all j) fun t=>match t with|some t=>bv (look fr t) fun u=>vGD P all op d r fr σ g K t want u|none=>False):=by
 simp only[evD,bv]
 cases im all j with
 |none=>rfl
 |some t=>
  simp only
  cases look fr t with
  |tup cs=>cases cs<;>simp only[vGD]<;>rfl
  |bool b=>simp only[vGD,t8];rfl
  |_=>simp only[vGD]
theorem acf(P:Program)(all:Array Oper)(op:Op)(d:Option Nat)(r:List Oper)(fr:AFr)(σ:ASt)(g:Log)(K:AFr→ASt→Log→Prop)(t:Nat)(want b:Bool):vGD P all op d r fr σ g K t want (.bool b)=
  ((b=want→evO P op d ((t,.bool want)::fr) σ fun u δ F=>bv F fun F=>nxD P all r ((t,.bool want)::fr) d u σ δ g F K)∧(b= !want→bv (PV.bool (!want)) fun v=>nxD P all r ((t,v)::fr) d (.tup []) σ [] g [] K)):=(rfl)
theorem azl(P:Program)(all:Array Oper)(op:Op)(d:Option Nat)(r:List Oper)(fr:AFr)(σ:ASt)(g:Log)(K:AFr→ASt→Log→Prop)(t:Nat)(want:Bool):vGD P all op d r fr σ g K t want (.tup [])=nxD P all r fr d (.tup []) σ [] g [] K:=(rfl)
section
variable (P:Program) (d:Option Nat) (fr:AFr) (σ:ASt) (K:KT)
theorem agv{α:Type} [Inhabited α](f:α→List PV)(l:List α)(i:Nat)(h:i<l.length):c9 (l.map f) i=f (el l i):=by
 simp[c9,el,List.getD_eq_getElem?_getD,h]
theorem ana(u:PV)(r:List PV):ej (u::r) 0=u:=(rfl)
theorem ane(u:PV)(r:List PV)(i:Nat):ej (u::r) (i+1)=ej r i:=(rfl)
theorem aok(u:List PV)(r:List (List PV)):c9 (u::r) 0=u:=(rfl)
theorem apg(u:List PV)(r:List (List PV))(i:Nat):c9 (u::r) (i+1)=c9 r i:=(rfl)
theorem a06(x:Operand):evO P (.move x) d fr σ K=kk K (ev fr x) [] []:=(rfl)
theorem ao0(x:Operand):evO P (.assign x) d fr σ K=kk K (ev fr x) [] []:=(rfl)
def a6r(fr:AFr)(a b:Operand)(K:KT):PV→Prop
 | .bool t=>(t=true→kk K (ev fr a) [] [])∧(t=false→kk K (ev fr b) [] [])
 |_=>False
theorem a2o(c a b:Operand):evO P (.pick c a b) d fr σ K=bv (ev fr c) (a6r fr a b K):=by
 simp only[evO,xp,bv]
 cases ev fr c<;>rfl
theorem yj(a b:Operand)(t:Bool):a6r fr a b K (.bool t)=((t=true→kk K (ev fr a) [] [])∧(t=false→kk K (ev fr b) [] [])):=(rfl)
def bd9(K:KT):PV→Prop
 | .ptr n k=>K (.ptr n k) [] []
 | .el cs=>K (.el cs) [] []
 |_=>False
theorem ae6(x:Operand):evO P (.nilCheck x) d fr σ K=bv (ev fr x) (bd9 K):=by
 simp only[evO,xp,bv]
 cases ev fr x<;>rfl
theorem az3(n k:Nat):bd9 K (.ptr n k)=K (.ptr n k) [] []:=(rfl)
def bd2(i:Nat)(K:KT):PV→Prop
 | .tup us=>i<us.length∧kk K (ej us i) [] []
 |_=>False
theorem ain(t:Operand)(i:Nat):evO P (.extract t i) d fr σ K=bv (ev fr t) (bd2 i K):=by
 simp only[evO,xp,bv]
 cases ev fr t<;>rfl
theorem ay5(i:Nat)(us:List PV):bd2 i K (.tup us)=(i<us.length∧kk K (ej us i) [] []):=(rfl)
theorem awt(t:TypeId)(d:Nat):evO P (.alloc t) (some d) fr σ K=bv (av P t) fun z=>match z with|some zs=>ac σ d=none∧K (.ptr d 0) [(d,.cells zs)] [d]|none=>False:=by
 simp only[evO,xp,bv]
 cases av P t<;>rfl
theorem a69(t:TypeId)(x:Operand)(d:Nat):evO P (.box t x) (some d) fr σ K=bv (da (ev fr x)) fun z=>match z with|some us=>ac σ d=none∧K (.ptr d 0) [(d,.cells us)] [d]|none=>False:=by
 simp only[evO,xp,bv]
 cases da (ev fr x)<;>rfl
def a2j(fr:AFr):List (Nat×Operand)→List (Nat×PV)
 |[]=>[]
 |(i,x)::r=>(i,ev fr x)::a2j fr r
theorem akj(l:List (Nat×Operand)):(l.map fun p=>(p.1,ev fr p.2))=a2j fr l:=by
 induction l with
 |nil=>rfl
 |cons p r ih=>obtain⟨i,x⟩:=p;simp only[List.map_cons,a2j,ih]
theorem ayj:a2j fr []=[]:=(rfl)
theorem awv(i:Nat)(x:Operand)(r:List (Nat×Operand)):a2j fr ((i,x)::r)=(i,ev fr x)::a2j fr r:=(rfl)
theorem auo(t:TypeId)(ps:List (Nat×Operand)):evO P (.build t ps.toArray) d fr σ K=bv (wo P t (a2j fr ps)) fun z=>match z with|some cs=>K (.agg cs) [] []|none=>False:=by
 simp only[evO,xp,bv,akj]
 cases wo P t (a2j fr ps)<;>rfl
theorem x8(t:TypeId)(n:Nat)(ps:List (Nat×Operand)):evO P (.buildSlice t n ps.toArray) d fr σ K=bv (a2j fr ps) fun z=>gq P t n z d σ K:=by
 simp only[evO,xp,bv,akj]
theorem az0(t:TypeId)(a:Operand):evO P (.load t a) d fr σ K=bv (ev fr a) fun u=>na P t σ u K:=(rfl)
theorem awq(t:TypeId)(a v:Operand):evO P (.store t a v) d fr σ K=bv (ev fr a) fun u=>bv (ev fr v) fun v=>ld P t σ u v K:=(rfl)
theorem ab7(t:TypeId)(x:Operand)(f:Nat):evO P (.fieldAddr t x f) d fr σ K=bv (ev fr x) fun u=>d9 P t f σ u K:=(rfl)
theorem acy(t:TypeId)(x i:Operand):evO P (.indexAddr t x i) d fr σ K=bv (ev fr x) fun u=>bv (ev fr i) fun v=>bk P t σ u v K:=(rfl)
theorem atn(t:TypeId)(x i:Operand):evO P (.index t x i) d fr σ K=bv (ev fr x) fun u=>bv (ev fr i) fun v=>mn P t u v K:=(rfl)
theorem aq9(op:BinOp)(t:TypeId)(x y:Operand)(yt:TypeId):evO P (.binOp op t x y yt) d fr σ K=bv (ev fr x) fun u=>bv (ev fr y) fun v=>fe P op t u v fun u=>kk K u [] []:=(rfl)
theorem a14(op:UnOp)(t:TypeId)(x:Operand):evO P (.unOp op t x) d fr σ K=bv (ev fr x) fun u=>a6d op u fun u=>kk K u [] []:=(rfl)
theorem aj5(s e:TypeId)(x:Operand):evO P (.convert s e x) d fr σ K=bv (ev fr x) fun u=>nz P s e d σ u fun u δ F=>kk K u δ F:=(rfl)
theorem axr(t:TypeId)(x:Operand)(lo hi mx:Option Operand):evO P (.slice t x lo hi mx) d fr σ K=bv (ev fr x) fun u=>bv (lo.map (ev fr)) fun lo=>bv (hi.map (ev fr)) fun hi=>bv (mx.map (ev fr)) fun mx=>gh P t σ u lo hi mx fun u δ F=>kk K u δ F:=(rfl)
theorem acn(t:TypeId)(l c:Operand):evO P (.makeSlice t l c) d fr σ K=bv (ev fr l) fun u=>bv (ev fr c) fun v=>qy P t d σ u v fun u δ F=>kk K u δ F:=(rfl)
def a3k(fr:AFr):List Operand→List PV
 |[]=>[]
 |x::r=>ev fr x::a3k fr r
theorem alx(l:List Operand):l.map (ev fr)=a3k fr l:=by
 induction l with
 |nil=>rfl
 |cons x r ih=>simp only[List.map_cons,a3k,ih]
theorem a20:a3k fr []=[]:=(rfl)
theorem aua(x:Operand)(r:List Operand):a3k fr (x::r)=ev fr x::a3k fr r:=(rfl)
theorem aeg(f:FuncId)(cap:List Operand):evO P (.makeFunc (.func f) #[] cap.toArray) d fr σ K=bv (a3k fr cap) fun us=>K (.fn f us) [] []:=by
 simp only[evO,xp,bv,alx,a43]
theorem azh(f:Operand)(ys:List Operand)(ts:Array TypeId):evO P (.call ⟨.value f,ys.toArray,ts⟩) d fr σ K=bv (ev fr f) fun f=>bv (a3k fr ys) fun us=>wn P f us d σ fun u δ F=>kk K u δ F:=by
 simp only[evO,xp,bv,alx,bch]
 rfl
theorem axs(t:TypeId)(cs:List PV):a6q P t σ (.agg cs) K=(ifT P t=true∧bv (fx σ cs) fun p=>match p with
  |some (us,[])=>K (.ifc t (.agg us)) [] []
  |_=>False):=(rfl)
theorem a7d(y:Operand)(t:TypeId):evO P (.call ⟨.builtin .len, #[y], #[t]⟩) d fr σ K=bv (ev fr y) fun u=>p3 P t σ u K:=(rfl)
theorem atk(y:Operand)(t:TypeId):evO P (.call ⟨.builtin .clear, #[y], #[t]⟩) d fr σ K=bv (ev fr y) fun u=>anr P t σ u K:=(rfl)
theorem an8(y z:Operand)(t tx:TypeId):evO P (.call ⟨.builtin .append, #[y,z], #[t,tx]⟩) d fr σ K=bv (ev fr y) fun u=>bv (ev fr z) fun v=>vd P t tx d σ u v fun u δ F=>kk K u δ F:=(rfl)
theorem azd(y z:Operand)(t tx:TypeId):evO P (.call ⟨.builtin .copy, #[y,z], #[t,tx]⟩) d fr σ K=bv (ev fr y) fun u=>bv (ev fr z) fun v=>y4 P t tx σ u v fun u δ F=>kk K u δ F:=(rfl)
theorem a61(y z:Operand)(ts:Array TypeId):evO P (.call ⟨.builtin .min, #[y,z],ts⟩) d fr σ K=bv (ev fr y) fun u=>bv (ev fr z) fun v=>a4b false u v fun u δ F=>kk K u δ F:=(rfl)
theorem a5f(y z:Operand)(ts:Array TypeId):evO P (.call ⟨.builtin .max, #[y,z],ts⟩) d fr σ K=bv (ev fr y) fun u=>bv (ev fr z) fun v=>a4b true u v fun u δ F=>kk K u δ F:=(rfl)
theorem aoe(t:TypeId)(n off:Nat):na P t σ (.ptr n off) K=bv (ldT P t) fun l=>bv (ac σ n) fun B=>match l,B with
  |some none,some (.cells cs)=>off<cs.length∧kk K (ej cs off) [] [n]
  |some (some m),some (.cells cs)=>off+m≤cs.length∧kk K (.agg ((cs.drop off).take m)) [] [n]
  |_,_=>False:=by
 simp only[na,bv,kk,c9,ej]
 rcases ldT P t with _|_|m<;>(try rfl)<;>rcases ac σ n with _|B<;>(try rfl)<;>cases B<;>rfl
theorem asx(t:TypeId)(cs:List PV):na P t σ (.el cs) K=bv (ldT P t) fun l=>match l with
  |some none=>0<cs.length∧kk K (ej cs 0) [] []
  |some (some m)=>m≤cs.length∧kk K (.agg (cs.take m)) [] []
  |none=>False:=by
 simp only[na,bv,kk,c9,ej]
 rcases ldT P t with _|_|m<;>rfl
def atq(n k i off:Nat)(K:KT):Option (Option Nat)→Option Box→Prop
 |some none,some (.arr _ _ _ xs)=>(k=xs.length∧i<k∧off<(c9 xs i).length)∧kk K (ej (c9 xs i) off) [] [n]
 |some (some m),some (.arr _ _ _ xs)=>(k=xs.length∧i<k∧off+m≤(c9 xs i).length)∧kk K (.agg (((c9 xs i).drop off).take m)) [] [n]
 |some none,some (.arh _ _ xs)=>(k=xs.length∧i<k∧off<(c9 xs i).length)∧kk K (ej (c9 xs i) off) [] [n]
 |some (some m),some (.arh _ _ xs)=>(k=xs.length∧i<k∧off+m≤(c9 xs i).length)∧kk K (.agg (((c9 xs i).drop off).take m)) [] [n]
 |_,_=>False
theorem aod(t:TypeId)(n k i off:Nat):na P t σ (.oel n k i off) K=bv (ldT P t) fun l=>bv (ac σ n) fun B=>atq n k i off K l B:=by
 simp only[na,bv,kk]
 rcases ldT P t with _|_|m<;>(try rfl)<;>rcases ac σ n with _|B<;>(try rfl)<;>cases B<;>first|rfl|simp only[atq,kk,bv,c9,ej,and_assoc]
theorem arp(n k i off e sz:Nat)(xs:List (List PV)):atq n k i off K (some none) (some (.arh e sz xs))=((k=xs.length∧i<k∧off<(c9 xs i).length)∧kk K (ej (c9 xs i) off) [] [n]):=(rfl)
theorem un(t:TypeId)(n off:Nat)(v:PV):ld P t σ (.ptr n off) v K=bv (bx P t) fun m=>bv (da v) fun us=>bv (ac σ n) fun B=>match m,us,B with
  |some m,some us,some (.cells cs)=>(us.length=m∧us.all ew=true∧off+m≤cs.length)∧kk K .undef [(n,.cells (cs.take off++us++cs.drop (off+m)))] [n]
  |_,_,_=>False:=by
 simp only[ld,bv,kk,c9,ej]
 rcases bx P t with _|m<;>(try rfl)<;>rcases da v with _|us<;>(try rfl)<;>rcases ac σ n with _|B<;>(try (simp only[and_false];done))<;>cases B<;>simp only[and_assoc,and_false]
def ag6(σ:ASt)(n k i off:Nat)(K:KT):Option Nat→Option (List PV)→Option Box→Prop
 |some m,some us,some (.arr e sz false xs)=>match fx σ us with
   |some (us',ns)=>(us.length=m∧us.all ew=true∧k=xs.length∧i<k∧off+m≤sz∧n∉ns)∧kk K .undef (bt σ ns++[(n,.arr e sz false (xs.set i ((c9 xs i).take off++us'++(c9 xs i).drop (off+m))))]) (n::ns)
   |none=>False
 |some m,some us,some (.arh e sz xs)=>(us.length=m∧us.all ew=true∧k=xs.length∧i<k∧off+m≤sz)∧kk K .undef [(n,.arh e sz (xs.set i ((c9 xs i).take off++us++(c9 xs i).drop (off+m))))] [n]
 |_,_,_=>False
theorem ai0(t:TypeId)(n k i off:Nat)(v:PV):ld P t σ (.oel n k i off) v K=bv (bx P t) fun m=>bv (da v) fun us=>bv (ac σ n) fun B=>ag6 σ n k i off K m us B:=by
 simp only[ld,bv,kk]
 rcases bx P t with _|m<;>(try rfl)<;>rcases da v with _|us<;>(try rfl)<;>rcases ac σ n with _|B<;>(try (simp only[ag6,and_false];done))<;>cases B with
 |cells cs=>simp only[ag6,and_false]
 |arr e sz sh xs=>cases sh<;>simp only[ag6,and_false]<;>rcases fx σ us with _|⟨us',ns⟩<;>simp only[kk,bv,c9,and_assoc,and_false]
 |arh e sz xs=>simp only[ag6,kk,bv,c9,and_assoc]
 |mp es=>simp only[ag6,and_false]
 |it m k d=>simp only[ag6,and_false]
 |si l p=>simp only[ag6,and_false]
 |arq e sz k xs=>simp only[ag6,and_false]
 |dead sz l=>simp only[ag6,and_false]
theorem bbj(n k i off m e sz:Nat)(us:List PV)(xs:List (List PV)):ag6 σ n k i off K (some m) (some us) (some (.arh e sz xs))=((us.length=m∧us.all ew=true∧k=xs.length∧i<k∧off+m≤sz)∧bv (c9 xs i) fun c=>bv (xs.set i (c.take off++us++c.drop (off+m))) fun xs'=>kk K .undef [(n,.arh e sz xs')] [n]):=(rfl)
theorem al4(n k i off m e sz:Nat)(us:List PV)(xs:List (List PV)):ag6 σ n k i off K (some m) (some us) (some (.arr e sz false xs))=bv (fx σ us) fun p=>match p with
   |some (us',ns)=>(us.length=m∧us.all ew=true∧k=xs.length∧i<k∧off+m≤sz∧n∉ns)∧kk K .undef (bt σ ns++[(n,.arr e sz false (xs.set i ((c9 xs i).take off++us'++(c9 xs i).drop (off+m))))]) (n::ns)
   |none=>False:=by
 simp only[ag6,bv]
theorem azj{α:Type} [Inhabited α](f:α→List PV)(l:List α)(n k i off m e sz:Nat)(us:List PV):ag6 σ n k i off K (some m) (some us) (some (.arr e sz false (l.map f)))=bv (fx σ us) fun p=>match p with
   |some (us',ns)=>(us.length=m∧us.all ew=true∧k=l.length∧i<k∧off+m≤sz∧n∉ns)∧bv (f (el l i)) fun c=>bv ((l.map f).set i (c.take off++us'++c.drop (off+m))) fun xs'=>kk K .undef (bt σ ns++[(n,.arr e sz false xs')]) (n::ns)
   |none=>False:=by
 rw[al4]
 simp only[bv]
 rcases fx σ us with _|⟨us',ns⟩
 ·rfl
 ·simp only[List.length_map,and_assoc]
  refine propext (and_congr_right fun _=>and_congr_right fun _=>and_congr_right fun h1=>and_congr_right fun h2=> ?_)
  rw[agv f l i (by omega)]
theorem aic(t:TypeId)(f n k:Nat):d9 P t f σ (.ptr n k) K=bv (fo P t f) fun o=>match o with|some off=>bv (k+off) fun k=>K (.ptr n k) [] []|none=>False:=(rfl)
theorem aqb(t:TypeId)(f:Nat)(cs:List PV):d9 P t f σ (.el cs) K=bv (fo P t f) fun o=>match o with|some off=>kk K (.el (cs.drop off)) [] []|none=>False:=(rfl)
theorem ahz(t:TypeId)(f n k i o1:Nat):d9 P t f σ (.oel n k i o1) K=bv (fo P t f) fun o=>bv (ac σ n) fun B=>match o,B with
  |some off,some (.arr _ _ _ xs)=>(k=xs.length∧i<k)∧bv (o1+off) fun o=>K (.oel n k i o) [] [n]
  |some off,some (.arh _ _ xs)=>(k=xs.length∧i<k)∧bv (o1+off) fun o=>K (.oel n k i o) [] [n]
  |_,_=>False:=by
 simp only[d9,bv]
 rcases fo P t f with _|off<;>(try rfl)<;>rcases ac σ n with _|B<;>(try rfl)<;>cases B<;>first|rfl|simp only[and_assoc]
theorem amf(t:TypeId)(xs:List (List PV))(kd:IntKind)(i:Int):bk P t σ (.vs xs) (.int kd i) K=bv (slT P t) fun s=>match s with
  |some (_,sz,_)=>(0≤i∧i<xs.length)∧(c9 xs i.toNat).length=sz∧kk K (.el (c9 xs i.toNat)) [] []
  |none=>False:=by
 simp only[bk,bv,kk,c9,ej]
 rcases slT P t with _|⟨e,sz,b⟩<;>first|rfl|simp only[and_assoc]
theorem a1y(t:TypeId)(n m:Nat)(kd:IntKind)(i:Int):bk P t σ (.os n m) (.int kd i) K=bv (slT P t) fun s=>bv (ac σ n) fun B=>match s,B with
  |some (_,sz,_),some (.arr _ sz' _ xs)=>(sz'=sz∧m=xs.length∧0≤i∧i<xs.length)∧kk K (.oel n m i.toNat 0) [] [n]
  |some (_,sz,_),some (.arh _ sz' xs)=>(sz'=sz∧m=xs.length∧0≤i∧i<xs.length)∧kk K (.oel n m i.toNat 0) [] [n]
  |_,_=>False:=by
 simp only[bk,bv,kk,c9,ej]
 rcases slT P t with _|⟨e,sz,b⟩<;>(try rfl)<;>rcases ac σ n with _|B<;>(try rfl)<;>cases B<;>first|rfl|simp only[and_assoc]
theorem arv(t:TypeId)(n m a:Nat)(kd:IntKind)(i:Int):bk P t σ (.osl n m a) (.int kd i) K=bv (slT P t) fun s=>bv (ac σ n) fun B=>match s,B with
  |some (_,sz,_),some (.arh _ sz' xs)=>(sz'=sz∧m=xs.length∧0≤i∧a+i<xs.length)∧kk K (.oel n m (a+i.toNat) 0) [] [n]
  |_,_=>False:=by
 simp only[bk,bv,kk,c9,ej]
 rcases slT P t with _|⟨e,sz,b⟩<;>(try rfl)<;>rcases ac σ n with _|B<;>(try rfl)<;>cases B<;>first|rfl|simp only[and_assoc]
theorem axu(t:TypeId)(n m:Nat)(kd:IntKind)(i:Int):bk P t σ (.ptr n m) (.int kd i) K=bv (arT P t) fun s=>match s with
  |some (len,sz)=>(0≤i∧i<len)∧kk K (.ptr n (m+i.toNat*sz)) [] []
  |none=>False:=by
 simp only[bk,bv,kk,c9,ej]
 rcases arT P t with _|⟨len,sz⟩<;>first|rfl|simp only[and_assoc]
theorem akd(t:TypeId)(cs:List PV)(kd:IntKind)(n:Int):mn P t (.agg cs) (.int kd n) K=bv (tf P t) fun s=>match s with
  |some (len,e)=>bv (jn P e) fun r=>bv (bx P e) fun z=>(r=some false∧z=some 1)∧(0≤n∧n<len∧n<cs.length)∧kk K (ej cs n.toNat) [] []
  |none=>False:=by
 simp only[mn,bv,kk,c9,ej]
 cases h:tf P t with
 |none=>simp
 |some p=>
  obtain⟨len,e⟩:=p
  apply propext
  constructor
  ·rintro⟨l,e',h1,h2,h3,h4,h5,h6,h7⟩
   cases h1
   exact⟨⟨h2,h3⟩,⟨h4,h5,h6⟩,h7⟩
  ·rintro⟨⟨h2,h3⟩,⟨h4,h5,h6⟩,h7⟩
   exact⟨len,e,rfl,h2,h3,h4,h5,h6,h7⟩
theorem air(t:TypeId)(l:List UInt8)(kd:IntKind)(n:Int):mn P t (.str l) (.int kd n) K=bv (ez P t) fun s=>s=true∧(0≤n∧n<l.length)∧kk K (.int .u8 ((l.getD n.toNat 0).toNat:Int)) [] []:=by
 simp only[mn,bv,kk,and_assoc]
theorem ax1(t:TypeId)(l:List UInt8):s7 P t σ (.str l) K=bv (ez P t) fun s=>s=true∧kk K (.int .i64 l.length) [] []:=(rfl)
theorem a1m(t:TypeId)(xs:List (List PV)):s7 P t σ (.vs xs) K=bv (ap P t) fun s=>s=true∧kk K (.int .i64 xs.length) [] []:=(rfl)
theorem a1v(t:TypeId)(n k:Nat):s7 P t σ (.os n k) K=bv (ac σ n) fun B=>bv (ap P t) fun s=>match B with
  |some (.arr _ _ _ xs)=>(k=xs.length∧s=true)∧kk K (.int .i64 k) [] [n]
  |some (.arh _ _ xs)=>(k=xs.length∧s=true)∧kk K (.int .i64 k) [] [n]
  |_=>False:=by
 simp only[s7,bv,kk,c9,ej]
 rcases ac σ n with _|B<;>(try rfl)<;>cases B<;>first|rfl|simp only[and_assoc]
theorem aur(t:TypeId)(n k i:Nat):s7 P t σ (.osl n k i) K=bv (ap P t) fun s=>s=true∧kk K (.int .i64 ((k - i:Nat):Int)) [] []:=(rfl)
theorem ah7(s e:TypeId)(k:IntKind)(n:Int):nz P s e d σ (.int k n) K=pm P s e σ (.int k n) K:=(rfl)
theorem ani(s e:TypeId)(n k:Nat):nz P s e d σ (.os n k) K=pm P s e σ (.os n k) K:=(rfl)
def bd3(d e:Nat)(l:List UInt8)(K:KT):Prop:=kk K (.os d l.length) [(d,.arr e 1 false (a8 l))] [d]
theorem ah2(s e:TypeId)(l:List UInt8)(d:Nat):nz P s e (some d) σ (.str l) K=bv (ez P e) fun q=>bv (ij P s) fun z=>bv (ez P s) fun p=>bv (je P e) fun y=>bv (bd P e) fun el=>if q=true then z=true∧K (.str l) [] []else match el with
  |some t=>p=true∧y=true∧bv (ac σ d) (fun B=>B=none)∧l.length≤140737488355328∧bd3 d t l K
  |none=>False:=(rfl)
theorem ap4(s e:TypeId)(k:IntKind)(n:Int):pm P s e σ (.int k n) K=bv (mo P e) fun q=>bv (ij P s) fun z=>match q with|some k'=>z=true∧K (.int k' (k'.wrap n)) [] []|none=>False:=(rfl)
theorem awe(s e:TypeId)(n k:Nat):pm P s e σ (.os n k) K=bv (ac σ n) fun B=>bv (je P s) fun q=>bv (ez P e) fun p=>match B with
  |some (.arr _ _ _ xs)=>(k=xs.length∧q=true∧p=true)∧∃l,xs=a8 l∧K (.str l) [] [n]
  |_=>False:=by
 simp only[pm,bv]
 rcases ac σ n with _|B<;>(try rfl)<;>cases B<;>first|rfl|simp only[and_assoc]
theorem ato(t:TypeId)(n:Nat):p3 P t σ (.mh n) K=bv (ac σ n) fun B=>bv (ag9 P t) fun m=>match B,m with
  |some (.mp es),some _=>kk K (.int .i64 es.length) [] [n]
  |_,_=>False:=(rfl)
theorem anm(t:TypeId)(l:List UInt8):p3 P t σ (.str l) K=s7 P t σ (.str l) K:=(rfl)
theorem au3(t:TypeId)(xs:List (List PV)):p3 P t σ (.vs xs) K=s7 P t σ (.vs xs) K:=(rfl)
theorem as1(t:TypeId)(n k:Nat):p3 P t σ (.os n k) K=s7 P t σ (.os n k) K:=(rfl)
def bak(ok:Bool)(n:Nat)(q:PV)(K:KT):Option Box→Option (TypeId×TypeDesc×TypeId)→(TypeId→Option PV)→Prop
 |some (.mp es),some (_,dk,e),zv=>bv (mf dk q) fun b=>bv (lf q es 0) fun r=>bv (zv e) fun z=>match r,z with
  |some r,some z=>b=true∧kk K (a54 es z ok r) [] [n]
  |_,_=>False
 |_,_,_=>False
theorem am8(t:TypeId)(x i:Operand)(ok:Bool):evO P (.lookup t x i ok) d fr σ K=bv (ev fr x) fun u=>bv (ev fr i) fun q=>y8 P t ok σ u q K:=(rfl)
theorem atd(t:TypeId)(ok:Bool)(n:Nat)(q:PV):y8 P t ok σ (.mh n) q K=bv (ac σ n) fun B=>bv (ag9 P t) fun m=>bak ok n q K B m (ao6 P):=by
 simp only[y8,bv,kk]
 rcases ac σ n with _|B<;>(try rfl)<;>cases B<;>(try rfl)<;>rcases ag9 P t with _|⟨k,dk,e⟩<;>(try rfl)
theorem a0n(ok:Bool)(n:Nat)(q:PV)(es:List (PV×PV))(k e:TypeId)(dk:TypeDesc)(zv:TypeId→Option PV):bak ok n q K (some (.mp es)) (some (k,dk,e)) zv=bv (mf dk q) fun b=>bv (lf q es 0) fun r=>bv (zv e) fun z=>match r,z with
  |some r,some z=>b=true∧kk K (a54 es z ok r) [] [n]
  |_,_=>False:=(rfl)
def bd8(n:Nat)(q v:PV)(K:KT):Option Box→Option (TypeId×TypeDesc×TypeId)→Prop
 |some (.mp es),some (_,dk,_)=>bv (mf dk q) fun b=>bv (lf q es 0) fun r=>match r with
  |some r=>b=true∧bv (amg es q v r) fun es'=>kk K .undef [(n,.mp es')] [n]
  |_=>False
 |_,_=>False
theorem aap(t:TypeId)(x i v:Operand):evO P (.mapUpdate t x i v) d fr σ K=bv (ev fr x) fun u=>bv (ev fr i) fun q=>bv (ev fr v) fun v=>ajw P t σ u q v K:=(rfl)
theorem aym(t:TypeId)(n:Nat)(q v:PV):ajw P t σ (.mh n) q v K=bv (ac σ n) fun B=>bv (ag9 P t) fun m=>bd8 n q v K B m:=by
 simp only[ajw,bv,kk]
 rcases ac σ n with _|B<;>(try rfl)<;>cases B<;>(try rfl)<;>rcases ag9 P t with _|⟨k,dk,e⟩<;>(try rfl)
theorem a6z(n:Nat)(q v:PV)(es:List (PV×PV))(k e:TypeId)(dk:TypeDesc):bd8 n q v K (some (.mp es)) (some (k,dk,e))=bv (mf dk q) fun b=>bv (lf q es 0) fun r=>match r with
  |some r=>b=true∧bv (amg es q v r) fun es'=>kk K .undef [(n,.mp es')] [n]
  |_=>False:=(rfl)
theorem ahu(t:TypeId)(d:Nat):evO P (.makeMap t none) (some d) fr σ K=(bv (ac σ d) (fun B=>B=none)∧K (.mh d) [(d,.mp [])] [d]):=(rfl)
theorem as3(t:TypeId)(x:Operand)(d:Nat):evO P (.range t x) (some d) fr σ K=bv (ev fr x) fun u=>auh P t (some d) σ u K:=(rfl)
theorem as5(x:Operand):evO P (.next x true) d fr σ K=bv (ev fr x) fun u=>vp σ u K:=(rfl)
def bd7(l:List UInt8)(pos n:Nat)(r:Nat×Nat)(K:KT):Prop:=kk K (.tup [.bool true,.int .i64 pos,.int .i32 r.1]) [(n,.si l (pos+r.2))] [n]
theorem a8r(l:List UInt8)(pos n a b:Nat)(K:KT):bd7 l pos n (a,b) K=kk K (.tup [.bool true,.int .i64 pos,.int .i32 a]) [(n,.si l (pos+b))] [n]:=(rfl)
theorem aow(n:Nat):vp σ (.mh n) K=bv (ac σ n) fun B=>match B with
  |some (.si l pos)=>(pos<l.length→bv (at2 l pos) fun r=>bd7 l pos n r K)∧(¬pos<l.length→K (.tup [.bool false]) [] [n])
  |_=>False:=(rfl)
theorem avd(t:TypeId)(l:List UInt8)(d:Nat):auh P t (some d) σ (.str l) K=(ez P t=true∧bv (ac σ d) (fun B=>B=none)∧K (.mh d) [(d,.si l 0)] [d]):=(rfl)
end
end Go.Proofs.Am
