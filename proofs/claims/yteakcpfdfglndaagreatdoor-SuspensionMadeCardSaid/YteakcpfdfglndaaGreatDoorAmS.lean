/- AmS. -/
import Derived.Test.YteakcpfdfglndaaGreatDoorAmR
set_option linter.unusedSimpArgs false
set_option linter.unusedVariables false
namespace Go.Proofs.Am
open Go Go.RowKit
variable {P:Program}
def ub:Nat→List PV→AFr
 |_,[]=>[]
 |i,u::r=>(i,u)::ub (i+1) r
def r9:Nat→List Box→ASt
 |_,[]=>[]
 |j,B::r=>(1000000+j,B)::r9 (j+1) r
theorem aab: ∀(args:List PV) (i t:Nat),look (ub i args) t=if i≤t then args.getD (t - i) .undef else .undef
 |[],i,t=>by simp[ub,look]
 |u::r,i,t=>by
  simp only[ub,look]
  rw[aab r (i+1) t]
  by_cases h:i=t
  ·subst h;simp
  ·rw[if_neg h]
   by_cases h':i≤t
   ·have:t - i=(t - (i+1))+1:=by omega
    rw[if_pos (by omega),if_pos h',this]
    simp
   ·rw[if_neg (by omega),if_neg h']
theorem aaj: ∀(ext:List Box) (j n:Nat),ah (r9 j ext) n=if 1000000+j≤n then ext[n - (1000000+j)]? else none
 |[],j,n=>by simp[r9,ah]
 |B::r,j,n=>by
  simp only[r9,ah]
  rw[aaj r (j+1) n]
  by_cases h:1000000+j=n
  ·subst h;simp
  ·rw[if_neg h]
   by_cases h':1000000+j≤n
   ·have:n - (1000000+j)=(n - (1000000+(j+1)))+1:=by omega
    rw[if_pos (by omega),if_pos h',this]
    simp
   ·rw[if_neg (by omega),if_neg h']
theorem ahn(ext:List Box):ah (r9 0 ext)=ec [] ext:=by
 funext n
 rw[aaj]
 unfold ec
 by_cases h:n<1000000
 ·rw[if_pos h,if_neg (by omega)];rfl
 ·rw[if_neg h,if_pos (by omega)]
def t7(σ:ASt)(ns exts:List Nat):List PV→Option (List PV×List Nat)
 |[]=>some ([],[])
 |u::us=>match azr σ ns exts u,t7 σ ns exts us with
  |some (v,a),some (vs,b)=>some (v::vs,a++b)
  |_,_=>none
theorem agd{σ:ASt}{ns exts:List Nat}: ∀{us us':List PV} {b:List Nat},t7 σ ns exts us=some (us',b)→us'.length=us.length∧∀(i:Nat) (u u':PV),us[i]? =some u→us'[i]? =some u'→∃a,azr σ ns exts u=some (u',a)∧∀n∈a,n∈b
 |[],us',b,h=>by cases h;simp
 |u::us,us',b,h=>by
  simp only[t7]at h
  cases h1:azr σ ns exts u with
  |none=>rw[h1]at h;cases h
  |some p=>
   cases h2:t7 σ ns exts us with
   |none=>rw[h1,h2]at h;cases h
   |some q=>
    obtain⟨v,a⟩:=p
    obtain⟨vs,b'⟩:=q
    rw[h1,h2]at h
    simp only[Option.some.injEq,Prod.mk.injEq]at h
    obtain⟨rfl,rfl⟩:=h
    obtain⟨k1,k2⟩:=agd h2
    refine⟨by simp[k1],fun i r r' hr hr'=> ?_⟩
    cases i with
    |zero=>
     simp at hr hr'
     subst hr hr'
     exact⟨a,h1,fun n hn=>by simp[hn]⟩
    |succ i=>
     obtain⟨c,e1,e2⟩:=k2 i r r' (by simpa using hr) (by simpa using hr')
     exact⟨c,e1,fun n hn=>by simp[e2 n hn]⟩
def aqm:List PV→PV
 |[u]=>u
 |us=> .tup us
def vk:List Nat→Bool
 |[]=>true
 |n::r=> !r.contains n&&vk r
theorem l9: ∀{l:List Nat},vk l=true→l.Nodup
 |[],_=>List.nodup_nil
 |n::r,h=>by
  simp only[vk,Bool.and_eq_true]at h
  exact List.nodup_cons.2 ⟨by simpa using h.1,l9 h.2⟩
def x6(ns exts shl:List Nat):Bool:=ns.all (fun n=>decide (n<1000000))&&vk ns&&decide (ns.length<1000000)&&aln ns shl&&aln exts shl
def ayx(P:Program)(rs:List ResultVar)(ns exts:List Nat)(r:PV)(nb ext':List Box)(fr:AFr)(σ:ASt):Prop:=
 match aro P fr σ rs with
 |some us=>match zi σ ns,zi σ exts,t7 σ ns exts us with
  |some (nb0,b1),some (e0,b2),some (us',b3)=>x6 ns exts (b1++(b2++b3))=true∧nb0=nb∧e0=ext'∧aqm us'=r
  |_,_,_=>False
 |none=>False
def bdr(P:Program)(rs:List ResultVar)(ns exts:List Nat)(r:PV)(nb ext':List Box):pv
 | .exit _,_,_=>False
 |_,fr,σ=>ayx P rs ns exts r nb ext' fr σ
theorem aj2{P:Program}{fn:Func}{tmps:Array Value}{w:World}{vs:List Value}(h:(fn.results.toList.mapM (a9q tmps)).run P w= .ok vs w):
  (results fn tmps).run P w= .ok (match vs with|[v]=>v|vs=> .tuple vs.toArray) w:=by
 have h1:results fn tmps=(fn.results.mapM (a9q tmps))>>=fun vs=>pure (if h:vs.size=1 then vs[0]else .tuple vs):=by
  unfold results
  congr 1
 rw[h1,Array.mapM_eq_mapM_toList]
 simp only[Sem.run_bind,map_eq_pure_bind,bind_assoc,pure_bind,h,Result.andThen_ok,Sem.run_pure]
 congr 1
 match vs with
 |[]=>rfl
 |[v]=>rfl
 |v::u::r=>simp
def lifts:List (Nat×Nat×Nat×Nat)→AFr→ASt→AFr×ASt
 |[],fr,σ=>(fr,σ)
 |(slot,n,e,sz)::r,fr,σ=>lifts r ((slot,.os n 0)::fr) (s6 σ n (.arr e sz false []))
def pu:List (Nat×Nat×Nat×Nat)→AFr→ASt→Prop
 |[],_,_=>True
 |(slot,n,e,sz)::r,fr,σ=>look fr slot= .nils∧ah σ n=none∧0<sz∧pu r ((slot,.os n 0)::fr) (s6 σ n (.arr e sz false []))
theorem Good.lift1{x:Ctx P}{N:Nat}{fr:AFr}{σ:ASt}{a:Act}{hv:Nat→Value}{w:World}(hG:Good x N (look fr) (ah σ) a hv w){slot n e sz:Nat}{sh:Bool}(hs:look fr slot= .nils)(hn:ah σ n=none)(hz:0<sz):
  ∃hv',Good x N (look ((slot,.os n 0)::fr)) (ah (s6 σ n (.arr e sz sh []))) a hv' w:=by
 obtain⟨hS,hE⟩:=hG.sim.new (d:=n) (B:= .arr e sz sh []) (hd:= .slice none 0 0) (w':=w) hn rfl rfl rfl (Nat.le_refl _) (fun _ _=>rfl) (fun b hb=>by cases hb)
  (fun E _=>⟨hz,[],⟨by simp,.inl ⟨rfl,rfl⟩⟩,by simp,by simp,fun i y j u hy hu=>by simp at hy⟩)
 refine⟨upd hv n (.slice none 0 0),by rw[cr];exact hS,hG.size,hG.defers,fun t=> ?_⟩
 rw[cr]
 simp only[look]
 split
 ·rename_i hst
  subst hst
  have hr:=hG.regs slot
  rw[hs]at hr
  rw[hr.nils_inv]
  exact .os ⟨⟨none,0,rfl⟩,.arr e sz sh [],sz,0,ap _ _ _,rfl,Nat.le_refl _,fun _=>(ap _ _ _).symm⟩
 ·exact(hG.regs t).mono hE
theorem Good.lifts{x:Ctx P}{N:Nat}{a:Act}{w:World}: ∀(l:List (Nat×Nat×Nat×Nat)) {fr:AFr} {σ:ASt} {hv:Nat→Value},Good x N (look fr) (ah σ) a hv w→pu l fr σ→
  ∃hv',Good x N (look (Am.lifts l fr σ).1) (ah (Am.lifts l fr σ).2) a hv' w
 |[],_,_,hv,hG,_=>⟨hv,hG⟩
 |(slot,n,e,sz)::r,fr,σ,hv,hG,h=>by
  obtain⟨h1,h2,h3,h4⟩:=h
  obtain⟨hv1,hG1⟩:=hG.lift1 (e:=e) (sh:=false) h1 h2 h3
  exact Good.lifts r hG1 h4
def be4(P:Program)(rs:List ResultVar)(ns exts:List Nat)(r:PV)(nb ext':List Box)(fr:AFr)(σ:ASt):Prop:=
 ∃us b1 b2 us' b3,aro P fr σ rs=some us∧zi σ ns=some (nb,b1)∧bed σ exts ext' b2∧t7 σ ns exts us=some (us',b3)∧x6 ns exts (b1++(b2++b3))=true∧aqm us'=r
theorem akn{P:Program}{rs:List ResultVar}{ns exts:List Nat}{r:PV}{nb ext':List Box}{fr:AFr}{σ:ASt}(h:ayx P rs ns exts r nb ext' fr σ):be4 P rs ns exts r nb ext' fr σ:=by
 unfold ayx at h
 split at h
 ·rename_i us hus
  split at h
  ·rename_i nb0 b1 e0 b2 us' b3 h1 h2 h3
   obtain⟨hap,rfl,rfl,rfl⟩:=h
   exact⟨us,b1,b2,us',b3,hus,h1,a5v h2,h3,hap,rfl⟩
  ·exact h.elim
 ·exact h.elim
def ajm(P:Program)(rs:List ResultVar)(ns exts0 exts:List Nat)(c m:Nat)(es:List (PV×PV))(r:PV)(nb ext0':List Box)(fr:AFr)(σ:ASt):Prop:=
 match aro P fr σ rs with
 |some us=>match zi σ ns,zi σ exts0,t7 σ ns exts us with
  |some (nb0,b1),some (e0,b2),some (us',b3)=>(ah σ c=some (.cells [.mh m])∧ah σ m=some (.mp es))∧x6 ns exts (b1++(b2++b3))=true∧nb0=nb∧e0=ext0'∧aqm us'=r
  |_,_,_=>False
 |none=>False
theorem a15{P:Program}{rs:List ResultVar}{ns exts0 exts:List Nat}{c m:Nat}{es:List (PV×PV)}{r:PV}{nb ext0' ext':List Box}{fr:AFr}{σ:ASt}(hM: ∀e∈es,noH e.2)(hE:exts=exts0++[c,m])(hE':ext'=ext0'++[.cells [.mh m],.mp es])(h:ajm P rs ns exts0 exts c m es r nb ext0' fr σ):be4 P rs ns exts r nb ext' fr σ:=by
 unfold ajm at h
 split at h
 ·rename_i us hus
  split at h
  ·rename_i nb0 b1 e0 b2 us' b3 h1 h2 h3
   obtain⟨⟨hc,hm⟩,hap,rfl,rfl,rfl⟩:=h
   obtain⟨k1,k2⟩:=uh h2
   refine⟨us,b1,b2,us',b3,hus,h1,⟨by rw[hE,hE'];simp[k1],fun j n hj=> ?_⟩,h3,hap,rfl⟩
   have hjl:j<exts0.length∨j=exts0.length∨j=exts0.length+1:=by
    have:=(List.getElem?_eq_some_iff.1 hj).1
    rw[hE]at this
    simp at this
    omega
   rcases hjl with hjl|rfl|rfl
   ·rw[hE,List.getElem?_append_left hjl]at hj
    obtain⟨B,B',a,e1,e2,e3,e4⟩:=k2 j n hj
    exact⟨B,B',a,e1,by rw[hE',List.getElem?_append_left (by omega)];exact e2,.inl e3,e4⟩
   ·rw[hE,List.getElem?_append_right (by omega)]at hj
    simp at hj
    subst hj
    refine⟨_,_,[],hc,by rw[hE',List.getElem?_append_right (by omega),k1];simp,.inr ⟨rfl,rfl,.inl ⟨_,rfl,fun u hu=>⟨m,by rw[hE];simp,.inl (by simpa using hu)⟩⟩⟩,by simp⟩
   ·rw[hE,List.getElem?_append_right (by omega)]at hj
    simp at hj
    subst hj
    refine⟨_,_,[],hm,by rw[hE',List.getElem?_append_right (by omega),k1];simp,.inr ⟨rfl,rfl,.inr ⟨_,rfl,hM⟩⟩,by simp⟩
  ·exact h.elim
 ·exact h.elim
def bb0(P:Program)(rs:List ResultVar)(ns exts0 exts:List Nat)(c m:Nat)(es:List (PV×PV))(r:PV)(nb ext0':List Box):pv
 | .exit _,_,_=>False
 |_,fr,σ=>ajm P rs ns exts0 exts c m es r nb ext0' fr σ
def a5o(P:Program)(rs:List ResultVar)(exts:List Nat)(r:PV)(nb ext':List Box)(fr:AFr)(σ:ASt):Prop:=
 ∃(l:List (Nat×Nat×Nat×Nat)) (ns:List Nat),pu l fr σ∧be4 P rs ns exts r nb ext' (lifts l fr σ).1 (lifts l fr σ).2
def a9a(P:Program)(rs:List ResultVar)(exts:List Nat)(r:PV)(nb ext':List Box):pv
 | .exit _,_,_=>False
 |_,fr,σ=>a5o P rs exts r nb ext' fr σ
theorem ada{P:Program}(hm:P.follows .mixedOrders=true){k:FuncId}{fn:Func}{c:Code}{N:Nat}{rs:List ResultVar}{args:List PV}{ext:List Box}{r:PV}{nb ext':List Box}(hf:P.funcs[k]? =some fn)(hb:fn.body=some c)
  (hen: ∀as w,(callFunc k as).run P w= .ok (.enter k as) w) (hN:fn.ntmps=N) (hrs:fn.results.toList=rs) (hle:args.length≤N) {exts:List Nat} (hexts:exts=List.range' 1000000 ext'.length) (hel:ext'.length=ext.length)
  (h:W P N c (a9a P rs exts r nb ext') (ub 0 args) (r9 0 ext)):Den P k args ext r nb ext':=by
 refine⟨hen,fun w V hv gc vals hS hl hR=> ?_⟩
 refine calls_of_wp hf hb ?_
 have hG:Good (cx (P:=P) w V hv ext gc) N (look (ub 0 args)) (ah (r9 0 ext)) {tmps:=vals.toArray++Array.replicate (fn.ntmps - vals.toArray.size) undef,defers:=[]} hv w:=by
  refine⟨by rw[ahn];exact hS,by simp;omega,rfl,fun t=> ?_⟩
  rw[aab,ahn]
  simp only[Nat.zero_le,if_true,Nat.sub_zero]
  by_cases ht:t<args.length
  ·have htv:t<vals.length:=by omega
   have:=hR t _ _ (List.getElem?_eq_getElem htv) (List.getElem?_eq_getElem ht)
   rw[List.getD_eq_getElem?_getD,List.getElem?_eq_getElem ht]
   have e:(vals.toArray++Array.replicate (fn.ntmps - vals.toArray.size) undef).getD t undef=vals[t]:=by
    rw[Array.getD_eq_getD_getElem?,Array.getElem?_append_left (by simpa using htv)]
    simp[htv]
   rw[e]
   exact this
  ·rw[List.getD_eq_getElem?_getD,List.getElem?_eq_none (by omega)]
   exact .undef _
 refine wp_mono (h (cx (P:=P) w V hv ext gc) _ hv w hG) fun e a' w' hq=> ?_
 have fin:(∃fr σ hv',a5o P rs exts r nb ext' fr σ∧Good (cx (P:=P) w V hv ext gc) N (look fr) (ah σ) a' hv' w')→
   a'.defers=[]∧∃v,(results fn a'.tmps).run P w'= .ok v w'∧∃v' hv',Ending.returned v= .returned v'∧SimW (cx (P:=P) w V hv ext gc) (ec nb ext') hv' w'∧RV (env (cx (P:=P) w V hv ext gc) (ec nb ext') hv' w') v' r:=by
  rintro⟨fr0,σ0,hv0,⟨l,ns,hl0,hq⟩,hg0⟩
  obtain⟨hv',hg⟩:=hg0.lifts l hl0
  revert hq hg
  generalize (lifts l fr0 σ0).1=fr
  generalize (lifts l fr0 σ0).2=σ
  intro hq hg
  obtain⟨us,b1,b2,us',b3,hus,h1,h2,h3,hap,rfl⟩:=hq
  simp only[x6,Bool.and_eq_true,decide_eq_true_eq]at hap
  obtain⟨⟨⟨⟨a1,a2⟩,a3⟩,a4⟩,a5⟩:=hap
  obtain⟨hv2,hS2,hR2⟩:=axg (shl:=b1++(b2++b3)) hg.sim h1 h2 hexts (fun n hn=>by
    simp only[cx]at hn
    cases hq:ec [] ext n with
    |none=>rw[hq]at hn;simp at hn
    |some B=>
     rcases em hq with ⟨_,h3⟩|⟨j,rfl,hj⟩
     ·simp at h3
     ·have:=(List.getElem?_eq_some_iff.1 hj).1
      rw[hexts]
      simp[List.mem_range'_1]
      omega)
   (fun n hn=>by have:=List.all_eq_true.1 a1 n hn;simpa using this) (l9 a2) a3 (fun n hn=>by simp[hn]) (fun n hn=>by simp[hn])
   (fun n hn=>jm a4 hn) (fun n hn=>jm a5 hn)
  subst hrs
  obtain⟨vs,f1,f2,f3⟩:=aah hg hus
  obtain⟨g1,g2⟩:=agd h3
  have hall: ∀(i:Nat) (v:Value) (u':PV),vs[i]? =some v→us'[i]? =some u'→RV (env (cx (P:=P) w V hv ext gc) (ec nb ext') hv2 w') v u':=fun i v u' hv0 hu'=>by
   have hi:=(List.getElem?_eq_some_iff.1 hu').1
   rw[g1]at hi
   obtain⟨a,e1,e2⟩:=g2 i _ u' (List.getElem?_eq_getElem hi) hu'
   exact hR2 v _ u' a (f3 i v _ hv0 (List.getElem?_eq_getElem hi)) e1 fun n hn=>by simp[e2 n hn]
  refine⟨hg.defers,_,aj2 f1,_,hv2,rfl,hS2,?_⟩
  have hlen:vs.length=us'.length:=by rw[f2,g1]
  have htup:RV (env (cx (P:=P) w V hv ext gc) (ec nb ext') hv2 w') (.tuple vs.toArray) (.tup us'):=by
   refine .tup (by simpa using hlen) fun i u hu=> ?_
   have hi:=(List.getElem?_eq_some_iff.1 hu).1
   have:=hall i (vs[i]'(by omega)) u (List.getElem?_eq_getElem (by omega)) hu
   rw[i9,List.getD_eq_getElem?_getD,List.getElem?_eq_getElem (by omega)]
   exact this
  match vs,us',hlen,hall,htup with
  |[],[],_,_,ht=>exact ht
  |[v],[u],_,ha,_=>exact ha 0 v u rfl rfl
  |v::v'::r,u::u'::r',_,_,ht=>exact ht
 cases e with
 |normal=>exact fin hq
 |ret=>exact fin hq
 |exit id=>obtain⟨_,_,_,h,_⟩:=hq;exact h.elim
 |goto l=>exact hq.elim
 |panic c=>exact hq.elim
 |outgrown=>exact hq.elim
theorem aa{P:Program}(hm:P.follows .mixedOrders=true){k:FuncId}{fn:Func}{c:Code}{N:Nat}{rs:List ResultVar}{args:List PV}{ext:List Box}{r:PV}{nb ext':List Box}(hf:P.funcs[k]? =some fn)(hb:fn.body=some c)
  (hen: ∀as w,(callFunc k as).run P w= .ok (.enter k as) w) (hN:fn.ntmps=N) (hrs:fn.results.toList=rs) (hle:args.length≤N) (hc:fu N c=true) (ns:List Nat) {exts:List Nat} (hexts:exts=List.range' 1000000 ext'.length) (hel:ext'.length=ext.length)
  (h:wv P N c (bdr P rs ns exts r nb ext') (ub 0 args) (r9 0 ext)):Den P k args ext r nb ext':=by
 refine ada hm hf hb hen hN hrs hle hexts hel fun x a hv w hG=>wp_mono (fb hm c hc _ _ _ h x a hv w hG) fun e a' w' hq=> ?_
 have go: ∀fr σ,ayx P rs ns exts r nb ext' fr σ→a5o P rs exts r nb ext' fr σ:=fun fr σ h=>⟨[],ns,trivial,akn h⟩
 cases e with
 |normal=>obtain⟨fr,σ,hv',h1,h2⟩:=hq;exact⟨fr,σ,hv',go _ _ h1,h2⟩
 |ret=>obtain⟨fr,σ,hv',h1,h2⟩:=hq;exact⟨fr,σ,hv',go _ _ h1,h2⟩
 |exit id=>exact hq
 |goto l=>exact hq
 |panic c=>exact hq
 |outgrown=>exact hq
theorem rr{P:Program}(hm:P.follows .mixedOrders=true){k:FuncId}{fn:Func}{cd:Code}{N:Nat}{rs:List ResultVar}{args:List PV}{ext:List Box}{r:PV}{nb ext':List Box}(hf:P.funcs[k]? =some fn)(hb:fn.body=some cd)
  (hen: ∀as w,(callFunc k as).run P w= .ok (.enter k as) w) (hN:fn.ntmps=N) (hrs:fn.results.toList=rs) (hle:args.length≤N) (hc:fu N cd=true) (ns:List Nat) {es:List (PV×PV)} (hM: ∀e∈es,noH e.2) (exts0:List Nat) (c m:Nat) (ext0':List Box) {exts:List Nat} (hexts:exts=List.range' 1000000 ext'.length) (hel:ext'.length=ext.length)
  (hE:exts=exts0++[c,m]) (hE':ext'=ext0'++[.cells [.mh m],.mp es])
  (h:wv P N cd (bb0 P rs ns exts0 exts c m es r nb ext0') (ub 0 args) (r9 0 ext)):Den P k args ext r nb ext':=by
 refine ada hm hf hb hen hN hrs hle hexts hel fun x a hv w hG=>wp_mono (fb hm cd hc _ _ _ h x a hv w hG) fun e a' w' hq=> ?_
 have go: ∀fr σ,ajm P rs ns exts0 exts c m es r nb ext0' fr σ→a5o P rs exts r nb ext' fr σ:=fun fr σ h=>⟨[],ns,trivial,a15 hM hE hE' h⟩
 cases e with
 |normal=>obtain⟨fr,σ,hv',h1,h2⟩:=hq;exact⟨fr,σ,hv',go _ _ h1,h2⟩
 |ret=>obtain⟨fr,σ,hv',h1,h2⟩:=hq;exact⟨fr,σ,hv',go _ _ h1,h2⟩
 |exit id=>exact hq
 |goto l=>exact hq
 |panic c=>exact hq
 |outgrown=>exact hq
theorem axw{P:Program}(hm:P.follows .mixedOrders=true){k:FuncId}{fn:Func}{c:Code}{N:Nat}{rs:List ResultVar}{args:List PV}{ext:List Box}{r:PV}{nb ext':List Box}(hf:P.funcs[k]? =some fn)(hb:fn.body=some c)
  (hen: ∀as w,(callFunc k as).run P w= .ok (.enter k as) w) (hN:fn.ntmps=N) (hrs:fn.results.toList=rs) (hle:args.length≤N) (hc:fu N c=true) {exts:List Nat} (hexts:exts=List.range' 1000000 ext'.length) (hel:ext'.length=ext.length)
  (h:wv P N c (a9a P rs exts r nb ext') (ub 0 args) (r9 0 ext)):Den P k args ext r nb ext':=
 ada hm hf hb hen hN hrs hle hexts hel (fb hm c hc _ _ _ h)
theorem ax1{P:Program}{k:FuncId}{bs:List PV}(pre:List PV){ext:List Box}{r:PV}{nb ext':List Box}(h: ∀b,Den P k (pre++ .sn b::bs) ext r nb ext'):Den P k (pre++ .vs []::bs) ext r nb ext':=by
 refine⟨(h true).enter,fun w V hv gc vals hS hl hR=> ?_⟩
 have hi:pre.length<vals.length:=by rw[hl];simp
 have hva:=hR pre.length vals[pre.length] (.vs []) (List.getElem?_eq_getElem hi) (by simp)
 obtain⟨a,c,sz,U,q1,_⟩:=hva.vs_inv.vs_inv
 refine(h a.isNone).run w V hv gc vals hS (by rw[hl];simp) fun i v u hv0 hu=> ?_
 by_cases hia:i=pre.length
 ·subst hia
  rw[List.getElem?_eq_getElem hi]at hv0
  cases hv0
  simp at hu
  subst hu
  rw[q1]
  exact .pure (.sn _ c rfl)
 ·refine hR i v u hv0 ?_
  rw[←hu]
  rcases Nat.lt_or_gt_of_ne hia with h1|h1
  ·rw[List.getElem?_append_left h1,List.getElem?_append_left h1]
  ·rw[List.getElem?_append_right (by omega),List.getElem?_append_right (by omega)]
   obtain⟨m,hm⟩: ∃m,i - pre.length=m+1:=⟨i - pre.length - 1,by omega⟩
   rw[hm]
   simp
end Go.Proofs.Am

/- Stepping: rules that reckon a walk. -/
namespace Go.Proofs.Am
open Go Go.RowKit
variable {P:Program}
def bv{α:Type}(a:α)(k:α→Prop):Prop:=k a
def mk{α:Type}(a:α):α:=a
theorem be3{α:Type}(a:α):mk a=a:=(rfl)
theorem a3x{α:Type}{a b:α}{k:α→Prop}(h:mk a=b):bv a k=bv b k:=by rw[←h];rfl
theorem ben{α:Type}(a:α)(k:α→Prop):bv a k=k a:=(rfl)
def kk(K:KT)(u:PV)(δ:ASt)(F:List Nat):Prop:=bv u fun u=>bv δ fun δ=>K u δ F
theorem bei(K:KT)(u:PV)(δ:ASt)(F:List Nat):kk K u δ F=bv u fun u=>bv δ fun δ=>K u δ F:=(rfl)
def dt(xs:List (List PV))(i:Nat):List PV:=xs.getD i []
def fm(cs:List PV)(i:Nat):PV:=cs.getD i .undef
def el{α:Type} [Inhabited α](l:List α)(i:Nat):α:=l.getD i default
def evO(P:Program)(op:Op)(d:Option Nat)(fr:AFr)(σ:ASt)(K:KT):Prop:=wt P ⟨d,op,0, "", #[],none⟩ (ev fr) σ K
theorem ui(P:Program)(d:Option Nat)(op:Op)(ty:TypeId)(p:String)(af:Array Edge)(g:Option (Nat×Bool))(fr:AFr)(σ:ASt)(K:KT):wt P ⟨d,op,ty,p,af,g⟩ (ev fr) σ K=evO P op d fr σ K:=by
 unfold evO wt
 cases op<;>rfl
theorem awf(s:Nat)(u:PV)(r:AFr)(t:Nat):look ((s,u)::r) t=if s=t then u else look r t:=(rfl)
theorem a1r(t:Nat)(u:PV)(r:AFr):look ((t,u)::r) t=u:=by simp[look]
theorem baw(fr:AFr)(t:Nat):ev fr (.tmp t)=look fr t:=(rfl)
theorem a1w(fr:AFr)(v:Value):ev fr (.const v)=aar v:=(rfl)
theorem a7s(fr:AFr)(f:FuncId):ev fr (.func f)= .fn f []:=(rfl)
theorem aww(m:Nat)(B:Box)(r:ASt)(n:Nat):ah ((m,B)::r) n=if m=n then some B else ah r n:=(rfl)
theorem azc(n:Nat):ah [] n=none:=(rfl)
theorem a3c(σ:ASt):zg σ []=σ:=(rfl)
theorem ayo(σ:ASt)(n:Nat)(B:Box)(r:ASt):zg σ ((n,B)::r)=zg (s6 σ n B) r:=(rfl)
theorem a3g(n:Nat)(B:Box):s6 [] n B=[(n,B)]:=(rfl)
theorem aw4(m:Nat)(C:Box)(r:ASt)(n:Nat)(B:Box):s6 ((m,C)::r) n B=if m=n then(n,B)::r else(m,C)::s6 r n B:=(rfl)
theorem axp(b:Bool):aar (.bool b)= .bool b:=(rfl)
theorem a2q(k:IntKind)(n:Int):aar (.int k n)= .int k n:=(rfl)
theorem azg(s:ByteArray):aar (.string s)= .str s.data.toList:=(rfl)
theorem avp:aar (.pointer none)= .nilp:=(rfl)
theorem au6:aar (.slice none 0 0)= .nils:=(rfl)
theorem aur:aar (.map none)= .nilm:=(rfl)
def nx(P:Program)(all:Array Oper)(r:List Oper)(fr:AFr)(d:Option Nat)(u:PV)(σ δ:ASt)(K:AFr→ASt→Prop):Prop:=mo P all r (ahw fr d u) (zg σ δ) K
theorem aks(P:Program)(all:Array Oper)(r:List Oper)(fr:AFr)(d:Nat)(u:PV)(σ:ASt)(K:AFr→ASt→Prop):nx P all r fr (some d) u σ [] K=mo P all r ((d,u)::fr) σ K:=(rfl)
theorem ahq(P:Program)(all:Array Oper)(r:List Oper)(fr:AFr)(d:Nat)(u:PV)(σ:ASt)(p:Nat×Box)(δ:ASt)(K:AFr→ASt→Prop):
  nx P all r fr (some d) u σ (p::δ) K=bv (zg σ (p::δ)) fun σ=>mo P all r ((d,u)::fr) σ K:=(rfl)
theorem ag1(P:Program)(all:Array Oper)(r:List Oper)(fr:AFr)(u:PV)(σ:ASt)(p:Nat×Box)(δ:ASt)(K:AFr→ASt→Prop):
  nx P all r fr none u σ (p::δ) K=bv (zg σ (p::δ)) fun σ=>mo P all r fr σ K:=(rfl)
theorem ar9(P:Program)(all:Array Oper)(fr:AFr)(σ:ASt)(K:AFr→ASt→Prop):mo P all [] fr σ K=K fr σ:=(rfl)
theorem aqd(P:Program)(all:Array Oper)(d:Option Nat)(op:Op)(ty:TypeId)(p:String)(af:Array Edge)(r:List Oper)(fr:AFr)(σ:ASt)(K:AFr→ASt→Prop):
  mo P all (⟨d,op,ty,p,af,none⟩::r) fr σ K=evO P op d fr σ fun u δ _=>nx P all r fr d u σ δ K:=by
 simp only[mo]
 rw[ui]
 rfl
def vG(P:Program)(all:Array Oper)(op:Op)(d:Option Nat)(r:List Oper)(fr:AFr)(σ:ASt)(K:AFr→ASt→Prop)(t:Nat)(want:Bool):PV→Prop
 | .bool b=>(b=want→evO P op d ((t,.bool want)::fr) σ fun u δ _=>nx P all r ((t,.bool want)::fr) d u σ δ K)∧(b= !want→nx P all r ((t,.bool (!want))::fr) d (.tup []) σ [] K)
 | .tup []=>nx P all r fr d (.tup []) σ [] K
 |_=>False
theorem aoj(P:Program)(all:Array Oper)(d:Option Nat)(op:Op)(ty:TypeId)(p:String)(af:Array Edge)(j:Nat)(want:Bool)(r:List Oper)(fr:AFr)(σ:ASt)(K:AFr→ASt→Prop):
  mo P all (⟨d,op,ty,p,af,some (j,want)⟩::r) fr σ K=bv (jb all j) fun t=>match t with|some t=>bv (look fr t) fun u=>vG P all op d r fr σ K t want u|none=>False:=by
 simp only[mo,bv]
 cases jb all j with
 |none=>rfl
 |some t=>
  simp only
  cases look fr t with
  |tup cs=>cases cs<;>simp only[vG]<;>rfl
  |bool b=>simp only[vG,ui];rfl
  |_=>simp only[vG]
theorem aqh(o:Oper)(l:List Oper):jb (List.toArray (o::l)) 0=o.dst:=(rfl)
theorem apa(o:Oper)(l:List Oper)(j:Nat):jb (List.toArray (o::l)) (j+1)=jb (List.toArray l) j:=by simp[jb]
theorem ajf(P:Program)(all:Array Oper)(op:Op)(d:Option Nat)(r:List Oper)(fr:AFr)(σ:ASt)(K:AFr→ASt→Prop)(t:Nat)(want b:Bool):vG P all op d r fr σ K t want (.bool b)=
  ((b=want→evO P op d ((t,.bool want)::fr) σ fun u δ _=>nx P all r ((t,.bool want)::fr) d u σ δ K)∧(b= !want→bv (PV.bool (!want)) fun v=>nx P all r ((t,v)::fr) d (.tup []) σ [] K)):=(rfl)
theorem a6c(P:Program)(all:Array Oper)(op:Op)(d:Option Nat)(r:List Oper)(fr:AFr)(σ:ASt)(K:AFr→ASt→Prop)(t:Nat)(want:Bool):vG P all op d r fr σ K t want (.tup [])=nx P all r fr d (.tup []) σ [] K:=(rfl)
def nxD(P:Program)(all:Array Oper)(r:List Oper)(fr:AFr)(d:Option Nat)(u:PV)(σ δ:ASt)(g:Log)(F:List Nat)(K:AFr→ASt→Log→Prop):Prop:=evD P all r (ahw fr d u) (zg σ δ) ((δ.map (·.1),F)::g) K
theorem agh(P:Program)(all:Array Oper)(r:List Oper)(fr:AFr)(d:Nat)(u:PV)(σ:ASt)(g:Log)(F:List Nat)(K:AFr→ASt→Log→Prop):nxD P all r fr (some d) u σ [] g F K=evD P all r ((d,u)::fr) σ (([],F)::g) K:=(rfl)
theorem adh(P:Program)(all:Array Oper)(r:List Oper)(fr:AFr)(d:Nat)(u:PV)(σ:ASt)(p:Nat×Box)(δ:ASt)(g:Log)(F:List Nat)(K:AFr→ASt→Log→Prop):
  nxD P all r fr (some d) u σ (p::δ) g F K=bv ((p::δ).map (·.1)) fun m=>bv (zg σ (p::δ)) fun σ=>evD P all r ((d,u)::fr) σ ((m,F)::g) K:=(rfl)
theorem ab1(P:Program)(all:Array Oper)(r:List Oper)(fr:AFr)(u:PV)(σ:ASt)(p:Nat×Box)(δ:ASt)(g:Log)(F:List Nat)(K:AFr→ASt→Log→Prop):
  nxD P all r fr none u σ (p::δ) g F K=bv ((p::δ).map (·.1)) fun m=>bv (zg σ (p::δ)) fun σ=>evD P all r fr σ ((m,F)::g) K:=(rfl)
theorem a5p(P:Program)(all:Array Oper)(fr:AFr)(σ:ASt)(g:Log)(K:AFr→ASt→Log→Prop):evD P all [] fr σ g K=K fr σ g:=(rfl)
theorem a2j(P:Program)(all:Array Oper)(d:Option Nat)(op:Op)(ty:TypeId)(p:String)(af:Array Edge)(r:List Oper)(fr:AFr)(σ:ASt)(g:Log)(K:AFr→ASt→Log→Prop):
  evD P all (⟨d,op,ty,p,af,none⟩::r) fr σ g K=(fa op=false∧evO P op d fr σ fun u δ F=>bv F fun F=>nxD P all r fr d u σ δ g F K):=by
 simp only[evD]
 rw[ui]
 rfl
def vGD(P:Program)(all:Array Oper)(op:Op)(d:Option Nat)(r:List Oper)(fr:AFr)(σ:ASt)(g:Log)(K:AFr→ASt→Log→Prop)(t:Nat)(want:Bool):PV→Prop
 | .bool b=>(b=want→evO P op d ((t,.bool want)::fr) σ fun u δ F=>bv F fun F=>nxD P all r ((t,.bool want)::fr) d u σ δ g F K)∧(b= !want→evD P all r (ahw ((t,.bool (!want))::fr) d (.tup [])) σ (([],[])::g) K)
 | .tup []=>nxD P all r fr d (.tup []) σ [] g [] K
 |_=>False
theorem a1z(P:Program)(all:Array Oper)(d:Option Nat)(op:Op)(ty:TypeId)(p:String)(af:Array Edge)(j:Nat)(want:Bool)(r:List Oper)(fr:AFr)(σ:ASt)(g:Log)(K:AFr→ASt→Log→Prop):
  evD P all (⟨d,op,ty,p,af,some (j,want)⟩::r) fr σ g K=(fa op=false∧bv (jb all j) fun t=>match t with|some t=>bv (look fr t) fun u=>vGD P all op d r fr σ g K t want u|none=>False):=by
 simp only[evD,bv]
 cases jb all j with
 |none=>rfl
 |some t=>
  simp only
  cases look fr t with
  |tup cs=>cases cs<;>simp only[vGD]<;>rfl
  |bool b=>simp only[vGD,ui];rfl
  |_=>simp only[vGD]
theorem adg(P:Program)(all:Array Oper)(op:Op)(d:Option Nat)(r:List Oper)(fr:AFr)(σ:ASt)(g:Log)(K:AFr→ASt→Log→Prop)(t:Nat)(want b:Bool):vGD P all op d r fr σ g K t want (.bool b)=
  ((b=want→evO P op d ((t,.bool want)::fr) σ fun u δ F=>bv F fun F=>nxD P all r ((t,.bool want)::fr) d u σ δ g F K)∧(b= !want→bv (PV.bool (!want)) fun v=>nxD P all r ((t,v)::fr) d (.tup []) σ [] g [] K)):=(rfl)
theorem a26(P:Program)(all:Array Oper)(op:Op)(d:Option Nat)(r:List Oper)(fr:AFr)(σ:ASt)(g:Log)(K:AFr→ASt→Log→Prop)(t:Nat)(want:Bool):vGD P all op d r fr σ g K t want (.tup [])=nxD P all r fr d (.tup []) σ [] g [] K:=(rfl)
section
variable (P:Program) (d:Option Nat) (fr:AFr) (σ:ASt) (K:KT)
theorem qn{α:Type} [Inhabited α](f:α→List PV)(l:List α)(i:Nat)(h:i<l.length):dt (l.map f) i=f (el l i):=by
 simp[dt,el,List.getD_eq_getElem?_getD,h]
theorem aqq(u:PV)(r:List PV):fm (u::r) 0=u:=(rfl)
theorem aqw(u:PV)(r:List PV)(i:Nat):fm (u::r) (i+1)=fm r i:=(rfl)
theorem aqr(u:List PV)(r:List (List PV)):dt (u::r) 0=u:=(rfl)
theorem an4(u:List PV)(r:List (List PV))(i:Nat):dt (u::r) (i+1)=dt r i:=(rfl)
theorem aza(x:Operand):evO P (.move x) d fr σ K=kk K (ev fr x) [] []:=(rfl)
theorem apc(x:Operand):evO P (.assign x) d fr σ K=kk K (ev fr x) [] []:=(rfl)
def a8n(fr:AFr)(a b:Operand)(K:KT):PV→Prop
 | .bool t=>(t=true→kk K (ev fr a) [] [])∧(t=false→kk K (ev fr b) [] [])
 |_=>False
theorem azq(c a b:Operand):evO P (.pick c a b) d fr σ K=bv (ev fr c) (a8n fr a b K):=by
 simp only[evO,wt,bv]
 cases ev fr c<;>rfl
theorem zh(a b:Operand)(t:Bool):a8n fr a b K (.bool t)=((t=true→kk K (ev fr a) [] [])∧(t=false→kk K (ev fr b) [] [])):=(rfl)
def bf8(K:KT):PV→Prop
 | .ptr n k=>K (.ptr n k) [] []
 | .el cs=>K (.el cs) [] []
 |_=>False
theorem agw(x:Operand):evO P (.nilCheck x) d fr σ K=bv (ev fr x) (bf8 K):=by
 simp only[evO,wt,bv]
 cases ev fr x<;>rfl
theorem a2m(n k:Nat):bf8 K (.ptr n k)=K (.ptr n k) [] []:=(rfl)
def bgb(i:Nat)(K:KT):PV→Prop
 | .tup us=>i<us.length∧kk K (fm us i) [] []
 |_=>False
theorem ajl(t:Operand)(i:Nat):evO P (.extract t i) d fr σ K=bv (ev fr t) (bgb i K):=by
 simp only[evO,wt,bv]
 cases ev fr t<;>rfl
theorem a1k(i:Nat)(us:List PV):bgb i K (.tup us)=(i<us.length∧kk K (fm us i) [] []):=(rfl)
theorem avn(t:TypeId)(d:Nat):evO P (.alloc t) (some d) fr σ K=bv (bf P t) fun z=>match z with|some zs=>ah σ d=none∧K (.ptr d 0) [(d,.cells zs)] [d]|none=>False:=by
 simp only[evO,wt,bv]
 cases bf P t<;>rfl
theorem a79(t:TypeId)(x:Operand)(d:Nat):evO P (.box t x) (some d) fr σ K=bv (d6 (ev fr x)) fun z=>match z with|some us=>ah σ d=none∧K (.ptr d 0) [(d,.cells us)] [d]|none=>False:=by
 simp only[evO,wt,bv]
 cases d6 (ev fr x)<;>rfl
def a0b(fr:AFr):List (Nat×Operand)→List (Nat×PV)
 |[]=>[]
 |(i,x)::r=>(i,ev fr x)::a0b fr r
theorem amj(l:List (Nat×Operand)):(l.map fun p=>(p.1,ev fr p.2))=a0b fr l:=by
 induction l with
 |nil=>rfl
 |cons p r ih=>obtain⟨i,x⟩:=p;simp only[List.map_cons,a0b,ih]
theorem a2r:a0b fr []=[]:=(rfl)
theorem ayj(i:Nat)(x:Operand)(r:List (Nat×Operand)):a0b fr ((i,x)::r)=(i,ev fr x)::a0b fr r:=(rfl)
theorem ax5(t:TypeId)(ps:List (Nat×Operand)):evO P (.build t ps.toArray) d fr σ K=bv (xd P t (a0b fr ps)) fun z=>match z with|some cs=>K (.agg cs) [] []|none=>False:=by
 simp only[evO,wt,bv,amj]
 cases xd P t (a0b fr ps)<;>rfl
theorem y8(t:TypeId)(n:Nat)(ps:List (Nat×Operand)):evO P (.buildSlice t n ps.toArray) d fr σ K=bv (a0b fr ps) fun z=>iw P t n z d σ K:=by
 simp only[evO,wt,bv,amj]
theorem a0m(t:TypeId)(a:Operand):evO P (.load t a) d fr σ K=bv (ev fr a) fun u=>o6 P t σ u K:=(rfl)
theorem aw3(t:TypeId)(a v:Operand):evO P (.store t a v) d fr σ K=bv (ev fr a) fun u=>bv (ev fr v) fun v=>l8 P t σ u v K:=(rfl)
theorem ac8(t:TypeId)(x:Operand)(f:Nat):evO P (.fieldAddr t x f) d fr σ K=bv (ev fr x) fun u=>fj P t f σ u K:=(rfl)
theorem acj(t:TypeId)(x i:Operand):evO P (.indexAddr t x i) d fr σ K=bv (ev fr x) fun u=>bv (ev fr i) fun v=>bt P t σ u v K:=(rfl)
theorem as8(t:TypeId)(x i:Operand):evO P (.index t x i) d fr σ K=bv (ev fr x) fun u=>bv (ev fr i) fun v=>nc P t u v K:=(rfl)
theorem axo(op:BinOp)(t:TypeId)(x y:Operand)(yt:TypeId):evO P (.binOp op t x y yt) d fr σ K=bv (ev fr x) fun u=>bv (ev fr y) fun v=>f8 P op t u v fun u=>kk K u [] []:=(rfl)
theorem azi(op:UnOp)(t:TypeId)(x:Operand):evO P (.unOp op t x) d fr σ K=bv (ev fr x) fun u=>a7o op u fun u=>kk K u [] []:=(rfl)
theorem aji(s e:TypeId)(x:Operand):evO P (.convert s e x) d fr σ K=bv (ev fr x) fun u=>pg P s e d σ u fun u δ F=>kk K u δ F:=(rfl)
theorem ast(t:TypeId)(x:Operand)(lo hi mx:Option Operand):evO P (.slice t x lo hi mx) d fr σ K=bv (ev fr x) fun u=>bv (lo.map (ev fr)) fun lo=>bv (hi.map (ev fr)) fun hi=>bv (mx.map (ev fr)) fun mx=>ip P t σ u lo hi mx fun u δ F=>kk K u δ F:=(rfl)
theorem acz(t:TypeId)(l c:Operand):evO P (.makeSlice t l c) d fr σ K=bv (ev fr l) fun u=>bv (ev fr c) fun v=>r8 P t d σ u v fun u δ F=>kk K u δ F:=(rfl)
def a3d(fr:AFr):List Operand→List PV
 |[]=>[]
 |x::r=>ev fr x::a3d fr r
theorem adn(l:List Operand):l.map (ev fr)=a3d fr l:=by
 induction l with
 |nil=>rfl
 |cons x r ih=>simp only[List.map_cons,a3d,ih]
theorem azn:a3d fr []=[]:=(rfl)
theorem at2(x:Operand)(r:List Operand):a3d fr (x::r)=ev fr x::a3d fr r:=(rfl)
theorem afl(f:FuncId)(cap:List Operand):evO P (.makeFunc (.func f) #[] cap.toArray) d fr σ K=bv (a3d fr cap) fun us=>K (.fn f us) [] []:=by
 simp only[evO,wt,bv,adn,a74]
theorem a33(f:Operand)(ys:List Operand)(ts:Array TypeId):evO P (.call ⟨.value f,ys.toArray,ts⟩) d fr σ K=bv (ev fr f) fun f=>bv (a3d fr ys) fun us=>wc P f us d σ fun u δ F=>kk K u δ F:=by
 simp only[evO,wt,bv,adn,bdh]
 rfl
theorem ant(r:Operand)(name:String)(ys:List Operand)(ts:Array TypeId):evO P (.call ⟨.invoke r name,ys.toArray,ts⟩) d fr σ K=bv (ev fr r) fun r=>bv (a3d fr ys) fun us=>aym P r name us d σ fun u δ F=>kk K u δ F:=by
 simp only[evO,wt,bv,adn,bdh]
 rfl
theorem a85(t:TypeId)(x:Operand):evO P (.makeInterface t x) d fr σ K=bv (ev fr x) fun u=>ay6 P t σ u fun u δ F=>kk K u δ F:=(rfl)
theorem aru(t:TypeId)(u:PV)(name:String)(us:List PV):aym P (.ifc t u) name us d σ K=bv (aoh P t name) fun m=>match m with
  |some f=>wc P (.fn f []) (u::us) d σ K
  |none=>False:=(rfl)
theorem aue(t:TypeId)(cs:List PV):ay6 P t σ (.agg cs) K=(ifT P t=true∧bv (ig σ cs) fun p=>match p with
  |some (us,[])=>K (.ifc t (.agg us)) [] []
  |_=>False):=(rfl)
theorem a6r(y:Operand)(t:TypeId):evO P (.call ⟨.builtin .len, #[y], #[t]⟩) d fr σ K=bv (ev fr y) fun u=>qc P t σ u K:=(rfl)
theorem avw(y:Operand)(t:TypeId):evO P (.call ⟨.builtin .clear, #[y], #[t]⟩) d fr σ K=bv (ev fr y) fun u=>api P t σ u K:=(rfl)
theorem anq(y z:Operand)(t tx:TypeId):evO P (.call ⟨.builtin .append, #[y,z], #[t,tx]⟩) d fr σ K=bv (ev fr y) fun u=>bv (ev fr z) fun v=>aak P t tx d σ u v fun u δ F=>kk K u δ F:=(rfl)
theorem a88(y z:Operand)(ts:Array TypeId):evO P (.call ⟨.builtin .min, #[y,z],ts⟩) d fr σ K=bv (ev fr y) fun u=>bv (ev fr z) fun v=>a9n false u v fun u δ F=>kk K u δ F:=(rfl)
theorem apt(t:TypeId)(n off:Nat):o6 P t σ (.ptr n off) K=bv (ldT P t) fun l=>bv (ah σ n) fun B=>match l,B with
  |some none,some (.cells cs)=>off<cs.length∧kk K (fm cs off) [] [n]
  |some (some m),some (.cells cs)=>off+m≤cs.length∧kk K (.agg ((cs.drop off).take m)) [] [n]
  |_,_=>False:=by
 simp only[o6,bv,kk,dt,fm]
 rcases ldT P t with _|_|m<;>(try rfl)<;>rcases ah σ n with _|B<;>(try rfl)<;>cases B<;>rfl
theorem awe(t:TypeId)(cs:List PV):o6 P t σ (.el cs) K=bv (ldT P t) fun l=>match l with
  |some none=>0<cs.length∧kk K (fm cs 0) [] []
  |some (some m)=>m≤cs.length∧kk K (.agg (cs.take m)) [] []
  |none=>False:=by
 simp only[o6,bv,kk,dt,fm]
 rcases ldT P t with _|_|m<;>rfl
def arn(n k i off:Nat)(K:KT):Option (Option Nat)→Option Box→Prop
 |some none,some (.arr _ _ _ xs)=>(k=xs.length∧i<k∧off<(dt xs i).length)∧kk K (fm (dt xs i) off) [] [n]
 |some (some m),some (.arr _ _ _ xs)=>(k=xs.length∧i<k∧off+m≤(dt xs i).length)∧kk K (.agg (((dt xs i).drop off).take m)) [] [n]
 |some none,some (.arh _ _ xs)=>(k=xs.length∧i<k∧off<(dt xs i).length)∧kk K (fm (dt xs i) off) [] [n]
 |some (some m),some (.arh _ _ xs)=>(k=xs.length∧i<k∧off+m≤(dt xs i).length)∧kk K (.agg (((dt xs i).drop off).take m)) [] [n]
 |_,_=>False
theorem aol(t:TypeId)(n k i off:Nat):o6 P t σ (.oel n k i off) K=bv (ldT P t) fun l=>bv (ah σ n) fun B=>arn n k i off K l B:=by
 simp only[o6,bv,kk]
 rcases ldT P t with _|_|m<;>(try rfl)<;>rcases ah σ n with _|B<;>(try rfl)<;>cases B<;>first|rfl|simp only[arn,kk,bv,dt,fm,and_assoc]
theorem a0k(n k i off e sz:Nat)(sh:Bool)(xs:List (List PV)):arn n k i off K (some none) (some (.arr e sz sh xs))=((k=xs.length∧i<k∧off<(dt xs i).length)∧kk K (fm (dt xs i) off) [] [n]):=(rfl)
theorem ax4(n k i off e sz:Nat)(xs:List (List PV)):arn n k i off K (some none) (some (.arh e sz xs))=((k=xs.length∧i<k∧off<(dt xs i).length)∧kk K (fm (dt xs i) off) [] [n]):=(rfl)
theorem yi(t:TypeId)(n off:Nat)(v:PV):l8 P t σ (.ptr n off) v K=bv (d7 P t) fun m=>bv (d6 v) fun us=>bv (ah σ n) fun B=>match m,us,B with
  |some m,some us,some (.cells cs)=>(us.length=m∧us.all ge=true∧off+m≤cs.length)∧kk K .undef [(n,.cells (cs.take off++us++cs.drop (off+m)))] [n]
  |_,_,_=>False:=by
 simp only[l8,bv,kk,dt,fm]
 rcases d7 P t with _|m<;>(try rfl)<;>rcases d6 v with _|us<;>(try rfl)<;>rcases ah σ n with _|B<;>(try (simp only[and_false];done))<;>cases B<;>simp only[and_assoc,and_false]
def air(σ:ASt)(n k i off:Nat)(K:KT):Option Nat→Option (List PV)→Option Box→Prop
 |some m,some us,some (.arr e sz false xs)=>match ig σ us with
   |some (us',ns)=>(us.length=m∧us.all ge=true∧k=xs.length∧i<k∧off+m≤sz∧n∉ns)∧kk K .undef (dm σ ns++[(n,.arr e sz false (xs.set i ((dt xs i).take off++us'++(dt xs i).drop (off+m))))]) (n::ns)
   |none=>False
 |some m,some us,some (.arh e sz xs)=>(us.length=m∧us.all ge=true∧k=xs.length∧i<k∧off+m≤sz)∧kk K .undef [(n,.arh e sz (xs.set i ((dt xs i).take off++us++(dt xs i).drop (off+m))))] [n]
 |_,_,_=>False
theorem aj8(t:TypeId)(n k i off:Nat)(v:PV):l8 P t σ (.oel n k i off) v K=bv (d7 P t) fun m=>bv (d6 v) fun us=>bv (ah σ n) fun B=>air σ n k i off K m us B:=by
 simp only[l8,bv,kk]
 rcases d7 P t with _|m<;>(try rfl)<;>rcases d6 v with _|us<;>(try rfl)<;>rcases ah σ n with _|B<;>(try (simp only[air,and_false];done))<;>cases B with
 |cells cs=>simp only[air,and_false]
 |arr e sz sh xs=>cases sh<;>simp only[air,and_false]<;>rcases ig σ us with _|⟨us',ns⟩<;>simp only[kk,bv,dt,and_assoc,and_false]
 |arh e sz xs=>simp only[air,kk,bv,dt,and_assoc]
 |mp es=>simp only[air,and_false]
 |it m k d=>simp only[air,and_false]
 |si l p=>simp only[air,and_false]
 |dead sz l=>simp only[air,and_false]
theorem bbu(n k i off m e sz:Nat)(us:List PV)(xs:List (List PV)):air σ n k i off K (some m) (some us) (some (.arh e sz xs))=((us.length=m∧us.all ge=true∧k=xs.length∧i<k∧off+m≤sz)∧bv (dt xs i) fun c=>bv (xs.set i (c.take off++us++c.drop (off+m))) fun xs'=>kk K .undef [(n,.arh e sz xs')] [n]):=(rfl)
theorem ak5(n k i off m e sz:Nat)(us:List PV)(xs:List (List PV)):air σ n k i off K (some m) (some us) (some (.arr e sz false xs))=bv (ig σ us) fun p=>match p with
   |some (us',ns)=>(us.length=m∧us.all ge=true∧k=xs.length∧i<k∧off+m≤sz∧n∉ns)∧kk K .undef (dm σ ns++[(n,.arr e sz false (xs.set i ((dt xs i).take off++us'++(dt xs i).drop (off+m))))]) (n::ns)
   |none=>False:=by
 simp only[air,bv]
theorem a3o{α:Type} [Inhabited α](f:α→List PV)(l:List α)(n k i off m e sz:Nat)(us:List PV):air σ n k i off K (some m) (some us) (some (.arr e sz false (l.map f)))=bv (ig σ us) fun p=>match p with
   |some (us',ns)=>(us.length=m∧us.all ge=true∧k=l.length∧i<k∧off+m≤sz∧n∉ns)∧bv (f (el l i)) fun c=>bv ((l.map f).set i (c.take off++us'++c.drop (off+m))) fun xs'=>kk K .undef (dm σ ns++[(n,.arr e sz false xs')]) (n::ns)
   |none=>False:=by
 rw[ak5]
 simp only[bv]
 rcases ig σ us with _|⟨us',ns⟩
 ·rfl
 ·simp only[List.length_map,and_assoc]
  refine propext (and_congr_right fun _=>and_congr_right fun _=>and_congr_right fun h1=>and_congr_right fun h2=> ?_)
  rw[qn f l i (by omega)]
theorem aij(t:TypeId)(f n k:Nat):fj P t f σ (.ptr n k) K=bv (fo P t f) fun o=>match o with|some off=>bv (k+off) fun k=>K (.ptr n k) [] []|none=>False:=(rfl)
theorem ap6(t:TypeId)(f:Nat)(cs:List PV):fj P t f σ (.el cs) K=bv (fo P t f) fun o=>match o with|some off=>kk K (.el (cs.drop off)) [] []|none=>False:=(rfl)
theorem ai2(t:TypeId)(f n k i o1:Nat):fj P t f σ (.oel n k i o1) K=bv (fo P t f) fun o=>bv (ah σ n) fun B=>match o,B with
  |some off,some (.arr _ _ _ xs)=>(k=xs.length∧i<k)∧bv (o1+off) fun o=>K (.oel n k i o) [] [n]
  |some off,some (.arh _ _ xs)=>(k=xs.length∧i<k)∧bv (o1+off) fun o=>K (.oel n k i o) [] [n]
  |_,_=>False:=by
 simp only[fj,bv]
 rcases fo P t f with _|off<;>(try rfl)<;>rcases ah σ n with _|B<;>(try rfl)<;>cases B<;>first|rfl|simp only[and_assoc]
theorem amm(t:TypeId)(xs:List (List PV))(kd:IntKind)(i:Int):bt P t σ (.vs xs) (.int kd i) K=bv (slT P t) fun s=>match s with
  |some (_,sz,_)=>(0≤i∧i<xs.length)∧(dt xs i.toNat).length=sz∧kk K (.el (dt xs i.toNat)) [] []
  |none=>False:=by
 simp only[bt,bv,kk,dt,fm]
 rcases slT P t with _|⟨e,sz,b⟩<;>first|rfl|simp only[and_assoc]
theorem a0r(t:TypeId)(n m:Nat)(kd:IntKind)(i:Int):bt P t σ (.os n m) (.int kd i) K=bv (slT P t) fun s=>bv (ah σ n) fun B=>match s,B with
  |some (_,sz,_),some (.arr _ sz' _ xs)=>(sz'=sz∧m=xs.length∧0≤i∧i<xs.length)∧kk K (.oel n m i.toNat 0) [] [n]
  |some (_,sz,_),some (.arh _ sz' xs)=>(sz'=sz∧m=xs.length∧0≤i∧i<xs.length)∧kk K (.oel n m i.toNat 0) [] [n]
  |_,_=>False:=by
 simp only[bt,bv,kk,dt,fm]
 rcases slT P t with _|⟨e,sz,b⟩<;>(try rfl)<;>rcases ah σ n with _|B<;>(try rfl)<;>cases B<;>first|rfl|simp only[and_assoc]
theorem awp(t:TypeId)(n m a:Nat)(kd:IntKind)(i:Int):bt P t σ (.osl n m a) (.int kd i) K=bv (slT P t) fun s=>bv (ah σ n) fun B=>match s,B with
  |some (_,sz,_),some (.arh _ sz' xs)=>(sz'=sz∧m=xs.length∧0≤i∧a+i<xs.length)∧kk K (.oel n m (a+i.toNat) 0) [] [n]
  |_,_=>False:=by
 simp only[bt,bv,kk,dt,fm]
 rcases slT P t with _|⟨e,sz,b⟩<;>(try rfl)<;>rcases ah σ n with _|B<;>(try rfl)<;>cases B<;>first|rfl|simp only[and_assoc]
theorem axd(t:TypeId)(n m:Nat)(kd:IntKind)(i:Int):bt P t σ (.ptr n m) (.int kd i) K=bv (arT P t) fun s=>match s with
  |some (len,sz)=>(0≤i∧i<len)∧kk K (.ptr n (m+i.toNat*sz)) [] []
  |none=>False:=by
 simp only[bt,bv,kk,dt,fm]
 rcases arT P t with _|⟨len,sz⟩<;>first|rfl|simp only[and_assoc]
theorem aj7(t:TypeId)(cs:List PV)(kd:IntKind)(n:Int):nc P t (.agg cs) (.int kd n) K=bv (tz P t) fun s=>match s with
  |some (len,e)=>bv (ke P e) fun r=>bv (d7 P e) fun z=>(r=some false∧z=some 1)∧(0≤n∧n<len∧n<cs.length)∧kk K (fm cs n.toNat) [] []
  |none=>False:=by
 simp only[nc,bv,kk,dt,fm]
 cases h:tz P t with
 |none=>simp
 |some p=>
  obtain⟨len,e⟩:=p
  apply propext
  constructor
  ·rintro⟨l,e',h1,h2,h3,h4,h5,h6,h7⟩
   cases h1
   exact⟨⟨h2,h3⟩,⟨h4,h5,h6⟩,h7⟩
  ·rintro⟨⟨h2,h3⟩,⟨h4,h5,h6⟩,h7⟩
   exact⟨len,e,rfl,h2,h3,h4,h5,h6,h7⟩
theorem ai7(t:TypeId)(l:List UInt8)(kd:IntKind)(n:Int):nc P t (.str l) (.int kd n) K=bv (gl P t) fun s=>s=true∧(0≤n∧n<l.length)∧kk K (.int .u8 ((l.getD n.toNat 0).toNat:Int)) [] []:=by
 simp only[nc,bv,kk,and_assoc]
theorem ar6(t:TypeId)(l:List UInt8):uc P t σ (.str l) K=bv (gl P t) fun s=>s=true∧kk K (.int .i64 l.length) [] []:=(rfl)
theorem a09(t:TypeId)(xs:List (List PV)):uc P t σ (.vs xs) K=bv (bg P t) fun s=>s=true∧kk K (.int .i64 xs.length) [] []:=(rfl)
theorem ay2(t:TypeId)(n k:Nat):uc P t σ (.os n k) K=bv (ah σ n) fun B=>bv (bg P t) fun s=>match B with
  |some (.arr _ _ _ xs)=>(k=xs.length∧s=true)∧kk K (.int .i64 k) [] [n]
  |some (.arh _ _ xs)=>(k=xs.length∧s=true)∧kk K (.int .i64 k) [] [n]
  |_=>False:=by
 simp only[uc,bv,kk,dt,fm]
 rcases ah σ n with _|B<;>(try rfl)<;>cases B<;>first|rfl|simp only[and_assoc]
theorem as9(t:TypeId)(n k i:Nat):uc P t σ (.osl n k i) K=bv (bg P t) fun s=>s=true∧kk K (.int .i64 ((k - i:Nat):Int)) [] []:=(rfl)
theorem aig(s e:TypeId)(k:IntKind)(n:Int):pg P s e d σ (.int k n) K=qo P s e σ (.int k n) K:=(rfl)
theorem anv(s e:TypeId)(n k:Nat):pg P s e d σ (.os n k) K=qo P s e σ (.os n k) K:=(rfl)
def bgc(d e:Nat)(l:List UInt8)(K:KT):Prop:=kk K (.os d l.length) [(d,.arr e 1 false (bj l))] [d]
theorem ajj(s e:TypeId)(l:List UInt8)(d:Nat):pg P s e (some d) σ (.str l) K=bv (gl P e) fun q=>bv (ki P s) fun z=>bv (gl P s) fun p=>bv (jq P e) fun y=>bv (da P e) fun el=>if q=true then z=true∧K (.str l) [] []else match el with
  |some t=>p=true∧y=true∧bv (ah σ d) (fun B=>B=none)∧l.length≤140737488355328∧bgc d t l K
  |none=>False:=(rfl)
theorem aqo(s e:TypeId)(k:IntKind)(n:Int):qo P s e σ (.int k n) K=bv (oa P e) fun q=>bv (ki P s) fun z=>match q with|some k'=>z=true∧K (.int k' (k'.wrap n)) [] []|none=>False:=(rfl)
theorem as2(s e:TypeId)(n k:Nat):qo P s e σ (.os n k) K=bv (ah σ n) fun B=>bv (jq P s) fun q=>bv (gl P e) fun p=>match B with
  |some (.arr _ _ _ xs)=>(k=xs.length∧q=true∧p=true)∧∃l,xs=bj l∧K (.str l) [] [n]
  |_=>False:=by
 simp only[qo,bv]
 rcases ah σ n with _|B<;>(try rfl)<;>cases B<;>first|rfl|simp only[and_assoc]
theorem ayi(t:TypeId)(n:Nat):qc P t σ (.mh n) K=bv (ah σ n) fun B=>bv (aev P t) fun m=>match B,m with
  |some (.mp es),some _=>kk K (.int .i64 es.length) [] [n]
  |_,_=>False:=(rfl)
theorem aof(t:TypeId)(l:List UInt8):qc P t σ (.str l) K=uc P t σ (.str l) K:=(rfl)
theorem av4(t:TypeId)(xs:List (List PV)):qc P t σ (.vs xs) K=uc P t σ (.vs xs) K:=(rfl)
theorem arw(t:TypeId)(n k:Nat):qc P t σ (.os n k) K=uc P t σ (.os n k) K:=(rfl)
def bcs(ok:Bool)(n:Nat)(q:PV)(K:KT):Option Box→Option (TypeId×TypeDesc×TypeId)→(TypeId→Option PV)→Prop
 |some (.mp es),some (_,dk,e),zv=>bv (nq dk q) fun b=>bv (gu q es 0) fun r=>bv (zv e) fun z=>match r,z with
  |some r,some z=>b=true∧kk K (aus es z ok r) [] [n]
  |_,_=>False
 |_,_,_=>False
theorem aou(t:TypeId)(x i:Operand)(ok:Bool):evO P (.lookup t x i ok) d fr σ K=bv (ev fr x) fun u=>bv (ev fr i) fun q=>aa2 P t ok σ u q K:=(rfl)
theorem au9(t:TypeId)(ok:Bool)(n:Nat)(q:PV):aa2 P t ok σ (.mh n) q K=bv (ah σ n) fun B=>bv (aev P t) fun m=>bcs ok n q K B m (aje P):=by
 simp only[aa2,bv,kk]
 rcases ah σ n with _|B<;>(try rfl)<;>cases B<;>(try rfl)<;>rcases aev P t with _|⟨k,dk,e⟩<;>(try rfl)
theorem a2l(ok:Bool)(n:Nat)(q:PV)(es:List (PV×PV))(k e:TypeId)(dk:TypeDesc)(zv:TypeId→Option PV):bcs ok n q K (some (.mp es)) (some (k,dk,e)) zv=bv (nq dk q) fun b=>bv (gu q es 0) fun r=>bv (zv e) fun z=>match r,z with
  |some r,some z=>b=true∧kk K (aus es z ok r) [] [n]
  |_,_=>False:=(rfl)
def bgd(n:Nat)(q v:PV)(K:KT):Option Box→Option (TypeId×TypeDesc×TypeId)→Prop
 |some (.mp es),some (_,dk,_)=>bv (nq dk q) fun b=>bv (gu q es 0) fun r=>match r with
  |some r=>b=true∧bv (ak3 es q v r) fun es'=>kk K .undef [(n,.mp es')] [n]
  |_=>False
 |_,_=>False
theorem acw(t:TypeId)(x i v:Operand):evO P (.mapUpdate t x i v) d fr σ K=bv (ev fr x) fun u=>bv (ev fr i) fun q=>bv (ev fr v) fun v=>ajt P t σ u q v K:=(rfl)
theorem aze(t:TypeId)(n:Nat)(q v:PV):ajt P t σ (.mh n) q v K=bv (ah σ n) fun B=>bv (aev P t) fun m=>bgd n q v K B m:=by
 simp only[ajt,bv,kk]
 rcases ah σ n with _|B<;>(try rfl)<;>cases B<;>(try rfl)<;>rcases aev P t with _|⟨k,dk,e⟩<;>(try rfl)
theorem a7g(n:Nat)(q v:PV)(es:List (PV×PV))(k e:TypeId)(dk:TypeDesc):bgd n q v K (some (.mp es)) (some (k,dk,e))=bv (nq dk q) fun b=>bv (gu q es 0) fun r=>match r with
  |some r=>b=true∧bv (ak3 es q v r) fun es'=>kk K .undef [(n,.mp es')] [n]
  |_=>False:=(rfl)
theorem aj5(t:TypeId)(d:Nat):evO P (.makeMap t none) (some d) fr σ K=(bv (ah σ d) (fun B=>B=none)∧K (.mh d) [(d,.mp [])] [d]):=(rfl)
end
end Go.Proofs.Am
