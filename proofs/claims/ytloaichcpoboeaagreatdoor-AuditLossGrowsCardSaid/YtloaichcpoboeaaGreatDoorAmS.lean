/- AmS. -/
import Derived.Test.YtloaichcpoboeaaGreatDoorAmR
set_option linter.unusedSimpArgs false
set_option linter.unusedVariables false
namespace Go.Proofs.Am
open Go Go.RowKit
variable {P:Program}
def yb:Nat→List PV→AFr
 |_,[]=>[]
 |i,u::r=>(i,u)::yb (i+1) r
def uv:Nat→List Box→ASt
 |_,[]=>[]
 |j,B::r=>(1000000+j,B)::uv (j+1) r
theorem yx: ∀(args:List PV) (i t:Nat),look (yb i args) t=if i≤t then args.getD (t - i) .undef else .undef
 |[],i,t=>by simp[yb,look]
 |u::r,i,t=>by
  simp only[yb,look]
  rw[yx r (i+1) t]
  by_cases h:i=t
  ·subst h;simp
  ·rw[if_neg h]
   by_cases h':i≤t
   ·have:t - i=(t - (i+1))+1:=by omega
    rw[if_pos (by omega),if_pos h',this]
    simp
   ·rw[if_neg (by omega),if_neg h']
theorem zf: ∀(ext:List Box) (j n:Nat),ac (uv j ext) n=if 1000000+j≤n then ext[n - (1000000+j)]? else none
 |[],j,n=>by simp[uv,ac]
 |B::r,j,n=>by
  simp only[uv,ac]
  rw[zf r (j+1) n]
  by_cases h:1000000+j=n
  ·subst h;simp
  ·rw[if_neg h]
   by_cases h':1000000+j≤n
   ·have:n - (1000000+j)=(n - (1000000+(j+1)))+1:=by omega
    rw[if_pos (by omega),if_pos h',this]
    simp
   ·rw[if_neg (by omega),if_neg h']
theorem afs(ext:List Box):ac (uv 0 ext)=da [] ext:=by
 funext n
 rw[zf]
 unfold da
 by_cases h:n<1000000
 ·rw[if_pos h,if_neg (by omega)];rfl
 ·rw[if_neg h,if_pos (by omega)]
def ol(σ:ASt)(ns exts:List Nat):List PV→Option (List PV×List Nat)
 |[]=>some ([],[])
 |u::us=>match a2y σ ns exts u,ol σ ns exts us with
  |some (v,a),some (vs,b)=>some (v::vs,a++b)
  |_,_=>none
theorem adf{σ:ASt}{ns exts:List Nat}: ∀{us us':List PV} {b:List Nat},ol σ ns exts us=some (us',b)→us'.length=us.length∧∀(i:Nat) (u u':PV),us[i]? =some u→us'[i]? =some u'→∃a,a2y σ ns exts u=some (u',a)∧∀n∈a,n∈b
 |[],us',b,h=>by cases h;simp
 |u::us,us',b,h=>by
  simp only[ol]at h
  cases h1:a2y σ ns exts u with
  |none=>rw[h1]at h;cases h
  |some p=>
   cases h2:ol σ ns exts us with
   |none=>rw[h1,h2]at h;cases h
   |some q=>
    obtain⟨v,a⟩:=p
    obtain⟨vs,b'⟩:=q
    rw[h1,h2]at h
    simp only[Option.some.injEq,Prod.mk.injEq]at h
    obtain⟨rfl,rfl⟩:=h
    obtain⟨k1,k2⟩:=adf h2
    refine⟨by simp[k1],fun i r r' hr hr'=> ?_⟩
    cases i with
    |zero=>
     simp at hr hr'
     subst hr hr'
     exact⟨a,h1,fun n hn=>by simp[hn]⟩
    |succ i=>
     obtain⟨c,e1,e2⟩:=k2 i r r' (by simpa using hr) (by simpa using hr')
     exact⟨c,e1,fun n hn=>by simp[e2 n hn]⟩
def af8:List PV→PV
 |[u]=>u
 |us=> .tup us
def rt:List Nat→Bool
 |[]=>true
 |n::r=> !r.contains n&&rt r
theorem jc: ∀{l:List Nat},rt l=true→l.Nodup
 |[],_=>List.nodup_nil
 |n::r,h=>by
  simp only[rt,Bool.and_eq_true]at h
  exact List.nodup_cons.2 ⟨by simpa using h.1,jc h.2⟩
def pe(ns exts shl:List Nat):Bool:=ns.all (fun n=>decide (n<1000000))&&rt ns&&decide (ns.length<1000000)&&aju ns shl&&aju exts shl
def a1x(P:Program)(rs:List ResultVar)(ns exts:List Nat)(r:PV)(nb ext':List Box)(fr:AFr)(σ:ASt):Prop:=
 match ahp P fr σ rs with
 |some us=>match r7 σ ns,r7 σ exts,ol σ ns exts us with
  |some (nb0,b1),some (e0,b2),some (us',b3)=>pe ns exts (b1++(b2++b3))=true∧nb0=nb∧e0=ext'∧af8 us'=r
  |_,_,_=>False
 |none=>False
def bdp(P:Program)(rs:List ResultVar)(ns exts:List Nat)(r:PV)(nb ext':List Box):sa
 | .exit _,_,_=>False
 |_,fr,σ=>a1x P rs ns exts r nb ext' fr σ
theorem ah8{P:Program}{fn:Func}{tmps:Array Value}{w:World}{vs:List Value}(h:(fn.results.toList.mapM (a8z tmps)).run P w= .ok vs w):
  (results fn tmps).run P w= .ok (match vs with|[v]=>v|vs=> .tuple vs.toArray) w:=by
 have h1:results fn tmps=(fn.results.mapM (a8z tmps))>>=fun vs=>pure (if h:vs.size=1 then vs[0]else .tuple vs):=by
  unfold results
  congr 1
 rw[h1,Array.mapM_eq_mapM_toList]
 simp only[Sem.run_bind,map_eq_pure_bind,bind_assoc,pure_bind,h,Result.andThen_ok,Sem.run_pure]
 congr 1
 match vs with
 |[]=>rfl
 |[v]=>rfl
 |v::u::r=>simp
def lifts:List (Nat×Nat×Nat×Nat)→AFr→ASt→AFr×ASt
 |[],fr,σ=>(fr,σ)
 |(slot,n,e,sz)::r,fr,σ=>lifts r ((slot,.os n 0)::fr) (lf σ n (.arr e sz false []))
def n7:List (Nat×Nat×Nat×Nat)→AFr→ASt→Prop
 |[],_,_=>True
 |(slot,n,e,sz)::r,fr,σ=>look fr slot= .nils∧ac σ n=none∧0<sz∧n7 r ((slot,.os n 0)::fr) (lf σ n (.arr e sz false []))
theorem Good.lift1{x:Ctx P}{N:Nat}{fr:AFr}{σ:ASt}{a:Act}{hv:Nat→Value}{w:World}(hG:Good x N (look fr) (ac σ) a hv w){slot n e sz:Nat}{sh:Bool}(hs:look fr slot= .nils)(hn:ac σ n=none)(hz:0<sz):
  ∃hv',Good x N (look ((slot,.os n 0)::fr)) (ac (lf σ n (.arr e sz sh []))) a hv' w:=by
 obtain⟨hS,hE⟩:=hG.sim.new (d:=n) (B:= .arr e sz sh []) (hd:= .slice none 0 0) (w':=w) hn rfl rfl rfl (Nat.le_refl _) (fun _ _=>rfl) (fun b hb=>by cases hb)
  (fun E _=>⟨hz,[],⟨by simp,.inl ⟨rfl,rfl⟩⟩,by simp,by simp,fun i y j u hy hu=>by simp at hy⟩)
 refine⟨upd hv n (.slice none 0 0),by rw[ar];exact hS,hG.size,hG.defers,fun t=> ?_⟩
 rw[ar]
 simp only[look]
 split
 ·rename_i hst
  subst hst
  have hr:=hG.regs slot
  rw[hs]at hr
  rw[hr.nils_inv]
  exact .os ⟨⟨none,0,rfl⟩,.arr e sz sh [],sz,0,ak _ _ _,rfl,Nat.le_refl _,fun _=>(ak _ _ _).symm⟩
 ·exact(hG.regs t).mono hE
theorem Good.lifts{x:Ctx P}{N:Nat}{a:Act}{w:World}: ∀(l:List (Nat×Nat×Nat×Nat)) {fr:AFr} {σ:ASt} {hv:Nat→Value},Good x N (look fr) (ac σ) a hv w→n7 l fr σ→
  ∃hv',Good x N (look (Am.lifts l fr σ).1) (ac (Am.lifts l fr σ).2) a hv' w
 |[],_,_,hv,hG,_=>⟨hv,hG⟩
 |(slot,n,e,sz)::r,fr,σ,hv,hG,h=>by
  obtain⟨h1,h2,h3,h4⟩:=h
  obtain⟨hv1,hG1⟩:=hG.lift1 (e:=e) (sh:=false) h1 h2 h3
  exact Good.lifts r hG1 h4
def bdu(P:Program)(rs:List ResultVar)(ns exts:List Nat)(r:PV)(nb ext':List Box)(fr:AFr)(σ:ASt):Prop:=
 ∃us b1 b2 us' b3,ahp P fr σ rs=some us∧r7 σ ns=some (nb,b1)∧bcv σ exts ext' b2∧ol σ ns exts us=some (us',b3)∧pe ns exts (b1++(b2++b3))=true∧af8 us'=r
theorem axj{P:Program}{rs:List ResultVar}{ns exts:List Nat}{r:PV}{nb ext':List Box}{fr:AFr}{σ:ASt}(h:a1x P rs ns exts r nb ext' fr σ):bdu P rs ns exts r nb ext' fr σ:=by
 unfold a1x at h
 split at h
 ·rename_i us hus
  split at h
  ·rename_i nb0 b1 e0 b2 us' b3 h1 h2 h3
   obtain⟨hap,rfl,rfl,rfl⟩:=h
   exact⟨us,b1,b2,us',b3,hus,h1,a7s h2,h3,hap,rfl⟩
  ·exact h.elim
 ·exact h.elim
def a91(P:Program)(rs:List ResultVar)(ns exts0 exts:List Nat)(c m:Nat)(es:List (PV×PV))(r:PV)(nb ext0':List Box)(fr:AFr)(σ:ASt):Prop:=
 match ahp P fr σ rs with
 |some us=>match r7 σ ns,r7 σ exts0,ol σ ns exts us with
  |some (nb0,b1),some (e0,b2),some (us',b3)=>(ac σ c=some (.cells [.mh m])∧ac σ m=some (.mp es))∧pe ns exts (b1++(b2++b3))=true∧nb0=nb∧e0=ext0'∧af8 us'=r
  |_,_,_=>False
 |none=>False
def adi(P:Program)(rs:List ResultVar)(ns exts0 exts:List Nat)(c m:Nat)(e sz k:Nat)(xs:List (List PV))(r:PV)(nb ext0':List Box)(fr:AFr)(σ:ASt):Prop:=
 match ahp P fr σ rs with
 |some us=>match r7 σ ns,r7 σ exts0,ol σ ns exts us with
  |some (nb0,b1),some (e0,b2),some (us',b3)=>(ac σ c=some (.cells [.os m k])∧ac σ m=some (.arr e sz false xs))∧pe ns exts (b1++(b2++b3))=true∧nb0=nb∧e0=ext0'∧af8 us'=r
  |_,_,_=>False
 |none=>False
theorem a1h{P:Program}{rs:List ResultVar}{ns exts0 exts:List Nat}{c m:Nat}{e sz k:Nat}{xs:List (List PV)}{r:PV}{nb ext0' ext':List Box}{fr:AFr}{σ:ASt}(hE:exts=exts0++[c,m])(hE':ext'=ext0'++[.cells [.os m k],.arr e sz false xs])(h:adi P rs ns exts0 exts c m e sz k xs r nb ext0' fr σ):bdu P rs ns exts r nb ext' fr σ:=by
 unfold adi at h
 split at h
 ·rename_i us hus
  split at h
  ·rename_i nb0 b1 e0 b2 us' b3 h1 h2 h3
   obtain⟨⟨hc,hm⟩,hap,rfl,rfl,rfl⟩:=h
   obtain⟨k1,k2⟩:=tw h2
   refine⟨us,b1,b2,us',b3,hus,h1,⟨by rw[hE,hE'];simp[k1],fun j n hj=> ?_⟩,h3,hap,rfl⟩
   have hjl:j<exts0.length∨j=exts0.length∨j=exts0.length+1:=by
    have:=(List.getElem?_eq_some_iff.1 hj).1
    rw[hE]at this
    simp at this
    omega
   rcases hjl with hjl|rfl|rfl
   ·rw[hE,List.getElem?_append_left hjl]at hj
    obtain⟨B,B',a,e1,e2,e3,e4⟩:=k2 j n hj
    exact⟨B,B',a,e1,by rw[hE',List.getElem?_append_left (by omega)];exact e2,.inl e3,e4⟩
   ·rw[hE,List.getElem?_append_right (by omega)]at hj
    simp at hj
    subst hj
    refine⟨_,_,[],hc,by rw[hE',List.getElem?_append_right (by omega),k1];simp,.inr ⟨rfl,rfl,.inl ⟨_,rfl,fun u hu=>⟨m,by rw[hE];simp,.inr ⟨k,by simpa using hu⟩⟩⟩⟩,by simp⟩
   ·rw[hE,List.getElem?_append_right (by omega)]at hj
    simp at hj
    subst hj
    refine⟨_,_,[],hm,by rw[hE',List.getElem?_append_right (by omega),k1];simp,.inl rfl,by simp⟩
  ·exact h.elim
 ·exact h.elim
def a7p(P:Program)(rs:List ResultVar)(ns exts0 exts:List Nat)(c m:Nat)(e sz k:Nat)(xs:List (List PV))(r:PV)(nb ext0':List Box):sa
 | .exit _,_,_=>False
 |_,fr,σ=>adi P rs ns exts0 exts c m e sz k xs r nb ext0' fr σ
def a87(P:Program)(rs:List ResultVar)(exts:List Nat)(r:PV)(nb ext':List Box)(fr:AFr)(σ:ASt):Prop:=
 ∃(l:List (Nat×Nat×Nat×Nat)) (ns:List Nat),n7 l fr σ∧bdu P rs ns exts r nb ext' (lifts l fr σ).1 (lifts l fr σ).2
def a7x(P:Program)(rs:List ResultVar)(exts:List Nat)(r:PV)(nb ext':List Box):sa
 | .exit _,_,_=>False
 |_,fr,σ=>a87 P rs exts r nb ext' fr σ
theorem aij{P:Program}(hm:P.follows .mixedOrders=true){k:FuncId}{fn:Func}{c:Code}{N:Nat}{rs:List ResultVar}{args:List PV}{ext:List Box}{r:PV}{nb ext':List Box}(hf:P.funcs[k]? =some fn)(hb:fn.body=some c)
  (hen: ∀as w,(callFunc k as).run P w= .ok (.enter k as) w) (hN:fn.ntmps=N) (hrs:fn.results.toList=rs) (hle:args.length≤N) {exts:List Nat} (hexts:exts=List.range' 1000000 ext'.length) (hel:ext'.length=ext.length)
  (h:W P N c (a7x P rs exts r nb ext') (yb 0 args) (uv 0 ext)):Den P k args ext r nb ext':=by
 refine⟨hen,fun w V hv gc vals hS hl hR=> ?_⟩
 refine calls_of_wp hf hb ?_
 have hG:Good (cx (P:=P) w V hv ext gc) N (look (yb 0 args)) (ac (uv 0 ext)) {tmps:=vals.toArray++Array.replicate (fn.ntmps - vals.toArray.size) undef,defers:=[]} hv w:=by
  refine⟨by rw[afs];exact hS,by simp;omega,rfl,fun t=> ?_⟩
  rw[yx,afs]
  simp only[Nat.zero_le,if_true,Nat.sub_zero]
  by_cases ht:t<args.length
  ·have htv:t<vals.length:=by omega
   have:=hR t _ _ (List.getElem?_eq_getElem htv) (List.getElem?_eq_getElem ht)
   rw[List.getD_eq_getElem?_getD,List.getElem?_eq_getElem ht]
   have e:(vals.toArray++Array.replicate (fn.ntmps - vals.toArray.size) undef).getD t undef=vals[t]:=by
    rw[Array.getD_eq_getD_getElem?,Array.getElem?_append_left (by simpa using htv)]
    simp[htv]
   rw[e]
   exact this
  ·rw[List.getD_eq_getElem?_getD,List.getElem?_eq_none (by omega)]
   exact .undef _
 refine wp_mono (h (cx (P:=P) w V hv ext gc) _ hv w hG) fun e a' w' hq=> ?_
 have fin:(∃fr σ hv',a87 P rs exts r nb ext' fr σ∧Good (cx (P:=P) w V hv ext gc) N (look fr) (ac σ) a' hv' w')→
   a'.defers=[]∧∃v,(results fn a'.tmps).run P w'= .ok v w'∧∃v' hv',Ending.returned v= .returned v'∧SimW (cx (P:=P) w V hv ext gc) (da nb ext') hv' w'∧RV (env (cx (P:=P) w V hv ext gc) (da nb ext') hv' w') v' r:=by
  rintro⟨fr0,σ0,hv0,⟨l,ns,hl0,hq⟩,hg0⟩
  obtain⟨hv',hg⟩:=hg0.lifts l hl0
  revert hq hg
  generalize (lifts l fr0 σ0).1=fr
  generalize (lifts l fr0 σ0).2=σ
  intro hq hg
  obtain⟨us,b1,b2,us',b3,hus,h1,h2,h3,hap,rfl⟩:=hq
  simp only[pe,Bool.and_eq_true,decide_eq_true_eq]at hap
  obtain⟨⟨⟨⟨a1,a2⟩,a3⟩,a4⟩,a5⟩:=hap
  obtain⟨hv2,hS2,hR2⟩:=avd (shl:=b1++(b2++b3)) hg.sim h1 h2 hexts (fun n hn=>by
    simp only[cx]at hn
    cases hq:da [] ext n with
    |none=>rw[hq]at hn;simp at hn
    |some B=>
     rcases dw hq with ⟨_,h3⟩|⟨j,rfl,hj⟩
     ·simp at h3
     ·have:=(List.getElem?_eq_some_iff.1 hj).1
      rw[hexts]
      simp[List.mem_range'_1]
      omega)
   (fun n hn=>by have:=List.all_eq_true.1 a1 n hn;simpa using this) (jc a2) a3 (fun n hn=>by simp[hn]) (fun n hn=>by simp[hn])
   (fun n hn=>gw a4 hn) (fun n hn=>gw a5 hn)
  subst hrs
  obtain⟨vs,f1,f2,f3⟩:=zu hg hus
  obtain⟨g1,g2⟩:=adf h3
  have hall: ∀(i:Nat) (v:Value) (u':PV),vs[i]? =some v→us'[i]? =some u'→RV (env (cx (P:=P) w V hv ext gc) (da nb ext') hv2 w') v u':=fun i v u' hv0 hu'=>by
   have hi:=(List.getElem?_eq_some_iff.1 hu').1
   rw[g1]at hi
   obtain⟨a,e1,e2⟩:=g2 i _ u' (List.getElem?_eq_getElem hi) hu'
   exact hR2 v _ u' a (f3 i v _ hv0 (List.getElem?_eq_getElem hi)) e1 fun n hn=>by simp[e2 n hn]
  refine⟨hg.defers,_,ah8 f1,_,hv2,rfl,hS2,?_⟩
  have hlen:vs.length=us'.length:=by rw[f2,g1]
  have htup:RV (env (cx (P:=P) w V hv ext gc) (da nb ext') hv2 w') (.tuple vs.toArray) (.tup us'):=by
   refine .tup (by simpa using hlen) fun i u hu=> ?_
   have hi:=(List.getElem?_eq_some_iff.1 hu).1
   have:=hall i (vs[i]'(by omega)) u (List.getElem?_eq_getElem (by omega)) hu
   rw[gy,List.getD_eq_getElem?_getD,List.getElem?_eq_getElem (by omega)]
   exact this
  match vs,us',hlen,hall,htup with
  |[],[],_,_,ht=>exact ht
  |[v],[u],_,ha,_=>exact ha 0 v u rfl rfl
  |v::v'::r,u::u'::r',_,_,ht=>exact ht
 cases e with
 |normal=>exact fin hq
 |ret=>exact fin hq
 |exit id=>obtain⟨_,_,_,h,_⟩:=hq;exact h.elim
 |goto l=>exact hq.elim
 |panic c=>exact hq.elim
 |outgrown=>exact hq.elim
theorem aa{P:Program}(hm:P.follows .mixedOrders=true){k:FuncId}{fn:Func}{c:Code}{N:Nat}{rs:List ResultVar}{args:List PV}{ext:List Box}{r:PV}{nb ext':List Box}(hf:P.funcs[k]? =some fn)(hb:fn.body=some c)
  (hen: ∀as w,(callFunc k as).run P w= .ok (.enter k as) w) (hN:fn.ntmps=N) (hrs:fn.results.toList=rs) (hle:args.length≤N) (hc:fu N c=true) (ns:List Nat) {exts:List Nat} (hexts:exts=List.range' 1000000 ext'.length) (hel:ext'.length=ext.length)
  (h:wv P N c (bdp P rs ns exts r nb ext') (yb 0 args) (uv 0 ext)):Den P k args ext r nb ext':=by
 refine aij hm hf hb hen hN hrs hle hexts hel fun x a hv w hG=>wp_mono (fh hm c hc _ _ _ h x a hv w hG) fun e a' w' hq=> ?_
 have go: ∀fr σ,a1x P rs ns exts r nb ext' fr σ→a87 P rs exts r nb ext' fr σ:=fun fr σ h=>⟨[],ns,trivial,axj h⟩
 cases e with
 |normal=>obtain⟨fr,σ,hv',h1,h2⟩:=hq;exact⟨fr,σ,hv',go _ _ h1,h2⟩
 |ret=>obtain⟨fr,σ,hv',h1,h2⟩:=hq;exact⟨fr,σ,hv',go _ _ h1,h2⟩
 |exit id=>exact hq
 |goto l=>exact hq
 |panic c=>exact hq
 |outgrown=>exact hq
theorem qg{P:Program}(hm:P.follows .mixedOrders=true){k:FuncId}{fn:Func}{cd:Code}{N:Nat}{rs:List ResultVar}{args:List PV}{ext:List Box}{r:PV}{nb ext':List Box}(hf:P.funcs[k]? =some fn)(hb:fn.body=some cd)
  (hen: ∀as w,(callFunc k as).run P w= .ok (.enter k as) w) (hN:fn.ntmps=N) (hrs:fn.results.toList=rs) (hle:args.length≤N) (hc:fu N cd=true) (ns:List Nat) {el sz kk:Nat} {xs:List (List PV)} (exts0:List Nat) (c m:Nat) (ext0':List Box) {exts:List Nat} (hexts:exts=List.range' 1000000 ext'.length) (hel:ext'.length=ext.length)
  (hE:exts=exts0++[c,m]) (hE':ext'=ext0'++[.cells [.os m kk],.arr el sz false xs])
  (h:wv P N cd (a7p P rs ns exts0 exts c m el sz kk xs r nb ext0') (yb 0 args) (uv 0 ext)):Den P k args ext r nb ext':=by
 refine aij hm hf hb hen hN hrs hle hexts hel fun x a hv w hG=>wp_mono (fh hm cd hc _ _ _ h x a hv w hG) fun e a' w' hq=> ?_
 have go: ∀fr σ,adi P rs ns exts0 exts c m el sz kk xs r nb ext0' fr σ→a87 P rs exts r nb ext' fr σ:=fun fr σ h=>⟨[],ns,trivial,a1h hE hE' h⟩
 cases e with
 |normal=>obtain⟨fr,σ,hv',h1,h2⟩:=hq;exact⟨fr,σ,hv',go _ _ h1,h2⟩
 |ret=>obtain⟨fr,σ,hv',h1,h2⟩:=hq;exact⟨fr,σ,hv',go _ _ h1,h2⟩
 |exit id=>exact hq
 |goto l=>exact hq
 |panic c=>exact hq
 |outgrown=>exact hq
theorem aie{P:Program}(hm:P.follows .mixedOrders=true){k:FuncId}{fn:Func}{c:Code}{N:Nat}{rs:List ResultVar}{args:List PV}{ext:List Box}{r:PV}{nb ext':List Box}(hf:P.funcs[k]? =some fn)(hb:fn.body=some c)
  (hen: ∀as w,(callFunc k as).run P w= .ok (.enter k as) w) (hN:fn.ntmps=N) (hrs:fn.results.toList=rs) (hle:args.length≤N) (hc:fu N c=true) {exts:List Nat} (hexts:exts=List.range' 1000000 ext'.length) (hel:ext'.length=ext.length)
  (h:wv P N c (a7x P rs exts r nb ext') (yb 0 args) (uv 0 ext)):Den P k args ext r nb ext':=
 aij hm hf hb hen hN hrs hle hexts hel (fh hm c hc _ _ _ h)
theorem wl{P:Program}{k:FuncId}{bs:List PV}(pre:List PV){ext:List Box}{r:PV}{nb ext':List Box}(h: ∀b,Den P k (pre++ .sn b::bs) ext r nb ext'):Den P k (pre++ .vs []::bs) ext r nb ext':=by
 refine⟨(h true).enter,fun w V hv gc vals hS hl hR=> ?_⟩
 have hi:pre.length<vals.length:=by rw[hl];simp
 have hva:=hR pre.length vals[pre.length] (.vs []) (List.getElem?_eq_getElem hi) (by simp)
 obtain⟨a,c,sz,U,q1,_⟩:=hva.vs_inv.vs_inv
 refine(h a.isNone).run w V hv gc vals hS (by rw[hl];simp) fun i v u hv0 hu=> ?_
 by_cases hia:i=pre.length
 ·subst hia
  rw[List.getElem?_eq_getElem hi]at hv0
  cases hv0
  simp at hu
  subst hu
  rw[q1]
  exact .pure (.sn _ c rfl)
 ·refine hR i v u hv0 ?_
  rw[←hu]
  rcases Nat.lt_or_gt_of_ne hia with h1|h1
  ·rw[List.getElem?_append_left h1,List.getElem?_append_left h1]
  ·rw[List.getElem?_append_right (by omega),List.getElem?_append_right (by omega)]
   obtain⟨m,hm⟩: ∃m,i - pre.length=m+1:=⟨i - pre.length - 1,by omega⟩
   rw[hm]
   simp
end Go.Proofs.Am

/- Stepping: rules that reckon a walk. -/
namespace Go.Proofs.Am
open Go Go.RowKit
variable {P:Program}
def bv{α:Type}(a:α)(k:α→Prop):Prop:=k a
def mk{α:Type}(a:α):α:=a
theorem bc9{α:Type}(a:α):mk a=a:=(rfl)
theorem a1y{α:Type}{a b:α}{k:α→Prop}(h:mk a=b):bv a k=bv b k:=by rw[←h];rfl
theorem bcj{α:Type}(a:α)(k:α→Prop):bv a k=k a:=(rfl)
def kk(K:KT)(u:PV)(δ:ASt)(F:List Nat):Prop:=bv u fun u=>bv δ fun δ=>K u δ F
theorem bc8(K:KT)(u:PV)(δ:ASt)(F:List Nat):kk K u δ F=bv u fun u=>bv δ fun δ=>K u δ F:=(rfl)
def dd(xs:List (List PV))(i:Nat):List PV:=xs.getD i []
def eh(cs:List PV)(i:Nat):PV:=cs.getD i .undef
def el{α:Type} [Inhabited α](l:List α)(i:Nat):α:=l.getD i default
def evO(P:Program)(op:Op)(d:Option Nat)(fr:AFr)(σ:ASt)(K:KT):Prop:=xh P ⟨d,op,0, "", #[],none⟩ (ev fr) σ K
theorem t7(P:Program)(d:Option Nat)(op:Op)(ty:TypeId)(p:String)(af:Array Edge)(g:Option (Nat×Bool))(fr:AFr)(σ:ASt)(K:KT):xh P ⟨d,op,ty,p,af,g⟩ (ev fr) σ K=evO P op d fr σ K:=by
 unfold evO xh
 cases op<;>rfl
theorem asp(s:Nat)(u:PV)(r:AFr)(t:Nat):look ((s,u)::r) t=if s=t then u else look r t:=(rfl)
theorem ay9(t:Nat)(u:PV)(r:AFr):look ((t,u)::r) t=u:=by simp[look]
theorem a93(fr:AFr)(t:Nat):ev fr (.tmp t)=look fr t:=(rfl)
theorem a0t(fr:AFr)(v:Value):ev fr (.const v)=abw v:=(rfl)
theorem a68(fr:AFr)(f:FuncId):ev fr (.func f)= .fn f []:=(rfl)
theorem ar7(m:Nat)(B:Box)(r:ASt)(n:Nat):ac ((m,B)::r) n=if m=n then some B else ac r n:=(rfl)
theorem a2g(n:Nat):ac [] n=none:=(rfl)
theorem a17(σ:ASt):zl σ []=σ:=(rfl)
theorem as8(σ:ASt)(n:Nat)(B:Box)(r:ASt):zl σ ((n,B)::r)=zl (lf σ n B) r:=(rfl)
theorem a1e(n:Nat)(B:Box):lf [] n B=[(n,B)]:=(rfl)
theorem arv(m:Nat)(C:Box)(r:ASt)(n:Nat)(B:Box):lf ((m,C)::r) n B=if m=n then(n,B)::r else(m,C)::lf r n B:=(rfl)
theorem av9(b:Bool):abw (.bool b)= .bool b:=(rfl)
theorem ax7(k:IntKind)(n:Int):abw (.int k n)= .int k n:=(rfl)
theorem a2n(s:ByteArray):abw (.string s)= .str s.data.toList:=(rfl)
theorem ash:abw (.pointer none)= .nilp:=(rfl)
theorem avx:abw (.slice none 0 0)= .nils:=(rfl)
def nx(P:Program)(all:Array Oper)(r:List Oper)(fr:AFr)(d:Option Nat)(u:PV)(σ δ:ASt)(K:AFr→ASt→Prop):Prop:=k9 P all r (agr fr d u) (zl σ δ) K
theorem ag3(P:Program)(all:Array Oper)(r:List Oper)(fr:AFr)(d:Nat)(u:PV)(σ:ASt)(K:AFr→ASt→Prop):nx P all r fr (some d) u σ [] K=k9 P all r ((d,u)::fr) σ K:=(rfl)
theorem agc(P:Program)(all:Array Oper)(r:List Oper)(fr:AFr)(d:Nat)(u:PV)(σ:ASt)(p:Nat×Box)(δ:ASt)(K:AFr→ASt→Prop):
  nx P all r fr (some d) u σ (p::δ) K=bv (zl σ (p::δ)) fun σ=>k9 P all r ((d,u)::fr) σ K:=(rfl)
theorem aen(P:Program)(all:Array Oper)(r:List Oper)(fr:AFr)(u:PV)(σ:ASt)(p:Nat×Box)(δ:ASt)(K:AFr→ASt→Prop):
  nx P all r fr none u σ (p::δ) K=bv (zl σ (p::δ)) fun σ=>k9 P all r fr σ K:=(rfl)
theorem aty(P:Program)(all:Array Oper)(fr:AFr)(σ:ASt)(K:AFr→ASt→Prop):k9 P all [] fr σ K=K fr σ:=(rfl)
theorem aqi(P:Program)(all:Array Oper)(d:Option Nat)(op:Op)(ty:TypeId)(p:String)(af:Array Edge)(r:List Oper)(fr:AFr)(σ:ASt)(K:AFr→ASt→Prop):
  k9 P all (⟨d,op,ty,p,af,none⟩::r) fr σ K=evO P op d fr σ fun u δ _=>nx P all r fr d u σ δ K:=by
 simp only[k9]
 rw[t7]
 rfl
def vG(P:Program)(all:Array Oper)(op:Op)(d:Option Nat)(r:List Oper)(fr:AFr)(σ:ASt)(K:AFr→ASt→Prop)(t:Nat)(want:Bool):PV→Prop
 | .bool b=>(b=want→evO P op d ((t,.bool want)::fr) σ fun u δ _=>nx P all r ((t,.bool want)::fr) d u σ δ K)∧(b= !want→nx P all r ((t,.bool (!want))::fr) d (.tup []) σ [] K)
 | .tup []=>nx P all r fr d (.tup []) σ [] K
 |_=>False
theorem anr(P:Program)(all:Array Oper)(d:Option Nat)(op:Op)(ty:TypeId)(p:String)(af:Array Edge)(j:Nat)(want:Bool)(r:List Oper)(fr:AFr)(σ:ASt)(K:AFr→ASt→Prop):
  k9 P all (⟨d,op,ty,p,af,some (j,want)⟩::r) fr σ K=bv (il all j) fun t=>match t with|some t=>bv (look fr t) fun u=>vG P all op d r fr σ K t want u|none=>False:=by
 simp only[k9,bv]
 cases il all j with
 |none=>rfl
 |some t=>
  simp only
  cases look fr t with
  |tup cs=>cases cs<;>simp only[vG]<;>rfl
  |bool b=>simp only[vG,t7];rfl
  |_=>simp only[vG]
theorem aoy(o:Oper)(l:List Oper):il (List.toArray (o::l)) 0=o.dst:=(rfl)
theorem aqg(o:Oper)(l:List Oper)(j:Nat):il (List.toArray (o::l)) (j+1)=il (List.toArray l) j:=by simp[il]
theorem ai0(P:Program)(all:Array Oper)(op:Op)(d:Option Nat)(r:List Oper)(fr:AFr)(σ:ASt)(K:AFr→ASt→Prop)(t:Nat)(want b:Bool):vG P all op d r fr σ K t want (.bool b)=
  ((b=want→evO P op d ((t,.bool want)::fr) σ fun u δ _=>nx P all r ((t,.bool want)::fr) d u σ δ K)∧(b= !want→bv (PV.bool (!want)) fun v=>nx P all r ((t,v)::fr) d (.tup []) σ [] K)):=(rfl)
theorem a7u(P:Program)(all:Array Oper)(op:Op)(d:Option Nat)(r:List Oper)(fr:AFr)(σ:ASt)(K:AFr→ASt→Prop)(t:Nat)(want:Bool):vG P all op d r fr σ K t want (.tup [])=nx P all r fr d (.tup []) σ [] K:=(rfl)
def nxD(P:Program)(all:Array Oper)(r:List Oper)(fr:AFr)(d:Option Nat)(u:PV)(σ δ:ASt)(g:Log)(F:List Nat)(K:AFr→ASt→Log→Prop):Prop:=evD P all r (agr fr d u) (zl σ δ) ((δ.map (·.1),F)::g) K
theorem adc(P:Program)(all:Array Oper)(r:List Oper)(fr:AFr)(d:Nat)(u:PV)(σ:ASt)(g:Log)(F:List Nat)(K:AFr→ASt→Log→Prop):nxD P all r fr (some d) u σ [] g F K=evD P all r ((d,u)::fr) σ (([],F)::g) K:=(rfl)
theorem abb(P:Program)(all:Array Oper)(r:List Oper)(fr:AFr)(d:Nat)(u:PV)(σ:ASt)(p:Nat×Box)(δ:ASt)(g:Log)(F:List Nat)(K:AFr→ASt→Log→Prop):
  nxD P all r fr (some d) u σ (p::δ) g F K=bv ((p::δ).map (·.1)) fun m=>bv (zl σ (p::δ)) fun σ=>evD P all r ((d,u)::fr) σ ((m,F)::g) K:=(rfl)
theorem abf(P:Program)(all:Array Oper)(r:List Oper)(fr:AFr)(u:PV)(σ:ASt)(p:Nat×Box)(δ:ASt)(g:Log)(F:List Nat)(K:AFr→ASt→Log→Prop):
  nxD P all r fr none u σ (p::δ) g F K=bv ((p::δ).map (·.1)) fun m=>bv (zl σ (p::δ)) fun σ=>evD P all r fr σ ((m,F)::g) K:=(rfl)
theorem a6p(P:Program)(all:Array Oper)(fr:AFr)(σ:ASt)(g:Log)(K:AFr→ASt→Log→Prop):evD P all [] fr σ g K=K fr σ g:=(rfl)
theorem a1d(P:Program)(all:Array Oper)(d:Option Nat)(op:Op)(ty:TypeId)(p:String)(af:Array Edge)(r:List Oper)(fr:AFr)(σ:ASt)(g:Log)(K:AFr→ASt→Log→Prop):
  evD P all (⟨d,op,ty,p,af,none⟩::r) fr σ g K=(d7 op=false∧evO P op d fr σ fun u δ F=>bv F fun F=>nxD P all r fr d u σ δ g F K):=by
 simp only[evD]
 rw[t7]
 rfl
def vGD(P:Program)(all:Array Oper)(op:Op)(d:Option Nat)(r:List Oper)(fr:AFr)(σ:ASt)(g:Log)(K:AFr→ASt→Log→Prop)(t:Nat)(want:Bool):PV→Prop
 | .bool b=>(b=want→evO P op d ((t,.bool want)::fr) σ fun u δ F=>bv F fun F=>nxD P all r ((t,.bool want)::fr) d u σ δ g F K)∧(b= !want→evD P all r (agr ((t,.bool (!want))::fr) d (.tup [])) σ (([],[])::g) K)
 | .tup []=>nxD P all r fr d (.tup []) σ [] g [] K
 |_=>False
theorem ayq(P:Program)(all:Array Oper)(d:Option Nat)(op:Op)(ty:TypeId)(p:String)(af:Array Edge)(j:Nat)(want:Bool)(r:List Oper)(fr:AFr)(σ:ASt)(g:Log)(K:AFr→ASt→Log→Prop):
  evD P all (⟨d,op,ty,p,af,some (j,want)⟩::r) fr σ g K=(d7 op=false∧bv (il all j) fun t=>match t with|some t=>bv (look fr t) fun u=>vGD P all op d r fr σ g K t want u|none=>False):=by
 simp only[evD,bv]
 cases il all j with
 |none=>rfl
 |some t=>
  simp only
  cases look fr t with
  |tup cs=>cases cs<;>simp only[vGD]<;>rfl
  |bool b=>simp only[vGD,t7];rfl
  |_=>simp only[vGD]
theorem aa4(P:Program)(all:Array Oper)(op:Op)(d:Option Nat)(r:List Oper)(fr:AFr)(σ:ASt)(g:Log)(K:AFr→ASt→Log→Prop)(t:Nat)(want b:Bool):vGD P all op d r fr σ g K t want (.bool b)=
  ((b=want→evO P op d ((t,.bool want)::fr) σ fun u δ F=>bv F fun F=>nxD P all r ((t,.bool want)::fr) d u σ δ g F K)∧(b= !want→bv (PV.bool (!want)) fun v=>nxD P all r ((t,v)::fr) d (.tup []) σ [] g [] K)):=(rfl)
theorem azf(P:Program)(all:Array Oper)(op:Op)(d:Option Nat)(r:List Oper)(fr:AFr)(σ:ASt)(g:Log)(K:AFr→ASt→Log→Prop)(t:Nat)(want:Bool):vGD P all op d r fr σ g K t want (.tup [])=nxD P all r fr d (.tup []) σ [] g [] K:=(rfl)
section
variable (P:Program) (d:Option Nat) (fr:AFr) (σ:ASt) (K:KT)
theorem af7{α:Type} [Inhabited α](f:α→List PV)(l:List α)(i:Nat)(h:i<l.length):dd (l.map f) i=f (el l i):=by
 simp[dd,el,List.getD_eq_getElem?_getD,h]
theorem aqd(u:PV)(r:List PV):eh (u::r) 0=u:=(rfl)
theorem ani(u:PV)(r:List PV)(i:Nat):eh (u::r) (i+1)=eh r i:=(rfl)
theorem aop(u:List PV)(r:List (List PV)):dd (u::r) 0=u:=(rfl)
theorem ap6(u:List PV)(r:List (List PV))(i:Nat):dd (u::r) (i+1)=dd r i:=(rfl)
theorem a1w(x:Operand):evO P (.move x) d fr σ K=kk K (ev fr x) [] []:=(rfl)
theorem ap1(x:Operand):evO P (.assign x) d fr σ K=kk K (ev fr x) [] []:=(rfl)
def a7c(fr:AFr)(a b:Operand)(K:KT):PV→Prop
 | .bool t=>(t=true→kk K (ev fr a) [] [])∧(t=false→kk K (ev fr b) [] [])
 |_=>False
theorem ay4(c a b:Operand):evO P (.pick c a b) d fr σ K=bv (ev fr c) (a7c fr a b K):=by
 simp only[evO,xh,bv]
 cases ev fr c<;>rfl
theorem zw(a b:Operand)(t:Bool):a7c fr a b K (.bool t)=((t=true→kk K (ev fr a) [] [])∧(t=false→kk K (ev fr b) [] [])):=(rfl)
def bd5(K:KT):PV→Prop
 | .ptr n k=>K (.ptr n k) [] []
 | .el cs=>K (.el cs) [] []
 |_=>False
theorem ae9(x:Operand):evO P (.nilCheck x) d fr σ K=bv (ev fr x) (bd5 K):=by
 simp only[evO,xh,bv]
 cases ev fr x<;>rfl
theorem a0s(n k:Nat):bd5 K (.ptr n k)=K (.ptr n k) [] []:=(rfl)
def bd1(i:Nat)(K:KT):PV→Prop
 | .tup us=>i<us.length∧kk K (eh us i) [] []
 |_=>False
theorem aha(t:Operand)(i:Nat):evO P (.extract t i) d fr σ K=bv (ev fr t) (bd1 i K):=by
 simp only[evO,xh,bv]
 cases ev fr t<;>rfl
theorem a21(i:Nat)(us:List PV):bd1 i K (.tup us)=(i<us.length∧kk K (eh us i) [] []):=(rfl)
theorem atd(t:TypeId)(d:Nat):evO P (.alloc t) (some d) fr σ K=bv (av P t) fun z=>match z with|some zs=>ac σ d=none∧K (.ptr d 0) [(d,.cells zs)] [d]|none=>False:=by
 simp only[evO,xh,bv]
 cases av P t<;>rfl
theorem a58(t:TypeId)(x:Operand)(d:Nat):evO P (.box t x) (some d) fr σ K=bv (c9 (ev fr x)) fun z=>match z with|some us=>ac σ d=none∧K (.ptr d 0) [(d,.cells us)] [d]|none=>False:=by
 simp only[evO,xh,bv]
 cases c9 (ev fr x)<;>rfl
def a0o(fr:AFr):List (Nat×Operand)→List (Nat×PV)
 |[]=>[]
 |(i,x)::r=>(i,ev fr x)::a0o fr r
theorem alx(l:List (Nat×Operand)):(l.map fun p=>(p.1,ev fr p.2))=a0o fr l:=by
 induction l with
 |nil=>rfl
 |cons p r ih=>obtain⟨i,x⟩:=p;simp only[List.map_cons,a0o,ih]
theorem azm:a0o fr []=[]:=(rfl)
theorem auc(i:Nat)(x:Operand)(r:List (Nat×Operand)):a0o fr ((i,x)::r)=(i,ev fr x)::a0o fr r:=(rfl)
theorem atz(t:TypeId)(ps:List (Nat×Operand)):evO P (.build t ps.toArray) d fr σ K=bv (um P t (a0o fr ps)) fun z=>match z with|some cs=>K (.agg cs) [] []|none=>False:=by
 simp only[evO,xh,bv,alx]
 cases um P t (a0o fr ps)<;>rfl
theorem xq(t:TypeId)(n:Nat)(ps:List (Nat×Operand)):evO P (.buildSlice t n ps.toArray) d fr σ K=bv (a0o fr ps) fun z=>gi P t n z d σ K:=by
 simp only[evO,xh,bv,alx]
theorem a1m(t:TypeId)(a:Operand):evO P (.load t a) d fr σ K=bv (ev fr a) fun u=>ni P t σ u K:=(rfl)
theorem arw(t:TypeId)(a v:Operand):evO P (.store t a v) d fr σ K=bv (ev fr a) fun u=>bv (ev fr v) fun v=>kx P t σ u v K:=(rfl)
theorem acl(t:TypeId)(x:Operand)(f:Nat):evO P (.fieldAddr t x f) d fr σ K=bv (ev fr x) fun u=>d8 P t f σ u K:=(rfl)
theorem aah(t:TypeId)(x i:Operand):evO P (.indexAddr t x i) d fr σ K=bv (ev fr x) fun u=>bv (ev fr i) fun v=>bj P t σ u v K:=(rfl)
theorem ar1(t:TypeId)(x i:Operand):evO P (.index t x i) d fr σ K=bv (ev fr x) fun u=>bv (ev fr i) fun v=>mj P t u v K:=(rfl)
theorem as9(op:BinOp)(t:TypeId)(x y:Operand)(yt:TypeId):evO P (.binOp op t x y yt) d fr σ K=bv (ev fr x) fun u=>bv (ev fr y) fun v=>fb P op t u v fun u=>kk K u [] []:=(rfl)
theorem azj(op:UnOp)(t:TypeId)(x:Operand):evO P (.unOp op t x) d fr σ K=bv (ev fr x) fun u=>a8o op u fun u=>kk K u [] []:=(rfl)
theorem ajv(s e:TypeId)(x:Operand):evO P (.convert s e x) d fr σ K=bv (ev fr x) fun u=>om P s e d σ u fun u δ F=>kk K u δ F:=(rfl)
theorem au5(t:TypeId)(x:Operand)(lo hi mx:Option Operand):evO P (.slice t x lo hi mx) d fr σ K=bv (ev fr x) fun u=>bv (lo.map (ev fr)) fun lo=>bv (hi.map (ev fr)) fun hi=>bv (mx.map (ev fr)) fun mx=>gh P t σ u lo hi mx fun u δ F=>kk K u δ F:=(rfl)
theorem abv(t:TypeId)(l c:Operand):evO P (.makeSlice t l c) d fr σ K=bv (ev fr l) fun u=>bv (ev fr c) fun v=>qx P t d σ u v fun u δ F=>kk K u δ F:=(rfl)
def a24(fr:AFr):List Operand→List PV
 |[]=>[]
 |x::r=>ev fr x::a24 fr r
theorem ald(l:List Operand):l.map (ev fr)=a24 fr l:=by
 induction l with
 |nil=>rfl
 |cons x r ih=>simp only[List.map_cons,a24,ih]
theorem ay6:a24 fr []=[]:=(rfl)
theorem as7(x:Operand)(r:List Operand):a24 fr (x::r)=ev fr x::a24 fr r:=(rfl)
theorem aez(f:FuncId)(cap:List Operand):evO P (.makeFunc (.func f) #[] cap.toArray) d fr σ K=bv (a24 fr cap) fun us=>K (.fn f us) [] []:=by
 simp only[evO,xh,bv,ald,a6x]
theorem a2r(f:Operand)(ys:List Operand)(ts:Array TypeId):evO P (.call ⟨.value f,ys.toArray,ts⟩) d fr σ K=bv (ev fr f) fun f=>bv (a24 fr ys) fun us=>vb P f us d σ fun u δ F=>kk K u δ F:=by
 simp only[evO,xh,bv,ald,bcm]
 rfl
theorem aw2(t:TypeId)(cs:List PV):a52 P t σ (.agg cs) K=(ifT P t=true∧bv (f9 σ cs) fun p=>match p with
  |some (us,[])=>K (.ifc t (.agg us)) [] []
  |_=>False):=(rfl)
theorem a6i(y:Operand)(t:TypeId):evO P (.call ⟨.builtin .len, #[y], #[t]⟩) d fr σ K=bv (ev fr y) fun u=>o7 P t σ u K:=(rfl)
theorem aua(y:Operand)(t:TypeId):evO P (.call ⟨.builtin .clear, #[y], #[t]⟩) d fr σ K=bv (ev fr y) fun u=>am9 P t σ u K:=(rfl)
theorem aog(y z:Operand)(t tx:TypeId):evO P (.call ⟨.builtin .append, #[y,z], #[t,tx]⟩) d fr σ K=bv (ev fr y) fun u=>bv (ev fr z) fun v=>ww P t tx d σ u v fun u δ F=>kk K u δ F:=(rfl)
theorem a1b(y z:Operand)(t tx:TypeId):evO P (.call ⟨.builtin .copy, #[y,z], #[t,tx]⟩) d fr σ K=bv (ev fr y) fun u=>bv (ev fr z) fun v=>y4 P t tx σ u v fun u δ F=>kk K u δ F:=(rfl)
theorem a65(y z:Operand)(ts:Array TypeId):evO P (.call ⟨.builtin .min, #[y,z],ts⟩) d fr σ K=bv (ev fr y) fun u=>bv (ev fr z) fun v=>a3o false u v fun u δ F=>kk K u δ F:=(rfl)
theorem a6y(y z:Operand)(ts:Array TypeId):evO P (.call ⟨.builtin .max, #[y,z],ts⟩) d fr σ K=bv (ev fr y) fun u=>bv (ev fr z) fun v=>a3o true u v fun u δ F=>kk K u δ F:=(rfl)
theorem apg(t:TypeId)(n off:Nat):ni P t σ (.ptr n off) K=bv (ldT P t) fun l=>bv (ac σ n) fun B=>match l,B with
  |some none,some (.cells cs)=>off<cs.length∧kk K (eh cs off) [] [n]
  |some (some m),some (.cells cs)=>off+m≤cs.length∧kk K (.agg ((cs.drop off).take m)) [] [n]
  |_,_=>False:=by
 simp only[ni,bv,kk,dd,eh]
 rcases ldT P t with _|_|m<;>(try rfl)<;>rcases ac σ n with _|B<;>(try rfl)<;>cases B<;>rfl
theorem ate(t:TypeId)(cs:List PV):ni P t σ (.el cs) K=bv (ldT P t) fun l=>match l with
  |some none=>0<cs.length∧kk K (eh cs 0) [] []
  |some (some m)=>m≤cs.length∧kk K (.agg (cs.take m)) [] []
  |none=>False:=by
 simp only[ni,bv,kk,dd,eh]
 rcases ldT P t with _|_|m<;>rfl
def aq1(n k i off:Nat)(K:KT):Option (Option Nat)→Option Box→Prop
 |some none,some (.arr _ _ _ xs)=>(k=xs.length∧i<k∧off<(dd xs i).length)∧kk K (eh (dd xs i) off) [] [n]
 |some (some m),some (.arr _ _ _ xs)=>(k=xs.length∧i<k∧off+m≤(dd xs i).length)∧kk K (.agg (((dd xs i).drop off).take m)) [] [n]
 |some none,some (.arh _ _ xs)=>(k=xs.length∧i<k∧off<(dd xs i).length)∧kk K (eh (dd xs i) off) [] [n]
 |some (some m),some (.arh _ _ xs)=>(k=xs.length∧i<k∧off+m≤(dd xs i).length)∧kk K (.agg (((dd xs i).drop off).take m)) [] [n]
 |_,_=>False
theorem aof(t:TypeId)(n k i off:Nat):ni P t σ (.oel n k i off) K=bv (ldT P t) fun l=>bv (ac σ n) fun B=>aq1 n k i off K l B:=by
 simp only[ni,bv,kk]
 rcases ldT P t with _|_|m<;>(try rfl)<;>rcases ac σ n with _|B<;>(try rfl)<;>cases B<;>first|rfl|simp only[aq1,kk,bv,dd,eh,and_assoc]
theorem ard(n k i off e sz:Nat)(xs:List (List PV)):aq1 n k i off K (some none) (some (.arh e sz xs))=((k=xs.length∧i<k∧off<(dd xs i).length)∧kk K (eh (dd xs i) off) [] [n]):=(rfl)
theorem vo(t:TypeId)(n off:Nat)(v:PV):kx P t σ (.ptr n off) v K=bv (bx P t) fun m=>bv (c9 v) fun us=>bv (ac σ n) fun B=>match m,us,B with
  |some m,some us,some (.cells cs)=>(us.length=m∧us.all eu=true∧off+m≤cs.length)∧kk K .undef [(n,.cells (cs.take off++us++cs.drop (off+m)))] [n]
  |_,_,_=>False:=by
 simp only[kx,bv,kk,dd,eh]
 rcases bx P t with _|m<;>(try rfl)<;>rcases c9 v with _|us<;>(try rfl)<;>rcases ac σ n with _|B<;>(try (simp only[and_false];done))<;>cases B<;>simp only[and_assoc,and_false]
def agq(σ:ASt)(n k i off:Nat)(K:KT):Option Nat→Option (List PV)→Option Box→Prop
 |some m,some us,some (.arr e sz false xs)=>match f9 σ us with
   |some (us',ns)=>(us.length=m∧us.all eu=true∧k=xs.length∧i<k∧off+m≤sz∧n∉ns)∧kk K .undef (bt σ ns++[(n,.arr e sz false (xs.set i ((dd xs i).take off++us'++(dd xs i).drop (off+m))))]) (n::ns)
   |none=>False
 |some m,some us,some (.arh e sz xs)=>(us.length=m∧us.all eu=true∧k=xs.length∧i<k∧off+m≤sz)∧kk K .undef [(n,.arh e sz (xs.set i ((dd xs i).take off++us++(dd xs i).drop (off+m))))] [n]
 |_,_,_=>False
theorem ah6(t:TypeId)(n k i off:Nat)(v:PV):kx P t σ (.oel n k i off) v K=bv (bx P t) fun m=>bv (c9 v) fun us=>bv (ac σ n) fun B=>agq σ n k i off K m us B:=by
 simp only[kx,bv,kk]
 rcases bx P t with _|m<;>(try rfl)<;>rcases c9 v with _|us<;>(try rfl)<;>rcases ac σ n with _|B<;>(try (simp only[agq,and_false];done))<;>cases B with
 |cells cs=>simp only[agq,and_false]
 |arr e sz sh xs=>cases sh<;>simp only[agq,and_false]<;>rcases f9 σ us with _|⟨us',ns⟩<;>simp only[kk,bv,dd,and_assoc,and_false]
 |arh e sz xs=>simp only[agq,kk,bv,dd,and_assoc]
 |mp es=>simp only[agq,and_false]
 |it m k d=>simp only[agq,and_false]
 |si l p=>simp only[agq,and_false]
 |arq e sz k xs=>simp only[agq,and_false]
 |dead sz l=>simp only[agq,and_false]
theorem a9c(n k i off m e sz:Nat)(us:List PV)(xs:List (List PV)):agq σ n k i off K (some m) (some us) (some (.arh e sz xs))=((us.length=m∧us.all eu=true∧k=xs.length∧i<k∧off+m≤sz)∧bv (dd xs i) fun c=>bv (xs.set i (c.take off++us++c.drop (off+m))) fun xs'=>kk K .undef [(n,.arh e sz xs')] [n]):=(rfl)
theorem aku(n k i off m e sz:Nat)(us:List PV)(xs:List (List PV)):agq σ n k i off K (some m) (some us) (some (.arr e sz false xs))=bv (f9 σ us) fun p=>match p with
   |some (us',ns)=>(us.length=m∧us.all eu=true∧k=xs.length∧i<k∧off+m≤sz∧n∉ns)∧kk K .undef (bt σ ns++[(n,.arr e sz false (xs.set i ((dd xs i).take off++us'++(dd xs i).drop (off+m))))]) (n::ns)
   |none=>False:=by
 simp only[agq,bv]
theorem a12{α:Type} [Inhabited α](f:α→List PV)(l:List α)(n k i off m e sz:Nat)(us:List PV):agq σ n k i off K (some m) (some us) (some (.arr e sz false (l.map f)))=bv (f9 σ us) fun p=>match p with
   |some (us',ns)=>(us.length=m∧us.all eu=true∧k=l.length∧i<k∧off+m≤sz∧n∉ns)∧bv (f (el l i)) fun c=>bv ((l.map f).set i (c.take off++us'++c.drop (off+m))) fun xs'=>kk K .undef (bt σ ns++[(n,.arr e sz false xs')]) (n::ns)
   |none=>False:=by
 rw[aku]
 simp only[bv]
 rcases f9 σ us with _|⟨us',ns⟩
 ·rfl
 ·simp only[List.length_map,and_assoc]
  refine propext (and_congr_right fun _=>and_congr_right fun _=>and_congr_right fun h1=>and_congr_right fun h2=> ?_)
  rw[af7 f l i (by omega)]
theorem ai4(t:TypeId)(f n k:Nat):d8 P t f σ (.ptr n k) K=bv (fo P t f) fun o=>match o with|some off=>bv (k+off) fun k=>K (.ptr n k) [] []|none=>False:=(rfl)
theorem aow(t:TypeId)(f:Nat)(cs:List PV):d8 P t f σ (.el cs) K=bv (fo P t f) fun o=>match o with|some off=>kk K (.el (cs.drop off)) [] []|none=>False:=(rfl)
theorem ai2(t:TypeId)(f n k i o1:Nat):d8 P t f σ (.oel n k i o1) K=bv (fo P t f) fun o=>bv (ac σ n) fun B=>match o,B with
  |some off,some (.arr _ _ _ xs)=>(k=xs.length∧i<k)∧bv (o1+off) fun o=>K (.oel n k i o) [] [n]
  |some off,some (.arh _ _ xs)=>(k=xs.length∧i<k)∧bv (o1+off) fun o=>K (.oel n k i o) [] [n]
  |_,_=>False:=by
 simp only[d8,bv]
 rcases fo P t f with _|off<;>(try rfl)<;>rcases ac σ n with _|B<;>(try rfl)<;>cases B<;>first|rfl|simp only[and_assoc]
theorem ams(t:TypeId)(xs:List (List PV))(kd:IntKind)(i:Int):bj P t σ (.vs xs) (.int kd i) K=bv (slT P t) fun s=>match s with
  |some (_,sz,_)=>(0≤i∧i<xs.length)∧(dd xs i.toNat).length=sz∧kk K (.el (dd xs i.toNat)) [] []
  |none=>False:=by
 simp only[bj,bv,kk,dd,eh]
 rcases slT P t with _|⟨e,sz,b⟩<;>first|rfl|simp only[and_assoc]
theorem a2m(t:TypeId)(n m:Nat)(kd:IntKind)(i:Int):bj P t σ (.os n m) (.int kd i) K=bv (slT P t) fun s=>bv (ac σ n) fun B=>match s,B with
  |some (_,sz,_),some (.arr _ sz' _ xs)=>(sz'=sz∧m=xs.length∧0≤i∧i<xs.length)∧kk K (.oel n m i.toNat 0) [] [n]
  |some (_,sz,_),some (.arh _ sz' xs)=>(sz'=sz∧m=xs.length∧0≤i∧i<xs.length)∧kk K (.oel n m i.toNat 0) [] [n]
  |_,_=>False:=by
 simp only[bj,bv,kk,dd,eh]
 rcases slT P t with _|⟨e,sz,b⟩<;>(try rfl)<;>rcases ac σ n with _|B<;>(try rfl)<;>cases B<;>first|rfl|simp only[and_assoc]
theorem awp(t:TypeId)(n m a:Nat)(kd:IntKind)(i:Int):bj P t σ (.osl n m a) (.int kd i) K=bv (slT P t) fun s=>bv (ac σ n) fun B=>match s,B with
  |some (_,sz,_),some (.arh _ sz' xs)=>(sz'=sz∧m=xs.length∧0≤i∧a+i<xs.length)∧kk K (.oel n m (a+i.toNat) 0) [] [n]
  |_,_=>False:=by
 simp only[bj,bv,kk,dd,eh]
 rcases slT P t with _|⟨e,sz,b⟩<;>(try rfl)<;>rcases ac σ n with _|B<;>(try rfl)<;>cases B<;>first|rfl|simp only[and_assoc]
theorem au6(t:TypeId)(n m:Nat)(kd:IntKind)(i:Int):bj P t σ (.ptr n m) (.int kd i) K=bv (arT P t) fun s=>match s with
  |some (len,sz)=>(0≤i∧i<len)∧kk K (.ptr n (m+i.toNat*sz)) [] []
  |none=>False:=by
 simp only[bj,bv,kk,dd,eh]
 rcases arT P t with _|⟨len,sz⟩<;>first|rfl|simp only[and_assoc]
theorem aho(t:TypeId)(cs:List PV)(kd:IntKind)(n:Int):mj P t (.agg cs) (.int kd n) K=bv (sv P t) fun s=>match s with
  |some (len,e)=>bv (jh P e) fun r=>bv (bx P e) fun z=>(r=some false∧z=some 1)∧(0≤n∧n<len∧n<cs.length)∧kk K (eh cs n.toNat) [] []
  |none=>False:=by
 simp only[mj,bv,kk,dd,eh]
 cases h:sv P t with
 |none=>simp
 |some p=>
  obtain⟨len,e⟩:=p
  apply propext
  constructor
  ·rintro⟨l,e',h1,h2,h3,h4,h5,h6,h7⟩
   cases h1
   exact⟨⟨h2,h3⟩,⟨h4,h5,h6⟩,h7⟩
  ·rintro⟨⟨h2,h3⟩,⟨h4,h5,h6⟩,h7⟩
   exact⟨len,e,rfl,h2,h3,h4,h5,h6,h7⟩
theorem ajt(t:TypeId)(l:List UInt8)(kd:IntKind)(n:Int):mj P t (.str l) (.int kd n) K=bv (ew P t) fun s=>s=true∧(0≤n∧n<l.length)∧kk K (.int .u8 ((l.getD n.toNat 0).toNat:Int)) [] []:=by
 simp only[mj,bv,kk,and_assoc]
theorem asd(t:TypeId)(l:List UInt8):sy P t σ (.str l) K=bv (ew P t) fun s=>s=true∧kk K (.int .i64 l.length) [] []:=(rfl)
theorem a2d(t:TypeId)(xs:List (List PV)):sy P t σ (.vs xs) K=bv (ap P t) fun s=>s=true∧kk K (.int .i64 xs.length) [] []:=(rfl)
theorem az3(t:TypeId)(n k:Nat):sy P t σ (.os n k) K=bv (ac σ n) fun B=>bv (ap P t) fun s=>match B with
  |some (.arr _ _ _ xs)=>(k=xs.length∧s=true)∧kk K (.int .i64 k) [] [n]
  |some (.arh _ _ xs)=>(k=xs.length∧s=true)∧kk K (.int .i64 k) [] [n]
  |_=>False:=by
 simp only[sy,bv,kk,dd,eh]
 rcases ac σ n with _|B<;>(try rfl)<;>cases B<;>first|rfl|simp only[and_assoc]
theorem arg(t:TypeId)(n k i:Nat):sy P t σ (.osl n k i) K=bv (ap P t) fun s=>s=true∧kk K (.int .i64 ((k - i:Nat):Int)) [] []:=(rfl)
theorem agx(s e:TypeId)(k:IntKind)(n:Int):om P s e d σ (.int k n) K=o6 P s e σ (.int k n) K:=(rfl)
theorem ao5(s e:TypeId)(n k:Nat):om P s e d σ (.os n k) K=o6 P s e σ (.os n k) K:=(rfl)
def bd3(d e:Nat)(l:List UInt8)(K:KT):Prop:=kk K (.os d l.length) [(d,.arr e 1 false (az l))] [d]
theorem ai5(s e:TypeId)(l:List UInt8)(d:Nat):om P s e (some d) σ (.str l) K=bv (ew P e) fun q=>bv (gx P s) fun z=>bv (ew P s) fun p=>bv (i7 P e) fun y=>bv (a8 P e) fun el=>if q=true then z=true∧K (.str l) [] []else match el with
  |some t=>p=true∧y=true∧bv (ac σ d) (fun B=>B=none)∧l.length≤140737488355328∧bd3 d t l K
  |none=>False:=(rfl)
theorem aoe(s e:TypeId)(k:IntKind)(n:Int):o6 P s e σ (.int k n) K=bv (mi P e) fun q=>bv (gx P s) fun z=>match q with|some k'=>z=true∧K (.int k' (k'.wrap n)) [] []|none=>False:=(rfl)
theorem awo(s e:TypeId)(n k:Nat):o6 P s e σ (.os n k) K=bv (ac σ n) fun B=>bv (i7 P s) fun q=>bv (ew P e) fun p=>match B with
  |some (.arr _ _ _ xs)=>(k=xs.length∧q=true∧p=true)∧∃l,xs=az l∧K (.str l) [] [n]
  |_=>False:=by
 simp only[o6,bv]
 rcases ac σ n with _|B<;>(try rfl)<;>cases B<;>first|rfl|simp only[and_assoc]
theorem aso(t:TypeId)(n:Nat):o7 P t σ (.mh n) K=bv (ac σ n) fun B=>bv (ags P t) fun m=>match B,m with
  |some (.mp es),some _=>kk K (.int .i64 es.length) [] [n]
  |_,_=>False:=(rfl)
theorem aor(t:TypeId)(l:List UInt8):o7 P t σ (.str l) K=sy P t σ (.str l) K:=(rfl)
theorem at8(t:TypeId)(xs:List (List PV)):o7 P t σ (.vs xs) K=sy P t σ (.vs xs) K:=(rfl)
theorem asn(t:TypeId)(n k:Nat):o7 P t σ (.os n k) K=sy P t σ (.os n k) K:=(rfl)
def bbj(ok:Bool)(n:Nat)(q:PV)(K:KT):Option Box→Option (TypeId×TypeDesc×TypeId)→(TypeId→Option PV)→Prop
 |some (.mp es),some (_,dk,e),zv=>bv (me dk q) fun b=>bv (kb q es 0) fun r=>bv (zv e) fun z=>match r,z with
  |some r,some z=>b=true∧kk K (a4r es z ok r) [] [n]
  |_,_=>False
 |_,_,_=>False
theorem am1(t:TypeId)(x i:Operand)(ok:Bool):evO P (.lookup t x i ok) d fr σ K=bv (ev fr x) fun u=>bv (ev fr i) fun q=>yu P t ok σ u q K:=(rfl)
theorem ar6(t:TypeId)(ok:Bool)(n:Nat)(q:PV):yu P t ok σ (.mh n) q K=bv (ac σ n) fun B=>bv (ags P t) fun m=>bbj ok n q K B m (an2 P):=by
 simp only[yu,bv,kk]
 rcases ac σ n with _|B<;>(try rfl)<;>cases B<;>(try rfl)<;>rcases ags P t with _|⟨k,dk,e⟩<;>(try rfl)
theorem ayn(ok:Bool)(n:Nat)(q:PV)(es:List (PV×PV))(k e:TypeId)(dk:TypeDesc)(zv:TypeId→Option PV):bbj ok n q K (some (.mp es)) (some (k,dk,e)) zv=bv (me dk q) fun b=>bv (kb q es 0) fun r=>bv (zv e) fun z=>match r,z with
  |some r,some z=>b=true∧kk K (a4r es z ok r) [] [n]
  |_,_=>False:=(rfl)
def bd8(n:Nat)(q v:PV)(K:KT):Option Box→Option (TypeId×TypeDesc×TypeId)→Prop
 |some (.mp es),some (_,dk,_)=>bv (me dk q) fun b=>bv (kb q es 0) fun r=>match r with
  |some r=>b=true∧bv (akz es q v r) fun es'=>kk K .undef [(n,.mp es')] [n]
  |_=>False
 |_,_=>False
theorem abt(t:TypeId)(x i v:Operand):evO P (.mapUpdate t x i v) d fr σ K=bv (ev fr x) fun u=>bv (ev fr i) fun q=>bv (ev fr v) fun v=>ajp P t σ u q v K:=(rfl)
theorem azg(t:TypeId)(n:Nat)(q v:PV):ajp P t σ (.mh n) q v K=bv (ac σ n) fun B=>bv (ags P t) fun m=>bd8 n q v K B m:=by
 simp only[ajp,bv,kk]
 rcases ac σ n with _|B<;>(try rfl)<;>cases B<;>(try rfl)<;>rcases ags P t with _|⟨k,dk,e⟩<;>(try rfl)
theorem a5d(n:Nat)(q v:PV)(es:List (PV×PV))(k e:TypeId)(dk:TypeDesc):bd8 n q v K (some (.mp es)) (some (k,dk,e))=bv (me dk q) fun b=>bv (kb q es 0) fun r=>match r with
  |some r=>b=true∧bv (akz es q v r) fun es'=>kk K .undef [(n,.mp es')] [n]
  |_=>False:=(rfl)
theorem air(t:TypeId)(d:Nat):evO P (.makeMap t none) (some d) fr σ K=(bv (ac σ d) (fun B=>B=none)∧K (.mh d) [(d,.mp [])] [d]):=(rfl)
theorem axm(t:TypeId)(x:Operand)(d:Nat):evO P (.range t x) (some d) fr σ K=bv (ev fr x) fun u=>avb P t (some d) σ u K:=(rfl)
theorem avo(x:Operand):evO P (.next x true) d fr σ K=bv (ev fr x) fun u=>ut σ u K:=(rfl)
def bdz(l:List UInt8)(pos n:Nat)(r:Nat×Nat)(K:KT):Prop:=kk K (.tup [.bool true,.int .i64 pos,.int .i32 r.1]) [(n,.si l (pos+r.2))] [n]
theorem a5x(l:List UInt8)(pos n a b:Nat)(K:KT):bdz l pos n (a,b) K=kk K (.tup [.bool true,.int .i64 pos,.int .i32 a]) [(n,.si l (pos+b))] [n]:=(rfl)
theorem ao4(n:Nat):ut σ (.mh n) K=bv (ac σ n) fun B=>match B with
  |some (.si l pos)=>(pos<l.length→bv (ar4 l pos) fun r=>bdz l pos n r K)∧(¬pos<l.length→K (.tup [.bool false]) [] [n])
  |_=>False:=(rfl)
theorem au8(t:TypeId)(l:List UInt8)(d:Nat):avb P t (some d) σ (.str l) K=(ew P t=true∧bv (ac σ d) (fun B=>B=none)∧K (.mh d) [(d,.si l 0)] [d]):=(rfl)
end
end Go.Proofs.Am
