/- AmThree. -/
import Derived.Test.YthidogjdclkoeaaGreatDoorAmJ7
set_option linter.unusedSimpArgs false
set_option linter.unusedVariables false
namespace Go.Proofs.Am
open Go Go.RowKit
variable {P:Program}
def d4(nb ext:List Box):St:=fun n=>if n<1000000 then nb[n]? else ext[n - 1000000]?
def cx(w:World)(V:Addr->Prop)(hv:Nat->Value)(ext:List Box)(gc:Nat->Obj->Prop):Ctx P where
 gc:=gc
 w0:=w
 V:=V
 E b:= ∃n B,d4 [] ext n=some B/\blk (hv n)=some b
 hx n:=(d4 [] ext n).map fun B=>(hv n,B)
structure Den(P:Program)(k:FuncId)(args:List PV)(ext:List Box)(r:PV)(nb ext':List Box):Prop where
 enter: ∀as w,(callFunc k as).run P w= .ok (.enter k as) w
 run: ∀(w:World) (V:Addr->Prop) (hv:Nat->Value) (gc:Nat->Obj->Prop) (vals:List Value),SimW (cx (P:=P) w V hv ext gc) (d4 [] ext) hv w->vals.length=args.length->
  (∀(i:Nat) (v:Value) (u:PV),vals[i]? =some v->args[i]? =some u->RV (env (cx (P:=P) w V hv ext gc) (d4 [] ext) hv w) v u)->
  Calls P k vals.toArray w fun e w'=> ∃v hv',e= .returned v/\SimW (cx (P:=P) w V hv ext gc) (d4 nb ext') hv' w'/\RV (env (cx (P:=P) w V hv ext gc) (d4 nb ext') hv' w') v r
abbrev noH:PV->Prop:=Hin fun _=>False
def amp:Box->Prop
 | .cells cs=> ∀u∈cs,noH u
 | .arr _ _ _ _=>True
 | .arh _ _ xs=> ∀x∈xs,∀u∈x,noH u
 | .mp es=> ∀e∈es,noH e.2
 | .it _ _ _=>False
 | .si _ _=>False
 | .arq _ _ _ _=>False
 | .dead _ _=>True
theorem RV.noH{E F:Env}(hpc: ∀a v,E.pc a v->F.pc a v){v:Value}{u:PV}(h:RV E v u)(hu:Am.noH u):RV F v u:=
 h.hin hpc (fun _ _ _ h=>h.elim) (fun _ _ _ h=>h.elim) (fun _ _ _ _ _ h=>h.elim) (fun _ _ h=>h.elim) (fun _ _ _ h=>h.elim) hu
theorem BoxRep.noH{E F:Env}(hpc: ∀a v,E.pc a v->F.pc a v){w:World}{h:Value}{B:Box}(hb:BoxRep P E w h B)(hB:amp B):BoxRep P F w h B:=by
 cases B with
 |cells cs=>
  obtain⟨b,t,arr,h1,h2,h3,h4⟩:=hb
  exact⟨b,t,arr,h1,h2,h3,fun i u hu=>(h4 i u hu).noH hpc (hB u (List.mem_of_getElem? hu))⟩
 |arr e sz sh xs=>
  obtain⟨h0,ys,h1,h2,h2',h3⟩:=hb
  exact⟨h0,ys,h1,h2,h2',fun i x j u hx hu=>(h3 i x j u hx hu).mono hpc⟩
 |arh e sz xs=>
  obtain⟨h0,ys,h1,h2,h2',h3⟩:=hb
  exact⟨h0,ys,h1,h2,h2',fun i x j u hx hu=>(h3 i x j u hx hu).noH hpc (hB x (List.mem_of_getElem? hx) u (List.mem_of_getElem? hu))⟩
 |mp es=>
  obtain⟨b,arr,h1,h2,h3,h4⟩:=hb;refine⟨b,arr,h1,h2,h3,fun i p hp=> ?_⟩;obtain⟨en,e1,e2,e3,e4⟩:=h4 i p hp
  exact⟨en,e1,e2,e3.mono hpc,e4.noH hpc (hB p (List.mem_of_getElem? hp))⟩
 |it m k d=>exact hB.elim
 |si l p=>exact hB.elim
 |arq e sz k xs=>exact hB.elim
 |dead sz l=>exact hb
def nc:List Nat->Nat->Option Nat
 |[],_=>none
 |a::r,n=>if a=n then some 0 else(nc r n).map (· +1)
theorem ik: ∀{l:List Nat} {n j:Nat},nc l n=some j->l[j]? =some n
 |[],_,_,h=>by cases h
 |a::r,n,j,h=>by
  simp only[nc]at h;split at h
  ·rename_i ha
   cases h
   simp[ha]
  ·cases hr:nc r n with
   |none=>rw[hr]at h;cases h
   |some i=>
    rw[hr]at h
    cases h
    simpa using ik hr
theorem j6: ∀{l:List Nat} {n j:Nat},l.Nodup->l[j]? =some n->nc l n=some j
 |[],_,_,_,h=>by simp at h
 |a::r,n,j,hd,h=>by
  simp only[nc];rw[List.nodup_cons]at hd
  cases j with
  |zero=>simp at h;simp[h]
  |succ j=>
   simp at h;have hne:a≠n:=fun e=>hd.1 (e ▸ List.mem_of_getElem? h);rw[if_neg hne,j6 hd.2 h];rfl
theorem aro{l:List Nat}{n:Nat}(h:nc l n=none):n∉l:=by
 induction l with
 |nil=>simp
 |cons a r ih=>
  simp only[nc]at h;split at h
  ·cases h
  ·rename_i ha;simp at h;simp only[List.mem_cons,not_or];exact⟨fun e=>ha e.symm,ih h⟩
def ab2(σ:ASt)(ren:List Nat):PV->Option (PV×List Nat)
 | .ptr n off=>(nc ren n).map fun m=>(.ptr (1000000+m) off,[])
 | .mh n=>(nc ren n).map fun m=>(.mh (1000000+m),[])
 | .os n k=>match nc ren n with
  |some m=>some (.os (1000000+m) k,[])
  |none=>pur σ (.os n k)
 |u=>pur σ u
def jw(σ:ASt)(ren:List Nat):List PV->Option (List PV×List Nat)
 |[]=>some ([],[])
 |u::us=>match ab2 σ ren u,jw σ ren us with
  |some (v,a),some (vs,b)=>some (v::vs,a++b)
  |_,_=>none
def afm(σ:ASt)(ren:List Nat):PV->Option (PV×List Nat)
 | .agg cs=>(gr σ cs).map fun p=>(.agg p.1,p.2)
 | .fn f cs=>(jw σ ren cs).map fun p=>(.fn f p.1,p.2)
 | .undef=>some (.undef,[])
 | .vx xs=>some (.vx xs,[])
 |u=>ab2 σ ren u
def ud(σ:ASt)(ren:List Nat):List PV->Option (List PV×List Nat)
 |[]=>some ([],[])
 |u::us=>match afm σ ren u,ud σ ren us with
  |some (v,a),some (vs,b)=>some (v::vs,a++b)
  |_,_=>none
def a0b(σ:ASt):List Nat->Option (List Box×List Nat)
 |[]=>some ([],[])
 |n::r=>
  match ah σ n,a0b σ r with
  |some (.cells cs),some (ext,b)=>match gr σ cs with
   |some (cs',a)=>some (.cells cs'::ext,a++b)
   |none=>none
  |some (.arr e sz false xs),some (ext,b)=>some (.arr e sz false xs::ext,b)
  |_,_=>none
def aoe:Box->Box->Prop
 | .cells _,.cells _=>True
 | .arr _ sz _ xs,.arr _ sz' _ xs'=>sz'=sz/\xs.length<=xs'.length
 | .arr _ sz _ xs,.dead sz' l=>sz'=sz/\xs.length<=l
 | .mp _,.mp _=>True
 |_,_=>False
def aej:List Box->List Box->Prop
 |[],[]=>True
 |a::as,b::bs=>aoe a b/\amp b/\aej as bs
 |_,_=>False
def bn(d j:Nat):Nat:=d+100000*j
def nbD(d:Nat):Nat->List Box->ASt
 |_,[]=>[]
 |j,B::r=>(bn d j,B)::nbD d (j+1) r
def avo(f:Nat->Nat):PV->PV
 | .os j k=> .os (f j) k
 |u=>u
def a3p(f:Nat->Nat):PV->PV
 | .ago cs=> .agg (cs.map (avo f))
 | .os j k=> .os (f j) k
 | .ptr j o=> .ptr (f j) o
 | .mh j=> .mh (f j)
 |u=>u
def okN(n m j:Nat):Prop:=j<n\/(1000000<=j/\j<1000000+m)
def okA(n m:Nat):PV->Prop
 | .os j _=>okN n m j
 |u=>noH u
def okC(n m:Nat):PV->Prop
 | .ago cs=> ∀u∈cs,okA n m u
 | .os j _=>okN n m j
 | .ptr j _=>okN n m j
 | .mh j=>okN n m j
 |u=>noH u
def a47(f:Nat->Nat):PV->PV
 | .tup us=> .tup (us.map (a3p f))
 |u=>a3p f u
def okR(n m:Nat):PV->Prop
 | .tup us=> ∀u∈us,okC n m u
 |u=>okC n m u
def rnm(d:Nat)(ren:List Nat)(j:Nat):Nat:=if j<1000000 then bn d j else ren.getD (j - 1000000) 0
theorem aj4{σ:ASt}: ∀{ren:List Nat} {ext:List Box} {ns:List Nat},a0b σ ren=some (ext,ns)->ext.length=ren.length/\(∀n∈ns,∃B,ah σ n=some B)/\∀(j n:Nat),ren[j]? =some n->
  (∃cs cs' a,ah σ n=some (.cells cs)/\gr σ cs=some (cs',a)/\(∀m∈a,m∈ns)/\ext[j]? =some (.cells cs'))\/∃e sz xs,ah σ n=some (.arr e sz false xs)/\ext[j]? =some (.arr e sz false xs)
 |[],ext,ns,h=>by cases h;simp
 |n::r,ext,ns,h=>by
  simp only[a0b]at h
  cases hf:ah σ n with
  |none=>rw[hf]at h;simp at h
  |some B=>
   cases hl:a0b σ r with
   |none=>rw[hf,hl]at h;cases B<;>simp at h
   |some p=>
    obtain⟨e1,b1⟩:=p;obtain⟨i1,i2,i3⟩:=aj4 hl;rw[hf,hl]at h
    cases B with
    |arh e sz xs=>cases h
    |mp es=>cases h
    |it m k d=>cases h
    |si l p=>cases h
    |arq e sz k xs=>cases h
    |dead sz l=>cases h
    |cells cs=>
     simp only at h
     cases hp:gr σ cs with
     |none=>rw[hp]at h;cases h
     |some q=>
      obtain⟨cs',a⟩:=q;rw[hp]at h;simp only[Option.some.injEq,Prod.mk.injEq]at h;obtain⟨rfl,rfl⟩:=h;refine⟨by simp[i1],fun m hm=> ?_,fun j m hj=> ?_⟩
      ·rcases List.mem_append.1 hm with hm|hm
       ·exact gq hp m hm
       ·exact i2 m hm
      ·cases j with
       |zero=>
        simp at hj;subst hj
        exact .inl ⟨cs,cs',a,hf,hp,fun m hm=>by simp[hm],rfl⟩
       |succ j=>
        rcases i3 j m (by simpa using hj)with ⟨c1,c2,a2,h1,h2,h3,h4⟩|h1
        ·exact .inl ⟨c1,c2,a2,h1,h2,fun m hm=>by simp[h3 m hm],by simpa using h4⟩
        ·exact .inr (by simpa using h1)
    |arr e sz sh xs=>
     cases sh with
     |true=>simp at h
     |false=>
      simp only[Option.some.injEq,Prod.mk.injEq]at h;obtain⟨rfl,rfl⟩:=h;refine⟨by simp[i1],i2,fun j m hj=> ?_⟩
      cases j with
      |zero=>
       simp at hj;subst hj
       exact .inr ⟨e,sz,xs,hf,rfl⟩
      |succ j=>
       rcases i3 j m (by simpa using hj)with ⟨c1,c2,a2,h1,h2,h3,h4⟩|h1
       ·exact .inl ⟨c1,c2,a2,h1,h2,h3,by simpa using h4⟩
       ·exact .inr (by simpa using h1)
theorem adp: ∀{as bs:List Box},aej as bs->as.length=bs.length/\∀(j:Nat) (a:Box),as[j]? =some a->∃b,bs[j]? =some b/\aoe a b/\amp b
 |[],[],_=>by simp
 |a::as,b::bs,h=>by
  obtain⟨h1,h2,h3⟩:=h;obtain⟨i1,i2⟩:=adp h3;refine⟨by simp[i1],fun j c hj=> ?_⟩
  cases j with
  |zero=>simp at hj;subst hj;exact⟨b,rfl,h1,h2⟩
  |succ j=>simpa using i2 j c (by simpa using hj)
 |[],_::_,h=>h.elim
 |_::_,[],h=>h.elim
theorem vp{σ:ASt}{ren:List Nat}{u u':PV}{a:List Nat}(h:ab2 σ ren u=some (u',a)): ∀n∈a,∃B,ah σ n=some B:=by
 unfold ab2 at h;split at h
 ·cases hi:nc ren _ with
  |none=>rw[hi]at h;cases h
  |some m=>rw[hi]at h;simp only[Option.map_some,Option.some.injEq,Prod.mk.injEq]at h;obtain⟨_,rfl⟩:=h;simp
 ·cases hi:nc ren _ with
  |none=>rw[hi]at h;cases h
  |some m=>rw[hi]at h;simp only[Option.map_some,Option.some.injEq,Prod.mk.injEq]at h;obtain⟨_,rfl⟩:=h;simp
 ·split at h
  ·simp only[Option.some.injEq,Prod.mk.injEq]at h;obtain⟨_,rfl⟩:=h;simp
  ·exact mw h
 ·exact mw h
theorem tb{σ:ASt}{ren:List Nat}: ∀{us us':List PV} {a:List Nat},jw σ ren us=some (us',a)->∀n∈a,∃B,ah σ n=some B
 |[],us',a,h=>by cases h;simp
 |u::us,us',a,h=>by
  simp only[jw]at h
  cases h1:ab2 σ ren u with
  |none=>rw[h1]at h;cases h
  |some p=>
   cases h2:jw σ ren us with
   |none=>rw[h1,h2]at h;cases h
   |some q=>
    rw[h1,h2]at h;simp only[Option.some.injEq,Prod.mk.injEq]at h;obtain⟨_,rfl⟩:=h;intro n hn;rcases List.mem_append.1 hn with hn|hn
    ·exact vp h1 n hn
    ·exact tb h2 n hn
theorem agu{σ:ASt}{ren:List Nat}{u u':PV}{a:List Nat}(h:afm σ ren u=some (u',a)): ∀n∈a,∃B,ah σ n=some B:=by
 unfold afm at h;split at h
 ·cases hp:gr σ _ with
  |none=>rw[hp]at h;cases h
  |some p=>rw[hp]at h;simp only[Option.map_some,Option.some.injEq,Prod.mk.injEq]at h;obtain⟨_,rfl⟩:=h;exact gq hp
 ·cases hp:jw σ ren _ with
  |none=>rw[hp]at h;cases h
  |some p=>rw[hp]at h;simp only[Option.map_some,Option.some.injEq,Prod.mk.injEq]at h;obtain⟨_,rfl⟩:=h;exact tb hp
 ·cases h;simp
 ·cases h;simp
 ·exact vp h
theorem xu{σ:ASt}{ren:List Nat}: ∀{us us':List PV} {a:List Nat},ud σ ren us=some (us',a)->∀n∈a,∃B,ah σ n=some B
 |[],us',a,h=>by cases h;simp
 |u::us,us',a,h=>by
  simp only[ud]at h
  cases h1:afm σ ren u with
  |none=>rw[h1]at h;cases h
  |some p=>
   cases h2:ud σ ren us with
   |none=>rw[h1,h2]at h;cases h
   |some q=>
    rw[h1,h2]at h;simp only[Option.some.injEq,Prod.mk.injEq]at h;obtain⟨_,rfl⟩:=h;intro n hn;rcases List.mem_append.1 hn with hn|hn
    ·exact agu h1 n hn
    ·exact xu h2 n hn
structure Hand(x:Ctx P)(s:St)(hv:Nat->Value)(w:World)(σ:ASt)(ren ns:List Nat)(F:Env):Prop where
 sim:SimW x s hv w
 pc: ∀a v,(env x (ar s ns) hv w).pc a v->F.pc a v
 ptr: ∀n m off v,nc ren n=some m->(env x s hv w).ptr n off v->F.ptr (1000000+m) off v
 os: ∀n m k v,nc ren n=some m->(env x s hv w).os n k v->F.os (1000000+m) k v
 mh: ∀n m v,nc ren n=some m->(env x s hv w).mh n v->F.mh (1000000+m) v
section
variable {x:Ctx P} {s:St} {hv:Nat->Value} {w:World} {σ:ASt} {ren ns:List Nat} {F:Env} (H:Hand x s hv w σ ren ns F) (hs: ∀n∈ns,s n=ah σ n)
include H hs
theorem v8{u u':PV}{a:List Nat}{v:Value}(hu:ab2 σ ren u=some (u',a))(ha: ∀n∈a,n∈ns)(hv0:RV (env x s hv w) v u):RV F v u':=by
 have hpure: ∀{u u':PV} {a:List Nat},pur σ u=some (u',a)->(∀n∈a,n∈ns)->RV (env x s hv w) v u->RV F v u':=fun hu ha hv0=>
  .pure ((ee H.sim (fun n hn=>hs n (ha n hn)) hu ha hv0).mono H.pc)
 unfold ab2 at hu;split at hu
 ·cases hi:nc ren _ with
  |none=>rw[hi]at hu;cases hu
  |some m=>
   rw[hi]at hu;simp only[Option.map_some,Option.some.injEq,Prod.mk.injEq]at hu;obtain⟨rfl,_⟩:=hu;exact .ptr (H.ptr _ _ _ _ hi hv0.ptr_inv)
 ·cases hi:nc ren _ with
  |none=>rw[hi]at hu;cases hu
  |some m=>
   rw[hi]at hu;simp only[Option.map_some,Option.some.injEq,Prod.mk.injEq]at hu;obtain⟨rfl,_⟩:=hu;exact .mh (H.mh _ _ _ hi hv0.mh_inv)
 ·split at hu
  ·rename_i m hi;simp only[Option.some.injEq,Prod.mk.injEq]at hu;obtain⟨rfl,_⟩:=hu;exact .os (H.os _ _ _ _ hi hv0.os_inv)
  ·exact hpure hu ha hv0
 ·exact hpure hu ha hv0
theorem mj: ∀{us us':List PV} {a:List Nat},jw σ ren us=some (us',a)->(∀n∈a,n∈ns)->
  us'.length=us.length/\∀(i:Nat) (u u':PV) (v:Value),us[i]? =some u->us'[i]? =some u'->RV (env x s hv w) v u->RV F v u'
 |[],us',a,h,_=>by cases h;simp
 |u::us,us',a,h,ha=>by
  simp only[jw]at h
  cases h1:ab2 σ ren u with
  |none=>rw[h1]at h;cases h
  |some p=>
   cases h2:jw σ ren us with
   |none=>rw[h1,h2]at h;cases h
   |some q=>
    rw[h1,h2]at h;simp only[Option.some.injEq,Prod.mk.injEq]at h;obtain⟨rfl,rfl⟩:=h;obtain⟨i1,i2⟩:=mj h2 (fun n hn=>ha n (by simp[hn]));refine⟨by simp[i1],fun i r r' v hr hr' hv0=> ?_⟩
    cases i with
    |zero=>
     simp at hr hr';subst hr hr'
     exact v8 H hs h1 (fun n hn=>ha n (by simp[hn])) hv0
    |succ i=>exact i2 i r r' v (by simpa using hr) (by simpa using hr') hv0
theorem ah1{u u':PV}{a:List Nat}{v:Value}(hu:afm σ ren u=some (u',a))(ha: ∀n∈a,n∈ns)(hv0:RV (env x s hv w) v u):RV F v u':=by
 unfold afm at hu;split at hu
 ·cases hp:gr σ _ with
  |none=>rw[hp]at hu;cases hu
  |some p=>
   rw[hp]at hu;simp only[Option.map_some,Option.some.injEq,Prod.mk.injEq]at hu;obtain⟨rfl,rfl⟩:=hu;obtain⟨vs,rfl,hl,hr⟩:=hv0.agg_inv;have hp':gr σ _=some (p.1,p.2):=hp;obtain⟨i1,i2⟩:=dh (ns:=ns) H.sim (fun n hn=>hs n (ha n hn)) hp' ha;refine .agg (by rw[hl,i1]) fun i u hu=> ?_;have hi:=(ca.1 hu).1;rw[i1]at hi;exact .pure ((i2 i _ u (bf hi) hu _ (hr i _ (bf hi))).mono H.pc)
 ·cases hp:jw σ ren _ with
  |none=>rw[hp]at hu;cases hu
  |some p=>
   rw[hp]at hu;simp only[Option.map_some,Option.some.injEq,Prod.mk.injEq]at hu;obtain⟨rfl,rfl⟩:=hu;obtain⟨vs,rfl,hl,hr⟩:=hv0.fn_inv;have hp':jw σ ren _=some (p.1,p.2):=hp;obtain⟨i1,i2⟩:=mj H hs hp' ha;refine .fn _ (by rw[hl,i1]) fun i u hu=> ?_;have hi:=(ca.1 hu).1;rw[i1]at hi;exact i2 i _ u _ (bf hi) hu (hr i _ (bf hi))
 ·cases hu
  exact .undef _
 ·rename_i xs
  cases hu
  obtain⟨a0,n0,rfl,hp⟩:=hv0.vx_inv;exact .vx rfl ((ee (ns:=ns) H.sim (fun n hn=>hs n (ha n (by simp at hn))) (rfl:pur σ (.vs xs)=some (.vs xs,[])) (fun n hn=>by simp at hn) (.pure hp)).mono H.pc)
 ·exact v8 H hs hu ha hv0
theorem vn: ∀{us us':List PV} {a:List Nat},ud σ ren us=some (us',a)->(∀n∈a,n∈ns)->
  us'.length=us.length/\∀(i:Nat) (u u':PV) (v:Value),us[i]? =some u->us'[i]? =some u'->RV (env x s hv w) v u->RV F v u'
 |[],us',a,h,_=>by cases h;simp
 |u::us,us',a,h,ha=>by
  simp only[ud]at h
  cases h1:afm σ ren u with
  |none=>rw[h1]at h;cases h
  |some p=>
   cases h2:ud σ ren us with
   |none=>rw[h1,h2]at h;cases h
   |some q=>
    rw[h1,h2]at h;simp only[Option.some.injEq,Prod.mk.injEq]at h;obtain⟨rfl,rfl⟩:=h;obtain⟨i1,i2⟩:=vn h2 (fun n hn=>ha n (by simp[hn]));refine⟨by simp[i1],fun i r r' v hr hr' hv0=> ?_⟩
    cases i with
    |zero=>
     simp at hr hr';subst hr hr'
     exact ah1 H hs h1 (fun n hn=>ha n (by simp[hn])) hv0
    |succ i=>exact i2 i r r' v (by simpa using hr) (by simpa using hr') hv0
end
def a19(σ:ASt)(ren:List Nat)(ext:List Box)(ns:List Nat):Prop:=
 ext.length=ren.length/\(∀n∈ns,∃B,ah σ n=some B)/\∀(j n:Nat),ren[j]? =some n->
  (∃cs cs' a,ah σ n=some (.cells cs)/\jw σ ren cs=some (cs',a)/\(∀m∈a,m∈ns)/\ext[j]? =some (.cells cs'))\/(∃e sz xs,ah σ n=some (.arr e sz false xs)/\ext[j]? =some (.arr e sz false xs))\/
  (∃cs cs' a,ah σ n=some (.cells cs)/\gr σ cs=some (cs',a)/\(∀m∈a,m∈ns)/\ext[j]? =some (.cells cs'))\/∃es,ah σ n=some (.mp es)/\(∀e∈es,noH e.2)/\ext[j]? =some (.mp es)
theorem aj5{σ:ASt}{ren:List Nat}{ext:List Box}{ns:List Nat}(h:a0b σ ren=some (ext,ns)):a19 σ ren ext ns:=by
 obtain⟨h1,h2,h3⟩:=aj4 h;refine⟨h1,h2,fun j n hj=> ?_⟩;rcases h3 j n hj with h|h
 ·exact .inr (.inr (.inl h))
 ·exact .inr (.inl h)
def a18(ext ext':List Box):Prop:=ext.length=ext'.length/\∀(j:Nat) (a:Box),ext[j]? =some a->∃b,ext'[j]? =some b/\aoe a b
def alp(n m:Nat)(f:Nat->Nat)(b b2:Box):Prop:=(amp b/\b2=b)\/∃cs,b= .cells cs/\(∀u∈cs,okC n m u)/\b2= .cells (cs.map (a3p f))
def a2d(n m:Nat)(f:Nat->Nat)(ext' ext2:List Box):Prop:=ext2.length=ext'.length/\∀(j:Nat) (b:Box),ext'[j]? =some b->∃b2,ext2[j]? =some b2/\alp n m f b b2
theorem ux{ext ext':List Box}(h:aej ext ext')(n m:Nat)(f:Nat->Nat):a18 ext ext'/\a2d n m f ext' ext':=by
 obtain⟨h1,h2⟩:=adp h;refine⟨⟨h1,fun j a hj=> ?_⟩,rfl,fun j b hj=>⟨b,hj,.inl ⟨?_,rfl⟩⟩⟩
 ·obtain⟨b,h3,h4,_⟩:=h2 j a hj;exact⟨b,h3,h4⟩
 ·have hlt:j<ext.length:=by rw[h1];exact(ca.1 hj).1
  obtain⟨b',h3,_,h5⟩:=h2 j _ (bf hlt);rw[hj]at h3
  cases h3
  exact h5
theorem rr{n m:Nat}{f:Nat->Nat}{b b2:Box}(h:alp n m f b b2):(b2=b/\amp b)\/∃cs cs2,b= .cells cs/\b2= .cells cs2:=by
 rcases h with ⟨h1,h2⟩|⟨cs,h1,_,h2⟩
 ·exact .inl ⟨h2,h1⟩
 ·exact .inr ⟨cs,_,h1,h2⟩
theorem aex{n m:Nat}{f:Nat->Nat}{A b b2:Box}{h h':Value}(hb:alp n m f b b2)(hk:Box.keep A h b h'):Box.keep A h b2 h':=by
 rcases rr hb with ⟨rfl,_⟩|⟨cs,cs2,rfl,rfl⟩
 ·exact hk
 ·cases A<;>simp[Box.keep,Box.dim,Box.isM]at hk ⊢ <;>exact hk
theorem aui{n m:Nat}{f:Nat->Nat}{b b2:Box}{off:Nat}(hb:alp n m f b b2)(hk:b.perm off):b2.perm off:=by
 rcases rr hb with ⟨rfl,_⟩|⟨cs,cs2,rfl,rfl⟩
 ·exact hk
 ·exact hk
def nbK(n m:Nat)(f:Nat->Nat)(B B2:Box):Prop:=(amp B/\B2=B)\/∃e sz xs,B= .arh e sz xs/\(∀x∈xs,∀u∈x,okA n m u)/\B2= .arh e sz (xs.map (List.map (avo f)))
def nbX(n m:Nat)(f:Nat->Nat)(nb nb2:List Box):Prop:=nb2.length=nb.length/\∀(j:Nat) (B2:Box),nb2[j]? =some B2->∃B,nb[j]? =some B/\nbK n m f B B2
theorem a4r{n m:Nat}{f:Nat->Nat}{nb:List Box}(h: ∀B∈nb,amp B):nbX n m f nb nb:=⟨rfl,fun _ B hj=>⟨B,hj,.inl ⟨h B (List.mem_of_getElem? hj),rfl⟩⟩⟩
theorem ac8{n m:Nat}{f:Nat->Nat}{B B2:Box}(h:nbK n m f B B2):B2=B\/∃e sz xs xs2,B= .arh e sz xs/\B2= .arh e sz xs2/\xs2.length=xs.length:=by
 rcases h with ⟨_,h⟩|⟨e,sz,xs,h1,_,h2⟩
 ·exact .inl h
 ·exact .inr ⟨e,sz,xs,_,h1,h2,by simp⟩
theorem aw5{n m:Nat}{f:Nat->Nat}{B B2:Box}{off:Nat}(h:nbK n m f B B2)(hk:B.perm off):B2.perm off:=by
 rcases ac8 h with rfl|⟨e,sz,xs,xs2,rfl,rfl,_⟩
 ·exact hk
 ·exact hk
theorem aqx(f:Nat->Nat)(u:PV):eh (avo f u)=eh u:=by cases u<;>rfl
end Go.Proofs.Am

/- A call of a function with a contract. -/
namespace Go.Proofs.Am
open Go Go.RowKit
variable {P:Program}
theorem atc: ∀{δ:ASt} {s:St},(δ.map (·.1)).Nodup->∀n,app s δ n=(ah δ n).or (s n)
 |[],s,_,n=>by simp[app,ah]
 |(m,B)::r,s,h,n=>by
  simp only[List.map_cons,List.nodup_cons]at h;simp only[app,ah];rw[atc h.2];by_cases hmn:m=n
  ·subst hmn
   have:ah r m=none:=by
    have h1:=h.1;clear h
    induction r with
    |nil=>rfl
    |cons p r ih=>
     obtain⟨a,C⟩:=p;simp only[List.map_cons,List.mem_cons,not_or]at h1;simp only[ah];rw[if_neg (Ne.symm h1.1)];exact ih h1.2
   rw[this];simp
  ·rw[if_neg hmn,al _ _ (Ne.symm hmn)]
theorem q9: ∀(δ ε:ASt) (s:St),app s (δ++ε)=app (app s δ) ε
 |[],ε,s=>rfl
 |(n,B)::δ,ε,s=>by simp only[List.cons_append,app];exact q9 δ ε _
theorem akq: ∀{ren:List Nat} {ext:List Box} {n:Nat},ren.length=ext.length->ah (ren.zip ext) n=(nc ren n).bind (ext[·]?)
 |[],[],n,_=>rfl
 |a::r,B::e,n,h=>by
  simp only[List.zip_cons_cons,ah,nc];by_cases ha:a=n
  ·simp[ha]
  ·rw[if_neg ha,if_neg ha,akq (by simpa using h)]
   cases nc r n<;>simp
 |[],_::_,_,h=>by simp at h
 |_::_,[],_,h=>by simp at h
theorem akc{d:Nat}: ∀{nb:List Box} {j0 n:Nat} {B:Box},ah (nbD d j0 nb) n=some B->∃j,n=bn d (j0+j)/\nb[j]? =some B
 |[],_,_,_,h=>by cases h
 |C::r,j0,n,B,h=>by
  simp only[nbD,ah]at h;split at h
  ·rename_i hn
   cases h
   exact⟨0,hn.symm,rfl⟩
  ·obtain⟨j,h1,h2⟩:=akc h;exact⟨j+1,by rw[h1];congr 1;omega,by simpa using h2⟩
theorem ln{d:Nat}: ∀{nb:List Box} {j0 j:Nat} {B:Box},nb[j]? =some B->ah (nbD d j0 nb) (bn d (j0+j))=some B
 |[],_,_,_,h=>by simp at h
 |C::r,j0,j,B,h=>by
  simp only[nbD,ah]
  cases j with
  |zero=>simp at h;simp[h]
  |succ j=>
   rw[if_neg (by simp only[bn];omega),show j0+(j+1)=j0+1+j by omega];exact ln (by simpa using h)
theorem aer{d:Nat}: ∀(nb:List Box) (j0:Nat),(((nbD d j0 nb).map (·.1)).Nodup/\∀n∈(nbD d j0 nb).map (·.1),bn d j0<=n)
 |[],j0=>by simp[nbD]
 |B::r,j0=>by
  obtain⟨h1,h2⟩:=aer (d:=d) r (j0+1);simp only[nbD,List.map_cons,List.nodup_cons,List.mem_cons];refine⟨⟨fun hm=> ?_,h1⟩,?_⟩
  ·have:=h2 _ hm;simp only[bn]at this;omega
  ·rintro n (rfl|hm)
   ·exact Nat.le_refl _
   ·have:=h2 _ hm;simp only[bn]at this ⊢;omega
def xi(σ:ASt)(d:Nat)(ns ren:List Nat)(ext' nb:List Box):ASt:=dj σ ns++(ren.zip ext'++nbD d 0 nb)
theorem gk{nb ext:List Box}{j:Nat}:d4 nb ext (1000000+j)=ext[j]?:=by
 unfold d4;rw[if_neg (by omega),Nat.add_sub_cancel_left]
theorem ahe{nb ext:List Box}{j:Nat}(h:j<1000000):d4 nb ext j=nb[j]?:=by
 simp[d4,h]
theorem eg{nb ext:List Box}{n:Nat}{B:Box}(h:d4 nb ext n=some B):(n<1000000/\nb[n]? =some B)\/∃j,n=1000000+j/\ext[j]? =some B:=by
 unfold d4 at h;split at h
 ·rename_i hn;exact .inl ⟨hn,h⟩
 ·rename_i hn;exact .inr ⟨n - 1000000,by omega,h⟩
theorem ac6{P:Program}{k:FuncId}{σ:ASt}{us cargs:List PV}{ns1 ns2 ren:List Nat}{ext ext' ext2 nb nb2:List Box}{r:PV}{d:Nat}
  (D:Den P k cargs ext r nb ext') (hpass:ud σ ren us=some (cargs,ns1)) (hlend:a19 σ ren ext ns2) (hren:ren.Nodup) (hdis: ∀n∈ren,n∉ns1++ns2) (hkeep:a18 ext ext') (hback:a2d nb.length ext.length (rnm d ren) ext' ext2)
  (hnb:nbX nb.length ext.length (rnm d ren) nb nb2) (hfresh: ∀n∈(nbD d 0 nb2).map (·.1),ah σ n=none) (hnbl:nb.length<1000000) (hr:okR nb.length ext.length r)
  {s:St} (hs: ∀n∈(ns1++ns2)++(ren++(nbD d 0 nb2).map (·.1)),s n=ah σ n) {x:Ctx P} {hv:Nat->Value} {w:World} (hW:SimW x s hv w) {vals:List Value} (hl:vals.length=us.length)
  (hvals: ∀(i:Nat) (v:Value) (u:PV),vals[i]? =some v->us[i]? =some u->RV (env x s hv w) v u):
  Calls P k vals.toArray w fun e w'=> ∃v hv',e= .returned v/\SimW x (app s (xi σ d (ns1++ns2) ren ext2 nb2)) hv' w'/\Env.le (env x s hv w) (env x (app s (xi σ d (ns1++ns2) ren ext2 nb2)) hv' w')/\
   RV (env x (app s (xi σ d (ns1++ns2) ren ext2 nb2)) hv' w') v (a47 (rnm d ren) r):=by
 obtain⟨hel,hn2,hext⟩:=hlend;obtain⟨hkl,hkget⟩:=hkeep;obtain⟨hbl,hbget⟩:=hback
 have hnsn: ∀n∈ns1++ns2,∃B,ah σ n=some B:=fun n hn=>by
  rcases List.mem_append.1 hn with hn|hn
  ·exact xu hpass n hn
  ·exact hn2 n hn
 generalize hns:ns1++ns2=ns at*;have hs1: ∀n∈ns,s n=ah σ n:=fun n hn=>hs n (by simp[hn]);have hs2: ∀n∈ren,s n=ah σ n:=fun n hn=>hs n (by simp[hn]);have hs3: ∀n∈(nbD d 0 nb2).map (·.1),s n=none:=fun n hn=>(hs n (by simp only[List.mem_append];exact .inr (.inr hn))).trans (hfresh n hn);have hsh:=hW.shared (dp s ns)
 have hap1:app s (dj σ ns)=ar s ns:=md fun n hn=>by
  obtain⟨B,hB⟩:=hnsn n hn;exact⟨B,(hs1 n hn).trans hB,.inl hB.symm⟩
 have hren_get: ∀(j n:Nat),ren[j]? =some n->∃(B0 B:Box),s n=some B0/\ar s ns n=some B0/\ext[j]? =some B/\(∀off,¬B0.perm off)/\
   ((∃cs cs' a,B0= .cells cs/\B= .cells cs'/\(jw σ ren cs=some (cs',a)\/gr σ cs=some (cs',a))/\∀m∈a,m∈ns)\/(∃e sz xs,B0= .arr e sz false xs/\B= .arr e sz false xs)\/∃es,B0= .mp es/\B= .mp es/\∀e∈es,noH e.2):=fun j n hj=>by
  have hmem:=List.mem_of_getElem? hj;have hsn:ar s ns n=s n:=by simp[ar,hdis n hmem]
  rcases hext j n hj with ⟨cs,cs',a,h1,h2,h3,h4⟩|⟨e,sz,xs,h1,h2⟩|⟨cs,cs',a,h1,h2,h3,h4⟩|⟨es,h1,h2,h4⟩
  ·have h0:s n=some (.cells cs):=(hs2 n hmem).trans h1;exact⟨_,_,h0,by rw[hsn];exact h0,h4,fun off h=>h,.inl ⟨cs,cs',a,rfl,rfl,.inl h2,fun m hm=>by rw[<-hns];exact List.mem_append.2 (.inr (h3 m hm))⟩⟩
  ·have h0:s n=some (.arr e sz false xs):=(hs2 n hmem).trans h1;exact⟨_,_,h0,by rw[hsn];exact h0,h2,fun off h=>h,.inr (.inl ⟨e,sz,xs,rfl,rfl⟩)⟩
  ·have h0:s n=some (.cells cs):=(hs2 n hmem).trans h1;exact⟨_,_,h0,by rw[hsn];exact h0,h4,fun off h=>h,.inl ⟨cs,cs',a,rfl,rfl,.inr h2,fun m hm=>by rw[<-hns];exact List.mem_append.2 (.inr (h3 m hm))⟩⟩
  ·have h0:s n=some (.mp es):=(hs2 n hmem).trans h1;exact⟨_,_,h0,by rw[hsn];exact h0,h4,fun off h=>h,.inr (.inr ⟨es,rfl,rfl,h2⟩)⟩
 let hvc:Nat->Value:=fun m=>hv (ren.getD (m - 1000000) 0)
 have hvc_get: ∀(j n:Nat),ren[j]? =some n->hvc (1000000+j)=hv n:=fun j n hj=>by
  simp only[hvc,Nat.add_sub_cancel_left,bq,hj,Option.getD_some]
 let lent:Nat->Prop:=fun b=> ∃(j n:Nat),ren[j]? =some n/\blk (hv n)=some b
 let V:Addr->Prop:=fun a=>a.block<w.heap.size/\(x.V a\/x.w0.heap.size<=a.block\/x.E a.block)/\(∀n B,ar s ns n=some B->blk (hv n)=some a.block->B.perm a.off)/\¬lent a.block
 have hlentE: ∀b,(cx (P:=P) w V hvc ext x.gc).E b↔lent b:=fun b=>by
  constructor
  ·rintro⟨n,B,h1,h2⟩;rcases eg h1 with ⟨_,h3⟩|⟨j,rfl,h3⟩
   ·simp at h3
   ·have hj:j<ren.length:=by rw[<-hel];exact(ca.1 h3).1
    refine⟨j,ren[j],bf hj,?_⟩;rw[hvc_get j _ (bf hj)]at h2;exact h2
  ·rintro⟨j,n,h1,h2⟩;obtain⟨B0,B,_,_,h5,_⟩:=hren_get j n h1;exact⟨1000000+j,B,by rw[gk];exact h5,by rw[hvc_get j n h1];exact h2⟩
 have hpc: ∀a v,(env x (ar s ns) hv w).pc a v->(env (cx (P:=P) w V hvc ext x.gc) (d4 [] ext) hvc w).pc a v:=fun a v hp=>by
  have hnl: ¬lent a.block:=by
   rintro⟨j,n,h1,h2⟩;obtain⟨B0,B,_,h4,_,h6,_⟩:=hren_get j n h1;exact h6 _ (hp.2.2 n B0 h4 h2)
  refine⟨hp.1,.inl ⟨hp.lt,hp.2.1,hp.2.2,hnl⟩,fun n B hB hb=> ?_⟩;exact absurd ((hlentE _).1 ⟨n,B,hB,hb⟩) hnl
 have hinjr: ∀(j j' n n' b:Nat),ren[j]? =some n->ren[j']? =some n'->blk (hv n)=some b->blk (hv n')=some b->j=j':=fun j j' n n' b h1 h2 h3 h4=>by
  obtain⟨B0,_,h5,_⟩:=hren_get j n h1;obtain⟨B0',_,h5',_⟩:=hren_get j' n' h2;have hnn:=hW.inj n n' B0 B0' b h5 h5' h3 h4;subst hnn;have e1:=j6 hren h1;have e2:=j6 hren h2;rw[e1]at e2;exact Option.some.inj e2
 have H:Hand x s hv w σ ren ns (env (cx (P:=P) w V hvc ext x.gc) (d4 [] ext) hvc w):={
  sim:=hW
  pc:=hpc
  ptr:=fun n m off v hi=>by
   rintro⟨⟨cs,hc⟩,b,hb,hvv⟩;have hj:=ik hi;obtain⟨B0,B,h4,_,h5,_,h7⟩:=hren_get m n hj;rw[hc]at h4
   cases h4
   rcases h7 with ⟨cs1,cs',a,h8,rfl,_⟩|⟨e,sz,xs,h8,_⟩|⟨es,h8,_⟩
   ·exact⟨⟨cs',by rw[gk];exact h5⟩,b,by rw[hvc_get m n hj];exact hb,hvv⟩
   ·cases h8
   ·cases h8
  os:=fun n m k v hi=>by
   rintro⟨hsh,B1,sz,l,hc,hd,hle,hvv⟩;have hj:=ik hi;obtain⟨B0,B,h4,_,h5,_,h7⟩:=hren_get m n hj;rw[hc]at h4
   cases h4
   rcases h7 with ⟨cs1,cs',a,rfl,rfl,_⟩|⟨e',sz',xs',rfl,rfl⟩|⟨es,rfl,rfl,_⟩
   rotate_left 2
   ·cases hd
   ·cases hd
   ·exact⟨hsh,_,sz,l,by rw[gk];exact h5,hd,hle,fun hk=>by rw[hvc_get m n hj];exact hvv hk⟩
  mh:=fun n m v hi=>by
   rintro⟨⟨hb,B1,hc,hM⟩,hvv⟩;have hj:=ik hi;obtain⟨B0,B,h4,_,h5,_,h7⟩:=hren_get m n hj;rw[hc]at h4
   cases h4
   rcases h7 with ⟨cs1,cs',a,rfl,rfl,_⟩|⟨e',sz',xs',rfl,rfl⟩|⟨es,rfl,rfl,_⟩
   ·cases hM
   ·cases hM
   ·exact⟨⟨hb,_,by rw[gk];exact h5,hM⟩,by rw[hvc_get m n hj];exact hvv⟩}
 have hC:SimW (cx (P:=P) w V hvc ext x.gc) (d4 [] ext) hvc w:={
  os:=rfl,tape:=rfl,output:=rfl,size:=Nat.le_refl _,old:=fun _ _ _=>rfl
  box:=fun n B hB=>by
   rcases eg hB with ⟨_,h3⟩|⟨j,rfl,h3⟩
   ·simp at h3
   ·have hj:j<ren.length:=by rw[<-hel];exact(ca.1 h3).1
    obtain⟨B0,B1,h4,h4',h5,h6,h7⟩:=hren_get j _ (bf hj);rw[h3]at h5
    cases h5
    rw[hvc_get j _ (bf hj)];have hb0:=hW.box _ _ h4;rcases h7 with ⟨cs,cs',a,rfl,rfl,h8|h8,h9⟩|⟨e,sz,xs,rfl,rfl⟩|⟨es,rfl,rfl,h8⟩
    ·obtain⟨b,t,arr,k1,k2,k3,k4⟩:=hb0;obtain⟨i1,i2⟩:=mj H hs1 h8 h9;refine⟨b,t,arr,k1,k2,by rw[k3,i1],fun i u hu=> ?_⟩;have hi:=(ca.1 hu).1;rw[i1]at hi;exact i2 i _ u _ (bf hi) hu (k4 i _ (bf hi))
    ·obtain⟨b,t,arr,k1,k2,k3,k4⟩:=hb0;obtain⟨i1,i2⟩:=dh (ns:=ns) hW (fun n hn=>hs1 n (h9 n hn)) h8 h9;refine⟨b,t,arr,k1,k2,by rw[k3,i1],fun i u hu=> ?_⟩;have hi:=(ca.1 hu).1;rw[i1]at hi;exact .pure ((i2 i _ u (bf hi) hu _ (k4 i _ (bf hi))).mono hpc)
    ·exact(hb0.mono hsh.2).noH hpc trivial
    ·exact(hb0.mono hsh.2).noH hpc h8
  loc:=fun n B b hB hb=> .inr ⟨n,B,hB,hb⟩
  inj:=fun n m B C b hB hC hn hm=>by
   rcases eg hB with ⟨_,h3⟩|⟨j,rfl,h3⟩
   ·simp at h3
   rcases eg hC with ⟨_,h3'⟩|⟨j',rfl,h3'⟩
   ·simp at h3'
   have hj:j<ren.length:=by rw[<-hel];exact(ca.1 h3).1
   have hj':j'<ren.length:=by rw[<-hel];exact(ca.1 h3').1
   rw[hvc_get j _ (bf hj)]at hn;rw[hvc_get j' _ (bf hj')]at hm;rw[hinjr j j' _ _ b (bf hj) (bf hj') hn hm]
  ext:=fun n p B hx hB=>by
   simp only[cx,hB,Option.map_some,Option.some.injEq]at hx;subst hx;exact Box.keep_refl _ _
  vis:=fun a ha=>⟨fun hE=>ha.2.2.2 ((hlentE _).1 hE),ha.1⟩
  glb:=fun b o ha=>by
   obtain⟨g1,g2⟩:=hW.glb b o ha;have hlt:=(Array.getElem?_eq_some_iff.1 g1).1;refine⟨(hW.old b hlt g2).trans g1,fun hE=> ?_⟩;obtain⟨j,n,h1,h2⟩:=(hlentE _).1 hE;obtain⟨B0,_,h4,_⟩:=hren_get j n h1;rcases hW.loc n B0 _ h4 h2 with h|h
   ·omega
   ·exact g2 h
  tabs:=hW.tabs
  extin:=fun n hn=>by
   simp only[cx]at hn
   cases hq:d4 [] ext n with
   |none=>rw[hq]at hn;simp at hn
   |some B=>
    refine⟨by simp,?_⟩;rcases eg hq with ⟨_,h3⟩|⟨j,rfl,_⟩
    ·simp at h3
    ·omega}
 obtain⟨hpl,hpr⟩:=vn H hs1 hpass (fun n hn=>by rw[<-hns];exact List.mem_append.2 (.inl hn));refine(D.run w V hvc x.gc vals hC (by rw[hl,hpl]) fun i v u hv0 hu=> ?_).mono fun e w'=> ?_
 ·have hi:=(ca.1 hu).1;rw[hpl]at hi;exact hpr i _ u v (bf hi) hu (hvals i v _ hv0 (bf hi))
 rintro⟨v,hv2,rfl,hF,hRV⟩
 have hext_hv: ∀(j n:Nat),ren[j]? =some n->∃B B',ext[j]? =some B/\ext'[j]? =some B'/\d4 nb ext' (1000000+j)=some B'/\Box.keep B (hv n) B' (hv2 (1000000+j))/\∃B2,ext2[j]? =some B2/\alp nb.length ext.length (rnm d ren) B' B2:=fun j n hj=>by
  obtain⟨B0,B,_,_,h5,_⟩:=hren_get j n hj;obtain⟨B',h6,_⟩:=hkget j B h5;refine⟨B,B',h5,h6,by rw[gk];exact h6,?_,hbget j B' h6⟩;have:=hF.ext (1000000+j) (hvc (1000000+j),B) B' (by simp[cx,gk,h5]) (by rw[gk];exact h6)
  rwa [hvc_get j n hj]at this
 have hblk: ∀(i:Nat) (B:Box) (b:Nat),d4 nb ext' i=some B->blk (hv2 i)=some b->w.heap.size<=b\/lent b:=fun i B b hi hb=>by
  rcases hF.loc i B b hi hb with h|h
  ·exact .inl h
  ·exact .inr ((hlentE b).1 h)
 have hoth: ∀(m:Nat) (C:Box) (b:Nat),m∉ren->ar s ns m=some C->blk (hv m)=some b->b<w.heap.size/\¬lent b:=fun m C b hm hC hb=>by
  refine⟨hsh.1.blk_lt hC hb,?_⟩;rintro⟨j,n,h1,h2⟩;obtain⟨B0,_,_,h4,_⟩:=hren_get j n h1;have:=hsh.1.inj m n C B0 b hC h4 hb h2;subst this;exact hm (List.mem_of_getElem? h1)
 let hv':Nat->Value:=fun n=>if(ah (nbD d 0 nb2) n).isSome then hv2 ((n - d)/100000)else match nc ren n with
  |some j=>hv2 (1000000+j)
  |none=>hv n
 have hv'_nb: ∀(j:Nat) (B:Box),nb2[j]? =some B->hv' (bn d j)=hv2 j:=fun j B hj=>by
  have:=ln (d:=d) (j0:=0) hj;rw[Nat.zero_add]at this;have hdiv:(bn d j - d)/100000=j:=by simp only[bn];omega
  simp only[hv',this,Option.isSome_some,if_true,hdiv]
 have hlz:ren.length=ext2.length:=by rw[<-hel,hkl,hbl]
 generalize hs':app s (xi σ d ns ren ext2 nb2)=s'
 have hs'eq: ∀n,s' n=(ah (nbD d 0 nb2) n).or (((nc ren n).bind (ext2[·]?)).or (ar s ns n)):=fun n=>by
  rw[<-hs',xi,q9,hap1,q9,atc (aer nb2 0).1,atc,akq hlz];rw[List.map_fst_zip (by omega)];exact hren
 have kinds: ∀(n:Nat) (B:Box),s' n=some B->(∃(j:Nat) (B':Box),n=bn d j/\d4 nb ext' j=some B'/\nb2[j]? =some B/\nbK nb.length ext.length (rnm d ren) B' B/\hv' n=hv2 j)\/(∃(j:Nat) (B':Box),ren[j]? =some n/\d4 nb ext' (1000000+j)=some B'/\ext2[j]? =some B/\alp nb.length ext.length (rnm d ren) B' B/\hv' n=hv2 (1000000+j)/\ah (nbD d 0 nb2) n=none)\/(n∉ren/\ar s ns n=some B/\hv' n=hv n/\ah (nbD d 0 nb2) n=none):=fun n B hB=>by
  rw[hs'eq]at hB
  cases h1:ah (nbD d 0 nb2) n with
  |some C=>
   rw[h1]at hB;simp at hB;subst hB;obtain⟨j,rfl,hj⟩:=akc h1;rw[Nat.zero_add]at*;obtain⟨B',hj',hk'⟩:=hnb.2 j _ hj
   exact .inl ⟨j,B',rfl,by rw[ahe (Nat.lt_trans (ca.1 hj').1 hnbl)];exact hj',hj,hk',hv'_nb j _ hj⟩
  |none=>
   rw[h1]at hB
   cases h2:nc ren n with
   |some j=>
    rw[h2]at hB;have hj:=ik h2;obtain⟨_,B',_,h6,h7,_,B2,h8,h9⟩:=hext_hv j n hj;simp[h8]at hB;subst hB
    exact .inr (.inl ⟨j,B',hj,h7,h8,h9,by simp[hv',h1,h2],rfl⟩)
   |none=>
    rw[h2]at hB;exact .inr (.inr ⟨aro h2,by simpa using hB,by simp[hv',h1,h2],rfl⟩)
 have hnl: ∀a v,pcOf x (ar s ns) hv w a v->¬lent a.block:=fun a v hp=>by
  rintro⟨j,n,h1,h2⟩;obtain⟨B0,B,_,h4,_,h6,_⟩:=hren_get j n h1;exact h6 _ (hp.2.2 n B0 h4 h2)
 have hpcb: ∀a v,pcOf x (ar s ns) hv w a v->∀i B,d4 nb ext' i=some B->blk (hv2 i)≠some a.block:=fun a v hp i B hi hb=>by
  rcases hblk i B _ hi hb with h|h
  ·have:=hp.lt;omega
  ·exact hnl a v hp h
 have hpc1: ∀a v,pcOf x (ar s ns) hv w a v->pcOf x s' hv' w' a v:=fun a v hp=>by
  refine⟨(World.cell?_of_block (hF.old a.block hp.lt fun hE=>hnl a v hp ((hlentE _).1 hE))).trans hp.1,hp.2.1,fun n B hB hb=> ?_⟩;rcases kinds n B hB with ⟨j,B',rfl,hj,_,_,hvn⟩|⟨j,B',_,hj,_,_,hvn,_⟩|⟨_,h1,hvn,_⟩
  ·rw[hvn]at hb;exact absurd hb (hpcb a v hp j B' hj)
  ·rw[hvn]at hb;exact absurd hb (hpcb a v hp _ B' hj)
  ·rw[hvn]at hb;exact hp.2.2 n B h1 hb
 have hs1ren: ∀n,n∉ren->ah (nbD d 0 nb2) n=none->s' n=ar s ns n/\hv' n=hv n:=fun n h1 h2=>by
  cases h3:nc ren n with
  |some j=>exact absurd (List.mem_of_getElem? (ik h3)) h1
  |none=>exact⟨by rw[hs'eq,h2,h3];simp,by simp[hv',h2,h3]⟩
 have hfr: ∀n C,ah (nbD d 0 nb2) n=some C->ar s ns n=none:=fun n C hC=>by
  have hm:n∈(nbD d 0 nb2).map (·.1):=by
   clear hs'eq kinds hs1ren hpc1 hs';generalize nbD d 0 nb2=δ at hC ⊢
   induction δ with
   |nil=>cases hC
   |cons p δ ih=>
    obtain⟨a,B⟩:=p;simp only[ah]at hC;split at hC
    ·rename_i ha;simp[ha]
    ·simp only[List.map_cons,List.mem_cons];exact .inr (ih hC)
  rcases dp s ns n with h|h<;>rw[h,hs3 n hm];rfl
 have hrn: ∀(j n:Nat),ren[j]? =some n->ah (nbD d 0 nb2) n=none:=fun j n hj=>by
  obtain⟨B0,B1,_,k2,_⟩:=hren_get j n hj
  cases hq:ah (nbD d 0 nb2) n with
  |none=>rfl
  |some C=>rw[hfr n C hq]at k2;cases k2
 have hE1:Env.le (env x (ar s ns) hv w) (env x s' hv' w'):=lu hpc1 fun n B hB=>by
  have hnn:ah (nbD d 0 nb2) n=none:=by
   cases hq:ah (nbD d 0 nb2) n with
   |none=>rfl
   |some C=>rw[hfr n C hq]at hB;cases hB
  by_cases hr':n∈ren
  ·obtain⟨j,hj⟩:=List.mem_iff_getElem?.1 hr';obtain⟨B0,B1,h4,h4',h5,h6,h7⟩:=hren_get j n hj;rw[hB]at h4'
   cases h4'
   obtain⟨B1',B',e5,_,_,hkk0,B2,h8,hbk⟩:=hext_hv j n hj;rw[h5]at e5
   cases e5
   have hkk:=aex hbk hkk0;have hvn:hv' n=hv2 (1000000+j):=by simp[hv',hnn,j6 hren hj]
   refine⟨B2,by rw[hs'eq,hnn,j6 hren hj];simp[h8],?_⟩;rw[hvn];rcases h7 with ⟨cs1,cs',a,rfl,rfl,_⟩|⟨e',sz',xs',rfl,rfl⟩|⟨es,rfl,rfl,_⟩
   ·exact hkk
   ·exact hkk
   ·exact hkk
  ·exact⟨B,by rw[(hs1ren n hr' hnn).1];exact hB,by rw[(hs1ren n hr' hnn).2];exact Box.keep_refl _ _⟩
 have hpcF: ∀a v,(env (cx (P:=P) w V hvc ext x.gc) (d4 nb ext') hv2 w').pc a v->(env x s' hv' w').pc a v:=fun a v hp=>by
  refine⟨hp.1,?_,fun n B hB hb=> ?_⟩
  ·rcases hp.2.1 with h|h|h
   ·exact h.2.1
   ·exact .inr (.inl (Nat.le_trans hW.size h))
   ·obtain⟨j,n,h1,h2⟩:=(hlentE _).1 h;obtain⟨B0,B,h3,_⟩:=hren_get j n h1;exact .inr (hW.loc n B0 _ h3 h2)
  ·rcases kinds n B hB with ⟨j,B',rfl,hj,_,hk',hvn⟩|⟨j,B',_,hj,_,hbk,hvn,_⟩|⟨hnr,h1,hvn,_⟩
   ·rw[hvn]at hb;exact aw5 hk' (hp.2.2 j B' hj hb)
   ·rw[hvn]at hb;exact aui hbk (hp.2.2 (1000000+j) B' hj hb)
   ·rw[hvn]at hb;obtain⟨o1,o2⟩:=hoth n B _ hnr h1 hb;rcases hp.2.1 with h|h|h
    ·exact h.2.2.1 n B h1 hb
    ·have h':w.heap.size<=a.block:=h;omega
    ·exact absurd ((hlentE _).1 h) o2
 have hloc: ∀(i:Nat) (B:Box) (b:Nat),d4 nb ext' i=some B->blk (hv2 i)=some b->x.w0.heap.size<=b\/x.E b:=fun i B b hi hb=>by
  rcases hblk i B b hi hb with h|⟨j,n,h1,h2⟩
  ·exact .inl (Nat.le_trans hW.size h)
  ·obtain⟨B0,_,h3,_⟩:=hren_get j n h1;exact hW.loc n B0 b h3 h2
 have hdisj: ∀(i:Nat) (B:Box) (n b:Nat),d4 nb ext' i=some B->blk (hv2 i)=some b->((∃j,i=j/\j<1000000/\n=bn d j)\/∃j,i=1000000+j/\ren[j]? =some n)->∀m C,m≠n->s' m=some C->blk (hv' m)≠some b:=fun i B n b hi hb hin m C hm hC hbm=>by
  rcases kinds m C hC with ⟨j',C',rfl,hj',hj'',_,hvm⟩|⟨j',C',hr',hj',_,_,hvm,_⟩|⟨hmr,h1,hvm,_⟩
  ·rw[hvm]at hbm;have:=hF.inj i j' B C' b hi hj' hb hbm;subst this;have hlt:i<1000000:=Nat.lt_trans (ca.1 hj'').1 (by rw[hnb.1];exact hnbl);rcases hin with ⟨j,rfl,_,rfl⟩|⟨j,rfl,_⟩
   ·exact hm rfl
   ·omega
  ·rw[hvm]at hbm;have:=hF.inj i (1000000+j') B C' b hi hj' hb hbm;rcases hin with ⟨j,rfl,hj,_⟩|⟨j,rfl,hr⟩
   ·omega
   ·have hjj:j=j':=by omega
    subst hjj;rw[hr']at hr;exact hm (Option.some.inj hr)
  ·rw[hvm]at hbm;obtain⟨o1,o2⟩:=hoth m C b hmr h1 hbm;rcases hblk i B b hi hb with h|h
   ·omega
   ·exact o2 h
 have hstN: ∀j,okN nb.length ext.length j->hv' (rnm d ren j)=hv2 j/\∀B,d4 nb ext' j=some B->∃B2,s' (rnm d ren j)=some B2/\(B2=B\/(∃cs cs2,B= .cells cs/\B2= .cells cs2)\/∃e sz xs xs2,B= .arh e sz xs/\B2= .arh e sz xs2/\xs2.length=xs.length):=fun j hj=>by
  rcases hj with hj|⟨hj1,hj2⟩
  ·have hg:=bf (l:=nb2) (i:=j) (by rw[hnb.1];exact hj);obtain⟨B0,h0,hk⟩:=hnb.2 j _ hg;have hf:=ln (d:=d) (j0:=0) hg;rw[Nat.zero_add]at hf;have hlt:j<1000000:=Nat.lt_trans hj hnbl;have hrn:rnm d ren j=bn d j:=by simp[rnm,hlt]
   rw[hrn];refine⟨hv'_nb j _ hg,fun B hB=>⟨_,by rw[hs'eq,hf];rfl,?_⟩⟩;rw[ahe hlt,h0]at hB
   cases hB
   rcases ac8 hk with h|h
   ·exact .inl h
   ·exact .inr (.inr h)
  ·obtain⟨m,rfl⟩:=Nat.exists_eq_add_of_le hj1;have hml:m<ren.length:=by omega
   have hm:ren[m]? =some ren[m]:=bf hml
   have hrn':rnm d ren (1000000+m)=ren[m]:=by
    have: ¬(1000000+m<1000000):=by omega
    simp only[rnm,if_neg this,Nat.add_sub_cancel_left,bq,hm,Option.getD_some]
   rw[hrn'];obtain⟨_,B',_,h3,h4,_,B2,h5,h6⟩:=hext_hv m _ hm;have hnn:=hrn m _ hm;refine⟨by simp[hv',hnn,j6 hren hm],fun B hB=> ?_⟩;rw[h4]at hB
   cases hB
   refine⟨B2,by rw[hs'eq,hnn,j6 hren hm];simp[h5],?_⟩;rcases rr h6 with ⟨h7,_⟩|h7
   ·exact .inl h7
   ·exact .inr (.inl h7)
 have hA: ∀(u:PV) (v:Value),okA nb.length ext.length u->RV (env (cx (P:=P) w V hvc ext x.gc) (d4 nb ext') hv2 w') v u->RV (env x s' hv' w') v (avo (rnm d ren) u):=fun u v hu hv0=>by
  have hnoA:noH u->avo (rnm d ren) u=u->RV (env x s' hv' w') v (avo (rnm d ren) u):=fun h1 h2=>by rw[h2];exact hv0.noH hpcF h1
  cases u<;>(try (exact hnoA hu rfl))
  case os j k=>
   obtain⟨h3,h1⟩:=hstN j hu;obtain⟨hshape,B,sz,l,k1,kd,k2,k3⟩:=hv0.os_inv;obtain⟨B2,h4,rfl|⟨cs,cs2,rfl,rfl⟩|⟨e,z,ys,ys2,rfl,rfl,hle⟩⟩:=h1 B k1
   ·exact .os ⟨hshape,B2,sz,l,h4,kd,k2,fun hk=>by rw[h3];exact k3 hk⟩
   ·cases kd
   ·exact .os ⟨hshape,_,sz,l,h4,by rw[<-kd];simp only[Box.dim,hle],k2,fun hk=>by rw[h3];exact k3 hk⟩
 have hC1: ∀(u:PV) (v:Value),okC nb.length ext.length u->RV (env (cx (P:=P) w V hvc ext x.gc) (d4 nb ext') hv2 w') v u->RV (env x s' hv' w') v (a3p (rnm d ren) u):=fun u v hu hv0=>by
  have hno:noH u->a3p (rnm d ren) u=u->RV (env x s' hv' w') v (a3p (rnm d ren) u):=fun h1 h2=>by rw[h2];exact hv0.noH hpcF h1
  cases u<;>(try (exact hno hu rfl))
  case ago cs=>
   obtain⟨vs,rfl,hl,hr⟩:=hv0.ago_inv;refine .agg (by rw[List.length_map];exact hl) fun i u hu2=> ?_;rw[List.getElem?_map]at hu2
   cases hc:cs[i]? with
   |none=>rw[hc]at hu2;cases hu2
   |some u0=>
    rw[hc]at hu2
    cases hu2
    exact hA u0 _ (hu u0 (List.mem_of_getElem? hc)) (hr i u0 hc)
  case os j k=>
   obtain⟨h3,h1⟩:=hstN j hu;obtain⟨hshape,B,sz,l,k1,kd,k2,k3⟩:=hv0.os_inv;obtain⟨B2,h4,rfl|⟨cs,cs2,rfl,rfl⟩|⟨e,z,ys,ys2,rfl,rfl,hle⟩⟩:=h1 B k1
   ·exact .os ⟨hshape,B2,sz,l,h4,kd,k2,fun hk=>by rw[h3];exact k3 hk⟩
   ·cases kd
   ·exact .os ⟨hshape,_,sz,l,h4,by rw[<-kd];simp only[Box.dim,hle],k2,fun hk=>by rw[h3];exact k3 hk⟩
  case mh j=>
   obtain⟨h3,h1⟩:=hstN j hu;obtain⟨⟨hb,B,k1,kM⟩,k3⟩:=hv0.mh_inv;obtain⟨B2,h4,rfl|⟨cs,cs2,rfl,rfl⟩|⟨e,z,ys,ys2,rfl,rfl,hle⟩⟩:=h1 B k1
   ·exact .mh ⟨⟨hb,B2,h4,kM⟩,by rw[h3];exact k3⟩
   ·cases kM
   ·cases kM
  case ptr j o=>
   obtain⟨h3,h1⟩:=hstN j hu;obtain⟨⟨cs,k1⟩,b,k2,k3⟩:=hv0.ptr_inv;obtain⟨B2,h4,rfl|⟨cs1,cs2,_,rfl⟩|⟨e,z,ys,ys2,hbad,_⟩⟩:=h1 _ k1
   ·exact .ptr ⟨⟨cs,h4⟩,b,by rw[h3];exact k2,k3⟩
   ·exact .ptr ⟨⟨cs2,h4⟩,b,by rw[h3];exact k2,k3⟩
   ·cases hbad
 have hS:SimW x s' hv' w':=by
  refine hsh.1.step hF.os hF.tape hF.output hF.size hE1 (fun n hn=> ?_) (fun b hb he=> ?_) fun n B hB=> ?_
  ·rw[hs'eq]
   cases ah (nbD d 0 nb2) n with
   |some C=>simp
   |none=>
    cases h2:nc ren n with
    |none=>simpa using hn
    |some j=>
     obtain⟨_,_,_,_,_,_,B2,h6,_⟩:=hext_hv j n (ik h2);simp[h6]
  ·refine hF.old b (Nat.lt_of_lt_of_le hb hW.size) fun hE=> ?_;obtain⟨j,n,h1,h2⟩:=(hlentE _).1 hE;obtain⟨B0,_,h3,_⟩:=hren_get j n h1;rcases hW.loc n B0 b h3 h2 with h|h
   ·omega
   ·exact he h
  ·rcases kinds n B hB with ⟨j,B',rfl,hst,hj,hk',hvn⟩|⟨j,B',hj,hst,hB2,hbk,hvn,hnn⟩|⟨hnr,h1,hvn,hnn⟩
   ·right;have hj1:j<1000000:=Nat.lt_trans (ca.1 hj).1 (by rw[hnb.1];exact hnbl);rw[hvn];have hbx:=hF.box j B' hst;refine⟨?_,fun hh hx=> ?_,fun b hb=>⟨hloc j B' b hst hb,hdisj j B' _ b hst hb (.inl ⟨j,rfl,hj1,rfl⟩)⟩⟩
    ·rcases hk' with ⟨q1,rfl⟩|⟨e,sz,xs,rfl,q1,rfl⟩
     ·exact hbx.noH hpcF q1
     ·obtain⟨h0,ys,k1,k2,k3,k4⟩:=hbx;refine⟨h0,ys,by rw[List.length_map];exact k1,fun r hr=> ?_,fun r hr=> ?_,fun i r j u hr hu=> ?_⟩
      ·obtain⟨r0,m1,rfl⟩:=List.mem_map.1 hr;rw[List.length_map];exact k2 r0 m1
      ·obtain⟨r0,m1,rfl⟩:=List.mem_map.1 hr;refine List.all_eq_true.2 fun u hu=> ?_;obtain⟨u0,m2,rfl⟩:=List.mem_map.1 hu;rw[aqx];exact List.all_eq_true.1 (k3 r0 m1) u0 m2
      ·rw[List.getElem?_map]at hr
       cases hq:xs[i]? with
       |none=>rw[hq]at hr;cases hr
       |some r0=>
        rw[hq]at hr
        cases hr
        rw[List.getElem?_map]at hu
        cases hc:r0[j]? with
        |none=>rw[hc]at hu;cases hu
        |some u0=>
         rw[hc]at hu
         cases hu
         exact hA u0 _ (q1 r0 (List.mem_of_getElem? hq) u0 (List.mem_of_getElem? hc)) (k4 i r0 j u0 hq hc)
    have hf:=hfr (bn d j) B (by have:=ln (d:=d) (j0:=0) hj;rwa [Nat.zero_add]at this);exact absurd hf (hsh.1.extin _ (by rw[hx];simp)).1
   ·right;obtain⟨B1,B'',h2,h3,h4,hkk0,_⟩:=hext_hv j n hj;rw[hst]at h4
    cases h4
    have hkk:=aex hbk hkk0;obtain⟨B0,B1',k1,k2,k3,_,k7⟩:=hren_get j n hj;rw[h2]at k3
    cases k3
    rw[hvn];refine⟨?_,fun p hx=>Box.keep_trans (hW.ext n p B0 hx k1) ?_,fun b hb=>⟨hloc _ B' b hst hb,hdisj _ B' _ b hst hb (.inr ⟨j,rfl,hj⟩)⟩⟩
    ·rcases hbk with ⟨q1,rfl⟩|⟨cs,rfl,q1,rfl⟩
     ·exact(hF.box _ _ hst).noH hpcF q1
     ·obtain⟨b,t,arr,k1,k2,k3,k4⟩:=hF.box _ _ hst;refine⟨b,t,arr,k1,k2,by rw[k3,List.length_map],fun i u hu=> ?_⟩;rw[List.getElem?_map]at hu
      cases hq:cs[i]? with
      |none=>rw[hq]at hu;cases hu
      |some u0=>
       rw[hq]at hu
       cases hu
       exact hC1 u0 _ (q1 u0 (List.mem_of_getElem? hq)) (k4 i u0 hq)
    rcases k7 with ⟨cs1,cs',a,rfl,rfl,_⟩|⟨e',sz',xs',rfl,rfl⟩|⟨es,rfl,rfl,_⟩
    ·exact hkk
    ·exact hkk
    ·exact hkk
   ·left;refine⟨h1,hvn,fun b hb=>hF.old b (hsh.1.blk_lt h1 hb) fun hE=> ?_⟩;exact(hoth n B b hnr h1 hb).2 ((hlentE _).1 hE)
 refine⟨v,hv',rfl,hS,hsh.2.trans hE1,?_⟩
 cases r<;>(try (exact hC1 _ v (by exact hr) hRV))
 case tup us=>
  obtain⟨vs,rfl,hl',hr'⟩:=hRV.tup_inv;refine .tup (by simp[hl']) fun i u hu=> ?_;rw[List.getElem?_map]at hu
  cases hq:us[i]? with
  |none=>rw[hq]at hu;cases hu
  |some u0=>
   rw[hq]at hu
   cases hu
   exact hC1 u0 _ (hr u0 (List.mem_of_getElem? hq)) (hr' i u0 hq)
end Go.Proofs.Am
