/- AmThree. -/
import Derived.Test.YtlaoaleoeknhoaaGreatDoorAmJF
set_option linter.unusedSimpArgs false
set_option linter.unusedVariables false
namespace Go.Proofs.Am
open Go Go.RowKit
variable {σ:ASt}{w:World}{d j m n off:Nat}{h v:Value}{a ren:LN}{u u':PV}{B b2:Box}{ext nb:List Box}
variable {P:Program}
def fg(nb ext:List Box):St:=λn=>if n<1000000 then nb[n]? else ext[n - 1000000]?
def cx(w:World)(V:Addr->Prop)(hv:Nat->Value)(ext:List Box)(gc:Nat->Obj->Prop):Ctx P where
 gc:=gc
 w0:=w
 V:=V
 E b:= ∃n B,fg [] ext n=some B/\blk (hv n)=some b
 hx n:=(fg [] ext n).map λB=>(hv n,B)
structure Den(P:Program)(k:FuncId)(args:LP)(ext:List Box)(r:PV)(nb ext':List Box):Prop where
 enter: ∀as w,(callFunc k as).run P w= .ok (.enter k as) w
 run: ∀(w:World) (V:Addr->Prop) (hv:Nat->Value) (gc:Nat->Obj->Prop) (vals:List Value),SimW (cx (P:=P) w V hv ext gc) (fg [] ext) hv w->vals.length=args.length->
  (∀(i:Nat) (v:Value) (u:PV),vals[i]? =some v->args[i]? =some u->RV (env (cx (P:=P) w V hv ext gc) (fg [] ext) hv w) v u)->
  Calls P k vals.toArray w λe w'=> ∃v hv',e= .returned v/\SimW (cx (P:=P) w V hv ext gc) (fg nb ext') hv' w'/\RV (env (cx (P:=P) w V hv ext gc) (fg nb ext') hv' w') v r
abbrev noH:PV->Prop:=Hin λ_=>False
def as6:Box->Prop
 | .cells cs=> ∀u∈cs,noH u
 | .arr _ _ _ _=>True
 | .arh _ _ xs=> ∀x∈xs,∀u∈x,noH u
 | .mp es=> ∀e∈es,noH e.2
 | .it _ _ _=>False
 | .si _ _=>False
 | .arq _ _ _ _=>False
 | .dead _ _=>True
theorem RV.noH{E F:Env}(b: ∀a v,E.pc a v->F.pc a v)(h:RV E v u)(c:Am.noH u):RV F v u:=
 h.hin b (λ_ _ _ h=>h.elim) (λ_ _ _ h=>h.elim) (λ_ _ _ _ _ h=>h.elim) (λ_ _ h=>h.elim) (λ_ _ _ h=>h.elim) c
theorem BoxRep.noH{E F:Env}(c: ∀a v,E.pc a v->F.pc a v)(s:BoxRep P E w h B)(r:as6 B):BoxRep P F w h B:=by cases B with|cells cs=>obtain⟨b,t,arr,g,o,q,y⟩:=s;exact⟨b,t,arr,g,o,q,λi u f=>(y i u f).noH c (r u (b0e f))⟩|arr e sz sh xs=>obtain⟨h0,z,g,o,n,q⟩:=s;exact⟨h0,z,g,o,n,λi x j u hx f=>(q i x j u hx f).mono c⟩|arh e sz xs=>obtain⟨h0,z,g,o,n,q⟩:=s;exact⟨h0,z,g,o,n,λi x j u hx f=>(q i x j u hx f).noH c (r x (b0e hx) u (b0e f))⟩|mp es=>obtain⟨b,arr,g,o,q,y⟩:=s;refine⟨b,arr,g,o,q,λi p A=> ?_⟩;obtain⟨I,C,D,H,G⟩:=y i p A;exact⟨I,C,D,H.mono c,G.noH c (r p (b0e A))⟩|it m k d=>exact r.elim|si l p=>exact r.elim|arq e sz k xs=>exact r.elim|dead sz l=>exact s
def qp:LN->Nat->Option Nat
 |[],_=>none
 |a::r,n=>if a=n then some 0 else(qp r n).map (· +1)
theorem kb: ∀{l:LN} {n j:Nat},qp l n=some j->l[j]? =some n
 |[],_,_,h=>by cases h
 |a::r,n,j,h=>by
  simp only[qp]at h;split at h
  .rename_i ha
   cases h
   simp[ha]
  .cases hr:qp r n with
   |none=>rw[hr]at h;cases h
   |some i=>
    rw[hr]at h
    cases h
    simpa using kb hr
theorem lh: ∀{l:LN} {n j:Nat},l.Nodup->l[j]? =some n->qp l n=some j
 |[],_,_,_,h=>by simp at h
 |a::r,n,j,hd,h=>by
  simp only[qp];rw[b3i]at hd
  cases j with
  |zero=>simp at h;simp[h]
  |succ j=>
   simp at h;have hne:a≠n:=λe=>hd.1 (e ▸ b0e h);rw[if_neg hne,lh hd.2 h];rfl
theorem a2v{l:LN}(h:qp l n=none):n∉l:=by induction l with|nil=>simp|cons a r ih=>simp only[qp]at h;split at h;{cases h};.rename_i ha;simp at h;simp only[b0p,not_or];exact⟨λe=>ha e.symm,ih h⟩
def ado(σ:ASt)(ren:LN):PV->Option (PV×LN)
 | .ptr n off=>(qp ren n).map λm=>(.ptr (1000000+m) off,[])
 | .mh n=>(qp ren n).map λm=>(.mh (1000000+m),[])
 | .os n k=>match qp ren n with
  |some m=>some (.os (1000000+m) k,[])
  |none=>pur σ (.os n k)
 |u=>pur σ u
def jk(σ:ASt)(ren:LN):LP->Option (LP×LN)
 |[]=>some ([],[])
 |u::us=>match ado σ ren u,jk σ ren us with
  |some (v,a),some (vs,b)=>some (v::vs,a++b)
  |_,_=>none
def an5(σ:ASt)(ren:LN):PV->Option (PV×LN)
 | .agg cs=>(jk σ ren cs).map λp=>(.agg p.1,p.2)
 | .fn f cs=>(jk σ ren cs).map λp=>(.fn f p.1,p.2)
 | .undef=>some (.undef,[])
 | .vx xs=>some (.vx xs,[])
 |u=>ado σ ren u
def ye(σ:ASt)(ren:LN):LP->Option (LP×LN)
 |[]=>some ([],[])
 |u::us=>match an5 σ ren u,ye σ ren us with
  |some (v,a),some (vs,b)=>some (v::vs,a++b)
  |_,_=>none
def bfm(σ:ASt):LN->Option (List Box×LN)
 |[]=>some ([],[])
 |n::r=>
  match ai σ n,bfm σ r with
  |some (.cells cs),some (ext,b)=>match lg σ cs with
   |some (cs',a)=>some (.cells cs'::ext,a++b)
   |none=>none
  |some (.arr e sz false xs),some (ext,b)=>some (.arr e sz false xs::ext,b)
  |_,_=>none
def az4:Box->Box->Prop
 | .cells _,.cells _=>True
 | .arr _ sz _ xs,.arr _ sz' _ xs'=>sz'=sz/\xs.length<=xs'.length
 | .arr _ sz _ xs,.dead sz' l=>sz'=sz/\xs.length<=l
 | .mp _,.mp _=>True
 |_,_=>False
def ahk:List Box->List Box->Prop
 |[],[]=>True
 |a::as,b::bs=>az4 a b/\as6 b/\ahk as bs
 |_,_=>False
def bn(d j:Nat):Nat:=d+100000*j
def nbD(d:Nat):Nat->List Box->ASt
 |_,[]=>[]
 |j,B::r=>(bn d j,B)::nbD d (j+1) r
def bhx(f:Nat->Nat):PV->PV
 | .os j k=> .os (f j) k
 |u=>u
def bej(f:Nat->Nat):PV->PV
 | .ago cs=> .agg (cs.map (bhx f))
 | .os j k=> .os (f j) k
 | .ptr j o=> .ptr (f j) o
 | .mh j=> .mh (f j)
 |u=>u
def okN(n m j:Nat):Prop:=j<n\/(1000000<=j/\j<1000000+m)
def okA(n m:Nat):PV->Prop
 | .os j _=>okN n m j
 |u=>noH u
def okC(n m:Nat):PV->Prop
 | .ago cs=> ∀u∈cs,okA n m u
 | .os j _=>okN n m j
 | .ptr j _=>okN n m j
 | .mh j=>okN n m j
 |u=>noH u
def bml(f:Nat->Nat):PV->PV
 | .tup us=> .tup (us.map (bej f))
 |u=>bej f u
def okR(n m:Nat):PV->Prop
 | .tup us=> ∀u∈us,okC n m u
 |u=>okC n m u
def rnm(d:Nat)(ren:LN)(j:Nat):Nat:=if j<1000000 then bn d j else ren.getD (j - 1000000) 0
theorem abm: ∀{ren:LN} {ext:List Box} {ns:LN},bfm σ ren=some (ext,ns)->ext.length=ren.length/\(∀n∈ns,∃B,ai σ n=some B)/\∀(j n:Nat),ren[j]? =some n->
  (∃cs cs' a,ai σ n=some (.cells cs)/\lg σ cs=some (cs',a)/\(∀m∈a,m∈ns)/\ext[j]? =some (.cells cs'))\/∃e sz xs,ai σ n=some (.arr e sz false xs)/\ext[j]? =some (.arr e sz false xs)
 |[],ext,ns,h=>by cases h;simp
 |n::r,ext,ns,h=>by
  simp only[bfm]at h
  cases hf:ai σ n with
  |none=>rw[hf]at h;simp at h
  |some B=>
   cases hl:bfm σ r with
   |none=>rw[hf,hl]at h;cases B<;>simp at h
   |some p=>
    obtain⟨e1,b1⟩:=p;obtain⟨i1,f,g⟩:=abm hl;rw[hf,hl]at h
    cases B with
    |arh e sz xs=>cases h
    |mp es=>cases h
    |it m k d=>cases h
    |si l p=>cases h
    |arq e sz k xs=>cases h
    |dead sz l=>cases h
    |cells cs=>
     simp only at h
     cases hp:lg σ cs with
     |none=>rw[hp]at h;cases h
     |some q=>
      obtain⟨cs',a⟩:=q;rw[hp]at h;simp only[b0c,b0t]at h;obtain⟨rfl,rfl⟩:=h;refine⟨Ds,λm b=> ?_,λj m c=> ?_⟩
      .rcases b0j.1 b with b|b
       .exact mb hp m b
       .exact f m b
      .cases j with
       |zero=>
        simp at c;subst c
        exact .inl ⟨cs,cs',a,hf,hp,λm b=>Bf,rfl⟩
       |succ j=>
        rcases g j m Au with ⟨c1,c2,a2,h1,h2,h3,h4⟩|h1
        .exact .inl ⟨c1,c2,a2,h1,h2,λm b=>by simp[h3 m b],by simpa using h4⟩
        .exact .inr Bv
    |arr e sz sh xs=>
     cases sh with
     |true=>simp at h
     |false=>
      simp only[b0c,b0t]at h;obtain⟨rfl,rfl⟩:=h;refine⟨Ds,f,λj m c=> ?_⟩
      cases j with
      |zero=>
       simp at c;subst c
       exact .inr ⟨e,sz,xs,hf,rfl⟩
      |succ j=>
       rcases g j m Au with ⟨c1,c2,a2,h1,h2,h3,h4⟩|h1
       .exact .inl ⟨c1,c2,a2,h1,h2,h3,by simpa using h4⟩
       .exact .inr Bv
theorem wo: ∀{as bs:List Box},ahk as bs->as.length=bs.length/\∀(j:Nat) (a:Box),as[j]? =some a->∃b,bs[j]? =some b/\az4 a b/\as6 b
 |[],[],_=>by simp
 |a::as,b::bs,h=>by
  obtain⟨h1,h2,h3⟩:=h;obtain⟨i1,e⟩:=wo h3;refine⟨Ds,λj c d=> ?_⟩
  cases j with
  |zero=>simp at d;subst d;exact⟨b,rfl,h1,h2⟩
  |succ j=>simpa using e j c Aq
 |[],_::_,h=>h.elim
 |_::_,[],h=>h.elim
theorem ab7(h:ado σ ren u=some (u',a)): ∀n∈a,∃B,ai σ n=some B:=by unfold ado at h;split at h;{cases hi:qp ren _ with|none=>rw[hi]at h;cases h|some m=>rw[hi]at h;simp only[b02,b0c,b0t]at h;obtain⟨_,rfl⟩:=h;simp};{cases hi:qp ren _ with|none=>rw[hi]at h;cases h|some m=>rw[hi]at h;simp only[b02,b0c,b0t]at h;obtain⟨_,rfl⟩:=h;simp};{split at h;{simp only[b0c,b0t]at h;obtain⟨_,rfl⟩:=h;simp};.exact ra h};.exact ra h
theorem ru: ∀{us us':LP} {a:LN},jk σ ren us=some (us',a)->∀n∈a,∃B,ai σ n=some B
 |[],us',a,h=>by cases h;simp
 |u::us,us',a,h=>by
  simp only[jk]at h
  cases h1:ado σ ren u with
  |none=>rw[h1]at h;cases h
  |some p=>
   cases h2:jk σ ren us with
   |none=>rw[h1,h2]at h;cases h
   |some q=>
    rw[h1,h2]at h;simp only[b0c,b0t]at h;obtain⟨_,rfl⟩:=h;intro n b;rcases b0j.1 b with b|b
    .exact ab7 h1 n b
    .exact ru h2 n b
theorem arn(h:an5 σ ren u=some (u',a)): ∀n∈a,∃B,ai σ n=some B:=by unfold an5 at h;split at h;{cases hp:jk σ ren _ with|none=>rw[hp]at h;cases h|some p=>rw[hp]at h;simp only[b02,b0c,b0t]at h;obtain⟨_,rfl⟩:=h;exact ru hp};{cases hp:jk σ ren _ with|none=>rw[hp]at h;cases h|some p=>rw[hp]at h;simp only[b02,b0c,b0t]at h;obtain⟨_,rfl⟩:=h;exact ru hp};{cases h;simp};{cases h;simp};.exact ab7 h
theorem ad5: ∀{us us':LP} {a:LN},ye σ ren us=some (us',a)->∀n∈a,∃B,ai σ n=some B
 |[],us',a,h=>by cases h;simp
 |u::us,us',a,h=>by
  simp only[ye]at h
  cases h1:an5 σ ren u with
  |none=>rw[h1]at h;cases h
  |some p=>
   cases h2:ye σ ren us with
   |none=>rw[h1,h2]at h;cases h
   |some q=>
    rw[h1,h2]at h;simp only[b0c,b0t]at h;obtain⟨_,rfl⟩:=h;intro n b;rcases b0j.1 b with b|b
    .exact arn h1 n b
    .exact ad5 h2 n b
structure Hand(x:Ctx P)(s:St)(hv:Nat->Value)(w:World)(σ:ASt)(ren ns:LN)(F:Env):Prop where
 sim:SimW x s hv w
 pc: ∀a v,(env x (a8 s ns) hv w).pc a v->F.pc a v
 ptr: ∀n m off v,qp ren n=some m->(env x s hv w).ptr n off v->F.ptr (1000000+m) off v
 os: ∀n m k v,qp ren n=some m->(env x s hv w).os n k v->F.os (1000000+m) k v
 mh: ∀n m v,qp ren n=some m->(env x s hv w).mh n v->F.mh (1000000+m) v
section
variable {x:Ctx P} {s:St} {hv:Nat->Value}   {ns:LN} {F:Env} (H:Hand x s hv w σ ren ns F) (hs: ∀n∈ns,s n=ai σ n)
include H hs
theorem abp(b:ado σ ren u=some (u',a))(e: ∀n∈a,n∈ns)(c:RV (env x s hv w) v u):RV F v u':=by
 have d: ∀{u u':PV} {a:LN},pur σ u=some (u',a)->(∀n∈a,n∈ns)->RV (env x s hv w) v u->RV F v u':=λb e c=>
  .pure ((f9 H.sim (λn f=>hs n (e n f)) b e c).mono H.pc)
 unfold ado at b;split at b
 .cases hi:qp ren _ with|none=>rw[hi]at b;cases b|some m=>rw[hi]at b;simp only[b02,b0c,b0t]at b;obtain⟨rfl,_⟩:=b;exact .ptr (H.ptr _ _ _ _ hi c.ptr_inv)
 .cases hi:qp ren _ with|none=>rw[hi]at b;cases b|some m=>rw[hi]at b;simp only[b02,b0c,b0t]at b;obtain⟨rfl,_⟩:=b;exact .mh (H.mh _ _ _ hi c.mh_inv)
 .split at b;{rename_i m hi;simp only[b0c,b0t]at b;obtain⟨rfl,_⟩:=b;exact .os (H.os _ _ _ _ hi c.os_inv)};.exact d b e c
 .exact d b e c
theorem nf: ∀{us us':LP} {a:LN},jk σ ren us=some (us',a)->(∀n∈a,n∈ns)->
  us'.length=us.length/\∀(i:Nat) (u u':PV) (v:Value),us[i]? =some u->us'[i]? =some u'->RV (env x s hv w) v u->RV F v u'
 |[],us',a,h,_=>by cases h;simp
 |u::us,us',a,h,ha=>by
  simp only[jk]at h
  cases h1:ado σ ren u with
  |none=>rw[h1]at h;cases h
  |some p=>
   cases h2:jk σ ren us with
   |none=>rw[h1,h2]at h;cases h
   |some q=>
    rw[h1,h2]at h;simp only[b0c,b0t]at h;obtain⟨rfl,rfl⟩:=h;obtain⟨i1,g⟩:=nf h2 (λn d=>ha n Bi);refine⟨Ds,λi r f v e b c=> ?_⟩
    cases i with
    |zero=>
     simp at e b;subst e b
     exact abp H hs h1 (λn d=>ha n Bi) c
    |succ i=>exact g i r f v A5 A0 c
theorem apb(b:an5 σ ren u=some (u',a))(g: ∀n∈a,n∈ns)(d:RV (env x s hv w) v u):RV F v u':=by unfold an5 at b;split at b;{cases c:jk σ ren _ with|none=>rw[c]at b;cases b|some p=>rw[c]at b;simp only[b02,b0c,b0t]at b;obtain⟨rfl,rfl⟩:=b;obtain⟨m,rfl,k,h⟩:=d.agg_inv;have f:jk σ ren _=some (p.1,p.2):=c;obtain⟨i1,l⟩:=nf H hs f g;refine .agg (by rw[k,i1]) λi u b=> ?_;have e:=(dm.1 b).1;rw[i1]at e;exact l i _ u _ (bq e) b (h i _ (bq e))};{cases c:jk σ ren _ with|none=>rw[c]at b;cases b|some p=>rw[c]at b;simp only[b02,b0c,b0t]at b;obtain⟨rfl,rfl⟩:=b;obtain⟨m,rfl,k,h⟩:=d.fn_inv;have f:jk σ ren _=some (p.1,p.2):=c;obtain⟨i1,l⟩:=nf H hs f g;refine .fn _ (by rw[k,i1]) λi u b=> ?_;have e:=(dm.1 b).1;rw[i1]at e;exact l i _ u _ (bq e) b (h i _ (bq e))};{cases b;exact .undef _};{rename_i xs;cases b;obtain⟨q,o,rfl,c⟩:=d.vx_inv;exact .vx rfl ((f9 (ns:=ns) H.sim (λn j=>hs n (g n (by simp at j))) (rfl:pur σ (.vs xs)=some (.vs xs,[])) (λn j=>by simp at j) (.pure c)).mono H.pc)};.exact abp H hs b g d
theorem ad6: ∀{us us':LP} {a:LN},ye σ ren us=some (us',a)->(∀n∈a,n∈ns)->
  us'.length=us.length/\∀(i:Nat) (u u':PV) (v:Value),us[i]? =some u->us'[i]? =some u'->RV (env x s hv w) v u->RV F v u'
 |[],us',a,h,_=>by cases h;simp
 |u::us,us',a,h,ha=>by
  simp only[ye]at h
  cases h1:an5 σ ren u with
  |none=>rw[h1]at h;cases h
  |some p=>
   cases h2:ye σ ren us with
   |none=>rw[h1,h2]at h;cases h
   |some q=>
    rw[h1,h2]at h;simp only[b0c,b0t]at h;obtain⟨rfl,rfl⟩:=h;obtain⟨i1,g⟩:=ad6 h2 (λn d=>ha n Bi);refine⟨Ds,λi r f v e b c=> ?_⟩
    cases i with
    |zero=>
     simp at e b;subst e b
     exact apb H hs h1 (λn d=>ha n Bi) c
    |succ i=>exact g i r f v A5 A0 c
end
def bkq(σ:ASt)(ren:LN)(ext:List Box)(ns:LN):Prop:=
 ext.length=ren.length/\(∀n∈ns,∃B,ai σ n=some B)/\∀(j n:Nat),ren[j]? =some n->
  (∃cs cs' a,ai σ n=some (.cells cs)/\jk σ ren cs=some (cs',a)/\(∀m∈a,m∈ns)/\ext[j]? =some (.cells cs'))\/(∃e sz xs,ai σ n=some (.arr e sz false xs)/\ext[j]? =some (.arr e sz false xs))\/
  (∃cs cs' a,ai σ n=some (.cells cs)/\lg σ cs=some (cs',a)/\(∀m∈a,m∈ns)/\ext[j]? =some (.cells cs'))\/∃es,ai σ n=some (.mp es)/\(∀e∈es,noH e.2)/\ext[j]? =some (.mp es)
theorem bb8{ns:LN}(h:bfm σ ren=some (ext,ns)):bkq σ ren ext ns:=by obtain⟨a,b,d⟩:=abm h;refine⟨a,b,λj n c=> ?_⟩;rcases d j n c with h|h;{exact .inr (.inr (.inl h))};.exact .inr (.inl h)
def bkf(ext ext':List Box):Prop:=ext.length=ext'.length/\∀(j:Nat) (a:Box),ext[j]? =some a->∃b,ext'[j]? =some b/\az4 a b
def aw1(n m:Nat)(f:Nat->Nat)(b b2:Box):Prop:=(as6 b/\b2=b)\/∃cs,b= .cells cs/\(∀u∈cs,okC n m u)/\b2= .cells (cs.map (bej f))
def bhe(n m:Nat)(f:Nat->Nat)(ext' ext2:List Box):Prop:=ext2.length=ext'.length/\∀(j:Nat) (b:Box),ext'[j]? =some b->∃b2,ext2[j]? =some b2/\aw1 n m f b b2
theorem au1{c:List Box}(h:ahk ext c)(n m:Nat)(f:Nat->Nat):bkf ext c/\bhe n m f c c:=by obtain⟨g,i⟩:=wo h;refine⟨⟨g,λj a d=> ?_⟩,rfl,λj b d=>⟨b,d,.inl ⟨?_,rfl⟩⟩⟩;{obtain⟨b,e,h4,_⟩:=i j a d;exact⟨b,e,h4⟩};.have hlt:j<ext.length:=(by rw[g];exact(dm.1 d).1);obtain⟨l,e,_,k⟩:=i j _ (bq hlt);rw[d]at e;cases e;exact k
theorem xv{f:Nat->Nat}{b:Box}(h:aw1 n m f b b2):(b2=b/\as6 b)\/∃cs cs2,b= .cells cs/\b2= .cells cs2:=by rcases h with ⟨a,c⟩|⟨cs,a,_,c⟩;{exact .inl ⟨c,a⟩};.exact .inr ⟨cs,_,a,c⟩
theorem an0{f:Nat->Nat}{A b:Box}{c:Value}(e:aw1 n m f b b2)(a:Box.keep A h b c):Box.keep A h b2 c:=by rcases xv e with ⟨rfl,_⟩|⟨cs,d,rfl,rfl⟩;{exact a};.cases A<;>simp[Box.keep,Box.dim,Box.isM]at a ⊢ <;>exact a
theorem a4f{f:Nat->Nat}{b:Box}(d:aw1 n m f b b2)(a:b.perm off):b2.perm off:=by rcases xv d with ⟨rfl,_⟩|⟨cs,c,rfl,rfl⟩;{exact a};.exact a
def nbK(n m:Nat)(f:Nat->Nat)(B B2:Box):Prop:=(as6 B/\B2=B)\/∃e sz xs,B= .arh e sz xs/\(∀x∈xs,∀u∈x,okA n m u)/\B2= .arh e sz (xs.map (List.map (bhx f)))
def nbX(n m:Nat)(f:Nat->Nat)(nb nb2:List Box):Prop:=nb2.length=nb.length/\∀(j:Nat) (B2:Box),nb2[j]? =some B2->∃B,nb[j]? =some B/\nbK n m f B B2
theorem a4m{f:Nat->Nat}(h: ∀B∈nb,as6 B):nbX n m f nb nb:=⟨rfl,λ_ B a=>⟨B,a,.inl ⟨h B (b0e a),rfl⟩⟩⟩
theorem aog{f:Nat->Nat}{a:Box}(h:nbK n m f B a):a=B\/∃e sz xs xs2,B= .arh e sz xs/\a= .arh e sz xs2/\xs2.length=xs.length:=by rcases h with ⟨_,h⟩|⟨e,sz,xs,b,_,c⟩;{exact .inl h};.exact .inr ⟨e,sz,xs,_,b,c,Ad⟩
theorem bek{f:Nat->Nat}{a:Box}(h:nbK n m f B a)(b:B.perm off):a.perm off:=by rcases aog h with rfl|⟨e,g,d,c,rfl,rfl,_⟩;{exact b};.exact b
theorem a8p(f:Nat->Nat)(u:PV):fy (bhx f u)=fy u:=by cases u<;>rfl
/- A Qq of a function with a contract. -/
variable {P:Program}
theorem a2m: ∀{δ:ASt} {s:St},(δ.map (·.1)).Nodup->∀n,app s δ n=(ai δ n).or (s n)
 |[],s,_,n=>by simp[app,ai]
 |(m,B)::r,s,h,n=>by
  simp only[b07,b3i]at h;simp only[app,ai];rw[a2m h.2];by_cases hmn:m=n
  .subst hmn
   have:ai r m=none:=by
    have b:=h.1;clear h
    induction r with
    |nil=>rfl
    |cons p r ih=>
     obtain⟨a,C⟩:=p;simp only[b07,b0p,not_or]at b;simp only[ai];rw[if_neg (Ne.symm b.1)];exact ih b.2
   rw[this];simp
  .rw[if_neg hmn,ak _ _ (Ne.symm hmn)]
theorem xm: ∀(δ ε:ASt) (s:St),app s (δ++ε)=app (app s δ) ε
 |[],ε,s=>rfl
 |(n,B)::δ,ε,s=>by simp only[b1s,app];exact xm δ ε _
theorem avj: ∀{ren:LN} {ext:List Box} {n:Nat},ren.length=ext.length->ai (ren.zip ext) n=(qp ren n).bind (ext[·]?)
 |[],[],n,_=>rfl
 |a::r,B::e,n,h=>by
  simp only[List.zip_cons_cons,ai,qp];by_cases ha:a=n
  .simp[ha]
  .rw[if_neg ha,if_neg ha,avj (by simpa using h)]
   cases qp r n<;>simp
 |[],_::_,_,h=>by simp at h
 |_::_,[],_,h=>by simp at h
theorem at2: ∀{nb:List Box} {j0 n:Nat} {B:Box},ai (nbD d j0 nb) n=some B->∃j,n=bn d (j0+j)/\nb[j]? =some B
 |[],_,_,_,h=>by cases h
 |C::r,j0,n,B,h=>by
  simp only[nbD,ai]at h;split at h
  .rename_i hn
   cases h
   exact⟨0,hn.symm,rfl⟩
  .obtain⟨j,h1,h2⟩:=at2 h;exact⟨j+1,by rw[h1];congr 1;omega,Cp⟩
theorem p5: ∀{nb:List Box} {j0 j:Nat} {B:Box},nb[j]? =some B->ai (nbD d j0 nb) (bn d (j0+j))=some B
 |[],_,_,_,h=>by simp at h
 |C::r,j0,j,B,h=>by
  simp only[nbD,ai]
  cases j with
  |zero=>simp at h;simp[h]
  |succ j=>
   rw[if_neg (by simp only[bn];omega),show j0+(j+1)=j0+1+j by omega];exact p5 (by simpa using h)
theorem ang{d:Nat}: ∀(nb:List Box) (j0:Nat),(((nbD d j0 nb).map (·.1)).Nodup/\∀n∈(nbD d j0 nb).map (·.1),bn d j0<=n)
 |[],j0=>by simp[nbD]
 |B::r,j0=>by
  obtain⟨h1,h2⟩:=ang (d:=d) r (j0+1);simp only[nbD,b07,b3i,b0p];refine⟨⟨λa=> ?_,h1⟩,?_⟩
  .have:=h2 _ a;simp only[bn]at this;omega
  .rintro n (rfl|a)
   .exact b0f _
   .have:=h2 _ a;simp only[bn]at this ⊢;omega
def aak(σ:ASt)(d:Nat)(ns ren:LN)(ext' nb:List Box):ASt:=ej σ ns++(ren.zip ext'++nbD d 0 nb)
theorem jo:fg nb ext (1000000+j)=ext[j]?:=by unfold fg;rw[if_neg Aa,b3h]
theorem ap1(h:j<1000000):fg nb ext j=nb[j]?:=by simp[fg,h]
theorem gj(h:fg nb ext n=some B):(n<1000000/\nb[n]? =some B)\/∃j,n=1000000+j/\ext[j]? =some B:=by unfold fg at h;split at h;{rename_i hn;exact .inl ⟨hn,h⟩};.rename_i hn;exact .inr ⟨n - 1000000,Aa,h⟩
theorem ami{P:Program}{k:FuncId}{us c3:LP}{a3 a4:LN}{A Q q:List Box}{r:PV}
  (D:Den P k c3 ext r nb A) (e0:ye σ ren us=some (c3,a3)) (f6:bkq σ ren ext a4) (Y:ren.Nodup) (n0: ∀n∈ren,n∉a3++a4) (f4:bkf ext A) (g6:bhe nb.length ext.length (rnm d ren) A Q)
  (c6:nbX nb.length ext.length (rnm d ren) nb q) (e9: ∀n∈(nbD d 0 q).map (·.1),ai σ n=none) (b3:nb.length<1000000) (hr:okR nb.length ext.length r)
  {s:St} (hs: ∀n∈(a3++a4)++(ren++(nbD d 0 q).map (·.1)),s n=ai σ n) {x:Ctx P} {hv:Nat->Value}  (hW:SimW x s hv w) {vals:List Value} (hl:vals.length=us.length)
  (g3: ∀(i:Nat) (v:Value) (u:PV),vals[i]? =some v->us[i]? =some u->RV (env x s hv w) v u):
  Calls P k vals.toArray w λe w'=> ∃v hv',e= .returned v/\SimW x (app s (aak σ d (a3++a4) ren Q q)) hv' w'/\Env.le (env x s hv w) (env x (app s (aak σ d (a3++a4) ren Q q)) hv' w')/\
   RV (env x (app s (aak σ d (a3++a4) ren Q q)) hv' w') v (bml (rnm d ren) r):=by
 obtain⟨d1,n6,j1⟩:=f6;obtain⟨n2,g4⟩:=f4;obtain⟨q3,f3⟩:=g6
 have k9: ∀n∈a3++a4,∃B,ai σ n=some B:=λn S=>by rcases b0j.1 S with S|S;{exact ad5 e0 n S};.exact n6 n S
 generalize g9:a3++a4=ns at*;have e6: ∀n∈ns,s n=ai σ n:=λn S=>hs n (by simp[S]);have e7: ∀n∈ren,s n=ai σ n:=λn S=>hs n (by simp[S]);have p0: ∀n∈(nbD d 0 q).map (·.1),s n=none:=λn S=>(hs n (by simp only[b0j];exact .inr (.inr S))).trans (e9 n S);have Z:=hW.shared (em s ns)
 have j4:app s (ej σ ns)=a8 s ns:=rt λn S=>by obtain⟨B,hB⟩:=k9 n S;exact⟨B,(e6 n S).trans hB,.inl hB.symm⟩
 have c: ∀(j n:Nat),ren[j]? =some n->∃(M B:Box),s n=some M/\a8 s ns n=some M/\ext[j]? =some B/\(∀b6,¬M.perm b6)/\
   ((∃cs cs' a,M= .cells cs/\B= .cells cs'/\(jk σ ren cs=some (cs',a)\/lg σ cs=some (cs',a))/\∀m∈a,m∈ns)\/(∃e sz xs,M= .arr e sz false xs/\B= .arr e sz false xs)\/∃es,M= .mp es/\B= .mp es/\∀e∈es,noH e.2):=λj n f=>by
  have a5:=b0e f;have e4:a8 s ns n=s n:=by simp[a8,n0 n a5]
  rcases j1 j n f with ⟨cs,cs',a,h1,F,G,h4⟩|⟨e,sz,xs,h1,F⟩|⟨cs,cs',a,h1,F,G,h4⟩|⟨es,h1,F,h4⟩
  .have h0:s n=some (.cells cs):=(e7 n a5).trans h1;exact⟨_,_,h0,by rw[e4];exact h0,h4,λb6 h=>h,.inl ⟨cs,cs',a,rfl,rfl,.inl F,λm hm=>Fq⟩⟩
  .have h0:s n=some (.arr e sz false xs):=(e7 n a5).trans h1;exact⟨_,_,h0,by rw[e4];exact h0,F,λb6 h=>h,.inr (.inl ⟨e,sz,xs,rfl,rfl⟩)⟩
  .have h0:s n=some (.cells cs):=(e7 n a5).trans h1;exact⟨_,_,h0,by rw[e4];exact h0,h4,λb6 h=>h,.inl ⟨cs,cs',a,rfl,rfl,.inr F,λm hm=>Fq⟩⟩
  .have h0:s n=some (.mp es):=(e7 n a5).trans h1;exact⟨_,_,h0,by rw[e4];exact h0,h4,λb6 h=>h,.inr (.inr ⟨es,rfl,rfl,F⟩)⟩
 let hvc:Nat->Value:=λm=>hv (ren.getD (m - 1000000) 0)
 have g: ∀(j n:Nat),ren[j]? =some n->hvc (1000000+j)=hv n:=λj n f=>by simp only[hvc,b3h,bd,f,b1o]
 let lent:Nat->Prop:=λb=> ∃(j n:Nat),ren[j]? =some n/\blk (hv n)=some b
 let V:Addr->Prop:=λa=>a.block<w.heap.size/\(x.V a\/x.w0.heap.size<=a.block\/x.E a.block)/\(∀n B,a8 s ns n=some B->blk (hv n)=some a.block->B.perm a.off)/\¬lent a.block
 have y: ∀b,(cx (P:=P) w V hvc ext x.gc).E b↔lent b:=λb=>by constructor;{rintro⟨n,B,h1,F⟩;rcases gj h1 with ⟨_,G⟩|⟨j,rfl,G⟩;{simp at G};.have f:j<ren.length:=(by rw[<-d1];exact(dm.1 G).1);refine⟨j,ren[j],bq f,?_⟩;rw[g j _ (bq f)]at F;exact F};.rintro⟨j,n,h1,F⟩;obtain⟨M,B,_,_,h5,_⟩:=c j n h1;exact⟨1000000+j,B,Ep,by rw[g j n h1];exact F⟩
 have e3: ∀a v,(env x (a8 s ns) hv w).pc a v->(env (cx (P:=P) w V hvc ext x.gc) (fg [] ext) hvc w).pc a v:=λa v U=>by have d4: ¬lent a.block:=(by rintro⟨j,n,h1,F⟩;obtain⟨M,B,_,h4,_,h6,_⟩:=c j n h1;exact h6 _ (U.2.2 n M h4 F));refine⟨U.1,.inl ⟨U.lt,U.2.1,U.2.2,d4⟩,λn B hB hb=> ?_⟩;exact absurd ((y _).1 ⟨n,B,hB,hb⟩) d4
 have g8: ∀(j j' n n' b:Nat),ren[j]? =some n->ren[j']? =some n'->blk (hv n)=some b->blk (hv n')=some b->j=j':=λj j' n n' b h1 F G h4=>by obtain⟨M,_,h5,_⟩:=c j n h1;obtain⟨p2,_,n9,_⟩:=c j' n' F;have W:=hW.inj n n' M p2 b h5 n9 G h4;subst W;have e1:=lh Y h1;have e2:=lh Y F;rw[e1]at e2;exact b3v e2
 have H:Hand x s hv w σ ren ns (env (cx (P:=P) w V hvc ext x.gc) (fg [] ext) hvc w):={
  sim:=hW
  pc:=e3
  ptr:=λn m b6 v T=>by
   rintro⟨⟨cs,hc⟩,b,hb,d3⟩;have f:=kb T;obtain⟨M,B,h4,_,h5,_,h7⟩:=c m n f;rw[hc]at h4
   cases h4
   rcases h7 with ⟨d2,cs',a,h8,rfl,_⟩|⟨e,sz,xs,h8,_⟩|⟨es,h8,_⟩
   .exact⟨⟨cs',Ep⟩,b,by rw[g m n f];exact hb,d3⟩
   .cases h8
   .cases h8
  os:=λn m k v T=>by
   rintro⟨Z,B1,sz,l,hc,hd,hle,d3⟩;have f:=kb T;obtain⟨M,B,h4,_,h5,_,h7⟩:=c m n f;rw[hc]at h4
   cases h4
   rcases h7 with ⟨d2,cs',a,rfl,rfl,_⟩|⟨e',sz',xs',rfl,rfl⟩|⟨es,rfl,rfl,_⟩
   rotate_left 2
   .cases hd
   .cases hd
   .exact⟨Z,_,sz,l,Ep,hd,hle,λhk=>by rw[g m n f];exact d3 hk⟩
  mh:=λn m v T=>by
   rintro⟨⟨hb,B1,hc,hM⟩,d3⟩;have f:=kb T;obtain⟨M,B,h4,_,h5,_,h7⟩:=c m n f;rw[hc]at h4
   cases h4
   rcases h7 with ⟨d2,cs',a,rfl,rfl,_⟩|⟨e',sz',xs',rfl,rfl⟩|⟨es,rfl,rfl,_⟩
   .cases hM
   .cases hM
   .exact⟨⟨hb,_,Ep,hM⟩,by rw[g m n f];exact d3⟩}
 have hC:SimW (cx (P:=P) w V hvc ext x.gc) (fg [] ext) hvc w:={
  os:=rfl,tape:=rfl,output:=rfl,size:=b0f _,old:=λ_ _ _=>rfl
  box:=λn B hB=>by
   rcases gj hB with ⟨_,G⟩|⟨j,rfl,G⟩
   .simp at G
   .have f:j<ren.length:=by rw[<-d1];exact(dm.1 G).1
    obtain⟨M,B1,h4,h4',h5,h6,h7⟩:=c j _ (bq f);rw[G]at h5
    cases h5
    rw[g j _ (bq f)];have e8:=hW.box _ _ h4;rcases h7 with ⟨cs,cs',a,rfl,rfl,h8|h8,h9⟩|⟨e,sz,xs,rfl,rfl⟩|⟨es,rfl,rfl,h8⟩
    .obtain⟨b,t,arr,k1,k2,k3,k4⟩:=e8;obtain⟨i1,i2⟩:=nf H e6 h8 h9;refine⟨b,t,arr,k1,k2,by rw[k3,i1],λi u J=> ?_⟩;have T:=(dm.1 J).1;rw[i1]at T;exact i2 i _ u _ (bq T) J (k4 i _ (bq T))
    .obtain⟨b,t,arr,k1,k2,k3,k4⟩:=e8;obtain⟨i1,i2⟩:=ew (ns:=ns) hW (λn S=>e6 n (h9 n S)) h8 h9;refine⟨b,t,arr,k1,k2,by rw[k3,i1],λi u J=> ?_⟩;have T:=(dm.1 J).1;rw[i1]at T;exact .pure ((i2 i _ u (bq T) J _ (k4 i _ (bq T))).mono e3)
    .exact(e8.mono Z.2).noH e3 trivial
    .exact(e8.mono Z.2).noH e3 h8
  loc:=λn B b hB hb=> .inr ⟨n,B,hB,hb⟩
  inj:=λn m B C b hB hC S hm=>by
   rcases gj hB with ⟨_,G⟩|⟨j,rfl,G⟩
   .simp at G
   rcases gj hC with ⟨_,g7⟩|⟨j',rfl,g7⟩
   .simp at g7
   have f:j<ren.length:=by rw[<-d1];exact(dm.1 G).1
   have a1:j'<ren.length:=by rw[<-d1];exact(dm.1 g7).1
   rw[g j _ (bq f)]at S;rw[g j' _ (bq a1)]at hm;rw[g8 j j' _ _ b (bq f) (bq a1) S hm]
  ext:=λn p B hx hB=>by
   simp only[cx,hB,b02,b0c]at hx;subst hx;exact Box.keep_refl _ _
  vis:=λa ha=>⟨λhE=>ha.2.2.2 ((y _).1 hE),ha.1⟩
  glb:=λb o ha=>by
   obtain⟨g1,g2⟩:=hW.glb b o ha;have b9:=(b03.1 g1).1;refine⟨(hW.old b b9 g2).trans g1,λhE=> ?_⟩;obtain⟨j,n,h1,F⟩:=(y _).1 hE;obtain⟨M,_,h4,_⟩:=c j n h1;rcases hW.loc n M _ h4 F with h|h
   .omega
   .exact g2 h
  tabs:=hW.tabs
  extin:=λn S=>by
   simp only[cx]at S
   cases hq:fg [] ext n with
   |none=>rw[hq]at S;simp at S
   |some B=>
    refine⟨Ad,?_⟩;rcases gj hq with ⟨_,G⟩|⟨j,rfl,_⟩
    .simp at G
    .omega}
 obtain⟨k5,n1⟩:=ad6 H e6 e0 (λn S=>by rw[<-g9];exact b0j.2 (.inl S));refine(D.run w V hvc x.gc vals hC (by rw[hl,k5]) λi v u a0 J=> ?_).mono λe w'=> ?_
 .have T:=(dm.1 J).1;rw[k5]at T;exact n1 i _ u v (bq T) J (g3 i v _ a0 (bq T))
 rintro⟨v,O,rfl,hF,m0⟩
 have K: ∀(j n:Nat),ren[j]? =some n->∃B L,ext[j]? =some B/\A[j]? =some L/\fg nb A (1000000+j)=some L/\Box.keep B (hv n) L (O (1000000+j))/\∃B2,Q[j]? =some B2/\aw1 nb.length ext.length (rnm d ren) L B2:=λj n f=>by obtain⟨M,B,_,_,h5,_⟩:=c j n f;obtain⟨L,h6,_⟩:=g4 j B h5;refine⟨B,L,h5,h6,by rw[jo];exact h6,?_,f3 j L h6⟩;have:=hF.ext (1000000+j) (hvc (1000000+j),B) L (by simp[cx,jo,h5]) (by rw[jo];exact h6);rwa [g j n f]at this
 have c5: ∀(i:Nat) (B:Box) (b:Nat),fg nb A i=some B->blk (O i)=some b->w.heap.size<=b\/lent b:=λi B b T hb=>by rcases hF.loc i B b T hb with h|h;{exact .inl h};.exact .inr ((y b).1 h)
 have c1: ∀(m:Nat) (C:Box) (b:Nat),m∉ren->a8 s ns m=some C->blk (hv m)=some b->b<w.heap.size/\¬lent b:=λm C b hm hC hb=>by refine⟨Z.1.blk_lt hC hb,?_⟩;rintro⟨j,n,h1,F⟩;obtain⟨M,_,_,h4,_⟩:=c j n h1;have:=Z.1.inj m n C M b hC h4 hb F;subst this;exact hm (b0e h1)
 let hv':Nat->Value:=λn=>if(ai (nbD d 0 q) n).isSome then O ((n - d)/100000)else match qp ren n with|some j=>O (1000000+j)|none=>hv n
 have b1: ∀(j:Nat) (B:Box),q[j]? =some B->hv' (bn d j)=O j:=λj B f=>by have:=p5 (d:=d) (j0:=0) f;rw[b1w]at this;have k0:(bn d j - d)/100000=j:=(by simp only[bn];omega);simp only[hv',this,Option.isSome_some,b4i,k0]
 have q2:ren.length=Q.length:=by rw[<-d1,n2,q3]
 generalize k6:app s (aak σ d ns ren Q q)=s'
 have N: ∀n,s' n=(ai (nbD d 0 q) n).or (((qp ren n).bind (Q[·]?)).or (a8 s ns n)):=λn=>by rw[<-k6,aak,xm,j4,xm,a2m (ang q 0).1,a2m,avj q2];rw[List.map_fst_zip Aa];exact Y
 have X: ∀(n:Nat) (B:Box),s' n=some B->(∃(j:Nat) (L:Box),n=bn d j/\fg nb A j=some L/\q[j]? =some B/\nbK nb.length ext.length (rnm d ren) L B/\hv' n=O j)\/(∃(j:Nat) (L:Box),ren[j]? =some n/\fg nb A (1000000+j)=some L/\Q[j]? =some B/\aw1 nb.length ext.length (rnm d ren) L B/\hv' n=O (1000000+j)/\ai (nbD d 0 q) n=none)\/(n∉ren/\a8 s ns n=some B/\hv' n=hv n/\ai (nbD d 0 q) n=none):=λn B hB=>by rw[N]at hB;cases h1:ai (nbD d 0 q) n with|some C=>rw[h1]at hB;simp at hB;subst hB;obtain⟨j,rfl,f⟩:=at2 h1;rw[b1w]at*;obtain⟨L,a1,b8⟩:=c6.2 j _ f;exact .inl ⟨j,L,rfl,by rw[ap1 (b5s (dm.1 a1).1 b3)];exact a1,f,b8,b1 j _ f⟩|none=>rw[h1]at hB;cases F:qp ren n with|some j=>rw[F]at hB;have f:=kb F;obtain⟨_,L,_,h6,h7,_,B2,h8,h9⟩:=K j n f;simp[h8]at hB;subst hB;exact .inr (.inl ⟨j,L,f,h7,h8,h9,by simp[hv',h1,F],rfl⟩)|none=>rw[F]at hB;exact .inr (.inr ⟨a2v F,by simpa using hB,by simp[hv',h1,F],rfl⟩)
 have d4: ∀a v,pcOf x (a8 s ns) hv w a v->¬lent a.block:=λa v U=>by rintro⟨j,n,h1,F⟩;obtain⟨M,B,_,h4,_,h6,_⟩:=c j n h1;exact h6 _ (U.2.2 n M h4 F)
 have f1: ∀a v,pcOf x (a8 s ns) hv w a v->∀i B,fg nb A i=some B->blk (O i)≠some a.block:=λa v U i B T hb=>by rcases c5 i B _ T hb with h|h;{have:=U.lt;omega};.exact d4 a v U h
 have f2: ∀a v,pcOf x (a8 s ns) hv w a v->pcOf x s' hv' w' a v:=λa v U=>by refine⟨(b2y (hF.old a.block U.lt λhE=>d4 a v U ((y _).1 hE))).trans U.1,U.2.1,λn B hB hb=> ?_⟩;rcases X n B hB with ⟨j,L,rfl,f,_,_,I⟩|⟨j,L,_,f,_,_,I,_⟩|⟨_,h1,I,_⟩;{rw[I]at hb;exact absurd hb (f1 a v U j L f)};{rw[I]at hb;exact absurd hb (f1 a v U _ L f)};.rw[I]at hb;exact U.2.2 n B h1 hb
 have a2: ∀n,n∉ren->ai (nbD d 0 q) n=none->s' n=a8 s ns n/\hv' n=hv n:=λn h1 F=>by cases G:qp ren n with|some j=>exact absurd (b0e (kb G)) h1|none=>exact⟨by rw[N,F,G];simp,by simp[hv',F,G]⟩
 have g0: ∀n C,ai (nbD d 0 q) n=some C->a8 s ns n=none:=λn C hC=>by have hm:n∈(nbD d 0 q).map (·.1):=(by clear N X a2 f2 k6;generalize nbD d 0 q=δ at hC ⊢;induction δ with|nil=>cases hC|cons p δ ih=>obtain⟨a,B⟩:=p;simp only[ai]at hC;split at hC;{rename_i ha;simp[ha]};.simp only[b07,b0p];exact .inr (ih hC));rcases em s ns n with h|h<;>rw[h,p0 n hm];rfl
 have f5: ∀(j n:Nat),ren[j]? =some n->ai (nbD d 0 q) n=none:=λj n f=>by obtain⟨M,B1,_,k2,_⟩:=c j n f;cases hq:ai (nbD d 0 q) n with|none=>rfl|some C=>rw[g0 n C hq]at k2;cases k2
 have k8:Env.le (env x (a8 s ns) hv w) (env x s' hv' w'):=qh f2 λn B hB=>by have W:ai (nbD d 0 q) n=none:=(by cases hq:ai (nbD d 0 q) n with|none=>rfl|some C=>rw[g0 n C hq]at hB;cases hB);by_cases a7:n∈ren;{obtain⟨j,f⟩:=b2v.1 a7;obtain⟨M,B1,h4,h4',h5,h6,h7⟩:=c j n f;rw[hB]at h4';cases h4';obtain⟨p3,L,e5,_,_,c2,B2,h8,b4⟩:=K j n f;rw[h5]at e5;cases e5;have a6:=an0 b4 c2;have I:hv' n=O (1000000+j):=(by simp[hv',W,lh Y f]);refine⟨B2,by rw[N,W,lh Y f];simp[h8],?_⟩;rw[I];rcases h7 with ⟨d2,cs',a,rfl,rfl,_⟩|⟨e',sz',xs',rfl,rfl⟩|⟨es,rfl,rfl,_⟩;{exact a6};{exact a6};.exact a6};.exact⟨B,by rw[(a2 n a7 W).1];exact hB,by rw[(a2 n a7 W).2];exact Box.keep_refl _ _⟩
 have a9: ∀a v,(env (cx (P:=P) w V hvc ext x.gc) (fg nb A) O w').pc a v->(env x s' hv' w').pc a v:=λa v U=>by refine⟨U.1,?_,λn B hB hb=> ?_⟩;{rcases U.2.1 with h|h|h;{exact h.2.1};{exact .inr (.inl (b1l hW.size h))};.obtain⟨j,n,h1,F⟩:=(y _).1 h;obtain⟨M,B,G,_⟩:=c j n h1;exact .inr (hW.loc n M _ G F)};.rcases X n B hB with ⟨j,L,rfl,f,_,b8,I⟩|⟨j,L,_,f,_,b4,I,_⟩|⟨hnr,h1,I,_⟩;{rw[I]at hb;exact bek b8 (U.2.2 j L f hb)};{rw[I]at hb;exact a4f b4 (U.2.2 (1000000+j) L f hb)};.rw[I]at hb;obtain⟨o1,o2⟩:=c1 n B _ hnr h1 hb;rcases U.2.1 with h|h|h;{exact h.2.2.1 n B h1 hb};{have h':w.heap.size<=a.block:=h;omega};.exact absurd ((y _).1 h) o2
 have f0: ∀(i:Nat) (B:Box) (b:Nat),fg nb A i=some B->blk (O i)=some b->x.w0.heap.size<=b\/x.E b:=λi B b T hb=>by rcases c5 i B b T hb with h|⟨j,n,h1,F⟩;{exact .inl (b1l hW.size h)};.obtain⟨M,_,G,_⟩:=c j n h1;exact hW.loc n M b G F
 have c7: ∀(i:Nat) (B:Box) (n b:Nat),fg nb A i=some B->blk (O i)=some b->((∃j,i=j/\j<1000000/\n=bn d j)\/∃j,i=1000000+j/\ren[j]? =some n)->∀m C,m≠n->s' m=some C->blk (hv' m)≠some b:=λi B n b T hb j2 m C hm hC b7=>by rcases X m C hC with ⟨j',C',rfl,a1,j6,_,d0⟩|⟨j',C',a7,a1,_,_,d0,_⟩|⟨q0,h1,d0,_⟩;{rw[d0]at b7;have:=hF.inj i j' B C' b T a1 hb b7;subst this;have b9:i<1000000:=b5s (dm.1 j6).1 (by rw[c6.1];exact b3);rcases j2 with ⟨j,rfl,_,rfl⟩|⟨j,rfl,_⟩;{exact hm rfl};.omega};{rw[d0]at b7;have:=hF.inj i (1000000+j') B C' b T a1 hb b7;rcases j2 with ⟨j,rfl,f,_⟩|⟨j,rfl,hr⟩;{omega};.have hjj:j=j':=Aa;subst hjj;rw[a7]at hr;exact hm (b3v hr)};.rw[d0]at b7;obtain⟨o1,o2⟩:=c1 m C b q0 h1 b7;rcases c5 i B b T hb with h|h;{omega};.exact o2 h
 have b2: ∀j,okN nb.length ext.length j->hv' (rnm d ren j)=O j/\∀B,fg nb A j=some B->∃B2,s' (rnm d ren j)=some B2/\(B2=B\/(∃cs b5,B= .cells cs/\B2= .cells b5)\/∃e sz xs xs2,B= .arh e sz xs/\B2= .arh e sz xs2/\xs2.length=xs.length):=λj f=>by rcases f with f|⟨g5,q4⟩;{have hg:=bq (l:=q) (i:=j) (by rw[c6.1];exact f);obtain⟨M,h0,hk⟩:=c6.2 j _ hg;have hf:=p5 (d:=d) (j0:=0) hg;rw[b1w]at hf;have b9:j<1000000:=b5s f b3;have f5:rnm d ren j=bn d j:=(by simp[rnm,b9]);rw[f5];refine⟨b1 j _ hg,λB hB=>⟨_,by rw[N,hf];rfl,?_⟩⟩;rw[ap1 b9,h0]at hB;cases hB;rcases aog hk with h|h;{exact .inl h};.exact .inr (.inr h)};.obtain⟨m,rfl⟩:=b4j g5;have p1:m<ren.length:=Aa;have hm:ren[m]? =some ren[m]:=bq p1;have j5:rnm d ren (1000000+m)=ren[m]:=(by have: ¬(1000000+m<1000000):=Aa;simp only[rnm,if_neg this,b3h,bd,hm,b1o]);rw[j5];obtain⟨_,L,_,G,h4,_,B2,h5,h6⟩:=K m _ hm;have W:=f5 m _ hm;refine⟨by simp[hv',W,lh Y hm],λB hB=> ?_⟩;rw[h4]at hB;cases hB;refine⟨B2,by rw[N,W,lh Y hm];simp[h5],?_⟩;rcases xv h6 with ⟨h7,_⟩|h7;{exact .inl h7};.exact .inr (.inl h7)
 have hA: ∀(u:PV) (v:Value),okA nb.length ext.length u->RV (env (cx (P:=P) w V hvc ext x.gc) (fg nb A) O w') v u->RV (env x s' hv' w') v (bhx (rnm d ren) u):=λu v J a0=>by have j3:noH u->bhx (rnm d ren) u=u->RV (env x s' hv' w') v (bhx (rnm d ren) u):=λh1 F=>(by rw[F];exact a0.noH a9 h1);cases u<;>(try (exact j3 J rfl));case os j k=>obtain⟨G,h1⟩:=b2 j J;obtain⟨R,B,sz,l,k1,kd,k2,k3⟩:=a0.os_inv;obtain⟨B2,h4,rfl|⟨cs,b5,rfl,rfl⟩|⟨e,z,ys,f8,rfl,rfl,hle⟩⟩:=h1 B k1;{exact .os ⟨R,B2,sz,l,h4,kd,k2,λhk=>D8⟩};{cases kd};.exact .os ⟨R,_,sz,l,h4,by rw[<-kd];simp only[Box.dim,hle],k2,λhk=>D8⟩
 have f7: ∀(u:PV) (v:Value),okC nb.length ext.length u->RV (env (cx (P:=P) w V hvc ext x.gc) (fg nb A) O w') v u->RV (env x s' hv' w') v (bej (rnm d ren) u):=λu v J a0=>by have p4:noH u->bej (rnm d ren) u=u->RV (env x s' hv' w') v (bej (rnm d ren) u):=λh1 F=>(by rw[F];exact a0.noH a9 h1);cases u<;>(try (exact p4 J rfl));(case ago cs=>obtain⟨vs,rfl,hl,hr⟩:=a0.ago_inv;refine .agg (by rw[b0x];exact hl) λi u c0=> ?_;rw[b0s]at c0;cases hc:cs[i]? with|none=>rw[hc]at c0;cases c0|some u0=>rw[hc]at c0;cases c0;exact hA u0 _ (J u0 (b0e hc)) (hr i u0 hc));(case os j k=>obtain⟨G,h1⟩:=b2 j J;obtain⟨R,B,sz,l,k1,kd,k2,k3⟩:=a0.os_inv;obtain⟨B2,h4,rfl|⟨cs,b5,rfl,rfl⟩|⟨e,z,ys,f8,rfl,rfl,hle⟩⟩:=h1 B k1;{exact .os ⟨R,B2,sz,l,h4,kd,k2,λhk=>D8⟩};{cases kd};.exact .os ⟨R,_,sz,l,h4,by rw[<-kd];simp only[Box.dim,hle],k2,λhk=>D8⟩);(case mh j=>obtain⟨G,h1⟩:=b2 j J;obtain⟨⟨hb,B,k1,kM⟩,k3⟩:=a0.mh_inv;obtain⟨B2,h4,rfl|⟨cs,b5,rfl,rfl⟩|⟨e,z,ys,f8,rfl,rfl,hle⟩⟩:=h1 B k1;{exact .mh ⟨⟨hb,B2,h4,kM⟩,by rw[G];exact k3⟩};{cases kM};.cases kM);case ptr j o=>obtain⟨G,h1⟩:=b2 j J;obtain⟨⟨cs,k1⟩,b,k2,k3⟩:=a0.ptr_inv;obtain⟨B2,h4,rfl|⟨d2,b5,_,rfl⟩|⟨e,z,ys,f8,m4,_⟩⟩:=h1 _ k1;{exact .ptr ⟨⟨cs,h4⟩,b,by rw[G];exact k2,k3⟩};{exact .ptr ⟨⟨b5,h4⟩,b,by rw[G];exact k2,k3⟩};.cases m4
 have hS:SimW x s' hv' w':=by refine Z.1.step hF.os hF.tape hF.output hF.size k8 (λn S=> ?_) (λb hb he=> ?_) λn B hB=> ?_;{rw[N];cases ai (nbD d 0 q) n with|some C=>simp|none=>cases F:qp ren n with|none=>simpa using S|some j=>obtain⟨_,_,_,_,_,_,B2,h6,_⟩:=K j n (kb F);simp[h6]};{refine hF.old b (b24 hb hW.size) λhE=> ?_;obtain⟨j,n,h1,F⟩:=(y _).1 hE;obtain⟨M,_,G,_⟩:=c j n h1;rcases hW.loc n M b G F with h|h;{omega};.exact he h};.rcases X n B hB with ⟨j,L,rfl,hst,f,b8,I⟩|⟨j,L,f,hst,hB2,b4,I,W⟩|⟨hnr,h1,I,W⟩;{right;have g5:j<1000000:=b5s (dm.1 f).1 (by rw[c6.1];exact b3);rw[I];have m3:=hF.box j L hst;refine⟨?_,λhh hx=> ?_,λb hb=>⟨f0 j L b hst hb,c7 j L _ b hst hb (.inl ⟨j,rfl,g5,rfl⟩)⟩⟩;{rcases b8 with ⟨q1,rfl⟩|⟨e,sz,xs,rfl,q1,rfl⟩;{exact m3.noH a9 q1};.obtain⟨h0,ys,k1,k2,k3,k4⟩:=m3;refine⟨h0,ys,by rw[b0x];exact k1,λr hr=> ?_,λr hr=> ?_,λi r j u hr J=> ?_⟩;{obtain⟨r0,m1,rfl⟩:=b0z.1 hr;rw[b0x];exact k2 r0 m1};{obtain⟨r0,m1,rfl⟩:=b0z.1 hr;refine b06.2 λu J=> ?_;obtain⟨u0,m2,rfl⟩:=b0z.1 J;rw[a8p];exact b06.1 (k3 r0 m1) u0 m2};.rw[b0s]at hr;cases hq:xs[i]? with|none=>rw[hq]at hr;cases hr|some r0=>rw[hq]at hr;cases hr;rw[b0s]at J;cases hc:r0[j]? with|none=>rw[hc]at J;cases J|some u0=>rw[hc]at J;cases J;exact hA u0 _ (q1 r0 (b0e hq) u0 (b0e hc)) (k4 i r0 j u0 hq hc)};have hf:=g0 (bn d j) B (by have:=p5 (d:=d) (j0:=0) f;rwa [b1w]at this);exact absurd hf (Z.1.extin _ (by rw[hx];simp)).1};{right;obtain⟨B1,q5,F,G,h4,c2,_⟩:=K j n f;rw[hst]at h4;cases h4;have a6:=an0 b4 c2;obtain⟨M,p3,k1,k2,k3,_,k7⟩:=c j n f;rw[F]at k3;cases k3;rw[I];refine⟨?_,λp hx=>Box.keep_trans (hW.ext n p M hx k1) ?_,λb hb=>⟨f0 _ L b hst hb,c7 _ L _ b hst hb (.inr ⟨j,rfl,f⟩)⟩⟩;{rcases b4 with ⟨q1,rfl⟩|⟨cs,rfl,q1,rfl⟩;{exact(hF.box _ _ hst).noH a9 q1};.obtain⟨b,t,arr,k1,k2,k3,k4⟩:=hF.box _ _ hst;refine⟨b,t,arr,k1,k2,by rw[k3,b0x],λi u J=> ?_⟩;rw[b0s]at J;cases hq:cs[i]? with|none=>rw[hq]at J;cases J|some u0=>rw[hq]at J;cases J;exact f7 u0 _ (q1 u0 (b0e hq)) (k4 i u0 hq)};rcases k7 with ⟨d2,cs',a,rfl,rfl,_⟩|⟨e',sz',xs',rfl,rfl⟩|⟨es,rfl,rfl,_⟩;{exact a6};{exact a6};.exact a6};.left;refine⟨h1,I,λb hb=>hF.old b (Z.1.blk_lt h1 hb) λhE=> ?_⟩;exact(c1 n B b hnr h1 hb).2 ((y _).1 hE)
 refine⟨v,hv',rfl,hS,Z.2.trans k8,?_⟩
 cases r<;>(try (exact f7 _ v (by exact hr) m0))
 case tup us=>obtain⟨vs,rfl,n3,a7⟩:=m0.tup_inv;refine .tup (by simp[n3]) λi u J=> ?_;rw[b0s]at J;cases hq:us[i]? with|none=>rw[hq]at J;cases J|some u0=>rw[hq]at J;cases J;exact f7 u0 _ (hr u0 (b0e hq)) (a7 i u0 hq)
end Go.Proofs.Am
