/- AmJ7. -/
import Derived.Test.YthidogjdclkoeaaGreatDoorAmJF
set_option linter.unusedSimpArgs false
set_option linter.unusedVariables false
namespace Go.Proofs.Am
open Go Go.RowKit
variable {P:Program}
def ue(sz:Nat):Nat->List (Nat×PV)->Option (List (List PV))
 |_,[]=>some []
 |k,(i,u)::r=>
  if i=k then
   match dl u with
   |some us=>if us.length=sz/\us.all eh=true then
     match ue sz (k+1) r with
     |some xs=>some (us::xs)
     |none=>none
    else none
   |none=>none
  else none
theorem aev{sz:Nat}: ∀{qs:List (Nat×PV)} {k:Nat} {xs:List (List PV)},ue sz k qs=some xs->xs.length=qs.length/\(∀r∈xs,r.length=sz)/\∀r∈xs,r.all eh=true
 |[],k,xs,h=>by cases h;simp
 |(i,u)::qs,k,xs,h=>by
  simp only[ue]at h;split at h
  ·cases hc:dl u with
   |none=>rw[hc]at h;cases h
   |some us=>
    rw[hc]at h;simp only at h;split at h
    ·rename_i hus
     cases hq:ue sz (k+1) qs with
     |none=>rw[hq]at h;cases h
     |some q=>
      rw[hq]at h
      cases h
      obtain⟨h1,h2,h3⟩:=aev hq;refine⟨by simp[h1],fun r hr=> ?_,fun r hr=> ?_⟩
      ·rcases List.mem_cons.1 hr with rfl|hr
       ·exact hus.1
       ·exact h2 r hr
      ·rcases List.mem_cons.1 hr with rfl|hr
       ·exact hus.2
       ·exact h3 r hr
    ·cases h
  ·cases h
theorem wn{x:Ctx P}{s:St}{hv:Nat->Value}{w:World}{sz:Nat}: ∀(qs:List (Nat×PV)) (k:Nat) (vs:List Value) {xs:List (List PV)},ue sz k qs=some xs->
  vs.length=qs.length->(∀(i:Nat) (v:Value) (q:Nat×PV),vs[i]? =some v->qs[i]? =some q->RV (env x s hv w) v q.2)->
  (∀v∈vs,v.cells.size=sz)/\(∀(i:Nat) (q:Nat×PV),qs[i]? =some q->q.1=k+i)/\
   ∀(i:Nat) (r:List PV) (v:Value) (j:Nat) (u:PV),xs[i]? =some r->vs[i]? =some v->r[j]? =some u->RV (env x s hv w) (v.cells.getD j undef) u
 |[],k,[],xs,hr,_,_=>by cases hr;simp
 |(i,u)::qs,k,v::vs,xs,hr,hl,hrv=>by
  simp only[ue]at hr;split at hr
  ·rename_i hik
   cases hc:dl u with
   |none=>rw[hc]at hr;cases hr
   |some us=>
    rw[hc]at hr;simp only at hr;split at hr
    ·rename_i hus
     cases hq:ue sz (k+1) qs with
     |none=>rw[hq]at hr;cases hr
     |some q=>
      rw[hq]at hr
      cases hr
      have hcs:=ec (hrv 0 v (i,u) rfl rfl) hc;obtain⟨h3,h4,h5⟩:=wn qs (k+1) vs hq (by simpa using hl) (fun j v q hv hq=>hrv (j+1) v q (by simpa using hv) (by simpa using hq));refine⟨?_,?_,?_⟩
      ·intro v' hv';rcases List.mem_cons.1 hv' with rfl|hv'
       ·rw[hcs.1,hus.1]
       ·exact h3 v' hv'
      ·intro j q hjq
       cases j with
       |zero=>simp at hjq;subst hjq;exact hik
       |succ j=>have:=h4 j q (by simpa using hjq);omega
      ·intro j r v' m u' hr hv' hu'
       cases j with
       |zero=>
        simp at hr hv';subst hr hv'
        exact hcs.2 m u' hu'
       |succ j=>exact h5 j r v' m u' (by simpa using hr) (by simpa using hv') hu'
    ·cases hr
  ·cases hr
 |[],_,_::_,_,_,hl,_=>by simp at hl
 |_::_,_,[],_,_,hl,_=>by simp at hl
theorem SimW.newArrH{x:Ctx P}{s:St}{hv:Nat->Value}{w:World}{d:Nat}{e sz n:Nat}{arr:Array Value}{xs:List (List PV)}(h:SimW x s hv w)(hn:s d=none)(hsz:0<sz)(hl:xs.length<=n)(hm:n<=maxLen)(ha:arr.size=n*sz)
  (hlen: ∀x∈xs,x.length=sz) (hone: ∀x∈xs,x.all eh=true) (hr: ∀i r j u,xs[i]? =some r->r[j]? =some u->RV (env x s hv w) (arr.getD (i*sz+j) undef) u):
  SimW x (upd s d (some (.arh e sz xs))) (upd hv d (.slice (some ⟨w.heap.size,0,none⟩) xs.length n)) (w.alloc (.cells arr e))/\
   Env.le (env x s hv w) (env x (upd s d (some (.arh e sz xs))) (upd hv d (.slice (some ⟨w.heap.size,0,none⟩) xs.length n)) (w.alloc (.cells arr e))):=
 h.new hn rfl rfl rfl (by simp) (fun b hb=>heap_alloc_old w _ hb) (fun b hb=>by simp[blk]at hb;omega) fun E hE=>by
  have hle:xs.length*sz<=n*sz:=Nat.mul_le_mul_right _ hl;refine⟨hsz,arr.toList.take (xs.length*sz),⟨by simp[ha,hle],.inr ⟨w.heap.size,n,arr,(0,0),rfl,.inl rfl,heap_alloc_new w _,hl,hm,ha,rfl⟩⟩,hlen,hone,fun i r j u hr' hu=> ?_⟩;have hi:i<xs.length:=(ca.1 hr').1
  have hj:j<sz:=by
   have:=(ca.1 hu).1;rw[hlen r (List.mem_of_getElem? hr')]at this;exact this
  have hlt:=gm hi hj;have:=hr i r j u hr' hu
  have hg:(arr.toList.take (xs.length*sz)).getD (i*sz+j) undef=arr.getD (i*sz+j) undef:=by
   rw[bq,List.getElem?_take,if_pos hlt];simp
  rw[hg];exact this.mono hE
theorem ahn{P:Program}{o:Oper}{ρ:Operand->PV}{σ:ASt}{d e sz:Nat}{xs:List (List PV)}(hd:ah σ d=none)(hsz:0<sz)(hlen: ∀x∈xs,x.length=sz)(hone: ∀x∈xs,x.all eh=true)
  (h: ∀(x:Ctx P) (s:St) (a:Act) (hv:Nat->Value) (w:World),SimW x s hv w->(∀y∈o.op.operands,RV (env x s hv w) (a.eval y) (ρ y))->
   ∃arr n,(execOp a.eval o).run P w= .ok (.value (.slice (some ⟨w.heap.size,0,none⟩) xs.length n)) (w.alloc (.cells arr e))/\xs.length<=n/\n<=maxLen/\arr.size=n*sz/\
    ∀i r j u,xs[i]? =some r->r[j]? =some u->RV (env x s hv w) (arr.getD (i*sz+j) undef) u):
  LOp P o ρ σ (.os d xs.length) [(d,.arh e sz xs)] [d]:=by
 refine⟨by simp,fun s hs x a hv w hW hops next Q hn=> ?_⟩;obtain⟨arr,n,h1,h2,h3,h4,h5⟩:=h x s a hv w hW hops;have hsd:s d=none:=(hs d (by simp)).trans hd;have hN:=hW.newArrH (e:=e) hsd hsz h2 h3 h4 hlen hone h5;unfold Oper.wp;rw[h1,Oper.upon_value];exact hn _ (upd hv d (.slice (some ⟨w.heap.size,0,none⟩) xs.length n)) _ hN.1 hN.2 (.os ⟨⟨_,_,rfl⟩,.arh e sz xs,sz,xs.length,by simp[app],rfl,Nat.le_refl _,fun _=>by simp⟩)
theorem wg{P:Program}{o:Oper}{ρ:Operand->PV}{σ:ASt}{t e sz len d:Nat}{parts:Array (Nat×Operand)}{xs:List (List PV)}(ho:o.op= .buildSlice t len parts)
  (he:br P t=some e) (hsz:du P e=some sz) (h0:0<sz) (hz:(bk P e).isSome=true) (hlen:len=parts.size) (hbig:len*sz<=16777216) (hr:ue sz 0 (parts.toList.map fun p=>(p.1,ρ p.2))=some xs) (hd:ah σ d=none):
  LOp P o ρ σ (.os d xs.length) [(d,.arh e sz xs)] [d]:=by
 obtain⟨hl1,hl2,hl3⟩:=aev hr;have hxl:xs.length=len:=by rw[hl1,hlen];simp
 refine ahn hd h0 hl2 hl3 fun x s a hv w hW hops=> ?_;obtain⟨zs,hz⟩:=Option.isSome_iff_exists.1 hz;obtain⟨it,z,h1,h2,h3⟩:=fg hz
 let ps:=parts.toList.map fun p=>(p.1,a.eval p.2)
 obtain⟨k3,k4,k5⟩:=wn (x:=x) (s:=s) (hv:=hv) (w:=w) _ 0 (ps.map (·.2)) hr (by simp[ps]) (fun i v q hv' hq=>by
  simp only[ps,List.map_map,List.getElem?_map]at hv' hq
  cases hp:parts.toList[i]? with
  |none=>rw[hp]at hq;cases hq
  |some p=>
   rw[hp]at hq hv'
   cases hq
   cases hv'
   refine hops p.2 ?_;simp only[ho,Op.operands,List.mem_toArray,List.mem_map];simp;exact⟨p.1,by simpa using Array.mem_of_getElem? (by simpa using hp)⟩)
 have hps:ps=((ps.map (·.2)).zipIdx 0).map fun p=>(p.2,p.1):=mi ps 0 fun i q hq=>by
  simp only[ps,List.getElem?_map]at hq
  cases hp:parts.toList[i]? with
  |none=>rw[hp]at hq;cases hq
  |some p=>
   rw[hp]at hq
   cases hq
   exact k4 i (p.1,ρ p.2) (by rw[List.getElem?_map,hp];rfl)
 let zc:Array Value:=if len*sz=0 then #[]else z.cells
 obtain⟨arr,f1,f2,f3,f4⟩:=um (sz:=sz) (ps.map (·.2)) 0 ((Array.range (len*sz)).map (zc[· % zc.size]!)) k3 (by simp[ps,hlen]);have hsl:xs.length=len:=hxl;refine⟨arr,len,?_,by omega,?_,by rw[f2];simp,fun i r j u hr' hu=> ?_⟩
 ·have hmap:(parts.map fun(i,x)=>(i,a.eval x)).toList=ps:=by simp[ps]
  have hzr:(zeroValue e).run P w= .ok z w:=by simp[zeroValue,typeInfo,h1,h2]
  simp only[execOp,ho];rw[Sem.run_bind]
  have hb:(Instr.buildSlice t len (parts.map fun(i,x)=>(i,a.eval x))).run P w= .ok (.slice (some ⟨w.heap.size,0,none⟩) len len) (w.alloc (.cells arr e)):=by
   unfold Instr.buildSlice;simp only[Sem.run_bind,run_underlying (az he),Result.andThen_ok,dq hsz];rw[if_neg (by simp only[Nat.reducePow];omega)];rw[hmap,hps];by_cases hzz:len*sz=0
   ·simp only[zc,hzz,if_true]at f1;simp only[hzz,if_true,Sem.run_bind,Sem.run_pure,Result.andThen_ok,f1];simp[newRow]
   ·simp only[zc,hzz,if_false]at f1;simp only[hzz,if_false,Sem.run_bind,hzr,Sem.run_pure,Result.andThen_ok,f1];simp[newRow]
  rw[hb,hsl];rfl
 ·simp only[maxLen];have:=Nat.le_mul_of_pos_right len h0;omega
 ·have hi:i<xs.length:=(ca.1 hr').1
  have hj:j<sz:=by
   have:=(ca.1 hu).1;rw[hl2 r (List.mem_of_getElem? hr')]at this;exact this
  have hvi:i<(ps.map (·.2)).length:=by simp[ps];omega
  have hv':(ps.map (·.2))[i]? =some ((ps.map (·.2))[i]'hvi):=bf hvi;have hg:=f4 i _ j hv' hj;rw[Nat.zero_add]at hg;have:=k5 i r _ j u hr' hv' hu;rw[Array.getD_eq_getD_getElem?]at this ⊢;rw[hg];exact this
theorem acd{P:Program}{o:Oper}{ρ:Operand->PV}{σ:ASt}{t tx e sz bytes e2:Nat}{y z:Operand}{n k m j:Nat}{xs ys:List (List PV)}(ho:o.op= .call {callee:= .builtin .append,args:= #[y,z],argTypes:= #[t,tx]})
  (hT:AppT P t tx e sz bytes) (hy:ρ y= .os n k) (hB:ah σ n=some (.arh e sz xs)) (hk:k=xs.length) (hbytes:(xs.length+ys.length)*bytes<=140737488355328)
  (hz:ρ z= .os m j) (hM:ah σ m=some (.arh e2 sz ys)) (hj:j=ys.length):
  LOp P o ρ σ (.os n (k+ys.length)) [(n,.arh e sz (xs++ys))] [n,m]:=by
 refine⟨by simp,fun s hs x a hv w hW hops next Q hnx=> ?_⟩;have hsn:s n=some (.arh e sz xs):=(hs n (by simp)).trans hB;have hsm:s m=some (.arh e2 sz ys):=(hs m (by simp)).trans hM;have hv1:=hops y (by simp[ho,Op.operands,Call.operands]);have hv2:=hops z (by simp[ho,Op.operands,Call.operands]);rw[hy]at hv1;rw[hz]at hv2;obtain⟨_,B',sz',l',h1,hd',h2,h3⟩:=hv1.os_inv;rw[hsn]at h1
 cases h1
 cases hd'
 have hvy:=h3 hk;obtain⟨_,B2,sz2,l2,q1,qd,q2,q3⟩:=hv2.os_inv;rw[hsm]at q1
 cases q1
 cases qd
 have hvz:=q3 hj;obtain⟨h0,vs,hown,hl1,ho1,hr1⟩:=hW.box n _ hsn;obtain⟨_,news,hown2,hl2,ho2,hnr⟩:=hW.box m _ hsm
 have h1y: ∀u∈news,u.oneCell'=true:=fun u hu=>by
  obtain⟨p,hp,hpu⟩:=List.mem_iff_getElem.1 hu;have hp':p<ys.length*sz:=by rw[<-hown2.1];exact hp
  have hi:p/sz<ys.length:=Nat.div_lt_of_lt_mul (by rw[Nat.mul_comm];exact hp');have hj:p % sz<(ys[p/sz]).length:=by rw[hl2 _ (List.getElem_mem hi)];exact Nat.mod_lt _ h0
  have h4:=hnr (p/sz) _ (p % sz) _ (bf hi) (bf hj);rw[Nat.mul_comm,Nat.div_add_mod,bq,bf hp,hpu]at h4;exact(gy h4 (List.all_eq_true.1 (ho2 _ (List.getElem_mem hi)) _ (List.getElem_mem hj))).1
 have hsrc:Src P w sz (a.eval z) ys.length news:=by
  rw[hvz];rcases hown2.2 with ⟨hq,hz⟩|⟨g,cap,cur,fz,hq,_⟩
  ·have hx:news=[]:=List.eq_nil_of_length_eq_zero (by rw[hown2.1,hz,Nat.zero_mul]);subst hx;rw[hq,hz];exact⟨fun _=>rfl,rfl,rfl,by simp,h1y⟩
  ·rw[hq];rw[hq]at hown2;have hc:=hown2.cells (g:=g) rfl;exact⟨fun _=>rfl,cj sz _ _ _ _ news hown2.1 hc,cj sz _ _ _ _ news hown2.1 hc,hown2.1,h1y⟩
 obtain⟨v',w',hrun,k1,k2,k3,k4,k5⟩:=hT.run (ty:=o.type) hown hsrc hbytes
 have hG:=hW.growH (zs:=ys) (v':=v') hsn k2 k3 (fun hz=>k4 (by simp[hz])) fun E hE=>by
  refine⟨h0,vs++news,by rw[List.length_append];exact k1,?_,?_,?_⟩
  ·intro r hr;rcases List.mem_append.1 hr with hr|hr
   ·exact hl1 r hr
   ·exact hl2 r hr
  ·intro r hr;rcases List.mem_append.1 hr with hr|hr
   ·exact ho1 r hr
   ·exact ho2 r hr
  ·exact s6 hown.1 (fun i r j u hr hu=>(hr1 i r j u hr hu).mono hE) hl1 (fun i r j u hr hu=>(hnr i r j u hr hu).mono hE)
 unfold Oper.wp
 have hex:(execOp a.eval o).run P w= .ok (.value v') w':=by
  simp[execOp,ho,resolve,invoke,builtin,hvy,hrun]
 rw[hex,Oper.upon_value]
 have hshape: ∃a c,v'= .slice a (k+ys.length) c:=by
  rcases k1.2 with ⟨hq,hz⟩|⟨g,cap,cur,fz,hq,_⟩
  ·exact⟨none,0,by rw[hq,show k+ys.length=0 by omega]⟩
  ·exact⟨_,cap,by rw[hq,hk]⟩
 refine hnx v' _ w' hG.1 hG.2 (.os ⟨hshape,.arh e sz (xs++ys),sz,_,by simp[app],rfl,?_,fun _=>by simp⟩);rw[List.length_append,hk];exact Nat.le_refl _
end Go.Proofs.Am
