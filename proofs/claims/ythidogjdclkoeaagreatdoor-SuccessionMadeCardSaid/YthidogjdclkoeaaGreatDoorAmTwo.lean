/- AmTwo. -/
import Derived.Test.YthidogjdclkoeaaGreatDoorAmOne
import Derived.MapKept
import Derived.Maps.RangeRun
import Derived.Carry
set_option linter.unusedSimpArgs false
set_option linter.unusedVariables false
namespace Go.Proofs.Am
open Go Go.RowKit
variable {P:Program}
theorem SimW.growH{x:Ctx P}{s:St}{hv:Nat->Value}{w w':World}{n:Nat}{e sz:Nat}{xs zs:List (List PV)}{v':Value}
  (h:SimW x s hv w) (hB:s n=some (.arh e sz xs))
  (hg:w.grownBy w' (hv n).ownBlock)
  (hv':blk v'=blk (hv n)\/∃b,blk v'=some b/\w.heap.size<=b) (hz:zs=[]->v'=hv n)
  (hB': ∀E,Env.le (env x s hv w) E->BoxRep P E w' v' (.arh e sz (xs++zs))):
  SimW x (upd s n (some (.arh e sz (xs++zs)))) (upd hv n v') w'/\Env.le (env x s hv w) (env x (upd s n (some (.arh e sz (xs++zs)))) (upd hv n v') w'):=by
 have hown: ∀v:Value,(∃ys,OwnM P w e sz v xs.length ys)->v.ownBlock=blk v:=by
  rintro v ⟨ys,hy⟩;rcases hy.2 with ⟨rfl,_⟩|⟨g,cap,cur,fz,rfl,_⟩<;>rfl
 obtain⟨h0,ys,hys,_⟩:=h.box n _ hB;have hob:(hv n).ownBlock=blk (hv n):=hown _ ⟨ys,hys⟩;have hold: ∀b,b<w.heap.size->blk (hv n)≠some b->w'.heap[b]? =w.heap[b]?:=fun b hb hne=>hg.block b hb (by rw[hob];exact fun e=>hne e.symm)
 have hE:Env.le (env x s hv w) (env x (upd s n (some (.arh e sz (xs++zs)))) (upd hv n v') w'):=by
  refine lu (fun a v ha=> ?_) fun m C hC=> ?_
  ·refine⟨?_,ha.2.1,fun m C hC hb=> ?_⟩
   ·by_cases hne:blk (hv n)=some a.block
    ·have hp:=ha.2.2 n _ hB hne;exact hp.elim
    ·exact(World.cell?_of_block (hold a.block ha.lt hne)).trans ha.1
   ·by_cases hm:m=n
    ·subst hm;rw[ap]at hC hb
     cases hC
     rcases hv' with h1|⟨b,h1,h2⟩
     ·have hp:=ha.2.2 m _ hB (h1 ▸ hb);exact hp.elim
     ·rw[h1]at hb;have hlt:=ha.lt;have:b=a.block:=by simpa using hb
      omega
    ·rw[al _ _ hm]at hC hb;exact ha.2.2 m C hC hb
  ·by_cases hm:m=n
   ·subst hm;rw[hB]at hC
    cases hC
    refine⟨_,ap _ _ _,_,rfl,by simp,fun hl=> ?_⟩;rw[ap];exact hz (List.eq_nil_of_length_eq_zero (by rw[List.length_append]at hl;omega))
   ·exact⟨C,by rw[al _ _ hm];exact hC,by rw[al _ _ hm];exact Box.keep_refl _ _⟩
 refine⟨h.step hg.os hg.tape hg.output hg.size hE (fun m hm=>by unfold upd;split<;>simp_all) (fun b hb he=>hold b (Nat.lt_of_lt_of_le hb h.size) fun e=> ?_) fun m C hC=> ?_,hE⟩
 ·rcases h.loc n _ b hB e with h1|h1
  ·omega
  ·exact he h1
 ·by_cases hm:m=n
  ·subst hm;rw[ap]at hC
   cases hC
   refine .inr ⟨by rw[ap];exact hB' _ hE,fun p hp=>Box.keep_trans (h.ext m p _ hp hB) ⟨_,rfl,by simp,fun hl=>by rw[ap];exact hz (List.eq_nil_of_length_eq_zero (by rw[List.length_append]at hl;omega))⟩,fun b hb=> ?_⟩;rw[ap]at hb;rcases hv' with h1|⟨b',h1,h2⟩
   ·rw[h1]at hb;refine⟨h.loc m _ b hB hb,fun k C hk hC hbk=> ?_⟩;rw[al _ _ hk]at hC hbk;exact hk (h.inj k m C _ b hC hB hbk hb)
   ·rw[h1]at hb;have:b'=b:=by simpa using hb
    subst this;refine⟨.inl (Nat.le_trans h.size h2),fun k C hk hC hbk=> ?_⟩;rw[al _ _ hk]at hC hbk;have:=h.blk_lt hC hbk;omega
  ·rw[al _ _ hm]at hC;refine .inl ⟨hC,al _ _ hm,fun b hb=>hold b (h.blk_lt hC hb) fun e=> ?_⟩;exact hm (h.inj m n C _ b hC hB hb e)
theorem afd{P:Program}{o:Oper}{ρ:Operand->PV}{σ:ASt}{t:TypeId}{y z:Operand}{n k i off m e sz:Nat}{xs:List (List PV)}{us:List PV}(ho:o.op= .store t y z)(hy:ρ y= .oel n k i off)
  (hB:ah σ n=some (.arh e sz xs)) (hk:k=xs.length) (hi:i<k) (hu:dl (ρ z)=some us) (hm:du P t=some m) (hlen:us.length=m) (hle:off+m<=sz) (hone:us.all eh=true):
  LOp P o ρ σ .undef [(n,.arh e sz (xs.set i ((xs.getD i []).take off++us++(xs.getD i []).drop (off+m))))] [n]:=by
 refine⟨by simp,fun s hs x a hv w hW hops next Q hn=> ?_⟩
 ·have hsn:s n=some (.arh e sz xs):=(hs n (by simp)).trans hB;have hv1:=hops y (by simp[ho,Op.operands]);have hv2:=hops z (by simp[ho,Op.operands]);rw[hy]at hv1;obtain⟨_,B',sz',l',h1,hd',h2,h3⟩:=hv1.oel_inv;rw[hsn]at h1
  cases h1
  cases hd'
  obtain⟨b,c,hb,hpv⟩:=h3 hk hi;have hcs:=ec hv2 hu;obtain⟨h0,ys,hy0,hlens,hones,hrr⟩:=hW.box n _ hsn;obtain⟨g,cap,cur,fz,hg1,hfz,hg2,hg3,hg4,hg5,hg6⟩:=im hy0 (by omega);rw[hb]at hg1
  cases hg1
  let vs:=(a.eval z).cells.toList
  have hvl:vs.length=m:=by simp[vs];rw[hcs.1,hlen]
  have hvs: ∀j u,us[j]? =some u->RV (env x s hv w) (vs.getD j undef) u:=fun j u hj=>by have:=hcs.2 j u hj;rw[Array.getD_eq_getD_getElem?]at this;simpa [vs,bq] using this
  have hone': ∀v∈vs,v.oneCell'=true:=fun v hvm=>by
   obtain⟨j,hj,hvj⟩:=List.mem_iff_getElem.1 hvm;have hj':j<us.length:=by omega
   have h1:=hvs j us[j] (bf hj');have h2:vs.getD j undef=v:=by rw[bq,bf hj,hvj];rfl
   rw[h2]at h1;exact(gy h1 (List.all_eq_true.1 hone _ (List.getElem_mem hj'))).1
  have hix:i<xs.length:=by omega
  have hrow:(xs.getD i []).length=sz:=hlens _ (List.mem_of_getElem? (by rw[bq,bf hix];rfl:xs[i]? =some (xs.getD i [])))
  have hlt:i*sz+(off+m)<=xs.length*sz:=by
   have:(i+1)*sz<=xs.length*sz:=Nat.mul_le_mul_right _ hix;rw[Nat.add_mul]at this;omega
  have hcap:xs.length*sz<=c*sz:=Nat.mul_le_mul_right _ hg3;have hst:=bx P b (i*sz+off) e fz vs 0 cur w hg2 (rh hfz) (by rw[hg5,hvl];omega) hone';simp only[Nat.add_zero]at hst
  let row':=(xs.getD i []).take off++us++(xs.getD i []).drop (off+m)
  have hrow':row'.length=sz:=by simp only[row',List.length_append,List.length_take,List.length_drop,hrow,hlen];omega
  let cur':=(cur.toList.take (i*sz+off)++vs++cur.toList.drop (i*sz+off+vs.length)).toArray
  have hcs':cur'.size=cur.size:=by simp[cur',hvl];omega
  have hW':=hW.write (w':=w.setRow b cur') (B':= .arh e sz (xs.set i row')) hsn (by simp[Box.keep,Box.dim]) (fun off h=>h) rfl rfl rfl (by simp) (fun k hk hne=>setRow_other w b k _ fun e=>hne (by rw[hb,e];rfl)) fun E hE=>by
   have hcget: ∀j,cur'[j]? =if j<i*sz+off then cur[j]? else if j<i*sz+off+m then vs[j - (i*sz+off)]? else cur[j]?:=fun j=>by
    simp only[cur',List.getElem?_toArray];rw[List.append_assoc,List.getElem?_append];have htl:(cur.toList.take (i*sz+off)).length=i*sz+off:=by simp[hg5];omega
    rw[htl];by_cases h2:j<i*sz+off
    ·rw[if_pos h2,if_pos h2,List.getElem?_take,if_pos h2];simp
    ·rw[if_neg h2,if_neg h2,List.getElem?_append,hvl];by_cases h3:j<i*sz+off+m
     ·rw[if_pos h3,if_pos (by omega)]
     ·rw[if_neg h3,if_neg (by omega),List.getElem?_drop,show i*sz+off+m+(j - (i*sz+off) - m)=j by omega];simp
   refine⟨h0,cur'.toList.take (xs.length*sz),?_,?_,?_,fun p r j u hr hu=> ?_⟩
   ·rw[List.length_set];exact⟨by simp[hcs',hg5,hcap],.inr ⟨b,c,cur',fz,hb,by rw[hcs'];exact hfz,setRow_heap w b cur cur' e _ hg2,hg3,hg4,by rw[hcs',hg5],rfl⟩⟩
   ·intro r hr;rcases List.mem_or_eq_of_mem_set hr with hr|hr
    ·exact hlens r hr
    ·rw[hr,hrow']
   ·intro r hr;rcases List.mem_or_eq_of_mem_set hr with hr|hr
    ·exact hones r hr
    ·have hro:=hones _ (List.mem_of_getElem? (by rw[bq,bf hix];rfl:xs[i]? =some (xs.getD i [])));rw[hr];simp only[row',List.all_append,hone,Bool.and_true,Bool.and_eq_true];exact⟨List.all_eq_true.2 fun u hu=>List.all_eq_true.1 hro u (List.mem_of_mem_take hu),List.all_eq_true.2 fun u hu=>List.all_eq_true.1 hro u (List.mem_of_mem_drop hu)⟩
   ·have hpl:p<xs.length:=by have:=(ca.1 hr).1;rwa [List.length_set]at this
    have hrl:r.length=sz:=by
     rcases List.mem_or_eq_of_mem_set (List.mem_of_getElem? hr)with hr|hr
     ·exact hlens r hr
     ·rw[hr,hrow']
    have hjl:j<sz:=by have:=(ca.1 hu).1;rwa [hrl]at this
    rw[List.getElem?_set]at hr;have hlt2:=gm hpl hjl
    have hgetD:(cur'.toList.take (xs.length*sz)).getD (p*sz+j) undef=(cur'[p*sz+j]?).getD undef:=by
     rw[bq,List.getElem?_take,if_pos hlt2];simp
    have hold: ∀q j' u',xs[q]? =some r\/True->∀r',xs[q]? =some r'->r'[j']? =some u'->RV E ((cur[q*sz+j']?).getD undef) u':=fun q j' u' _ r' hr' hu'=>by
     have hq:q<xs.length:=(ca.1 hr').1
     have hj':j'<sz:=by
      have:=(ca.1 hu').1;rw[hlens r' (List.mem_of_getElem? hr')]at this;exact this
     have h4:=hrr q r' j' u' hr' hu';rw[<-hg6,bq,List.getElem?_take,if_pos (gm hq hj')]at h4;simpa using h4.mono hE
    rw[hgetD,hcget];by_cases hpi:i=p
    ·subst hpi;rw[if_pos rfl,if_pos hix]at hr
     cases hr
     have hg:xs[i]? =some (xs.getD i []):=by rw[bq,bf hix];rfl
     simp only[row']at hu;rw[List.append_assoc,List.getElem?_append]at hu;have htl:((xs.getD i []).take off).length=off:=by rw[List.length_take,hrow];omega
     rw[htl]at hu;by_cases h2:j<off
     ·rw[if_pos h2,List.getElem?_take,if_pos h2]at hu;rw[if_pos (by omega)];exact hold i j u (.inr trivial) _ hg hu
     ·rw[if_neg h2,List.getElem?_append,hlen]at hu;rw[if_neg (by omega)];by_cases h3:j<off+m
      ·rw[if_pos (by omega)]at hu;rw[if_pos (by omega),show i*sz+j - (i*sz+off)=j - off by omega];have hj2:j - off<us.length:=by omega
       have h5:=hvs (j - off) u hu;rw[bq]at h5;exact h5.mono hE
      ·rw[if_neg (by omega),List.getElem?_drop,show off+m+(j - off - m)=j by omega]at hu;rw[if_neg (by omega)];exact hold i j u (.inr trivial) _ hg hu
    ·rw[if_neg hpi]at hr
     have hdis:p*sz+j<i*sz+off\/i*sz+off+m<=p*sz+j:=by
      rcases Nat.lt_or_gt_of_ne hpi with h|h
      ·right;have:(i+1)*sz<=p*sz:=Nat.mul_le_mul_right _ h;rw[Nat.add_mul]at this;omega
      ·left;have:(p+1)*sz<=i*sz:=Nat.mul_le_mul_right _ h;rw[Nat.add_mul]at this;omega
     rcases hdis with h|h
     ·rw[if_pos h];exact hold p j u (.inr trivial) r hr hu
     ·rw[if_neg (by omega),if_neg (by omega)];exact hold p j u (.inr trivial) r hr hu
  unfold Oper.wp
  have hrun:(execOp a.eval o).run P w= .ok .skip (w.setRow b cur'):=by
   simp only[execOp,ho,hpv,Instr.storeAt,Instr.sureAddr];rw[Sem.run_bind,Sem.run_bind,Sem.run_pure,Result.andThen_ok];unfold storeVar;rw[Sem.run_bind,dq hm];simp only[Result.andThen_ok];rw[if_neg (by rw[hcs.1,hlen];simp),hst];rfl
  rw[hrun,Oper.upon_skip];refine hn undef hv _ ?_ ?_ (.undef _)
  ·exact hW'.1
  ·exact hW'.2
theorem s6{E:Env}{sz:Nat}{xs zs:List (List PV)}{ys news:List Value}(hl:ys.length=xs.length*sz)(hxs: ∀i x j u,xs[i]? =some x->x[j]? =some u->RV E (ys.getD (i*sz+j) undef) u)
  (hlx: ∀x∈xs,x.length=sz) (hzs: ∀i x j u,zs[i]? =some x->x[j]? =some u->RV E (news.getD (i*sz+j) undef) u):
  ∀i x j u,(xs++zs)[i]? =some x->x[j]? =some u->RV E ((ys++news).getD (i*sz+j) undef) u:=by
 intro i x j u hx hu;rw[List.getElem?_append]at hx;by_cases h:i<xs.length
 ·rw[if_pos h]at hx
  have hj:j<sz:=by
   have:=(ca.1 hu).1;rw[hlx x (List.mem_of_getElem? hx)]at this;exact this
  rw[iq (by rw[hl];exact gm h hj)];exact hxs i x j u hx hu
 ·rw[if_neg h]at hx
  have hge:ys.length<=i*sz+j:=by
   rw[hl];have:xs.length*sz<=i*sz:=Nat.mul_le_mul_right _ (by omega);omega
  rw[bq,List.getElem?_append_right hge,<-bq,hl]
  have:i*sz+j - xs.length*sz=(i - xs.length)*sz+j:=by
   rw[Nat.sub_mul];have:xs.length*sz<=i*sz:=Nat.mul_le_mul_right _ (by omega);omega
  rw[this];exact hzs _ x j u hx hu
theorem yo{P:Program}{o:Oper}{ρ:Operand->PV}{σ:ASt}{t tx e sz bytes:Nat}{y z:Operand}{n k:Nat}{xs ys:List (List PV)}{F:List Nat}(ho:o.op= .call {callee:= .builtin .append,args:= #[y,z],argTypes:= #[t,tx]})
  (hT:AppT P t tx e sz bytes) (hy:ρ y= .os n k) (hB:ah σ n=some (.arh e sz xs)) (hk:k=xs.length) (hbytes:(xs.length+ys.length)*bytes<=140737488355328)
  (hz: ∀(s:St),(∀m∈F,s m=ah σ m)->∀(x:Ctx P) hv w v,SimW x s hv w->RV (env x s hv w) v (ρ z)->ua P (env x s hv w) w sz v ys):
  LOp P o ρ σ (.os n (k+ys.length)) [(n,.arh e sz (xs++ys))] (n::F):=by
 refine⟨by simp,fun s hs x a hv w hW hops next Q hnx=> ?_⟩;have hsn:s n=some (.arh e sz xs):=(hs n (by simp)).trans hB;have hv1:=hops y (by simp[ho,Op.operands,Call.operands]);have hv2:=hops z (by simp[ho,Op.operands,Call.operands]);rw[hy]at hv1;obtain⟨_,B',sz',l',h1,hd',h2,h3⟩:=hv1.os_inv;rw[hsn]at h1
 cases h1
 cases hd'
 have hvy:=h3 hk;obtain⟨hl2,ho2,news,hsrc,hnr⟩:=hz s (fun m hm=>hs m (by simp[hm])) x hv w _ hW hv2;obtain⟨h0,vs,hown,hl1,ho1,hr1⟩:=hW.box n _ hsn;obtain⟨v',w',hrun,k1,k2,k3,k4,k5⟩:=hT.run (ty:=o.type) hown hsrc hbytes
 have hG:=hW.growH (zs:=ys) (v':=v') hsn k2 k3 (fun hz=>k4 (by simp[hz])) fun E hE=>by
  refine⟨h0,vs++news,by rw[List.length_append];exact k1,?_,?_,?_⟩
  ·intro r hr;rcases List.mem_append.1 hr with hr|hr
   ·exact hl1 r hr
   ·exact hl2 r hr
  ·intro r hr;rcases List.mem_append.1 hr with hr|hr
   ·exact ho1 r hr
   ·exact ho2 r hr
  ·exact s6 hown.1 (fun i r j u hr hu=>(hr1 i r j u hr hu).mono hE) hl1 (fun i r j u hr hu=> .pure ((hnr i r j u hr hu).mono hE.pc))
 unfold Oper.wp
 have hex:(execOp a.eval o).run P w= .ok (.value v') w':=by
  simp[execOp,ho,resolve,invoke,builtin,hvy,hrun]
 rw[hex,Oper.upon_value]
 have hshape: ∃a c,v'= .slice a (k+ys.length) c:=by
  rcases k1.2 with ⟨hq,hz⟩|⟨g,cap,cur,fz,hq,_⟩
  ·exact⟨none,0,by rw[hq,show k+ys.length=0 by omega]⟩
  ·exact⟨_,cap,by rw[hq,hk]⟩
 refine hnx v' _ w' hG.1 hG.2 (.os ⟨hshape,.arh e sz (xs++ys),sz,_,by simp[app],rfl,?_,fun _=>by simp⟩);rw[List.length_append,hk];exact Nat.le_refl _
def a6n(P:Program)(t tx:TypeId)(dst:Option Nat)(σ:ASt)(u v:PV)(K:KT):Prop:=
 ∃e sz bytes,br P t=some e/\du P e=some sz/\bytesOf P e=some bytes/\(∃zs,bk P e=some zs/\zs.length=sz)/\0<sz/\0<bytes/\
  ∃ys F,(match v with
   | .vs ys'=>ay P tx=true/\ys=ys'/\F=[]/\∀y∈ys,y.length=sz
   | .nils=>ay P tx=true/\ys=[]/\F=[]
   | .sn _=>ay P tx=true/\ys=[]/\F=[]
   | .os m k=>ay P tx=true/\(match ah σ m with|some (.arr _ sz' _ ys')=>ys=ys'/\k=ys'.length/\sz'=sz|_=>False)/\F=[m]
   | .str l=>fx P tx=true/\ys=bo l/\F=[]/\sz=1
   |_=>False)/\
  match u with
  | .os n k=>(match ah σ n with|some (.arr e' sz' sh xs)=>e'=e/\sz'=sz/\k=xs.length/\(xs.length+ys.length)*bytes<=140737488355328/\K (.os n (k+ys.length)) [(n,.arr e sz sh (xs++ys))] (n::F)|some (.arh e' sz' xs)=>e'=e/\sz'=sz/\k=xs.length/\(xs.length+ys.length)*bytes<=140737488355328/\K (.os n (k+ys.length)) [(n,.arh e sz (xs++ys))] (n::F)|_=>False)
  | .nils=>(match dst with|some d=>ah σ d=none/\ys.length*bytes<=140737488355328/\K (.os d ys.length) [(d,.arr e sz false ys)] (d::F)|none=>False)
  | .vx xs=>(match dst with|some d=>ah σ d=none/\(∀x∈xs,x.length=sz)/\(xs.length+ys.length)*bytes<=140737488355328/\(ys=[]->K (.vs xs) [] F)/\(0<ys.length->K (.os d (xs.length+ys.length)) [(d,.arr e sz false (xs++ys))] (d::F))|none=>False)
  |_=>False
theorem xm{P:Program}{o:Oper}{ρ:Operand->PV}{σ:ASt}{t tx:TypeId}{y z:Operand}(ho:o.op= .call {callee:= .builtin .append,args:= #[y,z],argTypes:= #[t,tx]}){K:KT}(h:a6n P t tx o.dst σ (ρ y) (ρ z) K):
  ∃u δ F,LOp P o ρ σ u δ F/\K u δ F:=by
 obtain⟨e,sz,bytes,h1,h2,h3,h4,h5,h6,ys,F,hsrc,hdst⟩:=h
 have hsx:(ay P tx=true\/fx P tx=true)/\∀(s:St),(∀m∈F,s m=ah σ m)->∀(x:Ctx P) hv w v,SimW x s hv w->RV (env x s hv w) v (ρ z)->ua P (env x s hv w) w sz v ys:=by
  split at hsrc
  ·rename_i ys' hz;obtain⟨k1,rfl,rfl,k2⟩:=hsrc;exact⟨.inl k1,fun s hs x hv w v hW hv0=>qj (by rw[hz]at hv0;exact hv0.vs_inv) k2⟩
  ·rename_i hz;obtain⟨k1,rfl,rfl⟩:=hsrc;exact⟨.inl k1,fun s hs x hv w v hW hv0=>by rw[hz]at hv0;rw[hv0.nils_inv];exact y7⟩
  ·rename_i b hz;obtain⟨k1,rfl,rfl⟩:=hsrc
   exact⟨.inl k1,fun s hs x hv w v hW hv0=>qj (by
    rw[hz]at hv0
    cases hv0 with
    |pure hq=>cases hq with
     |sn b c _=>exact .vs (sz:=0) (fun _ _=>undef) rfl (Nat.zero_le _) (by simp) (by simp) (by simp) (by simp)) (by simp)⟩
  ·rename_i m k hz;obtain⟨k1,k2,rfl⟩:=hsrc;split at k2
   ·rename_i e' sz' sh' ys' hf;obtain⟨rfl,k3,rfl⟩:=k2;exact⟨.inl k1,fun s hs x hv w v hW hv0=>ai4 hW ((hs m (by simp)).trans hf) k3 (by rw[hz]at hv0;exact hv0)⟩
   ·exact k2.elim
  ·rename_i l hz;obtain⟨k1,rfl,rfl,rfl⟩:=hsrc;exact⟨.inr k1,fun s hs x hv w v hW hv0=>by rw[hz]at hv0;rw[hv0.str_inv];exact ac9⟩
  ·exact hsrc.elim
 have hT:AppT P t tx e sz bytes:=⟨h1,h2,h3,h4,h5,h6,hsx.1⟩;split at hdst
 ·rename_i n k hy;split at hdst
  ·rename_i e' sz' sh xs hf;obtain⟨rfl,rfl,k1,k2,k3⟩:=hdst;exact⟨_,_,_,acm ho hT hy hf k1 k2 hsx.2,k3⟩
  ·rename_i e' sz' xs hf;obtain⟨rfl,rfl,k1,k2,k3⟩:=hdst;exact⟨_,_,_,yo ho hT hy hf k1 k2 hsx.2,k3⟩
  ·exact hdst.elim
 ·rename_i hy;split at hdst
  ·exact⟨_,_,_,vv ho hT hy hdst.1 hdst.2.1 hsx.2,hdst.2.2⟩
  ·exact hdst.elim
 ·rename_i xs hy;split at hdst
  ·obtain⟨k1,k2,k3,k4,k5⟩:=hdst;rcases Nat.eq_zero_or_pos ys.length with h0|h0
   ·obtain rfl:=List.eq_nil_of_length_eq_zero h0;exact⟨_,_,_,yg ho hT hy hsx.2,k4 rfl⟩
   ·exact⟨_,_,_,ab5 ho hT hy k1 k2 h0 k3 hsx.2,k5 h0⟩
  ·exact hdst.elim
 ·exact hdst.elim
def ao1(σ:ASt):PV->Option (PV×List Nat)
 | .nils=>some (.nils,[])
 |u=>pur σ u
theorem rt{σ:ASt}{u u':PV}{a:List Nat}(h:ao1 σ u=some (u',a)):(u= .nils/\u'= .nils/\a=[])\/pur σ u=some (u',a):=by
 unfold ao1 at h;split at h
 ·cases h;exact .inl ⟨rfl,rfl,rfl⟩
 ·exact .inr h
theorem am1{x:Ctx P}{s:St}{hv:Nat->Value}{w:World}{σ:ASt}{u u':PV}{a ns:List Nat}{v:Value}(h:SimW x s hv w)(hs: ∀n∈a,s n=ah σ n)(hu:ao1 σ u=some (u',a))(ha: ∀n∈a,n∈ns)
  (hv0:RV (env x s hv w) v u):RP (env x (ar s ns) hv w).pc v u':=by
 rcases rt hu with ⟨rfl,rfl,rfl⟩|h1
 ·rw[hv0.nils_inv];exact .nils
 ·exact ee h hs h1 ha hv0
theorem aml{σ:ASt}{u u':PV}{a:List Nat}(h:ao1 σ u=some (u',a)): ∀n∈a,∃B,ah σ n=some B:=by
 rcases rt h with ⟨rfl,rfl,rfl⟩|h1
 ·simp
 ·exact mw h1
theorem ayq{σ:ASt}{u v:PV}{a:List Nat}(h:ao1 σ u=some (v,a)):eh v=true:=by
 rcases rt h with ⟨rfl,rfl,rfl⟩|h1
 ·rfl
 ·exact atz h1
def k8(σ:ASt):List PV->Option (List PV×List Nat)
 |[]=>some ([],[])
 |u::us=>match ao1 σ u,k8 σ us with
  |some (v,a),some (vs,b)=>some (v::vs,a++b)
  |_,_=>none
theorem xf{x:Ctx P}{s:St}{hv:Nat->Value}{w:World}{σ:ASt}{ns:List Nat}(h:SimW x s hv w): ∀{us us':List PV} {a:List Nat},(∀n∈a,s n=ah σ n)->k8 σ us=some (us',a)->(∀n∈a,n∈ns)->
  us'.length=us.length/\∀(i:Nat) (u u':PV),us[i]? =some u->us'[i]? =some u'->∀v,RV (env x s hv w) v u->RP (env x (ar s ns) hv w).pc v u'
 |[],us',a,_,hu,_=>by cases hu;simp
 |u::us,us',a,hs,hu,ha=>by
  simp only[k8]at hu
  cases h1:ao1 σ u with
  |none=>rw[h1]at hu;cases hu
  |some p=>
   cases h2:k8 σ us with
   |none=>rw[h1,h2]at hu;cases hu
   |some q=>
    obtain⟨p1,p2⟩:=p;obtain⟨q1,q2⟩:=q;rw[h1,h2]at hu;simp only[Option.some.injEq,Prod.mk.injEq]at hu;obtain⟨rfl,rfl⟩:=hu;obtain⟨ih1,ih2⟩:=xf h (us:=us) (us':=q1) (a:=q2) (fun n hn=>hs n (by simp[hn])) h2 (fun n hn=>ha n (by simp[hn]));refine⟨by simp[ih1],fun i r r' hr hr' v hv=> ?_⟩
    cases i with
    |zero=>
     simp at hr hr';subst hr hr'
     exact am1 h (fun n hn=>hs n (by simp[hn])) h1 (fun n hn=>ha n (by simp[hn])) hv
    |succ i=>exact ih2 i r r' (by simpa using hr) (by simpa using hr') v hv
theorem xn{σ:ASt}: ∀{us us':List PV} {a:List Nat},k8 σ us=some (us',a)->∀n∈a,∃B,ah σ n=some B
 |[],us',a,h=>by cases h;simp
 |u::us,us',a,h=>by
  simp only[k8]at h
  cases h1:ao1 σ u with
  |none=>rw[h1]at h;cases h
  |some p=>
   cases h2:k8 σ us with
   |none=>rw[h1,h2]at h;cases h
   |some q=>
    rw[h1,h2]at h;simp only[Option.some.injEq,Prod.mk.injEq]at h;obtain⟨_,rfl⟩:=h;intro n hn;rcases List.mem_append.1 hn with hn|hn
    ·exact aml h1 n hn
    ·exact xn h2 n hn
def oe(σ:ASt)(sz:Nat):Nat->List (Nat×PV)->Option (List (List PV)×List Nat)
 |_,[]=>some ([],[])
 |k,(i,u)::r=>
  if i=k then
   match dl u with
   |some us=>if us.length=sz/\us.all eh=true then
     match k8 σ us,oe σ sz (k+1) r with
     |some (vs,a),some (xs,b)=>some (vs::xs,a++b)
     |_,_=>none
    else none
   |none=>none
  else none
theorem wz{x:Ctx P}{s:St}{hv:Nat->Value}{w:World}{σ:ASt}{sz:Nat}{ns:List Nat}(h:SimW x s hv w): ∀(qs:List (Nat×PV)) (k:Nat) (vs:List Value) {xs:List (List PV)} {b:List Nat},oe σ sz k qs=some (xs,b)->(∀n∈b,s n=ah σ n)->(∀n∈b,n∈ns)->
  vs.length=qs.length->(∀(i:Nat) (v:Value) (q:Nat×PV),vs[i]? =some v->qs[i]? =some q->RV (env x s hv w) v q.2)->
  xs.length=qs.length/\(∀r∈xs,r.length=sz)/\(∀v∈vs,v.cells.size=sz)/\(∀(i:Nat) (q:Nat×PV),qs[i]? =some q->q.1=k+i)/\
   ∀(i:Nat) (r:List PV) (v:Value) (j:Nat) (u:PV),xs[i]? =some r->vs[i]? =some v->r[j]? =some u->RP (env x (ar s ns) hv w).pc (v.cells.getD j undef) u
 |[],k,[],xs,b,hr,_,_,_,_=>by cases hr;simp
 |(i,u)::qs,k,v::vs,xs,b,hr,hs,hb,hl,hrv=>by
  simp only[oe]at hr;split at hr
  ·rename_i hik
   cases hc:dl u with
   |none=>rw[hc]at hr;cases hr
   |some us=>
    rw[hc]at hr;simp only at hr;split at hr
    ·rename_i hus
     cases hp:k8 σ us with
     |none=>rw[hp]at hr;cases hr
     |some p=>
      cases hq:oe σ sz (k+1) qs with
      |none=>rw[hp,hq]at hr;cases hr
      |some q=>
       obtain⟨p1,p2⟩:=p;obtain⟨q1,q2⟩:=q;rw[hp,hq]at hr;simp only[Option.some.injEq,Prod.mk.injEq]at hr;obtain⟨rfl,rfl⟩:=hr;have hcs:=ec (hrv 0 v (i,u) rfl rfl) hc;obtain⟨hp1,hp2⟩:=xf (ns:=ns) h (fun n hn=>hs n (by simp[hn])) hp (fun n hn=>hb n (by simp[hn]));obtain⟨h1,h2,h3,h4,h5⟩:=wz h qs (k+1) vs hq (fun n hn=>hs n (by simp[hn])) (fun n hn=>hb n (by simp[hn])) (by simpa using hl) (fun j v q hv hq=>hrv (j+1) v q (by simpa using hv) (by simpa using hq));refine⟨by simp[h1],?_,?_,?_,?_⟩
       ·intro r hr;rcases List.mem_cons.1 hr with rfl|hr
        ·rw[hp1,hus.1]
        ·exact h2 r hr
       ·intro v' hv';rcases List.mem_cons.1 hv' with rfl|hv'
        ·rw[hcs.1,hus.1]
        ·exact h3 v' hv'
       ·intro j q hjq
        cases j with
        |zero=>simp at hjq;subst hjq;exact hik
        |succ j=>have:=h4 j q (by simpa using hjq);omega
       ·intro j r v' m u' hr hv' hu'
        cases j with
        |zero=>
         simp at hr hv';subst hr hv';have hm:m<us.length:=by rw[<-hp1];exact(ca.1 hu').1
         exact hp2 m us[m] u' (bf hm) hu' _ (hcs.2 m us[m] (bf hm))
        |succ j=>exact h5 j r v' m u' (by simpa using hr) (by simpa using hv') hu'
    ·cases hr
  ·cases hr
 |[],_,_::_,_,_,_,_,_,hl,_=>by simp at hl
 |_::_,_,[],_,_,_,_,_,hl,_=>by simp at hl
theorem xd{σ:ASt}{sz:Nat}: ∀{qs:List (Nat×PV)} {k:Nat} {xs:List (List PV)} {b:List Nat},oe σ sz k qs=some (xs,b)->∀n∈b,∃B,ah σ n=some B
 |[],k,xs,b,h=>by cases h;simp
 |(i,u)::qs,k,xs,b,h=>by
  simp only[oe]at h;split at h
  ·cases hc:dl u with
   |none=>rw[hc]at h;cases h
   |some us=>
    rw[hc]at h;simp only at h;split at h
    ·cases hp:k8 σ us with
     |none=>rw[hp]at h;cases h
     |some p=>
      cases hq:oe σ sz (k+1) qs with
      |none=>rw[hp,hq]at h;cases h
      |some q=>
       rw[hp,hq]at h;simp only[Option.some.injEq,Prod.mk.injEq]at h;obtain⟨_,rfl⟩:=h;intro n hn;rcases List.mem_append.1 hn with hn|hn
       ·exact xn hp n hn
       ·exact xd hq n hn
    ·cases h
  ·cases h
theorem aft{σ:ASt}: ∀{us vs:List PV} {a:List Nat},k8 σ us=some (vs,a)->vs.length=us.length
 |[],vs,a,h=>by cases h;rfl
 |u::us,vs,a,h=>by
  simp only[k8]at h
  cases h1:ao1 σ u with
  |none=>rw[h1]at h;cases h
  |some p=>
   cases h2:k8 σ us with
   |none=>rw[h1,h2]at h;cases h
   |some q=>
    rw[h1,h2]at h;simp only[Option.some.injEq,Prod.mk.injEq]at h;obtain⟨rfl,_⟩:=h;simp[aft h2]
theorem aei{σ:ASt}: ∀{us vs:List PV} {a:List Nat},k8 σ us=some (vs,a)->vs.all eh=true
 |[],vs,a,h=>by cases h;rfl
 |u::us,vs,a,h=>by
  simp only[k8]at h
  cases h1:ao1 σ u with
  |none=>rw[h1]at h;cases h
  |some p=>
   cases h2:k8 σ us with
   |none=>rw[h1,h2]at h;cases h
   |some q=>
    rw[h1,h2]at h;simp only[Option.some.injEq,Prod.mk.injEq]at h;obtain⟨rfl,_⟩:=h;have hp:ao1 σ u=some (p.1,p.2):=h1;have hq:k8 σ us=some (q.1,q.2):=h2;rw[List.all_cons,ayq hp,aei hq];rfl
theorem aeu{σ:ASt}{sz:Nat}: ∀{qs:List (Nat×PV)} {k:Nat} {xs:List (List PV)} {b:List Nat},oe σ sz k qs=some (xs,b)->xs.length=qs.length/\(∀r∈xs,r.length=sz)/\∀r∈xs,r.all eh=true
 |[],k,xs,b,h=>by cases h;simp
 |(i,u)::qs,k,xs,b,h=>by
  simp only[oe]at h;split at h
  ·cases hc:dl u with
   |none=>rw[hc]at h;cases h
   |some us=>
    rw[hc]at h;simp only at h;split at h
    ·rename_i hus
     cases hp:k8 σ us with
     |none=>rw[hp]at h;cases h
     |some p=>
      cases hq:oe σ sz (k+1) qs with
      |none=>rw[hp,hq]at h;cases h
      |some q=>
       rw[hp,hq]at h;simp only[Option.some.injEq,Prod.mk.injEq]at h;obtain⟨rfl,_⟩:=h;obtain⟨k1,k2,k3⟩:=aeu hq;refine⟨by simp[k1],fun r hr=> ?_,fun r hr=> ?_⟩
       ·rcases List.mem_cons.1 hr with rfl|hr
        ·rw[aft hp,hus.1]
        ·exact k2 r hr
       ·rcases List.mem_cons.1 hr with rfl|hr
        ·exact aei hp
        ·exact k3 r hr
    ·cases h
  ·cases h
theorem wh{P:Program}{o:Oper}{ρ:Operand->PV}{σ:ASt}{t e sz len d:Nat}{parts:Array (Nat×Operand)}{xs:List (List PV)}{ns:List Nat}(ho:o.op= .buildSlice t len parts)
  (he:br P t=some e) (hsz:du P e=some sz) (h0:0<sz) (hz:(bk P e).isSome=true) (hlen:len=parts.size) (hbig:len*sz<=16777216) (hr:oe σ sz 0 (parts.toList.map fun p=>(p.1,ρ p.2))=some (xs,ns)) (hd:ah σ d=none):
  LOp P o ρ σ (.os d xs.length) (dj σ ns++[(d,.arr e sz false xs)]) (d::ns):=by
 obtain⟨hl1,hl2,hl3⟩:=aeu hr;have hxl:xs.length=len:=by rw[hl1,hlen];simp
 refine r8 hd h0 hl2 hl3 (xd hr) fun x s a hv w hs hW hops=> ?_;obtain⟨zs,hz⟩:=Option.isSome_iff_exists.1 hz;obtain⟨it,z,h1,h2,h3⟩:=fg hz
 let ps:=parts.toList.map fun p=>(p.1,a.eval p.2)
 obtain⟨k1,k2,k3,k4,k5⟩:=wz (ns:=ns) hW _ 0 (ps.map (·.2)) hr hs (fun n hn=>hn) (by simp[ps]) (fun i v q hv' hq=>by
  simp only[ps,List.map_map,List.getElem?_map]at hv' hq
  cases hp:parts.toList[i]? with
  |none=>rw[hp]at hq;cases hq
  |some p=>
   rw[hp]at hq hv'
   cases hq
   cases hv'
   refine hops p.2 ?_;simp only[ho,Op.operands,List.mem_toArray,List.mem_map];simp;exact⟨p.1,by simpa using Array.mem_of_getElem? (by simpa using hp)⟩)
 have hps:ps=((ps.map (·.2)).zipIdx 0).map fun p=>(p.2,p.1):=mi ps 0 fun i q hq=>by
  simp only[ps,List.getElem?_map]at hq
  cases hp:parts.toList[i]? with
  |none=>rw[hp]at hq;cases hq
  |some p=>
   rw[hp]at hq
   cases hq
   exact k4 i (p.1,ρ p.2) (by rw[List.getElem?_map,hp];rfl)
 let zc:Array Value:=if len*sz=0 then #[]else z.cells
 obtain⟨arr,f1,f2,f3,f4⟩:=um (sz:=sz) (ps.map (·.2)) 0 ((Array.range (len*sz)).map (zc[· % zc.size]!)) k3 (by simp[ps,hlen]);have hsl:xs.length=len:=hxl;refine⟨arr,len,?_,by omega,?_,by rw[f2];simp,fun i r j u hr' hu=> ?_⟩
 ·have hmap:(parts.map fun(i,x)=>(i,a.eval x)).toList=ps:=by simp[ps]
  have hzr:(zeroValue e).run P w= .ok z w:=by simp[zeroValue,typeInfo,h1,h2]
  simp only[execOp,ho];rw[Sem.run_bind]
  have hb:(Instr.buildSlice t len (parts.map fun(i,x)=>(i,a.eval x))).run P w= .ok (.slice (some ⟨w.heap.size,0,none⟩) len len) (w.alloc (.cells arr e)):=by
   unfold Instr.buildSlice;simp only[Sem.run_bind,run_underlying (az he),Result.andThen_ok,dq hsz];rw[if_neg (by simp only[Nat.reducePow];omega)];rw[hmap,hps];by_cases hzz:len*sz=0
   ·simp only[zc,hzz,if_true]at f1;simp only[hzz,if_true,Sem.run_bind,Sem.run_pure,Result.andThen_ok,f1];simp[newRow]
   ·simp only[zc,hzz,if_false]at f1;simp only[hzz,if_false,Sem.run_bind,hzr,Sem.run_pure,Result.andThen_ok,f1];simp[newRow]
  rw[hb,hsl];rfl
 ·simp only[maxLen];have:=Nat.le_mul_of_pos_right len h0;omega
 ·have hi:i<xs.length:=(ca.1 hr').1
  have hj:j<sz:=by
   have:=(ca.1 hu).1;rw[hl2 r (List.mem_of_getElem? hr')]at this;exact this
  have hvi:i<(ps.map (·.2)).length:=by simp[ps];omega
  have hv':(ps.map (·.2))[i]? =some ((ps.map (·.2))[i]'hvi):=bf hvi;have hg:=f4 i _ j hv' hj;rw[Nat.zero_add]at hg;have:=k5 i r _ j u hr' hv' hu;rw[Array.getD_eq_getD_getElem?]at this ⊢;rw[hg];exact this
end Go.Proofs.Am

/- Operations on abstract values: maps. -/
namespace Go.Proofs.Am
open Go Go.RowKit
open Go.ChangeMaps (setBlock)
open Go.MapKept
variable {P:Program}
def mc:TypeDesc->PV->Bool
 | .int k,.int k' _=>decide (k'=k)
 | .string,.str _=>true
 |_,_=>false
def aai:PV->PV->Option Bool
 | .int k a,.int k' b=>if k=k' then some (decide (a=b))else none
 | .str a,.str b=>some (decide (a=b))
 |_,_=>none
def lc(key:PV):List (PV×PV)->Nat->Option (Option Nat)
 |[],_=>some none
 |(k,_)::r,i=>match aai key k with
  |some true=>some (some i)
  |some false=>lc key r (i+1)
  |none=>none
theorem acn{key:PV}: ∀{es:List (PV×PV)} {i j:Nat},lc key es i=some (some j)->i<=j/\∃p,es[j - i]? =some p/\aai key p.1=some true
 |[],i,j,h=>by simp[lc]at h
 |(k,v)::r,i,j,h=>by
  simp only[lc]at h
  cases hk:aai key k with
  |none=>rw[hk]at h;cases h
  |some b=>
   rw[hk]at h
   cases b with
   |true=>cases h;exact⟨Nat.le_refl _,(k,v),by simp,hk⟩
   |false=>
    obtain⟨h1,p,h2,h3⟩:=acn (es:=r) h;refine⟨by omega,p,?_,h3⟩;rw[show j - i=(j - (i+1))+1 by omega];simpa using h2
theorem ali{pc:Addr->Value->Prop}{d:TypeDesc}{q k:Value}{kq kp:PV}{b:Bool}(hd:mc d kq=true)(hq:RP pc q kq)(hk:RP pc k kp)(h:aai kq kp=some b):Instr.sameNow d q k=some b:=by
 cases kq<;>cases kp<;>simp only[aai]at h<;>(try (cases h;done))
 ·rename_i k1 a k2 c
  cases hq
  cases hk
  cases d<;>simp[mc]at hd
  split at h
  ·rename_i hkk
   cases h
   simp only[Instr.sameNow,if_pos hkk,n5]
  ·cases h
 ·rename_i l1 l2
  cases hq
  cases hk
  cases d<;>simp[mc]at hd
  cases h
  simp only[Instr.sameNow,Option.some.injEq];rw[Bool.eq_iff_iff,bytes_beq,decide_eq_true_eq];exact⟨fun e=>by simpa using congrArg (fun b=>b.data.toList) e,fun e=>by rw[e]⟩
theorem axv{pc:Addr->Value->Prop}{q k:Value}{kq kp:PV}(hq:RP pc q kq)(hk:RP pc k kp)(h:aai kq kp=some true):Instr.sameBits 10000 k q=true/\k=q:=by
 cases kq<;>cases kp<;>simp only[aai]at h<;>(try (cases h;done))
 ·split at h
  ·rename_i hkk;simp only[Option.some.injEq,decide_eq_true_eq]at h
   cases hq
   cases hk
   subst hkk h;exact⟨by simp[Instr.sameBits],rfl⟩
  ·cases h
 ·simp only[Option.some.injEq,decide_eq_true_eq]at h;subst h
  cases hq
  cases hk
  exact⟨(bytes_beq _ _).2 rfl,rfl⟩
theorem sc{pc:Addr->Value->Prop}{d:TypeDesc}{q:Value}{kq:PV}(hd:mc d kq=true)(hq:RP pc q kq): ∀(es:List (PV×PV)) (l:List MapEntry) (i:Nat) (r:Option Nat),l.length=es.length->
  (∀(j:Nat) (p:PV×PV),es[j]? =some p->∃en,l[j]? =some en/\RP pc en.key p.1)->lc kq es i=some r->
  (r=none/\Instr.findNow d q l i=some none)\/∃(j:Nat) (en:MapEntry),r=some j/\l[j - i]? =some en/\Instr.findNow d q l i=some (some (j,en.val))
 |[],[],i,r,_,_,h=>by cases h;exact .inl ⟨rfl,rfl⟩
 |[],_::_,_,_,hl,_,_=>by simp at hl
 |_::_,[],_,_,hl,_,_=>by simp at hl
 |(k,v)::es,en::l,i,r,hl,hr,h=>by
  obtain⟨en',h1,h2⟩:=hr 0 (k,v) rfl;simp at h1;subst h1;simp only[lc]at h
  cases hk:aai kq k with
  |none=>rw[hk]at h;cases h
  |some b=>
   rw[hk]at h;have hs:=ali hd hq h2 hk
   cases b with
   |true=>
    cases h
    exact .inr ⟨i,en,rfl,by simp,by simp[Instr.findNow,hs]⟩
   |false=>
    rcases sc hd hq es l (i+1) r (by simpa using hl) (fun j p hp=>by simpa using hr (j+1) p (by simpa using hp)) h with ⟨h3,h4⟩|⟨j,e,h3,h4,h5⟩
    ·exact .inl ⟨h3,by simp[Instr.findNow,hs,h4]⟩
    ·have hge:i+1<=j:=by
      have h':lc kq es (i+1)=some r:=h;rw[h3]at h';exact(acn h').1
     refine .inr ⟨j,e,h3,?_,by simp[Instr.findNow,hs,h5]⟩;rw[show j - i=(j - (i+1))+1 by omega];simpa using h4
theorem ajj{pc:Addr->Value->Prop}{d:TypeDesc}{q:Value}{kq:PV}(hd:mc d kq=true)(hq:RP pc q kq):IsKey d q:=by
 cases kq<;>cases d<;>simp[mc]at hd<;>cases hq
 ·exact hd
 ·trivial
def age(P:Program)(t:TypeId):Option (TypeId×TypeDesc×TypeId):=match P.underlying t with
 |some (.map k e)=>(P.underlying k).map fun d=>(k,d,e)
 |_=>none
theorem abb{t k e:TypeId}{d:TypeDesc}(h:age P t=some (k,d,e)):P.underlying t=some (.map k e)/\P.underlying k=some d:=by
 unfold age at h;split at h
 ·rename_i k' e' hu
  cases hd:P.underlying k' with
  |none=>rw[hd]at h;cases h
  |some d'=>
   rw[hd]at h;simp only[Option.map_some,Option.some.injEq,Prod.mk.injEq]at h;obtain⟨rfl,rfl,rfl⟩:=h;exact⟨hu,hd⟩
 ·cases h
def a9o:Value->PV
 | .agg vs=> .agg (vs.toList.map abk)
 |z=>abk z
def aly(P:Program)(e:TypeId):Option PV:=((P.info? e).bind (·.zero)).map a9o
theorem a1t(E:Env)(z:Value):RV E z (a9o z):=by
 cases z<;>(try (exact vf E _))
 rename_i vs;refine .agg (by simp) fun i u hu=> ?_;rw[List.getElem?_map]at hu
 cases hq:vs.toList[i]? with
 |none=>rw[hq]at hu;cases hu
 |some v=>
  rw[hq]at hu
  cases hu
  have:vs.getD i Go.undef=v:=by
   rw[Array.getD_eq_getD_getElem?];have:vs[i]? =some v:=by simpa using hq
   rw[this];rfl
  rw[this];exact vf E v
theorem aul{e:TypeId}{z:PV}(h:aly P e=some z)(w:World): ∃v,(zeroValue e).run P w= .ok v w/\∀E,RV E v z:=by
 unfold aly at h
 cases hi:P.info? e with
 |none=>rw[hi]at h;cases h
 |some it=>
  rw[hi]at h
  cases hz:it.zero with
  |none=>simp[hz]at h
  |some v=>
   simp[hz]at h;subst h;exact⟨v,by simp[zeroValue,typeInfo,hi,hz],fun E=>a1t E v⟩
theorem ajq{x:Ctx P}{s:St}{hv:Nat->Value}{w:World}(hW:SimW x s hv w){v:Value}{n:Nat}(h:RV (env x s hv w) v (.mh n)){es:List (PV×PV)}(hs:s n=some (.mp es)):
  v=hv n/\MapRep (env x s hv w) w (hv n) es:=⟨h.mh_inv.2,hW.box n _ hs⟩
theorem agw{o:Oper}{ρ:Operand->PV}{σ:ASt}{t d:Nat}(ho:o.op= .makeMap t none)(hd:ah σ d=none):LOp P o ρ σ (.mh d) [(d,.mp [])] [d]:=by
 refine⟨by simp,fun s hs x a hv w hW hops next Q hn=> ?_⟩;have hsd:s d=none:=(hs d (by simp)).trans hd
 have hN:=hW.new (hd:= .map (some w.heap.size)) (B:= .mp []) (w':=w.alloc (.map #[] 0)) hsd rfl rfl rfl (by simp) (fun b hb=>(MapKept.heap_alloc w _).2 b hb) (fun b hb=>by simp[blk]at hb;omega)
  fun E hE=>⟨w.heap.size, #[],rfl,(MapKept.heap_alloc w _).1,rfl,fun i p hp=>by simp at hp⟩
 unfold Oper.wp
 have hex:(execOp a.eval o).run P w= .ok (.value (.map (some w.heap.size))) (w.alloc (.map #[] 0)):=by
  simp[execOp,ho,run_makeMap]
 rw[hex,Oper.upon_value];exact hn _ _ _ hN.1 hN.2 (.mh ⟨⟨⟨w.heap.size,rfl⟩,.mp [],by simp[app],rfl⟩,by simp⟩)
def a1f(es:List (PV×PV))(z:PV)(ok:Bool):Option Nat->PV
 |some i=>if ok then .tup [(es.getD i (.undef,.undef)).2,.bool true]else(es.getD i (.undef,.undef)).2
 |none=>if ok then .tup [z,.bool false]else z
theorem aol{o:Oper}{ρ:Operand->PV}{σ:ASt}{t k e n:Nat}{dk:TypeDesc}{y q:Operand}{ok:Bool}{es:List (PV×PV)}{r:Option Nat}{z:PV}(ho:o.op= .lookup t y q ok)(hy:ρ y= .mh n)(hB:ah σ n=some (.mp es))
  (ht:age P t=some (k,dk,e)) (hk:mc dk (ρ q)=true) (hr:lc (ρ q) es 0=some r) (hz:aly P e=some z):LOp P o ρ σ (a1f es z ok r) [] [n]:=by
 refine ak fun s hs x a hv w hW hops=> ?_;have hsn:s n=some (.mp es):=(hs n (by simp)).trans hB;have h1:=hops y (by simp[ho,Op.operands]);have h2:=hops q (by simp[ho,Op.operands]);rw[hy]at h1;obtain⟨hv1,b,arr,hb,hh,hsz,hen⟩:=ajq hW h1 hsn;obtain⟨t1,t2⟩:=abb ht
 have hq:RP (env x s hv w).pc (a.eval q) (ρ q):=by
  cases hkq:ρ q<;>rw[hkq]at hk h2<;>cases dk<;>simp[mc]at hk
  ·rw[h2.int_inv];exact .int _ _
  ·rw[h2.str_inv];exact .str _
 have hf:=sc hk hq es arr.toList 0 r (by simpa using hsz) (fun j p hp=>by
  obtain⟨en,e1,e2,e3,e4⟩:=hen j p hp;exact⟨en,by simpa using e1,e3⟩) hr
 obtain⟨zv,hz1,hz2⟩:=aul hz w;have hck:=run_checkKey (w:=w) t2 (ajj hk hq) arr.isEmpty 9999;rcases hf with ⟨rfl,hf⟩|⟨j,en,rfl,hj,hf⟩
 ·have hfk:=run_findKey (P:=P) (w:=w) t2 hf;refine⟨if ok then .tuple #[zv,.bool false]else zv,?_,?_⟩
  ·simp only[execOp,ho,hv1,hb,Instr.lookup,Sem.run_bind,run_underlying t1,Result.andThen_ok,MapKept.run_getObj_map hh,hck,hfk,hz1,Sem.run_pure]
  ·cases ok
   ·exact hz2 _
   ·refine .tup rfl fun i u hu=> ?_
    match i,hu with
    |0,hu=>cases hu;exact hz2 _
    |1,hu=>cases hu;exact .pure (.bool _)
 ·have hfk:=run_findKey (P:=P) (w:=w) t2 hf
  have hjl:j<es.length:=by
   have:=(ca.1 hj).1;simp at this;omega
  have hp:es[j]? =some (es.getD j (.undef,.undef)):=by rw[bq,bf hjl];rfl
  obtain⟨en',e1,e2,e3,e4⟩:=hen j _ hp
  have:en'=en:=by
   have h3:arr[j]? =some en:=by simpa using hj
   rw[e1]at h3;exact Option.some.inj h3
  subst this;refine⟨if ok then .tuple #[en'.val,.bool true]else en'.val,?_,?_⟩
  ·simp only[execOp,ho,hv1,hb,Instr.lookup,Sem.run_bind,run_underlying t1,Result.andThen_ok,MapKept.run_getObj_map hh,hck,hfk,Sem.run_pure]
  ·cases ok
   ·exact e4
   ·refine .tup rfl fun i u hu=> ?_
    match i,hu with
    |0,hu=>cases hu;exact e4
    |1,hu=>cases hu;exact .pure (.bool _)
def akj(es:List (PV×PV))(key val:PV):Option Nat->List (PV×PV)
 |some i=>es.set i ((es.getD i (.undef,.undef)).1,val)
 |none=>es++[(key,val)]
theorem aa2{o:Oper}{ρ:Operand->PV}{σ:ASt}{t k e n:Nat}{dk:TypeDesc}{y q z:Operand}{es:List (PV×PV)}{r:Option Nat}(ho:o.op= .mapUpdate t y q z\/o.op= .insert t y q z)(hy:ρ y= .mh n)(hB:ah σ n=some (.mp es))
  (ht:age P t=some (k,dk,e)) (hk:mc dk (ρ q)=true) (hr:lc (ρ q) es 0=some r):LOp P o ρ σ .undef [(n,.mp (akj es (ρ q) (ρ z) r))] [n]:=by
 refine⟨by simp,fun s hs x a hv w hW hops next Q hnx=> ?_⟩;have hsn:s n=some (.mp es):=(hs n (by simp)).trans hB;have h1:=hops y (by rcases ho with ho|ho<;>simp[ho,Op.operands]);have h2:=hops q (by rcases ho with ho|ho<;>simp[ho,Op.operands]);have h3:=hops z (by rcases ho with ho|ho<;>simp[ho,Op.operands]);rw[hy]at h1;obtain⟨hv1,b,arr,hb,hh,hsz,hen⟩:=ajq hW h1 hsn;obtain⟨t1,t2⟩:=abb ht
 have hq:RP (env x s hv w).pc (a.eval q) (ρ q):=by
  cases hkq:ρ q<;>rw[hkq]at hk h2<;>cases dk<;>simp[mc]at hk
  ·rw[h2.int_inv];exact .int _ _
  ·rw[h2.str_inv];exact .str _
 have hf:=sc hk hq es arr.toList 0 r (by simpa using hsz) (fun j p hp=>by
  obtain⟨en,e1,e2,e3,e4⟩:=hen j p hp;exact⟨en,by simpa using e1,e3⟩) hr
 have hck:=run_checkKey (w:=w) t2 (ajj hk hq) false 9999;have hblk: ∀(o':Obj) c,blk (hv n)≠some c->(w.heap.setIfInBounds b o')[c]? =w.heap[c]?:=fun o' c hc=>(heap_set hh).2 c fun e=>hc (by rw[hb,e];rfl);have hsize: ∀o':Obj,w.heap.size<=(w.heap.setIfInBounds b o').size:=fun o'=>by simp
 rcases hf with ⟨rfl,hf⟩|⟨j,en,rfl,hj,hf⟩
 ·have hfk:=run_findKey (P:=P) (w:=w) t2 hf
  have hG:=hW.write (w':={w with heap:=w.heap.setIfInBounds b (.map (arr.push {key:=a.eval q,val:=a.eval z,born:=es.length}) (es.length+1))}) (B':= .mp (akj es (ρ q) (ρ z) none)) hsn ⟨rfl,rfl⟩ (fun off h=>h) rfl rfl rfl (hsize _)
   (fun c hc hne=>hblk _ c hne) fun E hE=>by
    refine⟨b,_,hb,(by simpa [akj] using (heap_set hh).1),by simp[akj,hsz],fun i p hp=> ?_⟩;simp only[akj]at hp;rw[List.getElem?_append]at hp;split at hp
    ·rename_i hi;obtain⟨en,e1,e2,e3,e4⟩:=hen i p hp;refine⟨en,?_,e2,e3.mono hE.pc,e4.mono hE⟩;rw[Array.getElem?_push,if_neg (by omega)];exact e1
    ·rename_i hi
     have hi2:i=es.length:=by
      have:=(ca.1 hp).1;simp at this;omega
     subst hi2;simp at hp;subst hp;exact⟨_,by rw[Array.getElem?_push,if_pos hsz.symm],rfl,hq.mono hE.pc,h3.mono hE⟩
  unfold Oper.wp
  have hex:(execOp a.eval o).run P w= .ok .skip {w with heap:=w.heap.setIfInBounds b (.map (arr.push {key:=a.eval q,val:=a.eval z,born:=es.length}) (es.length+1))}:=by
   rcases ho with ho|ho<;>simp only[execOp,ho,hv1,hb,Instr.mapUpdate,Sem.run_bind,run_underlying t1,Result.andThen_ok,MapKept.run_getObj_map hh,hck,hfk,MapKept.run_setObj_map _ hh,Sem.run_pure]
  rw[hex,Oper.upon_skip];exact hnx undef hv _ hG.1 hG.2 (.undef _)
 ·have hfk:=run_findKey (P:=P) (w:=w) t2 hf
  have hjl:j<es.length:=by
   have:=(ca.1 hj).1;simp at this;omega
  have hp:es[j]? =some (es.getD j (.undef,.undef)):=by rw[bq,bf hjl];rfl
  obtain⟨en',e1,e2,e3,e4⟩:=hen j _ hp;obtain⟨_,p,hp2,hpk⟩:=acn hr;rw[Nat.sub_zero,hp]at hp2
  cases hp2
  have hkey:((arr[j]?).map (·.key)).getD (a.eval q)=en'.key:=by rw[e1];rfl
  have hsame:Instr.sameBits 10000 en'.key (a.eval q)=true/\en'.key=a.eval q:=axv hq e3 hpk
  have hst:(Instr.keyThatStays en'.key (a.eval q)).run P w= .ok (a.eval q) w:=by
   unfold Instr.keyThatStays;rw[hsame.1];rfl
  have hG:=hW.write (w':={w with heap:=w.heap.setIfInBounds b (.map (arr.modify j fun e=>{e with key:=a.eval q,val:=a.eval z}) es.length)}) (B':= .mp (akj es (ρ q) (ρ z) (some j))) hsn ⟨rfl,rfl⟩ (fun off h=>h) rfl rfl rfl (hsize _)
   (fun c hc hne=>hblk _ c hne) fun E hE=>by
    refine⟨b,_,hb,(by simpa [akj] using (heap_set hh).1),by simp[akj,hsz],fun i p hp'=> ?_⟩;simp only[akj]at hp';rw[List.getElem?_set]at hp';by_cases hij:j=i
    ·subst hij;rw[if_pos rfl,if_pos hjl]at hp'
     cases hp'
     refine⟨{en' with key:=a.eval q,val:=a.eval z},by rw[Array.getElem?_modify,if_pos rfl,e1];rfl,e2,?_,h3.mono hE⟩;rw[<-hsame.2];exact e3.mono hE.pc
    ·rw[if_neg hij]at hp';obtain⟨en2,f1,f2,f3,f4⟩:=hen i p hp';exact⟨en2,by rw[Array.getElem?_modify,if_neg hij];exact f1,f2,f3.mono hE.pc,f4.mono hE⟩
  unfold Oper.wp
  have hex:(execOp a.eval o).run P w= .ok .skip {w with heap:=w.heap.setIfInBounds b (.map (arr.modify j fun e=>{e with key:=a.eval q,val:=a.eval z}) es.length)}:=by
   rcases ho with ho|ho<;>simp only[execOp,ho,hv1,hb,Instr.mapUpdate,Sem.run_bind,run_underlying t1,Result.andThen_ok,MapKept.run_getObj_map hh,hck,hfk,hkey,hst,MapKept.run_setObj_map _ hh,Sem.run_pure]
  rw[hex,Oper.upon_skip];exact hnx undef hv _ hG.1 hG.2 (.undef _)
theorem auc{o:Oper}{ρ:Operand->PV}{σ:ASt}{t n d:Nat}{k:TypeId}{dk:TypeDesc}{e:TypeId}{y:Operand}{es:List (PV×PV)}(ho:o.op= .range t y)(hy:ρ y= .mh n)(hB:ah σ n=some (.mp es))
  (ht:age P t=some (k,dk,e)) (hd:ah σ d=none):LOp P o ρ σ (.mh d) [(d,.it n es.length [])] [d,n]:=by
 refine⟨by simp,fun s hs x a hv w hW hops next Q hn=> ?_⟩;have hsd:s d=none:=(hs d (by simp)).trans hd;have hsn:s n=some (.mp es):=(hs n (by simp)).trans hB;have h1:=hops y (by simp[ho,Op.operands]);rw[hy]at h1;obtain⟨hv1,b,arr,hb,hh,hsz,hen⟩:=ajq hW h1 hsn;obtain⟨t1,t2⟩:=abb ht
 have hN:=hW.new (hd:= .pointer (some ⟨w.heap.size,0,none⟩)) (B:= .it n es.length []) (w':=w.alloc (.mapIter (some b) es.length #[] es.length)) hsd rfl rfl rfl (by simp) (fun c hc=>(MapKept.heap_alloc w _).2 c hc) (fun c hc=>by simp[blk]at hc;omega)
  fun E hE=>⟨w.heap.size,b,rfl,(MapKept.heap_alloc w _).1,hE.mh _ _ ⟨⟨⟨b,rfl⟩,.mp es,hsn,rfl⟩,hb.symm⟩⟩
 unfold Oper.wp
 have hex:(execOp a.eval o).run P w= .ok (.value (.pointer (some ⟨w.heap.size,0,none⟩))) (w.alloc (.mapIter (some b) es.length #[] es.length)):=by
  simp only[execOp,ho,hv1,hb,Instr.range,Sem.run_bind,run_underlying t1,Result.andThen_ok,MapKept.run_getObj_map hh,Sem.run_pure];rfl
 rw[hex,Oper.upon_value];exact hn _ _ _ hN.1 hN.2 (.mh ⟨⟨⟨w.heap.size,rfl⟩,.it n es.length [],by simp[app],rfl⟩,by simp⟩)
def ar1(l:List UInt8)(pos:Nat):Nat×Nat:=Utf8.decode ⟨l.toArray⟩ pos
theorem anq{o:Oper}{ρ:Operand->PV}{σ:ASt}{t d:Nat}{y:Operand}{l:List UInt8}(ho:o.op= .range t y)(hy:ρ y= .str l)
  (ht:P.underlying t=some .string) (hd:ah σ d=none):LOp P o ρ σ (.mh d) [(d,.si l 0)] [d]:=by
 refine⟨by simp,fun s hs x a hv w hW hops next Q hn=> ?_⟩;have hsd:s d=none:=(hs d (by simp)).trans hd;have h1:=hops y (by simp[ho,Op.operands]);rw[hy]at h1
 have hv1:a.eval y= .string ⟨l.toArray⟩:=by
  generalize a.eval y=v at h1
  cases h1 with
  |pure h=>cases h;rfl
 have hN:=hW.new (hd:= .pointer (some ⟨w.heap.size,0,none⟩)) (B:= .si l 0) (w':=w.alloc (.stringIter ⟨l.toArray⟩ 0)) hsd rfl rfl rfl (by simp) (fun c hc=>(MapKept.heap_alloc w _).2 c hc) (fun c hc=>by simp[blk]at hc;omega)
  fun E hE=>⟨w.heap.size,rfl,(MapKept.heap_alloc w _).1⟩
 unfold Oper.wp
 have hex:(execOp a.eval o).run P w= .ok (.value (.pointer (some ⟨w.heap.size,0,none⟩))) (w.alloc (.stringIter ⟨l.toArray⟩ 0)):=by
  simp only[execOp,ho,hv1,Instr.range,Sem.run_bind,run_underlying ht,Result.andThen_ok,Sem.run_pure];rfl
 rw[hex,Oper.upon_value];exact hn _ _ _ hN.1 hN.2 (.mh ⟨⟨⟨w.heap.size,rfl⟩,.si l 0,by simp[app],rfl⟩,by simp⟩)
theorem p7{w:World}{r:Nat}{s:ByteArray}{p:Nat}(hb:w.heap[r]? =some (.stringIter s p)):(getObj r).run P w= .ok (.stringIter s p) w:=by
 simp[getObj,Sem.run,hb]
theorem acb{w:World}{r:Nat}{s:ByteArray}{p:Nat}(o:Obj)(hb:w.heap[r]? =some (.stringIter s p)):(setObj r o).run P w= .ok () (setBlock w r o):=by
 simp[setObj,Sem.run,hb,setBlock]
theorem ao0{o:Oper}{ρ:Operand->PV}{σ:ASt}{d:Nat}{y:Operand}{l:List UInt8}{pos:Nat}(ho:o.op= .next y true)(hy:ρ y= .mh d)(hB:ah σ d=some (.si l pos))(hp:pos<l.length):
  LOp P o ρ σ (.tup [.bool true,.int .i64 pos,.int .i32 (ar1 l pos).1]) [(d,.si l (pos+(ar1 l pos).2))] [d]:=by
 refine⟨by simp,fun s hs x a hv w hW hops next Q hn=> ?_⟩;have hsd:s d=some (.si l pos):=(hs d (by simp)).trans hB;have h1:=hops y (by simp[ho,Op.operands]);rw[hy]at h1;obtain⟨r,e1,e2⟩:=hW.box d _ hsd;have hva:a.eval y= .pointer (some ⟨r,0,none⟩):=h1.mh_inv.2.trans e1;have hsz:pos<(ByteArray.mk l.toArray).size:=by simpa [ByteArray.size] using hp
 have hG:=hW.write (w':=setBlock w r (.stringIter ⟨l.toArray⟩ (pos+(ar1 l pos).2))) (B':= .si l (pos+(ar1 l pos).2)) hsd ⟨rfl,rfl⟩ (fun off h=>h) rfl rfl rfl (by simp[setBlock])
  (fun c hc hne=>(heap_set (w:=w) (r:=r) (by exact e2)).2 c fun e=>hne (by rw[e1,e];rfl)) fun E hE=>⟨r,e1,(heap_set (w:=w) (r:=r) (by exact e2)).1⟩
 unfold Oper.wp
 have hex:(execOp a.eval o).run P w= .ok (.value (.tuple #[.bool true,goInt pos,.int .i32 ((ar1 l pos).1:Nat)])) (setBlock w r (.stringIter ⟨l.toArray⟩ (pos+(ar1 l pos).2))):=by
  simp only[execOp,ho,hva,Instr.next,Sem.run_bind,p7 e2,Result.andThen_ok,if_pos hsz,acb _ e2,Sem.run_pure,ar1]
 rw[hex,Oper.upon_value];refine hn _ _ _ hG.1 hG.2 (.tup rfl fun j u hu=> ?_)
 match j,hu with
 |0,hu=>cases hu;exact .pure (.bool _)
 |1,hu=>cases hu;exact .pure (.int _ _)
 |2,hu=>cases hu;exact .pure (.int _ _)
theorem amc{o:Oper}{ρ:Operand->PV}{σ:ASt}{d:Nat}{y:Operand}{l:List UInt8}{pos:Nat}(ho:o.op= .next y true)(hy:ρ y= .mh d)(hB:ah σ d=some (.si l pos))(hp: ¬pos<l.length):
  LOp P o ρ σ (.tup [.bool false]) [] [d]:=by
 refine ak fun s hs x a hv w hW hops=> ?_;have hsd:s d=some (.si l pos):=(hs d (by simp)).trans hB;have h1:=hops y (by simp[ho,Op.operands]);rw[hy]at h1;obtain⟨r,e1,e2⟩:=hW.box d _ hsd;have hva:a.eval y= .pointer (some ⟨r,0,none⟩):=h1.mh_inv.2.trans e1;have hsz: ¬pos<(ByteArray.mk l.toArray).size:=by simpa [ByteArray.size] using hp
 refine⟨.tuple #[.bool false],?_,.tup rfl fun j u hu=> ?_⟩
 ·simp only[execOp,ho,hva,Instr.next,Sem.run_bind,p7 e2,Result.andThen_ok,if_neg hsz,Sem.run_pure]
 ·match j,hu with
  |0,hu=>cases hu;exact .pure (.bool _)
def vk(σ:ASt)(u:PV)(K:KT):Prop:=
 match u with
 | .mh d=>match ah σ d with
  |some (.si l pos)=>(pos<l.length->K (.tup [.bool true,.int .i64 pos,.int .i32 (ar1 l pos).1]) [(d,.si l (pos+(ar1 l pos).2))] [d])/\(¬pos<l.length->K (.tup [.bool false]) [] [d])
  |_=>False
 |_=>False
theorem acl{o:Oper}{ρ:Operand->PV}{σ:ASt}{y:Operand}{K:KT}(ho:o.op= .next y true)(h:vk σ (ρ y) K): ∃u δ F,LOp P o ρ σ u δ F/\K u δ F:=by
 unfold vk at h;split at h
 ·rename_i d hy;split at h
  ·rename_i l pos hB;by_cases hp:pos<l.length
   ·exact⟨_,_,_,ao0 ho hy hB hp,h.1 hp⟩
   ·exact⟨_,_,_,amc ho hy hB hp,h.2 hp⟩
  ·exact h.elim
 ·exact h.elim
def ary(P:Program)(σ:ASt)(u:PV)(K:KT):Prop:=
 match u with
 | .mh d=>match ah σ d with
  |some (.it m k done)=>match ah σ m with
   |some (.mp es)=>d≠m/\k=es.length/\(∀i,i<k->i∉done->K (.tup [.bool true,(es.getD i (.undef,.undef)).1,(es.getD i (.undef,.undef)).2]) [(d,.it m k (done++[i]))] [d,m])/\
    ((∀i,i<k->i∈done)->K (.tup [.bool false]) [] [d,m])
   |_=>False
  |_=>False
 |_=>False
theorem ae0{o:Oper}{ρ:Operand->PV}{σ:ASt}{y:Operand}{K:KT}(ho:o.op= .next y false)(h:ary P σ (ρ y) K)(x:Ctx P)(a:Act)(hv:Nat->Value)(w:World)(hW:SimW x (ah σ) hv w)
  (hops: ∀y∈o.op.operands,RV (env x (ah σ) hv w) (a.eval y) (ρ y)) (next:Act->World->Prop) (Q:Exit->Act->World->Prop)
  (hn: ∀u δ F,K u δ F->∀v hv' w',SimW x (app (ah σ) δ) hv' w'->Env.le (env x (ah σ) hv w) (env x (app (ah σ) δ) hv' w')->RV (env x (app (ah σ) δ) hv' w') v u->next (a.put o.dst v) w'):o.wp P a w next Q:=by
 have h1:=hops y (by simp[ho,Op.operands]);unfold ary at h;split at h
 ·rename_i d hy;split at h
  ·rename_i m k done hd;split at h
   ·rename_i es hm;obtain⟨hdm,rfl,hK1,hK2⟩:=h;rw[hy]at h1;obtain⟨r,b,e1,e2,⟨_,B,e3,e4⟩,e5⟩:=hW.box d _ hd;obtain⟨b',arr,f1,f2,f3,f4⟩:=hW.box m _ hm;rw[f1]at e5
    cases e5
    have hva:a.eval y= .pointer (some ⟨r,0,none⟩):=h1.mh_inv.2.trans e1
    have hborn: ∀z∈arr.toList,∃i p,es[i]? =some p/\arr[i]? =some z/\z.born=i:=fun z hz=>by
     obtain⟨i,hi⟩:=List.mem_iff_getElem?.1 hz;have hi':arr[i]? =some z:=by simpa using hi
     have hil:i<es.length:=by rw[<-f3];exact(Array.getElem?_eq_some_iff.1 hi').1
     obtain⟨en,g1,g2,_⟩:=f4 i _ (bf hil);rw[hi']at g1
     cases g1
     exact⟨i,_,bf hil,hi',g2⟩
    have hrun:=run_next_at (P:=P) w o.type r b es.length es.length done.toArray arr es.length e2 f2 (fun z hz=>by
     obtain⟨i,p,g1,_,g3⟩:=hborn z hz;rw[g3];exact(ca.1 g1).1) (Nat.le_refl _)
    unfold Oper.wp;rcases hrun with ⟨g1,g2⟩|⟨en,g1,w1,g2,g3⟩
    ·have hex:(execOp a.eval o).run P w= .ok (.value (.tuple #[.bool false])) w:=by
      simp only[execOp,ho,hva];rw[Sem.run_bind,g2];rfl
     rw[hex,Oper.upon_value];refine hn _ _ _ (hK2 fun i hi=> ?_) _ hv w hW (Env.le.refl _) (.tup rfl fun i u hu=> ?_)
     ·obtain⟨en,q1,q2,_⟩:=f4 i _ (bf hi)
      have:en∉(leftOf arr done.toArray).toList:=by
       have:leftOf arr done.toArray= #[]:=Array.eq_empty_of_size_eq_zero g1;rw[this];simp
      simp only[leftOf,Array.toList_filter,List.mem_filter,Array.mem_toList_iff,not_and]at this;have hc:=this (Array.mem_of_getElem? q1);rw[q2]at hc;simpa using hc
     ·match i,hu with
      |0,hu=>cases hu;exact .pure (.bool _)
    ·have hex:(execOp a.eval o).run P w= .ok (.value (.tuple #[.bool true,en.key,en.val])) (setBlock w1 r (.mapIter (some b) es.length (done.toArray.push en.born) es.length)):=by
      simp only[execOp,ho,hva];rw[Sem.run_bind,g3];rfl
     rw[hex,Oper.upon_value]
     have hmem:en∈arr.toList/\en.born∉done:=by
      simp only[leftOf,Array.toList_filter,List.mem_filter]at g1;exact⟨g1.1,by simpa using g1.2⟩
     obtain⟨i,p,q1,q2,q3⟩:=hborn en hmem.1;have hil:i<es.length:=(ca.1 q1).1;obtain⟨en',k1,k2,k3,k4⟩:=f4 i p q1;rw[q2]at k1
     cases k1
     have hdr: ∃q,w1=w.drewN q:=by
      rcases g2 with rfl|rfl
      ·exact⟨0,rfl⟩
      ·exact⟨1,rfl⟩
     obtain⟨q,rfl⟩:=hdr;obtain⟨hW1,hE1⟩:=hW.drew q
     have hG:=hW1.write (w':=setBlock (w.drewN q) r (.mapIter (some b) es.length (done.toArray.push en.born) es.length)) (B':= .it m es.length (done++[i])) hd ⟨rfl,rfl⟩ (fun off h=>h) rfl rfl rfl (by simp[setBlock])
      (fun c hc hne=>(heap_set (w:=w.drewN q) (r:=r) (by exact e2)).2 c fun e=>hne (by rw[e1,e];rfl)) fun E hE=>by
       refine⟨r,b,e1,?_,hE.mh _ _ (hE1.mh _ _ ⟨⟨⟨b,rfl⟩,B,e3,e4⟩,f1.symm⟩)⟩;have:=(heap_set (w:=w.drewN q) (r:=r) (o':= .mapIter (some b) es.length (done.toArray.push en.born) es.length) (by exact e2)).1;simp only[setBlock];rw[this,q3];simp
     have hpp:es.getD i (.undef,.undef)=p:=by rw[bq,q1];rfl
     refine hn _ _ _ (hK1 i hil (q3 ▸ hmem.2)) _ hv _ hG.1 (hE1.trans hG.2) (.tup rfl fun j u hu=> ?_);rw[hpp]at hu
     match j,hu with
     |0,hu=>cases hu;exact .pure (.bool _)
     |1,hu=>cases hu;exact(RV.pure k3).mono (hE1.trans hG.2)
     |2,hu=>cases hu;exact k4.mono (hE1.trans hG.2)
   ·exact h.elim
  ·exact h.elim
 ·exact h.elim
theorem ari{o:Oper}{ρ:Operand->PV}{σ:ASt}{d m k i:Nat}{y:Operand}{es:List (PV×PV)}{done:List Nat}(ho:o.op= .entry y)(hy:ρ y= .mh d)(hB:ah σ d=some (.it m k (done++[i])))(hm:ah σ m=some (.mp es))(hk:k=es.length)(hi:i<k):
  LOp P o ρ σ (.tup [(es.getD i (.undef,.undef)).1,(es.getD i (.undef,.undef)).2]) [] [d,m]:=by
 refine ak fun s hs x a hv w hW hops=> ?_;subst hk;have hsd:=(hs d (by simp)).trans hB;have hsm:=(hs m (by simp)).trans hm;have h1:=hops y (by simp[ho,Op.operands]);rw[hy]at h1;obtain⟨r,b,e1,e2,⟨_,B,e3,e4⟩,e5⟩:=hW.box d _ hsd;obtain⟨b',arr,f1,f2,f3,f4⟩:=hW.box m _ hsm;rw[f1]at e5
 cases e5
 have hva:a.eval y= .pointer (some ⟨r,0,none⟩):=h1.mh_inv.2.trans e1;obtain⟨en,k1,k2,k3,k4⟩:=f4 i _ (bf hi)
 have hnd:(arr.toList.map (·.born)).Nodup:=by
  have:arr.toList.map (·.born)=List.range es.length:=by
   apply List.ext_getElem?;intro j;rw[List.getElem?_map];by_cases hj:j<es.length
   ·obtain⟨en',q1,q2,_⟩:=f4 j _ (bf hj);have:arr.toList[j]? =some en':=by simpa using q1
    rw[this,List.getElem?_range hj];simp[q2]
   ·rw[List.getElem?_eq_none (by simpa [f3] using hj),List.getElem?_eq_none (by simpa using hj)];rfl
  rw[this];exact List.nodup_range
 have he2:w.heap[r]? =some (.mapIter (some b) es.length (done.toArray.push en.born) es.length):=by rw[e2,k2];simp
 have hrun:=run_entry_at (P:=P) w r b es.length done.toArray arr es.length en he2 f2 (Array.mem_toList_iff.2 (Array.mem_of_getElem? k1)) hnd;have hpp:es.getD i (.undef,.undef)=es[i]:=by rw[bq,bf hi];rfl
 refine⟨.tuple #[en.key,en.val],?_,.tup rfl fun j u hu=> ?_⟩
 ·simp only[execOp,ho,hva];rw[Sem.run_bind,hrun];rfl
 ·rw[hpp]at hu
  match j,hu with
  |0,hu=>cases hu;exact .pure k3
  |1,hu=>cases hu;exact k4
theorem anx{o:Oper}{ρ:Operand->PV}{σ:ASt}{t n:Nat}{k:TypeId}{dk:TypeDesc}{e:TypeId}{y:Operand}{es:List (PV×PV)}(ho:o.op= .call {callee:= .builtin .len,args:= #[y],argTypes:= #[t]})(hy:ρ y= .mh n)(hB:ah σ n=some (.mp es))
  (ht:age P t=some (k,dk,e)):LOp P o ρ σ (.int .i64 es.length) [] [n]:=by
 refine ak fun s hs x a hv w hW hops=> ?_;have hsn:=(hs n (by simp)).trans hB;have h1:=hops y (by simp[ho,Op.operands,Call.operands]);rw[hy]at h1;obtain⟨hv1,b,arr,hb,hh,hsz,hen⟩:=ajq hW h1 hsn;obtain⟨t1,t2⟩:=abb ht;refine⟨.int .i64 es.length,?_,.pure (.int _ _)⟩
 have hl:(Builtin.len_ #[t] o.type #[a.eval y]).run P w= .ok (.int .i64 es.length) w:=by
  simp only[Builtin.len_,hv1,hb,Sem.run_bind,run_underlying t1,Result.andThen_ok];simp[MapKept.run_getObj_map hh,goInt,hsz,run_underlying t1]
 simp[execOp,ho,resolve,invoke,builtin,hl]
end Go.Proofs.Am

/- A slice's tail as a handle; clear; the head of an open row as a list. -/
namespace Go.Proofs.Am
open Go Go.RowKit
variable {P:Program}
def lm(σ:ASt):List (List PV)->Option (List (List PV)×List Nat)
 |[]=>some ([],[])
 |u::us=>match gr σ u,lm σ us with
  |some (v,a),some (vs,b)=>some (v::vs,a++b)
  |_,_=>none
theorem kv{σ:ASt}: ∀{xs xs':List (List PV)} {a:List Nat},lm σ xs=some (xs',a)->xs'.length=xs.length/\(∀n∈a,∃B,ah σ n=some B)/\
  ∀(i:Nat) (r r':List PV),xs[i]? =some r->xs'[i]? =some r'->∃b,gr σ r=some (r',b)/\∀n∈b,n∈a
 |[],xs',a,h=>by cases h;simp
 |u::us,xs',a,h=>by
  simp only[lm]at h
  cases h1:gr σ u with
  |none=>rw[h1]at h;cases h
  |some p=>
   cases h2:lm σ us with
   |none=>rw[h1,h2]at h;cases h
   |some q=>
    obtain⟨p1,p2⟩:=p;obtain⟨q1,q2⟩:=q;rw[h1,h2]at h;simp only[Option.some.injEq,Prod.mk.injEq]at h;obtain⟨rfl,rfl⟩:=h;obtain⟨k1,k0,k2⟩:=kv h2;refine⟨by simp[k1],fun n hn=> ?_,fun i r r' hr hr'=> ?_⟩
    ·rcases List.mem_append.1 hn with hn|hn
     ·exact gq h1 n hn
     ·exact k0 n hn
    ·cases i with
     |zero=>simp at hr hr';subst hr hr';exact⟨p2,h1,fun n hn=>by simp[hn]⟩
     |succ i=>
      obtain⟨b,e1,e2⟩:=k2 i r r' (by simpa using hr) (by simpa using hr');exact⟨b,e1,fun n hn=>by simp[e2 n hn]⟩
theorem ad6{o:Oper}{ρ:Operand->PV}{σ:ASt}{t e':TypeId}{y z:Operand}{n k sz:Nat}{kd:IntKind}{i:Int}{e:Nat}{xs:List (List PV)}(ho:o.op= .slice t y (some z) none none)(hy:ρ y= .os n k)(hz:ρ z= .int kd i)
  (hB:ah σ n=some (.arh e sz xs)) (hk:k=xs.length) (he:br P t=some e') (hsz:du P e'=some sz) (h0:0<=i) (h1:i<k):LOp P o ρ σ (.osl n k i.toNat) [] [n]:=by
 refine ak fun s hs x a hv w hW hops=> ?_;have hv0:=hops y (by simp[ho,Op.operands]);have hz0:=hops z (by simp[ho,Op.operands]);rw[hy]at hv0;rw[hz]at hz0;have hsn:s n=some (.arh e sz xs):=by rw[hs n (by simp),hB]
 obtain⟨_,B',sz1,l1,h2,hd1,h3,h4⟩:=hv0.os_inv;rw[hsn]at h2
 cases h2
 cases hd1
 have hvn:=h4 hk;obtain⟨g,c,hq,hc⟩:=(hW.box n _ hsn).dimAt (sz:=sz) (l:=xs.length) rfl (by omega);obtain⟨m',hb,hm1,hm2,_⟩:=i7 (P:=P) (w:=w) true xs.length c hc (lo:=some (.int kd i)) (hi:=none) (mx:=none) (vl:=some (.int kd i)) (vh:=none) (vm:=none) (l:=i) (h:=xs.length) (m:=xs.length) rfl rfl rfl rfl trivial trivial h0 (by omega) (Int.le_refl _) (Int.le_refl _) (by simp);have hm3:=hm2 rfl;have hne: ¬m'=i.toNat:=by omega
 have hne2: ¬c=i.toNat:=by omega
 subst hm3;refine⟨.slice (some ⟨g,i.toNat*sz,none⟩) (k - i.toNat) (m' - i.toNat),?_,.osl rfl ⟨⟨_,rfl⟩,_,sz,xs.length,hsn,rfl,h3,fun _ _=>⟨g,m',by rw[hq,hk],by rw[Nat.add_zero]⟩⟩⟩;simp only[execOp,ho];rw[Sem.run_bind,hvn,hq];simp[Instr.sliceAt,Instr.slice,run_underlying (az he),hz0.int_inv,hb,dq hsz,d8,hk,hne2]
theorem aat{o:Oper}{ρ:Operand->PV}{σ:ASt}{t e:TypeId}{y z:Operand}{n m a sz l:Nat}{B:Box}{k:IntKind}{i:Int}(ho:o.op= .indexAddr t y z)(hy:ρ y= .osl n m a)
  (hz:ρ z= .int k i) (hB:ah σ n=some B) (hd:B.dim=some (sz,l)) (hm:m=l) (he:br P t=some e) (hsz:du P e=some sz) (h0:0<=i) (h1:a+i<l):LOp P o ρ σ (.oel n m (a+i.toNat) 0) [] [n]:=by
 refine ak fun s hs x act hv w hW hops=> ?_;have h:=hops y (by simp[ho,Op.operands]);have hh:=hops z (by simp[ho,Op.operands]);rw[hy]at h;rw[hz]at hh;have hsn:s n=some B:=by rw[hs n (by simp),hB]
 obtain⟨q,c,hv1,_,B',sz1,l1,h2,hd1,h3,h4⟩:=h.osl_inv;rw[hsn]at h2
 cases h2
 rw[hd]at hd1
 cases hd1
 obtain⟨b,c',hvn,hq⟩:=h4 hm (by omega)
 cases hq
 refine⟨.pointer (some ⟨b,(a+i.toNat)*sz,none⟩),?_,.oel ⟨⟨_,rfl⟩,B,sz,l,hsn,hd,h3,fun _ _=>⟨b,c',hvn,by rw[Nat.add_zero]⟩⟩⟩;have hlt:i<((m - a:Nat):Int):=by omega
 simp[execOp,ho,hv1,hh.int_inv,i6 he hsz ⟨b,a*sz,none⟩ (m - a) c k i h0 hlt,d8,Nat.add_mul]
theorem aap{o:Oper}{ρ:Operand->PV}{σ:ASt}{t e':TypeId}{y z:Operand}{n k sz:Nat}{kd:IntKind}{i:Int}{e:Nat}{xs:List (List PV)}(ho:o.op= .slice t y none (some z) none)(hy:ρ y= .os n k)(hz:ρ z= .int kd i)
  (hB:ah σ n=some (.arh e sz xs)) (hk:k=xs.length) (he:br P t=some e') (hsz:du P e'=some sz) (h0:0<=i) (h1:i<=k) (hx:lm σ xs=some (xs,[])):LOp P o ρ σ (.vs (xs.take i.toNat)) [(n,.arr e sz true xs)] [n]:=by
 refine⟨by simp,fun s hs x a hv w hW hops next Q hn=> ?_⟩;have hv0:=hops y (by simp[ho,Op.operands]);have hz0:=hops z (by simp[ho,Op.operands]);rw[hy]at hv0;rw[hz]at hz0;have hsn:s n=some (.arh e sz xs):=by rw[hs n (by simp),hB]
 obtain⟨_,B',sz1,l1,h2,hd1,h3,h4⟩:=hv0.os_inv;rw[hsn]at h2
 cases h2
 cases hd1
 have hvn:=h4 hk;have hk1: ∀v,Box.keep (.arh e sz xs) v (.arr e sz true xs) v:=fun v=>⟨_,rfl,Nat.le_refl _,fun _=>rfl⟩
 have hE:Env.le (env x s hv w) (env x (upd s n (some (.arr e sz true xs))) hv w):=by
  refine lu (fun ad v hp'=>⟨hp'.1,hp'.2.1,fun m C hC hb=> ?_⟩) fun m C hC=> ?_
  ·by_cases hm:m=n
   ·subst hm;exact(hp'.2.2 m _ hsn hb).elim
   ·rw[al _ _ hm]at hC;exact hp'.2.2 m C hC hb
  ·by_cases hm:m=n
   ·subst hm;rw[hsn]at hC
    cases hC
    exact⟨_,ap _ _ _,hk1 _⟩
   ·exact⟨C,by rw[al _ _ hm];exact hC,Box.keep_refl _ _⟩
 have hbox:BoxRep P (env x (upd s n (some (.arr e sz true xs))) hv w) w (hv n) (.arr e sz true xs):=by
  obtain⟨b0,ys,b1,b2,b3,b4⟩:=hW.box n _ hsn;refine⟨b0,ys,b1,b2,b3,fun i r j u hr hu=> ?_⟩;obtain⟨_,_,g⟩:=kv hx;obtain⟨b,p1,p2⟩:=g i r r hr hr;have hb:b=[]:=by cases b with|nil=>rfl|cons c b=>exact absurd (p2 c (by simp)) (by simp)
  subst hb;obtain⟨_,q⟩:=dh (ns:=[]) hW (fun n hn=>by simp at hn) p1 (fun n hn=>by simp at hn);have:=q j u u hu hu _ (b4 i r j u hr hu);have hsh:ar s []=s:=by funext m;simp[ar]
  rw[hsh]at this;exact this.mono hE.pc
 have hS:SimW x (upd s n (some (.arr e sz true xs))) hv w:=by
  refine hW.step rfl rfl rfl (Nat.le_refl _) hE (fun m hm=>by unfold upd;split<;>simp_all) (fun _ _ _=>rfl) fun m C hC=> ?_;by_cases hm:m=n
  ·subst hm;rw[ap]at hC
   cases hC
   refine .inr ⟨hbox,fun p hp=>Box.keep_trans (hW.ext m p _ hp hsn) (hk1 _),fun b hb=>⟨hW.loc m _ b hsn hb,fun k C hk' hC hbk=> ?_⟩⟩;rw[al _ _ hk']at hC;exact hk' (hW.inj k m C _ b hC hsn hbk hb)
  ·rw[al _ _ hm]at hC;exact .inl ⟨hC,rfl,fun _ _=>rfl⟩
 have hlist:=hS.asList (ap _ _ _);obtain⟨v',k1,k2,_⟩:=na he hsz hlist (lo:=none) (hi:=some (.int kd i)) (mx:=none) (vl:=none) (vh:=some (.int kd i)) (vm:=none) (l:=0) (h:=i) (m:=xs.length) rfl rfl rfl trivial rfl trivial (Int.le_refl _) h0 (by omega) (Int.le_refl _) (by simp) w (by simp);unfold Oper.wp
 have hex:(execOp a.eval o).run P w= .ok (.value v') w:=by
  simp only[execOp,ho,Option.map_none,Option.map_some];rw[Sem.run_bind,hvn,hz0.int_inv,k1];rfl
 rw[hex,Oper.upon_value];have k3:RP (env x (upd s n (some (.arr e sz true xs))) hv w).pc v' (.vs (xs.take i.toNat)):=by simpa using k2
 exact hn v' hv w hS hE (.pure k3)
theorem uh{t:TypeId}{it:TypeInfo}{z:Value}(h:P.info? t=some it)(hz:it.zero=some z)(w:World):(zeroValue t).run P w= .ok z w:=by
 simp[zeroValue,typeInfo,h,hz]
theorem apg{o:Oper}{ρ:Operand->PV}{σ:ASt}{t e':TypeId}{y:Operand}{n k i sz:Nat}{e:Nat}{xs:List (List PV)}{zs:List PV}(ho:o.op= .call {callee:= .builtin .clear,args:= #[y],argTypes:= #[t]})(hy:ρ y= .osl n k i)
  (hB:ah σ n=some (.arh e sz xs)) (hk:k=xs.length) (hi:i<k) (he:br P t=some e') (hz:bk P e'=some zs) (hzl:zs.length=sz) (hone:zs.all eh=true):
  LOp P o ρ σ (.tup []) [(n,.arh e sz (xs.take i++List.replicate (k - i) (zs.map agc)))] [n]:=by
 subst hk;refine⟨by simp,fun s hs x a hv w hW hops next Q hn=> ?_⟩;have hsn:s n=some (.arh e sz xs):=(hs n (by simp)).trans hB;have hv1:=hops y (by simp[ho,Op.operands,Call.operands]);rw[hy]at hv1;obtain⟨q,c0,hv2,_,B',sz1,l1,h2,hd1,h3,h4⟩:=hv1.osl_inv;rw[hsn]at h2
 cases h2
 cases hd1
 obtain⟨b,c,hb,hpv⟩:=h4 rfl hi
 cases hpv
 obtain⟨it,zv,z1,z2,z3⟩:=fg hz;have hzs:zv.cells.size=sz:=by rw[<-z3]at hzl;simpa using hzl
 obtain⟨h0,ys,hy0,hlens,hones,hrr⟩:=hW.box n _ hsn;obtain⟨g,cap,cur,fz,hg1,hfz,hg2,hg3,hg4,hg5,hg6⟩:=im hy0 (by omega);rw[hb]at hg1
 cases hg1
 let vs:=(Builtin.zeroCells zv.cells (xs.length - i)).toList
 have hvl:vs.length=(xs.length - i)*sz:=by simp[vs,size_zeroCells,hzs]
 have hvg: ∀p j,p<xs.length - i->j<sz->vs[p*sz+j]? =zv.cells[j]?:=fun p j hp hj=>by
  have hlt:p*sz+j<(xs.length - i)*sz:=gm hp hj;have hmod:(p*sz+j) % sz=j:=by rw[Nat.mul_comm,Nat.mul_add_mod,Nat.mod_eq_of_lt hj]
  have hjs:j<zv.cells.size:=by rw[hzs];exact hj
  simp only[vs,Builtin.zeroCells,Array.getElem?_toList,Array.getElem?_map,hzs];rw[Array.getElem?_range,if_pos hlt];simp[hmod,hjs]
 have hzc: ∀j u,zs[j]? =some u->∃cv,zv.cells[j]? =some cv/\u=abk cv:=fun j u hu=>by
  rw[<-z3,List.getElem?_map]at hu
  cases hcj:zv.cells.toList[j]? with
  |none=>rw[hcj]at hu;cases hu
  |some cv=>rw[hcj]at hu;cases hu;exact⟨cv,by simpa using hcj,rfl⟩
 have hRz: ∀(E:Env) j u,(zs.map agc)[j]? =some u->∃cv,zv.cells[j]? =some cv/\RV E cv u:=fun E j u hu=>by
  rw[List.getElem?_map]at hu
  cases hq:zs[j]? with
  |none=>rw[hq]at hu;cases hu
  |some u0=>
   rw[hq]at hu
   cases hu
   obtain⟨cv,c1,rfl⟩:=hzc j u0 hq;exact⟨cv,c1,.pure (arn _ _ (List.all_eq_true.1 hone _ (List.mem_of_getElem? hq)))⟩
 have hone': ∀v∈vs,v.oneCell'=true:=fun v hvm=>by
  obtain⟨j,hj,hvj⟩:=List.mem_iff_getElem.1 hvm;rw[hvl]at hj;have hp:j/sz<xs.length - i:=(Nat.div_lt_iff_lt_mul h0).2 hj;have hj':j % sz<sz:=Nat.mod_lt _ h0;have hjd:j/sz*sz+j % sz=j:=by rw[Nat.mul_comm];exact Nat.div_add_mod _ _
  have h1:=hvg (j/sz) (j % sz) hp hj';rw[hjd,bf (by rw[hvl];exact hj),hvj]at h1;have hjz:j % sz<zs.length:=by rw[hzl];exact hj'
  obtain⟨cv,c1,c2⟩:=hzc _ _ (bf hjz);rw[c1]at h1
  cases h1
  have ho1:=List.all_eq_true.1 hone _ (List.getElem_mem hjz);rw[c2]at ho1;exact(gy (vf (env x s hv w) v) ho1).1
 have hcap:xs.length*sz<=c*sz:=Nat.mul_le_mul_right _ hg3;have hks:i*sz+(xs.length - i)*sz=xs.length*sz:=by rw[<-Nat.add_mul];congr 1;omega
 have hst:=bx P b (i*sz) e fz vs 0 cur w hg2 (rh hfz) (by rw[hg5,hvl,Nat.add_zero,hks];exact hcap) hone';simp only[Nat.add_zero]at hst
 let xs':=xs.take i++List.replicate (xs.length - i) (zs.map agc)
 have hxl:xs'.length=xs.length:=by simp[xs'];omega
 let cur':=(cur.toList.take (i*sz)++vs++cur.toList.drop (i*sz+vs.length)).toArray
 have hcs':cur'.size=cur.size:=by simp[cur',hvl];omega
 have hW':=hW.write (w':=w.setRow b cur') (B':= .arh e sz xs') hsn ⟨_,rfl,by rw[hxl];exact Nat.le_refl _,fun _=>rfl⟩ (fun off h=>h) rfl rfl rfl (by simp) (fun k hk hne=>setRow_other w b k _ fun e=>hne (by rw[hb,e];rfl)) fun E hE=>by
  have hcget: ∀j,j<xs.length*sz->cur'[j]? =if j<i*sz then cur[j]? else vs[j - i*sz]?:=fun j hj=>by
   simp only[cur',List.getElem?_toArray];rw[List.append_assoc,List.getElem?_append];have htl:(cur.toList.take (i*sz)).length=i*sz:=by rw[List.length_take,Array.length_toList,hg5];omega
   rw[htl];by_cases h2:j<i*sz
   ·rw[if_pos h2,if_pos h2,List.getElem?_take,if_pos h2];simp
   ·rw[if_neg h2,if_neg h2,List.getElem?_append,hvl,if_pos (by omega)]
  refine⟨h0,cur'.toList.take (xs.length*sz),?_,?_,?_,fun p r j u hr hu=> ?_⟩
  ·rw[hxl];exact⟨by simp[hcs',hg5,hcap],.inr ⟨b,c,cur',fz,hb,by rw[hcs'];exact hfz,setRow_heap w b cur cur' e _ hg2,hg3,hg4,by rw[hcs',hg5],rfl⟩⟩
  ·intro r hr;rcases List.mem_append.1 hr with hr|hr
   ·exact hlens r (List.mem_of_mem_take hr)
   ·rw[List.eq_of_mem_replicate hr];simp[hzl]
  ·intro r hr;rcases List.mem_append.1 hr with hr|hr
   ·exact hones r (List.mem_of_mem_take hr)
   ·rw[List.eq_of_mem_replicate hr,List.all_map];refine List.all_eq_true.2 fun u hu=> ?_;have:=List.all_eq_true.1 hone u hu
    cases u<;>simp_all [agc,eh]
  ·have hpl:p<xs.length:=by have:=(ca.1 hr).1;rwa [hxl]at this
   have hrl:r.length=sz:=by
    rcases List.mem_append.1 (List.mem_of_getElem? hr)with hr|hr
    ·exact hlens r (List.mem_of_mem_take hr)
    ·rw[List.eq_of_mem_replicate hr];simp[hzl]
   have hjl:j<sz:=by have:=(ca.1 hu).1;rwa [hrl]at this
   have hlt2:=gm hpl hjl
   have hgetD:(cur'.toList.take (xs.length*sz)).getD (p*sz+j) undef=(cur'[p*sz+j]?).getD undef:=by
    rw[bq,List.getElem?_take,if_pos hlt2];simp
   rw[hgetD,hcget _ hlt2];have htk:(xs.take i).length=i:=by simp;omega
   rw[List.getElem?_append,htk]at hr;by_cases hpi:p<i
   ·rw[if_pos hpi,List.getElem?_take,if_pos hpi]at hr;have h5:p*sz+j<i*sz:=gm hpi hjl;rw[if_pos h5];have h4:=hrr p r j u hr hu;rw[<-hg6,bq,List.getElem?_take,if_pos hlt2]at h4;simpa using h4.mono hE
   ·rw[if_neg hpi]at hr
    have h5: ¬p*sz+j<i*sz:=by
     have:i*sz<=p*sz:=Nat.mul_le_mul_right _ (by omega);omega
    rw[if_neg h5];have hrr':=List.eq_of_mem_replicate (List.mem_of_getElem? hr);subst hrr'
    have h6:p*sz+j - i*sz=(p - i)*sz+j:=by
     have:i*sz<=p*sz:=Nat.mul_le_mul_right _ (by omega);rw[Nat.sub_mul];omega
    obtain⟨cv,c1,c2⟩:=hRz E j u hu;rw[h6,hvg (p - i) j (by omega) hjl,c1];exact c2
 unfold Oper.wp
 have hrun:(Builtin.clear_ #[t] o.type #[a.eval y]).run P w= .ok (.tuple #[]) (w.setRow b cur'):=by
  obtain⟨m,hm⟩: ∃m,xs.length - i=m+1:=⟨xs.length - i - 1,by omega⟩;have hst':(storeCells ⟨b,i*sz,none⟩ (Builtin.zeroCells zv.cells (m+1)).toList).run P w= .ok () (w.setRow b cur'):=by rw[<-hm];exact hst
  rw[hv2,hm];simp[Builtin.clear_,run_underlying (az he),uh z1 z2,hst']
 have hex:(execOp a.eval o).run P w= .ok (.value (.tuple #[])) (w.setRow b cur'):=by
  simp[execOp,ho,resolve,invoke,builtin,hrun]
 rw[hex,Oper.upon_value];exact hn _ hv _ hW'.1 hW'.2 (.pure (.tup rfl fun i u hu=>by simp at hu))
end Go.Proofs.Am
