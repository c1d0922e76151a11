/- AmQT. -/
import Derived.Test.YtloaichcpoboeaaGreatDoorAmV
import Derived.Test.YtloaichcpoboeaaGreatDoorAmZ
set_option linter.unusedSimpArgs false
set_option linter.unusedVariables false
namespace Go.Proofs.Am
open Go Go.RowKit
variable {P:Program}
theorem SimW.toQ{x:Ctx P}{s:St}{hv:Nat->Value}{w:World}(h:SimW x s hv w){n e sz k:Nat}{xs:List (List PV)}(hn:s n=some (.arr e sz false xs))(hn1:n<1000000)(hb: ∀m B,m≠n->s m=some B->B.hin (fun j=>j≠n)):
  SimW x (upd s n (some (.arq e sz k xs))) hv w/\∀v u,RV (env x s hv w) v u->Hin (fun j=>j≠n) u->RV (env x (upd s n (some (.arq e sz k xs))) hv w) v u:=by
 have ho: ∀m B,m≠n->s m=some B->upd s n (some (.arq e sz k xs)) m=some B:=fun m B hm hB=>by rw[aj _ _ hm];exact hB
 have hbk: ∀m B,m≠n->upd s n (some (.arq e sz k xs)) m=some B->s m=some B:=fun m B hm hB=>by rw[aj _ _ hm]at hB;exact hB
 have hpc: ∀a v,pcOf x s hv w a v->pcOf x (upd s n (some (.arq e sz k xs))) hv w a v:=fun a v hp=>⟨hp.1,hp.2.1,fun m B hB hbl=>by
  by_cases hm:m=n
  ·subst hm;exact(hp.2.2 m _ hn hbl).elim
  ·exact hp.2.2 m B (hbk m B hm hB) hbl⟩
 have hR: ∀v u,RV (env x s hv w) v u->Hin (fun j=>j≠n) u->RV (env x (upd s n (some (.arq e sz k xs))) hv w) v u:=fun v u hv0 hu=>
  hv0.hin (F:=env x (upd s n (some (.arq e sz k xs))) hv w) hpc
   (fun m o v hm=>by rintro⟨⟨cs,hc⟩,rest⟩;exact⟨⟨cs,ho m _ hm hc⟩,rest⟩)
   (fun m k v hm=>by rintro⟨hsh,B,sz,l,hc,rest⟩;exact⟨hsh,B,sz,l,ho m _ hm hc,rest⟩)
   (fun m k i o v hm=>by rintro⟨hsh,B,sz,l,hc,rest⟩;exact⟨hsh,B,sz,l,ho m _ hm hc,rest⟩)
   (fun m v hm=>by rintro⟨⟨hb,B,hc,hM⟩,rest⟩;exact⟨⟨hb,B,ho m _ hm hc,hM⟩,rest⟩)
   (fun m k v hm=>by rintro⟨hsh,B,sz,l,hc,rest⟩;exact⟨hsh,B,sz,l,ho m _ hm hc,rest⟩) hu
 have hdom: ∀m B,upd s n (some (.arq e sz k xs)) m=some B->∃C,s m=some C:=fun m B hB=>by
  by_cases hm:m=n
  ·subst hm;exact⟨_,hn⟩
  ·exact⟨B,hbk m B hm hB⟩
 refine⟨{h with
  extin:=fun m hm=>⟨fun hq=>by
   have h1:=h.extin m hm;by_cases hmn:m=n
   ·subst hmn;rw[aq]at hq;cases hq
   ·rw[aj _ _ hmn]at hq;exact h1.1 hq,(h.extin m hm).2⟩
  box:=fun m B hB=> ?_
  loc:=fun m B b hB hb=>by obtain⟨C,hC⟩:=hdom m B hB;exact h.loc m C b hC hb
  inj:=fun m m' B C b hB hC=>by obtain⟨B',hB'⟩:=hdom m B hB;obtain⟨C',hC'⟩:=hdom m' C hC;exact h.inj m m' B' C' b hB' hC'
  ext:=fun m p B hx hB=>by
   by_cases hmn:m=n
   ·subst hmn;have:=(h.extin m (by rw[hx];simp)).2;omega
   ·exact h.ext m p B hx (hbk m B hmn hB)},hR⟩
 by_cases hm:m=n
 ·subst hm;rw[aq]at hB
  cases hB
  obtain⟨h0,ys,h1,h2,h2',h3⟩:=h.box m _ hn;exact⟨h0,ys,h1.queue,h2,h2',fun i r j u hr hu=>(h3 i r j u hr hu).mono hpc⟩
 have hBs:=hbk m B hm hB;have hbx:=h.box m B hBs;have hin:=hb m B hm hBs
 cases B with
 |cells cs=>
  obtain⟨b,t,arr,h1,h2,h3,h4⟩:=hbx
  exact⟨b,t,arr,h1,h2,h3,fun i u hu=>hR _ _ (h4 i u hu) (hin u (List.mem_of_getElem? hu))⟩
 |arr e sz sh xs=>
  obtain⟨h0,ys,h1,h2,h2',h3⟩:=hbx
  exact⟨h0,ys,h1,h2,h2',fun i x j u hx hu=>(h3 i x j u hx hu).mono hpc⟩
 |arh e sz xs=>
  obtain⟨h0,ys,h1,h2,h2',h3⟩:=hbx
  exact⟨h0,ys,h1,h2,h2',fun i x j u hx hu=>hR _ _ (h3 i x j u hx hu) (hin x (List.mem_of_getElem? hx) u (List.mem_of_getElem? hu))⟩
 |mp es=>
  obtain⟨b,arr,h1,h2,h3,h4⟩:=hbx;refine⟨b,arr,h1,h2,h3,fun i p hp=> ?_⟩;obtain⟨en,e1,e2,e3,e4⟩:=h4 i p hp
  exact⟨en,e1,e2,e3.mono hpc,hR _ _ e4 (hin p (List.mem_of_getElem? hp))⟩
 |it m' k' d'=>
  obtain⟨r,b,h1,h2,⟨⟨hb',B',hc,hM⟩,rest⟩⟩:=hbx
  exact⟨r,b,h1,h2,⟨⟨hb',B',ho m' _ hin hc,hM⟩,rest⟩⟩
 |si l p=>exact hbx
 |arq e' sz' k' xs'=>
  obtain⟨h0,ys,h1,h2,h2',h3⟩:=hbx
  exact⟨h0,ys,h1,h2,h2',fun i x j u hx hu=>(h3 i x j u hx hu).mono hpc⟩
 |dead sz l=>exact hbx
def bfq(fr:AFr):AFr->Prop
 |[]=>True
 |(s,u)::r=>(bv (look fr s) fun v=>v=u)/\bfq fr r
theorem ah7{fr:AFr}: ∀{fr2:AFr},bfq fr fr2->∀t,look fr2 t= .undef\/look fr2 t=look fr t
 |[],_,t=> .inl rfl
 |(s,u)::r,h,t=>by
  simp only[look];split
  ·rename_i hs;subst hs;exact .inr h.1.symm
  ·exact ah7 h.2 t
def rmv(n:Nat):ASt->ASt
 |[]=>[]
 |(m,B)::r=>if m=n then rmv n r else(m,B)::rmv n r
theorem afx{n m:Nat}(h:m≠n): ∀σ:ASt,ah (rmv n σ) m=ah σ m
 |[]=>rfl
 |(k,B)::r=>by
  simp only[rmv,ah];by_cases hk:k=n
  ·rw[if_pos hk,if_neg (by omega)];exact afx h r
  ·rw[if_neg hk];simp only[ah];split
   ·rfl
   ·exact afx h r
theorem a8y(fr:AFr):bfq fr []=True:=(rfl)
theorem axo(fr:AFr)(s:Nat)(u:PV)(r:AFr):bfq fr ((s,u)::r)=((bv (look fr s) fun v=>v=u)/\bfq fr r):=(rfl)
attribute [go_sem ↓] a8y axo
end Go.Proofs.Am

/- More conversions: a nil slice in a cell that is to grow; marks; queues. -/
namespace Go.Proofs.Am
open Go Go.RowKit
variable {P:Program} {N:Nat} {fr fr' fr'':AFr} {σ σ' σ'':ASt}
theorem jf{c:Code}{Q:t7}(hc:Cv P N fr σ fr' σ')(h:wv P N (.loop c) Q fr' σ'):wv P N (.loop c) Q fr σ:=by
 intro x a hv w hG;have h':W P N (.loop c) Q fr' σ':=h;obtain⟨hv',hG'⟩:=hc x a hv w hG;exact h' x a hv' w hG'
theorem Cv.cellLift{m j n e sz:Nat}{cs:List PV}(hm:ah σ m=some (.cells cs))(hj:cs[j]? =some .nils)(hn:ah σ n=none)(hz:0<sz):Cv P N fr σ fr (mn (mn σ n (.arr e sz false [])) m (.cells (cs.set j (.os n 0)))):=fun x a hv w hG=>by
 have hmn:m≠n:=fun h=>by rw[h,hn]at hm;cases hm
 obtain⟨hS,hE⟩:=hG.sim.new (d:=n) (B:= .arr e sz false []) (hd:= .slice none 0 0) (w':=w) hn rfl rfl rfl (Nat.le_refl _) (fun _ _=>rfl) (fun b hb=>by cases hb)
  (fun E _=>⟨hz,[],⟨by simp,.inl ⟨rfl,rfl⟩⟩,by simp,by simp,fun i y j u hy hu=>by simp at hy⟩)
 have hG1:Good x N (look fr) (ah (mn σ n (.arr e sz false []))) a (upd hv n (.slice none 0 0)) w:=⟨by rw[ax];exact hS,hG.size,hG.defers,fun t=>by rw[ax];exact(hG.regs t).mono hE⟩;have hfn:ah (mn σ n (.arr e sz false [])) n=some (.arr e sz false []):=by rw[ax,aq]
 refine⟨_,hG1.again (n:=m) (B:= .cells cs) (B':= .cells (cs.set j (.os n 0))) (by rw[ax,aj _ _ hmn];exact hm) (fun off h=>h) (fun v=>⟨⟨_,rfl⟩,rfl⟩) fun hb=> ?_⟩;obtain⟨b,t,arr,h1,h2,h3,h4⟩:=hb;refine⟨b,t,arr,h1,h2,by simp[h3],fun i u hu=> ?_⟩;rw[List.getElem?_set]at hu;split at hu
 ·rename_i hij;subst hij;split at hu
  ·cases hu
   rw[(h4 _ _ hj).nils_inv];exact .os ⟨⟨none,0,rfl⟩,.arr e sz false [],sz,0,hfn,rfl,Nat.le_refl _,fun _=>(aq _ _ _).symm⟩
  ·cases hu
 ·exact h4 i u hu
theorem Cv.hint{n:Nat}(hn:ah σ n=none):Cv P N fr σ fr (mn σ n (.dead 1 0)):=fun x a hv w hG=>by
 obtain⟨hS,hE⟩:=hG.sim.new (d:=n) (B:= .dead 1 0) (hd:= .bool false) (w':=w) hn rfl rfl rfl (Nat.le_refl _) (fun _ _=>rfl) (fun b hb=>by cases hb)
  (fun E _=>⟨fun b hb=>(by cases hb),fun h=>(by omega)⟩)
 exact⟨_,by rw[ax];exact hS,hG.size,hG.defers,fun t=>by rw[ax];exact(hG.regs t).mono hE⟩
theorem Cv.toQ(slot n e sz k:Nat)(xs:List (List PV))(fr2:AFr)(d:List Nat)(hs:look fr slot= .os n xs.length)(hn:ah σ n=some (.arr e sz false xs))(hn1:n<1000000)(hn2:d.contains n=false)(hsub:bfq fr fr2)(hd:a5k d fr2=true)(hS:xv d (rmv n σ)=true):
  Cv P N fr σ ((slot,.oq n k)::fr2) (mn σ n (.arq e sz k xs)):=fun x a hv w hG=>by
 have hne: ∀j,j∈d->j≠n:=fun j hj hjn=>by
  subst hjn;simp at hn2;exact hn2 hj
 obtain⟨hS',hR⟩:=hG.sim.toQ (k:=k) hn hn1 fun m B hm hB=>by
  have:=fk hS m B (by rw[afx hm];exact hB)
  cases B with
  |cells cs=>exact fun u hu=>(this u hu).mono hne
  |arr=>trivial
  |arh e sz xs=>exact fun r hr u hu=>(this r hr u hu).mono hne
  |mp es=>exact fun e he=>(this e he).mono hne
  |it m k dn=>exact hne m this
  |si l p=>trivial
  |arq=>trivial
  |dead sz l=>trivial
 refine⟨hv,by rw[ax];exact hS',hG.size,hG.defers,fun t=> ?_⟩;rw[ax];simp only[look];split
 ·rename_i hst;subst hst;have hr:=hG.regs slot;rw[hs]at hr;obtain⟨⟨a',c',hv0⟩,B,sz',l,h1,h2,h3,h4⟩:=hr.os_inv;rw[hn]at h1
  cases h1
  simp only[Box.dim,Option.some.injEq,Prod.mk.injEq]at h2;exact .oq ⟨⟨a',_,c',hv0⟩,.arq e sz k xs,sz,k,aq _ _ _,rfl,Nat.le_refl _,fun _=>h4 h2.2⟩
 ·rcases ah7 hsub t with ht|ht
  ·rw[ht];exact .undef _
  ·have h9:=yk hd t;rw[ht]at h9 ⊢;exact hR _ _ (hG.regs t) (h9.mono hne)
theorem Cv.cellNil{m j:Nat}{cs:List PV}(hm:ah σ m=some (.cells cs))(hj:cs[j]? =some .nils):Cv P N fr σ fr (mn σ m (.cells (cs.set j (.vs [])))):=fun x a hv w hG=>by
 refine⟨hv,hG.again (B:= .cells cs) (B':= .cells (cs.set j (.vs []))) hm (fun off h=>h.elim) (fun v=>⟨⟨_,rfl⟩,rfl⟩) fun hb=> ?_⟩;obtain⟨b,t,arr,h1,h2,h3,h4⟩:=hb;refine⟨b,t,arr,h1,h2,by simp[h3],fun i u hu=> ?_⟩;rw[List.getElem?_set]at hu;split at hu
 ·rename_i hij;subst hij;split at hu
  ·cases hu
   rw[(h4 _ _ hj).nils_inv];exact .pure (.vs (sz:=0) (fun _ _=>undef) rfl (Nat.le_refl _) (by simp) (by simp) (by simp) (by simp))
  ·cases hu
 ·exact h4 i u hu
theorem Cv.cellList{n m j e sz:Nat}{sh:Bool}{xs:List (List PV)}{cs:List PV}(hm:ah σ m=some (.cells cs))(hj:cs[j]? =some (.os n xs.length))(hn:ah σ n=some (.arr e sz sh xs)):
  Cv P N fr σ fr (mn (mn σ n (.arr e sz true xs)) m (.cells (cs.set j (.vs xs)))):=fun x a hv w hG=>by
 have hmn:m≠n:=fun he=>by rw[he,hn]at hm;cases hm
 obtain⟨hS,hE⟩:=hG.sim.shared (dj (ah σ) [n])
 have he:ar (ah σ) [n]=ah (mn σ n (.arr e sz true xs)):=by
  rw[ax];funext m;unfold ar upd;by_cases hm:m=n
  ·subst hm;simp[hn,Box.share]
  ·simp[hm]
 rw[he]at hS hE;have h0:ah (mn σ n (.arr e sz true xs)) n=some (.arr e sz true xs):=by rw[ax];exact aq _ _ _
 have hG1:Good x N (look fr) (ah (mn σ n (.arr e sz true xs))) a hv w:=⟨hS,hG.size,hG.defers,fun t=>(hG.regs t).mono hE⟩;have hm1:ah (mn σ n (.arr e sz true xs)) m=some (.cells cs):=by rw[ax,aj _ _ hmn];exact hm
 refine⟨hv,hG1.again (B:= .cells cs) (B':= .cells (cs.set j (.vs xs))) hm1 (fun off h=>h.elim) (fun v=>⟨⟨_,rfl⟩,rfl⟩) fun hb=> ?_⟩;obtain⟨b,t,arr,h1,h2,h3,h4⟩:=hb;refine⟨b,t,arr,h1,h2,by simp[h3],fun i u hu=> ?_⟩;rw[List.getElem?_set]at hu;split at hu
 ·rename_i hij;subst hij;split at hu
  ·cases hu
   have hr:=h4 _ _ hj;obtain⟨_,B,sz',l,k1,k2,k3,k4⟩:=hr.os_inv;rw[h0]at k1
   cases k1
   simp only[Box.dim,Option.some.injEq,Prod.mk.injEq]at k2;rw[k4 k2.2];exact .pure (hS.asList h0)
  ·cases hu
 ·exact h4 i u hu
theorem Cv.shr{n e sz:Nat}{sh:Bool}{xs:List (List PV)}(hn:ah σ n=some (.arr e sz sh xs))(h:mn σ n (.arr e sz true xs)=σ'):Cv P N fr σ fr σ':=fun x a hv w hG=>by
 subst h;obtain⟨hS,hE⟩:=hG.sim.shared (dj (ah σ) [n])
 have he:ar (ah σ) [n]=ah (mn σ n (.arr e sz true xs)):=by
  rw[ax];funext m;unfold ar upd;by_cases hm:m=n
  ·subst hm;simp[hn,Box.share]
  ·simp[hm]
 rw[he]at hS hE;exact⟨hv,hS,hG.size,hG.defers,fun t=>(hG.regs t).mono hE⟩
def ayc(cargs:List PV)(ext0:List Box)(el sz kk kk2:Nat)(xs xs2:List (List PV))(r:PV)(nb ext0':List Box)(ren0:List Nat)(c m:Nat)(ren:List Nat)(us:List PV)(dst:Option Nat)(σ:ASt)(K:KT):Prop:=
 bv (sy σ ren us) fun p=>bv (a5n σ ren0) fun q=>bv (ah σ c) fun C=>bv (ah σ m) fun M=>match p,q with
 |some (cg,ns1),some (e,ns2)=>(cg=cargs/\e=ext0/\C=some (.cells [.os m kk])/\M=some (.arr el sz false xs))/\(ut ren=true/\al0 ren (ns1++ns2)=true/\aek ext0 ext0'/\aaz api nb/\(qm (dst.getD 0) nb).all (fun n=>(ah σ n).isNone)=true/\nb.length<1000000/\okR nb.length (ext0.length+2) r)/\
   bv (bfm (rnm (dst.getD 0) ren) r) fun u=>bv (vj σ (dst.getD 0) (ns1++ns2) ren (ext0'++[.cells [.os m kk2],.arr el sz false xs2]) nb) fun δ=>K u δ ((ns1++ns2)++(ren++qm (dst.getD 0) nb))
 |_,_=>False
theorem bjr{P:Program}{k:FuncId}{caps cargs:List PV}{ext:List Box}{el sz kk kk2:Nat}{xs xs2:List (List PV)}{r:PV}{nb ext':List Box}(D:Den P k cargs ext r nb ext')(ext0 ext0':List Box)(ren0:List Nat)(c m:Nat)(ren:List Nat)
  (hE:ext=ext0++[.cells [.os (1000000+(ext0.length+1)) kk],.arr el sz false xs]) (hE':ext'=ext0'++[.cells [.os (1000000+(ext0.length+1)) kk2],.arr el sz false xs2]) (hg:xs.length<=xs2.length) (hR:ren=ren0++[c,m]) {us:List PV} {dst:Option Nat} {σ:ASt} {K:KT}
  (h:ayc cargs ext0 el sz kk kk2 xs xs2 r nb ext0' ren0 c m ren (us++caps) dst σ K):yb P (.fn k caps) us dst σ K:=by
 simp only[ayc,bv]at h;split at h
 rotate_left
 ·exact h.elim
 rename_i cg ns1 e ns2 h1 h2;obtain⟨⟨rfl,rfl,hC,hMp⟩,⟨a1,a2,a3,a4,a5,a6,a7⟩,hK⟩:=h;obtain⟨l1,l2,l3⟩:=vk h2;obtain⟨k1,k2⟩:=q9 a3;have hnd:=jw a1;have hlen:ext.length=e.length+2:=by rw[hE];simp
 have hc:ren[e.length]? =some c:=by rw[hR,List.getElem?_append_right (by omega),l1];simp
 have hm:ren[e.length+1]? =some m:=by rw[hR,List.getElem?_append_right (by omega),l1];simp
 have hidx:my ren m=some (e.length+1):=j7 hnd hm;have hc':ext[e.length]? =some (.cells [.os (1000000+(e.length+1)) kk]):=by rw[hE,List.getElem?_append_right (by omega)];simp
 have hm':ext[e.length+1]? =some (.arr el sz false xs):=by rw[hE,List.getElem?_append_right (by omega)];simp
 have hc2:ext'[e.length]? =some (.cells [.os (1000000+(e.length+1)) kk2]):=by rw[hE',List.getElem?_append_right (by omega),k1];simp
 have hm2:ext'[e.length+1]? =some (.arr el sz false xs2):=by rw[hE',List.getElem?_append_right (by omega),k1];simp
 have hc3:(ext0'++[.cells [.os m kk2],.arr el sz false xs2])[e.length]? =some (.cells [.os m kk2]):=by rw[List.getElem?_append_right (by omega),k1];simp
 have hm3:(ext0'++[.cells [.os m kk2],.arr el sz false xs2])[e.length+1]? =some (.arr el sz false xs2):=by rw[List.getElem?_append_right (by omega),k1];simp
 have h3: ∀(j:Nat),j<e.length+2->j<e.length\/j=e.length\/j=e.length+1:=fun j hj=>by omega
 refine⟨k,caps,cg,ext,r,nb,ext',ext0'++[.cells [.os m kk2],.arr el sz false xs2],ns1,ns2,ren,dst.getD 0,rfl,D,h1,⟨by rw[hlen,hR];simp[l1],l2,fun j n hj=> ?_⟩,hnd,fun n hn=>iz a2 hn,⟨?_,fun j a hj=> ?_⟩,⟨?_,fun j b hj=> ?_⟩,allL_iff.1 a4,fun n hn=> ?_,a6,by rw[hlen];exact a7,rfl,hK⟩
 ·have hjl:j<e.length+2:=by
   have:=(cr.1 hj).1;rw[hR]at this;simp at this;omega
  rcases h3 j hjl with hjl|rfl|rfl
  ·have hj0:ren0[j]? =some n:=by
    rw[hR,List.getElem?_append_left (by omega)]at hj;exact hj
   have he:ext[j]? =e[j]?:=by rw[hE,List.getElem?_append_left hjl]
   rw[he];rcases l3 j n hj0 with h|h
   ·exact .inr (.inr (.inl h))
   ·exact .inr (.inl h)
  ·rw[hc]at hj
   cases hj
   exact .inl ⟨[.os m kk],[.os (1000000+(e.length+1)) kk],[],hC,by simp[je,x9,hidx],by simp,hc'⟩
  ·rw[hm]at hj
   cases hj
   exact .inr (.inl ⟨_,_,_,hMp,hm'⟩)
 ·rw[hE,hE'];simp[k1]
 ·have hjl:j<e.length+2:=by
   have:=(cr.1 hj).1;omega
  rcases h3 j hjl with hjl|rfl|rfl
  ·rw[hE,List.getElem?_append_left hjl]at hj;obtain⟨b,q1,q2,_⟩:=k2 j a hj;exact⟨b,by rw[hE',List.getElem?_append_left (by omega)];exact q1,q2⟩
  ·rw[hc']at hj
   cases hj
   exact⟨_,hc2,trivial⟩
  ·rw[hm']at hj
   cases hj
   exact⟨_,hm2,rfl,hg⟩
 ·rw[hE'];simp
 ·have hjl:j<e.length+2:=by
   have:=(cr.1 hj).1;rw[hE']at this;simp at this;omega
  rcases h3 j hjl with hjl|rfl|rfl
  ·rw[hE',List.getElem?_append_left (by omega)]at hj;refine⟨b,by rw[List.getElem?_append_left (by omega)];exact hj,.inl ⟨?_,rfl⟩⟩;obtain⟨b',q1,_,q2⟩:=k2 j _ (a8 hjl);rw[hj]at q1
   cases q1
   exact q2
  ·rw[hc2]at hj
   cases hj
   refine⟨_,hc3,.inr ⟨_,rfl,fun u hu=> ?_,?_⟩⟩
   ·simp only[List.mem_singleton]at hu;subst hu;exact .inr ⟨by omega,by omega⟩
   ·have hn: ¬(1000000+(e.length+1)<1000000):=by omega
    have hr:rnm (dst.getD 0) ren (1000000+(e.length+1))=m:=by
     simp only[rnm,if_neg hn,Nat.add_sub_cancel_left,aw,hm,Option.getD_some]
    simp only[List.map_cons,List.map_nil,a5z,hr]
  ·rw[hm2]at hj
   cases hj
   exact⟨_,hm3,.inl ⟨trivial,rfl⟩⟩
 ·have:=List.all_eq_true.1 a5 n hn;simpa using this
attribute [go_sem ↓] ayc
end Go.Proofs.Am
