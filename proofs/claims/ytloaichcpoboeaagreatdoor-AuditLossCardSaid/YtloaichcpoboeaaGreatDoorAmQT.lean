/- AmQT. -/
import Derived.Test.YtloaichcpoboeaaGreatDoorAmV
import Derived.Test.YtloaichcpoboeaaGreatDoorAmZ
set_option linter.unusedSimpArgs false
set_option linter.unusedVariables false
namespace Go.Proofs.Am
open Go Go.RowKit
variable {P:Program}
end Go.Proofs.Am

/- More conversions: a nil slice in a cell that is to grow; marks; queues. -/
namespace Go.Proofs.Am
open Go Go.RowKit
variable {P:Program} {N:Nat} {fr fr' fr'':AFr} {σ σ' σ'':ASt}
theorem lp{c:Code}{Q:rp}(hc:Cv P N fr σ fr' σ')(h:wv P N (.loop c) Q fr' σ'):wv P N (.loop c) Q fr σ:=by
 intro x a hv w hG
 have h':W P N (.loop c) Q fr' σ':=h
 obtain⟨hv',hG'⟩:=hc x a hv w hG
 exact h' x a hv' w hG'
theorem Cv.cellLift{m j n e sz:Nat}{cs:List PV}(hm:ac σ m=some (.cells cs))(hj:cs[j]? =some .nils)(hn:ac σ n=none)(hz:0<sz):Cv P N fr σ fr (ln (ln σ n (.arr e sz false [])) m (.cells (cs.set j (.os n 0)))):=fun x a hv w hG=>by
 have hmn:m≠n:=fun h=>by rw[h,hn]at hm;cases hm
 obtain⟨hS,hE⟩:=hG.sim.new (d:=n) (B:= .arr e sz false []) (hd:= .slice none 0 0) (w':=w) hn rfl rfl rfl (Nat.le_refl _) (fun _ _=>rfl) (fun b hb=>by cases hb)
  (fun E _=>⟨hz,[],⟨by simp,.inl ⟨rfl,rfl⟩⟩,by simp,by simp,fun i y j u hy hu=>by simp at hy⟩)
 have hG1:Good x N (look fr) (ac (ln σ n (.arr e sz false []))) a (upd hv n (.slice none 0 0)) w:=⟨by rw[ar];exact hS,hG.size,hG.defers,fun t=>by rw[ar];exact(hG.regs t).mono hE⟩
 have hfn:ac (ln σ n (.arr e sz false [])) n=some (.arr e sz false []):=by rw[ar,ak]
 refine⟨_,hG1.again (n:=m) (B:= .cells cs) (B':= .cells (cs.set j (.os n 0))) (by rw[ar,ah _ _ hmn];exact hm) (fun off h=>h) (fun v=>⟨⟨_,rfl⟩,rfl⟩) fun hb=> ?_⟩
 obtain⟨b,t,arr,h1,h2,h3,h4⟩:=hb
 refine⟨b,t,arr,h1,h2,by simp[h3],fun i u hu=> ?_⟩
 rw[List.getElem?_set]at hu
 split at hu
 ·rename_i hij
  subst hij
  split at hu
  ·cases hu
   rw[(h4 _ _ hj).nils_inv]
   exact .os ⟨⟨none,0,rfl⟩,.arr e sz false [],sz,0,hfn,rfl,Nat.le_refl _,fun _=>(ak _ _ _).symm⟩
  ·cases hu
 ·exact h4 i u hu
theorem Cv.hint{n:Nat}(hn:ac σ n=none):Cv P N fr σ fr (ln σ n (.dead 1 0)):=fun x a hv w hG=>by
 obtain⟨hS,hE⟩:=hG.sim.new (d:=n) (B:= .dead 1 0) (hd:= .bool false) (w':=w) hn rfl rfl rfl (Nat.le_refl _) (fun _ _=>rfl) (fun b hb=>by cases hb)
  (fun E _=>⟨fun b hb=>(by cases hb),fun h=>(by omega)⟩)
 exact⟨_,by rw[ar];exact hS,hG.size,hG.defers,fun t=>by rw[ar];exact(hG.regs t).mono hE⟩
theorem Cv.cellNil{m j:Nat}{cs:List PV}(hm:ac σ m=some (.cells cs))(hj:cs[j]? =some .nils):Cv P N fr σ fr (ln σ m (.cells (cs.set j (.vs [])))):=fun x a hv w hG=>by
 refine⟨hv,hG.again (B:= .cells cs) (B':= .cells (cs.set j (.vs []))) hm (fun off h=>h.elim) (fun v=>⟨⟨_,rfl⟩,rfl⟩) fun hb=> ?_⟩
 obtain⟨b,t,arr,h1,h2,h3,h4⟩:=hb
 refine⟨b,t,arr,h1,h2,by simp[h3],fun i u hu=> ?_⟩
 rw[List.getElem?_set]at hu
 split at hu
 ·rename_i hij
  subst hij
  split at hu
  ·cases hu
   rw[(h4 _ _ hj).nils_inv]
   exact .pure (.vs (sz:=0) (fun _ _=>undef) rfl (Nat.le_refl _) (by simp) (by simp) (by simp) (by simp))
  ·cases hu
 ·exact h4 i u hu
theorem Cv.cellList{n m j e sz:Nat}{sh:Bool}{xs:List (List PV)}{cs:List PV}(hm:ac σ m=some (.cells cs))(hj:cs[j]? =some (.os n xs.length))(hn:ac σ n=some (.arr e sz sh xs)):
  Cv P N fr σ fr (ln (ln σ n (.arr e sz true xs)) m (.cells (cs.set j (.vs xs)))):=fun x a hv w hG=>by
 have hmn:m≠n:=fun he=>by rw[he,hn]at hm;cases hm
 obtain⟨hS,hE⟩:=hG.sim.shared (bu (ac σ) [n])
 have he:al (ac σ) [n]=ac (ln σ n (.arr e sz true xs)):=by
  rw[ar]
  funext m
  unfold al upd
  by_cases hm:m=n
  ·subst hm;simp[hn,Box.share]
  ·simp[hm]
 rw[he]at hS hE
 have h0:ac (ln σ n (.arr e sz true xs)) n=some (.arr e sz true xs):=by rw[ar];exact ak _ _ _
 have hG1:Good x N (look fr) (ac (ln σ n (.arr e sz true xs))) a hv w:=⟨hS,hG.size,hG.defers,fun t=>(hG.regs t).mono hE⟩
 have hm1:ac (ln σ n (.arr e sz true xs)) m=some (.cells cs):=by rw[ar,ah _ _ hmn];exact hm
 refine⟨hv,hG1.again (B:= .cells cs) (B':= .cells (cs.set j (.vs xs))) hm1 (fun off h=>h.elim) (fun v=>⟨⟨_,rfl⟩,rfl⟩) fun hb=> ?_⟩
 obtain⟨b,t,arr,h1,h2,h3,h4⟩:=hb
 refine⟨b,t,arr,h1,h2,by simp[h3],fun i u hu=> ?_⟩
 rw[List.getElem?_set]at hu
 split at hu
 ·rename_i hij
  subst hij
  split at hu
  ·cases hu
   have hr:=h4 _ _ hj
   obtain⟨_,B,sz',l,k1,k2,k3,k4⟩:=hr.os_inv
   rw[h0]at k1
   cases k1
   simp only[Box.dim,Option.some.injEq,Prod.mk.injEq]at k2
   rw[k4 k2.2]
   exact .pure (hS.asList h0)
  ·cases hu
 ·exact h4 i u hu
theorem Cv.shr{n e sz:Nat}{sh:Bool}{xs:List (List PV)}(hn:ac σ n=some (.arr e sz sh xs))(h:ln σ n (.arr e sz true xs)=σ'):Cv P N fr σ fr σ':=fun x a hv w hG=>by
 subst h
 obtain⟨hS,hE⟩:=hG.sim.shared (bu (ac σ) [n])
 have he:al (ac σ) [n]=ac (ln σ n (.arr e sz true xs)):=by
  rw[ar]
  funext m
  unfold al upd
  by_cases hm:m=n
  ·subst hm;simp[hn,Box.share]
  ·simp[hm]
 rw[he]at hS hE
 exact⟨hv,hS,hG.size,hG.defers,fun t=>(hG.regs t).mono hE⟩
def av7(cargs:List PV)(ext0:List Box)(el sz kk kk2:Nat)(xs xs2:List (List PV))(r:PV)(nb ext0':List Box)(ren0:List Nat)(c m:Nat)(ren:List Nat)(us:List PV)(dst:Option Nat)(σ:ASt)(K:KT):Prop:=
 bv (qa σ ren us) fun p=>bv (a04 σ ren0) fun q=>bv (ac σ c) fun C=>bv (ac σ m) fun M=>match p,q with
 |some (cg,ns1),some (e,ns2)=>(cg=cargs∧e=ext0∧C=some (.cells [.os m kk])∧M=some (.arr el sz false xs))∧(sv ren=true∧aht ren (ns1++ns2)=true∧abu ext0 ext0'∧x4 am4 nb∧(o8 (dst.getD 0) nb).all (fun n=>(ac σ n).isNone)=true∧nb.length<1000000∧okR nb.length (ext0.length+2) r)∧
   bv (a87 (rnm (dst.getD 0) ren) r) fun u=>bv (s8 σ (dst.getD 0) (ns1++ns2) ren (ext0'++[.cells [.os m kk2],.arr el sz false xs2]) nb) fun δ=>K u δ ((ns1++ns2)++(ren++o8 (dst.getD 0) nb))
 |_,_=>False
theorem bc4{P:Program}{k:FuncId}{caps cargs:List PV}{ext:List Box}{el sz kk kk2:Nat}{xs xs2:List (List PV)}{r:PV}{nb ext':List Box}(D:Den P k cargs ext r nb ext')(ext0 ext0':List Box)(ren0:List Nat)(c m:Nat)(ren:List Nat)
  (hE:ext=ext0++[.cells [.os (1000000+(ext0.length+1)) kk],.arr el sz false xs]) (hE':ext'=ext0'++[.cells [.os (1000000+(ext0.length+1)) kk2],.arr el sz false xs2]) (hg:xs.length≤xs2.length) (hR:ren=ren0++[c,m]) {us:List PV} {dst:Option Nat} {σ:ASt} {K:KT}
  (h:av7 cargs ext0 el sz kk kk2 xs xs2 r nb ext0' ren0 c m ren (us++caps) dst σ K):wn P (.fn k caps) us dst σ K:=by
 simp only[av7,bv]at h
 split at h
 rotate_left
 ·exact h.elim
 rename_i cg ns1 e ns2 h1 h2
 obtain⟨⟨rfl,rfl,hC,hMp⟩,⟨a1,a2,a3,a4,a5,a6,a7⟩,hK⟩:=h
 obtain⟨l1,l2,l3⟩:=tj h2
 obtain⟨k1,k2⟩:=oo a3
 have hnd:=jg a1
 have hlen:ext.length=e.length+2:=by rw[hE];simp
 have hc:ren[e.length]? =some c:=by rw[hR,List.getElem?_append_right (by omega),l1];simp
 have hm:ren[e.length+1]? =some m:=by rw[hR,List.getElem?_append_right (by omega),l1];simp
 have hidx:lu ren m=some (e.length+1):=jd hnd hm
 have hc':ext[e.length]? =some (.cells [.os (1000000+(e.length+1)) kk]):=by rw[hE,List.getElem?_append_right (by omega)];simp
 have hm':ext[e.length+1]? =some (.arr el sz false xs):=by rw[hE,List.getElem?_append_right (by omega)];simp
 have hc2:ext'[e.length]? =some (.cells [.os (1000000+(e.length+1)) kk2]):=by rw[hE',List.getElem?_append_right (by omega),k1];simp
 have hm2:ext'[e.length+1]? =some (.arr el sz false xs2):=by rw[hE',List.getElem?_append_right (by omega),k1];simp
 have hc3:(ext0'++[.cells [.os m kk2],.arr el sz false xs2])[e.length]? =some (.cells [.os m kk2]):=by rw[List.getElem?_append_right (by omega),k1];simp
 have hm3:(ext0'++[.cells [.os m kk2],.arr el sz false xs2])[e.length+1]? =some (.arr el sz false xs2):=by rw[List.getElem?_append_right (by omega),k1];simp
 have h3: ∀(j:Nat),j<e.length+2→j<e.length∨j=e.length∨j=e.length+1:=fun j hj=>by omega
 refine⟨k,caps,cg,ext,r,nb,ext',ext0'++[.cells [.os m kk2],.arr el sz false xs2],ns1,ns2,ren,dst.getD 0,rfl,D,h1,⟨by rw[hlen,hR];simp[l1],l2,fun j n hj=> ?_⟩,hnd,fun n hn=>gw a2 hn,⟨?_,fun j a hj=> ?_⟩,⟨?_,fun j b hj=> ?_⟩,allL_iff.1 a4,fun n hn=> ?_,a6,by rw[hlen];exact a7,rfl,hK⟩
 ·have hjl:j<e.length+2:=by
   have:=(List.getElem?_eq_some_iff.1 hj).1
   rw[hR]at this
   simp at this
   omega
  rcases h3 j hjl with hjl|rfl|rfl
  ·have hj0:ren0[j]? =some n:=by
    rw[hR,List.getElem?_append_left (by omega)]at hj
    exact hj
   have he:ext[j]? =e[j]?:=by rw[hE,List.getElem?_append_left hjl]
   rw[he]
   rcases l3 j n hj0 with h|h
   ·exact .inr (.inr (.inl h))
   ·exact .inr (.inl h)
  ·rw[hc]at hj
   cases hj
   exact .inl ⟨[.os m kk],[.os (1000000+(e.length+1)) kk],[],hC,by simp[il,xb,hidx],by simp,hc'⟩
  ·rw[hm]at hj
   cases hj
   exact .inr (.inl ⟨_,_,_,hMp,hm'⟩)
 ·rw[hE,hE'];simp[k1]
 ·have hjl:j<e.length+2:=by
   have:=(List.getElem?_eq_some_iff.1 hj).1
   omega
  rcases h3 j hjl with hjl|rfl|rfl
  ·rw[hE,List.getElem?_append_left hjl]at hj
   obtain⟨b,q1,q2,_⟩:=k2 j a hj
   exact⟨b,by rw[hE',List.getElem?_append_left (by omega)];exact q1,q2⟩
  ·rw[hc']at hj
   cases hj
   exact⟨_,hc2,trivial⟩
  ·rw[hm']at hj
   cases hj
   exact⟨_,hm2,rfl,hg⟩
 ·rw[hE'];simp
 ·have hjl:j<e.length+2:=by
   have:=(List.getElem?_eq_some_iff.1 hj).1
   rw[hE']at this
   simp at this
   omega
  rcases h3 j hjl with hjl|rfl|rfl
  ·rw[hE',List.getElem?_append_left (by omega)]at hj
   refine⟨b,by rw[List.getElem?_append_left (by omega)];exact hj,.inl ⟨?_,rfl⟩⟩
   obtain⟨b',q1,_,q2⟩:=k2 j _ (List.getElem?_eq_getElem hjl)
   rw[hj]at q1
   cases q1
   exact q2
  ·rw[hc2]at hj
   cases hj
   refine⟨_,hc3,.inr ⟨_,rfl,fun u hu=> ?_,?_⟩⟩
   ·simp only[List.mem_singleton]at hu
    subst hu
    exact .inr ⟨by omega,by omega⟩
   ·have hn: ¬(1000000+(e.length+1)<1000000):=by omega
    have hr:rnm (dst.getD 0) ren (1000000+(e.length+1))=m:=by
     simp only[rnm,if_neg hn,Nat.add_sub_cancel_left,List.getD_eq_getElem?_getD,hm,Option.getD_some]
    simp only[List.map_cons,List.map_nil,ays,hr]
  ·rw[hm2]at hj
   cases hj
   exact⟨_,hm3,.inl ⟨trivial,rfl⟩⟩
 ·have:=List.all_eq_true.1 a5 n hn
  simpa using this
attribute [go_sem ↓] av7
end Go.Proofs.Am
