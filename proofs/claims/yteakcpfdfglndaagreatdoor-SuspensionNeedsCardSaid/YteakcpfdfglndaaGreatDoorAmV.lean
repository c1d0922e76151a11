/- AmV. -/
import Derived.Test.YteakcpfdfglndaaGreatDoorAmU
set_option linter.unusedSimpArgs false
set_option linter.unusedVariables false
namespace Go.Proofs.Am
open Go Go.RowKit
variable {P:Program}
def ada{α:Type}(p:α→Prop):List α→Prop
 |[]=>True
 |a::r=>p a∧ada p r
theorem allL_iff{α:Type}{p:α→Prop}{l:List α}:ada p l↔∀a∈l,p a:=by
 induction l with
 |nil=>simp[ada]
 |cons a r ih=>simp[ada,ih]
theorem a2k{α:Type}(p:α→Prop):ada p []=True:=(rfl)
theorem at2{α:Type}(p:α→Prop)(a:α)(r:List α):ada p (a::r)=(p a∧ada p r):=(rfl)
def a7e(cargs:List PV)(ext:List Box)(r:PV)(nb ext':List Box)(ren:List Nat)(us:List PV)(dst:Option Nat)(σ:ASt)(K:KT):Prop:=
 bv (s6 σ ren us) fun p=>bv (a2r σ ren) fun q=>match p,q with
 |some (c,ns1),some (e,ns2)=>(c=cargs∧e=ext)∧(uy ren=true∧aky ren (ns1++ns2)=true∧adu ext ext'∧ada aln nb∧(vw (dst.getD 0) nb).all (fun n=>(ag σ n).isNone)=true∧nb.length<1000000∧okR nb.length ext.length r)∧
   bv (a85 (rnm (dst.getD 0) ren) r) fun u=>bv (wm σ (dst.getD 0) (ns1++ns2) ren ext' nb) fun δ=>K u δ ((ns1++ns2)++(ren++vw (dst.getD 0) nb))
 |_,_=>False
theorem call{P:Program}{k:FuncId}{caps cargs:List PV}{ext:List Box}{r:PV}{nb ext':List Box}(D:Den P k cargs ext r nb ext')(ren:List Nat){us:List PV}{dst:Option Nat}{σ:ASt}{K:KT}
  (h:a7e cargs ext r nb ext' ren (us++caps) dst σ K):xj P (.fn k caps) us dst σ K:=by
 simp only[a7e,bv]at h
 split at h
 ·rename_i c ns1 e ns2 h1 h2
  obtain⟨⟨rfl,rfl⟩,⟨a1,a2,a3,a4,a5,a6,a7⟩,hK⟩:=h
  refine⟨k,caps,c,e,r,nb,ext',ext',ns1,ns2,ren,dst.getD 0,rfl,D,h1,azm h2,lq a1,fun n hn=>jb a2 hn,(alt a3 nb.length e.length (rnm (dst.getD 0) ren)).1,(alt a3 nb.length e.length (rnm (dst.getD 0) ren)).2,allL_iff.1 a4,fun n hn=> ?_,a6,a7,rfl,hK⟩
  have:=List.all_eq_true.1 a5 n hn
  simpa using this
 ·exact h.elim
def avj(cargs:List PV)(ext0:List Box)(es:List (PV×PV))(r:PV)(nb ext0':List Box)(ren0:List Nat)(c m:Nat)(ren:List Nat)(us:List PV)(dst:Option Nat)(σ:ASt)(K:KT):Prop:=
 bv (s6 σ ren us) fun p=>bv (a2r σ ren0) fun q=>bv (ag σ c) fun C=>bv (ag σ m) fun M=>match p,q with
 |some (cg,ns1),some (e,ns2)=>(cg=cargs∧e=ext0∧C=some (.cells [.mh m])∧M=some (.mp es))∧(uy ren=true∧aky ren (ns1++ns2)=true∧adu ext0 ext0'∧ada aln nb∧(vw (dst.getD 0) nb).all (fun n=>(ag σ n).isNone)=true∧nb.length<1000000∧okR nb.length (ext0.length+2) r)∧
   bv (a85 (rnm (dst.getD 0) ren) r) fun u=>bv (wm σ (dst.getD 0) (ns1++ns2) ren (ext0'++[.cells [.mh m],.mp es]) nb) fun δ=>K u δ ((ns1++ns2)++(ren++vw (dst.getD 0) nb))
 |_,_=>False
theorem afv{P:Program}{k:FuncId}{caps cargs:List PV}{ext:List Box}{es:List (PV×PV)}{r:PV}{nb ext':List Box}(D:Den P k cargs ext r nb ext')(hM: ∀e∈es,noH e.2)(ext0 ext0':List Box)(ren0:List Nat)(c m:Nat)(ren:List Nat)
  (hE:ext=ext0++[.cells [.mh (1000000+(ext0.length+1))],.mp es]) (hE':ext'=ext0'++[.cells [.mh (1000000+(ext0.length+1))],.mp es]) (hR:ren=ren0++[c,m]) {us:List PV} {dst:Option Nat} {σ:ASt} {K:KT}
  (h:avj cargs ext0 es r nb ext0' ren0 c m ren (us++caps) dst σ K):xj P (.fn k caps) us dst σ K:=by
 simp only[avj,bv]at h
 split at h
 rotate_left
 ·exact h.elim
 rename_i cg ns1 e ns2 h1 h2
 obtain⟨⟨rfl,rfl,hC,hMp⟩,⟨a1,a2,a3,a4,a5,a6,a7⟩,hK⟩:=h
 obtain⟨l1,l2,l3⟩:=acn h2
 obtain⟨k1,k2⟩:=xt a3
 have hnd:=lq a1
 have hlen:ext.length=e.length+2:=by rw[hE];simp
 have hc:ren[e.length]? =some c:=by rw[hR,List.getElem?_append_right (by omega),l1];simp
 have hm:ren[e.length+1]? =some m:=by rw[hR,List.getElem?_append_right (by omega),l1];simp
 have hidx:ny ren m=some (e.length+1):=j7 hnd hm
 have hc':ext[e.length]? =some (.cells [.mh (1000000+(e.length+1))]):=by rw[hE,List.getElem?_append_right (by omega)];simp
 have hm':ext[e.length+1]? =some (.mp es):=by rw[hE,List.getElem?_append_right (by omega)];simp
 have hc2:ext'[e.length]? =some (.cells [.mh (1000000+(e.length+1))]):=by rw[hE',List.getElem?_append_right (by omega),k1];simp
 have hm2:ext'[e.length+1]? =some (.mp es):=by rw[hE',List.getElem?_append_right (by omega),k1];simp
 have hc3:(ext0'++[.cells [.mh m],.mp es])[e.length]? =some (.cells [.mh m]):=by rw[List.getElem?_append_right (by omega),k1];simp
 have hm3:(ext0'++[.cells [.mh m],.mp es])[e.length+1]? =some (.mp es):=by rw[List.getElem?_append_right (by omega),k1];simp
 have h3: ∀(j:Nat),j<e.length+2→j<e.length∨j=e.length∨j=e.length+1:=fun j hj=>by omega
 refine⟨k,caps,cg,ext,r,nb,ext',ext0'++[.cells [.mh m],.mp es],ns1,ns2,ren,dst.getD 0,rfl,D,h1,⟨by rw[hlen,hR];simp[l1],l2,fun j n hj=> ?_⟩,hnd,fun n hn=>jb a2 hn,⟨?_,fun j a hj=> ?_⟩,⟨?_,fun j b hj=> ?_⟩,allL_iff.1 a4,fun n hn=> ?_,a6,by rw[hlen];exact a7,rfl,hK⟩
 ·have hjl:j<e.length+2:=by
   have:=(List.getElem?_eq_some_iff.1 hj).1
   rw[hR]at this
   simp at this
   omega
  rcases h3 j hjl with hjl|rfl|rfl
  ·have hj0:ren0[j]? =some n:=by
    rw[hR,List.getElem?_append_left (by omega)]at hj
    exact hj
   have he:ext[j]? =e[j]?:=by rw[hE,List.getElem?_append_left hjl]
   rw[he]
   rcases l3 j n hj0 with h|h
   ·exact .inr (.inr (.inl h))
   ·exact .inr (.inl h)
  ·rw[hc]at hj
   cases hj
   exact .inl ⟨[.mh m],[.mh (1000000+(e.length+1))],[],hC,by simp[ji,yw,hidx],by simp,hc'⟩
  ·rw[hm]at hj
   cases hj
   exact .inr (.inr (.inr ⟨es,hMp,hM,hm'⟩))
 ·rw[hE,hE'];simp[k1]
 ·have hjl:j<e.length+2:=by
   have:=(List.getElem?_eq_some_iff.1 hj).1
   omega
  rcases h3 j hjl with hjl|rfl|rfl
  ·rw[hE,List.getElem?_append_left hjl]at hj
   obtain⟨b,q1,q2,_⟩:=k2 j a hj
   exact⟨b,by rw[hE',List.getElem?_append_left (by omega)];exact q1,q2⟩
  ·rw[hc']at hj
   cases hj
   exact⟨_,hc2,trivial⟩
  ·rw[hm']at hj
   cases hj
   exact⟨_,hm2,trivial⟩
 ·rw[hE'];simp
 ·have hjl:j<e.length+2:=by
   have:=(List.getElem?_eq_some_iff.1 hj).1
   rw[hE']at this
   simp at this
   omega
  rcases h3 j hjl with hjl|rfl|rfl
  ·rw[hE',List.getElem?_append_left (by omega)]at hj
   refine⟨b,by rw[List.getElem?_append_left (by omega)];exact hj,.inl ⟨?_,rfl⟩⟩
   obtain⟨b',q1,_,q2⟩:=k2 j _ (List.getElem?_eq_getElem hjl)
   rw[hj]at q1
   cases q1
   exact q2
  ·rw[hc2]at hj
   cases hj
   refine⟨_,hc3,.inr ⟨_,rfl,fun u hu=> ?_,?_⟩⟩
   ·simp only[List.mem_singleton]at hu
    subst hu
    exact .inr ⟨by omega,by omega⟩
   ·have hn: ¬(1000000+(e.length+1)<1000000):=by omega
    have hr:rnm (dst.getD 0) ren (1000000+(e.length+1))=m:=by
     simp only[rnm,if_neg hn,Nat.add_sub_cancel_left,List.getD_eq_getElem?_getD,hm,Option.getD_some]
    simp only[List.map_cons,List.map_nil,a2m,hr]
  ·rw[hm2]at hj
   cases hj
   exact⟨_,hm3,.inl ⟨hM,rfl⟩⟩
 ·have:=List.all_eq_true.1 a5 n hn
  simpa using this
theorem ars:adu [] []=True:=(rfl)
theorem aol(a b:Box)(as bs:List Box):adu (a::as) (b::bs)=(ams a b∧aln b∧adu as bs):=(rfl)
theorem ah2(as bs:List PV):ams (.cells as) (.cells bs)=True:=(rfl)
theorem aus(e sz e' sz':Nat)(sh sh':Bool)(xs xs':List (List PV)):ams (.arr e sz sh xs) (.arr e' sz' sh' xs')=(sz'=sz∧xs.length≤xs'.length):=(rfl)
theorem ays(e sz:Nat)(sh:Bool)(xs:List (List PV)):aln (.arr e sz sh xs)=True:=(rfl)
theorem aon(cs:List PV):aln (.cells cs)=ada noH cs:=propext allL_iff.symm
theorem aye(b:Bool):Hin (fun _=>False) (.bool b)=True:=eq_true (.bool b)
theorem a7b(k:IntKind)(n:Int):Hin (fun _=>False) (.int k n)=True:=eq_true (.int k n)
theorem a6a(l:List UInt8):Hin (fun _=>False) (.str l)=True:=eq_true (.str l)
theorem a83(xs:List (List PV)):Hin (fun _=>False) (.vs xs)=True:=eq_true (.vs xs)
theorem auc(cs:List PV):Hin (fun _=>False) (.agg cs)=ada (Hin (fun _=>False)) cs:=propext ⟨fun h=>by cases h with|agg _ h=>exact allL_iff.2 h,fun h=> .agg cs (allL_iff.1 h)⟩
theorem a64(f:FuncId):Hin (fun _=>False) (.fn f [])=True:=eq_true (.fn f [] (by simp))
theorem aa{ops:List Oper}{g:Log}(h:adw ops.toArray g.reverse=true):okD ops g:=h
theorem cz{P:Program}{N:Nat}{c:Code}{Q:td}{fr:AFr}{σ:ASt}(slot n e sz:Nat)(sh:Bool)(h:wv P N (.loop c) Q ((slot,.os n 0)::fr) (uj σ n (.arr e sz sh [])))(hs:bv (look fr slot) fun u=>u= .nils)(hn:bv (ag σ n) fun B=>B=none)(hz:0<sz):wv P N (.loop c) Q fr σ:=by
 intro x a hv w hG
 have h':W P N (.loop c) Q ((slot,.os n 0)::fr) (uj σ n (.arr e sz sh [])):=h
 have hn':ag σ n=none:=hn
 have hs':look fr slot= .nils:=hs
 obtain⟨hS,hE⟩:=hG.sim.new (d:=n) (B:= .arr e sz sh []) (hd:= .slice none 0 0) (w':=w) hn' rfl rfl rfl (Nat.le_refl _) (fun _ _=>rfl) (fun b hb=>by cases hb)
  (fun E _=>⟨hz,[],⟨by simp,.inl ⟨rfl,rfl⟩⟩,by simp,by simp,fun i y j u hy hu=>by simp at hy⟩)
 refine h' x a (upd hv n (.slice none 0 0)) w ⟨by rw[bt];exact hS,hG.size,hG.defers,fun t=> ?_⟩
 rw[bt]
 simp only[look]
 split
 ·rename_i hst
  subst hst
  have hr:=hG.regs slot
  rw[hs']at hr
  rw[hr.nils_inv]
  exact .os ⟨⟨none,0,rfl⟩,.arr e sz sh [],sz,0,am _ _ _,rfl,Nat.le_refl _,fun _=>(am _ _ _).symm⟩
 ·exact(hG.regs t).mono hE
theorem a5h(n m:Nat)(us:List PV):okR n m (.tup us)=ada (okC n m) us:=propext allL_iff.symm
theorem a0o(n m:Nat)(b:Bool):okR n m (.bool b)=True:=eq_true (.bool b)
theorem a7g(n m:Nat)(k:IntKind)(i:Int):okR n m (.int k i)=True:=eq_true (.int k i)
theorem a7m(n m:Nat)(l:List UInt8):okR n m (.str l)=True:=eq_true (.str l)
theorem ba7(n m:Nat)(xs:List (List PV)):okR n m (.vs xs)=True:=eq_true (.vs xs)
theorem a5a(n m:Nat)(cs:List PV):okR n m (.agg cs)=ada noH cs:=auc cs
theorem a8q(n m j k:Nat):okR n m (.os j k)=okN n m j:=(rfl)
theorem a4r(n m j k:Nat):okR n m (.ptr j k)=okN n m j:=(rfl)
theorem Den.vs{P:Program}{k:FuncId}{args:List PV}{ext ext':List Box}{e sz:Nat}{sh:Bool}{xs:List (List PV)}{n:Nat}(D:Den P k args ext (.os 0 n) [.arr e sz sh xs] ext')(hn:n=xs.length)(hx:ada aln ext')(hl:ext'.length=ext.length):Den P k args ext (.vs xs) [] ext':=by
 refine⟨D.enter,fun w V hv gc vals h1 h2 h3=>(D.run w V hv gc vals h1 h2 h3).mono fun en w'=> ?_⟩
 rintro⟨v,hv',rfl,hS,hR⟩
 refine⟨v,hv',rfl,?_⟩
 have hsh:=hS.shared (dl (dz [.arr e sz sh xs] ext') [0])
 have h0:aq (dz [.arr e sz sh xs] ext') [0] 0=some (.arr e sz true xs):=by simp[aq,dz,Box.share]
 have hlist:=hsh.1.asList h0
 have hv0:v=hv' 0:=by
  have:dz [.arr e sz sh xs] ext' 0=some (.arr e sz sh xs):=rfl
  obtain⟨_,e1,sz1,sh1,xs1,k1,k2,k3⟩:=hR.os_arr this
  rw[this]at k1
  cases k1
  exact k3 hn
 obtain⟨hD,hDr⟩:=hsh.1.drop (s':=dz [] ext') (fun n B hB=>by
   rcases ef hB with ⟨_,h⟩|⟨j,rfl,h⟩
   ·simp at h
   ·have: ¬(1000000+j∈[0]):=by simp
    simp only[aq,if_neg this,ge]
    exact h)
  (fun n B hB=>by
   rcases ef hB with ⟨_,h⟩|⟨j,rfl,h⟩
   ·simp at h
   ·have hb:=allL_iff.1 hx B (List.mem_of_getElem? h)
    cases B with
    |arr=>trivial
    |cells cs=>exact fun u hu=>(hb u hu).mono fun _ h=>h.elim
    |arh e sz xs=>exact fun r hr u hu=>(hb r hr u hu).mono fun _ h=>h.elim
    |mp es=>exact fun e he=>(hb e he).mono fun _ h=>h.elim
    |it m k d=>exact hb.elim
    |si l p=>exact hb.elim
    |dead sz l=>trivial)
  (fun n hn=>by
   have hm:n∈List.range' 1000000 ext.length:=by
    simp only[cx]at hn
    cases hq:dz [] ext n with
    |none=>rw[hq]at hn;simp at hn
    |some B=>
     rcases ef hq with ⟨_,h3⟩|⟨j,rfl,hj⟩
     ·simp at h3
     ·have:=(List.getElem?_eq_some_iff.1 hj).1
      simp[List.mem_range'_1]
      omega
   simp only[List.mem_range'_1]at hm
   obtain⟨i,rfl⟩:=Nat.exists_eq_add_of_le hm.1
   rw[ge]
   have:i<ext'.length:=by omega
   simp[this])
 refine⟨hD,hDr v _ (by rw[hv0];exact .pure hlist) (.vs xs)⟩
theorem ajr{P:Program}{rs:List ResultVar}{exts:List Nat}{r:PV}{nb ext':List Box}{fr:AFr}{σ:ASt}(l:List (Nat×Nat×Nat×Nat))(ns:List Nat)(h1:o8 l fr σ)(h2:bv (lifts l fr σ) fun p=>a2l P rs ns exts r nb ext' p.1 p.2):a75 P rs exts r nb ext' fr σ:=⟨l,ns,h1,avs h2⟩
section
variable (P:Program) (rs:List ResultVar) (ns exts0 exts:List Nat) (c m:Nat) (es:List (PV×PV)) (r:PV) (nb ext0':List Box) (fr:AFr) (σ:ASt)
theorem awr:bbu P rs ns exts0 exts c m es r nb ext0' .ret fr σ=ajs P rs ns exts0 exts c m es r nb ext0' fr σ:=(rfl)
theorem ax5:ajs P rs ns exts0 exts c m es r nb ext0' fr σ=bv (aqg P fr σ rs) fun us=>bv (ze σ ns) fun a=>bv (ze σ exts0) fun b=>bv (ag σ c) fun C=>bv (ag σ m) fun M=>match us with
  |some us=>bv (sy σ ns exts us) fun q=>match a,b,q with
   |some (nb0,b1),some (e0,b2),some (us',b3)=>(C=some (.cells [.mh m])∧M=some (.mp es))∧x5 ns exts (b1++(b2++b3))=true∧nb0=nb∧e0=ext0'∧aou us'=r
   |_,_,_=>False
  |none=>False:=by
 simp only[ajs,bv]
 rcases aqg P fr σ rs with _|us
 ·rfl
 ·simp only
  rcases ze σ ns with _|⟨nb0,b1⟩<;>(try rfl)<;>rcases ze σ exts0 with _|⟨e0,b2⟩<;>(try rfl)<;>rcases sy σ ns exts us with _|⟨us',b3⟩<;>rfl
end
attribute [go_sem ↓] awr ax5
theorem awx(P:Program)(rs:List ResultVar)(exts:List Nat)(r:PV)(nb ext':List Box)(fr:AFr)(σ:ASt):a6n P rs exts r nb ext' .ret fr σ=a75 P rs exts r nb ext' fr σ:=(rfl)
theorem av2(fr:AFr)(σ:ASt):lifts [] fr σ=(fr,σ):=(rfl)
theorem aof(slot n e sz:Nat)(r:List (Nat×Nat×Nat×Nat))(fr:AFr)(σ:ASt):lifts ((slot,n,e,sz)::r) fr σ=lifts r ((slot,.os n 0)::fr) (uj σ n (.arr e sz false [])):=(rfl)
theorem ajm(fr:AFr)(σ:ASt):o8 [] fr σ=True:=(rfl)
theorem afg(slot n e sz:Nat)(r:List (Nat×Nat×Nat×Nat))(fr:AFr)(σ:ASt):o8 ((slot,n,e,sz)::r) fr σ=(bv (look fr slot) (fun u=>u= .nils)∧bv (ag σ n) (fun B=>B=none)∧0<sz∧bv (uj σ n (.arr e sz false [])) fun σ'=>o8 r ((slot,.os n 0)::fr) σ'):=(rfl)
attribute [go_sem ↓] awx av2 aof ajm afg
attribute [go_sem ↓] avj a5h a0o a7g a7m ba7 a5a a8q a4r a2k at2 a7e ars aol ah2 aus ays aon
attribute [go_sem] Classical.not_not false_imp_iff true_imp_iff s6 adm yw ji a2r uy aky aye a7b a6a a83 auc a64 beq_iff_eq beq_eq_false_iff_ne x5 aky noH okC okN x9 aw3 bem List.zipIdx_cons List.zipIdx_nil List.foldl_cons List.foldl_nil List.set_cons_zero List.set_cons_succ List.set_nil gt_iff_lt ge_iff_le List.getElem?_cons_zero List.getElem?_cons_succ List.getElem?_nil a85 a2m rnm bn wm nbD vw List.zip_cons_cons List.zip_nil_left List.zip_nil_right List.forall_mem_cons Option.isNone_none Option.isNone_some List.getD_cons_zero List.getD_cons_succ List.map_map
end Go.Proofs.Am
