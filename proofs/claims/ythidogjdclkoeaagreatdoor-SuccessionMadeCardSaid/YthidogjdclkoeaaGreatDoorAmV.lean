/- AmV. -/
import Derived.Test.YthidogjdclkoeaaGreatDoorAmU
set_option linter.unusedSimpArgs false
set_option linter.unusedVariables false
namespace Go.Proofs.Am
open Go Go.RowKit
variable {P:Program}
def acv{α:Type}(p:α->Prop):List α->Prop
 |[]=>True
 |a::r=>p a/\acv p r
theorem allL_iff{α:Type}{p:α->Prop}{l:List α}:acv p l↔∀a∈l,p a:=by
 induction l with
 |nil=>simp[acv]
 |cons a r ih=>simp[acv,ih]
theorem ax0{α:Type}(p:α->Prop):acv p []=True:=(rfl)
theorem arm{α:Type}(p:α->Prop)(a:α)(r:List α):acv p (a::r)=(p a/\acv p r):=(rfl)
def a0p(cargs:List PV)(ext:List Box)(r:PV)(nb ext':List Box)(ren:List Nat)(us:List PV)(dst:Option Nat)(σ:ASt)(K:KT):Prop:=
 bv (ud σ ren us) fun p=>bv (a0b σ ren) fun q=>match p,q with
 |some (c,ns1),some (e,ns2)=>(c=cargs/\e=ext)/\(xk ren=true/\ak4 ren (ns1++ns2)=true/\aej ext ext'/\acv amp nb/\(vw (dst.getD 0) nb).all (fun n=>(ah σ n).isNone)=true/\nb.length<1000000/\okR nb.length ext.length r)/\
   bv (a47 (rnm (dst.getD 0) ren) r) fun u=>bv (xi σ (dst.getD 0) (ns1++ns2) ren ext' nb) fun δ=>K u δ ((ns1++ns2)++(ren++vw (dst.getD 0) nb))
 |_,_=>False
theorem call{P:Program}{k:FuncId}{caps cargs:List PV}{ext:List Box}{r:PV}{nb ext':List Box}(D:Den P k cargs ext r nb ext')(ren:List Nat){us:List PV}{dst:Option Nat}{σ:ASt}{K:KT}
  (h:a0p cargs ext r nb ext' ren (us++caps) dst σ K):y9 P (.fn k caps) us dst σ K:=by
 simp only[a0p,bv]at h;split at h
 ·rename_i c ns1 e ns2 h1 h2;obtain⟨⟨rfl,rfl⟩,⟨a1,a2,a3,a4,a5,a6,a7⟩,hK⟩:=h;refine⟨k,caps,c,e,r,nb,nb,ext',ext',ns1,ns2,ren,dst.getD 0,rfl,D,h1,aj5 h2,lp a1,fun n hn=>jk a2 hn,(ux a3 nb.length e.length (rnm (dst.getD 0) ren)).1,(ux a3 nb.length e.length (rnm (dst.getD 0) ren)).2,a4r (allL_iff.1 a4),fun n hn=> ?_,a6,a7,rfl,hK⟩;have:=List.all_eq_true.1 a5 n hn;simpa using this
 ·exact h.elim
def aqg(cargs:List PV)(ext:List Box)(r:PV)(e sz:Nat)(xs2:Nat->List (List PV))(nb ext':List Box)(ren:List Nat)(us:List PV)(dst:Option Nat)(σ:ASt)(K:KT):Prop:=
 bv (ud σ ren us) fun p=>bv (a0b σ ren) fun q=>match p,q with
 |some (c,ns1),some (e0,ns2)=>(c=cargs/\e0=ext)/\(xk ren=true/\ak4 ren (ns1++ns2)=true/\aej ext ext'/\acv amp nb/\(vw (dst.getD 0) (.arh e sz (xs2 (dst.getD 0))::nb)).all (fun n=>(ah σ n).isNone)=true/\nb.length<999999/\okR (nb.length+1) ext.length r)/\
   bv (a47 (rnm (dst.getD 0) ren) r) fun u=>bv (xi σ (dst.getD 0) (ns1++ns2) ren ext' (.arh e sz (xs2 (dst.getD 0))::nb)) fun δ=>K u δ ((ns1++ns2)++(ren++vw (dst.getD 0) (.arh e sz (xs2 (dst.getD 0))::nb)))
 |_,_=>False
theorem a8c{P:Program}{k:FuncId}{caps cargs:List PV}{ext:List Box}{r:PV}{e sz:Nat}{xs:List (List PV)}{nb ext':List Box}(D:Den P k cargs ext r (.arh e sz xs::nb) ext')(ren:List Nat)(xs2:Nat->List (List PV))
  (hok: ∀x∈xs,∀u∈x,okA (nb.length+1) ext.length u) (hx: ∀d,xs.map (List.map (avo (rnm d ren)))=xs2 d) {us:List PV} {dst:Option Nat} {σ:ASt} {K:KT}
  (h:aqg cargs ext r e sz xs2 nb ext' ren (us++caps) dst σ K):y9 P (.fn k caps) us dst σ K:=by
 simp only[aqg,bv]at h;split at h
 ·rename_i c ns1 e0 ns2 h1 h2;obtain⟨⟨rfl,rfl⟩,⟨a1,a2,a3,a4,a5,a6,a7⟩,hK⟩:=h;refine⟨k,caps,c,e0,r,.arh e sz xs::nb,.arh e sz (xs2 (dst.getD 0))::nb,ext',ext',ns1,ns2,ren,dst.getD 0,rfl,D,h1,aj5 h2,lp a1,fun n hn=>jk a2 hn,(ux a3 0 0 (rnm (dst.getD 0) ren)).1,(ux a3 _ e0.length (rnm (dst.getD 0) ren)).2,⟨rfl,fun j B hj=> ?_⟩,fun n hn=> ?_,by simp only[List.length_cons];omega,a7,rfl,hK⟩
  ·cases j with
   |zero=>
    simp at hj;subst hj
    exact⟨_,rfl,.inr ⟨e,sz,xs,rfl,hok,by rw[hx]⟩⟩
   |succ j=>
    have hj':nb[j]? =some B:=by simpa using hj
    exact⟨B,by simpa using hj',.inl ⟨allL_iff.1 a4 B (List.mem_of_getElem? hj'),rfl⟩⟩
  ·have:=List.all_eq_true.1 a5 n hn;simpa using this
 ·exact h.elim
theorem apj:aej [] []=True:=(rfl)
theorem am2(a b:Box)(as bs:List Box):aej (a::as) (b::bs)=(aoe a b/\amp b/\aej as bs):=(rfl)
theorem ags(as bs:List PV):aoe (.cells as) (.cells bs)=True:=(rfl)
theorem asg(e sz e' sz':Nat)(sh sh':Bool)(xs xs':List (List PV)):aoe (.arr e sz sh xs) (.arr e' sz' sh' xs')=(sz'=sz/\xs.length<=xs'.length):=(rfl)
theorem awo(e sz:Nat)(sh:Bool)(xs:List (List PV)):amp (.arr e sz sh xs)=True:=(rfl)
theorem alu(cs:List PV):amp (.cells cs)=acv noH cs:=propext allL_iff.symm
theorem av1(b:Bool):Hin (fun _=>False) (.bool b)=True:=eq_true (.bool b)
theorem a1u(k:IntKind)(n:Int):Hin (fun _=>False) (.int k n)=True:=eq_true (.int k n)
theorem a2e(l:List UInt8):Hin (fun _=>False) (.str l)=True:=eq_true (.str l)
theorem a58(xs:List (List PV)):Hin (fun _=>False) (.vs xs)=True:=eq_true (.vs xs)
theorem au0(cs:List PV):Hin (fun _=>False) (.agg cs)=acv (Hin (fun _=>False)) cs:=propext ⟨fun h=>by cases h with|agg _ h=>exact allL_iff.2 h,fun h=> .agg cs (allL_iff.1 h)⟩
theorem a3f(f:FuncId):Hin (fun _=>False) (.fn f [])=True:=eq_true (.fn f [] (by simp))
theorem ae{ops:List Oper}{g:Log}(h:ad9 ops.toArray g.reverse=true):okD ops g:=h
theorem dm{P:Program}{N:Nat}{c:Code}{Q:o8}{fr:AFr}{σ:ASt}(slot n e sz:Nat)(sh:Bool)(h:wv P N (.loop c) Q ((slot,.os n 0)::fr) (qn σ n (.arr e sz sh [])))(hs:bv (look fr slot) fun u=>u= .nils)(hn:bv (ah σ n) fun B=>B=none)(hz:0<sz):wv P N (.loop c) Q fr σ:=by
 intro x a hv w hG;have h':W P N (.loop c) Q ((slot,.os n 0)::fr) (qn σ n (.arr e sz sh [])):=h;have hn':ah σ n=none:=hn;have hs':look fr slot= .nils:=hs
 obtain⟨hS,hE⟩:=hG.sim.new (d:=n) (B:= .arr e sz sh []) (hd:= .slice none 0 0) (w':=w) hn' rfl rfl rfl (Nat.le_refl _) (fun _ _=>rfl) (fun b hb=>by cases hb)
  (fun E _=>⟨hz,[],⟨by simp,.inl ⟨rfl,rfl⟩⟩,by simp,by simp,fun i y j u hy hu=>by simp at hy⟩)
 refine h' x a (upd hv n (.slice none 0 0)) w ⟨by rw[bi];exact hS,hG.size,hG.defers,fun t=> ?_⟩;rw[bi];simp only[look];split
 ·rename_i hst;subst hst;have hr:=hG.regs slot;rw[hs']at hr;rw[hr.nils_inv];exact .os ⟨⟨none,0,rfl⟩,.arr e sz sh [],sz,0,ap _ _ _,rfl,Nat.le_refl _,fun _=>(ap _ _ _).symm⟩
 ·exact(hG.regs t).mono hE
theorem a3s(n m:Nat)(us:List PV):okR n m (.tup us)=acv (okC n m) us:=propext allL_iff.symm
theorem ax1(n m:Nat)(b:Bool):okR n m (.bool b)=True:=eq_true (.bool b)
theorem a33(n m:Nat)(k:IntKind)(i:Int):okR n m (.int k i)=True:=eq_true (.int k i)
theorem a3v(n m:Nat)(l:List UInt8):okR n m (.str l)=True:=eq_true (.str l)
theorem a6x(n m:Nat)(xs:List (List PV)):okR n m (.vs xs)=True:=eq_true (.vs xs)
theorem a16(n m:Nat)(cs:List PV):okR n m (.agg cs)=acv noH cs:=au0 cs
theorem ay9(ns:List Nat):awg ns []=false:=(rfl)
theorem au3(ns:List Nat)(u:PV)(r:List PV):awg ns (u::r)=(match u with| .os n _=>ns.contains n||awg ns r|_=>awg ns r):=by cases u<;>rfl
theorem a5h(n m j k:Nat):okR n m (.os j k)=okN n m j:=(rfl)
theorem a1e(n m j k:Nat):okR n m (.ptr j k)=okN n m j:=(rfl)
theorem Den.vs{P:Program}{k:FuncId}{args:List PV}{ext ext':List Box}{e sz:Nat}{sh:Bool}{xs:List (List PV)}{n:Nat}(D:Den P k args ext (.os 0 n) [.arr e sz sh xs] ext')(hn:n=xs.length)(hx:acv amp ext')(hl:ext'.length=ext.length):Den P k args ext (.vs xs) [] ext':=by
 refine⟨D.enter,fun w V hv gc vals h1 h2 h3=>(D.run w V hv gc vals h1 h2 h3).mono fun en w'=> ?_⟩;rintro⟨v,hv',rfl,hS,hR⟩;refine⟨v,hv',rfl,?_⟩;have hsh:=hS.shared (dp (d4 [.arr e sz sh xs] ext') [0]);have h0:ar (d4 [.arr e sz sh xs] ext') [0] 0=some (.arr e sz true xs):=by simp[ar,d4,Box.share]
 have hlist:=hsh.1.asList h0
 have hv0:v=hv' 0:=by
  have:d4 [.arr e sz sh xs] ext' 0=some (.arr e sz sh xs):=rfl;obtain⟨_,e1,sz1,sh1,xs1,k1,k2,k3⟩:=hR.os_arr this;rw[this]at k1
  cases k1
  exact k3 hn
 obtain⟨hD,hDr⟩:=hsh.1.drop (s':=d4 [] ext') (fun n B hB=>by
   rcases eg hB with ⟨_,h⟩|⟨j,rfl,h⟩
   ·simp at h
   ·have: ¬(1000000+j∈[0]):=by simp
    simp only[ar,if_neg this,gk];exact h)
  (fun n B hB=>by
   rcases eg hB with ⟨_,h⟩|⟨j,rfl,h⟩
   ·simp at h
   ·have hb:=allL_iff.1 hx B (List.mem_of_getElem? h)
    cases B with
    |arr=>trivial
    |cells cs=>exact fun u hu=>(hb u hu).mono fun _ h=>h.elim
    |arh e sz xs=>exact fun r hr u hu=>(hb r hr u hu).mono fun _ h=>h.elim
    |mp es=>exact fun e he=>(hb e he).mono fun _ h=>h.elim
    |it m k d=>exact hb.elim
    |si l p=>exact hb.elim
    |arq e sz k xs=>exact hb.elim
    |dead sz l=>trivial)
  (fun n hn=>by
   have hm:n∈List.range' 1000000 ext.length:=by
    simp only[cx]at hn
    cases hq:d4 [] ext n with
    |none=>rw[hq]at hn;simp at hn
    |some B=>
     rcases eg hq with ⟨_,h3⟩|⟨j,rfl,hj⟩
     ·simp at h3
     ·have:=(ca.1 hj).1;simp[List.mem_range'_1];omega
   simp only[List.mem_range'_1]at hm;obtain⟨i,rfl⟩:=Nat.exists_eq_add_of_le hm.1;rw[gk];have:i<ext'.length:=by omega
   simp[this])
 refine⟨hD,hDr v _ (by rw[hv0];exact .pure hlist) (.vs xs)⟩
theorem ahc{P:Program}{rs:List ResultVar}{exts:List Nat}{r:PV}{nb ext':List Box}{fr:AFr}{σ:ASt}(l:List (Nat×Nat×Nat×Nat))(ns:List Nat)(h1:n7 l fr σ)(h2:bv (lifts l fr σ) fun p=>avc P rs ns exts r nb ext' p.1 p.2):a30 P rs exts r nb ext' fr σ:=⟨l,ns,h1,agm h2⟩
section
variable (P:Program) (rs:List ResultVar) (ns exts0 exts:List Nat) (c m:Nat) (es:List (PV×PV)) (r:PV) (nb ext0':List Box) (fr:AFr) (σ:ASt)
theorem awf:a6w P rs ns exts0 exts c m es r nb ext0' fr σ=bv (ahq P fr σ rs) fun us=>bv (ug σ ns) fun a=>bv (ug σ exts0) fun b=>bv (ah σ c) fun C=>bv (ah σ m) fun M=>match us with
  |some us=>bv (o5 σ ns exts us) fun q=>match a,b,q with
   |some (nb0,b1),some (e0,b2),some (us',b3)=>(C=some (.cells [.mh m])/\M=some (.mp es))/\pq ns exts (b1++(b2++b3))=true/\nb0=nb/\e0=ext0'/\afi us'=r
   |_,_,_=>False
  |none=>False:=by
 simp only[a6w,bv];rcases ahq P fr σ rs with _|us
 ·rfl
 ·simp only;rcases ug σ ns with _|⟨nb0,b1⟩<;>(try rfl)<;>rcases ug σ exts0 with _|⟨e0,b2⟩<;>(try rfl)<;>rcases o5 σ ns exts us with _|⟨us',b3⟩<;>rfl
end
section
variable (P:Program) (rs:List ResultVar) (ns exts0 exts:List Nat) (c m el sz kk:Nat) (xs:List (List PV)) (r:PV) (nb ext0':List Box) (fr:AFr) (σ:ASt)
end
attribute [go_sem ↓] awf
section
variable (P:Program) (rs:List ResultVar) (n0:Nat) (ns1 exts:List Nat) (r:PV) (e sz:Nat) (xs:List (List PV)) (nb1 ext':List Box) (fr:AFr) (σ:ASt)
theorem ap5:a6u P rs n0 ns1 exts r e sz xs nb1 ext' .ret fr σ=agq P rs n0 ns1 exts r e sz xs nb1 ext' fr σ:=(rfl)
theorem av5:agq P rs n0 ns1 exts r e sz xs nb1 ext' fr σ=bv (ahq P fr σ rs) fun us=>bv (ug σ ns1) fun a=>bv (ug σ exts) fun b=>bv (ah σ n0) fun C=>match us with
  |some us=>bv (o5 σ (n0::ns1) exts us) fun q=>match a,b,q with
   |some (nb0,b1),some (e0,b2),some (us',b3)=>(C=some (.arh e sz xs)/\∀x∈xs,∀u∈x,okI (n0::ns1) u)/\pq (n0::ns1) exts (b1++(b2++b3))=true/\nb0=nb1/\e0=ext'/\afi us'=r
   |_,_,_=>False
  |none=>False:=by
 simp only[agq,bv];rcases ahq P fr σ rs with _|us
 ·rfl
 ·simp only;rcases ug σ ns1 with _|⟨nb0,b1⟩<;>(try rfl)<;>rcases ug σ exts with _|⟨e0,b2⟩<;>(try rfl)<;>rcases o5 σ (n0::ns1) exts us with _|⟨us',b3⟩<;>rfl
end
attribute [go_sem ↓] ap5 av5 aqg
theorem asj(P:Program)(rs:List ResultVar)(exts:List Nat)(r:PV)(nb ext':List Box)(fr:AFr)(σ:ASt):a3q P rs exts r nb ext' .ret fr σ=a30 P rs exts r nb ext' fr σ:=(rfl)
theorem as0(fr:AFr)(σ:ASt):lifts [] fr σ=(fr,σ):=(rfl)
theorem amx(slot n e sz:Nat)(r:List (Nat×Nat×Nat×Nat))(fr:AFr)(σ:ASt):lifts ((slot,n,e,sz)::r) fr σ=lifts r ((slot,.os n 0)::fr) (qn σ n (.arr e sz false [])):=(rfl)
theorem ahm(fr:AFr)(σ:ASt):n7 [] fr σ=True:=(rfl)
theorem aeg(slot n e sz:Nat)(r:List (Nat×Nat×Nat×Nat))(fr:AFr)(σ:ASt):n7 ((slot,n,e,sz)::r) fr σ=(bv (look fr slot) (fun u=>u= .nils)/\bv (ah σ n) (fun B=>B=none)/\0<sz/\bv (qn σ n (.arr e sz false [])) fun σ'=>n7 r ((slot,.os n 0)::fr) σ'):=(rfl)
attribute [go_sem ↓] asj as0 amx ahm aeg
attribute [go_sem ↓] a3s ax1 a33 a3v a6x a16 afa ay9 au3 a5h a1e ax0 arm a0p apj am2 ags asg awo alu
attribute [go_sem] true_or Classical.not_not false_imp_iff true_imp_iff ud afm ab2 jw a0b xk ak4 av1 a1u a2e a58 au0 a3f beq_iff_eq beq_eq_false_iff_ne pq ak4 noH okC okA avo okN wd au9 a9x List.zipIdx_cons List.zipIdx_nil List.foldl_cons List.foldl_nil List.set_cons_zero List.set_cons_succ List.set_nil gt_iff_lt ge_iff_le List.getElem?_cons_zero List.getElem?_cons_succ List.getElem?_nil a47 a3p rnm bn xi nbD vw List.zip_cons_cons List.zip_nil_left List.zip_nil_right List.forall_mem_cons Option.isNone_none Option.isNone_some List.getD_cons_zero List.getD_cons_succ List.map_map
end Go.Proofs.Am
