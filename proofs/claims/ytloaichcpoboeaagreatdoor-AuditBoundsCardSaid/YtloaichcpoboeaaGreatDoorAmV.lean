/- AmV. -/
import Derived.Test.YtloaichcpoboeaaGreatDoorAmU
set_option linter.unusedSimpArgs false
set_option linter.unusedVariables false
namespace Go.Proofs.Am
open Go Go.RowKit
variable {P:Program}
def aaz{α:Type}(p:α->Prop):List α->Prop
 |[]=>True
 |a::r=>p a/\aaz p r
theorem allL_iff{α:Type}{p:α->Prop}{l:List α}:aaz p l↔∀a∈l,p a:=by
 induction l with
 |nil=>simp[aaz]
 |cons a r ih=>simp[aaz,ih]
theorem a7k{α:Type}(p:α->Prop):aaz p []=True:=(rfl)
theorem aw8{α:Type}(p:α->Prop)(a:α)(r:List α):aaz p (a::r)=(p a/\aaz p r):=(rfl)
def bbi(cargs:List PV)(ext:List Box)(r:PV)(nb ext':List Box)(ren:List Nat)(us:List PV)(dst:Option Nat)(σ:ASt)(K:KT):Prop:=
 bv (sy σ ren us) fun p=>bv (a5n σ ren) fun q=>match p,q with
 |some (c,ns1),some (e,ns2)=>(c=cargs/\e=ext)/\(ut ren=true/\al0 ren (ns1++ns2)=true/\aek ext ext'/\aaz api nb/\(qm (dst.getD 0) nb).all (fun n=>(ah σ n).isNone)=true/\nb.length<1000000/\okR nb.length ext.length r)/\
   bv (bfm (rnm (dst.getD 0) ren) r) fun u=>bv (vj σ (dst.getD 0) (ns1++ns2) ren ext' nb) fun δ=>K u δ ((ns1++ns2)++(ren++qm (dst.getD 0) nb))
 |_,_=>False
theorem call{P:Program}{k:FuncId}{caps cargs:List PV}{ext:List Box}{r:PV}{nb ext':List Box}(D:Den P k cargs ext r nb ext')(ren:List Nat){us:List PV}{dst:Option Nat}{σ:ASt}{K:KT}
  (h:bbi cargs ext r nb ext' ren (us++caps) dst σ K):yb P (.fn k caps) us dst σ K:=by
 simp only[bbi,bv]at h;split at h
 ·rename_i c ns1 e ns2 h1 h2;obtain⟨⟨rfl,rfl⟩,⟨a1,a2,a3,a4,a5,a6,a7⟩,hK⟩:=h;refine⟨k,caps,c,e,r,nb,ext',ext',ns1,ns2,ren,dst.getD 0,rfl,D,h1,a3w h2,jw a1,fun n hn=>iz a2 hn,(aoc a3 nb.length e.length (rnm (dst.getD 0) ren)).1,(aoc a3 nb.length e.length (rnm (dst.getD 0) ren)).2,allL_iff.1 a4,fun n hn=> ?_,a6,a7,rfl,hK⟩;have:=List.all_eq_true.1 a5 n hn;simpa using this
 ·exact h.elim
def azz(cargs:List PV)(ext0:List Box)(el sz kk:Nat)(xs:List (List PV))(r:PV)(nb ext0':List Box)(ren0:List Nat)(c m:Nat)(ren:List Nat)(us:List PV)(dst:Option Nat)(σ:ASt)(K:KT):Prop:=
 bv (sy σ ren us) fun p=>bv (a5n σ ren0) fun q=>bv (ah σ c) fun C=>bv (ah σ m) fun M=>match p,q with
 |some (cg,ns1),some (e,ns2)=>(cg=cargs/\e=ext0/\C=some (.cells [.os m kk])/\M=some (.arr el sz false xs))/\(ut ren=true/\al0 ren (ns1++ns2)=true/\aek ext0 ext0'/\aaz api nb/\(qm (dst.getD 0) nb).all (fun n=>(ah σ n).isNone)=true/\nb.length<1000000/\okR nb.length (ext0.length+2) r)/\
   bv (bfm (rnm (dst.getD 0) ren) r) fun u=>bv (vj σ (dst.getD 0) (ns1++ns2) ren (ext0'++[.cells [.os m kk],.arr el sz false xs]) nb) fun δ=>K u δ ((ns1++ns2)++(ren++qm (dst.getD 0) nb))
 |_,_=>False
theorem aii{P:Program}{k:FuncId}{caps cargs:List PV}{ext:List Box}{el sz kk:Nat}{xs:List (List PV)}{r:PV}{nb ext':List Box}(D:Den P k cargs ext r nb ext')(ext0 ext0':List Box)(ren0:List Nat)(c m:Nat)(ren:List Nat)
  (hE:ext=ext0++[.cells [.os (1000000+(ext0.length+1)) kk],.arr el sz false xs]) (hE':ext'=ext0'++[.cells [.os (1000000+(ext0.length+1)) kk],.arr el sz false xs]) (hR:ren=ren0++[c,m]) {us:List PV} {dst:Option Nat} {σ:ASt} {K:KT}
  (h:azz cargs ext0 el sz kk xs r nb ext0' ren0 c m ren (us++caps) dst σ K):yb P (.fn k caps) us dst σ K:=by
 simp only[azz,bv]at h;split at h
 rotate_left
 ·exact h.elim
 rename_i cg ns1 e ns2 h1 h2;obtain⟨⟨rfl,rfl,hC,hMp⟩,⟨a1,a2,a3,a4,a5,a6,a7⟩,hK⟩:=h;obtain⟨l1,l2,l3⟩:=vk h2;obtain⟨k1,k2⟩:=q9 a3;have hnd:=jw a1;have hlen:ext.length=e.length+2:=by rw[hE];simp
 have hc:ren[e.length]? =some c:=by rw[hR,List.getElem?_append_right (by omega),l1];simp
 have hm:ren[e.length+1]? =some m:=by rw[hR,List.getElem?_append_right (by omega),l1];simp
 have hidx:my ren m=some (e.length+1):=j7 hnd hm;have hc':ext[e.length]? =some (.cells [.os (1000000+(e.length+1)) kk]):=by rw[hE,List.getElem?_append_right (by omega)];simp
 have hm':ext[e.length+1]? =some (.arr el sz false xs):=by rw[hE,List.getElem?_append_right (by omega)];simp
 have hc2:ext'[e.length]? =some (.cells [.os (1000000+(e.length+1)) kk]):=by rw[hE',List.getElem?_append_right (by omega),k1];simp
 have hm2:ext'[e.length+1]? =some (.arr el sz false xs):=by rw[hE',List.getElem?_append_right (by omega),k1];simp
 have hc3:(ext0'++[.cells [.os m kk],.arr el sz false xs])[e.length]? =some (.cells [.os m kk]):=by rw[List.getElem?_append_right (by omega),k1];simp
 have hm3:(ext0'++[.cells [.os m kk],.arr el sz false xs])[e.length+1]? =some (.arr el sz false xs):=by rw[List.getElem?_append_right (by omega),k1];simp
 have h3: ∀(j:Nat),j<e.length+2->j<e.length\/j=e.length\/j=e.length+1:=fun j hj=>by omega
 refine⟨k,caps,cg,ext,r,nb,ext',ext0'++[.cells [.os m kk],.arr el sz false xs],ns1,ns2,ren,dst.getD 0,rfl,D,h1,⟨by rw[hlen,hR];simp[l1],l2,fun j n hj=> ?_⟩,hnd,fun n hn=>iz a2 hn,⟨?_,fun j a hj=> ?_⟩,⟨?_,fun j b hj=> ?_⟩,allL_iff.1 a4,fun n hn=> ?_,a6,by rw[hlen];exact a7,rfl,hK⟩
 ·have hjl:j<e.length+2:=by
   have:=(cr.1 hj).1;rw[hR]at this;simp at this;omega
  rcases h3 j hjl with hjl|rfl|rfl
  ·have hj0:ren0[j]? =some n:=by
    rw[hR,List.getElem?_append_left (by omega)]at hj;exact hj
   have he:ext[j]? =e[j]?:=by rw[hE,List.getElem?_append_left hjl]
   rw[he];rcases l3 j n hj0 with h|h
   ·exact .inr (.inr (.inl h))
   ·exact .inr (.inl h)
  ·rw[hc]at hj
   cases hj
   exact .inl ⟨[.os m kk],[.os (1000000+(e.length+1)) kk],[],hC,by simp[je,x9,hidx],by simp,hc'⟩
  ·rw[hm]at hj
   cases hj
   exact .inr (.inl ⟨_,_,_,hMp,hm'⟩)
 ·rw[hE,hE'];simp[k1]
 ·have hjl:j<e.length+2:=by
   have:=(cr.1 hj).1;omega
  rcases h3 j hjl with hjl|rfl|rfl
  ·rw[hE,List.getElem?_append_left hjl]at hj;obtain⟨b,q1,q2,_⟩:=k2 j a hj;exact⟨b,by rw[hE',List.getElem?_append_left (by omega)];exact q1,q2⟩
  ·rw[hc']at hj
   cases hj
   exact⟨_,hc2,trivial⟩
  ·rw[hm']at hj
   cases hj
   exact⟨_,hm2,rfl,Nat.le_refl _⟩
 ·rw[hE'];simp
 ·have hjl:j<e.length+2:=by
   have:=(cr.1 hj).1;rw[hE']at this;simp at this;omega
  rcases h3 j hjl with hjl|rfl|rfl
  ·rw[hE',List.getElem?_append_left (by omega)]at hj;refine⟨b,by rw[List.getElem?_append_left (by omega)];exact hj,.inl ⟨?_,rfl⟩⟩;obtain⟨b',q1,_,q2⟩:=k2 j _ (a8 hjl);rw[hj]at q1
   cases q1
   exact q2
  ·rw[hc2]at hj
   cases hj
   refine⟨_,hc3,.inr ⟨_,rfl,fun u hu=> ?_,?_⟩⟩
   ·simp only[List.mem_singleton]at hu;subst hu;exact .inr ⟨by omega,by omega⟩
   ·have hn: ¬(1000000+(e.length+1)<1000000):=by omega
    have hr:rnm (dst.getD 0) ren (1000000+(e.length+1))=m:=by
     simp only[rnm,if_neg hn,Nat.add_sub_cancel_left,aw,hm,Option.getD_some]
    simp only[List.map_cons,List.map_nil,a5z,hr]
  ·rw[hm2]at hj
   cases hj
   exact⟨_,hm3,.inl ⟨trivial,rfl⟩⟩
 ·have:=List.all_eq_true.1 a5 n hn;simpa using this
theorem a1q:aek [] []=True:=(rfl)
theorem au4(a b:Box)(as bs:List Box):aek (a::as) (b::bs)=(arw a b/\api b/\aek as bs):=(rfl)
theorem akz(as bs:List PV):arw (.cells as) (.cells bs)=True:=(rfl)
theorem azr(e sz e' sz':Nat)(sh sh':Bool)(xs xs':List (List PV)):arw (.arr e sz sh xs) (.arr e' sz' sh' xs')=(sz'=sz/\xs.length<=xs'.length):=(rfl)
theorem a64(e sz:Nat)(sh:Bool)(xs:List (List PV)):api (.arr e sz sh xs)=True:=(rfl)
theorem aut(cs:List PV):api (.cells cs)=aaz noH cs:=propext allL_iff.symm
theorem a78(b:Bool):Hin (fun _=>False) (.bool b)=True:=eq_true (.bool b)
theorem bfb(k:IntKind)(n:Int):Hin (fun _=>False) (.int k n)=True:=eq_true (.int k n)
theorem bd7(l:List UInt8):Hin (fun _=>False) (.str l)=True:=eq_true (.str l)
theorem bga(xs:List (List PV)):Hin (fun _=>False) (.vs xs)=True:=eq_true (.vs xs)
theorem aw0(cs:List PV):Hin (fun _=>False) (.agg cs)=aaz (Hin (fun _=>False)) cs:=propext ⟨fun h=>by cases h with|agg _ h=>exact allL_iff.2 h,fun h=> .agg cs (allL_iff.1 h)⟩
theorem bdx(f:FuncId):Hin (fun _=>False) (.fn f [])=True:=eq_true (.fn f [] (by simp))
theorem ag{ops:List Oper}{g:Log}(h:ag1 ops.toArray g.reverse=true):okD ops g:=h
theorem da{P:Program}{N:Nat}{c:Code}{Q:t7}{fr:AFr}{σ:ASt}(slot n e sz:Nat)(sh:Bool)(h:wv P N (.loop c) Q ((slot,.os n 0)::fr) (mn σ n (.arr e sz sh [])))(hs:bv (look fr slot) fun u=>u= .nils)(hn:bv (ah σ n) fun B=>B=none)(hz:0<sz):wv P N (.loop c) Q fr σ:=by
 intro x a hv w hG;have h':W P N (.loop c) Q ((slot,.os n 0)::fr) (mn σ n (.arr e sz sh [])):=h;have hn':ah σ n=none:=hn;have hs':look fr slot= .nils:=hs
 obtain⟨hS,hE⟩:=hG.sim.new (d:=n) (B:= .arr e sz sh []) (hd:= .slice none 0 0) (w':=w) hn' rfl rfl rfl (Nat.le_refl _) (fun _ _=>rfl) (fun b hb=>by cases hb)
  (fun E _=>⟨hz,[],⟨by simp,.inl ⟨rfl,rfl⟩⟩,by simp,by simp,fun i y j u hy hu=>by simp at hy⟩)
 refine h' x a (upd hv n (.slice none 0 0)) w ⟨by rw[ax];exact hS,hG.size,hG.defers,fun t=> ?_⟩;rw[ax];simp only[look];split
 ·rename_i hst;subst hst;have hr:=hG.regs slot;rw[hs']at hr;rw[hr.nils_inv];exact .os ⟨⟨none,0,rfl⟩,.arr e sz sh [],sz,0,aq _ _ _,rfl,Nat.le_refl _,fun _=>(aq _ _ _).symm⟩
 ·exact(hG.regs t).mono hE
theorem bbt(n m:Nat)(us:List PV):okR n m (.tup us)=aaz (okC n m) us:=propext allL_iff.symm
theorem a6n(n m:Nat)(b:Bool):okR n m (.bool b)=True:=eq_true (.bool b)
theorem bb3(n m:Nat)(k:IntKind)(i:Int):okR n m (.int k i)=True:=eq_true (.int k i)
theorem bez(n m:Nat)(l:List UInt8):okR n m (.str l)=True:=eq_true (.str l)
theorem bgi(n m:Nat)(xs:List (List PV)):okR n m (.vs xs)=True:=eq_true (.vs xs)
theorem bco(n m:Nat)(cs:List PV):okR n m (.agg cs)=aaz noH cs:=aw0 cs
theorem beq(n m:Nat)(cs:List PV):okR n m (.ago cs)=aaz (okA n m) cs:=propext allL_iff.symm
theorem bde(n m:Nat)(cs:List PV):okC n m (.ago cs)=aaz (okA n m) cs:=propext allL_iff.symm
theorem a87(ns:List Nat):a61 ns []=false:=(rfl)
theorem ayl(ns:List Nat)(u:PV)(r:List PV):a61 ns (u::r)=(match u with| .os n _=>ns.contains n||a61 ns r|_=>a61 ns r):=by cases u<;>rfl
theorem bh0(n m j k:Nat):okR n m (.os j k)=okN n m j:=(rfl)
theorem bbe(n m j k:Nat):okR n m (.ptr j k)=okN n m j:=(rfl)
theorem Den.vs{P:Program}{k:FuncId}{args:List PV}{ext ext':List Box}{e sz:Nat}{sh:Bool}{xs:List (List PV)}{n:Nat}(D:Den P k args ext (.os 0 n) [.arr e sz sh xs] ext')(hn:n=xs.length)(hx:aaz api ext')(hl:ext'.length=ext.length):Den P k args ext (.vs xs) [] ext':=by
 refine⟨D.enter,fun w V hv gc vals h1 h2 h3=>(D.run w V hv gc vals h1 h2 h3).mono fun en w'=> ?_⟩;rintro⟨v,hv',rfl,hS,hR⟩;refine⟨v,hv',rfl,?_⟩;have hsh:=hS.shared (dj (dz [.arr e sz sh xs] ext') [0]);have h0:ar (dz [.arr e sz sh xs] ext') [0] 0=some (.arr e sz true xs):=by simp[ar,dz,Box.share]
 have hlist:=hsh.1.asList h0
 have hv0:v=hv' 0:=by
  have:dz [.arr e sz sh xs] ext' 0=some (.arr e sz sh xs):=rfl;obtain⟨_,e1,sz1,sh1,xs1,k1,k2,k3⟩:=hR.os_arr this;rw[this]at k1
  cases k1
  exact k3 hn
 obtain⟨hD,hDr⟩:=hsh.1.drop (s':=dz [] ext') (fun n B hB=>by
   rcases eh hB with ⟨_,h⟩|⟨j,rfl,h⟩
   ·simp at h
   ·have: ¬(1000000+j∈[0]):=by simp
    simp only[ar,if_neg this,gn];exact h)
  (fun n B hB=>by
   rcases eh hB with ⟨_,h⟩|⟨j,rfl,h⟩
   ·simp at h
   ·have hb:=allL_iff.1 hx B (List.mem_of_getElem? h)
    cases B with
    |arr=>trivial
    |cells cs=>exact fun u hu=>(hb u hu).mono fun _ h=>h.elim
    |arh e sz xs=>exact fun r hr u hu=>(hb r hr u hu).mono fun _ h=>h.elim
    |mp es=>exact fun e he=>(hb e he).mono fun _ h=>h.elim
    |it m k d=>exact hb.elim
    |si l p=>exact hb.elim
    |arq e sz k xs=>exact hb.elim
    |dead sz l=>trivial)
  (fun n hn=>by
   have hm:n∈List.range' 1000000 ext.length:=by
    simp only[cx]at hn
    cases hq:dz [] ext n with
    |none=>rw[hq]at hn;simp at hn
    |some B=>
     rcases eh hq with ⟨_,h3⟩|⟨j,rfl,hj⟩
     ·simp at h3
     ·have:=(cr.1 hj).1;simp[List.mem_range'_1];omega
   simp only[List.mem_range'_1]at hm;obtain⟨i,rfl⟩:=Nat.exists_eq_add_of_le hm.1;rw[gn];have:i<ext'.length:=by omega
   simp[this])
 refine⟨hD,hDr v _ (by rw[hv0];exact .pure hlist) (.vs xs)⟩
theorem aea{P:Program}{rs:List ResultVar}{exts:List Nat}{r:PV}{nb ext':List Box}{fr:AFr}{σ:ASt}(l:List (Nat×Nat×Nat×Nat))(ns:List Nat)(h1:pt l fr σ)(h2:bv (lifts l fr σ) fun p=>a8c P rs ns exts r nb ext' p.1 p.2):bfi P rs exts r nb ext' fr σ:=⟨l,ns,h1,avp h2⟩
section
variable (P:Program) (rs:List ResultVar) (ns exts0 exts:List Nat) (c m:Nat) (es:List (PV×PV)) (r:PV) (nb ext0':List Box) (fr:AFr) (σ:ASt)
theorem a8b:bgr P rs ns exts0 exts c m es r nb ext0' fr σ=bv (anm P fr σ rs) fun us=>bv (uj σ ns) fun a=>bv (uj σ exts0) fun b=>bv (ah σ c) fun C=>bv (ah σ m) fun M=>match us with
  |some us=>bv (p8 σ ns exts us) fun q=>match a,b,q with
   |some (nb0,b1),some (e0,b2),some (us',b3)=>(C=some (.cells [.mh m])/\M=some (.mp es))/\qu ns exts (b1++(b2++b3))=true/\nb0=nb/\e0=ext0'/\ajs us'=r
   |_,_,_=>False
  |none=>False:=by
 simp only[bgr,bv];rcases anm P fr σ rs with _|us
 ·rfl
 ·simp only;rcases uj σ ns with _|⟨nb0,b1⟩<;>(try rfl)<;>rcases uj σ exts0 with _|⟨e0,b2⟩<;>(try rfl)<;>rcases p8 σ ns exts us with _|⟨us',b3⟩<;>rfl
end
section
variable (P:Program) (rs:List ResultVar) (ns exts0 exts:List Nat) (c m el sz kk:Nat) (xs:List (List PV)) (r:PV) (nb ext0':List Box) (fr:AFr) (σ:ASt)
theorem ah6:bep P rs ns exts0 exts c m el sz kk xs r nb ext0' .normal fr σ=aid P rs ns exts0 exts c m el sz kk xs r nb ext0' fr σ:=(rfl)
theorem a23:bep P rs ns exts0 exts c m el sz kk xs r nb ext0' .ret fr σ=aid P rs ns exts0 exts c m el sz kk xs r nb ext0' fr σ:=(rfl)
theorem a3l:aid P rs ns exts0 exts c m el sz kk xs r nb ext0' fr σ=bv (anm P fr σ rs) fun us=>bv (uj σ ns) fun a=>bv (uj σ exts0) fun b=>bv (ah σ c) fun C=>bv (ah σ m) fun M=>match us with
  |some us=>bv (p8 σ ns exts us) fun q=>match a,b,q with
   |some (nb0,b1),some (e0,b2),some (us',b3)=>(C=some (.cells [.os m kk])/\M=some (.arr el sz false xs))/\qu ns exts (b1++(b2++b3))=true/\nb0=nb/\e0=ext0'/\ajs us'=r
   |_,_,_=>False
  |none=>False:=by
 simp only[aid,bv];rcases anm P fr σ rs with _|us
 ·rfl
 ·simp only;rcases uj σ ns with _|⟨nb0,b1⟩<;>(try rfl)<;>rcases uj σ exts0 with _|⟨e0,b2⟩<;>(try rfl)<;>rcases p8 σ ns exts us with _|⟨us',b3⟩<;>rfl
end
attribute [go_sem ↓] ah6 a23 a3l a8b
theorem azi(P:Program)(rs:List ResultVar)(exts:List Nat)(r:PV)(nb ext':List Box)(fr:AFr)(σ:ASt):bcn P rs exts r nb ext' .ret fr σ=bfi P rs exts r nb ext' fr σ:=(rfl)
theorem a2d(fr:AFr)(σ:ASt):lifts [] fr σ=(fr,σ):=(rfl)
theorem atp(slot n e sz:Nat)(r:List (Nat×Nat×Nat×Nat))(fr:AFr)(σ:ASt):lifts ((slot,n,e,sz)::r) fr σ=lifts r ((slot,.os n 0)::fr) (mn σ n (.arr e sz false [])):=(rfl)
theorem amk(fr:AFr)(σ:ASt):pt [] fr σ=True:=(rfl)
theorem ahn(slot n e sz:Nat)(r:List (Nat×Nat×Nat×Nat))(fr:AFr)(σ:ASt):pt ((slot,n,e,sz)::r) fr σ=(bv (look fr slot) (fun u=>u= .nils)/\bv (ah σ n) (fun B=>B=none)/\0<sz/\bv (mn σ n (.arr e sz false [])) fun σ'=>pt r ((slot,.os n 0)::fr) σ'):=(rfl)
attribute [go_sem ↓] azi a2d atp amk ahn
attribute [go_sem ↓] azz bbt a6n bb3 bez bgi bco beq bde ai6 a87 ayl bh0 bbe a7k aw8 bbi a1q au4 akz azr a64 aut
attribute [go_sem] true_or Classical.not_not false_imp_iff true_imp_iff sy ai5 x9 je a5n ut al0 a78 bfb bd7 bga aw0 bdx beq_iff_eq beq_eq_false_iff_ne qu al0 noH okC okA bin okN xl a0q bk4 List.zipIdx_cons List.zipIdx_nil List.foldl_cons List.foldl_nil List.set_cons_zero List.set_cons_succ List.set_nil gt_iff_lt ge_iff_le List.getElem?_cons_zero List.getElem?_cons_succ List.getElem?_nil bfm a5z rnm bn vj nbD qm List.zip_cons_cons List.zip_nil_left List.zip_nil_right List.forall_mem_cons Option.isNone_none Option.isNone_some List.getD_cons_zero List.getD_cons_succ List.map_map
end Go.Proofs.Am
