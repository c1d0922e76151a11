/- AmSF. -/
import Derived.Test.YthidogjdclkoeaaGreatDoorAmX
import Derived.Test.YthidogjdclkoeaaGreatDoorAmZ
import Derived.Test.YthidogjdclkoeaaGreatDoorAmDr
import Derived.Shelf.SlSortCmp.NoneTotal
set_option linter.unusedSimpArgs false
set_option linter.unusedVariables false
namespace Go.Proofs.Am
open Go Go.RowKit Go.Sort
variable {P:Program}
theorem a6h{pc:Addr->Value->Prop}{v:Value}{u:PV}(h:RP pc v u)(ho:eh u=true):v.oneCell'=true:=by
 cases h<;>first|rfl|cases ho
theorem axb{w:World}{e K g n cap q:Nat}{ys:List Value}{zs:Array Value}{os:Array Obj}(h:w.ownsRow 0 e K (.slice (some ⟨g,0,none⟩) n cap) n ys)(hz:zs.size=n*K):
  (grow (putRow id (Sort.ahead w q) g 0 zs) os).ownsRow 0 e K (.slice (some ⟨g,0,none⟩) n cap) n zs.toList:=by
 refine akl ?_;rcases h.2 with ⟨e0,_⟩|⟨g',cap',cur,e0,hb,hg,hn,hm,hs,ht⟩
 ·cases e0
 ·injection e0 with e1 _ e3
  injection e1 with e1
  injection e1 with e1
  subst e1;subst e3;have hle:n*K<=cap*K:=Nat.mul_le_mul_right K hn;refine⟨by simp[hz],.inr ⟨g,cap,putCells id 0 zs cur,rfl,hb,?_,hn,hm,by simpa [putCells] using hs,?_⟩⟩
  ·simp[putRow,mapBlock,Sort.ahead,Array.getElem?_modify,hg,onCells]
  ·apply List.ext_getElem?;intro j;rw[List.getElem?_take,Array.getElem?_toList,Array.getElem?_toList];by_cases hj:j<n*K
   ·have hjc:j<cur.size:=by omega
    simp only[if_pos hj,putCells,Array.getElem?_mapIdx,Array.getElem?_eq_getElem hjc,Option.map_some];rw[if_pos (by simp;omega),Array.getElem?_eq_getElem (by omega)];simp[getElem!_pos,show j<zs.size by omega]
   ·rw[if_neg hj,Array.getElem?_eq_none (by omega)]
theorem xt{w:World}{g q:Nat}{d:Array Value}{os:Array Obj}{b:Nat}(hb:b<w.heap.size)(hne:b≠g):(grow (putRow id (Sort.ahead w q) g 0 d) os).heap[b]? =w.heap[b]?:=by
 have h1:(grow (putRow id (Sort.ahead w q) g 0 d) os).heap[b]? =(putRow id (Sort.ahead w q) g 0 d).heap[b]?:=by
  simp only[grow];rw[Array.getElem?_append_left];simpa [putRow,mapBlock,Sort.ahead] using hb
 rw[h1];have:g≠b:=fun h=>hne h.symm;simp[putRow,mapBlock,Sort.ahead,Array.getElem?_modify,this]
theorem a2a{w:World}{V:Addr->Prop}{hv:Nat->Value}{gc:Nat->Obj->Prop}{e K g cap q:Nat}{rows new:List (List PV)}{zs:Array Value}{os:Array Obj}(sh:Bool)
  (h:SimW (cx (P:=P) w V hv [.arr e K false rows] gc) (d4 [] [.arr e K false rows]) hv w)
  (hg:hv 1000000= .slice (some ⟨g,0,none⟩) rows.length cap) (hn:new.length=rows.length) (hz:zs.size=new.length*K) (hK: ∀x∈new,x.length=K) (h1: ∀x∈new,x.all eh=true)
  (hbt:mr P e=true) (hr: ∀i x j u,new[i]? =some x->x[j]? =some u->RP (env (cx (P:=P) w V hv [.arr e K false rows] gc) (d4 [] [.arr e K false rows]) hv w).pc (zs.toList.getD (i*K+j) Go.undef) u):
  SimW (cx (P:=P) w V hv [.arr e K false rows] gc) (d4 [] [.arr e K sh new]) hv (grow (putRow id (Sort.ahead w q) g 0 zs) os):=by
 have h0:d4 [] [.arr e K false rows] 1000000=some (.arr e K false rows):=rfl;obtain⟨hK0,ys,hown,_⟩:=h.box 1000000 _ h0;have hown:=hown.own (rp hbt);rw[<-ajs (.arr e K false rows)];refine(h.write (w':=grow (putRow id (Sort.ahead w q) g 0 zs) os) (n:=1000000) h0 (B':= .arr e K sh new) ?_ ?_ rfl rfl rfl ?_ ?_ ?_).1
 ·exact⟨_,rfl,by simp[hn],fun _=>rfl⟩
 ·intro off hp;exact hp
 ·simp[grow,putRow,mapBlock,Sort.ahead]
 ·intro b hb hne;rw[hg]at hne;exact xt hb fun e=>hne (by rw[e];rfl)
 ·intro E hE;rw[hg]at hown ⊢;refine⟨hK0,zs.toList,?_,hK,h1,fun i x j u hx hu=>(hr i x j u hx hu).mono hE.pc⟩;rw[hn];exact .of (axb hown (by rw[hz,hn]))
theorem akr{k e K g:Nat}{α:Type}{l new:List α}{F:α->List PV}{cf:α->α->Int}
  (henter: ∀us w,(callFunc k us).run P w= .ok (.enter k us) w) (hll:l.length<4611686018427387904)
  (hsort: ∀(m:Nat) (enc:Fin (m+1)->List Value) (hk: ∀x,(enc x).length=K) (h1: ∀x,∀v∈enc x,v.oneCell'=true) (c:Fin (m+1)->Fin (m+1)->Int) (hO:SWO (ltOf c)) (b cap:Nat) (d:Array (Fin (m+1))) (w:World)
   (hcmp:CmpLays P g #[] enc K c b 0 d.size w) (hH:HoldsK enc K w b 0 d) (hblk:b<w.heap.size) (hsz:d.size<4611686018427387904),
   Calls P k #[.slice (some ⟨b,0,none⟩) d.size cap,.func (.func g) #[] #[]] w fun e w'=>e= .returned (.tuple #[])/\∃d' n os,PermIn 0 d.size d d'/\SortedIn (ltOf c) 0 d.size d'/\w'=sortWorldK enc K w b 0 n d' os)
  (hnone: ∀p cap fv w,Calls P k #[.slice p 0 cap,fv] w fun e w'=>e= .returned (.tuple #[])/\w'=w)
  (D: ∀x∈l,∀y∈l,Den P g [.agg (F x),.agg (F y)] [] (.int .i64 (cf x y)) [] [])
  (hirr: ∀x∈l,¬cf x x<0) (htr: ∀x∈l,∀y∈l,∀z∈l,cf x y<0->cf y z<0->cf x z<0) (hnt: ∀x∈l,∀y∈l,∀z∈l,¬cf x y<0->¬cf y z<0->¬cf x z<0)
  (hanti: ∀x∈l,∀y∈l,¬cf x y<0->¬cf y x<0->x=y) (hperm:new.Perm l) (hso:new.Pairwise fun x y=> ¬cf y x<0) (hbt:mr P e=true:=by kernel_rfl):
  Den P k [.os 1000000 l.length,.fn g []] [.arr e K false (l.map F)] (.tup []) [] [.arr e K false (new.map F)]:=by
 refine⟨henter,fun w V hv gc vals hS hlen hval=> ?_⟩;have h0:d4 [] [.arr e K false (l.map F)] 1000000=some (.arr e K false (l.map F)):=rfl;obtain⟨hK0,ys,hown,hsz,h1p,hcell⟩:=hS.box 1000000 _ h0;have hown:=hown.own (rp hbt);rw[List.length_map]at hown
 obtain⟨v,v2,hv1⟩: ∃v v2,vals=[v,v2]:=by
  match vals,hlen with
  |[v,v2],_=>exact⟨v,v2,rfl⟩
 subst hv1;have hr:=hval 0 v (.os 1000000 l.length) rfl rfl
 have hf:v2= .func (.func g) #[] #[]:=by
  obtain⟨vs,hvs,hl,_⟩:=(hval 1 v2 (.fn g []) rfl rfl).fn_inv;have:vs= #[]:=Array.eq_empty_of_size_eq_zero (by simpa using hl);rw[hvs,this]
 subst hf;obtain⟨⟨a,c,hva⟩,e1,sz1,sh1,xs1,k1,k2,k3⟩:=hr.os_arr h0;rw[h0]at k1
 cases k1
 have hvv:v=hv 1000000:=k3 (by simp);rcases hown.2 with ⟨hn0,hl0⟩|⟨b,cap,cur,hg,_,hh,hc,hcap,hcs,hct⟩
 ·have hl:l=[]:=List.eq_nil_of_length_eq_zero (by omega);subst hl;have hnew:new=[]:=hperm.eq_nil;subst hnew;have hva':v= .slice none 0 0:=by rw[hvv,hn0]
  have hcall:=hnone none 0 (.func (.func g) #[] #[]) w;rw[<-hva']at hcall;refine hcall.mono fun en w'=> ?_;rintro⟨rfl,rfl⟩;exact⟨_,hv,rfl,hS,.pure (.tup rfl fun i u hu=>by simp at hu)⟩
 ·have hlt:=(Array.getElem?_eq_some_iff.1 hh).1;rcases Nat.eq_zero_or_pos l.length with hl0|hlp
  ·have hl:l=[]:=List.eq_nil_of_length_eq_zero hl0;subst hl;have hnew:new=[]:=hperm.eq_nil;subst hnew;have hva':v= .slice (some ⟨b,0,none⟩) 0 cap:=by rw[hvv,hg];rfl
   have hcall:=hnone (some ⟨b,0,none⟩) cap (.func (.func g) #[] #[]) w;rw[<-hva']at hcall;refine hcall.mono fun en w'=> ?_;rintro⟨rfl,rfl⟩;exact⟨_,hv,rfl,hS,.pure (.tup rfl fun i u hu=>by simp at hu)⟩
  ·obtain⟨m,hm⟩: ∃m,l.length=m+1:=⟨l.length - 1,by omega⟩;have hylen:ys.length=(m+1)*K:=by rw[<-hm];exact hown.1
   let enc:Fin (m+1)->List Value:=fun i=>(List.range K).map fun j=>ys.getD (i.1*K+j) Go.undef
   let gt:Fin (m+1)->α:=fun i=>l[i.1]'(by omega)
   let cc:Fin (m+1)->Fin (m+1)->Int:=fun i j=>cf (gt i) (gt j)
   have gtm: ∀i,gt i∈l:=fun i=>List.getElem_mem _
   have hrow: ∀i:Fin (m+1),(l.map F)[i.1]? =some (F (gt i)):=fun i=>by
    rw[List.getElem?_map,bf (by omega)];rfl
   have encl: ∀x,(enc x).length=K:=fun x=>by simp[enc]
   have encg: ∀(i:Fin (m+1)) j,j<K->(enc i)[j]! =ys.getD (i.1*K+j) Go.undef:=fun i j hj=>by simp[enc,hj]
   have hFl: ∀i,(F (gt i)).length=K:=fun i=>hsz _ (List.mem_of_getElem? (hrow i));have encr: ∀(i:Fin (m+1)) j u,(F (gt i))[j]? =some u->RP (env (cx (P:=P) w V hv [.arr e K false (l.map F)] gc) (d4 [] [.arr e K false (l.map F)]) hv w).pc (ys.getD (i.1*K+j) Go.undef) u:=fun i j u hu=>hcell i.1 _ j u (hrow i) hu
   have enc1: ∀x,∀v∈enc x,v.oneCell'=true:=fun x v hvm=>by
    obtain⟨j,hj,rfl⟩:=List.mem_map.1 hvm;have hj':j<(F (gt x)).length:=by rw[hFl];exact List.mem_range.1 hj
    refine a6h (encr x j _ (bf hj')) ?_;exact List.all_eq_true.1 (h1p _ (List.mem_of_getElem? (hrow x))) _ (List.getElem_mem _)
   let d:Array (Fin (m+1)):=(List.finRange (m+1)).toArray
   have ds:d.size=m+1:=by simp[d]
   have dg: ∀t,t<(m+1)*K->(d[t/K]!).1=t/K:=fun t ht=>by
    have:t/K<m+1:=(Nat.div_lt_iff_lt_mul hK0).2 ht;have hds:t/K<d.size:=by omega
    rw[getElem!_pos d _ hds];simp[d]
   have hH:HoldsK enc K w b 0 d:=by
    intro t ht;rw[size_flatK,ds]at ht;have hmod:t % K<K:=Nat.mod_lt _ hK0;have hdm:t/K*K+t % K=t:=by rw[Nat.mul_comm];exact Nat.div_add_mod t K
    rw[get_flatK _ _ _ _ (by rw[ds];exact ht),encg _ _ hmod,dg t ht,hdm]
    have htc:t<cur.size:=by
     have:=Nat.mul_le_mul_right K hc;rw[hm]at this;omega
    have e2:(cur.toList.take (l.length*K))[t]? =ys[t]?:=by rw[hct]
    rw[List.getElem?_take,if_pos (by rw[hm];exact ht),Array.getElem?_toList]at e2;refine⟨?_,by simp[World.frozen?,hh]⟩;simp only[World.cell?,hh,Nat.zero_add,Option.isSome_none,Bool.false_eq_true,if_false,id];rw[e2,bq,bf (by omega),Option.getD_some]
   have hO:SWO (ltOf cc):=by
    refine⟨fun x=> ?_,fun x y z h1 h2=> ?_,fun x y z h1 h2=> ?_⟩
    ·simp only[ltOf,decide_eq_false_iff_not];exact hirr _ (gtm x)
    ·simp only[ltOf,decide_eq_true_eq]at h1 h2 ⊢;exact htr _ (gtm x) _ (gtm y) _ (gtm z) h1 h2
    ·simp only[ltOf,decide_eq_false_iff_not]at h1 h2 ⊢;exact hnt _ (gtm x) _ (gtm y) _ (gtm z) h1 h2
   have hE: ∀bb,(cx (P:=P) w V hv [.arr e K false (l.map F)] gc).E bb->bb=b:=by
    rintro bb ⟨n,B,hB,hb⟩
    have:n=1000000:=by
     unfold d4 at hB;by_cases h1:n<1000000
     ·simp[h1]at hB
     ·simp only[if_neg h1]at hB
      cases hk:n - 1000000 with
      |zero=>omega
      |succ q=>rw[hk]at hB;simp at hB
    subst this;rw[hg]at hb
    cases hb
    rfl
   have hEb:(cx (P:=P) w V hv [.arr e K false (l.map F)] gc).E b:=⟨1000000,_,h0,by rw[hg];rfl⟩
   have hcmp:CmpLays P g #[] enc K cc b 0 d.size w:=by
    intro q os dk hdk x y
    have hL:Laid P (sortWorldK enc K w b 0 q dk os):=hS.tabs _ fun bb o hb=>by
     have hb1:=hS.glb bb o hb;have hlt2:bb<w.heap.size:=(Array.getElem?_eq_some_iff.1 hb1.1).1;unfold sortWorldK putRowK;rw[xt hlt2 (fun e=>hb1.2 (by rw[e];exact hEb))];exact hb1.1
    have hxy:=D _ (gtm x) _ (gtm y)
    have hag: ∀i:Fin (m+1),RP (fun a z=>(sortWorldK enc K w b 0 q dk os).cell? a=some z/\True) (.agg (enc i).toArray) (.agg (F (gt i))):=fun i=>by
     refine .agg (by simp[encl,hFl]) fun j u hu=> ?_
     have hj:j<K:=by
      have:=(ca.1 hu).1;rw[hFl]at this;exact this
     have e3:(enc i).toArray.getD j Go.undef=ys.getD (i.1*K+j) Go.undef:=by
      simp[Array.getD,enc,hj]
     rw[e3];refine RP.mono (fun a z ha=>⟨?_,trivial⟩) (encr i j u hu);have hne:a.block≠b:=fun e=>ha.2.2 1000000 _ h0 (by rw[hg,e];rfl);have hlt2:=block_lt_of_cell ha.1;refine(World.cell?_of_block ?_).trans ha.1;unfold sortWorldK putRowK;exact xt hlt2 hne
    have hcall:=x5 hxy (sortWorldK enc K w b 0 q dk os) hL (fun _=>True) [.agg (enc x).toArray,.agg (enc y).toArray] rfl (by
     intro i v u hi hu
     match i with
     |0=>cases hi;cases hu;exact hag x
     |1=>cases hi;cases hu;exact hag y
     |i+2=>simp at hi)
    refine(api hcall).mono fun en w'=> ?_;rintro⟨⟨v,rfl,hgr,E,hrv,_⟩,hlow⟩
    have hd:(sortWorldK enc K w b 0 q dk os).drawn<=w'.drawn:=by
     rcases hlow with h|h
     ·cases h
     ·exact h
    refine⟨by rw[hrv.int_inv],w'.drawn - (sortWorldK enc K w b 0 q dk os).drawn,w'.heap.extract (sortWorldK enc K w b 0 q dk os).heap.size w'.heap.size,?_⟩;generalize sortWorldK enc K w b 0 q dk os=W at hgr hd
    have e4:w'.heap=W.heap++w'.heap.extract W.heap.size w'.heap.size:=by
     apply Array.ext_getElem?;intro t;by_cases ht:t<W.heap.size
     ·rw[Array.getElem?_append_left ht];exact hgr.block t ht (by simp)
     ·rw[Array.getElem?_append_right (by omega)];by_cases ht2:t<w'.heap.size
      ·rw[Array.getElem?_eq_getElem ht2,Array.getElem?_eq_getElem (by simp;omega)];simp only[Array.getElem_extract];congr 2;omega
      ·rw[Array.getElem?_eq_none (by omega),Array.getElem?_eq_none (by simp;omega)]
    cases w' with
    |mk hp tp dr ox ou=>
     obtain⟨h1,h2,h3,h4,h5⟩:=hgr;simp only at h1 h2 h3 e4 hd;simp only[grow,World.drewN];rw[<-h1,<-h2,<-h3,<-e4];congr 1;omega
   have hbig:d.size<4611686018427387904:=by
    rw[ds,<-hm];exact hll
   have hcall:=hsort m enc encl enc1 cc hO b cap d w hcmp hH hlt hbig;have hv3:v= .slice (some ⟨b,0,none⟩) d.size cap:=by rw[hvv,hg,ds,hm]
   rw[<-hv3]at hcall;refine hcall.mono fun en w'=> ?_;rintro⟨rfl,d',q,os,hpi,hsi,rfl⟩
   have hp':d'.toList.Perm (List.finRange (m+1)):=by
    have h2:=hpi.2.2;have e5:d'.extract 0 d.size=d':=by rw[<-hpi.1];exact Array.extract_size
    rw[e5,Array.extract_size]at h2;simpa [d] using h2
   have hfin:(List.finRange (m+1)).map gt=l:=by
    apply List.ext_getElem (by simp[hm]);intro i h1 h2;simp[gt]
   have hpl:(d'.toList.map gt).Perm l:=by
    have:=hp'.map gt
    rwa [hfin]at this
   have hsl:(d'.toList.map gt).Pairwise fun x y=> ¬cf y x<0:=by
    rw[List.pairwise_map,List.pairwise_iff_getElem];intro i j hi hj hij;have hi':i<d'.size:=by simpa using hi
    have hj':j<d'.size:=by simpa using hj
    have:=hsi i j (Nat.zero_le _) hij (by rw[<-hpi.1];exact hj');rw[getElem!_pos d' j hj',getElem!_pos d' i hi']at this;simpa [ltOf,cc] using this
   have hnew:d'.toList.map gt=new:=by
    refine List.Perm.eq_of_pairwise (le:=fun x y=> ¬cf y x<0) (fun x y hx hy h1 h2=> ?_) hsl hso (hpl.trans hperm.symm);have hx':x∈l:=hpl.mem_iff.1 hx;have hy':y∈l:=hperm.mem_iff.1 hy;exact hanti x hx' y hy' h2 h1
   have hds':d'.size=m+1:=hpi.1.trans ds;have hnl:new.length=l.length:=hperm.length_eq
   have hni: ∀i x,(new.map F)[i]? =some x->∃hi:i<d'.size,x=F (gt (d'[i]'hi)):=fun i x hx=>by
    rw[List.getElem?_map,<-hnew,List.getElem?_map,Array.getElem?_toList]at hx;rcases Nat.lt_or_ge i d'.size with hi|hi
    ·rw[Array.getElem?_eq_getElem hi]at hx;exact⟨hi,by simpa using hx.symm⟩
    ·rw[Array.getElem?_eq_none hi]at hx;simp at hx
   refine⟨_,hv,rfl,?_,.pure (.tup rfl fun i u hu=>by simp at hu)⟩;refine a2a false hS (by rw[hg,List.length_map]) (by simp[hnl]) (by rw[size_flatK,hds',List.length_map,hnl,hm]) (fun x hx=> ?_) (fun x hx=> ?_) hbt fun i x j u hx hu=> ?_
   ·obtain⟨i,hi⟩:=List.mem_iff_getElem?.1 hx;obtain⟨h1,rfl⟩:=hni i x hi;exact hFl _
   ·obtain⟨i,hi⟩:=List.mem_iff_getElem?.1 hx;obtain⟨h1,rfl⟩:=hni i x hi;exact h1p _ (List.mem_of_getElem? (hrow _))
   ·obtain⟨hi,rfl⟩:=hni i x hx
    have hj:j<K:=by
     have:=(ca.1 hu).1;rw[hFl]at this;exact this
    have ht:i*K+j<d'.size*K:=by
     have:=Nat.mul_le_mul_right K (show i+1<=d'.size from hi);rw[Nat.add_mul,Nat.one_mul]at this;omega
    have q1:(i*K+j)/K=i:=by rw[Nat.mul_comm,Nat.mul_add_div hK0,Nat.div_eq_of_lt hj,Nat.add_zero]
    have q2:(i*K+j) % K=j:=by rw[Nat.mul_comm,Nat.mul_add_mod,Nat.mod_eq_of_lt hj]
    have e6:(flatK enc K d').toList.getD (i*K+j) Go.undef=ys.getD ((d'[i]'hi).1*K+j) Go.undef:=by
     have:=get_flatK enc K d' (i*K+j) ht;rw[q1,q2,getElem!_pos d' i hi,encg _ _ hj,getElem!_pos _ _ (by rw[size_flatK];exact ht)]at this;rw[bq,Array.getElem?_toList,Array.getElem?_eq_getElem (by rw[size_flatK];exact ht),Option.getD_some,this]
    rw[e6];exact encr _ j u hu
end Go.Proofs.Am
