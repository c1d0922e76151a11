/- AmJF. -/
import Derived.Test.YthidogjdclkoeaaGreatDoorAmTwo
set_option linter.unusedSimpArgs false
set_option linter.unusedVariables false
namespace Go.Proofs.Am
open Go Go.RowKit
variable {P:Program}
theorem OwnQ.cellAt{w:World}{e sz n cap g o:Nat}{xs:List Value}(h:OwnQ w e sz (.slice (some ⟨g,o,none⟩) n cap) n xs)(j:Nat)(hj:j<n*sz):w.cell? ⟨g,o+j,none⟩=xs[j]?:=by
 rcases h.2 with ⟨h',_⟩|⟨g',o',cap',cur,fz,h',_,hg,_,hsz,htake⟩
 ·simp at h'
 ·simp only[Value.slice.injEq,Option.some.injEq,Addr.mk.injEq,and_true,true_and]at h';obtain⟨⟨rfl,rfl⟩,rfl⟩:=h';rw[cell_of_row w g (o+j) cur e fz hg,<-htake,List.getElem?_take,if_pos hj,List.getElem?_drop];simp
theorem OwnQ.tail{w:World}{e sz n cap i:Nat}{a:Option Addr}{xs:List Value}(h:OwnQ w e sz (.slice a n cap) n xs)(hi:i<=n):
  OwnQ w e sz (.slice (if cap=i then a else a.map (·.add (i*sz))) (n - i) (cap - i)) (n - i) (xs.drop (i*sz)):=by
 refine⟨by rw[List.length_drop,h.1,Nat.sub_mul],?_⟩;rcases h.2 with ⟨h',h0⟩|⟨g,o,cap',cur,fz,h',hf,hg,hc,hsz,htake⟩
 ·simp only[Value.slice.injEq]at h';obtain⟨rfl,rfl,rfl⟩:=h';left;have:i=0:=by omega
  subst this;simp
 ·simp only[Value.slice.injEq]at h';obtain⟨rfl,_,rfl⟩:=h';right;by_cases hci:cap=i
  ·have hn:n=i:=by omega
   subst hci;refine⟨g,o,0,cur,fz,?_,hf,hg,by omega,by omega,?_⟩
   ·rw[if_pos rfl,hn,Nat.sub_self]
   ·rw[hn,Nat.sub_self,Nat.zero_mul,List.take_zero];rw[List.drop_eq_nil_of_le (by rw[h.1,hn];exact Nat.le_refl _)]
  ·have hm:i*sz<=cap*sz:=Nat.mul_le_mul_right _ (by omega);refine⟨g,o+i*sz,cap - i,cur,fz,?_,hf,hg,by omega,?_,?_⟩
   ·rw[if_neg hci,Option.map_some,d8]
   ·rw[Nat.sub_mul];omega
   ·rw[<-htake,List.drop_take,List.drop_drop,<-Nat.sub_mul]
theorem agt{P:Program}{w:World}(t tx ty e:TypeId)(d:TypeDesc)(i:TypeInfo)(z:Value)(size bytes:Nat)(ht:P.underlying t=some (.slice e))(htx:P.underlying tx=some d)(hd: ∀k,d≠ .int k)
  (hi:P.info? e=some i) (hz:i.zero=some z) (hsize:i.size=size) (hby:i.bytes=bytes) (hzs:z.cells.size=size) (hsz:0<size) (hbp:0<bytes)
  (v:Value) (n:Nat) (xs:List Value) (hown:OwnQ w e size v n xs) (x:Value) (m:Nat) (news:List Value) (hs:Src P w size x m news) (hbytes:(n+m)*bytes<=140737488355328):
  ∃v' w',(Builtin.append_ #[t,tx] ty #[v,x]).run P w= .ok v' w'/\OwnQ w' e size v' (n+m) (xs++news)/\w.grownBy w' (blk v)/\
   (blk v'=blk v\/∃b,blk v'=some b/\w.heap.size<=b):=by
 subst hsize;subst hby;have hnm:n+m<=140737488355328:=Nat.le_trans (Nat.le_mul_of_pos_right _ hbp) hbytes;have h63:n+m<=maxLen:=by simp only[maxLen];omega
 have hso:du P e=some i.size:=by simp[du,hi]
 have hop:=fun a n c=>jo t tx ty e d i.size ht htx hd hso a n c x m w hs.len;have hgw:=fun a n c=>jc t tx ty e d i i.size ht htx hd hso hi a n c x m w hs.len;have hlen:(xs++news).length=(n+m)*i.size:=by rw[List.length_append,hown.1,hs.length,Nat.add_mul]
 have grown: ∀(old:Nat),old<n+m->∀(row:Option Nat),
   OwnQ (w.drew.alloc (.cells (xs.toArray++news.toArray++Builtin.zeroCells z.cells (grownCap w (n+m) old e - (n+m))) e)) e i.size
    (.slice (some ⟨w.heap.size,0,none⟩) (n+m) (grownCap w (n+m) old e)) (n+m) (xs++news)/\
   w.grownBy (w.drew.alloc (.cells (xs.toArray++news.toArray++Builtin.zeroCells z.cells (grownCap w (n+m) old e - (n+m))) e)) row:=by
  intro old ho row;have hge:=grownCap_ge w (n+m) old e;refine⟨⟨hlen,.inr ⟨w.heap.size,0,_,_,(0,0),rfl,.inl rfl,heap_alloc_new w.drew _,hge,?_,?_⟩⟩,⟨rfl,rfl,rfl,by simp,fun k hk _=>heap_alloc_old w.drew _ hk⟩⟩
  ·simp only[Array.size_append,List.size_toArray,size_zeroCells,hzs,hown.1,hs.length,<-Nat.add_mul,Nat.zero_add];refine Nat.mul_le_mul_right _ ?_;omega
  ·simp only[Array.toList_append,List.append_assoc,List.drop_zero];rw[<-List.append_assoc,<-hlen];exact List.take_left
 rcases hown.2 with ⟨rfl,rfl⟩|⟨g,o,cap,cur,fz,rfl,hfz,hg,hnc,hcs,htake⟩
 ·have hx:xs=[]:=List.eq_nil_of_length_eq_zero (by simpa using hown.1);subst hx;by_cases hm:m=0
  ·subst hm;have hn:news=[]:=List.eq_nil_of_length_eq_zero (by simpa using hs.length);subst hn;refine⟨.slice none 0 0,w,?_,⟨by simp,.inl ⟨rfl,rfl⟩⟩,⟨rfl,rfl,rfl,Nat.le_refl _,fun _ _ _=>rfl⟩,.inl rfl⟩;have hc:=hs.cells;rw[hop _ _ _ (Nat.le_refl _),hc];rfl
  ·have hg0: ¬(0+m<=0):=by omega
   have hgr:=grown 0 (by omega) (blk (.slice none 0 0));simp only[Nat.zero_add]at hgr;have hfit:=growslice_fits (need:=m) (old:=0) (bytes:=i.bytes) (by omega) (by simpa using hbytes);have hc':=hs.cells';refine⟨_,_,?_,by simpa using hgr.1,hgr.2,.inr ⟨w.heap.size,rfl,Nat.le_refl _⟩⟩;have h48: ¬(Builtin.nextslicecap m 0*i.bytes>2^48):=by simp only[Nat.reducePow];omega
   have hmi: ¬((9223372036854775807:Int)<(m:Int)):=by omega
   rw[hgw _ _ _ hg0 (by omega) (by simpa using h48)];generalize Builtin.firstCells i.size m x=f at hc' ⊢;simp[hmi,h48,typeInfo,zeroValue,hi,hz,Builtin.firstCells,Question.forced,newRow,grownCap,hc']
 ·by_cases hroom:n+m<=cap
  ·have hml:(n+m)*i.size<=cap*i.size:=Nat.mul_le_mul_right _ hroom;rw[Nat.add_mul]at hml;have hfit:o+n*i.size+news.length<=cur.size:=by rw[hs.length];omega
   have hst:=bx P g (o+n*i.size) e fz news 0 cur w hg hfz (by simpa using hfit) hs.one;simp only[Nat.add_zero]at hst
   refine⟨.slice (some ⟨g,o,none⟩) (n+m) cap,_,?_,⟨hlen,.inr ⟨g,o,cap,_,fz,rfl,?_,setRow_heap w g cur (cur.toList.take (o+n*i.size)++news++cur.toList.drop (o+n*i.size+news.length)).toArray e _ hg,hroom,?_,?_⟩⟩,
    ⟨rfl,rfl,rfl,by simp,fun k _ hk=>setRow_other w g k _ (fun e=>hk (by simp[blk,e]))⟩,.inl rfl⟩
   ·rw[hop _ _ _ hroom,hs.cells];simp[d8,hst]
   ·have he:(cur.toList.take (o+n*i.size)++news++cur.toList.drop (o+n*i.size+news.length)).toArray.size=cur.size:=by
     simp only[List.size_toArray,List.length_append,List.length_take,List.length_drop,Array.length_toList];omega
    rw[he];exact hfz
   ·simp only[List.size_toArray,List.length_append,List.length_take,List.length_drop,Array.length_toList];omega
   ·have h1:(cur.toList.take (o+n*i.size)).drop o=xs:=by
     rw[List.drop_take,Nat.add_sub_cancel_left,htake]
    have h2:o<=(cur.toList.take (o+n*i.size)).length:=by
     rw[List.length_take,Array.length_toList];omega
    show((cur.toList.take (o+n*i.size)++news++cur.toList.drop (o+n*i.size+news.length)).drop o).take ((n+m)*i.size)=xs++news;rw[List.append_assoc,List.drop_append_of_le_length h2,h1,<-List.append_assoc,<-hlen];exact List.take_left
  ·have hge: ¬(n+m<=cap):=hroom;have hgr:=grown cap (by omega) (blk (.slice (some ⟨g,o,none⟩) n cap));have hfit:=growslice_fits (need:=n+m) (old:=cap) (bytes:=i.bytes) (by omega) hbytes;have hc':=hs.cells'
   have hold:(loadCells (⟨g,o,none⟩:Addr) (n*i.size)).run P w.drew= .ok xs.toArray w.drew:=by
    have:=run_loadCells_list (P:=P) w.drew ⟨g,o,none⟩ xs (fun j u hu=>by
     rw[d8];have hj:j<n*i.size:=by rw[<-hown.1];exact(ca.1 hu).1
     exact(hown.cellAt j hj).trans hu)
    rwa [hown.1]at this
   refine⟨_,_,?_,hgr.1,hgr.2,.inr ⟨w.heap.size,rfl,Nat.le_refl _⟩⟩;have h48: ¬(Builtin.nextslicecap (n+m) cap*i.bytes>2^48):=by simp only[Nat.reducePow];omega
   have hmi: ¬((9223372036854775807:Int)<(n:Int)+(m:Int)):=by omega
   rw[hgw _ _ _ hge hmi h48];generalize Builtin.firstCells i.size m x=f at hc' ⊢;simp[hmi,h48,typeInfo,zeroValue,hi,hz,Builtin.firstCells,Question.forced,newRow,grownCap,hold,hc',Array.append_assoc];rw[<-Array.append_assoc];simp
theorem AppT.runQ{P:Program}{t tx e sz bytes ty:Nat}(h:AppT P t tx e sz bytes){w:World}{v:Value}{n:Nat}{xs:List Value}(hown:OwnQ w e sz v n xs){x:Value}{m:Nat}{news:List Value}(hs:Src P w sz x m news)(hbytes:(n+m)*bytes<=140737488355328):
  ∃v' w',(Builtin.append_ #[t,tx] ty #[v,x]).run P w= .ok v' w'/\OwnQ w' e sz v' (n+m) (xs++news)/\w.grownBy w' (blk v)/\
   (blk v'=blk v\/∃b,blk v'=some b/\w.heap.size<=b):=by
 obtain⟨zs,hz,hzl⟩:=h.hz;obtain⟨it,z,h1,h2,h3⟩:=fg hz;have hsz:=h.hsz;have hby:=h.hby;simp only[du,h1,Option.map_some,Option.some.injEq]at hsz;simp only[bytesOf,h1,Option.map_some,Option.some.injEq]at hby
 have htx: ∃d,P.underlying tx=some d/\∀k,d≠ .int k:=by
  rcases h.htx with hh|hh
  ·obtain⟨e',he'⟩:=Option.isSome_iff_exists.1 hh;exact⟨_,az he',fun k hk=>by cases hk⟩
  ·exact⟨_,fj hh,fun k hk=>by cases hk⟩
 obtain⟨d,hd1,hd2⟩:=htx;exact agt t tx ty e d it z sz bytes (az h.ht) hd1 hd2 h1 h2 hsz hby (by rw[<-h3]at hzl;simpa using hzl) h.h0 h.hb0 v n xs hown x m news hs hbytes
theorem SimW.chg{x:Ctx P}{s:St}{hv:Nat->Value}{w w':World}{n:Nat}{B B':Box}{v':Value}
  (h:SimW x s hv w) (hB:s n=some B) (hp: ∀off,¬B.perm off) (hk:Box.keep B (hv n) B' v')
  (hg:w.grownBy w' (blk (hv n)))
  (hv':blk v'=blk (hv n)\/∃b,blk v'=some b/\w.heap.size<=b)
  (hB': ∀E,Env.le (env x s hv w) E->BoxRep P E w' v' B'):
  SimW x (upd s n (some B')) (upd hv n v') w'/\Env.le (env x s hv w) (env x (upd s n (some B')) (upd hv n v') w'):=by
 have hold: ∀b,b<w.heap.size->blk (hv n)≠some b->w'.heap[b]? =w.heap[b]?:=fun b hb hne=>hg.block b hb (fun e=>hne e.symm)
 have hE:Env.le (env x s hv w) (env x (upd s n (some B')) (upd hv n v') w'):=by
  refine lu (fun a v ha=> ?_) fun m C hC=> ?_
  ·refine⟨?_,ha.2.1,fun m C hC hb=> ?_⟩
   ·by_cases hne:blk (hv n)=some a.block
    ·exact(hp _ (ha.2.2 n _ hB hne)).elim
    ·exact(World.cell?_of_block (hold a.block ha.lt hne)).trans ha.1
   ·by_cases hm:m=n
    ·subst hm;rw[ap]at hC hb
     cases hC
     rcases hv' with h1|⟨b,h1,h2⟩
     ·exact(hp _ (ha.2.2 m _ hB (h1 ▸ hb))).elim
     ·rw[h1]at hb;have hlt:=ha.lt;have:b=a.block:=by simpa using hb
      omega
    ·rw[al _ _ hm]at hC hb;exact ha.2.2 m C hC hb
  ·by_cases hm:m=n
   ·subst hm;rw[hB]at hC
    cases hC
    exact⟨_,ap _ _ _,by rw[ap];exact hk⟩
   ·exact⟨C,by rw[al _ _ hm];exact hC,by rw[al _ _ hm];exact Box.keep_refl _ _⟩
 refine⟨h.step hg.os hg.tape hg.output hg.size hE (fun m hm=>by unfold upd;split<;>simp_all) (fun b hb he=>hold b (Nat.lt_of_lt_of_le hb h.size) fun e=> ?_) fun m C hC=> ?_,hE⟩
 ·rcases h.loc n _ b hB e with h1|h1
  ·omega
  ·exact he h1
 ·by_cases hm:m=n
  ·subst hm;rw[ap]at hC
   cases hC
   refine .inr ⟨by rw[ap];exact hB' _ hE,fun p hp=>Box.keep_trans (h.ext m p _ hp hB) (by rw[ap];exact hk),fun b hb=> ?_⟩;rw[ap]at hb;rcases hv' with h1|⟨b',h1,h2⟩
   ·rw[h1]at hb;refine⟨h.loc m _ b hB hb,fun k C hk hC hbk=> ?_⟩;rw[al _ _ hk]at hC hbk;exact hk (h.inj k m C _ b hC hB hbk hb)
   ·rw[h1]at hb;have:b'=b:=by simpa using hb
    subst this;refine⟨.inl (Nat.le_trans h.size h2),fun k C hk hC hbk=> ?_⟩;rw[al _ _ hk]at hC hbk;have:=h.blk_lt hC hbk;omega
  ·rw[al _ _ hm]at hC;refine .inl ⟨hC,al _ _ hm,fun b hb=>hold b (h.blk_lt hC hb) fun e=> ?_⟩;exact hm (h.inj m n C _ b hC hB hb e)
theorem zf{w:World}{e sz n:Nat}{v:Value}{xs:List Value}(h:OwnQ w e sz v n xs): ∃a c,v= .slice a n c/\n<=c:=by
 rcases h.2 with ⟨rfl,rfl⟩|⟨g,o,cap,cur,fz,rfl,_,_,hc,_⟩
 ·exact⟨none,0,rfl,Nat.le_refl _⟩
 ·exact⟨_,_,rfl,hc⟩
theorem avt{x:Ctx P}{s:St}{hv:Nat->Value}{w:World}{v:Value}{n k e sz:Nat}{xs:List (List PV)}(h:RV (env x s hv w) v (.oq n k))(hs:s n=some (.arq e sz k xs)):v=hv n:=by
 obtain⟨_,B,sz',l,h1,h2,h3,h4⟩:=h.oq_inv;rw[hs]at h1
 cases h1
 simp only[Box.qdim,Option.some.injEq,Prod.mk.injEq]at h2;exact h4 h2.2
theorem ach{P:Program}{o:Oper}{ρ:Operand->PV}{σ:ASt}{t tx e sz bytes:Nat}{y z:Operand}{n k:Nat}{xs ys:List (List PV)}{F:List Nat}(ho:o.op= .call {callee:= .builtin .append,args:= #[y,z],argTypes:= #[t,tx]})
  (hT:AppT P t tx e sz bytes) (hy:ρ y= .oq n k) (hB:ah σ n=some (.arq e sz k xs)) (hbytes:(xs.length+ys.length)*bytes<=140737488355328)
  (hz: ∀(s:St),(∀m∈F,s m=ah σ m)->∀(x:Ctx P) hv w v,SimW x s hv w->RV (env x s hv w) v (ρ z)->ua P (env x s hv w) w sz v ys):
  LOp P o ρ σ (.oq n (k+1)) [(n,.arq e sz (k+1) (xs++ys))] (n::F):=by
 refine⟨by simp,fun s hs x a hv w hW hops next Q hnx=> ?_⟩;have hsn:s n=some (.arq e sz k xs):=(hs n (by simp)).trans hB;have hv1:=hops y (by simp[ho,Op.operands,Call.operands]);have hv2:=hops z (by simp[ho,Op.operands,Call.operands]);rw[hy]at hv1;have hvy:=avt hv1 hsn;obtain⟨hl2,ho2,news,hsrc,hnr⟩:=hz s (fun m hm=>hs m (by simp[hm])) x hv w _ hW hv2;obtain⟨h0,vs,hown,hl1,ho1,hr1⟩:=hW.box n _ hsn;obtain⟨v',w',hrun,k1,k2,k3⟩:=hT.runQ (ty:=o.type) hown hsrc hbytes
 have hG:=hW.chg (B':= .arq e sz (k+1) (xs++ys)) (v':=v') hsn (fun off h=>h) ⟨k+1,rfl,by omega,fun h=>by omega⟩ k2 k3 fun E hE=>by
  refine⟨h0,vs++news,by rw[List.length_append];exact k1,?_,?_,?_⟩
  ·intro r hr;rcases List.mem_append.1 hr with hr|hr
   ·exact hl1 r hr
   ·exact hl2 r hr
  ·intro r hr;rcases List.mem_append.1 hr with hr|hr
   ·exact ho1 r hr
   ·exact ho2 r hr
  ·exact ow hown.1 (fun i r j u hr hu=>(hr1 i r j u hr hu).mono hE.pc) hl1 (fun i r j u hr hu=>(hnr i r j u hr hu).mono hE.pc)
 unfold Oper.wp
 have hex:(execOp a.eval o).run P w= .ok (.value v') w':=by
  simp[execOp,ho,resolve,invoke,builtin,hvy,hrun]
 rw[hex,Oper.upon_value];obtain⟨a',c',hsl,_⟩:=zf k1;exact hnx v' _ w' hG.1 hG.2 (.oq ⟨⟨a',_,c',hsl⟩,.arq e sz (k+1) (xs++ys),sz,k+1,by simp[app],rfl,Nat.le_refl _,fun _=>by simp⟩)
theorem adg{o:Oper}{ρ:Operand->PV}{σ:ASt}{t e':TypeId}{y z:Operand}{n k sz:Nat}{kd:IntKind}{i:Int}{e:Nat}{xs:List (List PV)}(ho:o.op= .slice t y (some z) none none)(hy:ρ y= .oq n k)(hz:ρ z= .int kd i)
  (hB:ah σ n=some (.arq e sz k xs)) (he:br P t=some e') (hsz:du P e'=some sz) (h0:0<=i) (h1:i<=xs.length):LOp P o ρ σ (.oq n (k+1)) [(n,.arq e sz (k+1) (xs.drop i.toNat))] [n]:=by
 refine⟨by simp,fun s hs x a hv w hW hops next Q hnx=> ?_⟩;have hsn:s n=some (.arq e sz k xs):=(hs n (by simp)).trans hB;have hv0:=hops y (by simp[ho,Op.operands]);have hz0:=hops z (by simp[ho,Op.operands]);rw[hy]at hv0;rw[hz]at hz0;have hvn:=avt hv0 hsn;obtain⟨hp,ys,hown,hl1,ho1,hr1⟩:=hW.box n _ hsn;obtain⟨ad,c,hq,hc⟩:=zf hown;obtain⟨m',hb,hm1,hm2,_⟩:=i7 (P:=P) (w:=w) true xs.length c hc (lo:=some (.int kd i)) (hi:=none) (mx:=none) (vl:=some (.int kd i)) (vh:=none) (vm:=none) (l:=i) (h:=xs.length) (m:=xs.length) rfl rfl rfl rfl trivial trivial h0 (by omega) (Int.le_refl _) (Int.le_refl _) (by simp);have hm3:=hm2 rfl;subst hm3;rw[hq]at hown;have ht:=hown.tail (i:=i.toNat) (by omega)
 have hblk:blk (.slice (if m'=i.toNat then ad else ad.map (·.add (i.toNat*sz))) (xs.length - i.toNat) (m' - i.toNat))=blk (hv n):=by
  rw[hq]
  cases ad with
  |none=>split<;>rfl
  |some q=>
   obtain⟨qb,qo,qs⟩:=q;split
   ·rfl
   ·simp only[Option.map_some,blk,Addr.add];split<;>rfl
 have hG:=hW.chg (w':=w) (B':= .arq e sz (k+1) (xs.drop i.toNat)) (v':= .slice (if m'=i.toNat then ad else ad.map (·.add (i.toNat*sz))) (xs.length - i.toNat) (m' - i.toNat)) hsn (fun off h=>h) ⟨k+1,rfl,by omega,fun h=>by omega⟩
  ⟨rfl,rfl,rfl,Nat.le_refl _,fun _ _ _=>rfl⟩ (.inl hblk) fun E hE=>by
  refine⟨hp,_,by rw[List.length_drop];exact ht,fun r hr=>hl1 r (List.mem_of_mem_drop hr),fun r hr=>ho1 r (List.mem_of_mem_drop hr),fun p r j u hr hu=> ?_⟩;rw[List.getElem?_drop]at hr;have:=(hr1 _ r j u hr hu).mono hE.pc;rw[bq]at this ⊢;rw[List.getElem?_drop];have e2:i.toNat*sz+(p*sz+j)=(i.toNat+p)*sz+j:=by rw[Nat.add_mul,Nat.add_assoc]
  rw[e2];exact this
 unfold Oper.wp
 have hex:(execOp a.eval o).run P w= .ok (.value (.slice (if m'=i.toNat then ad else ad.map (·.add (i.toNat*sz))) (xs.length - i.toNat) (m' - i.toNat))) w:=by
  simp only[execOp,ho];rw[Sem.run_bind,hvn,hq];simp[Instr.sliceAt,Instr.slice,run_underlying (az he),hz0.int_inv,hb,dq hsz]
 rw[hex,Oper.upon_value];exact hnx _ _ w hG.1 hG.2 (.oq ⟨⟨_,_,_,rfl⟩,.arq e sz (k+1) (xs.drop i.toNat),sz,k+1,by simp[app],rfl,Nat.le_refl _,fun _=>by simp⟩)
theorem afs{o:Oper}{ρ:Operand->PV}{σ:ASt}{t e:TypeId}{y z:Operand}{n m sz e':Nat}{xs:List (List PV)}{k:IntKind}{i:Int}(ho:o.op= .indexAddr t y z)(hy:ρ y= .oq n m)
  (hz:ρ z= .int k i) (hB:ah σ n=some (.arq e' sz m xs)) (he:br P t=some e) (hsz:du P e=some sz) (h0:0<=i) (h1:i<xs.length):LOp P o ρ σ (.oqe n m i.toNat sz 0) [] [n]:=by
 refine ak fun s hs x a hv w hW hops=> ?_;have h:=hops y (by simp[ho,Op.operands]);have hh:=hops z (by simp[ho,Op.operands]);rw[hy]at h;rw[hz]at hh;have hsn:s n=some (.arq e' sz m xs):=by rw[hs n (by simp),hB]
 have hvn:=avt h hsn;obtain⟨hp,ys,hown,_⟩:=hW.box n _ hsn;rcases hown.2 with ⟨_,h9⟩|⟨g,o',cap,cur,fz,hq,_⟩
 ·omega
 refine⟨.pointer (some ⟨g,o'+i.toNat*sz,none⟩),?_,.oqe h.oq_inv ⟨_,rfl⟩ fun b o2 m2 c2 hv2 _=> ?_⟩
 ·simp[execOp,ho,hvn,hq,hh.int_inv,i6 he hsz ⟨g,o',none⟩ xs.length cap k i h0 h1,d8]
 ·rw[hvn,hq]at hv2;simp only[Value.slice.injEq,Option.some.injEq,Addr.mk.injEq,and_true]at hv2;obtain⟨⟨rfl,rfl⟩,_⟩:=hv2;rw[Nat.add_zero]
theorem afw{o:Oper}{ρ:Operand->PV}{σ:ASt}{t:TypeId}{y:Operand}{n k i sz off:Nat}{e:Nat}{xs:List (List PV)}{u:PV}(ho:o.op= .load t y)(hy:ρ y= .oqe n k i sz off)
  (hB:ah σ n=some (.arq e sz k xs)) (hi:i<xs.length) (ht:jt P t=some false) (hu:(xs.getD i [])[off]? =some u):LOp P o ρ σ u [] [n]:=by
 refine ak fun s hs x a hv w hW hops=> ?_;have h:=hops y (by simp[ho,Op.operands]);rw[hy]at h;have hsn:s n=some (.arq e sz k xs):=by rw[hs n (by simp),hB]
 obtain⟨v0,h1,h2,h3⟩:=h.oqe_inv;have hvn:=avt (.oq h1) hsn;obtain⟨hp,ys,hown,hl1,ho1,hr1⟩:=hW.box n _ hsn;have hg:xs[i]? =some (xs.getD i []):=by rw[bq,bf hi];rfl
 have hoff:off<sz:=by
  have:=(ca.1 hu).1
  rwa [hl1 _ (List.mem_of_getElem? hg)]at this
 rcases id hown.2 with ⟨_,h9⟩|⟨g,o',cap,cur,fz,hq,_⟩
 ·omega
 have hptr:=h3 g o' xs.length cap (by rw[hvn,hq]) hi;rw[hq]at hown;have hlt:=gm hi hoff;have hcell:=hown.cellAt (i*sz+off) hlt;have hr:=hr1 i _ off u hg hu;rw[bq]at hr
 cases hy2:ys[i*sz+off]? with
 |none=>rw[List.getElem?_eq_none_iff]at hy2;rw[hown.1]at hy2;omega
 |some v=>
  rw[hy2]at hcell hr;refine⟨v,?_,.pure hr⟩;simp[execOp,ho,hptr,Instr.loadAt,Instr.sureAddr,d7 ht hcell]
end Go.Proofs.Am

/- Copies within rows of one's own. -/
namespace Go.Proofs.Am
open Go Go.RowKit
variable {P:Program}
theorem aba{o:Oper}{ρ:Operand->PV}{σ:ASt}{t e':TypeId}{y z:Operand}{n k sz:Nat}{kd:IntKind}{i:Int}{e:Nat}{xs:List (List PV)}(ho:o.op= .slice t y (some z) none none)(hy:ρ y= .os n k)(hz:ρ z= .int kd i)
  (hB:ah σ n=some (.arh e sz xs)) (hk:k=xs.length) (he:br P t=some e') (hsz:du P e'=some sz) (h0:0<=i) (h1:i<k):LOp P o ρ σ (.oss n k i.toNat (k - i.toNat)) [] [n]:=by
 refine ak fun s hs x a hv w hW hops=> ?_;have hv0:=hops y (by simp[ho,Op.operands]);have hz0:=hops z (by simp[ho,Op.operands]);rw[hy]at hv0;rw[hz]at hz0;have hsn:s n=some (.arh e sz xs):=by rw[hs n (by simp),hB]
 obtain⟨_,B',sz1,l1,h2,hd1,h3,h4⟩:=hv0.os_inv;rw[hsn]at h2
 cases h2
 cases hd1
 have hvn:=h4 hk;obtain⟨g,c,hq,hc⟩:=(hW.box n _ hsn).dimAt (sz:=sz) (l:=xs.length) rfl (by omega);obtain⟨m',hb,hm1,hm2,_⟩:=i7 (P:=P) (w:=w) true xs.length c hc (lo:=some (.int kd i)) (hi:=none) (mx:=none) (vl:=some (.int kd i)) (vh:=none) (vm:=none) (l:=i) (h:=xs.length) (m:=xs.length) rfl rfl rfl rfl trivial trivial h0 (by omega) (Int.le_refl _) (Int.le_refl _) (by simp);have hm3:=hm2 rfl;have hne: ¬m'=i.toNat:=by omega
 have hne2: ¬c=i.toNat:=by omega
 subst hm3;refine⟨.slice (some ⟨g,i.toNat*sz,none⟩) (k - i.toNat) (m' - i.toNat),?_,.oss rfl ⟨⟨_,rfl⟩,_,sz,xs.length,hsn,rfl,h3,fun _ _=>⟨g,m',by rw[hq,hk],by rw[Nat.add_zero]⟩⟩⟩;simp only[execOp,ho];rw[Sem.run_bind,hvn,hq];simp[Instr.sliceAt,Instr.slice,run_underlying (az he),hz0.int_inv,hb,dq hsz,d8,hk,hne2]
theorem abc{o:Oper}{ρ:Operand->PV}{σ:ASt}{t e':TypeId}{y z:Operand}{n k sz:Nat}{kd:IntKind}{i:Int}{e:Nat}{xs:List (List PV)}(ho:o.op= .slice t y none (some z) none)(hy:ρ y= .os n k)(hz:ρ z= .int kd i)
  (hB:ah σ n=some (.arh e sz xs)) (hk:k=xs.length) (he:br P t=some e') (hsz:du P e'=some sz) (h0:0<i) (h1:i<=k):LOp P o ρ σ (.oss n k 0 i.toNat) [] [n]:=by
 refine ak fun s hs x a hv w hW hops=> ?_;have hv0:=hops y (by simp[ho,Op.operands]);have hz0:=hops z (by simp[ho,Op.operands]);rw[hy]at hv0;rw[hz]at hz0;have hsn:s n=some (.arh e sz xs):=by rw[hs n (by simp),hB]
 obtain⟨_,B',sz1,l1,h2,hd1,h3,h4⟩:=hv0.os_inv;rw[hsn]at h2
 cases h2
 cases hd1
 have hvn:=h4 hk;obtain⟨g,c,hq,hc⟩:=(hW.box n _ hsn).dimAt (sz:=sz) (l:=xs.length) rfl (by omega);obtain⟨m',hb,hm1,hm2,_⟩:=i7 (P:=P) (w:=w) true xs.length c hc (lo:=none) (hi:=some (.int kd i)) (mx:=none) (vl:=none) (vh:=some (.int kd i)) (vm:=none) (l:=0) (h:=i) (m:=xs.length) rfl rfl rfl trivial rfl trivial (Int.le_refl _) (by omega) (by omega) (Int.le_refl _) (by simp);have hm3:=hm2 rfl;have hne2: ¬c=0:=by omega
 subst hm3;refine⟨.slice (some ⟨g,0,none⟩) i.toNat m',?_,.oss rfl ⟨⟨_,rfl⟩,_,sz,xs.length,hsn,rfl,h3,fun _ _=>⟨g,m',by rw[hq,hk],by rw[Nat.zero_mul]⟩⟩⟩;simp only[execOp,ho];rw[Sem.run_bind,hvn,hq];have hb':(Instr.sliceBounds true xs.length m' none (some (.int kd i)) none).run P w= .ok (0,i.toNat,m') w:=by simpa using hb
 simp[Instr.sliceAt,Instr.slice,run_underlying (az he),hz0.int_inv,hb',dq hsz,d8,hne2]
theorem yu{P:Program}(w:World)(dT sT ty elem:TypeId)(g o dLen dCap:Nat)(sp:Option Addr)(sLen sCap:Nat)(cur:Array Value)(t:TypeId)(fz:Nat×Nat)(cs:List Value)
  (hu:P.underlying dT=some (.slice elem)) (hs:(P.info? elem).map (·.size)=some 1)
  (hg:w.heap[g]? =some (.cells cur t fz)) (hfz:fz.2=0\/cur.size<=fz.1) (hn:cs.length=Nat.min sLen dLen) (hnil:sp=none->sLen=0)
  (hsrc: ∀a,sp=some a->∀j v,cs[j]? =some v->w.cell? (a.add j)=some v) (hfit:o+cs.length<=cur.size) (h1: ∀v∈cs,v.oneCell'=true):
  (Builtin.copy_ #[dT,sT] ty #[.slice (some ⟨g,o,none⟩) dLen dCap,.slice sp sLen sCap]).run P w=
   .ok (goInt cs.length) (w.setRow g (cur.toList.take o++cs++cur.toList.drop (o+cs.length)).toArray):=by
 have hst:=bx P g o t fz cs 0 cur w hg hfz (by simpa using hfit) h1
 cases hq:P.info? elem with
 |none=>simp[hq]at hs
 |some i=>
  have hi:i.size=1:=by simpa [hq] using hs
  cases sp with
  |none=>
   have h0:=hnil rfl;have hc0:cs=[]:=List.eq_nil_of_length_eq_zero (by rw[hn,h0];simp);subst hc0;rw[setRow_self w g _ t fz (by simpa using hg)]
   simp[Builtin.copy_,run_underlying hu,Builtin.lenOf,Builtin.firstCells,sizeOf,typeInfo,hq,storeCells,h0]
  |some a=>
   have hl:=run_loadCells_list (P:=P) w a cs (hsrc a rfl);simp[Builtin.copy_,run_underlying hu,Builtin.lenOf,Builtin.firstCells,sizeOf,typeInfo,hq,hi,<-hn,hl,hst]
theorem s5{R:Value->PV->Prop}{sz:Nat}{xs zs:List (List PV)}{ys news:List Value}(hl:ys.length=xs.length*sz)(hxs: ∀i x j u,xs[i]? =some x->x[j]? =some u->R (ys.getD (i*sz+j) undef) u)
  (hlx: ∀x∈xs,x.length=sz) (hzs: ∀i x j u,zs[i]? =some x->x[j]? =some u->R (news.getD (i*sz+j) undef) u):
  ∀i x j u,(xs++zs)[i]? =some x->x[j]? =some u->R ((ys++news).getD (i*sz+j) undef) u:=by
 intro i x j u hx hu;rw[List.getElem?_append]at hx;by_cases h:i<xs.length
 ·rw[if_pos h]at hx
  have hj:j<sz:=by
   have:=(ca.1 hu).1;rw[hlx x (List.mem_of_getElem? hx)]at this;exact this
  rw[iq (by rw[hl];exact gm h hj)];exact hxs i x j u hx hu
 ·rw[if_neg h]at hx
  have hge:ys.length<=i*sz+j:=by
   rw[hl];have:xs.length*sz<=i*sz:=Nat.mul_le_mul_right _ (by omega);omega
  rw[bq,List.getElem?_append_right hge,<-bq,hl]
  have:i*sz+j - xs.length*sz=(i - xs.length)*sz+j:=by
   rw[Nat.sub_mul];have:xs.length*sz<=i*sz:=Nat.mul_le_mul_right _ (by omega);omega
  rw[this];exact hzs _ x j u hx hu
theorem zb{R:Value->PV->Prop}{xs zs:List (List PV)}{ys cs:List Value}{o:Nat}(hl:ys.length=xs.length)(hxs: ∀i x j u,xs[i]? =some x->x[j]? =some u->R (ys.getD (i*1+j) undef) u)
  (hlx: ∀x∈xs,x.length=1) (hlz: ∀x∈zs,x.length=1) (hc:cs.length=zs.length) (hzs: ∀i x j u,zs[i]? =some x->x[j]? =some u->R (cs.getD (i*1+j) undef) u) (ho:o+cs.length<=xs.length):
  ∀i x j u,(xs.take o++(zs++xs.drop (o+cs.length)))[i]? =some x->x[j]? =some u->R ((ys.take o++(cs++ys.drop (o+cs.length))).getD (i*1+j) undef) u:=by
 refine s5 (by simp[hl]) (fun i x j u hx hu=> ?_) (fun x hx=>hlx x (List.mem_of_mem_take hx)) (s5 (by simp[hc]) hzs hlz fun i x j u hx hu=> ?_)
 ·rw[List.getElem?_take]at hx;split at hx
  ·rename_i hi
   have hj:j<1:=by
    have:=(ca.1 hu).1
    rwa [hlx x (List.mem_of_getElem? hx)]at this
   have:=hxs i x j u hx hu;rw[bq]at this ⊢;rw[List.getElem?_take,if_pos (by omega)];exact this
  ·cases hx
 ·rw[List.getElem?_drop]at hx;have:=hxs _ x j u hx hu;rw[bq]at this ⊢;rw[List.getElem?_drop];have e:o+cs.length+(i*1+j)=(o+cs.length+i)*1+j:=by omega
  rw[e];exact this
theorem OwnM.over{w:World}{e g cap n:Nat}{cur:Array Value}{fz:Nat×Nat}{ys cs:List Value}{o:Nat}(hf:fz=(0,0)\/ans P e/\fz=(cur.size,cur.size+1))(hg:w.heap[g]? =some (.cells cur e fz))(hn:n<=cap)(hm:cap<=maxLen)(hs:cur.size=cap*1)(ht:cur.toList.take (n*1)=ys)(ho:o+cs.length<=n):
  OwnM P (w.setRow g (cur.toList.take o++cs++cur.toList.drop (o+cs.length)).toArray) e 1 (.slice (some ⟨g,0,none⟩) n cap) n (ys.take o++(cs++ys.drop (o+cs.length))):=by
 have hcl:cur.toList.length=cap:=by simp[hs]
 have hsz:(cur.toList.take o++cs++cur.toList.drop (o+cs.length)).toArray.size=cur.size:=by
  simp only[List.size_toArray,List.length_append,List.length_take,List.length_drop,hcl,hs];omega
 have hyl:ys.length=n:=by rw[<-ht,List.length_take,hcl];omega
 refine⟨by simp only[List.length_append,List.length_take,List.length_drop,hyl];omega,.inr ⟨g,cap,_,fz,rfl,by rw[hsz];exact hf,setRow_heap w g cur _ e _ hg,hn,hm,by rw[hsz,hs],?_⟩⟩;show(cur.toList.take o++cs++cur.toList.drop (o+cs.length)).take (n*1)=_;rw[List.append_assoc,List.take_append,List.take_append,<-ht];simp only[List.length_take,hcl,Nat.mul_one];rw[List.take_take,List.take_take,List.drop_take];have e1:min (n:Nat) o=o:=by omega
 have e2:min o n=o:=by omega
 have e3:n - min o cap=n - o:=by omega
 rw[e1,e2,e3,List.take_of_length_le (l:=cs) (by omega)];congr 3;omega
theorem qi{R:Value->PV->Prop}{ys:List Value}{xs:List (List PV)}(hl:ys.length=xs.length)(h1: ∀x∈xs,x.length=1)(ho: ∀x∈xs,x.all eh=true)(hr: ∀i x j u,xs[i]? =some x->x[j]? =some u->R (ys.getD (i*1+j) undef) u)(hR: ∀v u,R v u->eh u=true->v.oneCell'=true): ∀v∈ys,v.oneCell'=true:=fun v hv=>by
 obtain⟨i,hi,rfl⟩:=List.mem_iff_getElem.1 hv;have hx:i<xs.length:=by omega
 have h0:0<(xs[i]).length:=by rw[h1 _ (List.getElem_mem hx)];omega
 have:=hr i _ 0 _ (bf hx) (bf h0);rw[Nat.mul_one,Nat.add_zero,bq,bf hi]at this;exact hR _ _ this (List.all_eq_true.1 (ho _ (List.getElem_mem hx)) _ (List.getElem_mem h0))
theorem aic{o:Oper}{ρ:Operand->PV}{σ:ASt}{t tx elem:TypeId}{y z:Operand}{n k e:Nat}{xs ys:List (List PV)}(ho:o.op= .call {callee:= .builtin .copy,args:= #[y,z],argTypes:= #[t,tx]})(hy:ρ y= .os n k)(hz:ρ z= .vs ys)
  (hB:ah σ n=some (.arr e 1 false xs)) (hk:0<k/\k=xs.length) (h1: ∀y∈ys,y.length=1) (he:br P t=some elem) (hsz:du P elem=some 1):
  LOp P o ρ σ (.int .i64 ((min ys.length k:Nat):Int)) [(n,.arr e 1 false (ys.take (min ys.length k)++xs.drop (min ys.length k)))] [n]:=by
 refine⟨by simp,fun s hs x a hv w hW hops next Q hnx=> ?_⟩;have hsn:s n=some (.arr e 1 false xs):=(hs n (by simp)).trans hB;have hv1:=hops y (by simp[ho,Op.operands,Call.operands]);have hv2:=hops z (by simp[ho,Op.operands,Call.operands]);rw[hy]at hv1;rw[hz]at hv2;obtain⟨_,e',sz',sh',xs',g1,g2,g3⟩:=hv1.os_arr hsn;rw[hsn]at g1
 cases g1
 have hvn:=g3 hk.2;obtain⟨a2,c2,sz2,U,hvz,hc2,hs2,ho2,hA,hr2⟩:=hv2.vs_inv.vs_inv;obtain⟨h0,vs,hown,hl1,ho1,hr1⟩:=hW.box n _ hsn;obtain⟨g,cap,cur,fz,b1,b2,b3,b4,b5,b6,b7⟩:=im hown (by omega)
 let c:=min ys.length k
 let cs:=(List.range c).map fun i=>U i 0
 have hcl:cs.length=c:=by simp[cs]
 have hcy:c<=ys.length:=Nat.min_le_left _ _;have hck:c<=k:=Nat.min_le_right _ _
 have hrow: ∀i,i<ys.length->∃u,ys[i]? =some [u]:=fun i hi=>by
  have:=h1 _ (List.getElem_mem hi)
  match hq:ys[i],this with
  |[u],_=>exact⟨u,by rw[bf hi,hq]⟩
 have hzr: ∀i r j u,(ys.take c)[i]? =some r->r[j]? =some u->RP (env x s hv w).pc (cs.getD (i*1+j) undef) u:=fun i r j u hr hu=>by
  rw[List.getElem?_take]at hr;split at hr
  ·rename_i hi
   have hj:j<1:=by
    have:=(ca.1 hu).1
    rwa [h1 r (List.mem_of_getElem? hr)]at this
   have hj0:j=0:=by omega
   subst hj0;have:=hr2 i r 0 u hr hu;rw[bq];simp only[cs,Nat.mul_one,Nat.add_zero,List.getElem?_map,List.getElem?_range hi,Option.map_some,Option.getD_some];exact this
  ·cases hr
 have hone: ∀v∈cs,v.oneCell'=true:=qi (R:=RP (env x s hv w).pc) (xs:=ys.take c) (by rw[hcl,List.length_take];omega) (fun r hr=>h1 r (List.mem_of_mem_take hr)) (fun r hr=>ho2 r (List.mem_of_mem_take hr)) hzr fun v u h h'=>(gy (x:=x) (s:=s) (hv:=hv) (w:=w) (.pure h) h').1;have hsz2:(P.info? elem).map (·.size)=some 1:=hsz
 have hrun:=yu (P:=P) w t tx o.type elem g 0 k cap a2 ys.length c2 cur e fz cs (az he) hsz2 b3 (rh b2) (by rw[hcl]) (fun h=>by
   rcases Nat.eq_zero_or_pos ys.length with h|h'
   ·exact h
   ·obtain⟨ad,q,_⟩:=hA h';rw[q]at h;cases h) (fun ad hq j v hj=>by
   have hjc:j<c:=by have:=(ca.1 hj).1;rwa [hcl]at this
   obtain⟨ad',q,hA'⟩:=hA (by omega);rw[hq]at q
   cases q
   obtain⟨u,hu⟩:=hrow j (by omega);have:=hA' j _ 0 u hu rfl;have hs1:sz2=1:=by rw[<-hs2 _ (List.mem_of_getElem? hu)];rfl
   rw[hs1,Nat.mul_one,Nat.add_zero]at this
   have hv:v=U j 0:=by
    simp only[cs,List.getElem?_map,List.getElem?_range hjc,Option.map_some,Option.some.injEq]at hj;exact hj.symm
   rw[hv];exact this.1) (by rw[b6,hcl];omega) hone
 have hov:=OwnM.over (P:=P) (o:=0) (cs:=cs) b2 b3 b4 b5 b6 b7 (by rw[hcl];omega);have hxl:(ys.take c++xs.drop c).length=xs.length:=by rw[List.length_append,List.length_take,List.length_drop];omega
 have hG:=hW.write (w':=w.setRow g (cur.toList.take 0++cs++cur.toList.drop (0+cs.length)).toArray) (B':= .arr e 1 false (ys.take c++xs.drop c)) hsn ⟨_,rfl,by rw[hxl];exact Nat.le_refl _,fun _=>rfl⟩ (fun off h=>h) rfl rfl rfl (by simp)
  (fun q hq hne=>setRow_other w g q _ fun eq=>hne (by rw[b1,eq];rfl)) fun E hE=>by
  refine⟨h0,vs.take 0++(cs++vs.drop (0+cs.length)),by rw[hxl,b1];exact hov,?_,?_,?_⟩
  ·intro r hr;rcases List.mem_append.1 hr with hr|hr
   ·exact h1 r (List.mem_of_mem_take hr)
   ·exact hl1 r (List.mem_of_mem_drop hr)
  ·intro r hr;rcases List.mem_append.1 hr with hr|hr
   ·exact ho2 r (List.mem_of_mem_take hr)
   ·exact ho1 r (List.mem_of_mem_drop hr)
  ·have:=zb (R:=RP E.pc) (o:=0) (zs:=ys.take c) (by rw[hown.1,Nat.mul_one]) (fun i r j u hr hu=>(hr1 i r j u hr hu).mono hE.pc) hl1 (fun r hr=>h1 r (List.mem_of_mem_take hr)) (by rw[hcl,List.length_take];omega) (fun i r j u hr hu=>(hzr i r j u hr hu).mono hE.pc) (by rw[hcl];omega);have e9:xs.take 0++(ys.take c++xs.drop (0+cs.length))=ys.take c++xs.drop c:=by rw[hcl,List.take_zero,List.nil_append,Nat.zero_add]
   rw[e9]at this;exact this
 unfold Oper.wp
 have hex:(execOp a.eval o).run P w= .ok (.value (.int .i64 (c:Nat))) (w.setRow g (cur.toList.take 0++cs++cur.toList.drop (0+cs.length)).toArray):=by
  have:=hrun;rw[hcl]at this;simp only[execOp,ho,resolve,invoke,builtin,Sem.run_bind,Sem.run_pure,Result.andThen_ok,List.map_toArray,List.map_cons,List.map_nil,hvn,b1,hvz];rw[<-hk.2];simp[this,goInt,hcl]
 rw[hex,Oper.upon_value];exact hnx _ hv _ hG.1 hG.2 (.pure (.int _ _))
theorem afu{o:Oper}{ρ:Operand->PV}{σ:ASt}{t tx elem:TypeId}{y z:Operand}{n k i m j m' e:Nat}{xs:List (List PV)}(ho:o.op= .call {callee:= .builtin .copy,args:= #[y,z],argTypes:= #[t,tx]})(hy:ρ y= .oss n k i m)(hz:ρ z= .oss n k j m')
  (hB:ah σ n=some (.arh e 1 xs)) (hk:k=xs.length) (a1:i+m<=k) (a2:j+m'<=k) (a3:i<k) (a4:j<k) (he:br P t=some elem) (hsz:du P elem=some 1):
  LOp P o ρ σ (.int .i64 ((min m' m:Nat):Int)) [(n,.arh e 1 (xs.take i++((xs.drop j).take (min m' m)++xs.drop (i+min m' m))))] [n]:=by
 refine⟨by simp,fun s hs x a hv w hW hops next Q hnx=> ?_⟩;have hsn:s n=some (.arh e 1 xs):=(hs n (by simp)).trans hB;have hv1:=hops y (by simp[ho,Op.operands,Call.operands]);have hv2:=hops z (by simp[ho,Op.operands,Call.operands]);rw[hy]at hv1;rw[hz]at hv2;obtain⟨q1,c1,hvy,p1⟩:=hv1.oss_inv;obtain⟨q2,c2,hvz,p2⟩:=hv2.oss_inv;obtain⟨_,B1,s1,l1,f1,f2,f3,f4⟩:=p1;obtain⟨_,B2,s2,l2,f5,f6,f7,f8⟩:=p2;rw[hsn]at f1 f5
 cases f1
 cases f5
 simp only[Box.dim,Option.some.injEq,Prod.mk.injEq]at f2 f6;obtain⟨rfl,rfl⟩:=f2;obtain⟨rfl,rfl⟩:=f6;obtain⟨b,c,r1,r2⟩:=f4 hk a3;obtain⟨b',c',r3,r4⟩:=f8 hk a4;rw[r1]at r3;simp only[Value.slice.injEq,Option.some.injEq,Addr.mk.injEq,and_true,true_and]at r3;obtain⟨rfl,rfl⟩:=r3;simp only[Value.pointer.injEq,Option.some.injEq,Nat.mul_one,Nat.add_zero]at r2 r4;subst r2 r4;obtain⟨h0,vs,hown,hl1,ho1,hr1⟩:=hW.box n _ hsn;obtain⟨g,cap,cur,fz,b1,b2,b3,b4,b5,b6,b7⟩:=im hown (by omega);rw[r1]at b1;simp only[Value.slice.injEq,Option.some.injEq,Addr.mk.injEq,and_true]at b1;obtain⟨rfl,rfl,rfl⟩:=b1;have hvl:vs.length=xs.length:=by rw[hown.1,Nat.mul_one]
 let cc:=min m' m
 have hcm:cc<=m:=Nat.min_le_right _ _;have hcm':cc<=m':=Nat.min_le_left _ _
 let cs:=(vs.drop j).take cc
 have hcl:cs.length=cc:=by simp only[cs,List.length_take,List.length_drop,hvl];omega
 have hall: ∀v∈vs,v.oneCell'=true:=qi (R:=RV (env x s hv w)) hvl hl1 ho1 hr1 fun v u h h'=>(gy h h').1;have hone: ∀v∈cs,v.oneCell'=true:=fun v hv=>hall v (List.mem_of_mem_drop (List.mem_of_mem_take hv));have hsz2:(P.info? elem).map (·.size)=some 1:=hsz;rw[r1]at hown
 have hrun:=yu (P:=P) w t tx o.type elem b i m c1 (some ⟨b,j,none⟩) m' c2 cur e fz cs (az he) hsz2 b3 (rh b2) (by rw[hcl]) (fun h=>by cases h) (fun ad hq p v hp=>by
   cases hq
   have hpc:p<cc:=by have:=(ca.1 hp).1;rwa [hcl]at this
   rw[d8];rw[hk]at hown;have:=hown.cellAt (j+p) (by omega);rw[this];simp only[cs,List.getElem?_take,if_pos hpc,List.getElem?_drop]at hp;exact hp) (by rw[b6,hcl];omega) hone
 have hov:=OwnM.over (P:=P) (o:=i) (cs:=cs) b2 b3 b4 b5 b6 b7 (by rw[hcl];omega);have hzl:((xs.drop j).take cc).length=cc:=by rw[List.length_take,List.length_drop];omega
 have hxl:(xs.take i++((xs.drop j).take cc++xs.drop (i+cc))).length=xs.length:=by simp only[List.length_append,hzl,List.length_take,List.length_drop];omega
 have hzr: ∀E,Env.le (env x s hv w) E->∀p r q u,((xs.drop j).take cc)[p]? =some r->r[q]? =some u->RV E (cs.getD (p*1+q) undef) u:=fun E hE p r q u hr hu=>by
  rw[List.getElem?_take]at hr;split at hr
  ·rename_i hpc;rw[List.getElem?_drop]at hr
   have hq:q<1:=by
    have:=(ca.1 hu).1
    rwa [hl1 r (List.mem_of_getElem? hr)]at this
   have:=(hr1 _ r q u hr hu).mono hE;rw[bq]at this ⊢;simp only[cs];rw[List.getElem?_take,if_pos (by omega),List.getElem?_drop];have e2:j+(p*1+q)=(j+p)*1+q:=by omega
   rw[e2];exact this
  ·cases hr
 have hG:=hW.write (w':=w.setRow b (cur.toList.take i++cs++cur.toList.drop (i+cs.length)).toArray) (B':= .arh e 1 (xs.take i++((xs.drop j).take cc++xs.drop (i+cc)))) hsn ⟨_,rfl,by rw[hxl];exact Nat.le_refl _,fun _=>rfl⟩ (fun off h=>h) rfl rfl rfl (by simp)
  (fun q hq hne=>setRow_other w b q _ fun eq=>hne (by rw[r1,eq];rfl)) fun E hE=>by
  refine⟨h0,vs.take i++(cs++vs.drop (i+cs.length)),by rw[hxl,r1,hk];exact hov,?_,?_,?_⟩
  ·intro r hr;rcases List.mem_append.1 hr with hr|hr
   ·exact hl1 r (List.mem_of_mem_take hr)
   ·rcases List.mem_append.1 hr with hr|hr
    ·exact hl1 r (List.mem_of_mem_drop (List.mem_of_mem_take hr))
    ·exact hl1 r (List.mem_of_mem_drop hr)
  ·intro r hr;rcases List.mem_append.1 hr with hr|hr
   ·exact ho1 r (List.mem_of_mem_take hr)
   ·rcases List.mem_append.1 hr with hr|hr
    ·exact ho1 r (List.mem_of_mem_drop (List.mem_of_mem_take hr))
    ·exact ho1 r (List.mem_of_mem_drop hr)
  ·have:=zb (R:=RV E) (o:=i) (zs:=(xs.drop j).take cc) hvl (fun p r q u hr hu=>(hr1 p r q u hr hu).mono hE) hl1 (fun r hr=>hl1 r (List.mem_of_mem_drop (List.mem_of_mem_take hr))) (by rw[hcl,hzl]) (hzr E hE) (by rw[hcl];omega);rw[hcl]at this ⊢;exact this
 unfold Oper.wp
 have hex:(execOp a.eval o).run P w= .ok (.value (.int .i64 (cc:Nat))) (w.setRow b (cur.toList.take i++cs++cur.toList.drop (i+cs.length)).toArray):=by
  have:=hrun;simp only[execOp,ho,resolve,invoke,builtin,Sem.run_bind,Sem.run_pure,Result.andThen_ok,List.map_toArray,List.map_cons,List.map_nil,hvy,hvz];simp[this,goInt,hcl]
 rw[hex,Oper.upon_value];exact hnx _ hv _ hG.1 hG.2 (.pure (.int _ _))
end Go.Proofs.Am
