/- AmM. -/
import Derived.Test.YthidogjdclkoeaaGreatDoorAmThree
set_option linter.unusedSimpArgs false
set_option linter.unusedVariables false
namespace Go.Proofs.Am
open Go Go.RowKit
variable {P:Program}
def vw(d:Nat)(nb:List Box):List Nat:=(nbD d 0 nb).map (·.1)
def y9(P:Program)(f:PV)(us:List PV)(dst:Option Nat)(σ:ASt)(K:KT):Prop:=
 ∃k caps cargs ext r nb nb2 ext' ext2 ns1 ns2 ren d,f= .fn k caps/\Den P k cargs ext r nb ext'/\ud σ ren (us++caps)=some (cargs,ns1)/\a19 σ ren ext ns2/\ren.Nodup/\(∀n∈ren,n∉ns1++ns2)/\a18 ext ext'/\a2d nb.length ext.length (rnm d ren) ext' ext2/\
  nbX nb.length ext.length (rnm d ren) nb nb2/\(∀n∈vw d nb2,ah σ n=none)/\nb.length<1000000/\okR nb.length ext.length r/\dst=dst/\
  K (a47 (rnm d ren) r) (xi σ d (ns1++ns2) ren ext2 nb2) ((ns1++ns2)++(ren++vw d nb2))
theorem afq{P:Program}{o:Oper}{ρ:Operand->PV}{σ:ASt}{f:Operand}{ys:Array Operand}{ts:Array TypeId}(ho:o.op= .call {callee:= .value f,args:=ys,argTypes:=ts}){K:KT}
  (h:y9 P (ρ f) (ys.toList.map ρ) o.dst σ K): ∃u δ F,LOp P o ρ σ u δ F/\K u δ F:=by
 obtain⟨k,caps,cargs,ext,r,nb,nb2,ext',ext2,ns1,ns2,ren,d,hf,D,h1,h2,h3,h4,h5,hb5,h6,h7,h8,h9,_,hK⟩:=h;refine⟨_,_,_,⟨fun p hp=> ?_,fun s hs x a hv w hW hops next Q hn=> ?_⟩,hK⟩
 ·simp only[xi,List.mem_append]at hp;rcases hp with hp|hp|hp
  ·obtain⟨n,hn,rfl⟩:=List.mem_map.1 hp;exact List.mem_append.2 (.inl hn)
  ·obtain⟨n,B⟩:=p;exact List.mem_append.2 (.inr (List.mem_append.2 (.inl (List.of_mem_zip hp).1)))
  ·exact List.mem_append.2 (.inr (List.mem_append.2 (.inr (List.mem_map.2 ⟨p,hp,rfl⟩))))
 ·have hvf:=hops f (by simp[ho,Op.operands,Call.operands]);rw[hf]at hvf;obtain⟨vs,hvs,hl,hr⟩:=hvf.fn_inv
  have hcore:=ac6 D h1 h2 h3 h4 h5 hb5 h6 h7 h8 h9 hs hW (vals:=(ys.toList.map a.eval)++vs.toList) (by simp[hl]) (fun i v u hv0 hu=>by
   by_cases hi:i<ys.size
   ·rw[List.getElem?_append_left (by simpa using hi),List.getElem?_map]at hv0;rw[List.getElem?_append_left (by simpa using hi),List.getElem?_map]at hu
    cases hy:ys.toList[i]? with
    |none=>rw[hy]at hv0;cases hv0
    |some y=>
     rw[hy]at hv0 hu
     cases hv0
     cases hu
     have hy':ys[i]? =some y:=by simpa using hy
     exact hops y (by simp[ho,Op.operands,Call.operands];exact .inr (Array.mem_of_getElem? hy'))
   ·rw[List.getElem?_append_right (by simpa using hi)]at hv0 hu;simp only[List.length_map,Array.length_toList]at hv0 hu;have:=hr _ u hu;have hvi:vs[i - ys.size]? =some v:=by simpa using hv0
    rw[Array.getD_eq_getD_getElem?,hvi]at this;exact this)
  unfold Oper.wp
  have hex:(execOp a.eval o).run P w= .ok (.enter k ((ys.toList.map a.eval)++vs.toList).toArray) w:=by
   have he:=D.enter ((ys.toList.map a.eval)++vs.toList).toArray w
   have harr:(ys.map a.eval++vs)=((ys.toList.map a.eval)++vs.toList).toArray:=by
    apply Array.ext';simp
   simp only[execOp,ho,resolve,hvs,Deferred.ofValue,Sem.run_bind,Sem.run_pure,Result.andThen_ok,invoke,Array.empty_append];rw[harr];exact he
  rw[hex,Oper.upon_enter];refine hcore.mono fun e w'=> ?_;rintro⟨v,hv',rfl,k1,k2,k3⟩;exact hn v hv' w' k1 k2 k3
def fo(P:Program)(t:TypeId)(f:Nat):Option Nat:=
 match a2q P t f with
 |some (off,ft)=>match du P ft with
  |some (_+1)=>some off
  |_=>none
 |none=>none
def slT(P:Program)(t:TypeId):Option (Nat×Nat×Nat):=
 match br P t with
 |some e=>match du P e,bytesOf P e,bk P e with
  |some sz,some by_,some zs=>if zs.length=sz/\0<sz/\0<by_ then some (e,sz,by_)else none
  |_,_,_=>none
 |none=>none
def ldT(P:Program)(t:TypeId):Option (Option Nat):=
 match jt P t,du P t with
 |some false,_=>some none
 |some true,some m=>some (some m)
 |_,_=>none
def arT(P:Program)(t:TypeId):Option (Nat×Nat):=
 match t8 P t with
 |some (n,e)=>match du P e with
  |some sz=>some (n,sz)
  |none=>none
 |none=>none
theorem a84{P:Program}{t:TypeId}{f off:Nat}(h:fo P t f=some off): ∃ft m,a2q P t f=some (off,ft)/\du P ft=some (m+1):=by
 unfold fo at h;split at h
 ·rename_i o ft hf;split at h
  ·rename_i m hs
   cases h
   exact⟨ft,m,hf,hs⟩
  ·cases h
 ·cases h
theorem fa{P:Program}{t:TypeId}{e sz bytes:Nat}(h:slT P t=some (e,sz,bytes)):br P t=some e/\du P e=some sz/\bytesOf P e=some bytes/\(∃zs,bk P e=some zs/\zs.length=sz)/\0<sz/\0<bytes:=by
 unfold slT at h;split at h
 ·rename_i e' he;split at h
  ·rename_i sz' by' zs h1 h2 h3;split at h
   ·rename_i hh;simp only[Option.some.injEq,Prod.mk.injEq]at h;obtain⟨rfl,rfl,rfl⟩:=h;exact⟨he,h1,h2,⟨zs,h3,hh.1⟩,hh.2⟩
   ·cases h
  ·cases h
 ·cases h
theorem ar9{P:Program}{t:TypeId}(h:ldT P t=some none):jt P t=some false:=by
 unfold ldT at h;split at h
 ·assumption
 ·cases h
 ·cases h
theorem art{P:Program}{t:TypeId}{m:Nat}(h:ldT P t=some (some m)):jt P t=some true/\du P t=some m:=by
 unfold ldT at h;split at h
 ·cases h
 ·rename_i h1 h2
  cases h
  exact⟨h1,h2⟩
 ·cases h
theorem a54{P:Program}{t:TypeId}{n sz:Nat}(h:arT P t=some (n,sz)): ∃e,t8 P t=some (n,e)/\du P e=some sz:=by
 unfold arT at h;split at h
 ·rename_i n' e he;split at h
  ·rename_i sz' hs;simp only[Option.some.injEq,Prod.mk.injEq]at h;obtain⟨rfl,rfl⟩:=h;exact⟨e,he,hs⟩
  ·cases h
 ·cases h
def nz(P:Program)(t:TypeId)(σ:ASt)(u:PV)(K:KT):Prop:=
 match ldT P t with
 |some none=>match u with
  | .ptr n off=>match ah σ n with
   |some (.cells cs)=>off<cs.length/\K (cs.getD off .undef) [] [n]
   |_=>False
  | .el cs=>0<cs.length/\K (cs.getD 0 .undef) [] []
  | .oel n k i off=>match ah σ n with
   |some (.arr _ _ _ xs)=>k=xs.length/\i<k/\off<(xs.getD i []).length/\K ((xs.getD i []).getD off .undef) [] [n]
   |some (.arh _ _ xs)=>k=xs.length/\i<k/\off<(xs.getD i []).length/\K ((xs.getD i []).getD off .undef) [] [n]
   |_=>False
  | .oqe n k i sz off=>match ah σ n with
   |some (.arq _ sz' k' xs)=>(k=k'/\sz=sz'/\i<xs.length/\off<(xs.getD i []).length)/\K ((xs.getD i []).getD off .undef) [] [n]
   |_=>False
  |_=>False
 |some (some m)=>match u with
  | .ptr n off=>match ah σ n with
   |some (.cells cs)=>off+m<=cs.length/\K (.agg ((cs.drop off).take m)) [] [n]
   |_=>False
  | .el cs=>m<=cs.length/\K (.agg (cs.take m)) [] []
  | .oel n k i off=>match ah σ n with
   |some (.arr _ _ _ xs)=>k=xs.length/\i<k/\off+m<=(xs.getD i []).length/\K (.agg (((xs.getD i []).drop off).take m)) [] [n]
   |some (.arh _ _ xs)=>k=xs.length/\i<k/\off+m<=(xs.getD i []).length/\K (.agg (((xs.getD i []).drop off).take m)) [] [n]
   |_=>False
  |_=>False
 |none=>False
theorem dv{cs:List PV}{off:Nat}(h:off<cs.length):cs[off]? =some (cs.getD off .undef):=by
 rw[bq,bf h];rfl
theorem afy{P:Program}{o:Oper}{ρ:Operand->PV}{σ:ASt}{t:TypeId}{y:Operand}(ho:o.op= .load t y){K:KT}(h:nz P t σ (ρ y) K): ∃u δ F,LOp P o ρ σ u δ F/\K u δ F:=by
 unfold nz at h;split at h
 ·rename_i hl;have hl:=ar9 hl;split at h
  ·rename_i n off hy;split at h
   ·rename_i cs hf;exact⟨_,_,_,ada ho hy hf hl (dv h.1),h.2⟩
   ·exact h.elim
  ·rename_i cs hy;exact⟨_,_,_,aho ho hy hl (dv h.1),h.2⟩
  ·rename_i n k i off hy;split at h
   ·rename_i e sz sh xs hf;exact⟨_,_,_,ac5 ho hy hf h.1 h.2.1 hl (dv h.2.2.1),h.2.2.2⟩
   ·rename_i e sz xs hf;exact⟨_,_,_,abp ho hy hf h.1 h.2.1 hl (dv h.2.2.1),h.2.2.2⟩
   ·exact h.elim
  ·rename_i n k i sz off hy;split at h
   ·rename_i e sz' k' xs hf;obtain⟨⟨rfl,rfl,a1,a2⟩,a3⟩:=h;exact⟨_,_,_,afw ho hy hf a1 hl (dv a2),a3⟩
   ·exact h.elim
  ·exact h.elim
 ·rename_i m hl;obtain⟨hl,hm⟩:=art hl;split at h
  ·rename_i n off hy;split at h
   ·rename_i cs hf;exact⟨_,_,_,aa7 ho hy hf hl hm h.1,h.2⟩
   ·exact h.elim
  ·rename_i cs hy;exact⟨_,_,_,afk ho hy hl hm h.1,h.2⟩
  ·rename_i n k i off hy;split at h
   ·rename_i e sz sh xs hf;exact⟨_,_,_,acf ho hy hf h.1 h.2.1 hl hm h.2.2.1,h.2.2.2⟩
   ·rename_i e sz xs hf;exact⟨_,_,_,ya ho hy hf h.1 h.2.1 hl hm h.2.2.1,h.2.2.2⟩
   ·exact h.elim
  ·exact h.elim
 ·exact h.elim
def lq(P:Program)(t:TypeId)(σ:ASt)(u v:PV)(K:KT):Prop:=
 match du P t,dl v with
 |some m,some us=>us.length=m/\us.all eh=true/\(match u with
  | .ptr n off=>match ah σ n with
   |some (.cells cs)=>off+m<=cs.length/\K .undef [(n,.cells (cs.take off++us++cs.drop (off+m)))] [n]
   |_=>False
  | .oel n k i off=>match ah σ n with
   |some (.arr e sz false xs)=>match gr σ us with
    |some (us',ns)=>k=xs.length/\i<k/\off+m<=sz/\n∉ns/\K .undef (dj σ ns++[(n,.arr e sz false (xs.set i ((xs.getD i []).take off++us'++(xs.getD i []).drop (off+m))))]) (n::ns)
    |none=>False
   |some (.arh e sz xs)=>k=xs.length/\i<k/\off+m<=sz/\K .undef [(n,.arh e sz (xs.set i ((xs.getD i []).take off++us++(xs.getD i []).drop (off+m))))] [n]
   |_=>False
  |_=>False)
 |_,_=>False
theorem abn{P:Program}{o:Oper}{ρ:Operand->PV}{σ:ASt}{t:TypeId}{y z:Operand}(ho:o.op= .store t y z){K:KT}(h:lq P t σ (ρ y) (ρ z) K): ∃u δ F,LOp P o ρ σ u δ F/\K u δ F:=by
 unfold lq at h;split at h
 ·rename_i m us hm hu;obtain⟨h1,h2,h3⟩:=h;split at h3
  ·rename_i n off hy;split at h3
   ·rename_i cs hf;exact⟨_,_,_,apa ho hy hf hu hm h1 h3.1 h2,h3.2⟩
   ·exact h3.elim
  ·rename_i n k i off hy;split at h3
   ·rename_i e sz xs hf;split at h3
    ·rename_i us' ns hp;exact⟨_,_,_,agp ho hy hf h3.1 h3.2.1 hu hp h3.2.2.2.1 hm h1 h3.2.2.1 h2,h3.2.2.2.2⟩
    ·exact h3.elim
   ·rename_i e sz xs hf;exact⟨_,_,_,afd ho hy hf h3.1 h3.2.1 hu hm h1 h3.2.2.1 h2,h3.2.2.2⟩
   ·exact h3.elim
  ·exact h3.elim
 ·exact h.elim
def ey(P:Program)(t:TypeId)(f:Nat)(σ:ASt)(u:PV)(K:KT):Prop:=
 match fo P t f with
 |some off=>match u with
  | .ptr n k=>K (.ptr n (k+off)) [] []
  | .el cs=>K (.el (cs.drop off)) [] []
  | .oel n k i o1=>match ah σ n with
   |some (.arr _ _ _ xs)=>k=xs.length/\i<k/\K (.oel n k i (o1+off)) [] [n]
   |some (.arh _ _ xs)=>k=xs.length/\i<k/\K (.oel n k i (o1+off)) [] [n]
   |_=>False
  |_=>False
 |none=>False
theorem qw{P:Program}{o:Oper}{ρ:Operand->PV}{σ:ASt}{t:TypeId}{f:Nat}{y:Operand}(ho:o.op= .fieldAddr t y f){K:KT}(h:ey P t f σ (ρ y) K): ∃u δ F,LOp P o ρ σ u δ F/\K u δ F:=by
 unfold ey at h;split at h
 ·rename_i off hf;obtain⟨ft,m,h1,h2⟩:=a84 hf;split at h
  ·rename_i n k hy;exact⟨_,_,_,rq ho hy h1 h2,h⟩
  ·rename_i cs hy;exact⟨_,_,_,uc ho hy h1 h2,h⟩
  ·rename_i n k i o1 hy;split at h
   ·rename_i e sz sh xs hB;exact⟨_,_,_,kg ho hy hB rfl h.1 h.2.1 h1 h2,h.2.2⟩
   ·rename_i e sz xs hB;exact⟨_,_,_,kg ho hy hB rfl h.1 h.2.1 h1 h2,h.2.2⟩
   ·exact h.elim
  ·exact h.elim
 ·exact h.elim
def cg(P:Program)(t:TypeId)(σ:ASt)(u v:PV)(K:KT):Prop:=
 match v with
 | .int _ i=>match u with
  | .vs xs=>match slT P t with
   |some (_,sz,_)=>0<=i/\i<xs.length/\(xs.getD i.toNat []).length=sz/\K (.el (xs.getD i.toNat [])) [] []
   |none=>False
  | .os n m=>match slT P t,ah σ n with
   |some (_,sz,_),some (.arr _ sz' _ xs)=>sz'=sz/\m=xs.length/\0<=i/\i<xs.length/\K (.oel n m i.toNat 0) [] [n]
   |some (_,sz,_),some (.arh _ sz' xs)=>sz'=sz/\m=xs.length/\0<=i/\i<xs.length/\K (.oel n m i.toNat 0) [] [n]
   |_,_=>False
  | .ptr n m=>match arT P t with
   |some (len,sz)=>0<=i/\i<len/\K (.ptr n (m+i.toNat*sz)) [] []
   |none=>False
  | .osl n m a=>match slT P t,ah σ n with
   |some (_,sz,_),some (.arh _ sz' xs)=>sz'=sz/\m=xs.length/\0<=i/\a+i<xs.length/\K (.oel n m (a+i.toNat) 0) [] [n]
   |_,_=>False
  | .oq n m=>match slT P t,ah σ n with
   |some (_,sz,_),some (.arq _ sz' k' xs)=>(sz'=sz/\m=k'/\0<=i/\i<xs.length)/\K (.oqe n m i.toNat sz 0) [] [n]
   |_,_=>False
  |_=>False
 |_=>False
theorem q5{P:Program}{o:Oper}{ρ:Operand->PV}{σ:ASt}{t:TypeId}{y z:Operand}(ho:o.op= .indexAddr t y z){K:KT}(h:cg P t σ (ρ y) (ρ z) K): ∃u δ F,LOp P o ρ σ u δ F/\K u δ F:=by
 unfold cg at h;split at h
 ·rename_i kd i hz;split at h
  ·rename_i xs hy;split at h
   ·rename_i e sz b hs;obtain⟨h1,h2,_⟩:=fa hs;exact⟨_,_,_,ad3 ho hy hz h1 h2 h.1 h.2.1 h.2.2.1,h.2.2.2⟩
   ·exact h.elim
  ·rename_i n m hy;split at h
   ·rename_i e sz b e' sz' sh xs hs hf;obtain⟨h1,h2,_⟩:=fa hs;obtain⟨rfl,k1,k2,k3,k4⟩:=h;exact⟨_,_,_,s8 ho hy hz hf rfl k1 h1 h2 k2 k3,k4⟩
   ·rename_i e sz b e' sz' xs hs hf;obtain⟨h1,h2,_⟩:=fa hs;obtain⟨rfl,k1,k2,k3,k4⟩:=h;exact⟨_,_,_,s8 ho hy hz hf rfl k1 h1 h2 k2 k3,k4⟩
   ·exact h.elim
  ·rename_i n m hy;split at h
   ·rename_i len sz ha;obtain⟨e,h1,h2⟩:=a54 ha;exact⟨_,_,_,ab9 ho hy hz h1 h2 h.1 h.2.1,h.2.2⟩
   ·exact h.elim
  ·rename_i n m a hy;split at h
   ·rename_i e sz b e' sz' xs hs hf;obtain⟨h1,h2,_⟩:=fa hs;obtain⟨rfl,k1,k2,k3,k4⟩:=h;exact⟨_,_,_,aat ho hy hz hf rfl k1 h1 h2 k2 k3,k4⟩
   ·exact h.elim
  ·rename_i n m hy;split at h
   ·rename_i e sz b e' sz' k' xs hs hf;obtain⟨h1,h2,_⟩:=fa hs;obtain⟨⟨rfl,rfl,k2,k3⟩,k4⟩:=h;exact⟨_,_,_,afs ho hy hz hf h1 h2 k2 k3,k4⟩
   ·exact h.elim
  ·exact h.elim
 ·exact h.elim
def ij(P:Program)(t len:Nat)(parts:List (Nat×PV))(dst:Option Nat)(σ:ASt)(K:KT):Prop:=
 match slT P t,dst with
 |some (e,sz,_),some d=>match ah σ (900000+d)with
  |none=>match oc σ sz 0 parts with
   |some (xs,ns)=>ah σ d=none/\len=parts.length/\len*sz<=16777216/\K (.os d xs.length) (dj σ ns++[(d,.arr e sz false xs)]) (d::ns)
   |none=>False
  |some (.dead 2 _)=>match ue sz 0 parts with
   |some xs=>ah σ d=none/\len=parts.length/\len*sz<=16777216/\K (.os d xs.length) [(d,.arh e sz xs)] [d]
   |none=>False
  |some _=>match oe σ sz 0 parts with
   |some (xs,ns)=>ah σ d=none/\len=parts.length/\len*sz<=16777216/\K (.os d xs.length) (dj σ ns++[(d,.arr e sz false xs)]) (d::ns)
   |none=>False
 |_,_=>False
def t7(P:Program)(tx sz:Nat)(σ:ASt)(v:PV)(k:List (List PV)->List Nat->Prop):Prop:=
 match v with
 | .vs ys=>(ay P tx=true/\∀y∈ys,y.length=sz)/\k ys []
 | .nils=>ay P tx=true/\k [] []
 | .sn _=>ay P tx=true/\k [] []
 | .os m n=>match ah σ m with
  |some (.arr _ sz' _ ys)=>(ay P tx=true/\n=ys.length/\sz'=sz)/\k ys [m]
  |_=>False
 | .str l=>(fx P tx=true/\sz=1)/\k (bo l) []
 |_=>False
def vz(e sz bytes:Nat)(dst:Option Nat)(σ:ASt)(u:PV)(K:KT)(ys:List (List PV))(F:List Nat):Prop:=
 match u with
 | .os n k=>match ah σ n with
  |some (.arr e' sz' sh xs)=>(e'=e/\sz'=sz/\k=xs.length/\(xs.length+ys.length)*bytes<=140737488355328)/\K (.os n (k+ys.length)) [(n,.arr e sz sh (xs++ys))] (n::F)
  |some (.arh e' sz' xs)=>(e'=e/\sz'=sz/\k=xs.length/\(xs.length+ys.length)*bytes<=140737488355328)/\K (.os n (k+ys.length)) [(n,.arh e sz (xs++ys))] (n::F)
  |_=>False
 | .nils=>match dst with
  |some d=>(ah σ d=none/\ys.length*bytes<=140737488355328)/\K (.os d ys.length) [(d,.arr e sz false ys)] (d::F)
  |none=>False
 | .vx xs=>match dst with
  |some d=>(ah σ d=none/\(∀x∈xs,x.length=sz)/\(xs.length+ys.length)*bytes<=140737488355328)/\(ys=[]->K (.vs xs) [] F)/\(0<ys.length->K (.os d (xs.length+ys.length)) [(d,.arr e sz false (xs++ys))] (d::F))
  |none=>False
 |_=>False
def ki(P:Program)(t tx:TypeId)(dst:Option Nat)(σ:ASt)(u v:PV)(K:KT):Prop:=
 match slT P t with
 |some (e,sz,bytes)=>t7 P tx sz σ v (vz e sz bytes dst σ u K)
 |none=>False
theorem alf{P:Program}{t tx:TypeId}{dst:Option Nat}{σ:ASt}{u v:PV}{K:KT}(h:ki P t tx dst σ u v K):a6n P t tx dst σ u v K:=by
 unfold ki at h;split at h
 ·rename_i e sz bytes hs;obtain⟨h1,h2,h3,h4,h5,h6⟩:=fa hs;refine⟨e,sz,bytes,h1,h2,h3,h4,h5,h6,?_⟩;unfold t7 at h;split at h
  ·obtain⟨k1,k2⟩:=h;refine⟨_,[],⟨k1.1,rfl,rfl,k1.2⟩,?_⟩;unfold vz at k2;split at k2
   ·split at k2
    ·rename_i hf;simp only[hf];exact⟨k2.1.1,k2.1.2.1,k2.1.2.2.1,k2.1.2.2.2,k2.2⟩
    ·rename_i hf;simp only[hf];exact⟨k2.1.1,k2.1.2.1,k2.1.2.2.1,k2.1.2.2.2,k2.2⟩
    ·exact k2.elim
   ·split at k2
    ·exact⟨k2.1.1,k2.1.2,k2.2⟩
    ·exact k2.elim
   ·split at k2
    ·exact⟨k2.1.1,k2.1.2.1,k2.1.2.2,k2.2.1,k2.2.2⟩
    ·exact k2.elim
   ·exact k2.elim
  ·obtain⟨k1,k2⟩:=h;refine⟨[],[],⟨k1,rfl,rfl⟩,?_⟩;unfold vz at k2;split at k2
   ·split at k2
    ·rename_i hf;simp only[hf];exact⟨k2.1.1,k2.1.2.1,k2.1.2.2.1,k2.1.2.2.2,k2.2⟩
    ·rename_i hf;simp only[hf];exact⟨k2.1.1,k2.1.2.1,k2.1.2.2.1,k2.1.2.2.2,k2.2⟩
    ·exact k2.elim
   ·split at k2
    ·exact⟨k2.1.1,k2.1.2,k2.2⟩
    ·exact k2.elim
   ·split at k2
    ·exact⟨k2.1.1,k2.1.2.1,k2.1.2.2,k2.2.1,k2.2.2⟩
    ·exact k2.elim
   ·exact k2.elim
  ·obtain⟨k1,k2⟩:=h;refine⟨[],[],⟨k1,rfl,rfl⟩,?_⟩;unfold vz at k2;split at k2
   ·split at k2
    ·rename_i hf;simp only[hf];exact⟨k2.1.1,k2.1.2.1,k2.1.2.2.1,k2.1.2.2.2,k2.2⟩
    ·rename_i hf;simp only[hf];exact⟨k2.1.1,k2.1.2.1,k2.1.2.2.1,k2.1.2.2.2,k2.2⟩
    ·exact k2.elim
   ·split at k2
    ·exact⟨k2.1.1,k2.1.2,k2.2⟩
    ·exact k2.elim
   ·split at k2
    ·exact⟨k2.1.1,k2.1.2.1,k2.1.2.2,k2.2.1,k2.2.2⟩
    ·exact k2.elim
   ·exact k2.elim
  ·split at h
   ·rename_i e' sz' sh ys hf;obtain⟨k1,k2⟩:=h;refine⟨ys,_,⟨k1.1,?_,rfl⟩,?_⟩
    ·rw[hf];exact⟨rfl,k1.2.1,k1.2.2⟩
    ·unfold vz at k2;split at k2
     ·split at k2
      ·rename_i hf;simp only[hf];exact⟨k2.1.1,k2.1.2.1,k2.1.2.2.1,k2.1.2.2.2,k2.2⟩
      ·rename_i hf;simp only[hf];exact⟨k2.1.1,k2.1.2.1,k2.1.2.2.1,k2.1.2.2.2,k2.2⟩
      ·exact k2.elim
     ·split at k2
      ·exact⟨k2.1.1,k2.1.2,k2.2⟩
      ·exact k2.elim
     ·split at k2
      ·exact⟨k2.1.1,k2.1.2.1,k2.1.2.2,k2.2.1,k2.2.2⟩
      ·exact k2.elim
     ·exact k2.elim
   ·exact h.elim
  ·obtain⟨k1,k2⟩:=h;refine⟨_,[],⟨k1.1,rfl,rfl,k1.2⟩,?_⟩;unfold vz at k2;split at k2
   ·split at k2
    ·rename_i hf;simp only[hf];exact⟨k2.1.1,k2.1.2.1,k2.1.2.2.1,k2.1.2.2.2,k2.2⟩
    ·rename_i hf;simp only[hf];exact⟨k2.1.1,k2.1.2.1,k2.1.2.2.1,k2.1.2.2.2,k2.2⟩
    ·exact k2.elim
   ·split at k2
    ·exact⟨k2.1.1,k2.1.2,k2.2⟩
    ·exact k2.elim
   ·split at k2
    ·exact⟨k2.1.1,k2.1.2.1,k2.1.2.2,k2.2.1,k2.2.2⟩
    ·exact k2.elim
   ·exact k2.elim
  ·exact h.elim
 ·exact h.elim
def gi(P:Program)(t:TypeId)(σ:ASt)(u:PV)(lo hi mx:Option PV)(K:KT):Prop:=
 match loN lo with
 |some l=>match u with
  | .vs xs=>match slT P t,hiN xs.length hi,hiN xs.length mx with
   |some (_,sz,_),some h,some m=>(0<=l/\l<=h/\h<=m/\m<=xs.length/\(mx.isSome=true->hi.isSome=true))/\(0<l->∀x∈xs,x.length=sz)/\K (.vs ((xs.take h.toNat).drop l.toNat)) [] []
   |_,_,_=>False
  | .nils=>match slT P t,hiN 0 hi,hiN 0 mx with
   |some _,some h,some m=>(0<=l/\l<=h/\h<=m/\m<=0/\(mx.isSome=true->hi.isSome=true))/\K (.vs []) [] []
   |_,_,_=>False
  | .os n k=>match ah σ n with
   |some (.arr _ asz _ xs)=>match slT P t,hiN xs.length hi,hiN xs.length mx with
    |some (_,sz,_),some h,some m=>(asz=sz/\k=xs.length/\0<=l/\l<=h/\h<=m/\m<=xs.length/\(mx.isSome=true->hi.isSome=true))/\K (.vs ((xs.take h.toNat).drop l.toNat)) (dj σ [n]) [n]
    |_,_,_=>False
   |_=>False
  | .str s=>match hiN s.length hi with
   |some h=>(fx P t=true/\mx=none/\0<=l/\l<=h/\h<=s.length)/\K (.str ((s.take h.toNat).drop l.toNat)) [] []
   |none=>False
  |_=>False
 |none=>False
theorem zm{P:Program}{t:TypeId}{σ:ASt}{u:PV}{lo hi mx:Option PV}{K:KT}(h:gi P t σ u lo hi mx K):auk P t σ u lo hi mx K:=by
 unfold gi at h;split at h
 ·rename_i l hl;refine⟨l,hl,?_⟩;split at h
  ·split at h
   ·rename_i e sz b hh m h1 h2 h3;obtain⟨k1,k2,_⟩:=fa h1;obtain⟨⟨a1,a2,a3,a4,a5⟩,a6,a7⟩:=h;exact⟨e,sz,hh,m,k1,k2,h2,h3,a1,a2,a3,a4,a5,a6,a7⟩
   ·exact h.elim
  ·split at h
   ·rename_i p hh m h1 h2 h3;obtain⟨e,sz,b⟩:=p;obtain⟨k1,k2,_⟩:=fa h1;obtain⟨⟨a1,a2,a3,a4,a5⟩,a7⟩:=h;exact⟨e,sz,hh,m,k1,k2,h2,h3,a1,a2,a3,a4,a5,a7⟩
   ·exact h.elim
  ·split at h
   ·rename_i e' asz sh xs hf;simp only;rw[hf];split at h
    ·rename_i e sz b hh m h1 h2 h3;obtain⟨k1,k2,_⟩:=fa h1;obtain⟨⟨a0,a0',a1,a2,a3,a4,a5⟩,a7⟩:=h;exact⟨e,sz,hh,m,k1,k2,a0,h2,h3,a0',a1,a2,a3,a4,a5,a7⟩
    ·exact h.elim
   ·exact h.elim
  ·split at h
   ·rename_i hh h2;obtain⟨⟨a0,a0',a1,a2,a3⟩,a7⟩:=h;exact⟨hh,h2,a0,a0',a1,a2,a3,a7⟩
   ·exact h.elim
  ·exact h.elim
 ·exact h.elim
def aet(P:Program)(t:TypeId)(σ:ASt)(n k e asz:Nat)(xs:List (List PV))(lo hi mx:Option PV)(K:KT):Prop:=
 match slT P t,lo,hi,mx with
 |some (_,sz,_),some (.int _ i),none,none=>asz=sz/\k=xs.length/\0<=i/\i<k/\K (.osl n k i.toNat) [] [n]
 |some (_,sz,_),none,some (.int _ i),none=>(asz=sz/\k=xs.length/\0<=i/\i<=k)/\lm σ xs=some (xs,[])/\K (.vs (xs.take i.toNat)) [(n,.arr e asz true xs)] [n]
 |_,_,_,_=>False
def a1w(P:Program)(t:TypeId)(σ:ASt)(u:PV)(lo hi:Option PV)(m:PV)(K:KT):Prop:=
 match lo,hi,m,slT P t with
 |none,some (.int _ i),.int _ j,some (_,sz,_)=>match u with
  | .vs xs=>(i=j/\0<=i/\i<=xs.length)/\K (.vx (xs.take i.toNat)) [] []
  | .os n k=>match ah σ n with
   |some (.arr _ asz _ xs)=>(i=j/\0<=i/\i<=xs.length/\k=xs.length/\asz=sz)/\K (.vx (xs.take i.toNat)) (dj σ [n]) [n]
   |_=>False
  |_=>False
 |_,_,_,_=>False
def amz(P:Program)(t:TypeId)(n k asz:Nat)(xs:List (List PV))(lo hi:Option PV)(K:KT):Prop:=
 match slT P t,lo,hi with
 |some (_,sz,_),some (.int _ i),none=>(asz=sz/\k=xs.length/\0<=i/\i<k)/\K (.oss n k i.toNat (k - i.toNat)) [] [n]
 |some (_,sz,_),none,some (.int _ i)=>(asz=sz/\k=xs.length/\0<i/\i<=k)/\K (.oss n k 0 i.toNat) [] [n]
 |_,_,_=>False
def a9t(n k:Nat)(ys:List (List PV))(K:KT):Option (Nat×Nat×Nat)->Option (Nat×Nat×Nat)->Option Box->Prop
 |some (_,1,_),some _,some (.arr e 1 false xs)=>((0<k/\k=xs.length)/\(∀y∈ys,y.length=1))/\K (.int .i64 ((min ys.length k:Nat):Int)) [(n,.arr e 1 false (ys.take (min ys.length k)++xs.drop (min ys.length k)))] [n]
 |_,_,_=>False
def a9k(n k i m n' k' j m':Nat)(K:KT):Option (Nat×Nat×Nat)->Option (Nat×Nat×Nat)->Option Box->Prop
 |some (_,1,_),some _,some (.arh e 1 xs)=>(n'=n/\k'=k/\k=xs.length/\i+m<=k/\j+m'<=k/\i<k/\j<k)/\K (.int .i64 ((min m' m:Nat):Int)) [(n,.arh e 1 (xs.take i++((xs.drop j).take (min m' m)++xs.drop (i+min m' m))))] [n]
 |_,_,_=>False
def aue(P:Program)(t tx:TypeId)(σ:ASt)(u v:PV)(K:KT):Prop:=
 match u,v with
 | .os n k,.vs ys=>a9t n k ys K (slT P t) (slT P tx) (ah σ n)
 | .oss n k i m,.oss n' k' j m'=>a9k n k i m n' k' j m' K (slT P t) (slT P tx) (ah σ n)
 |_,_=>False
def a59(P:Program)(t:TypeId)(σ:ASt)(n k:Nat)(lo hi:Option PV)(K:KT):Prop:=
 match slT P t,ah σ n,lo,hi with
 |some (_,sz,_),some (.arq e asz k' xs),some (.int _ i),none=>(asz=sz/\k=k'/\0<=i/\i<=xs.length)/\K (.oq n (k+1)) [(n,.arq e asz (k+1) (xs.drop i.toNat))] [n]
 |_,_,_,_=>False
def iw(P:Program)(t:TypeId)(σ:ASt)(u:PV)(lo hi mx:Option PV)(K:KT):Prop:=
 match mx with
 |some m=>a1w P t σ u lo hi m K
 |none=>match u with
  | .os n k=>match ah σ n with
   |some (.arh e asz xs)=>match ah σ (900000+n)with
    |none=>aet P t σ n k e asz xs lo hi none K
    |some _=>amz P t n k asz xs lo hi K
   |_=>gi P t σ (.os n k) lo hi none K
  | .oq n k=>a59 P t σ n k lo hi K
  |u=>gi P t σ u lo hi none K
theorem eu{α β:Type}{f:α->β}{o:Option α}{b:β}(h:o.map f=some b): ∃a,o=some a/\f a=b:=by
 cases o with
 |none=>cases h
 |some a=>exact⟨a,rfl,by simpa using h⟩
theorem cr{α β:Type}{f:α->β}{o:Option α}(h:o.map f=none):o=none:=by
 cases o with
 |none=>rfl
 |some a=>cases h
theorem yb{P:Program}{o:Oper}{ρ:Operand->PV}{σ:ASt}{t:TypeId}{y:Operand}{lo hi mx:Option Operand}(ho:o.op= .slice t y lo hi mx){K:KT}(h:iw P t σ (ρ y) (lo.map ρ) (hi.map ρ) (mx.map ρ) K):
  ∃u δ F,LOp P o ρ σ u δ F/\K u δ F:=by
 unfold iw at h;split at h
 ·rename_i m hmx;obtain⟨m0,rfl,rfl⟩:=eu hmx;unfold a1w at h;split at h
  ·rename_i h1 h2 hm0 h4;obtain rfl:=cr h1;obtain⟨z,rfl,hz⟩:=eu h2;obtain⟨a1,a2,_⟩:=fa h4;split at h
   ·rename_i xs hy;obtain⟨⟨rfl,k1,k2⟩,k3⟩:=h;exact⟨_,_,_,af0 ho hy hz hm0 a1 a2 k1 k2,k3⟩
   ·rename_i n k hy;split at h
    ·rename_i e' asz sh xs hf;obtain⟨⟨rfl,k1,k2,k4,rfl⟩,k3⟩:=h;exact⟨_,_,_,aax ho hy hf k4 hz hm0 a1 a2 k1 k2,k3⟩
    ·exact h.elim
   ·exact h.elim
  ·exact h.elim
 rename_i hmx;rw[<-hmx]at h;split at h
 ·rename_i n k hy;split at h
  ·rename_i e asz xs hf;split at h
   rotate_left
   ·unfold amz at h;split at h
    ·rename_i e' sz b kd i h1 h2 h3;obtain⟨z,rfl,hz⟩:=eu h2;obtain rfl:=cr h3;obtain rfl:=cr hmx;obtain⟨k1,k2,_⟩:=fa h1;obtain⟨⟨rfl,a1,a2,a3⟩,a4⟩:=h;exact⟨_,_,_,aba ho hy hz hf a1 k1 k2 a2 a3,a4⟩
    ·rename_i e' sz b kd i h1 h2 h3;obtain⟨z,rfl,hz⟩:=eu h3;obtain rfl:=cr h2;obtain rfl:=cr hmx;obtain⟨k1,k2,_⟩:=fa h1;obtain⟨⟨rfl,a1,a2,a3⟩,a4⟩:=h;exact⟨_,_,_,abc ho hy hz hf a1 k1 k2 a2 a3,a4⟩
    ·exact h.elim
   unfold aet at h;split at h
   ·rename_i e' sz b kd i h1 h2 h3 h4;obtain⟨z,rfl,hz⟩:=eu h2;obtain rfl:=cr h3;obtain rfl:=cr h4;obtain⟨k1,k2,_⟩:=fa h1;obtain⟨rfl,a1,a2,a3,a4⟩:=h;exact⟨_,_,_,ad6 ho hy hz hf a1 k1 k2 a2 a3,a4⟩
   ·rename_i e' sz b kd i h1 h2 h3 h4;obtain⟨z,rfl,hz⟩:=eu h3;obtain rfl:=cr h2;obtain rfl:=cr h4;obtain⟨k1,k2,_⟩:=fa h1;obtain⟨⟨rfl,a1,a2,a3⟩,a4,a5⟩:=h;exact⟨_,_,_,aap ho hy hz hf a1 k1 k2 a2 a3 a4,a5⟩
   ·exact h.elim
  ·rw[<-hy]at h;exact ql ho (zm h)
 ·rename_i n k hy;unfold a59 at h;split at h
  ·rename_i e' sz b e asz k' xs kd i h1 hf h2 h3;obtain⟨z,rfl,hz⟩:=eu h2;obtain rfl:=cr h3;obtain rfl:=cr hmx;obtain⟨k1,k2,_⟩:=fa h1;obtain⟨⟨rfl,rfl,a1,a2⟩,a3⟩:=h;exact⟨_,_,_,adg ho hy hz hf k1 k2 a1 a2,a3⟩
  ·exact h.elim
 ·exact ql ho (zm h)
def r9(P:Program)(t:TypeId)(dst:Option Nat)(σ:ASt)(u v:PV)(K:KT):Prop:=
 match u,v,dst,slT P t with
 | .int _ l,.int _ c,some d,some (e,sz,bytes)=>match bk P e with
  |some zs=>(zs.all eh=true/\0<=l/\l<=c/\(bytes:Int)*c<=140737488355328/\c<=140737488355328/\ah σ d=none)/\K (.os d l.toNat) [(d,.arr e sz false (List.replicate l.toNat (zs.map agc)))] [d]
  |none=>False
 |_,_,_,_=>False
theorem arv{P:Program}{t:TypeId}{dst:Option Nat}{σ:ASt}{u v:PV}{K:KT}(h:r9 P t dst σ u v K):ap7 P t dst σ u v K:=by
 unfold r9 at h;split at h
 ·rename_i k1 l k2 c d e sz bytes hs;obtain⟨h1,h2,h3,⟨zs',h4,h4'⟩,h5,h6⟩:=fa hs;split at h
  ·rename_i zs hz;rw[hz]at h4;have h4:=Option.some.inj h4;subst h4;obtain⟨⟨a1,a2,a3,a4,a5,a6⟩,a7⟩:=h;exact⟨e,sz,zs,bytes,h1,h2,h3,hz,h4',a1,h5,a2,a3,a4,a5,a6,a7⟩
  ·exact h.elim
 ·exact h.elim
def a0e(P:Program)(t:TypeId)(σ:ASt)(n:Nat)(K:KT):Prop:=
 match ah σ n,age P t with
 |some (.mp es),some _=>K (.int .i64 es.length) [] [n]
 |_,_=>False
def p9(P:Program)(t:TypeId)(σ:ASt)(x:PV)(K:KT):Prop:=
 match x with
 | .mh n=>a0e P t σ n K
 |x=>uf P t σ x K
theorem ae1{P:Program}{o:Oper}{ρ:Operand->PV}{σ:ASt}{t:TypeId}{y:Operand}(ho:o.op= .call {callee:= .builtin .len,args:= #[y],argTypes:= #[t]}){K:KT}(h:p9 P t σ (ρ y) K):
  ∃u δ F,LOp P o ρ σ u δ F/\K u δ F:=by
 unfold p9 at h;split at h
 ·rename_i n hy;unfold a0e at h;split at h
  ·rename_i es q hf hm;obtain⟨k,d,e⟩:=q;exact⟨_,_,_,anx ho hy hf hm,h⟩
  ·exact h.elim
 ·exact agx ho h
def zn(P:Program)(t:TypeId)(ok:Bool)(σ:ASt)(u q:PV)(K:KT):Prop:=
 match u with
 | .mh n=>match ah σ n,age P t with
  |some (.mp es),some (_,dk,e)=>match lc q es 0,aly P e with
   |some r,some z=>mc dk q=true/\K (a1f es z ok r) [] [n]
   |_,_=>False
  |_,_=>False
 |_=>False
theorem afo{P:Program}{o:Oper}{ρ:Operand->PV}{σ:ASt}{t:TypeId}{y q:Operand}{ok:Bool}(ho:o.op= .lookup t y q ok){K:KT}(h:zn P t ok σ (ρ y) (ρ q) K): ∃u δ F,LOp P o ρ σ u δ F/\K u δ F:=by
 unfold zn at h;split at h
 ·rename_i n hy;split at h
  ·rename_i es k dk e hf hm;split at h
   ·rename_i r z hr hz;exact⟨_,_,_,aol ho hy hf hm h.1 hr hz,h.2⟩
   ·exact h.elim
  ·exact h.elim
 ·exact h.elim
def agi(P:Program)(t:TypeId)(σ:ASt)(u q v:PV)(K:KT):Prop:=
 match u with
 | .mh n=>match ah σ n,age P t with
  |some (.mp es),some (_,dk,_)=>match lc q es 0 with
   |some r=>mc dk q=true/\K .undef [(n,.mp (akj es q v r))] [n]
   |_=>False
  |_,_=>False
 |_=>False
theorem vq{P:Program}{o:Oper}{ρ:Operand->PV}{σ:ASt}{t:TypeId}{y q z:Operand}(ho:o.op= .mapUpdate t y q z\/o.op= .insert t y q z){K:KT}(h:agi P t σ (ρ y) (ρ q) (ρ z) K): ∃u δ F,LOp P o ρ σ u δ F/\K u δ F:=by
 unfold agi at h;split at h
 ·rename_i n hy;split at h
  ·rename_i es k dk e hf hm;split at h
   ·rename_i r hr;exact⟨_,_,_,aa2 ho hy hf hm h.1 hr,h.2⟩
   ·exact h.elim
  ·exact h.elim
 ·exact h.elim
def arc(P:Program)(t:TypeId)(dst:Option Nat)(σ:ASt)(u:PV)(K:KT):Prop:=
 match u,dst with
 | .mh n,some d=>match ah σ n,age P t with
  |some (.mp es),some _=>ah σ d=none/\K (.mh d) [(d,.it n es.length [])] [d,n]
  |_,_=>False
 | .str l,some d=>fx P t=true/\ah σ d=none/\K (.mh d) [(d,.si l 0)] [d]
 |_,_=>False
theorem aht{P:Program}{o:Oper}{ρ:Operand->PV}{σ:ASt}{t:TypeId}{y:Operand}(ho:o.op= .range t y){K:KT}(h:arc P t o.dst σ (ρ y) K): ∃u δ F,LOp P o ρ σ u δ F/\K u δ F:=by
 unfold arc at h;split at h
 ·rename_i n d hy hd;split at h
  ·rename_i es q hf hm;obtain⟨k,dk,e⟩:=q;exact⟨_,_,_,auc ho hy hf hm h.1,h.2⟩
  ·exact h.elim
 ·rename_i l d hy hd;exact⟨_,_,_,anq ho hy (fj h.1) h.2.1,h.2.2⟩
 ·exact h.elim
def a1k(σ:ASt)(u:PV)(K:KT):Prop:=
 match u with
 | .mh d=>match ah σ d with
  |some (.it m k done)=>match ah σ m with
   |some (.mp es)=> ∃l i,done=l++[i]/\k=es.length/\i<k/\K (.tup [(es.getD i (.undef,.undef)).1,(es.getD i (.undef,.undef)).2]) [] [d,m]
   |_=>False
  |_=>False
 |_=>False
theorem ag8{P:Program}{o:Oper}{ρ:Operand->PV}{σ:ASt}{y:Operand}(ho:o.op= .entry y){K:KT}(h:a1k σ (ρ y) K): ∃u δ F,LOp P o ρ σ u δ F/\K u δ F:=by
 unfold a1k at h;split at h
 ·rename_i d hy;split at h
  ·rename_i m k done hd;split at h
   ·rename_i es hm;obtain⟨l,i,rfl,h2,h3,h4⟩:=h;exact⟨_,_,_,ari ho hy hd hm h2 h3,h4⟩
   ·exact h.elim
  ·exact h.elim
 ·exact h.elim
def em:Op->Bool
 | .next _ s=> !s
 |_=>false
def am8(P:Program)(t:TypeId)(σ:ASt)(x:PV)(K:KT):Prop:=
 match x with
 | .osl n k i=>match slT P t,ah σ n with
  |some (e',sz,_),some (.arh e asz xs)=>match bk P e' with
   |some zs=>(asz=sz/\k=xs.length/\i<k/\zs.all eh=true)/\K (.tup []) [(n,.arh e asz (xs.take i++List.replicate (k - i) (zs.map agc)))] [n]
   |none=>False
  |_,_=>False
 |_=>False
theorem ahp{P:Program}{o:Oper}{ρ:Operand->PV}{σ:ASt}{t:TypeId}{y:Operand}(ho:o.op= .call {callee:= .builtin .clear,args:= #[y],argTypes:= #[t]}){K:KT}(h:am8 P t σ (ρ y) K):
  ∃u δ F,LOp P o ρ σ u δ F/\K u δ F:=by
 unfold am8 at h;split at h
 ·rename_i n k i hy;split at h
  ·rename_i e' sz b e asz xs hs hf;split at h
   ·rename_i zs hz;obtain⟨k1,k2,_,⟨zs',k3,k4⟩,_⟩:=fa hs;rw[hz]at k3
    cases k3
    obtain⟨⟨rfl,a1,a2,a3⟩,a4⟩:=h;exact⟨_,_,_,apg ho hy hf a1 a2 k1 hz k4 a3,a4⟩
   ·exact h.elim
  ·exact h.elim
 ·exact h.elim
def apz(e sz bytes:Nat)(σ:ASt)(n k:Nat)(K:KT)(ys:List (List PV))(F:List Nat):Prop:=
 match ah σ n with
 |some (.arq e' sz' k' xs)=>(e'=e/\sz'=sz/\k=k'/\(xs.length+ys.length)*bytes<=140737488355328)/\K (.oq n (k+1)) [(n,.arq e sz (k+1) (xs++ys))] (n::F)
 |_=>False
def aqa(P:Program)(t tx:TypeId)(σ:ASt)(n k:Nat)(v:PV)(K:KT):Prop:=
 match slT P t with
 |some (e,sz,bytes)=>t7 P tx sz σ v (apz e sz bytes σ n k K)
 |none=>False
def ar8(P:Program)(t tx:TypeId)(dst:Option Nat)(σ:ASt)(n k m j:Nat)(K:KT):Option Box->Prop
 |some (.arh _ _ ys)=>match slT P t,ah σ n with
  |some (e,sz,bytes),some (.arh e' sz' xs)=>match ay P tx,ah σ m with
   |true,some (.arh _ sz2 _)=>(e'=e/\sz'=sz/\sz2=sz/\k=xs.length/\j=ys.length/\(xs.length+ys.length)*bytes<=140737488355328)/\K (.os n (k+ys.length)) [(n,.arh e sz (xs++ys))] [n,m]
   |_,_=>False
  |_,_=>False
 |_=>ki P t tx dst σ (.os n k) (.os m j) K
def nv(P:Program)(t tx:TypeId)(dst:Option Nat)(σ:ASt)(u v:PV)(K:KT):Prop:=
 match u,v with
 | .oq n k,v=>aqa P t tx σ n k v K
 | .os n k,.os m j=>ar8 P t tx dst σ n k m j K (ah σ m)
 |u,v=>ki P t tx dst σ u v K
theorem aeo{P:Program}{o:Oper}{ρ:Operand->PV}{σ:ASt}{t tx:TypeId}{y z:Operand}{n k:Nat}(ho:o.op= .call {callee:= .builtin .append,args:= #[y,z],argTypes:= #[t,tx]})(hy:ρ y= .oq n k){K:KT}(h:aqa P t tx σ n k (ρ z) K):
  ∃u δ F,LOp P o ρ σ u δ F/\K u δ F:=by
 unfold aqa at h;split at h
 ·rename_i e sz bytes hs;obtain⟨h1,h2,h3,h4,h5,h6⟩:=fa hs
  have fin: ∀ys F,(ay P tx=true\/fx P tx=true)->(∀(s:St),(∀m∈F,s m=ah σ m)->∀(x:Ctx P) hv w v,SimW x s hv w->RV (env x s hv w) v (ρ z)->ua P (env x s hv w) w sz v ys)->apz e sz bytes σ n k K ys F->∃u δ F,LOp P o ρ σ u δ F/\K u δ F:=fun ys F htx hz hd=>by
   unfold apz at hd;split at hd
   ·rename_i e' sz' k' xs hf;obtain⟨⟨rfl,rfl,rfl,a1⟩,a2⟩:=hd;exact⟨_,_,_,ach ho ⟨h1,h2,h3,h4,h5,h6,htx⟩ hy hf a1 hz,a2⟩
   ·exact hd.elim
  unfold t7 at h;split at h
  ·rename_i ys' hz;exact fin _ _ (.inl h.1.1) (fun s hs x hv w v hW hv0=>qj (by rw[hz]at hv0;exact hv0.vs_inv) h.1.2) h.2
  ·rename_i hz;exact fin _ _ (.inl h.1) (fun s hs x hv w v hW hv0=>by rw[hz]at hv0;rw[hv0.nils_inv];exact y7) h.2
  ·rename_i b hz
   exact fin _ _ (.inl h.1) (fun s hs x hv w v hW hv0=>qj (by
    rw[hz]at hv0
    cases hv0 with
    |pure hq=>cases hq with
     |sn b c _=>exact .vs (sz:=0) (fun _ _=>undef) rfl (Nat.zero_le _) (by simp) (by simp) (by simp) (by simp)) (by simp)) h.2
  ·rename_i m k2 hz;split at h
   ·rename_i e' sz' sh' ys' hf;obtain⟨⟨k1,k3,rfl⟩,k4⟩:=h;exact fin _ _ (.inl k1) (fun s hs x hv w v hW hv0=>ai4 hW ((hs m (by simp)).trans hf) k3 (by rw[hz]at hv0;exact hv0)) k4
   ·exact h.elim
  ·rename_i l hz;obtain⟨⟨k1,rfl⟩,k2⟩:=h;exact fin _ _ (.inr k1) (fun s hs x hv w v hW hv0=>by rw[hz]at hv0;rw[hv0.str_inv];exact ac9) k2
  ·exact h.elim
 ·exact h.elim
theorem aek{P:Program}{o:Oper}{ρ:Operand->PV}{σ:ASt}{t tx:TypeId}{y z:Operand}(ho:o.op= .call {callee:= .builtin .append,args:= #[y,z],argTypes:= #[t,tx]}){K:KT}(h:nv P t tx o.dst σ (ρ y) (ρ z) K):
  ∃u δ F,LOp P o ρ σ u δ F/\K u δ F:=by
 unfold nv at h;split at h
 ·rename_i n k hy;exact aeo ho hy h
 ·rename_i n k m j hy hz;have hdef:ki P t tx o.dst σ (.os n k) (.os m j) K->∃u δ F,LOp P o ρ σ u δ F/\K u δ F:=fun h=>xm ho (alf (by rw[hy,hz];exact h));unfold ar8 at h;split at h
  ·rename_i e0 s0 ys hm;split at h
   ·rename_i e sz bytes e' sz' xs hs hn;split at h
    ·rename_i e2 sz2 ys2 hx hm2;rw[hm]at hm2
     cases hm2
     obtain⟨h1,h2,h3,h4,h5,h6⟩:=fa hs;obtain⟨⟨rfl,rfl,rfl,a1,a2,a3⟩,a4⟩:=h;exact⟨_,_,_,acd ho ⟨h1,h2,h3,h4,h5,h6,.inl hx⟩ hy hn a1 a3 hz hm a2,a4⟩
    ·exact h.elim
   ·exact h.elim
  ·exact hdef h
 ·exact xm ho (alf h)
theorem afl{P:Program}{o:Oper}{ρ:Operand->PV}{σ:ASt}{t tx:TypeId}{y z:Operand}(ho:o.op= .call {callee:= .builtin .copy,args:= #[y,z],argTypes:= #[t,tx]}){K:KT}(h:aue P t tx σ (ρ y) (ρ z) K):
  ∃u δ F,LOp P o ρ σ u δ F/\K u δ F:=by
 unfold aue at h;split at h
 ·rename_i n k ys hy hz;unfold a9t at h;split at h
  ·rename_i e' b p e xs h1 h2 hf;obtain⟨k1,k2,_⟩:=fa h1;obtain⟨⟨a1,a2⟩,a3⟩:=h;exact⟨_,_,_,aic ho hy hz hf a1 a2 k1 k2,a3⟩
  ·exact h.elim
 ·rename_i n k i m n' k' j m' hy hz;unfold a9k at h;split at h
  ·rename_i e' b p e xs h1 h2 hf;obtain⟨k1,k2,_⟩:=fa h1;obtain⟨⟨rfl,rfl,a1,a2,a3,a4,a5⟩,a6⟩:=h;exact⟨_,_,_,afu ho hy hz hf a1 a2 a3 a4 a5 k1 k2,a6⟩
  ·exact h.elim
 ·exact h.elim
def a88(P:Program)(b:Builtin)(us:List PV)(ts:List TypeId)(dst:Option Nat)(σ:ASt)(K:KT):Prop:=
 match b with
 | .len=>match us,ts with
  |[x],[t]=>p9 P t σ x K
  |_,_=>False
 | .append=>match us,ts with
  |[x,y],[t,tx]=>nv P t tx dst σ x y K
  |_,_=>False
 | .copy=>match us,ts with
  |[x,y],[t,tx]=>aue P t tx σ x y K
  |_,_=>False
 | .min=>match us with
  |[x,y]=>a4f false x y K
  |_=>False
 | .max=>match us with
  |[x,y]=>a4f true x y K
  |_=>False
 | .clear=>match us,ts with
  |[x],[t]=>am8 P t σ x K
  |_,_=>False
 |_=>False
theorem a4s{α β:Type}{a:Array α}{f:α->β}{x:β}(h:a.toList.map f=[x]): ∃y,a= #[y]/\f y=x:=by
 obtain⟨l⟩:=a
 match l,h with
 |[y],h=>exact⟨y,rfl,by simpa using h⟩
theorem avg{α β:Type}{a:Array α}{f:α->β}{x y:β}(h:a.toList.map f=[x,y]): ∃u v,a= #[u,v]/\f u=x/\f v=y:=by
 obtain⟨l⟩:=a
 match l,h with
 |[u,v],h=>exact⟨u,v,rfl,by simpa using h⟩
theorem am3{P:Program}{o:Oper}{ρ:Operand->PV}{σ:ASt}{b:Builtin}{ys:Array Operand}{ts:Array TypeId}(ho:o.op= .call {callee:= .builtin b,args:=ys,argTypes:=ts}){K:KT}
  (h:a88 P b (ys.toList.map ρ) ts.toList o.dst σ K): ∃u δ F,LOp P o ρ σ u δ F/\K u δ F:=by
 unfold a88 at h;split at h
 ·split at h
  ·rename_i x t hy ht;obtain⟨y,rfl,rfl⟩:=a4s hy;have:ts= #[t]:=by apply Array.ext';simpa using ht
   subst this;exact ae1 ho h
  ·exact h.elim
 ·split at h
  ·rename_i x y t tx hy ht;obtain⟨u,v,rfl,rfl,rfl⟩:=avg hy;have:ts= #[t,tx]:=by apply Array.ext';simpa using ht
   subst this;exact aek ho h
  ·exact h.elim
 ·split at h
  ·rename_i x y t tx hy ht;obtain⟨u,v,rfl,rfl,rfl⟩:=avg hy;have:ts= #[t,tx]:=by apply Array.ext';simpa using ht
   subst this;exact afl ho h
  ·exact h.elim
 ·split at h
  ·rename_i x y hy;obtain⟨u,v,rfl,rfl,rfl⟩:=avg hy;exact zu (mx:=false) ho h
  ·exact h.elim
 ·split at h
  ·rename_i x y hy;obtain⟨u,v,rfl,rfl,rfl⟩:=avg hy;exact zu (mx:=true) ho h
  ·exact h.elim
 ·split at h
  ·rename_i x t hy ht;obtain⟨y,rfl,rfl⟩:=a4s hy;have:ts= #[t]:=by apply Array.ext';simpa using ht
   subst this;exact ahp ho h
  ·exact h.elim
 ·exact h.elim
def a0s(fn:Fn)(first:List Operand)(us:List PV)(K:KT):Prop:=
 match fn,first with
 | .func f,[]=>K (.fn f us) [] []
 |_,_=>False
def ifT(P:Program)(t:TypeId):Bool:=match P.underlying t with
 |some (.interface _)=>false
 |some _=>true
 |none=>false
def a3n(P:Program)(t:TypeId)(σ:ASt)(v:PV)(K:KT):Prop:=
 ifT P t=true/\match v with
 | .agg cs=>match gr σ cs with
  |some (us,[])=>K (.ifc t (.agg us)) [] []
  |_=>False
 |v=>match pur σ v with
  |some (u,[])=>K (.ifc t u) [] []
  |_=>False
theorem y8(s:St):ar s []=s:=by
 funext m;simp[ar]
theorem ahu{P:Program}{o:Oper}{ρ:Operand->PV}{σ:ASt}{t:TypeId}{y:Operand}(ho:o.op= .makeInterface t y){K:KT}(h:a3n P t σ (ρ y) K): ∃u δ F,LOp P o ρ σ u δ F/\K u δ F:=by
 obtain⟨hi,h⟩:=h
 have hrun: ∀(v:Value) (w:World),(Instr.makeInterface t v).run P w= .ok (.iface t v) w:=fun v w=>by
  unfold ifT at hi
  cases hd:P.underlying t with
  |none=>rw[hd]at hi;cases hi
  |some d=>
   rw[hd]at hi
   cases d<;>first
    |(cases hi;done)
    |simp[Instr.makeInterface,run_underlying hd]
 have go: ∀u,(∀(s:St) (x:Ctx P) (hv:Nat->Value) (w:World),SimW x s hv w->∀v,RV (env x s hv w) v (ρ y)->RP (env x s hv w).pc v u)->LOp P o ρ σ (.ifc t u) [] []:=fun u hu=>
  ak fun s hs x a hv w hW hops=>⟨.iface t (a.eval y),by simp[execOp,ho,hrun],.pure (.ifc t (hu s x hv w hW _ (hops y (by simp[ho,Op.operands]))))⟩
 split at h
 ·rename_i cs hcs;split at h
  ·rename_i us hp;refine⟨_,_,_,go _ fun s x hv w hW v hv0=> ?_,h⟩;rw[hcs]at hv0;obtain⟨vs,rfl,hl,hr⟩:=hv0.agg_inv;obtain⟨k1,k2⟩:=dh (ns:=[]) hW (by simp) hp (by simp);rw[y8]at k2;refine .agg (by omega) fun i u hu=> ?_
   have hi:i<cs.length:=by
    have:=(ca.1 hu).1;omega
   exact k2 i _ u (bf hi) hu _ (hr i _ (bf hi))
  ·exact h.elim
 ·split at h
  ·rename_i u hp;refine⟨_,_,_,go _ fun s x hv w hW v hv0=> ?_,h⟩;have:=ee (ns:=[]) hW (by simp) hp (by simp) hv0
   rwa [y8]at this
  ·exact h.elim
def a3r(P:Program)(t:TypeId)(name:String):Option FuncId:=match P.info? t with
 |some ti=>match ti.methods.find? (·.name==name)with
  |some m=>match m.path.toList,m.func,P.underlying t with
   |[],some (_,_),some (.pointer _)=>none
   |[],some (f,false),some _=>some f
   |_,_,_=>none
  |none=>none
 |none=>none
theorem anh{P:Program}{t:TypeId}{name:String}{f:FuncId}(h:a3r P t name=some f)(n:Nat)(v:Value)(w:World):(method (n+1) t v name).run P w= .ok (f,v) w:=by
 unfold a3r at h;split at h
 ·rename_i ti hti;split at h
  ·rename_i m hm;split at h
   ·cases h
   ·rename_i d hne hp hf hd
    cases h
    have hq: ∀wr,(receiverAt t (.val v) false wr).run P w= .ok v w:=fun wr=>by
     unfold receiverAt;rw[Sem.run_bind,run_underlying hd]
     cases d<;>first
      |(exact absurd rfl (hne _))
      |simp[Place.get]
    simp[method,typeInfo,hti,hm,hp,follow,hf,hq]
   ·cases h
  ·cases h
 ·cases h
def a0j(P:Program)(r:PV)(name:String)(us:List PV)(dst:Option Nat)(σ:ASt)(K:KT):Prop:=match r with
 | .ifc t u=>match a3r P t name with
  |some f=>y9 P (.fn f []) (u::us) dst σ K
  |none=>False
 |_=>False
theorem agz{P:Program}{o:Oper}{ρ:Operand->PV}{σ:ASt}{r:Operand}{name:String}{ys:Array Operand}{ts:Array TypeId}(ho:o.op= .call {callee:= .invoke r name,args:=ys,argTypes:=ts}){K:KT}
  (h:a0j P (ρ r) name (ys.toList.map ρ) o.dst σ K): ∃u δ F,LOp P o ρ σ u δ F/\K u δ F:=by
 unfold a0j at h;split at h
 ·rename_i t u0 hr0;split at h
  ·rename_i f hf;obtain⟨k,caps,cargs,ext,r',nb,nb2,ext',ext2,ns1,ns2,ren,d,hfk,D,h1,h2,h3,h4,h5,hb5,h6,h7,h8,h9,_,hK⟩:=h
   cases hfk
   rw[List.append_nil]at h1;refine⟨_,_,_,⟨fun p hp=> ?_,fun s hs x a hv w hW hops next Q hn=> ?_⟩,hK⟩
   ·simp only[xi,List.mem_append]at hp;rcases hp with hp|hp|hp
    ·obtain⟨n,hn,rfl⟩:=List.mem_map.1 hp;exact List.mem_append.2 (.inl hn)
    ·obtain⟨n,B⟩:=p;exact List.mem_append.2 (.inr (List.mem_append.2 (.inl (List.of_mem_zip hp).1)))
    ·exact List.mem_append.2 (.inr (List.mem_append.2 (.inr (List.mem_map.2 ⟨p,hp,rfl⟩))))
   ·have hvr:=hops r (by simp[ho,Op.operands,Call.operands]);rw[hr0]at hvr
    obtain⟨v0,hv0,hp0⟩: ∃v0,a.eval r= .iface t v0/\RP (env x s hv w).pc v0 u0:=by
     generalize a.eval r=vr at hvr
     cases hvr with
     |pure h=>cases h with
      |ifc _ h=>exact⟨_,rfl,h⟩
    have hcore:=ac6 D h1 h2 h3 h4 h5 hb5 h6 h7 h8 h9 hs hW (vals:=v0::(ys.toList.map a.eval)) (by simp) (fun i v u hvi hu=>by
     cases i with
     |zero=>
      simp only[List.getElem?_cons_zero,Option.some.injEq]at hvi hu;subst hvi hu
      exact .pure hp0
     |succ i=>
      simp only[List.getElem?_cons_succ]at hvi hu;rw[List.getElem?_map]at hvi hu
      cases hy:ys.toList[i]? with
      |none=>rw[hy]at hvi;cases hvi
      |some y=>
       rw[hy]at hvi hu
       cases hvi
       cases hu
       have hy':ys[i]? =some y:=by simpa using hy
       exact hops y (by simp[ho,Op.operands,Call.operands];exact .inr (Array.mem_of_getElem? hy')))
    unfold Oper.wp
    have hex:(execOp a.eval o).run P w= .ok (.enter f (v0::(ys.toList.map a.eval)).toArray) w:=by
     have he:=D.enter (v0::(ys.toList.map a.eval)).toArray w;have hm:=anh hf (P.types.size+Made.depth - 1) v0 w
     have harr:(#[v0]++(#[Value.iface t v0]++ys.map a.eval).extract 1 (#[Value.iface t v0]++ys.map a.eval).size)=(v0::(ys.toList.map a.eval)).toArray:=by
      apply Array.ext';simp;exact List.take_of_length_le (by simp)
     have h0:(#[Value.iface t v0]++ys.map a.eval)[0]? =some (.iface t v0):=by
      rw[Array.getElem?_append_left (by simp)];rfl
     have hdp:P.types.size+Made.depth - 1+1=P.types.size+Made.depth:=by
      have:0<Made.depth:=by decide
      omega
     rw[hdp]at hm;simp only[execOp,ho,resolve,Sem.run_bind,Sem.run_pure,Result.andThen_ok,invoke,hv0,h0,callMethod,run_program,hm,harr];exact he
    rw[hex,Oper.upon_enter];refine hcore.mono fun e w'=> ?_;rintro⟨v,hv',rfl,k1,k2,k3⟩;exact hn v hv' w' k1 k2 k3
  ·exact h.elim
 ·exact h.elim
def a9b(P:Program)(c:Callee)(ρ:Operand->PV)(us:List PV)(ts:List TypeId)(dst:Option Nat)(σ:ASt)(K:KT):Prop:=
 match c with
 | .value f=>y9 P (ρ f) us dst σ K
 | .builtin b=>a88 P b us ts dst σ K
 | .invoke r name=>a0j P (ρ r) name us dst σ K
def x8(P:Program)(o:Oper)(ρ:Operand->PV)(σ:ASt)(K:KT):Prop:=
 match o.op with
 | .move x=>K (ρ x) [] []
 | .assign x=>K (ρ x) [] []
 | .pick c a b=>match ρ c with
  | .bool t=>(t=true->K (ρ a) [] [])/\(t=false->K (ρ b) [] [])
  |_=>False
 | .nilCheck x=>match ρ x with
  | .ptr n k=>K (.ptr n k) [] []
  | .el cs=>K (.el cs) [] []
  |_=>False
 | .extract t i=>match ρ t with
  | .tup us=>i<us.length/\K (us.getD i .undef) [] []
  |_=>False
 | .alloc t=>match bk P t,o.dst with
  |some zs,some d=>ah σ d=none/\K (.ptr d 0) [(d,.cells zs)] [d]
  |_,_=>False
 | .box _ x=>match dl (ρ x),o.dst with
  |some us,some d=>ah σ d=none/\K (.ptr d 0) [(d,.cells us)] [d]
  |_,_=>False
 | .build t parts=>match wd P t (parts.toList.map fun p=>(p.1,ρ p.2))with
  |some cs=>K (.agg cs) [] []
  |none=>False
 | .buildSlice t len parts=>ij P t len (parts.toList.map fun p=>(p.1,ρ p.2)) o.dst σ K
 | .load t a=>nz P t σ (ρ a) K
 | .store t a v=>lq P t σ (ρ a) (ρ v) K
 | .fieldAddr t x f=>ey P t f σ (ρ x) K
 | .indexAddr t x i=>cg P t σ (ρ x) (ρ i) K
 | .index t x i=>l9 P t (ρ x) (ρ i) K
 | .binOp op t x y _=>fl P op t (ρ x) (ρ y) fun u=>K u [] []
 | .unOp op _ x=>a2f op (ρ x) fun u=>K u [] []
 | .convert s d x=>oz P s d o.dst σ (ρ x) K
 | .slice t x lo hi mx=>iw P t σ (ρ x) (lo.map ρ) (hi.map ρ) (mx.map ρ) K
 | .makeSlice t l c=>r9 P t o.dst σ (ρ l) (ρ c) K
 | .makeFunc fn first cap=>a0s fn first.toList (cap.toList.map ρ) K
 | .makeInterface t x=>a3n P t σ (ρ x) K
 | .call c=>a9b P c.callee ρ (c.args.toList.map ρ) c.argTypes.toList o.dst σ K
 | .lookup t x i ok=>zn P t ok σ (ρ x) (ρ i) K
 | .mapUpdate t m k v=>agi P t σ (ρ m) (ρ k) (ρ v) K
 | .insert t m k v=>agi P t σ (ρ m) (ρ k) (ρ v) K
 | .makeMap _ r=>match r,o.dst with
  |none,some d=>ah σ d=none/\K (.mh d) [(d,.mp [])] [d]
  |_,_=>False
 | .range t x=>arc P t o.dst σ (ρ x) K
 | .entry x=>a1k σ (ρ x) K
 | .next x s=>match s with
  |false=>ary P σ (ρ x) K
  |true=>vk σ (ρ x) K
 |_=>False
theorem aad{P:Program}{o:Oper}{ρ:Operand->PV}{σ:ASt}{K:KT}(hn:em o.op=false)(h:x8 P o ρ σ K): ∃u δ F,LOp P o ρ σ u δ F/\K u δ F:=by
 unfold x8 at h;split at h
 ·rename_i x ho;exact⟨_,_,_,ajz (.inl ho),h⟩
 ·rename_i x ho;exact⟨_,_,_,ajz (.inr ho),h⟩
 ·rename_i c a b ho;split at h
  ·rename_i t hc;refine⟨_,_,_,awb ho hc,?_⟩
   cases t
   ·exact h.2 rfl
   ·exact h.1 rfl
  ·exact h.elim
 ·rename_i x ho;split at h
  ·rename_i n k hx;exact⟨_,_,_,tf ho (.inl ⟨n,k,hx⟩),by rw[hx];exact h⟩
  ·rename_i cs hx;exact⟨_,_,_,tf ho (.inr ⟨cs,hx⟩),by rw[hx];exact h⟩
  ·exact h.elim
 ·rename_i t i ho;split at h
  ·rename_i us ht;exact⟨_,_,_,aim ho ht (dv h.1),h.2⟩
  ·exact h.elim
 ·rename_i t ho;split at h
  ·rename_i zs d hz hd;exact⟨_,_,_,auy ho hz h.1,h.2⟩
  ·exact h.elim
 ·rename_i t x ho;split at h
  ·rename_i us d hu hd;exact⟨_,_,_,a2p ho hu h.1,h.2⟩
  ·exact h.elim
 ·rename_i t parts ho;split at h
  ·rename_i cs hb;exact⟨_,_,_,ao9 ho hb,h⟩
  ·exact h.elim
 ·rename_i t len parts ho;unfold ij at h;split at h
  ·rename_i e sz b d hs hd;obtain⟨h1,h2,_,⟨zs,h3,_⟩,h4,_⟩:=fa hs;split at h
   ·split at h
    ·rename_i xs ns hr;exact⟨_,_,_,ym ho h1 h2 h4 (by rw[h3];rfl) (by rw[h.2.1];simp) h.2.2.1 hr h.1,h.2.2.2⟩
    ·exact h.elim
   ·split at h
    ·rename_i xs hr;exact⟨_,_,_,wg ho h1 h2 h4 (by rw[h3];rfl) (by rw[h.2.1];simp) h.2.2.1 hr h.1,h.2.2.2⟩
    ·exact h.elim
   ·split at h
    ·rename_i xs ns hr;exact⟨_,_,_,wh ho h1 h2 h4 (by rw[h3];rfl) (by rw[h.2.1];simp) h.2.2.1 hr h.1,h.2.2.2⟩
    ·exact h.elim
  ·exact h.elim
 ·rename_i t a ho;exact afy ho h
 ·rename_i t a v ho;exact abn ho h
 ·rename_i t x f ho;exact qw ho h
 ·rename_i t x i ho;exact q5 ho h
 ·rename_i t x i ho;exact abf ho h
 ·rename_i op t x y t' ho;obtain⟨u,h1,h2⟩:=ag2 ho h;exact⟨u,[],[],h1,h2⟩
 ·rename_i op t x ho;obtain⟨u,h1,h2⟩:=al7 ho h;exact⟨u,[],[],h1,h2⟩
 ·rename_i s d x ho;exact acj ho h
 ·rename_i t x lo hi mx ho;exact yb ho h
 ·rename_i t l c ho;exact ae2 ho (arv h)
 ·rename_i fn first cap ho
  unfold a0s at h;split at h
  ·rename_i f hf;have:first= #[]:=by apply Array.ext';simpa using hf
   subst this;exact⟨_,_,_,ado ho,h⟩
  ·exact h.elim
 ·rename_i t y ho;exact ahu ho h
 ·rename_i c ho;obtain⟨callee,ys,ts⟩:=c;unfold a9b at h;split at h
  ·rename_i f hc;simp only at hc;subst hc;exact afq ho h
  ·rename_i b hc;simp only at hc;subst hc;exact am3 ho h
  ·rename_i r name hc;simp only at hc;subst hc;exact agz ho h
 ·rename_i t x i ok ho;exact afo ho h
 ·rename_i t m k v ho;exact vq (.inl ho) h
 ·rename_i t m k v ho;exact vq (.inr ho) h
 ·rename_i t r ho;split at h
  ·rename_i d hd;exact⟨_,_,_,agw ho h.1,h.2⟩
  ·exact h.elim
 ·rename_i t x ho;exact aht ho h
 ·rename_i x ho;exact ag8 ho h
 ·rename_i x s ho
  cases s with
  |false=>rw[ho]at hn;cases hn
  |true=>exact acl ho h
 ·exact h.elim
theorem av2{P:Program}{o:Oper}{ρ:Operand->PV}{σ:ASt}{K:KT}(h:x8 P o ρ σ K)(x:Ctx P)(a:Act)(hv:Nat->Value)(w:World)(hW:SimW x (ah σ) hv w)
  (hops: ∀y∈o.op.operands,RV (env x (ah σ) hv w) (a.eval y) (ρ y)) (next:Act->World->Prop) (Q:Exit->Act->World->Prop)
  (hn: ∀u δ F,K u δ F->∀v hv' w',SimW x (app (ah σ) δ) hv' w'->Env.le (env x (ah σ) hv w) (env x (app (ah σ) δ) hv' w')->RV (env x (app (ah σ) δ) hv' w') v u->next (a.put o.dst v) w'):o.wp P a w next Q:=by
 cases hx:em o.op with
 |false=>
  obtain⟨u,δ,F,hL,hK⟩:=aad hx h
  exact hL.2 (ah σ) (fun _ _=>rfl) x a hv w hW hops next Q fun v hv' w' hS hE hv0=>hn u δ F hK v hv' w' hS hE hv0
 |true=>
  cases ho:o.op<;>rw[ho]at hx<;>simp only[em]at hx<;>(try (cases hx;done))
  rename_i y s;obtain rfl:s=false:=by simpa using hx
  unfold x8 at h;rw[ho]at h;exact ae0 ho h x a hv w hW hops next Q hn
end Go.Proofs.Am

/- Regions: in the text's order, and in any order. -/
namespace Go.Proofs.Am
open Go Go.RowKit
variable {P:Program}
abbrev AFr:=List (Nat×PV)
def look:AFr->Nat->PV
 |[],_=> .undef
 |(s,v)::r,t=>if s=t then v else look r t
def evL(L:Nat->PV):Operand->PV
 | .tmp t=>L t
 | .const v=>abk v
 | .global _=> .undef
 | .func f=> .fn f []
abbrev ev(fr:AFr):Operand->PV:=evL (look fr)
def aga(fr:AFr)(dst:Option Nat)(u:PV):AFr:=
 match dst with
 |some d=>(d,u)::fr
 |none=>fr
def agl(L:Nat->PV)(dst:Option Nat)(u:PV):Nat->PV:=
 match dst with
 |some d=>fun t=>if t=d then u else L t
 |none=>L
theorem ku(fr:AFr)(dst:Option Nat)(u:PV):look (aga fr dst u)=agl (look fr) dst u:=by
 cases dst with
 |none=>rfl
 |some d=>
  funext t;simp only[aga,look,agl];by_cases h:d=t
  ·simp[h]
  ·simp[h,Ne.symm h]
def qn:ASt->Nat->Box->ASt
 |[],n,B=>[(n,B)]
 |(m,C)::r,n,B=>if m=n then(n,B)::r else(m,C)::qn r n B
def zt(σ:ASt):ASt->ASt
 |[]=>σ
 |(n,B)::r=>zt (qn σ n B) r
theorem bi: ∀(σ:ASt) (n:Nat) (B:Box),ah (qn σ n B)=upd (ah σ) n (some B)
 |[],n,B=>by funext m;simp only[qn,ah,upd];by_cases h:n=m<;>simp[h,eq_comm]
 |(k,C)::r,n,B=>by
  funext m;simp only[qn];by_cases hk:k=n
  ·subst hk;simp only[if_true,ah,upd];by_cases h:k=m
   ·subst h;simp
   ·simp[h,Ne.symm h]
  ·rw[if_neg hk];simp only[ah];rw[bi r n B];simp only[upd,ah];by_cases h:k=m
   ·subst h;simp[hk]
   ·simp[h]
theorem pm: ∀(δ σ:ASt),ah (zt σ δ)=app (ah σ) δ
 |[],σ=>rfl
 |(n,B)::r,σ=>by simp only[zt,app];rw[pm r,bi]
structure Good(x:Ctx P)(N:Nat)(L:Nat->PV)(s:St)(a:Act)(hv:Nat->Value)(w:World):Prop where
 sim:SimW x s hv w
 size:a.tmps.size=N
 defers:a.defers=[]
 regs: ∀t,RV (env x s hv w) (a.tmps.getD t undef) (L t)
theorem Good.opnd{x:Ctx P}{N:Nat}{L:Nat->PV}{s:St}{a:Act}{hv:Nat->Value}{w:World}(h:Good x N L s a hv w)(y:Operand):RV (env x s hv w) (a.eval y) (evL L y):=by
 cases y with
 |tmp t=>exact h.regs t
 |const v=>exact vf _ v
 |global g=>exact .undef _
 |func f=>exact .pure (.fn f)
theorem Good.put{x:Ctx P}{N:Nat}{L:Nat->PV}{s s':St}{a:Act}{hv hv':Nat->Value}{w w':World}(h:Good x N L s a hv w){dst:Option Nat}(hd: ∀d,dst=some d->d<N){v:Value}{u:PV}
  (hS:SimW x s' hv' w') (hE:Env.le (env x s hv w) (env x s' hv' w')) (hv0:RV (env x s' hv' w') v u):Good x N (agl L dst u) s' (a.put dst v) hv' w':=by
 cases dst with
 |none=>exact⟨hS,h.size,h.defers,fun t=>(h.regs t).mono hE⟩
 |some d=>
  refine⟨hS,by simp[Act.put,h.size],h.defers,fun t=> ?_⟩;simp only[agl,Act.put];by_cases ht:t=d
  ·subst ht;have hlt:t<a.tmps.size:=by rw[h.size];exact hd t rfl
   rw[if_pos rfl];simpa [hlt] using hv0
  ·rw[if_neg ht];have:=(h.regs t).mono hE;simpa [Array.getD_eq_getD_getElem?,Array.getElem?_setIfInBounds_ne (Ne.symm ht)] using this
theorem Good.drew{x:Ctx P}{N:Nat}{L:Nat->PV}{s:St}{a:Act}{hv:Nat->Value}{w:World}(h:Good x N L s a hv w):Good x N L s a hv {w with drawn:=w.drawn+1}:=
 have hd:=h.sim.drew 1
 ⟨hd.1,h.size,h.defers,fun t=>(h.regs t).mono hd.2⟩
def ix(ops:Array Oper)(j:Nat):Option Nat:=(ops[j]?).bind (·.dst)
theorem zj{x:Ctx P}{N:Nat}{L:Nat->PV}{s:St}{a:Act}{hv:Nat->Value}{w:World}(h:Good x N L s a hv w){ops:Array Oper}{j t:Nat}(ht:ix ops j=some t)(htN:t<N){b:Bool}(hb:L t= .bool b):yielded ops a.tmps j=some b:=by
 have hr:=h.regs t;rw[hb]at hr;have hv0:=hr.bool_inv;have hlt:t<a.tmps.size:=by rw[h.size];exact htN
 unfold yielded;unfold ix at ht;rw[ht]
 have hg:a.tmps[t]? =some (.bool b):=by
  rw[Array.getD_eq_getD_getElem?,Array.getElem?_eq_getElem hlt]at hv0;rw[Array.getElem?_eq_getElem hlt];simpa using hv0
 simp[hg]
theorem aif{E:Env}:RV E undef (.tup []):= .pure (.tup (by rfl) (by intro i u hu;simp at hu))
theorem tg{x:Ctx P}{N:Nat}{L:Nat->PV}{s:St}{a:Act}{hv:Nat->Value}{w:World}(h:Good x N L s a hv w){ops:Array Oper}{j t:Nat}(ht:ix ops j=some t)(htN:t<N)(hb:L t= .tup []):yielded ops a.tmps j=none:=by
 have hr:=h.regs t;rw[hb]at hr;obtain⟨vs,hv0,hl,_⟩:=hr.tup_inv;have hlt:t<a.tmps.size:=by rw[h.size];exact htN
 unfold yielded;unfold ix at ht;rw[ht]
 have hg:a.tmps[t]? =some (.tuple vs):=by
  rw[Array.getD_eq_getD_getElem?,Array.getElem?_eq_getElem hlt]at hv0;rw[Array.getElem?_eq_getElem hlt];simpa using hv0
 simp[hg]
def yz(N:Nat)(ops:Array Oper):Bool:=ops.toList.all fun o=>match o.dst with|some d=>decide (d<N)|none=>true
theorem j9{N:Nat}{ops:Array Oper}(h:yz N ops=true){i:Nat}{o:Oper}(ho:ops[i]? =some o): ∀d,o.dst=some d->d<N:=fun d hd=>by
 have hm:o∈ops.toList:=by simpa using Array.mem_of_getElem? ho
 have:=List.all_eq_true.1 h o hm;rw[hd]at this;simpa using this
def lw(P:Program)(all:Array Oper):List Oper->AFr->ASt->(AFr->ASt->Prop)->Prop
 |[],fr,σ,K=>K fr σ
 |o::r,fr,σ,K=>
  match o.guard with
  |none=>x8 P o (ev fr) σ fun u δ _=>lw P all r (aga fr o.dst u) (zt σ δ) K
  |some (j,want)=>
   match ix all j with
   |some t=>match look fr t with
    | .bool b=>
     (b=want->x8 P o (ev ((t,.bool want)::fr)) σ fun u δ _=>lw P all r (aga ((t,.bool want)::fr) o.dst u) (zt σ δ) K)/\
     (b= !want->lw P all r (aga ((t,.bool (!want))::fr) o.dst (.tup [])) σ K)
    | .tup []=>lw P all r (aga fr o.dst (.tup [])) σ K
    |_=>False
   |none=>False
theorem qq{fr:AFr}{t:Nat}{u:PV}(h:look fr t=u):look ((t,u)::fr)=look fr:=by
 funext s;simp only[look];split
 ·rename_i hs;subst hs;exact h.symm
 ·rfl
theorem la{P:Program}{ops:Array Oper}{N:Nat}(hN:yz N ops=true){x:Ctx P}{Q:Exit->Act->World->Prop}{K:AFr->ASt->Prop}:
  ∀(l:List Oper) (k:Nat) (fr:AFr) (σ:ASt) (a:Act) (hv:Nat->Value) (w:World),ops.toList.drop k=l->lw P ops l fr σ K->Good x N (look fr) (ah σ) a hv w->
   (∀fr' σ' a' hv' w',K fr' σ'->Good x N (look fr') (ah σ') a' hv' w'->Q .normal a' w')->wpOps P ops Q (List.range' k l.length) a w
 |[],k,fr,σ,a,hv,w,_,hK,hG,hQ=>hQ fr σ a hv w hK hG
 |o::r,k,fr,σ,a,hv,w,hl,hK,hG,hQ=>by
  have ho:ops[k]? =some o:=by
   have:=List.getElem?_drop (xs:=ops.toList) (i:=k) (j:=0);rw[hl]at this;simpa using this.symm
  have hr:ops.toList.drop (k+1)=r:=by rw[<-List.drop_drop,hl];simp
  have hd:=j9 hN ho
  have step: ∀fr1:AFr,look fr1=look fr->(x8 P o (ev fr1) σ fun u δ _=>lw P ops r (aga fr1 o.dst u) (zt σ δ) K)->o.wp P a w (wpOps P ops Q (List.range' (k+1) r.length)) Q:=fun fr1 hfr hK=>by
   have hρ: ∀y,ev fr1 y=evL (look fr) y:=fun y=>by rw[ev,hfr]
   refine av2 hK x a hv w hG.sim (fun y _=>by rw[hρ];exact hG.opnd y) _ Q fun u δ F hK v hv' w' hS hE hv0=> ?_;refine la hN r (k+1) (aga fr1 o.dst u) (zt σ δ) (a.put o.dst v) hv' w' hr hK ?_ hQ;rw[ku,pm,hfr];exact hG.put hd hS hE hv0
  simp only[List.length_cons,List.range'_succ,wpOps,ho];simp only[lw]at hK
  cases hg:o.guard with
  |none=>
   rw[hg]at hK;have hw:Region.wanted o (yielded ops a.tmps)=true:=by simp[Region.wanted,hg]
   rw[if_pos hw]
   exact .inl (step fr rfl hK)
  |some p=>
   obtain⟨j,want⟩:=p;rw[hg]at hK;simp only at hK
   cases ht:ix ops j with
   |none=>rw[ht]at hK;exact hK.elim
   |some t=>
    rw[ht]at hK;simp only at hK
    have htN:t<N:=by
     unfold ix at ht
     cases hoj:ops[j]? with
     |none=>rw[hoj]at ht;cases ht
     |some oj=>rw[hoj]at ht;exact j9 hN hoj t ht
    cases hb:look fr t with
    |bool b=>
     rw[hb]at hK;simp only at hK;have hy:=zj hG ht htN hb;by_cases hbw:b=want
     ·have hw:Region.wanted o (yielded ops a.tmps)=true:=by simp[Region.wanted,hg,hy,hbw]
      rw[if_pos hw];exact .inl (step _ (qq (by rw[hb,hbw])) (hK.1 hbw))
     ·have hw:Region.wanted o (yielded ops a.tmps)=false:=by simp[Region.wanted,hg,hy,hbw]
      rw[hw];simp only[Bool.false_eq_true,if_false];have hbn:b= !want:=by cases b<;>cases want<;>simp_all
      refine la hN r (k+1) _ σ (a.put o.dst undef) hv w hr (hK.2 hbn) ?_ hQ;rw[ku,qq (by rw[hb,hbn])]
      exact hG.put hd hG.sim (Env.le.refl _) aif
    |tup cs=>
     rw[hb]at hK
     cases cs with
     |cons c cs=>exact hK.elim
     |nil=>
      simp only at hK
      have hw:Region.wanted o (yielded ops a.tmps)=false:=by
       have hy:=tg hG ht htN hb;simp[Region.wanted,hg,hy]
      rw[hw];simp only[Bool.false_eq_true,if_false];refine la hN r (k+1) _ σ (a.put o.dst undef) hv w hr hK ?_ hQ;rw[ku]
      exact hG.put hd hG.sim (Env.le.refl _) aif
    |_=>rw[hb]at hK;exact hK.elim
end Go.Proofs.Am

/- Regions that are carried out in any order. -/
namespace Go.Proofs.Am
open Go Go.RowKit
variable {P:Program}
structure Ent where
 u:PV
 δ:ASt
 F:List Nat
abbrev Tr:=List (Oper×Ent)
def x6:Tr->(Nat->PV)->(Nat->PV)
 |[],L=>L
 |p::r,L=>x6 r (agl L p.1.dst p.2.u)
def acx:Tr->St->St
 |[],s=>s
 |p::r,s=>acx r (app s p.2.δ)
def sub(S:Nat->Bool):Nat->Tr->Tr
 |_,[]=>[]
 |i,p::r=>if S i then p::sub S (i+1) r else sub S (i+1) r
def aj3:ASt->Nat->Option Box
 |[],_=>none
 |(m,B)::r,n=>(aj3 r n).or (if m=n then some B else none)
theorem ah4: ∀(δ:ASt) (s:St) (n:Nat),app s δ n=(aj3 δ n).or (s n)
 |[],s,n=>by simp[app,aj3]
 |(m,B)::r,s,n=>by
  simp only[app,aj3];rw[ah4 r];by_cases h:m=n
  ·subst h;simp
  ·rw[al _ _ (Ne.symm h)];simp[h]
theorem w7{δ:ASt}{n:Nat}(h:(aj3 δ n).isSome):n∈δ.map (·.1):=by
 induction δ with
 |nil=>cases h
 |cons p r ih=>
  obtain⟨m,B⟩:=p;simp only[aj3]at h
  cases hr:aj3 r n with
  |some C=>simp only[List.map_cons,List.mem_cons];exact .inr (ih (by rw[hr];rfl))
  |none=>
   rw[hr]at h;by_cases hm:m=n
   ·simp[hm]
   ·simp[hm]at h
theorem a3e{δ:ASt}{n:Nat}(h:n∈δ.map (·.1)): ∃B,aj3 δ n=some B:=by
 induction δ with
 |nil=>cases h
 |cons p r ih=>
  obtain⟨m,B⟩:=p;simp only[List.map_cons,List.mem_cons]at h;simp only[aj3]
  cases hr:aj3 r n with
  |some C=>exact⟨C,by simp⟩
  |none=>
   rcases h with h|h
   ·exact⟨B,by simp[h]⟩
   ·obtain⟨C,hC⟩:=ih h;rw[hr]at hC
    cases hC
def fL(t:Nat)(p:Oper×Ent):Option PV:=if p.1.dst=some t then some p.2.u else none
def fS(n:Nat)(p:Oper×Ent):Option Box:=aj3 p.2.δ n
theorem un: ∀(tr:Tr) (L:Nat->PV) (t:Nat),x6 tr L t=((tr.filterMap (fL t)).getLast?).getD (L t)
 |[],L,t=>rfl
 |p::r,L,t=>by
  simp only[x6,List.filterMap_cons];rw[un r]
  cases hf:fL t p with
  |none=>
   have hne:p.1.dst≠some t:=fun h=>by simp[fL,h]at hf
   have:agl L p.1.dst p.2.u t=L t:=by
    cases hd:p.1.dst with
    |none=>rfl
    |some d=>
     simp only[agl];rw[if_neg];intro e;exact hne (by rw[hd,e])
   rw[this]
  |some u=>
   have he:p.1.dst=some t/\p.2.u=u:=by
    unfold fL at hf;split at hf
    ·rename_i h;exact⟨h,by simpa using hf⟩
    ·cases hf
   have:agl L p.1.dst p.2.u t=u:=by rw[he.1,he.2];simp[agl]
   rw[this];simp only[List.getLast?_cons,Option.getD_some]
theorem vc: ∀(tr:Tr) (s:St) (n:Nat),acx tr s n=((tr.filterMap (fS n)).getLast?).or (s n)
 |[],s,n=>by simp[acx]
 |p::r,s,n=>by
  simp only[acx,List.filterMap_cons];rw[vc r,ah4]
  cases hv:fS n p with
  |none=>
   have:aj3 p.2.δ n=none:=hv;rw[this]
   simp
  |some B=>
   have:aj3 p.2.δ n=some B:=hv;rw[this];simp only[List.getLast?_cons]
   cases (r.filterMap (fS n)).getLast?<;>simp
theorem qm{β:Type}(f:Oper×Ent->Option β){S S':Nat->Bool}: ∀(tr:Tr) (i0:Nat),(∀(i:Nat) (x:Oper×Ent),tr[i]? =some x->(f x).isSome->S (i0+i)=S' (i0+i))->(sub S i0 tr).filterMap f=(sub S' i0 tr).filterMap f
 |[],_,_=>rfl
 |p::r,i0,h=>by
  have h0:=h 0 p rfl;have ih:=qm f (S:=S) (S':=S') r (i0+1) fun i x hx hf=>by have:=h (i+1) x (by simpa using hx) hf;rwa [show i0+1+i=i0+(i+1) by omega]
  simp only[sub];simp only[Nat.add_zero]at h0
  cases hf:f p with
  |none=>
   cases S i0<;>cases S' i0<;>simp[hf,ih]
  |some b=>
   rw[hf]at h0;rw[h0 rfl]
   cases S' i0<;>simp[hf,ih]
theorem az5: ∀(tr:Tr) (i0 j:Nat),sub (fun i=>decide (i<i0+j)) i0 tr=tr.take j
 |[],_,_=>by simp[sub]
 |p::r,i0,0=>by
  simp only[sub,Nat.add_zero,Nat.lt_irrefl,decide_false,Bool.false_eq_true,if_false,List.take_zero]
  have:sub (fun i=>decide (i<i0)) (i0+1) r=[]:=by
   have: ∀(r:Tr) (k:Nat),i0<=k->sub (fun i=>decide (i<i0)) k r=[]:=by
    intro r
    induction r with
    |nil=>intro k _;rfl
    |cons q r ih=>intro k hk;simp only[sub];rw[if_neg (by simp;omega)];exact ih (k+1) (by omega)
   exact this r (i0+1) (by omega)
  exact this
 |p::r,i0,j+1=>by
  simp only[sub,List.take_succ_cons];rw[if_pos (by simp)];have:=az5 r (i0+1) j;rw[show i0+1+j=i0+(j+1) by omega]at this;rw[this]
theorem asa: ∀(tr:Tr) (i0:Nat) (S:Nat->Bool),(∀i,i<tr.length->S (i0+i)=true)->sub S i0 tr=tr
 |[],_,_,_=>rfl
 |p::r,i0,S,h=>by
  simp only[sub];rw[if_pos (by have:=h 0 (by simp);simpa using this),asa r (i0+1) S fun i hi=>by have:=h (i+1) (by simp;omega);rwa [show i0+1+i=i0+(i+1) by omega]]
theorem ack: ∀(tr:Tr) (i0:Nat),sub (fun _=>false) i0 tr=[]
 |[],_=>rfl
 |p::r,i0=>by simp only[sub,Bool.false_eq_true,if_false];exact ack r (i0+1)
theorem abw{β:Type}(f:Oper×Ent->Option β){S:Nat->Bool}{b:β}: ∀(tr:Tr) (i0 j:Nat) (x:Oper×Ent),tr[j]? =some x->f x=some b->S (i0+j)=true->
  (∀(i:Nat) (y:Oper×Ent),tr[i]? =some y->(f y).isSome->S (i0+i)=true->i<=j)->((sub S i0 tr).filterMap f).getLast? =some b
 |[],_,_,_,h,_,_,_=>by simp at h
 |p::r,i0,0,x,hx,hf,hS,hle=>by
  simp at hx;subst hx;simp only[sub];simp only[Nat.add_zero]at hS;rw[if_pos hS,List.filterMap_cons,hf]
  have:(sub S (i0+1) r).filterMap f=[]:=by
   have h1:=qm f (S:=S) (S':=fun _=>false) r (i0+1) fun i y hy hs=>by
    cases hq:S (i0+1+i)with
    |false=>rfl
    |true=>
     have:=hle (i+1) y (by simpa using hy) hs (by rwa [show i0+(i+1)=i0+1+i by omega]);omega
   rw[h1,ack];rfl
  rw[this]
  rfl
 |p::r,i0,j+1,x,hx,hf,hS,hle=>by
  have ih:=abw f r (i0+1) j x (by simpa using hx) hf (by rwa [show i0+1+j=i0+(j+1) by omega]) fun i y hy hs hSi=>by
   have:=hle (i+1) y (by simpa using hy) hs (by rwa [show i0+(i+1)=i0+1+i by omega]);omega
  simp only[sub];split
  ·rw[List.filterMap_cons]
   cases hq:f p with
   |none=>exact ih
   |some c=>
    simp only[List.getLast?_cons,ih];rfl
  ·exact ih
def avb(acc:List Nat):List Edge->Nat
 |[]=>0
 |e::es=>if Region.binds .any e then(2^e.on|||acc.getD e.on 0)|||avb acc es else avb acc es
def a0d:List Oper->List Nat->List Nat
 |[],acc=>acc
 |o::r,acc=>a0d r (acc++[avb acc o.after.toList])
theorem vo{acc:List Nat}{j:Nat}: ∀{es:List Edge},(avb acc es).testBit j=true->∃e∈es,Region.binds .any e=true/\(e.on=j\/(acc.getD e.on 0).testBit j=true)
 |[],h=>by simp[avb]at h
 |e::es,h=>by
  simp only[avb]at h;split at h
  ·rename_i hb;rw[Nat.testBit_or,Nat.testBit_or,Bool.or_eq_true,Bool.or_eq_true]at h;rcases h with (h|h)|h
   ·rw[Nat.testBit_two_pow]at h;exact⟨e,by simp,hb,.inl (by simpa using h)⟩
   ·exact⟨e,by simp,hb,.inr h⟩
   ·obtain⟨e',h1,h2⟩:=vo h;exact⟨e',by simp[h1],h2⟩
  ·obtain⟨e',h1,h2⟩:=vo h;exact⟨e',by simp[h1],h2⟩
theorem afz: ∀(l:List Oper) (acc:List Nat),(∃t,a0d l acc=acc++t/\t.length=l.length)/\∀i o,l[i]? =some o->(a0d l acc).getD (acc.length+i) 0=avb ((a0d l acc).take (acc.length+i)) o.after.toList
 |[],acc=>by simp[a0d]
 |o::r,acc=>by
  obtain⟨⟨t,h1,h2⟩,h3⟩:=afz r (acc++[avb acc o.after.toList]);simp only[a0d];refine⟨⟨avb acc o.after.toList::t,by rw[h1];simp,by simp[h2]⟩,fun i o' hi=> ?_⟩
  cases i with
  |zero=>
   simp at hi;subst hi;rw[h1,List.append_assoc]
   simp
  |succ i=>
   have:=h3 i o' (by simpa using hi);simp only[List.length_append,List.length_cons,List.length_nil,Nat.zero_add]at this;rw[show acc.length+(i+1)=acc.length+1+i by omega];exact this
def ak4(a b:List Nat):Bool:=a.all fun n=> !b.contains n
theorem jk{a b:List Nat}(h:ak4 a b=true){n:Nat}(ha:n∈a):n∉b:=by
 have:=List.all_eq_true.1 h n ha;simpa using this
def a1b(a b:Option Nat):Bool:=match a,b with
 |some x,some y=>x !=y
 |_,_=>true
def tq(ops:Array Oper)(bs:List Nat)(i j:Nat)(oi oj:Oper)(li lj:List Nat×List Nat):Bool:=
 a1b oi.dst oj.dst&&((bs.getD j 0).testBit i||(ak4 li.1 lj.2&&ak4 lj.1 li.2&&oi.apart ops oj))
def av0(ops:Array Oper)(bs:List Nat)(i:Nat)(oi:Oper)(li:List Nat×List Nat):Nat->List Oper->List (List Nat×List Nat)->Bool
 |j,oj::os,lj::ls=>tq ops bs i j oi oj li lj&&av0 ops bs i oi li (j+1) os ls
 |_,_,_=>true
def axl(ops:Array Oper)(bs:List Nat):Nat->List Oper->List (List Nat×List Nat)->Bool
 |i,oi::os,li::ls=>av0 ops bs i oi li (i+1) os ls&&oi.after.toList.all (fun e=> !Region.binds .any e||decide (e.on<i))&&axl ops bs (i+1) os ls
 |_,_,_=>true
def ad9(ops:Array Oper)(log:List (List Nat×List Nat)):Bool:=axl ops (a0d ops.toList []) 0 ops.toList log
theorem aaa{ops:Array Oper}{bs:List Nat}{i:Nat}{oi:Oper}{li:List Nat×List Nat}: ∀{os:List Oper} {ls:List (List Nat×List Nat)} {j0:Nat},av0 ops bs i oi li j0 os ls=true->∀(k:Nat) (o:Oper) (l:List Nat×List Nat),os[k]? =some o->ls[k]? =some l->tq ops bs i (j0+k) oi o li l=true
 |[],_,_,_,k,o,l,h,_=>by simp at h
 |_::_,[],_,_,k,o,l,_,h=>by simp at h
 |oj::os,lj::ls,j0,h,k,o,l,h1,h2=>by
  simp only[av0,Bool.and_eq_true]at h
  cases k with
  |zero=>simp at h1 h2;subst h1 h2;exact h.1
  |succ k=>
   have:=aaa h.2 k o l (by simpa using h1) (by simpa using h2)
   rwa [show j0+1+k=j0+(k+1) by omega]at this
theorem qz{ops:Array Oper}{bs:List Nat}: ∀{os:List Oper} {ls:List (List Nat×List Nat)} {i0:Nat},axl ops bs i0 os ls=true->∀(i:Nat) (oi:Oper) (li:List Nat×List Nat),os[i]? =some oi->ls[i]? =some li->
  (∀(j:Nat) (oj:Oper) (lj:List Nat×List Nat),i<j->os[j]? =some oj->ls[j]? =some lj->tq ops bs (i0+i) (i0+j) oi oj li lj=true)/\∀e∈oi.after.toList,Region.binds .any e=true->e.on<i0+i
 |[],_,_,_,i,oi,li,h,_=>by simp at h
 |_::_,[],_,_,i,oi,li,_,h=>by simp at h
 |o::os,l::ls,i0,h,i,oi,li,h1,h2=>by
  simp only[axl,Bool.and_eq_true]at h;obtain⟨⟨ha,hb⟩,hc⟩:=h
  cases i with
  |zero=>
   simp at h1 h2;subst h1 h2;refine⟨fun j oj lj hj hoj hlj=> ?_,fun e he hbe=> ?_⟩
   ·cases j with
    |zero=>omega
    |succ j=>
     have:=aaa ha j oj lj (by simpa using hoj) (by simpa using hlj)
     rwa [show i0+1+j=i0+(j+1) by omega]at this
   ·have:=List.all_eq_true.1 hb e he;rw[hbe]at this
    simpa using this
  |succ i=>
   obtain⟨k1,k2⟩:=qz hc i oi li (by simpa using h1) (by simpa using h2);refine⟨fun j oj lj hj hoj hlj=> ?_,fun e he hbe=>by have:=k2 e he hbe;omega⟩
   cases j with
   |zero=>omega
   |succ j=>
    have:=k1 j oj lj (by omega) (by simpa using hoj) (by simpa using hlj)
    rwa [show i0+1+i=i0+(i+1) by omega,show i0+1+j=i0+(j+1) by omega]at this
end Go.Proofs.Am

/- Regions that are carried out in any order: the law. -/
namespace Go.Proofs.Am
open Go Go.RowKit
variable {P:Program}
abbrev Log:=List (List Nat×List Nat)
def evD(P:Program)(all:Array Oper):List Oper->AFr->ASt->Log->(AFr->ASt->Log->Prop)->Prop
 |[],fr,σ,g,K=>K fr σ g
 |o::r,fr,σ,g,K=>
  em o.op=false/\match o.guard with
  |none=>x8 P o (ev fr) σ fun u δ F=>evD P all r (aga fr o.dst u) (zt σ δ) ((δ.map (·.1),F)::g) K
  |some (j,want)=>
   match ix all j with
   |some t=>match look fr t with
    | .bool b=>
     (b=want->x8 P o (ev ((t,.bool want)::fr)) σ fun u δ F=>evD P all r (aga ((t,.bool want)::fr) o.dst u) (zt σ δ) ((δ.map (·.1),F)::g) K)/\
     (b= !want->evD P all r (aga ((t,.bool (!want))::fr) o.dst (.tup [])) σ (([],[])::g) K)
    | .tup []=>evD P all r (aga fr o.dst (.tup [])) σ (([],[])::g) K
    |_=>False
   |none=>False
def a9l(P:Program)(all:Array Oper)(o:Oper)(L:Nat->PV)(σ:ASt)(e:Ent):Prop:=
 ((o.guard=none\/∃j want t,o.guard=some (j,want)/\ix all j=some t/\L t= .bool want)/\LOp P o (evL L) σ e.u e.δ e.F)\/
 ((∃j want t,o.guard=some (j,want)/\ix all j=some t/\(L t= .bool (!want)\/L t= .tup []))/\e.u= .tup []/\e.δ=[]/\e.F=[])
def TrOK(P:Program)(all:Array Oper):Tr->(Nat->PV)->ASt->Prop
 |[],_,_=>True
 |p::r,L,σ=>a9l P all p.1 L σ p.2/\TrOK P all r (agl L p.1.dst p.2.u) (zt σ p.2.δ)
theorem qc{P:Program}{all:Array Oper}{K:AFr->ASt->Log->Prop}: ∀(l:List Oper) (fr:AFr) (σ:ASt) (g:Log),evD P all l fr σ g K->
  ∃(tr:Tr) (fr':AFr) (σ':ASt),tr.map (·.1)=l/\TrOK P all tr (look fr) σ/\K fr' σ' ((tr.map fun p=>(p.2.δ.map (·.1),p.2.F)).reverse++g)/\look fr'=x6 tr (look fr)/\ah σ'=acx tr (ah σ)
 |[],fr,σ,g,h=>⟨[],fr,σ,rfl,trivial,h,rfl,rfl⟩
 |o::r,fr,σ,g,h=>by
  simp only[evD]at h;obtain⟨hnx,h⟩:=h
  have step: ∀fr1:AFr,look fr1=look fr->(o.guard=none\/∃j want t,o.guard=some (j,want)/\ix all j=some t/\look fr t= .bool want)->(x8 P o (ev fr1) σ fun u δ F=>evD P all r (aga fr1 o.dst u) (zt σ δ) ((δ.map (·.1),F)::g) K)->
    ∃(tr:Tr) (fr':AFr) (σ':ASt),tr.map (·.1)=o::r/\TrOK P all tr (look fr) σ/\K fr' σ' ((tr.map fun p=>(p.2.δ.map (·.1),p.2.F)).reverse++g)/\look fr'=x6 tr (look fr)/\ah σ'=acx tr (ah σ):=fun fr1 hfr hgd hK=>by
   obtain⟨u,δ,F,hL,hK⟩:=aad hnx hK;obtain⟨tr,fr',σ',h1,h2,h3,h4,h5⟩:=qc r _ _ _ hK;rw[ku,hfr]at h2 h4;rw[pm]at h5;refine⟨(o,⟨u,δ,F⟩)::tr,fr',σ',by simp[h1],⟨.inl ⟨hgd,?_⟩,h2⟩,?_,h4,h5⟩
   ·have:ev fr1=evL (look fr):=by rw[<-hfr]
    rw[<-this];exact hL
   ·simpa using h3
  cases hg:o.guard with
  |none=>rw[hg]at h;rw[hg]at step;exact step fr rfl (.inl rfl) h
  |some p=>
   obtain⟨j,want⟩:=p;rw[hg]at h step;simp only at h
   cases ht:ix all j with
   |none=>rw[ht]at h;exact h.elim
   |some t=>
    rw[ht]at h;simp only at h
    cases hb:look fr t with
    |bool b=>
     rw[hb]at h;simp only at h;by_cases hbw:b=want
     ·exact step _ (qq (by rw[hb,hbw])) (.inr ⟨j,want,t,rfl,ht,by rw[hb,hbw]⟩) (h.1 hbw)
     ·have hbn:b= !want:=by cases b<;>cases want<;>simp_all
      obtain⟨tr,fr',σ',h1,h2,h3,h4,h5⟩:=qc r _ _ _ (h.2 hbn);rw[ku,qq (by rw[hb,hbn])]at h2 h4
      exact⟨(o,⟨.tup [],[],[]⟩)::tr,fr',σ',by simp[h1],⟨.inr ⟨⟨j,want,t,hg,ht,.inl (by rw[hb,hbn])⟩,rfl,rfl,rfl⟩,h2⟩,by simpa using h3,h4,h5⟩
    |tup cs=>
     rw[hb]at h
     cases cs with
     |cons c cs=>exact h.elim
     |nil=>
      simp only at h;obtain⟨tr,fr',σ',h1,h2,h3,h4,h5⟩:=qc r _ _ _ h;rw[ku]at h2 h4
      exact⟨(o,⟨.tup [],[],[]⟩)::tr,fr',σ',by simp[h1],⟨.inr ⟨⟨j,want,t,hg,ht,.inr hb⟩,rfl,rfl,rfl⟩,h2⟩,by simpa using h3,h4,h5⟩
    |_=>rw[hb]at h;exact h.elim
theorem TrOK.get{P:Program}{all:Array Oper}: ∀{tr:Tr} {L:Nat->PV} {σ:ASt},TrOK P all tr L σ->∀(j:Nat) (p:Oper×Ent),tr[j]? =some p->∃σj,ah σj=acx (tr.take j) (ah σ)/\a9l P all p.1 (x6 (tr.take j) L) σj p.2
 |[],_,_,_,j,p,h=>by simp at h
 |q::r,L,σ,h,0,p,hp=>by
  simp at hp;subst hp
  exact⟨σ,rfl,h.1⟩
 |q::r,L,σ,h,j+1,p,hp=>by
  obtain⟨σj,h1,h2⟩:=h.2.get j p (by simpa using hp);refine⟨σj,?_,h2⟩;rw[h1,pm];rfl
def SL(listed:Array Bool)(i:Nat):Bool:=listed.getD i false
theorem zy{S S':Nat->Bool}{tr:Tr}{L:Nat->PV}{t:Nat}(h: ∀i x,tr[i]? =some x->x.1.dst=some t->S i=S' i):x6 (sub S 0 tr) L t=x6 (sub S' 0 tr) L t:=by
 rw[un,un,qm (S:=S) (S':=S') (fL t) tr 0 fun i x hx hf=>by
  rw[Nat.zero_add];refine h i x hx ?_;unfold fL at hf;split at hf
  ·assumption
  ·cases hf]
theorem zr{S S':Nat->Bool}{tr:Tr}{s:St}{n:Nat}(h: ∀i x,tr[i]? =some x->n∈x.2.δ.map (·.1)->S i=S' i):acx (sub S 0 tr) s n=acx (sub S' 0 tr) s n:=by
 rw[vc,vc,qm (S:=S) (S':=S') (fS n) tr 0 fun i x hx hf=>by
  rw[Nat.zero_add];exact h i x hx (w7 hf)]
structure Cmm(ops:Array Oper)(tr:Tr):Prop where
 map:tr.map (·.1)=ops.toList
 ok:ad9 ops (tr.map fun p=>(p.2.δ.map (·.1),p.2.F))=true
section
variable {ops:Array Oper} {tr:Tr}
theorem Cmm.op(h:Cmm ops tr){i:Nat}{p:Oper×Ent}(hp:tr[i]? =some p):ops[i]? =some p.1:=by
 have:(tr.map (·.1))[i]? =some p.1:=by rw[List.getElem?_map,hp];rfl
 rw[h.map]at this;simpa using this
theorem Cmm.ent(h:Cmm ops tr){i:Nat}{o:Oper}(ho:ops[i]? =some o): ∃e,tr[i]? =some (o,e):=by
 have:(tr.map (·.1))[i]? =some o:=by rw[h.map];simpa using ho
 rw[List.getElem?_map]at this
 cases ht:tr[i]? with
 |none=>rw[ht]at this;cases this
 |some p=>
  rw[ht]at this;obtain⟨o',e⟩:=p;simp at this;subst this;exact⟨e,rfl⟩
theorem Cmm.size(h:Cmm ops tr):tr.length=ops.size:=by
 have:=congrArg List.length h.map;simpa using this
abbrev azl(ops:Array Oper):List Nat:=a0d ops.toList []
theorem Cmm.pair(h:Cmm ops tr){i j:Nat}{p q:Oper×Ent}(hp:tr[i]? =some p)(hq:tr[j]? =some q)(hij:i<j):
  tq ops (azl ops) i j p.1 q.1 (p.2.δ.map (·.1),p.2.F) (q.2.δ.map (·.1),q.2.F)=true:=by
 have:=(qz h.ok i p.1 (p.2.δ.map (·.1),p.2.F) (by rw[<-h.map,List.getElem?_map,hp];rfl) (by rw[List.getElem?_map,hp];rfl)).1 j q.1 (q.2.δ.map (·.1),q.2.F) hij (by rw[<-h.map,List.getElem?_map,hq];rfl) (by rw[List.getElem?_map,hq];rfl);simpa using this
theorem Cmm.edge(h:Cmm ops tr){i:Nat}{o:Oper}(ho:ops[i]? =some o): ∀e∈o.after.toList,Region.binds .any e=true->e.on<i:=by
 obtain⟨e,he⟩:=h.ent ho;have:=(qz h.ok i o (e.δ.map (·.1),e.F) (by simpa using ho) (by rw[List.getElem?_map,he];rfl)).2;simpa using this
theorem Cmm.bs(h:Cmm ops tr){i:Nat}{o:Oper}(ho:ops[i]? =some o):(azl ops).getD i 0=avb ((azl ops).take i) o.after.toList:=by
 have:=(afz ops.toList []).2 i o (by simpa using ho);simpa using this
end
def auo(ops:Array Oper)(S:Nat->Bool):Prop:= ∀i j,S j=true->((azl ops).getD j 0).testBit i=true->S i=true
theorem abu{ops:Array Oper}{tr:Tr}(h:Cmm ops tr){S:Nat->Bool}(hS:auo ops S){j:Nat}{o:Oper}(ho:ops[j]? =some o)(hr: ∀e∈o.after.toList,Region.binds .any e=true->S e.on=true)(i:Nat)
  (hi:((azl ops).getD j 0).testBit i=true):S i=true:=by
 rw[h.bs ho]at hi;obtain⟨e,he,hb,h1⟩:=vo hi;have hon:=hr e he hb;rcases h1 with h1|h1
 ·rw[<-h1];exact hon
 ·have hlt:=h.edge ho e he hb
  have:((azl ops).take j).getD e.on 0=(azl ops).getD e.on 0:=by
   simp only[bq,List.getElem?_take,hlt,if_true]
  rw[this]at h1;exact hS i e.on hon h1
theorem aza{P:Program}{ops:Array Oper}{N:Nat}(hN:yz N ops=true){x:Ctx P}{Q:Exit->Act->World->Prop}{L0:Nat->PV}{σ0:ASt}{tr:Tr}(hC:Cmm ops tr)(hT:TrOK P ops tr L0 σ0)
  (hQ: ∀a hv w,Good x N (x6 tr L0) (acx tr (ah σ0)) a hv w->Q .normal a w):
  ∀(fuel:Nat) (listed:Array Bool) (a:Act) (hv:Nat->Value) (w:World),listed.size=ops.size->(listed.toList.countP (· ==false)<=fuel)->auo ops (SL listed)->
   Good x N (x6 (sub (SL listed) 0 tr) L0) (acx (sub (SL listed) 0 tr) (ah σ0)) a hv w->wpAny P .any ops Q fuel listed a w:=by
 have done: ∀(listed:Array Bool) (a:Act) (hv:Nat->Value) (w:World),listed.size=ops.size->
   Good x N (x6 (sub (SL listed) 0 tr) L0) (acx (sub (SL listed) 0 tr) (ah σ0)) a hv w->Region.ready .any ops listed=[]->Q .normal a w:=by
  intro listed a hv w hz hG hr
  have all: ∀i,i<ops.size->SL listed i=true:=by
   intro i
   induction i using Nat.strongRecOn with
   |_ i ih=>
    intro hi
    cases hl:SL listed i with
    |true=>rfl
    |false=>
     exfalso;have ho:ops[i]? =some ops[i]:=by simp[hi]
     have:i∈Region.ready .any ops listed:=by
      rw[mem_ready];refine⟨?_,_,ho,fun e he hb=> ?_⟩
      ·unfold SL at hl;have hi':i<listed.size:=by omega
       simp[hi']at hl ⊢;exact hl
      ·have hlt:=hC.edge ho e (by simpa using he) hb;exact ih e.on hlt (by omega)
     rw[hr]at this
     cases this
  have:sub (SL listed) 0 tr=tr:=asa tr 0 _ fun i hi=>by rw[Nat.zero_add];exact all i (by rw[<-hC.size];exact hi)
  rw[this]at hG;exact hQ a hv w hG
 intro fuel
 induction fuel with
 |zero=>
  intro listed a hv w hz hc hcl hG
  have hr:Region.ready .any ops listed=[]:=by
   cases hr:Region.ready .any ops listed with
   |nil=>rfl
   |cons j l=>
    exfalso;have hj:j∈Region.ready .any ops listed:=by rw[hr];simp
    obtain⟨h1,o,h2,_⟩:=mem_ready.1 hj;have hlt:j<listed.size:=by rw[hz];exact(Array.getElem?_eq_some_iff.1 h2).1
    have:0<listed.toList.countP (· ==false):=by
     rw[List.countP_pos_iff];refine⟨false,?_,rfl⟩;simp[hlt]at h1;rw[<-h1];simp
    omega
  exact⟨hr,done listed a hv w hz hG hr⟩
 |succ fuel ih=>
  intro listed a hv w hz hc hcl hG;refine⟨done listed a hv w hz hG,fun j hj=> ?_⟩;obtain⟨hun,o,ho,hpre⟩:=mem_ready.1 hj;have hjlt:j<ops.size:=(Array.getElem?_eq_some_iff.1 ho).1;have hjl:j<listed.size:=by omega
  have hnS:SL listed j=false:=by
   unfold SL;simp[hjl]at hun ⊢;exact hun
  obtain⟨e,he⟩:=hC.ent ho;have hbl: ∀i,((azl ops).getD j 0).testBit i=true->SL listed i=true:=abu hC hcl ho fun e' he' hb=>hpre e' (by simpa using he') hb
  have hSset: ∀i,SL (listed.setIfInBounds j true) i=(SL listed i||decide (i=j)):=by
   intro i;unfold SL;by_cases hij:i=j
   ·subst hij;simp[hjl]
   ·rw[getD_set_ne false (Ne.symm hij)];simp[hij]
  have hwho: ∀i p,tr[i]? =some p->i≠j->((∀d,p.1.dst=some d->d∉o.looksAt ops)/\ak4 (p.2.δ.map (·.1)) e.F=true/\ak4 (e.δ.map (·.1)) p.2.F=true)\/SL listed i=decide (i<j):=by
   intro i p hp hij;rcases Nat.lt_or_gt_of_ne hij with hlt|hgt
   ·have:=hC.pair hp he hlt;simp only[tq,Bool.and_eq_true,Bool.or_eq_true]at this;rcases this.2 with h1|⟨⟨h1,h2⟩,h3⟩
    ·right;rw[hbl i h1];simp[hlt]
    ·left;exact⟨(Oper.apart_spec h3).1,h1,h2⟩
   ·have:=hC.pair he hp hgt;simp only[tq,Bool.and_eq_true,Bool.or_eq_true]at this;rcases this.2 with h1|⟨⟨h1,h2⟩,h3⟩
    ·right
     cases hl:SL listed i with
     |false=>simp;omega
     |true=>
      have:=hcl j i hl h1;rw[hnS]at this
      cases this
    ·left;exact⟨(Oper.apart_spec h3).2.2,h2,h1⟩
  have hdne: ∀i p,tr[i]? =some p->i≠j->∀d,p.1.dst=some d->o.dst≠some d:=by
   intro i p hp hij d hd hod;rcases Nat.lt_or_gt_of_ne hij with hlt|hgt
   ·have:=hC.pair hp he hlt;simp only[tq,Bool.and_eq_true]at this;have h1:=this.1;simp[a1b,hd,hod]at h1
   ·have:=hC.pair he hp hgt;simp only[tq,Bool.and_eq_true]at this;have h1:=this.1;simp[a1b,hd,hod]at h1
  have htake: ∀k,tr.take k=sub (fun i=>decide (i<k)) 0 tr:=fun k=>by
   have:=az5 tr 0 k;simp only[Nat.zero_add]at this;exact this.symm
  have hLeq: ∀t∈o.looksAt ops,x6 (sub (SL listed) 0 tr) L0 t=x6 (tr.take j) L0 t:=by
   intro t ht;rw[htake];refine zy fun i p hp hd=> ?_;by_cases hij:i=j
   ·subst hij;rw[hnS];simp
   ·rcases hwho i p hp hij with h1|h1
    ·exact absurd ht (h1.1 t hd)
    ·exact h1
  have hSeq: ∀n∈e.F,acx (sub (SL listed) 0 tr) (ah σ0) n=acx (tr.take j) (ah σ0) n:=by
   intro n hn;rw[htake];refine zr fun i p hp hd=> ?_;by_cases hij:i=j
   ·subst hij;rw[hnS];simp
   ·rcases hwho i p hp hij with h1|h1
    ·exact absurd hn (jk h1.2.1 hd)
    ·exact h1
  obtain⟨σj,hσj,hrun⟩:=hT.get j (o,e) he
  have hop: ∀y∈o.op.operands,evL (x6 (sub (SL listed) 0 tr) L0) y=evL (x6 (tr.take j) L0) y:=by
   intro y hy
   cases y with
   |tmp t=>
    refine hLeq t ?_
    exact List.mem_append_left _ (List.mem_filterMap.2 ⟨.tmp t,by simpa using hy,rfl⟩)
   |const v=>rfl
   |global g=>rfl
   |func f=>rfl
  have hδF: ∀p∈e.δ,p.1∈e.F:=by
   rcases hrun with ⟨_,h⟩|⟨_,_,h,_⟩
   ·exact h.1
   ·have h':e.δ=[]:=h;rw[h'];simp
  have hnewS: ∀n,acx (sub (SL (listed.setIfInBounds j true)) 0 tr) (ah σ0) n=app (acx (sub (SL listed) 0 tr) (ah σ0)) e.δ n:=by
   intro n;rw[ah4]
   cases hv':aj3 e.δ n with
   |some B=>
    have hmem:n∈e.δ.map (·.1):=w7 (by rw[hv'];rfl)
    have hF:n∈e.F:=by
     obtain⟨p,hp,rfl⟩:=List.mem_map.1 hmem;exact hδF p hp
    rw[vc,abw (fS n) (b:=B) tr 0 j (o,e) he hv' (by rw[Nat.zero_add,hSset];simp) fun i p hp hs hSi=>by
     rw[Nat.zero_add,hSset]at hSi;by_cases hij:i=j
     ·omega
     ·rcases hwho i p hp hij with h1|h1
      ·exact absurd hF (jk h1.2.1 (w7 hs))
      ·rw[h1]at hSi;simp[hij]at hSi;omega]
    rfl
   |none=>
    rw[Option.none_or];refine zr fun i p hp hd=> ?_;rw[hSset];by_cases hij:i=j
    ·subst hij;rw[he]at hp
     cases hp
     obtain⟨B,hB⟩:=a3e hd;rw[hB]at hv'
     cases hv'
    ·simp[hij]
  have hnewL: ∀t,x6 (sub (SL (listed.setIfInBounds j true)) 0 tr) L0 t=agl (x6 (sub (SL listed) 0 tr) L0) o.dst e.u t:=by
   intro t;by_cases ht:o.dst=some t
   ·rw[un,abw (fL t) (b:=e.u) tr 0 j (o,e) he (by simp[fL,ht]) (by rw[Nat.zero_add,hSset];simp) fun i p hp hs hSi=>by
     by_cases hij:i=j
     ·omega
     ·exfalso;unfold fL at hs;split at hs
      ·rename_i hd;exact hdne i p hp hij t hd ht
      ·cases hs]
    rw[ht];simp[agl]
   ·have:agl (x6 (sub (SL listed) 0 tr) L0) o.dst e.u t=x6 (sub (SL listed) 0 tr) L0 t:=by
     cases hd:o.dst with
     |none=>rfl
     |some d=>
      simp only[agl];rw[if_neg];intro h;exact ht (by rw[hd,h])
    rw[this];refine zy fun i p hp hd=> ?_;rw[hSset];by_cases hij:i=j
    ·subst hij;rw[he]at hp
     cases hp
     exact absurd hd ht
    ·simp[hij]
  have hcl':auo ops (SL (listed.setIfInBounds j true)):=by
   intro i k hk hb;rw[hSset]at hk ⊢;simp only[Bool.or_eq_true,decide_eq_true_eq]at hk ⊢;rcases hk with hk|hk
   ·exact .inl (hcl i k hk hb)
   ·subst hk;exact .inl (hbl i hb)
  have hcnt:(listed.setIfInBounds j true).toList.countP (· ==false)<=fuel:=by
   have:(listed.setIfInBounds j true).toList=listed.toList.set j true:=by simp
   rw[this];have hj2:j<listed.toList.length:=by simpa using hjl
   have hlj:listed.toList[j]=false:=by
    unfold SL at hnS;simp[hjl]at hnS;simpa using hnS
   have h1:=List.countP_set (p:=(· ==false)) (l:=listed.toList) (i:=j) (a:=true) hj2;rw[hlj]at h1;have h2:(if(false==false)=true then 1 else 0)=1:=rfl;have h3:(if(true==false)=true then 1 else 0)=0:=rfl;rw[h2,h3]at h1;omega
  have goal: ∀a' hv' w',Good x N (agl (x6 (sub (SL listed) 0 tr) L0) o.dst e.u) (app (acx (sub (SL listed) 0 tr) (ah σ0)) e.δ) a' hv' w'->wpAny P .any ops Q fuel (listed.setIfInBounds j true) a' w':=by
   intro a' hv' w' hG';refine ih (listed.setIfInBounds j true) a' hv' w' (by simpa using hz) hcnt hcl' ?_;rw[funext hnewL,funext hnewS];exact hG'
  have hd:=j9 hN ho;unfold wpOp;rw[ho];simp only
  have guardL: ∀g want t b,o.guard=some (g,want)->ix ops g=some t->x6 (tr.take j) L0 t= .bool b->Region.wanted o (yielded ops a.tmps)=(b==want):=by
   intro g want t b hg ht hb
   have htN:t<N:=by
    unfold ix at ht
    cases hoj:ops[g]? with
    |none=>rw[hoj]at ht;cases ht
    |some oj=>rw[hoj]at ht;exact j9 hN hoj t ht
   have hlk:t∈o.looksAt ops:=by
    refine List.mem_append_right _ ?_;rw[hg];simp only;have:(ops[g]?).bind (·.dst)=some t:=ht;rw[this];simp
   rw[<-hLeq t hlk]at hb;have hy:=zj hG ht htN hb;simp[Region.wanted,hg,hy]
  have guardN: ∀g want t,o.guard=some (g,want)->ix ops g=some t->x6 (tr.take j) L0 t= .tup []->Region.wanted o (yielded ops a.tmps)=false:=by
   intro g want t hg ht hb
   have htN:t<N:=by
    unfold ix at ht
    cases hoj:ops[g]? with
    |none=>rw[hoj]at ht;cases ht
    |some oj=>rw[hoj]at ht;exact j9 hN hoj t ht
   have hlk:t∈o.looksAt ops:=by
    refine List.mem_append_right _ ?_;rw[hg];simp only;have:(ops[g]?).bind (·.dst)=some t:=ht;rw[this];simp
   rw[<-hLeq t hlk]at hb;have hy:=tg hG ht htN hb;simp[Region.wanted,hg,hy]
  rcases hrun with ⟨hgd,hL⟩|⟨⟨g,want,t,hg,ht,hb⟩,hu,hδ,hF⟩
  ·have hw:Region.wanted o (yielded ops a.tmps)=true:=by
    rcases hgd with hgd|⟨g,want,t,hg,ht,hb⟩
    ·have hgd':o.guard=none:=hgd;simp[Region.wanted,hgd']
    ·rw[guardL g want t want hg ht hb];simp
   rw[if_pos hw];refine .inl (hL.2 (acx (sub (SL listed) 0 tr) (ah σ0)) (fun n hn=>by rw[hSeq n hn,hσj]) x a hv w hG.sim (fun y hy=> ?_) _ Q fun v hv' w' hS hE hv0=> ?_)
   ·rw[<-hop y hy];exact hG.opnd y
   ·exact goal _ hv' w' (hG.put hd hS hE hv0)
  ·have hw:Region.wanted o (yielded ops a.tmps)=false:=by
    rcases hb with hb|hb
    ·rw[guardL g want t (!want) hg ht hb]
     cases want<;>rfl
    ·exact guardN g want t hg ht hb
   rw[hw];simp only[Bool.false_eq_true,if_false];refine goal _ hv w ?_;simp only at hu hδ;rw[hu,hδ];exact hG.put hd hG.sim (Env.le.refl _) aif
theorem at7{P:Program}(hm:P.follows .mixedOrders=true){ops:Array Oper}{N:Nat}(hN:yz N ops=true){x:Ctx P}{Q:Exit->Act->World->Prop}{K:AFr->ASt->Prop}{fr:AFr}{σ:ASt}{id:Nat}{a:Act}{hv:Nat->Value}{w:World}
  (h:evD P ops ops.toList fr σ [] fun fr' σ' g=>ad9 ops g.reverse=true/\K fr' σ') (hG:Good x N (look fr) (ah σ) a hv w)
  (hQ: ∀fr' σ' a' hv' w',K fr' σ'->Good x N (look fr') (ah σ') a' hv' w'->Q .normal a' w'):(Code.region id ops true).wp P Q a w:=by
 obtain⟨tr,fr',σ',h1,h2,⟨h3,hK⟩,h4,h5⟩:=qc _ _ _ _ h;refine wp_region_any hm ?_;have hC:Cmm ops tr:=⟨h1,by simpa using h3⟩;have hG':=hG.drew
 have e0:sub (SL (Array.replicate ops.size false)) 0 tr=[]:=by
  have:SL (Array.replicate ops.size false)=fun _=>false:=by
   funext i;unfold SL;by_cases hi:i<ops.size<;>simp[hi]
  rw[this,ack]
 refine aza hN hC h2 (fun a hv w hG=>hQ fr' σ' a hv w hK (by rw[h4,h5];exact hG)) ops.size (Array.replicate ops.size false) a hv _ (by simp) ?_ ?_ ?_
 ·exact Nat.le_trans List.countP_le_length (by simp)
 ·intro i j hj;unfold SL at hj;by_cases hi:j<ops.size<;>simp[hi]at hj
 ·rw[e0];exact hG'
end Go.Proofs.Am

/- What a function hands back. -/
namespace Go.Proofs.Am
open Go Go.RowKit
variable {P:Program}
def az9(σ:ASt):PV->Option (PV×List Nat)
 | .agg cs=>(gr σ cs).map fun p=>(.agg p.1,p.2)
 |u=>pur σ u
def azv(σ:ASt):List (PV×PV)->Option (List (PV×PV)×List Nat)
 |[]=>some ([],[])
 |(k,u)::us=>match az9 σ u,azv σ us with
  |some (v,a),some (vs,b)=>some ((k,v)::vs,a++b)
  |_,_=>none
theorem al9{x:Ctx P}{s:St}{hv:Nat->Value}{w:World}{σ:ASt}{u u':PV}{a ns:List Nat}{v:Value}(h:SimW x s hv w)(hs: ∀n∈a,s n=ah σ n)(hu:az9 σ u=some (u',a))(ha: ∀n∈a,n∈ns)
  (hv0:RV (env x s hv w) v u):RP (env x (ar s ns) hv w).pc v u':=by
 unfold az9 at hu;split at hu
 ·rename_i cs
  cases hp:gr σ cs with
  |none=>rw[hp]at hu;cases hu
  |some p=>
   obtain⟨p1,p2⟩:=p;rw[hp]at hu;simp only[Option.map_some,Option.some.injEq,Prod.mk.injEq]at hu;obtain⟨rfl,rfl⟩:=hu;obtain⟨vs,rfl,hl,hr⟩:=hv0.agg_inv;obtain⟨i1,i2⟩:=dh (ns:=ns) h hs hp ha;refine .agg (by rw[hl,i1]) fun i u hu=> ?_;have hi:=(ca.1 hu).1;rw[i1]at hi;exact i2 i _ u (bf hi) hu _ (hr i _ (bf hi))
 ·exact ee h hs hu ha hv0
theorem aoy{σ:ASt}{u u':PV}{a:List Nat}(h:az9 σ u=some (u',a)): ∀n∈a,∃B,ah σ n=some B:=by
 unfold az9 at h;split at h
 ·cases hp:gr σ _ with
  |none=>rw[hp]at h;cases h
  |some p=>rw[hp]at h;simp only[Option.map_some,Option.some.injEq,Prod.mk.injEq]at h;obtain⟨_,rfl⟩:=h;exact gq hp
 ·exact mw h
theorem ajb{σ:ASt}: ∀{xs xs':List (PV×PV)} {a:List Nat},azv σ xs=some (xs',a)->xs'.length=xs.length/\(∀n∈a,∃B,ah σ n=some B)/\
  ∀(i:Nat) (r r':PV×PV),xs[i]? =some r->xs'[i]? =some r'->r'.1=r.1/\∃b,az9 σ r.2=some (r'.2,b)/\∀n∈b,n∈a
 |[],xs',a,h=>by cases h;simp
 |(k,u)::us,xs',a,h=>by
  simp only[azv]at h
  cases h1:az9 σ u with
  |none=>rw[h1]at h;cases h
  |some p=>
   cases h2:azv σ us with
   |none=>rw[h1,h2]at h;cases h
   |some q=>
    obtain⟨p1,p2⟩:=p;obtain⟨q1,q2⟩:=q;rw[h1,h2]at h;simp only[Option.some.injEq,Prod.mk.injEq]at h;obtain⟨rfl,rfl⟩:=h;obtain⟨k1,k0,k2⟩:=ajb h2;refine⟨by simp[k1],fun n hn=> ?_,fun i r r' hr hr'=> ?_⟩
    ·rcases List.mem_append.1 hn with hn|hn
     ·exact aoy h1 n hn
     ·exact k0 n hn
    ·cases i with
     |zero=>simp at hr hr';subst hr hr';exact⟨rfl,p2,h1,fun n hn=>by simp[hn]⟩
     |succ i=>
      obtain⟨e0,b,e1,e2⟩:=k2 i r r' (by simpa using hr) (by simpa using hr');exact⟨e0,b,e1,fun n hn=>by simp[e2 n hn]⟩
def air(σ:ASt):Box->Option (Box×List Nat)
 | .cells cs=>(gr σ cs).map fun p=>(.cells p.1,p.2)
 | .arr e sz sh xs=>some (.arr e sz sh xs,[])
 | .arh e sz xs=>(lm σ xs).map fun p=>(.arr e sz false p.1,p.2)
 | .mp es=>(azv σ es).map fun p=>(.mp p.1,p.2)
 | .it _ _ _=>none
 | .si _ _=>none
 | .arq _ _ _ _=>none
 | .dead sz l=>some (.dead sz l,[])
theorem aut{σ:ASt}{B B':Box}{a:List Nat}(h:air σ B=some (B',a))(v:Value):Box.keep B v B' v:=by
 cases B with
 |cells cs=>
  simp only[air]at h
  cases hq:gr σ cs with
  |none=>rw[hq]at h;cases h
  |some p=>rw[hq]at h;simp only[Option.map_some,Option.some.injEq,Prod.mk.injEq]at h;obtain⟨rfl,rfl⟩:=h;exact⟨⟨_,rfl⟩,rfl⟩
 |arr e sz sh xs=>cases h;exact Box.keep_refl _ _
 |arh e sz xs=>
  simp only[air]at h
  cases hq:lm σ xs with
  |none=>rw[hq]at h;cases h
  |some p=>
   obtain⟨p1,p2⟩:=p;rw[hq]at h;simp only[Option.map_some,Option.some.injEq,Prod.mk.injEq]at h;obtain⟨rfl,rfl⟩:=h
   exact⟨p1.length,rfl,by rw[(kv hq).1];exact Nat.le_refl _,fun _=>rfl⟩
 |mp es=>
  simp only[air]at h
  cases hq:azv σ es with
  |none=>rw[hq]at h;cases h
  |some p=>rw[hq]at h;simp only[Option.map_some,Option.some.injEq,Prod.mk.injEq]at h;obtain⟨rfl,rfl⟩:=h;exact⟨rfl,rfl⟩
 |it m k d=>cases h
 |si l p=>cases h
 |arq e sz k xs=>cases h
 |dead sz l=>cases h;exact Box.keep_refl _ _
def ug(σ:ASt):List Nat->Option (List Box×List Nat)
 |[]=>some ([],[])
 |n::r=>match ah σ n with
  |some B=>match air σ B,ug σ r with
   |some (B',a),some (l,b)=>some (B'::l,a++b)
   |_,_=>none
  |none=>none
def a4i(σ:ASt)(ns:List Nat):PV->Option (PV×List Nat)
 | .os n k=>match nc ns n with
  |some j=>some (.os j k,[])
  |none=>pur σ (.os n k)
 |u=>pur σ u
def ahs(σ:ASt)(ns:List Nat):List PV->Option (List PV×List Nat)
 |[]=>some ([],[])
 |u::us=>match a4i σ ns u,ahs σ ns us with
  |some (v,a),some (vs,b)=>some (v::vs,a++b)
  |_,_=>none
def awg(ns:List Nat):List PV->Bool
 |[]=>false
 | .os n _::r=>ns.contains n||awg ns r
 |_::r=>awg ns r
theorem afa: ∀cs:List PV,awg [] cs=false
 |[]=>rfl
 |u::r=>by
  have:=afa r
  cases u<;>simp[awg,this]
theorem ael{σ:ASt}{ns:List Nat}: ∀{us us':List PV} {b:List Nat},ahs σ ns us=some (us',b)->us'.length=us.length/\∀(i:Nat) (u u':PV),us[i]? =some u->us'[i]? =some u'->∃a,a4i σ ns u=some (u',a)/\∀n∈a,n∈b
 |[],us',b,h=>by cases h;simp
 |u::us,us',b,h=>by
  simp only[ahs]at h
  cases h1:a4i σ ns u with
  |none=>rw[h1]at h;cases h
  |some p=>
   cases h2:ahs σ ns us with
   |none=>rw[h1,h2]at h;cases h
   |some q=>
    obtain⟨v,a⟩:=p;obtain⟨vs,b'⟩:=q;rw[h1,h2]at h;simp only[Option.some.injEq,Prod.mk.injEq]at h;obtain⟨rfl,rfl⟩:=h;obtain⟨k1,k2⟩:=ael h2;refine⟨by simp[k1],fun i r r' hr hr'=> ?_⟩
    cases i with
    |zero=>
     simp at hr hr';subst hr hr'
     exact⟨a,h1,fun n hn=>by simp[hn]⟩
    |succ i=>
     obtain⟨c,e1,e2⟩:=k2 i r r' (by simpa using hr) (by simpa using hr');exact⟨c,e1,fun n hn=>by simp[e2 n hn]⟩
def axd(σ:ASt)(ns exts:List Nat):PV->Option (PV×List Nat)
 | .undef=>some (.undef,[])
 | .ptr n off=>if exts.contains n then some (.ptr n off,[])else(nc ns n).map fun j=>(.ptr j off,[])
 | .mh n=>if exts.contains n then some (.mh n,[])else(nc ns n).map fun j=>(.mh j,[])
 | .os n k=>if exts.contains n then some (.os n k,[])else match nc ns n with
  |some j=>some (.os j k,[])
  |none=>pur σ (.os n k)
 | .agg cs=>if awg ns cs=true then(ahs σ ns cs).map fun p=>(.ago p.1,p.2)else(gr σ cs).map fun p=>(.agg p.1,p.2)
 |u=>pur σ u
theorem uw{σ:ASt}: ∀{ns:List Nat} {nb:List Box} {b:List Nat},ug σ ns=some (nb,b)->nb.length=ns.length/\
  ∀(j n:Nat),ns[j]? =some n->∃B B' a,ah σ n=some B/\nb[j]? =some B'/\air σ B=some (B',a)/\∀m∈a,m∈b
 |[],nb,b,h=>by cases h;simp
 |n::r,nb,b,h=>by
  simp only[ug]at h
  cases h1:ah σ n with
  |none=>rw[h1]at h;cases h
  |some B=>
   rw[h1]at h;simp only at h
   cases h2:air σ B with
   |none=>rw[h2]at h;cases h
   |some p=>
    cases h3:ug σ r with
    |none=>rw[h2,h3]at h;cases h
    |some q=>
     obtain⟨B',a⟩:=p;obtain⟨l,b'⟩:=q;rw[h2,h3]at h;simp only[Option.some.injEq,Prod.mk.injEq]at h;obtain⟨rfl,rfl⟩:=h;obtain⟨k1,k2⟩:=uw h3;refine⟨by simp[k1],fun j m hj=> ?_⟩
     cases j with
     |zero=>
      simp at hj;subst hj
      exact⟨B,B',a,h1,rfl,h2,fun m hm=>by simp[hm]⟩
     |succ j=>
      obtain⟨C,C',c,e1,e2,e3,e4⟩:=k2 j m (by simpa using hj);exact⟨C,C',c,e1,by simpa using e2,e3,fun m hm=>by simp[e4 m hm]⟩
theorem atk{σ:ASt}{B B':Box}{a:List Nat}(h:air σ B=some (B',a))(off:Nat):B.perm off->B'.perm off:=by
 cases B with
 |cells cs=>intro h;exact h.elim
 |arr e sz sh xs=>cases h;exact id
 |_=>intro h;exact h.elim
def a74(σ:ASt)(exts:List Nat)(B B':Box)(a:List Nat):Prop:=
 air σ B=some (B',a)\/(B'=B/\a=[]/\((∃cs,B= .cells cs/\∀u∈cs,∃n,n∈exts/\(u= .mh n\/∃k,u= .os n k))\/∃es,B= .mp es/\∀e∈es,noH e.2))
def a79(σ:ASt)(exts:List Nat)(ext':List Box)(b:List Nat):Prop:=ext'.length=exts.length/\
  ∀(j n:Nat),exts[j]? =some n->∃B B' a,ah σ n=some B/\ext'[j]? =some B'/\a74 σ exts B B' a/\∀m∈a,m∈b
theorem ath{σ:ASt}{exts:List Nat}{ext':List Box}{b:List Nat}(h:ug σ exts=some (ext',b)):a79 σ exts ext' b:=by
 obtain⟨h1,h2⟩:=uw h;refine⟨h1,fun j n hj=> ?_⟩;obtain⟨B,B',a,e1,e2,e3,e4⟩:=h2 j n hj;exact⟨B,B',a,e1,e2,.inl e3,e4⟩
theorem atu{σ:ASt}{exts:List Nat}{B B':Box}{a:List Nat}(h:a74 σ exts B B' a)(v:Value):Box.keep B v B' v:=by
 rcases h with h|⟨rfl,_⟩
 ·exact aut h v
 ·exact Box.keep_refl _ _
theorem ast{σ:ASt}{exts:List Nat}{B B':Box}{a:List Nat}(h:a74 σ exts B B' a)(off:Nat):B.perm off->B'.perm off:=by
 rcases h with h|⟨rfl,_⟩
 ·exact atk h off
 ·exact id
def okI(ns:List Nat):PV->Prop
 | .os j _=>ns[j]? =some j
 |u=>noH u
def aw1(σ:ASt)(ns exts:List Nat)(B B':Box)(a:List Nat):Prop:=
 a74 σ exts B B' a\/∃e sz xs,B= .arh e sz xs/\B'=B/\a=[]/\∀x∈xs,∀u∈x,okI ns u
def a8k(σ:ASt)(ns exts:List Nat)(nb:List Box)(b:List Nat):Prop:=nb.length=ns.length/\
  ∀(j n:Nat),ns[j]? =some n->∃B B' a,ah σ n=some B/\nb[j]? =some B'/\aw1 σ ns exts B B' a/\∀m∈a,m∈b
theorem a32{σ:ASt}{ns exts:List Nat}{nb:List Box}{b:List Nat}(h:ug σ ns=some (nb,b)):a8k σ ns exts nb b:=by
 obtain⟨h1,h2⟩:=uw h;refine⟨h1,fun j n hj=> ?_⟩;obtain⟨B,B',a,e1,e2,e3,e4⟩:=h2 j n hj;exact⟨B,B',a,e1,e2,.inl (.inl e3),e4⟩
theorem xv{σ:ASt}{ns exts:List Nat}{B B':Box}{a:List Nat}(h:aw1 σ ns exts B B' a)(v:Value):Box.keep B v B' v:=by
 rcases h with h|⟨e,sz,xs,_,rfl,_⟩
 ·exact atu h v
 ·exact Box.keep_refl _ _
theorem aum{σ:ASt}{ns exts:List Nat}{B B':Box}{a:List Nat}(h:aw1 σ ns exts B B' a)(off:Nat):B.perm off->B'.perm off:=by
 rcases h with h|⟨e,sz,xs,_,rfl,_⟩
 ·exact ast h off
 ·exact id
theorem aq0{x:Ctx P}{σ:ASt}{hv:Nat->Value}{w:World}(hW:SimW x (ah σ) hv w){ns exts shl b1 b2:List Nat}{nb ext':List Box}(h1:a8k σ ns exts nb b1)(h2:a79 σ exts ext' b2)
  (hexts:exts=List.range' 1000000 ext'.length) (hx: ∀n,x.hx n≠none->n∈exts) (hlt: ∀n∈ns,n<1000000) (hnd:ns.Nodup) (hl:ns.length<1000000)
  (hb1: ∀n∈b1,n∈shl) (hb2: ∀n∈b2,n∈shl) (hd1: ∀n∈ns,n∉shl) (hd2: ∀n∈exts,n∉shl):
  ∃hv',SimW x (d4 nb ext') hv' w/\∀v u u' a,RV (env x (ah σ) hv w) v u->axd σ ns exts u=some (u',a)->(∀n∈a,n∈shl)->RV (env x (d4 nb ext') hv' w) v u':=by
 obtain⟨l1,g1⟩:=h1;obtain⟨l2,g2⟩:=h2;have hsh:=hW.shared (dp (ah σ) shl)
 let hv':Nat->Value:=fun j=>if j<1000000 then hv (ns.getD j 0)else hv j
 have hv1: ∀(j n:Nat),ns[j]? =some n->hv' j=hv n:=fun j n hj=>by
  have:j<1000000:=Nat.lt_trans (ca.1 hj).1 hl;simp[hv',this,hj]
 have hv2: ∀j,1000000<=j->hv' j=hv j:=fun j hj=>by
  have: ¬j<1000000:=by omega
  simp[hv',this]
 have hext: ∀n,n∈exts↔1000000<=n/\n<1000000+ext'.length:=fun n=>by rw[hexts];simp[List.mem_range'_1]
 have kinds: ∀(j:Nat) (B':Box),d4 nb ext' j=some B'->∃n B a,hv' j=hv n/\ah σ n=some B/\ar (ah σ) shl n=some B/\aw1 σ ns exts B B' a/\(∀m∈a,m∈shl)/\((j<1000000/\ns[j]? =some n)\/(1000000<=j/\n=j/\n∈exts)):=by
  intro j B' hB;rcases eg hB with ⟨hj,hB⟩|⟨i,rfl,hB'⟩
  ·have hjl:j<ns.length:=by rw[<-l1];exact(ca.1 hB).1
   have hg:ns[j]? =some ns[j]:=bf hjl;obtain⟨B,C,a,e1,e2,e3,e4⟩:=g1 j _ hg;rw[hB]at e2
   cases e2
   refine⟨_,B,a,hv1 j _ hg,e1,?_,e3,fun m hm=>hb1 m (e4 m hm),.inl ⟨hj,hg⟩⟩;simp[ar,hd1 _ (List.mem_of_getElem? hg),e1]
  ·clear hB
   rename ext'[i]? =some B'=>hB
   have hil:i<ext'.length:=(ca.1 hB).1;have hmem:1000000+i∈exts:=(hext _).2 ⟨by omega,by omega⟩;have hg:exts[i]? =some (1000000+i):=by rw[hexts];simp[List.getElem?_range',hil]
   obtain⟨B,C,a,e1,e2,e3,e4⟩:=g2 i _ hg;rw[hB]at e2
   cases e2
   refine⟨_,B,a,hv2 _ (by omega),e1,?_,.inl e3,fun m hm=>hb2 m (e4 m hm),.inr ⟨by omega,rfl,hmem⟩⟩;simp[ar,hd2 _ hmem,e1]
 have hinjn: ∀(j j':Nat) (B B' C C':Box) (n n' b:Nat),ah σ n=some B->ah σ n'=some B'->blk (hv n)=some b->blk (hv n')=some b->
   ((j<1000000/\ns[j]? =some n)\/(1000000<=j/\n=j/\n∈exts))->((j'<1000000/\ns[j']? =some n')\/(1000000<=j'/\n'=j'/\n'∈exts))->j=j':=by
  intro j j' B B' C C' n n' b k1 k2 k3 k4 k5 k6;have:=hW.inj n n' B B' b k1 k2 k3 k4;subst this;rcases k5 with ⟨a1,a2⟩|⟨a1,rfl,a3⟩<;>rcases k6 with ⟨c1,c2⟩|⟨c1,c2,c3⟩
  ·have e1:=j6 hnd a2;have e2:=j6 hnd c2;rw[e1]at e2;exact Option.some.inj e2
  ·have:=hlt _ (List.mem_of_getElem? a2);omega
  ·have:=hlt _ (List.mem_of_getElem? c2);omega
  ·exact c2
 have hpc: ∀a v,pcOf x (ar (ah σ) shl) hv w a v->pcOf x (d4 nb ext') hv' w a v:=by
  intro a v hp;refine⟨hp.1,hp.2.1,fun j B' hB hb=> ?_⟩;obtain⟨n,B,c,e1,_,e2,e3,_⟩:=kinds j B' hB;rw[e1]at hb;exact aum e3 _ (hp.2.2 n B e2 hb)
 have hstn: ∀n j,nc ns n=some j->hv' j=hv n/\∃B B' a,ah σ n=some B/\d4 nb ext' j=some B'/\aw1 σ ns exts B B' a:=fun n j hj=>by
  have hg:=ik hj;obtain⟨B,B',a,e1,e2,e3,_⟩:=g1 j n hg;have:j<1000000:=Nat.lt_trans (ca.1 hg).1 hl;exact⟨hv1 j n hg,B,B',a,e1,by rw[ahe this];exact e2,e3⟩
 have hste: ∀n,n∈exts->hv' n=hv n/\∃B B' a,ah σ n=some B/\d4 nb ext' n=some B'/\aw1 σ ns exts B B' a:=fun n hn=>by
  have hm:=(hext n).1 hn;obtain⟨i,rfl⟩:=Nat.exists_eq_add_of_le hm.1;have hil:i<ext'.length:=by omega
  have hg:exts[i]? =some (1000000+i):=by rw[hexts];simp[List.getElem?_range',hil]
  obtain⟨B,B',a,e1,e2,e3,_⟩:=g2 i _ hg;exact⟨hv2 _ (by omega),B,B',a,e1,by rw[gk];exact e2,.inl e3⟩
 have hmh: ∀v n j,RV (env x (ah σ) hv w) v (.mh n)->(hv' j=hv n/\∃B B' a,ah σ n=some B/\d4 nb ext' j=some B'/\aw1 σ ns exts B B' a)->RV (env x (d4 nb ext') hv' w) v (.mh j):=by
  intro v n j h ⟨e1,B,B',a,e2,e3,e4⟩;obtain⟨⟨hb,B1,k1,kM⟩,k2⟩:=h.mh_inv;rw[e2]at k1
  cases k1
  exact .mh ⟨⟨hb,B',e3,((Box.keep_M kM).1 (xv e4 (hv n))).1⟩,by rw[e1];exact k2⟩
 have hos: ∀v n k j,RV (env x (ah σ) hv w) v (.os n k)->(hv' j=hv n/\∃B B' a,ah σ n=some B/\d4 nb ext' j=some B'/\aw1 σ ns exts B B' a)->RV (env x (d4 nb ext') hv' w) v (.os j k):=by
  intro v n k j h ⟨e1,B,B',a,e2,e3,e4⟩;obtain⟨hsh,B1,sz,l,k1,kd,k2,k3⟩:=h.os_inv;rw[e2]at k1
  cases k1
  obtain⟨l',d1,d2,d3⟩:=(Box.keep_dim kd).1 (xv e4 (hv n))
  have hl':l=l':=by
   rcases e4 with (e4|⟨rfl,_⟩)|⟨_,_,_,_,rfl,_⟩
   rotate_left
   ·rw[kd]at d1;cases d1;rfl
   ·rw[kd]at d1;cases d1;rfl
   cases B<;>simp only[Box.dim,Option.some.injEq,Prod.mk.injEq]at kd<;>(try (cases kd;done))<;>obtain⟨rfl,rfl⟩:=kd
   ·cases e4;simp only[Box.dim,Option.some.injEq,Prod.mk.injEq]at d1;exact d1.2
   ·rename_i e sz xs;simp only[air]at e4
    cases hq:lm σ xs with
    |none=>rw[hq]at e4;cases e4
    |some p=>
     obtain⟨p1,p2⟩:=p;rw[hq]at e4;simp only[Option.map_some,Option.some.injEq,Prod.mk.injEq]at e4;obtain⟨rfl,rfl⟩:=e4;simp only[Box.dim,Option.some.injEq,Prod.mk.injEq]at d1;rw[<-d1.2,(kv hq).1]
   ·cases e4;simp only[Box.dim,Option.some.injEq,Prod.mk.injEq]at d1;exact d1.2
  subst hl';exact .os ⟨hsh,B',sz,l,e3,d1,k2,fun hk=>by rw[e1];exact k3 hk⟩
 have hS:SimW x (d4 nb ext') hv' w:={
  os:=hW.os,tape:=hW.tape,output:=hW.output,size:=hW.size,old:=hW.old,glb:=hW.glb,tabs:=hW.tabs
  box:=fun j B' hB=>by
   obtain⟨n,B,c,e1,e0,e2,e3,e4,_⟩:=kinds j B' hB;rw[e1];have hb0:=hW.box n B e0;rcases e3 with (e3|⟨rfl,rfl,⟨cs,rfl,q1⟩|⟨es,rfl,q1⟩⟩)|⟨e,sz,xs,rfl,rfl,rfl,q1⟩
   rotate_left
   ·obtain⟨b,t,arr,k1,k2,k3,k4⟩:=hb0;refine⟨b,t,arr,k1,k2,k3,fun i u hu=> ?_⟩;obtain⟨m,hm,rfl|⟨k,rfl⟩⟩:=q1 u (List.mem_of_getElem? hu)
    ·exact hmh _ m m (k4 i _ hu) (hste m hm)
    ·exact hos _ m k m (k4 i _ hu) (hste m hm)
   ·exact(hb0.mono hsh.2).noH hpc q1
   ·obtain⟨h0,ys,k1,k2,k3,k4⟩:=hb0;refine⟨h0,ys,k1,k2,k3,fun i r j u hr hu=> ?_⟩;have hq:=q1 r (List.mem_of_getElem? hr) u (List.mem_of_getElem? hu);have h4:=k4 i r j u hr hu
    cases u<;>(try (exact(h4.mono hsh.2).noH hpc hq))
    case os m k=>exact hos _ m k m h4 (hstn m m (j6 hnd hq))
   cases B with
   |cells cs=>
    simp only[air]at e3
    cases hq:gr σ cs with
    |none=>rw[hq]at e3;cases e3
    |some p=>
     obtain⟨cs',a⟩:=p;rw[hq]at e3;simp only[Option.map_some,Option.some.injEq,Prod.mk.injEq]at e3;obtain⟨rfl,rfl⟩:=e3;obtain⟨b,t,arr,k1,k2,k3,k4⟩:=hb0;obtain⟨i1,i2⟩:=dh (ns:=shl) hW (fun n _=>rfl) hq e4;refine⟨b,t,arr,k1,k2,by rw[k3,i1],fun i u hu=> ?_⟩;have hi:=(ca.1 hu).1;rw[i1]at hi
     exact .pure ((i2 i _ u (bf hi) hu _ (k4 i _ (bf hi))).mono hpc)
   |arr e sz sh xs=>
    cases e3
    have:=(hsh.1.box n _ e2);obtain⟨h0,ys,k1,k2,k3,k4⟩:=this
    exact⟨h0,ys,k1,k2,k3,fun i x j u hx hu=>(k4 i x j u hx hu).mono hpc⟩
   |arh e sz xs=>
    simp only[air]at e3
    cases hq:lm σ xs with
    |none=>rw[hq]at e3;cases e3
    |some p=>
     obtain⟨xs',a⟩:=p;rw[hq]at e3;simp only[Option.map_some,Option.some.injEq,Prod.mk.injEq]at e3;obtain⟨rfl,rfl⟩:=e3;obtain⟨h0,ys,k1,k2,k3,k4⟩:=hb0;obtain⟨i1,i0,i2⟩:=kv hq
     have hrow: ∀(i:Nat) (r':List PV),xs'[i]? =some r'->∃r b,xs[i]? =some r/\gr σ r=some (r',b)/\∀n∈b,n∈a:=fun i r' hr'=>by
      have hi:=(ca.1 hr').1;rw[i1]at hi;obtain⟨b,q1,q2⟩:=i2 i _ r' (bf hi) hr';exact⟨_,b,bf hi,q1,q2⟩
     refine⟨h0,ys,by rw[i1];exact k1,fun r' hr'=> ?_,fun r' hr'=> ?_,fun i r' j u hr' hu=> ?_⟩
     ·obtain⟨i,hi⟩:=List.mem_iff_getElem?.1 hr';obtain⟨r,b,q1,q2,q3⟩:=hrow i r' hi;rw[(dh (ns:=shl) hW (fun n _=>rfl) q2 (fun n hn=>e4 n (q3 n hn))).1];exact k2 r (List.mem_of_getElem? q1)
     ·obtain⟨i,hi⟩:=List.mem_iff_getElem?.1 hr';obtain⟨r,b,q1,q2,q3⟩:=hrow i r' hi;exact u5 q2
     ·obtain⟨r,b,q1,q2,q3⟩:=hrow i r' hr';obtain⟨l1,l2⟩:=dh (ns:=shl) hW (fun n _=>rfl) q2 (fun n hn=>e4 n (q3 n hn));have hj:=(ca.1 hu).1;rw[l1]at hj
      exact(l2 j _ u (bf hj) hu _ (k4 i r j _ q1 (bf hj))).mono hpc
   |mp es=>
    simp only[air]at e3
    cases hq:azv σ es with
    |none=>rw[hq]at e3;cases e3
    |some p=>
     obtain⟨es',a⟩:=p;rw[hq]at e3;simp only[Option.map_some,Option.some.injEq,Prod.mk.injEq]at e3;obtain⟨rfl,rfl⟩:=e3;obtain⟨b,arr,k1,k2,k3,k4⟩:=hb0;obtain⟨i1,i0,i2⟩:=ajb hq;refine⟨b,arr,k1,by rw[i1];exact k2,by rw[i1];exact k3,fun i p' hp'=> ?_⟩;have hi:=(ca.1 hp').1;rw[i1]at hi;obtain⟨q0,c,q1,q2⟩:=i2 i _ p' (bf hi) hp';obtain⟨en,m1,m2,m3,m4⟩:=k4 i _ (bf hi);refine⟨en,m1,m2,?_,.pure ((al9 (ns:=shl) hW (fun n _=>rfl) q1 (fun n hn=>e4 n (q2 n hn)) m4).mono hpc)⟩;rw[q0]
     exact(m3.mono hsh.2.pc).mono hpc
   |it m k d=>cases e3
   |si l p=>cases e3
   |arq e sz k xs=>cases e3
   |dead sz l=>cases e3;exact hb0
  loc:=fun j B' b hB hb=>by
   obtain⟨n,B,c,e1,e0,_⟩:=kinds j B' hB;rw[e1]at hb;exact hW.loc n B b e0 hb
  inj:=fun j j' B' C' b hB hC hb hb'=>by
   obtain⟨n,B,c,e1,e0,_,_,_,e5⟩:=kinds j B' hB;obtain⟨n',C,c',f1,f0,_,_,_,f5⟩:=kinds j' C' hC;rw[e1]at hb;rw[f1]at hb';exact hinjn j j' B C B' C' n n' b e0 f0 hb hb' e5 f5
  ext:=fun j h B' hh hB=>by
   obtain⟨n,B,c,e1,e0,_,e3,_,e5⟩:=kinds j B' hB;have hj:=(hext j).1 (hx j (by rw[hh];simp));rcases e5 with ⟨a1,_⟩|⟨_,rfl,_⟩
   ·omega
   ·rw[e1];exact Box.keep_trans (hW.ext n h B hh e0) (xv e3 _)
  vis:=hW.vis
  extin:=fun j hj=>by
   have hm:=(hext j).1 (hx j hj);refine⟨?_,hm.1⟩;obtain⟨i,rfl⟩:=Nat.exists_eq_add_of_le hm.1;rw[gk];have:i<ext'.length:=by omega
   simp[this]}
 refine⟨hv',hS,fun v u u' a hv0 hu ha=> ?_⟩
 have hpur:pur σ u=some (u',a)->RV (env x (d4 nb ext') hv' w) v u':=fun hp=>
  .pure ((ee (ns:=shl) hW (fun n _=>rfl) hp ha hv0).mono hpc)
 have hptr: ∀n o j,RV (env x (ah σ) hv w) v (.ptr n o)->(hv' j=hv n/\∃B B' a,ah σ n=some B/\d4 nb ext' j=some B'/\aw1 σ ns exts B B' a)->RV (env x (d4 nb ext') hv' w) v (.ptr j o):=by
  intro n o j h ⟨e1,B,B',a,e2,e3,e4⟩;obtain⟨⟨cs,k1⟩,b,k2,k3⟩:=h.ptr_inv;rw[e2]at k1
  cases k1
  rcases e4 with (e4|⟨rfl,_⟩)|⟨_,_,_,hbad,_⟩
  rotate_left
  ·exact .ptr ⟨⟨_,e3⟩,b,by rw[e1];exact k2,k3⟩
  ·cases hbad
  simp only[air]at e4
  cases hq:gr σ cs with
  |none=>rw[hq]at e4;cases e4
  |some p=>
   rw[hq]at e4;simp only[Option.map_some,Option.some.injEq,Prod.mk.injEq]at e4;obtain⟨rfl,rfl⟩:=e4;exact .ptr ⟨⟨_,e3⟩,b,by rw[e1];exact k2,k3⟩
 have hA: ∀(v:Value) (u u':PV) (a:List Nat),RV (env x (ah σ) hv w) v u->a4i σ ns u=some (u',a)->(∀n∈a,n∈shl)->RV (env x (d4 nb ext') hv' w) v u':=fun v u u' a hv0 hu ha=>by
  have hp:pur σ u=some (u',a)->RV (env x (d4 nb ext') hv' w) v u':=fun hp=> .pure ((ee (ns:=shl) hW (fun n _=>rfl) hp ha hv0).mono hpc)
  cases u<;>(try (exact hp hu))
  case os n k=>
   simp only[a4i]at hu;split at hu
   ·rename_i j hj
    cases hu
    exact hos v n k j hv0 (hstn n j hj)
   ·exact hp hu
 cases u<;>(try (exact hpur hu))
 case mh n=>
  simp only[axd]at hu;split at hu
  ·rename_i hc
   cases hu
   exact hmh v n n hv0 (hste n (by simpa using hc))
  ·cases hj:nc ns n with
   |none=>rw[hj]at hu;cases hu
   |some j=>
    rw[hj]at hu;simp only[Option.map_some,Option.some.injEq,Prod.mk.injEq]at hu;obtain⟨rfl,rfl⟩:=hu;exact hmh v n j hv0 (hstn n j hj)
 case undef=>cases hu;exact .undef v
 case os n k=>
  simp only[axd]at hu;split at hu
  ·rename_i hc
   cases hu
   exact hos v n k n hv0 (hste n (by simpa using hc))
  ·split at hu
   ·rename_i j hj
    cases hu
    exact hos v n k j hv0 (hstn n j hj)
   ·exact hpur hu
 case ptr n o=>
  simp only[axd]at hu;split at hu
  ·rename_i hc
   cases hu
   exact hptr n o n hv0 (hste n (by simpa using hc))
  ·cases hj:nc ns n with
   |none=>rw[hj]at hu;cases hu
   |some j=>
    rw[hj]at hu
    cases hu
    exact hptr n o j hv0 (hstn n j hj)
 case agg cs=>
  simp only[axd]at hu;split at hu
  ·cases hq:ahs σ ns cs with
   |none=>rw[hq]at hu;cases hu
   |some p=>
    obtain⟨cs',c⟩:=p;rw[hq]at hu;simp only[Option.map_some,Option.some.injEq,Prod.mk.injEq]at hu;obtain⟨rfl,rfl⟩:=hu;obtain⟨vs,rfl,k1,k2⟩:=hv0.agg_inv;obtain⟨i1,i2⟩:=ael hq;refine .ago (by rw[k1,i1]) fun i u hu=> ?_;have hi:=(ca.1 hu).1;rw[i1]at hi;obtain⟨a0,q1,q2⟩:=i2 i _ u (bf hi) hu;exact hA _ _ _ a0 (k2 i _ (bf hi)) q1 fun n hn=>ha n (q2 n hn)
  cases hq:gr σ cs with
  |none=>rw[hq]at hu;cases hu
  |some p=>
   obtain⟨cs',c⟩:=p;rw[hq]at hu;simp only[Option.map_some,Option.some.injEq,Prod.mk.injEq]at hu;obtain⟨rfl,rfl⟩:=hu;obtain⟨vs,rfl,k1,k2⟩:=hv0.agg_inv;obtain⟨i1,i2⟩:=dh (ns:=shl) hW (fun n _=>rfl) hq ha;refine .pure (.agg (by rw[k1,i1]) fun i u hu=> ?_);have hi:=(ca.1 hu).1;rw[i1]at hi;exact(i2 i _ u (bf hi) hu _ (k2 i _ (bf hi))).mono hpc
def a4q(P:Program)(fr:AFr)(σ:ASt):ResultVar->Option PV
 | .tmp t=>some (look fr t)
 | .cell a ty=>match look fr a with
  | .ptr n off=>match ah σ n,ldT P ty with
   |some (.cells cs),some none=>cs[off]?
   |some (.cells cs),some (some m)=>if off+m<=cs.length then some (.agg ((cs.drop off).take m))else none
   |_,_=>none
  |_=>none
def a4j(tmps:Array Value):ResultVar->Sem Value
 | .tmp t=>pure (tmps.getD t undef)
 | .cell a t=>do loadVar t (<-asAddr (tmps.getD a undef))
theorem aob{P:Program}{x:Ctx P}{N:Nat}{fr:AFr}{σ:ASt}{a:Act}{hv:Nat->Value}{w:World}(h:Good x N (look fr) (ah σ) a hv w){r:ResultVar}{u:PV}(hu:a4q P fr σ r=some u):
  ∃v,(a4j a.tmps r).run P w= .ok v w/\RV (env x (ah σ) hv w) v u:=by
 cases r with
 |tmp t=>
  cases hu
  exact⟨_,rfl,h.regs t⟩
 |cell y ty=>
  simp only[a4q]at hu;split at hu
  ·rename_i n off hy;have hr:=h.regs y;rw[hy]at hr;obtain⟨⟨cs0,k1⟩,b,k2,k3⟩:=hr.ptr_inv;have hb:=h.sim.box n _ k1;obtain⟨b',e1,e2⟩:=abd hb;rw[k2]at e1
   cases e1
   split at hu
   ·rename_i cs hf hl;rw[k1]at hf
    cases hf
    obtain⟨v,hc,hrv⟩:=e2 off u hu;refine⟨v,?_,hrv⟩;simp[a4j,k3,asAddr,d7 (ar9 hl) hc]
   ·rename_i cs m hf hl;rw[k1]at hf
    cases hf
    split at hu
    ·rename_i hle
     cases hu
     obtain⟨l1,l2⟩:=art hl;have hall: ∀j,j<m->∃v,w.cell? ⟨b,off+j,none⟩=some v/\RV (env x (ah σ) hv w) v (cs0.getD (off+j) .undef):=fun j hj=>e2 (off+j) _ (dv (by omega))
     let f:Nat->Value:=fun j=>(w.cell? ⟨b,off+j,none⟩).getD undef
     have hf: ∀j,j<m->w.cell? ((⟨b,off,none⟩:Addr).add j)=some (f j):=fun j hj=>by
      obtain⟨v,hc,_⟩:=hall j hj;rw[d8,hc];simp[f,hc]
     refine⟨.agg ((List.range m).map f).toArray,by simp[a4j,k3,asAddr,ed l1 l2 hf],pt (by simp;omega) fun i u hu=> ?_⟩
     have hi:i<m:=by
      have:=(ca.1 hu).1;simp at this;omega
     obtain⟨v,hc,hrv⟩:=hall i hi;rw[List.getElem?_take_of_lt hi,List.getElem?_drop]at hu;rw[dv (by omega)]at hu
     cases hu
     simp only[f,hc,Option.getD_some];exact hrv
    ·cases hu
   ·cases hu
  ·cases hu
def ahq(P:Program)(fr:AFr)(σ:ASt):List ResultVar->Option (List PV)
 |[]=>some []
 |r::rs=>match a4q P fr σ r,ahq P fr σ rs with
  |some u,some us=>some (u::us)
  |_,_=>none
theorem y5{P:Program}{x:Ctx P}{N:Nat}{fr:AFr}{σ:ASt}{a:Act}{hv:Nat->Value}{w:World}(h:Good x N (look fr) (ah σ) a hv w): ∀{rs:List ResultVar} {us:List PV},ahq P fr σ rs=some us->
  ∃vs:List Value,(rs.mapM (a4j a.tmps)).run P w= .ok vs w/\vs.length=us.length/\∀(i:Nat) (v:Value) (u:PV),vs[i]? =some v->us[i]? =some u->RV (env x (ah σ) hv w) v u
 |[],us,hu=>by cases hu;exact⟨[],rfl,rfl,by simp⟩
 |r::rs,us,hu=>by
  simp only[ahq]at hu
  cases h1:a4q P fr σ r with
  |none=>rw[h1]at hu;cases hu
  |some u=>
   cases h2:ahq P fr σ rs with
   |none=>rw[h1,h2]at hu;cases hu
   |some us'=>
    rw[h1,h2]at hu
    cases hu
    obtain⟨v,e1,e2⟩:=aob h h1;obtain⟨vs,f1,f2,f3⟩:=y5 h h2;refine⟨v::vs,?_,by simp[f2],fun i v' u' hv' hu'=> ?_⟩
    ·simp[List.mapM_cons,e1,f1]
    ·cases i with
     |zero=>simp at hv' hu';subst hv' hu';exact e2
     |succ i=>exact f3 i v' u' (by simpa using hv') (by simpa using hu')
end Go.Proofs.Am
