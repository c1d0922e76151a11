/- AmM. -/
import Derived.Test.YtlaoaleoeknhoaaGreatDoorAmThree
set_option linter.unusedSimpArgs false
set_option linter.unusedVariables false
namespace Go.Proofs.Am
open Go Go.RowKit
variable {P:Program}
def wh(d:Nat)(nb:List Box):LN:=(nbD d 0 nb).map (·.1)
def zh(P:Program)(f:PV)(us:LP)(dst:Option Nat)(σ:ASt)(K:KT):Prop:=
 ∃k caps cargs ext r nb nb2 ext' ext2 ns1 ns2 ren d,f= .fn k caps/\Den P k cargs ext r nb ext'/\ye σ ren (us++caps)=some (cargs,ns1)/\bkq σ ren ext ns2/\ren.Nodup/\(∀n∈ren,n∉ns1++ns2)/\bkf ext ext'/\bhe nb.length ext.length (rnm d ren) ext' ext2/\
  nbX nb.length ext.length (rnm d ren) nb nb2/\(∀n∈wh d nb2,ai σ n=none)/\nb.length<1000000/\okR nb.length ext.length r/\dst=dst/\
  K (bml (rnm d ren) r) (aak σ d (ns1++ns2) ren ext2 nb2) ((ns1++ns2)++(ren++wh d nb2))
theorem anl{P:Program}{o:Oper}{ρ:Operand->PV}{σ:ASt}{f:Operand}{c:Array Operand}{ts:Array TypeId}(J:o.op= .call {callee:= .value f,args:=c,argTypes:=ts}){K:KT}
  (h:zh P (ρ f) (c.toList.map ρ) o.dst σ K): ∃u δ F,LOp P o ρ σ u δ F/\K u δ F:=by
 obtain⟨k,O,M,a0,r,nb,a3,S,N,U,a2,a1,d,hf,D,h1,V,h3,W,X,z,h6,Z,T,h9,_,hK⟩:=h;refine⟨_,_,_,⟨λp g=> ?_,λs hs x a hv w hW j R Q L=> ?_⟩,hK⟩
 .simp only[aak,b0j]at g;rcases g with g|g|g;{obtain⟨n,L,rfl⟩:=b0z.1 g;exact b0j.2 (.inl L)};{obtain⟨n,B⟩:=p;exact b0j.2 (.inr (b0j.2 (.inl (List.of_mem_zip g).1)))};.exact b0j.2 (.inr (b0j.2 (.inr (b0z.2 ⟨p,g,rfl⟩))))
 .have hvf:=j f (by simp[J,Op.operands,Call.operands]);rw[hf]at hvf;obtain⟨m,I,Y,hr⟩:=hvf.fn_inv
  have l:=ami D h1 V h3 W X z h6 Z T h9 hs hW (vals:=(c.toList.map a.eval)++m.toList) (by simp[Y]) (λi v u b q=>by
   by_cases H:i<c.size
   .rw[b09 (by simpa using H),b0s]at b;rw[b09 (by simpa using H),b0s]at q;cases hy:c.toList[i]? with|none=>rw[hy]at b;cases b|some y=>rw[hy]at b q;cases b;cases q;have E:c[i]? =some y:=(by simpa using hy);exact j y (by simp[J,Op.operands,Call.operands];exact .inr (b2b E))
   .rw[b0y (by simpa using H)]at b q;simp only[b0x,b28]at b q;have:=hr _ u q;have G:m[i - c.size]? =some v:=A0
    rw[b1c,G]at this;exact this)
  unfold Oper.wp
  have A:(execOp a.eval o).run P w= .ok (.enter k ((c.toList.map a.eval)++m.toList).toArray) w:=by have he:=D.enter ((c.toList.map a.eval)++m.toList).toArray w;have t:(c.map a.eval++m)=((c.toList.map a.eval)++m.toList).toArray:=(by apply b55;simp);simp only[execOp,J,resolve,I,Deferred.ofValue,b0v,b1r,b0w,invoke,Array.empty_append];rw[t];exact he
  rw[A,Oper.upon_enter];refine l.mono λe w'=> ?_;rintro⟨v,C,rfl,k1,k2,k3⟩;exact L v C w' k1 k2 k3
def fo(P:Program)(t:TypeId)(f:Nat):Option Nat:=
 match bfg P t f with
 |some (off,ft)=>match dx P ft with
  |some (_+1)=>some off
  |_=>none
 |none=>none
def slT(P:Program)(t:TypeId):Option (Nat×Nat×Nat):=
 match cw P t with
 |some e=>match dx P e,bytesOf P e,az P e with
  |some sz,some by_,some zs=>if zs.length=sz/\0<sz/\0<by_ then some (e,sz,by_)else none
  |_,_,_=>none
 |none=>none
def ldT(P:Program)(t:TypeId):Option (Option Nat):=
 match lp P t,dx P t with
 |some false,_=>some none
 |some true,some m=>some (some m)
 |_,_=>none
def arT(P:Program)(t:TypeId):Option (Nat×Nat):=
 match aae P t with
 |some (n,e)=>match dx P e with
  |some sz=>some (n,sz)
  |none=>none
 |none=>none
theorem boy{P:Program}{t:TypeId}{f off:Nat}(h:fo P t f=some off): ∃ft m,bfg P t f=some (off,ft)/\dx P ft=some (m+1):=by unfold fo at h;split at h;{rename_i o ft hf;split at h;{rename_i m hs;cases h;exact⟨ft,m,hf,hs⟩};.cases h};.cases h
theorem iv{P:Program}{t:TypeId}{e sz bytes:Nat}(h:slT P t=some (e,sz,bytes)):cw P t=some e/\dx P e=some sz/\bytesOf P e=some bytes/\(∃zs,az P e=some zs/\zs.length=sz)/\0<sz/\0<bytes:=by unfold slT at h;split at h;{rename_i e' he;split at h;{rename_i sz' by' zs h1 h2 h3;split at h;{rename_i hh;simp only[b0c,b0t]at h;obtain⟨rfl,rfl,rfl⟩:=h;exact⟨he,h1,h2,⟨zs,h3,hh.1⟩,hh.2⟩};.cases h};.cases h};.cases h
theorem a2y{P:Program}{t:TypeId}(h:ldT P t=some none):lp P t=some false:=by unfold ldT at h;split at h;{assumption};{cases h};.cases h
theorem a0s{P:Program}{t:TypeId}{m:Nat}(h:ldT P t=some (some m)):lp P t=some true/\dx P t=some m:=by unfold ldT at h;split at h;{cases h};{rename_i h1 h2;cases h;exact⟨h1,h2⟩};.cases h
theorem bov{P:Program}{t:TypeId}{n sz:Nat}(h:arT P t=some (n,sz)): ∃e,aae P t=some (n,e)/\dx P e=some sz:=by unfold arT at h;split at h;{rename_i n' e he;split at h;{rename_i sz' hs;simp only[b0c,b0t]at h;obtain⟨rfl,rfl⟩:=h;exact⟨e,he,hs⟩};.cases h};.cases h
def qi(P:Program)(t:TypeId)(σ:ASt)(u:PV)(K:KT):Prop:=
 match ldT P t with
 |some none=>match u with
  | .ptr n off=>match ai σ n with
   |some (.cells cs)=>off<cs.length/\K (cs.getD off .undef) [] [n]
   |_=>False
  | .el cs=>0<cs.length/\K (cs.getD 0 .undef) [] []
  | .oel n k i off=>match ai σ n with
   |some (.arr _ _ _ xs)=>k=xs.length/\i<k/\off<(xs.getD i []).length/\K ((xs.getD i []).getD off .undef) [] [n]
   |some (.arh _ _ xs)=>k=xs.length/\i<k/\off<(xs.getD i []).length/\K ((xs.getD i []).getD off .undef) [] [n]
   |_=>False
  | .oqe n k i sz off=>match ai σ n with
   |some (.arq _ sz' k' xs)=>(k=k'/\sz=sz'/\i<xs.length/\off<(xs.getD i []).length)/\K ((xs.getD i []).getD off .undef) [] [n]
   |_=>False
  |_=>False
 |some (some m)=>match u with
  | .ptr n off=>match ai σ n with
   |some (.cells cs)=>off+m<=cs.length/\K (.agg ((cs.drop off).take m)) [] [n]
   |_=>False
  | .el cs=>m<=cs.length/\K (.agg (cs.take m)) [] []
  | .oel n k i off=>match ai σ n with
   |some (.arr _ _ _ xs)=>k=xs.length/\i<k/\off+m<=(xs.getD i []).length/\K (.agg (((xs.getD i []).drop off).take m)) [] [n]
   |some (.arh _ _ xs)=>k=xs.length/\i<k/\off+m<=(xs.getD i []).length/\K (.agg (((xs.getD i []).drop off).take m)) [] [n]
   |_=>False
  |_=>False
 |none=>False
theorem ez{cs:LP}{off:Nat}(h:off<cs.length):cs[off]? =some (cs.getD off .undef):=by rw[bd,bq h];rfl
theorem al0{P:Program}{o:Oper}{ρ:Operand->PV}{σ:ASt}{t:TypeId}{y:Operand}(b:o.op= .load t y){K:KT}(h:qi P t σ (ρ y) K): ∃u δ F,LOp P o ρ σ u δ F/\K u δ F:=by unfold qi at h;split at h;{rename_i a;have a:=a2y a;split at h;{rename_i n off hy;split at h;{rename_i cs hf;exact⟨_,_,_,alh b hy hf a (ez h.1),h.2⟩};.exact h.elim};{rename_i cs hy;exact⟨_,_,_,asg b hy a (ez h.1),h.2⟩};{rename_i n k i off hy;split at h;{rename_i e sz sh xs hf;exact⟨_,_,_,anr b hy hf h.1 h.2.1 a (ez h.2.2.1),h.2.2.2⟩};{rename_i e sz xs hf;exact⟨_,_,_,ajo b hy hf h.1 h.2.1 a (ez h.2.2.1),h.2.2.2⟩};.exact h.elim};{rename_i n k i sz off hy;split at h;{rename_i e sz' k' xs hf;obtain⟨⟨rfl,rfl,g,f⟩,d⟩:=h;exact⟨_,_,_,aoi b hy hf g a (ez f),d⟩};.exact h.elim};.exact h.elim};{rename_i m a;obtain⟨a,c⟩:=a0s a;split at h;{rename_i n off hy;split at h;{rename_i cs hf;exact⟨_,_,_,ajd b hy hf a c h.1,h.2⟩};.exact h.elim};{rename_i cs hy;exact⟨_,_,_,aki b hy a c h.1,h.2⟩};{rename_i n k i off hy;split at h;{rename_i e sz sh xs hf;exact⟨_,_,_,ah4 b hy hf h.1 h.2.1 a c h.2.2.1,h.2.2.2⟩};{rename_i e sz xs hf;exact⟨_,_,_,ae7 b hy hf h.1 h.2.1 a c h.2.2.1,h.2.2.2⟩};.exact h.elim};.exact h.elim};.exact h.elim
def p6(P:Program)(t:TypeId)(σ:ASt)(u v:PV)(K:KT):Prop:=
 match dx P t,ei v with
 |some m,some us=>us.length=m/\us.all fy=true/\(match u with
  | .ptr n off=>match ai σ n with
   |some (.cells cs)=>off+m<=cs.length/\K .undef [(n,.cells (cs.take off++us++cs.drop (off+m)))] [n]
   |_=>False
  | .oel n k i off=>match ai σ n with
   |some (.arr e sz false xs)=>match lg σ us with
    |some (us',ns)=>k=xs.length/\i<k/\off+m<=sz/\n∉ns/\K .undef (ej σ ns++[(n,.arr e sz false (xs.set i ((xs.getD i []).take off++us'++(xs.getD i []).drop (off+m))))]) (n::ns)
    |none=>False
   |some (.arh e sz xs)=>k=xs.length/\i<k/\off+m<=sz/\K .undef [(n,.arh e sz (xs.set i ((xs.getD i []).take off++us++(xs.getD i []).drop (off+m))))] [n]
   |_=>False
  |_=>False)
 |_,_=>False
theorem aj0{P:Program}{o:Oper}{ρ:Operand->PV}{σ:ASt}{t:TypeId}{y z:Operand}(d:o.op= .store t y z){K:KT}(h:p6 P t σ (ρ y) (ρ z) K): ∃u δ F,LOp P o ρ σ u δ F/\K u δ F:=by unfold p6 at h;split at h;{rename_i m us hm hu;obtain⟨b,c,a⟩:=h;split at a;{rename_i n off hy;split at a;{rename_i cs hf;exact⟨_,_,_,a6r d hy hf hu hm b a.1 c,a.2⟩};.exact a.elim};{rename_i n k i off hy;split at a;{rename_i e sz xs hf;split at a;{rename_i us' ns hp;exact⟨_,_,_,aqi d hy hf a.1 a.2.1 hu hp a.2.2.2.1 hm b a.2.2.1 c,a.2.2.2.2⟩};.exact a.elim};{rename_i e sz xs hf;exact⟨_,_,_,anu d hy hf a.1 a.2.1 hu hm b a.2.2.1 c,a.2.2.2⟩};.exact a.elim};.exact a.elim};.exact h.elim
def ip(P:Program)(t:TypeId)(f:Nat)(σ:ASt)(u:PV)(K:KT):Prop:=
 match fo P t f with
 |some off=>match u with
  | .ptr n k=>K (.ptr n (k+off)) [] []
  | .el cs=>K (.el (cs.drop off)) [] []
  | .oel n k i o1=>match ai σ n with
   |some (.arr _ _ _ xs)=>k=xs.length/\i<k/\K (.oel n k i (o1+off)) [] [n]
   |some (.arh _ _ xs)=>k=xs.length/\i<k/\K (.oel n k i (o1+off)) [] [n]
   |_=>False
  |_=>False
 |none=>False
theorem yz{P:Program}{o:Oper}{ρ:Operand->PV}{σ:ASt}{t:TypeId}{f:Nat}{y:Operand}(c:o.op= .fieldAddr t y f){K:KT}(h:ip P t f σ (ρ y) K): ∃u δ F,LOp P o ρ σ u δ F/\K u δ F:=by unfold ip at h;split at h;{rename_i off hf;obtain⟨d,m,a,b⟩:=boy hf;split at h;{rename_i n k hy;exact⟨_,_,_,yv c hy a b,h⟩};{rename_i cs hy;exact⟨_,_,_,z8 c hy a b,h⟩};{rename_i n k i o1 hy;split at h;{rename_i e sz sh xs hB;exact⟨_,_,_,o9 c hy hB rfl h.1 h.2.1 a b,h.2.2⟩};{rename_i e sz xs hB;exact⟨_,_,_,o9 c hy hB rfl h.1 h.2.1 a b,h.2.2⟩};.exact h.elim};.exact h.elim};.exact h.elim
def btb(P:Program)(t:TypeId)(f:Nat):Bool:=match bfg P t f with
 |some (_,ft)=>decide (lp P ft=some false)
 |none=>false
def ash(P:Program)(t:TypeId)(f:Nat)(u:PV)(K:KT):Prop:=
 match u,fo P t f with
 | .agg cs,some off=>btb P t f=true/\off<cs.length/\K (cs.getD off .undef) [] []
 |_,_=>False
theorem ahj{P:Program}{o:Oper}{ρ:Operand->PV}{σ:ASt}{t:TypeId}{f:Nat}{y:Operand}(k:o.op= .field t y f){K:KT}(h:ash P t f (ρ y) K): ∃u δ F,LOp P o ρ σ u δ F/\K u δ F:=by unfold ash at h;split at h;{rename_i cs off hy hf;obtain⟨g,p,q⟩:=h;obtain⟨r,m,b,_⟩:=boy hf;refine⟨_,_,_,ar λs hs x a v w A d=> ?_,q⟩;have e:=d y (by simp[k,Op.operands]);rw[hy]at e;obtain⟨j,i,z,l⟩:=e.agg_inv;have n:off<j.size:=Aa;refine⟨j.getD off undef,?_,l off _ (by rw[bd,bq p];rfl)⟩;have c:lp P r=some false:=(by unfold btb at g;rw[b]at g;exact b0g g);unfold bfg at b;split at b;{rename_i fs hu;cases hff:fs[f]? with|none=>rw[hff]at b;cases b|some fd=>rw[hff]at b;simp only[b02,b0c,b0t]at b;obtain⟨rfl,rfl⟩:=b;simp[execOp,k,i,Instr.field,run_underlying hu,hff,part,ka c,n,asAgg]};.cases b};.exact h.elim
def da(P:Program)(t:TypeId)(σ:ASt)(u v:PV)(K:KT):Prop:=
 match v with
 | .int _ i=>match u with
  | .vs xs=>match slT P t with
   |some (_,sz,_)=>0<=i/\i<xs.length/\(xs.getD i.toNat []).length=sz/\K (.el (xs.getD i.toNat [])) [] []
   |none=>False
  | .os n m=>match slT P t,ai σ n with
   |some (_,sz,_),some (.arr _ sz' _ xs)=>sz'=sz/\m=xs.length/\0<=i/\i<xs.length/\K (.oel n m i.toNat 0) [] [n]
   |some (_,sz,_),some (.arh _ sz' xs)=>sz'=sz/\m=xs.length/\0<=i/\i<xs.length/\K (.oel n m i.toNat 0) [] [n]
   |_,_=>False
  | .ptr n m=>match arT P t with
   |some (len,sz)=>0<=i/\i<len/\K (.ptr n (m+i.toNat*sz)) [] []
   |none=>False
  | .osl n m a=>match slT P t,ai σ n with
   |some (_,sz,_),some (.arh _ sz' xs)=>sz'=sz/\m=xs.length/\0<=i/\a+i<xs.length/\K (.oel n m (a+i.toNat) 0) [] [n]
   |_,_=>False
  | .oq n m=>match slT P t,ai σ n with
   |some (_,sz,_),some (.arq _ sz' k' xs)=>(sz'=sz/\m=k'/\0<=i/\i<xs.length)/\K (.oqe n m i.toNat sz 0) [] [n]
   |_,_=>False
  |_=>False
 |_=>False
theorem yb{P:Program}{o:Oper}{ρ:Operand->PV}{σ:ASt}{t:TypeId}{y z:Operand}(k:o.op= .indexAddr t y z){K:KT}(h:da P t σ (ρ y) (ρ z) K): ∃u δ F,LOp P o ρ σ u δ F/\K u δ F:=by unfold da at h;split at h;{rename_i kd i hz;split at h;{rename_i xs hy;split at h;{rename_i e sz b hs;obtain⟨c,d,_⟩:=iv hs;exact⟨_,_,_,an9 k hy hz c d h.1 h.2.1 h.2.2.1,h.2.2.2⟩};.exact h.elim};{rename_i n m hy;split at h;{rename_i e sz b e' sz' sh xs hs hf;obtain⟨c,d,_⟩:=iv hs;obtain⟨rfl,l,g,j,f⟩:=h;exact⟨_,_,_,zf k hy hz hf rfl l c d g j,f⟩};{rename_i e sz b e' sz' xs hs hf;obtain⟨c,d,_⟩:=iv hs;obtain⟨rfl,l,g,j,f⟩:=h;exact⟨_,_,_,zf k hy hz hf rfl l c d g j,f⟩};.exact h.elim};{rename_i n m hy;split at h;{rename_i len sz ha;obtain⟨e,c,d⟩:=bov ha;exact⟨_,_,_,aje k hy hz c d h.1 h.2.1,h.2.2⟩};.exact h.elim};{rename_i n m a hy;split at h;{rename_i e sz b e' sz' xs hs hf;obtain⟨c,d,_⟩:=iv hs;obtain⟨rfl,l,g,j,f⟩:=h;exact⟨_,_,_,aix k hy hz hf rfl l c d g j,f⟩};.exact h.elim};{rename_i n m hy;split at h;{rename_i e sz b e' sz' k' xs hs hf;obtain⟨c,d,_⟩:=iv hs;obtain⟨⟨rfl,rfl,g,j⟩,f⟩:=h;exact⟨_,_,_,ale k hy hz hf c d g j,f⟩};.exact h.elim};.exact h.elim};.exact h.elim
def kc(P:Program)(t len:Nat)(parts:List (Nat×PV))(dst:Option Nat)(σ:ASt)(K:KT):Prop:=
 match slT P t,dst with
 |some (e,sz,_),some d=>match ai σ (900000+d)with
  |none=>match ul σ sz 0 parts with
   |some (xs,ns)=>ai σ d=none/\len=parts.length/\len*sz<=16777216/\K (.os d xs.length) (ej σ ns++[(d,.arr e sz false xs)]) (d::ns)
   |none=>False
  |some (.dead 2 _)=>match aao sz 0 parts with
   |some xs=>ai σ d=none/\len=parts.length/\len*sz<=16777216/\K (.os d xs.length) [(d,.arh e sz xs)] [d]
   |none=>False
  |some _=>match uk σ sz 0 parts with
   |some (xs,ns)=>ai σ d=none/\len=parts.length/\len*sz<=16777216/\K (.os d xs.length) (ej σ ns++[(d,.arr e sz false xs)]) (d::ns)
   |none=>False
 |_,_=>False
def xq(P:Program)(tx sz:Nat)(σ:ASt)(v:PV)(k:List LP->LN->Prop):Prop:=
 match v with
 | .vs ys=>(ay P tx=true/\∀y∈ys,y.length=sz)/\k ys []
 | .nils=>ay P tx=true/\k [] []
 | .sn _=>ay P tx=true/\k [] []
 | .os m n=>match ai σ m with
  |some (.arr _ sz' _ ys)=>(ay P tx=true/\n=ys.length/\sz'=sz)/\k ys [m]
  |_=>False
 | .str l=>(je P tx=true/\sz=1)/\k (cz l) []
 |_=>False
def adv(e sz bytes:Nat)(dst:Option Nat)(σ:ASt)(u:PV)(K:KT)(ys:List LP)(F:LN):Prop:=
 match u with
 | .os n k=>match ai σ n with
  |some (.arr e' sz' sh xs)=>(e'=e/\sz'=sz/\k=xs.length/\(xs.length+ys.length)*bytes<=140737488355328)/\K (.os n (k+ys.length)) [(n,.arr e sz sh (xs++ys))] (n::F)
  |some (.arh e' sz' xs)=>(e'=e/\sz'=sz/\k=xs.length/\(xs.length+ys.length)*bytes<=140737488355328)/\K (.os n (k+ys.length)) [(n,.arh e sz (xs++ys))] (n::F)
  |_=>False
 | .nils=>match dst with
  |some d=>(ai σ d=none/\ys.length*bytes<=140737488355328)/\K (.os d ys.length) [(d,.arr e sz false ys)] (d::F)
  |none=>False
 | .vx xs=>match dst with
  |some d=>(ai σ d=none/\(∀x∈xs,x.length=sz)/\(xs.length+ys.length)*bytes<=140737488355328)/\(ys=[]->K (.vs xs) [] F)/\(0<ys.length->K (.os d (xs.length+ys.length)) [(d,.arr e sz false (xs++ys))] (d::F))
  |none=>False
 |_=>False
def o8(P:Program)(t tx:TypeId)(dst:Option Nat)(σ:ASt)(u v:PV)(K:KT):Prop:=
 match slT P t with
 |some (e,sz,bytes)=>xq P tx sz σ v (adv e sz bytes dst σ u K)
 |none=>False
theorem atr{P:Program}{t d:TypeId}{c:Option Nat}{σ:ASt}{u v:PV}{K:KT}(h:o8 P t d c σ u v K):bob P t d c σ u v K:=by unfold o8 at h;split at h;{rename_i e sz bytes hs;obtain⟨f,i,k,j,g,l⟩:=iv hs;refine⟨e,sz,bytes,f,i,k,j,g,l,?_⟩;unfold xq at h;split at h;{obtain⟨b,a⟩:=h;refine⟨_,[],⟨b.1,rfl,rfl,b.2⟩,?_⟩;unfold adv at a;split at a;{split at a;{rename_i hf;simp only[hf];exact⟨a.1.1,a.1.2.1,a.1.2.2.1,a.1.2.2.2,a.2⟩};{rename_i hf;simp only[hf];exact⟨a.1.1,a.1.2.1,a.1.2.2.1,a.1.2.2.2,a.2⟩};.exact a.elim};{split at a;{exact⟨a.1.1,a.1.2,a.2⟩};.exact a.elim};{split at a;{exact⟨a.1.1,a.1.2.1,a.1.2.2,a.2.1,a.2.2⟩};.exact a.elim};.exact a.elim};{obtain⟨b,a⟩:=h;refine⟨[],[],⟨b,rfl,rfl⟩,?_⟩;unfold adv at a;split at a;{split at a;{rename_i hf;simp only[hf];exact⟨a.1.1,a.1.2.1,a.1.2.2.1,a.1.2.2.2,a.2⟩};{rename_i hf;simp only[hf];exact⟨a.1.1,a.1.2.1,a.1.2.2.1,a.1.2.2.2,a.2⟩};.exact a.elim};{split at a;{exact⟨a.1.1,a.1.2,a.2⟩};.exact a.elim};{split at a;{exact⟨a.1.1,a.1.2.1,a.1.2.2,a.2.1,a.2.2⟩};.exact a.elim};.exact a.elim};{obtain⟨b,a⟩:=h;refine⟨[],[],⟨b,rfl,rfl⟩,?_⟩;unfold adv at a;split at a;{split at a;{rename_i hf;simp only[hf];exact⟨a.1.1,a.1.2.1,a.1.2.2.1,a.1.2.2.2,a.2⟩};{rename_i hf;simp only[hf];exact⟨a.1.1,a.1.2.1,a.1.2.2.1,a.1.2.2.2,a.2⟩};.exact a.elim};{split at a;{exact⟨a.1.1,a.1.2,a.2⟩};.exact a.elim};{split at a;{exact⟨a.1.1,a.1.2.1,a.1.2.2,a.2.1,a.2.2⟩};.exact a.elim};.exact a.elim};{split at h;{rename_i e' sz' sh ys hf;obtain⟨b,a⟩:=h;refine⟨ys,_,⟨b.1,?_,rfl⟩,?_⟩;{rw[hf];exact⟨rfl,b.2.1,b.2.2⟩};.unfold adv at a;split at a;{split at a;{rename_i hf;simp only[hf];exact⟨a.1.1,a.1.2.1,a.1.2.2.1,a.1.2.2.2,a.2⟩};{rename_i hf;simp only[hf];exact⟨a.1.1,a.1.2.1,a.1.2.2.1,a.1.2.2.2,a.2⟩};.exact a.elim};{split at a;{exact⟨a.1.1,a.1.2,a.2⟩};.exact a.elim};{split at a;{exact⟨a.1.1,a.1.2.1,a.1.2.2,a.2.1,a.2.2⟩};.exact a.elim};.exact a.elim};.exact h.elim};{obtain⟨b,a⟩:=h;refine⟨_,[],⟨b.1,rfl,rfl,b.2⟩,?_⟩;unfold adv at a;split at a;{split at a;{rename_i hf;simp only[hf];exact⟨a.1.1,a.1.2.1,a.1.2.2.1,a.1.2.2.2,a.2⟩};{rename_i hf;simp only[hf];exact⟨a.1.1,a.1.2.1,a.1.2.2.1,a.1.2.2.2,a.2⟩};.exact a.elim};{split at a;{exact⟨a.1.1,a.1.2,a.2⟩};.exact a.elim};{split at a;{exact⟨a.1.1,a.1.2.1,a.1.2.2,a.2.1,a.2.2⟩};.exact a.elim};.exact a.elim};.exact h.elim};.exact h.elim
def gx(P:Program)(t:TypeId)(σ:ASt)(u:PV)(lo hi mx:Option PV)(K:KT):Prop:=
 match loN lo with
 |some l=>match u with
  | .vs xs=>match slT P t,hiN xs.length hi,hiN xs.length mx with
   |some (_,sz,_),some h,some m=>(0<=l/\l<=h/\h<=m/\m<=xs.length/\(mx.isSome=true->hi.isSome=true))/\(0<l->∀x∈xs,x.length=sz)/\K (.vs ((xs.take h.toNat).drop l.toNat)) [] []
   |_,_,_=>False
  | .nils=>match slT P t,hiN 0 hi,hiN 0 mx with
   |some _,some h,some m=>(0<=l/\l<=h/\h<=m/\m<=0/\(mx.isSome=true->hi.isSome=true))/\K (.vs []) [] []
   |_,_,_=>False
  | .os n k=>match ai σ n with
   |some (.arr _ asz _ xs)=>match slT P t,hiN xs.length hi,hiN xs.length mx with
    |some (_,sz,_),some h,some m=>(asz=sz/\k=xs.length/\0<=l/\l<=h/\h<=m/\m<=xs.length/\(mx.isSome=true->hi.isSome=true))/\K (.vs ((xs.take h.toNat).drop l.toNat)) (ej σ [n]) [n]
    |_,_,_=>False
   |_=>False
  | .str s=>match hiN s.length hi with
   |some h=>(je P t=true/\mx=none/\0<=l/\l<=h/\h<=s.length)/\K (.str ((s.take h.toNat).drop l.toNat)) [] []
   |none=>False
  |_=>False
 |none=>False
theorem afp{P:Program}{t:TypeId}{σ:ASt}{u:PV}{lo hi mx:Option PV}{K:KT}(h:gx P t σ u lo hi mx K):a04 P t σ u lo hi mx K:=by unfold gx at h;split at h;{rename_i l hl;refine⟨l,hl,?_⟩;split at h;{split at h;{rename_i e n b hh m h1 h2 h3;obtain⟨j,o,_⟩:=iv h1;obtain⟨⟨d,f,a,i,k⟩,r,c⟩:=h;exact⟨e,n,hh,m,j,o,h2,h3,d,f,a,i,k,r,c⟩};.exact h.elim};{split at h;{rename_i p hh m h1 h2 h3;obtain⟨e,n,b⟩:=p;obtain⟨j,o,_⟩:=iv h1;obtain⟨⟨d,f,a,i,k⟩,c⟩:=h;exact⟨e,n,hh,m,j,o,h2,h3,d,f,a,i,k,c⟩};.exact h.elim};{split at h;{rename_i e' asz sh xs hf;simp only;rw[hf];split at h;{rename_i e n b hh m h1 h2 h3;obtain⟨j,o,_⟩:=iv h1;obtain⟨⟨q,g,d,f,a,i,k⟩,c⟩:=h;exact⟨e,n,hh,m,j,o,q,h2,h3,g,d,f,a,i,k,c⟩};.exact h.elim};.exact h.elim};{split at h;{rename_i hh h2;obtain⟨⟨q,g,d,f,a⟩,c⟩:=h;exact⟨hh,h2,q,g,d,f,a,c⟩};.exact h.elim};.exact h.elim};.exact h.elim
def amc(P:Program)(t:TypeId)(σ:ASt)(n k e asz:Nat)(xs:List LP)(lo hi mx:Option PV)(K:KT):Prop:=
 match slT P t,lo,hi,mx with
 |some (_,sz,_),some (.int _ i),none,none=>asz=sz/\k=xs.length/\0<=i/\i<k/\K (.osl n k i.toNat) [] [n]
 |some (_,sz,_),none,some (.int _ i),none=>(asz=sz/\k=xs.length/\0<=i/\i<=k)/\l7 σ xs=some (xs,[])/\K (.vs (xs.take i.toNat)) [(n,.arr e asz true xs)] [n]
 |_,_,_,_=>False
def bjw(P:Program)(t:TypeId)(σ:ASt)(u:PV)(lo hi:Option PV)(m:PV)(K:KT):Prop:=
 match lo,hi,m,slT P t with
 |none,some (.int _ i),.int _ j,some (_,sz,_)=>match u with
  | .vs xs=>(i=j/\0<=i/\i<=xs.length)/\K (.vx (xs.take i.toNat)) [] []
  | .os n k=>match ai σ n with
   |some (.arr _ asz _ xs)=>(i=j/\0<=i/\i<=xs.length/\k=xs.length/\asz=sz)/\K (.vx (xs.take i.toNat)) (ej σ [n]) [n]
   |_=>False
  |_=>False
 |_,_,_,_=>False
def alm(P:Program)(t:TypeId)(n k asz:Nat)(xs:List LP)(lo hi:Option PV)(K:KT):Prop:=
 match slT P t,lo,hi with
 |some (_,sz,_),some (.int _ i),none=>(asz=sz/\k=xs.length/\0<=i/\i<k)/\K (.oss n k i.toNat (k - i.toNat)) [] [n]
 |some (_,sz,_),none,some (.int _ i)=>(asz=sz/\k=xs.length/\0<i/\i<=k)/\K (.oss n k 0 i.toNat) [] [n]
 |_,_,_=>False
def bq0(n k:Nat)(ys:List LP)(K:KT):Option (Nat×Nat×Nat)->Option (Nat×Nat×Nat)->Option Box->Prop
 |some (_,1,_),some _,some (.arr e 1 false xs)=>((0<k/\k=xs.length)/\(∀y∈ys,y.length=1))/\K (.int .i64 ((min ys.length k:Nat):Int)) [(n,.arr e 1 false (ys.take (min ys.length k)++xs.drop (min ys.length k)))] [n]
 |_,_,_=>False
def bqx(n k i m n' k' j m':Nat)(K:KT):Option (Nat×Nat×Nat)->Option (Nat×Nat×Nat)->Option Box->Prop
 |some (_,1,_),some _,some (.arh e 1 xs)=>(n'=n/\k'=k/\k=xs.length/\i+m<=k/\j+m'<=k/\i<k/\j<k)/\K (.int .i64 ((min m' m:Nat):Int)) [(n,.arh e 1 (xs.take i++((xs.drop j).take (min m' m)++xs.drop (i+min m' m))))] [n]
 |_,_,_=>False
def agv(P:Program)(t tx:TypeId)(σ:ASt)(u v:PV)(K:KT):Prop:=
 match u,v with
 | .os n k,.vs ys=>bq0 n k ys K (slT P t) (slT P tx) (ai σ n)
 | .oss n k i m,.oss n' k' j m'=>bqx n k i m n' k' j m' K (slT P t) (slT P tx) (ai σ n)
 |_,_=>False
def bi9(P:Program)(t:TypeId)(σ:ASt)(n k:Nat)(lo hi:Option PV)(K:KT):Prop:=
 match slT P t,ai σ n,lo,hi with
 |some (_,sz,_),some (.arq e asz k' xs),some (.int _ i),none=>(asz=sz/\k=k'/\0<=i/\i<=xs.length)/\K (.oq n (k+1)) [(n,.arq e asz (k+1) (xs.drop i.toNat))] [n]
 |_,_,_,_=>False
def jc(P:Program)(t:TypeId)(σ:ASt)(u:PV)(lo hi mx:Option PV)(K:KT):Prop:=
 match mx with
 |some m=>bjw P t σ u lo hi m K
 |none=>match u with
  | .os n k=>match ai σ n with
   |some (.arh e asz xs)=>match ai σ (900000+n)with
    |none=>amc P t σ n k e asz xs lo hi none K
    |some _=>alm P t n k asz xs lo hi K
   |_=>gx P t σ (.os n k) lo hi none K
  | .oq n k=>bi9 P t σ n k lo hi K
  |u=>gx P t σ u lo hi none K
theorem ik{α β:Type}{f:α->β}{o:Option α}{b:β}(h:o.map f=some b): ∃a,o=some a/\f a=b:=by cases o with|none=>cases h|some a=>exact⟨a,rfl,An⟩
theorem dz{α β:Type}{f:α->β}{o:Option α}(h:o.map f=none):o=none:=by cases o with|none=>rfl|some a=>cases h
theorem ae6{P:Program}{o:Oper}{ρ:Operand->PV}{σ:ASt}{t:TypeId}{y:Operand}{lo hi mx:Option Operand}(p:o.op= .slice t y lo hi mx){K:KT}(h:jc P t σ (ρ y) (lo.map ρ) (hi.map ρ) (mx.map ρ) K):
  ∃u δ F,LOp P o ρ σ u δ F/\K u δ F:=by unfold jc at h;split at h;{rename_i m c;obtain⟨w,rfl,rfl⟩:=ik c;unfold bjw at h;split at h;{rename_i h1 h2 hm0 h4;obtain rfl:=dz h1;obtain⟨z,rfl,j⟩:=ik h2;obtain⟨f,g,_⟩:=iv h4;split at h;{rename_i xs hy;obtain⟨⟨rfl,a,d⟩,r⟩:=h;exact⟨_,_,_,aks p hy j hm0 f g a d,r⟩};{rename_i n k hy;split at h;{rename_i e' asz sh xs hf;obtain⟨⟨rfl,a,d,v,rfl⟩,r⟩:=h;exact⟨_,_,_,aiu p hy hf v j hm0 f g a d,r⟩};.exact h.elim};.exact h.elim};.exact h.elim};rename_i c;rw[<-c]at h;split at h;{rename_i n k hy;split at h;{rename_i e asz xs hf;split at h;rotate_left;{unfold alm at h;split at h;{rename_i e' sz b kd i h1 h2 h3;obtain⟨z,rfl,j⟩:=ik h2;obtain rfl:=dz h3;obtain rfl:=dz c;obtain⟨a,d,_⟩:=iv h1;obtain⟨⟨rfl,f,g,l⟩,q⟩:=h;exact⟨_,_,_,ail p hy j hf f a d g l,q⟩};{rename_i e' sz b kd i h1 h2 h3;obtain⟨z,rfl,j⟩:=ik h3;obtain rfl:=dz h2;obtain rfl:=dz c;obtain⟨a,d,_⟩:=iv h1;obtain⟨⟨rfl,f,g,l⟩,q⟩:=h;exact⟨_,_,_,ah2 p hy j hf f a d g l,q⟩};.exact h.elim};unfold amc at h;split at h;{rename_i e' sz b kd i h1 h2 h3 h4;obtain⟨z,rfl,j⟩:=ik h2;obtain rfl:=dz h3;obtain rfl:=dz h4;obtain⟨a,d,_⟩:=iv h1;obtain⟨rfl,f,g,l,q⟩:=h;exact⟨_,_,_,an4 p hy j hf f a d g l,q⟩};{rename_i e' sz b kd i h1 h2 h3 h4;obtain⟨z,rfl,j⟩:=ik h3;obtain rfl:=dz h2;obtain rfl:=dz h4;obtain⟨a,d,_⟩:=iv h1;obtain⟨⟨rfl,f,g,l⟩,q,s⟩:=h;exact⟨_,_,_,ag1 p hy j hf f a d g l q,s⟩};.exact h.elim};.rw[<-hy]at h;exact xa p (afp h)};{rename_i n k hy;unfold bi9 at h;split at h;{rename_i e' sz b e asz k' xs kd i h1 hf h2 h3;obtain⟨z,rfl,j⟩:=ik h2;obtain rfl:=dz h3;obtain rfl:=dz c;obtain⟨a,d,_⟩:=iv h1;obtain⟨⟨rfl,rfl,f,g⟩,l⟩:=h;exact⟨_,_,_,am9 p hy j hf a d f g,l⟩};.exact h.elim};.exact xa p (afp h)
def yg(P:Program)(t:TypeId)(dst:Option Nat)(σ:ASt)(u v:PV)(K:KT):Prop:=
 match u,v,dst,slT P t with
 | .int _ l,.int _ c,some d,some (e,sz,bytes)=>match az P e with
  |some zs=>(zs.all fy=true/\0<=l/\l<=c/\(bytes:Int)*c<=140737488355328/\c<=140737488355328/\ai σ d=none)/\K (.os d l.toNat) [(d,.arr e sz false (List.replicate l.toNat (zs.map (aeu (ai σ (900000+d))))))] [d]
  |none=>False
 |_,_,_,_=>False
theorem a3q{P:Program}{t:TypeId}{a:Option Nat}{σ:ASt}{u v:PV}{K:KT}(h:yg P t a σ u v K):a40 P t a σ u v K:=by unfold yg at h;split at h;{rename_i k1 l k2 c d e sz bytes hs;obtain⟨j,k,n,⟨w,b,f⟩,m,x⟩:=iv hs;split at h;{rename_i zs hz;rw[hz]at b;have b:=b3v b;subst b;obtain⟨⟨r,q,i,p,s,g⟩,o⟩:=h;exact⟨e,sz,zs,bytes,j,k,n,hz,f,r,m,q,i,p,s,g,o⟩};.exact h.elim};.exact h.elim
def bga(P:Program)(t:TypeId)(σ:ASt)(n:Nat)(K:KT):Prop:=
 match ai σ n,aon P t with
 |some (.mp es),some _=>K (.int .i64 es.length) [] [n]
 |_,_=>False
def r7(P:Program)(t:TypeId)(σ:ASt)(x:PV)(K:KT):Prop:=
 match x with
 | .mh n=>bga P t σ n K
 |x=>xu P t σ x K
theorem anf{P:Program}{o:Oper}{ρ:Operand->PV}{σ:ASt}{t:TypeId}{y:Operand}(a:o.op= .call {callee:= .builtin .len,args:= #[y],argTypes:= #[t]}){K:KT}(h:r7 P t σ (ρ y) K):
  ∃u δ F,LOp P o ρ σ u δ F/\K u δ F:=by unfold r7 at h;split at h;{rename_i n hy;unfold bga at h;split at h;{rename_i es q hf hm;obtain⟨k,d,e⟩:=q;exact⟨_,_,_,azk a hy hf hm,h⟩};.exact h.elim};.exact ap5 a h
def afq(P:Program)(t:TypeId)(ok:Bool)(σ:ASt)(u q:PV)(K:KT):Prop:=
 match u with
 | .mh n=>match ai σ n,aon P t with
  |some (.mp es),some (_,dk,e)=>match p8 q es 0,aww P e with
   |some r,some z=>qw dk q=true/\K (bkb es z ok r) [] [n]
   |_,_=>False
  |_,_=>False
 |_=>False
theorem akq{P:Program}{o:Oper}{ρ:Operand->PV}{σ:ASt}{t:TypeId}{y q:Operand}{a:Bool}(b:o.op= .lookup t y q a){K:KT}(h:afq P t a σ (ρ y) (ρ q) K): ∃u δ F,LOp P o ρ σ u δ F/\K u δ F:=by unfold afq at h;split at h;{rename_i n hy;split at h;{rename_i es k dk e hf hm;split at h;{rename_i r z hr hz;exact⟨_,_,_,awp b hy hf hm h.1 hr hz,h.2⟩};.exact h.elim};.exact h.elim};.exact h.elim
def ap0(P:Program)(t:TypeId)(σ:ASt)(u q v:PV)(K:KT):Prop:=
 match u with
 | .mh n=>match ai σ n,aon P t with
  |some (.mp es),some (_,dk,_)=>match p8 q es 0 with
   |some r=>qw dk q=true/\K .undef [(n,.mp (avr es q v r))] [n]
   |_=>False
  |_,_=>False
 |_=>False
theorem adj{P:Program}{o:Oper}{ρ:Operand->PV}{σ:ASt}{t:TypeId}{y q z:Operand}(a:o.op= .mapUpdate t y q z\/o.op= .insert t y q z){K:KT}(h:ap0 P t σ (ρ y) (ρ q) (ρ z) K): ∃u δ F,LOp P o ρ σ u δ F/\K u δ F:=by unfold ap0 at h;split at h;{rename_i n hy;split at h;{rename_i es k dk e hf hm;split at h;{rename_i r hr;exact⟨_,_,_,aim a hy hf hm h.1 hr,h.2⟩};.exact h.elim};.exact h.elim};.exact h.elim
def a2z(P:Program)(t:TypeId)(dst:Option Nat)(σ:ASt)(u:PV)(K:KT):Prop:=
 match u,dst with
 | .mh n,some d=>match ai σ n,aon P t with
  |some (.mp es),some _=>ai σ d=none/\K (.mh d) [(d,.it n es.length [])] [d,n]
  |_,_=>False
 | .str l,some d=>je P t=true/\ai σ d=none/\K (.mh d) [(d,.si l 0)] [d]
 |_,_=>False
theorem ao8{P:Program}{o:Oper}{ρ:Operand->PV}{σ:ASt}{t:TypeId}{y:Operand}(a:o.op= .range t y){K:KT}(h:a2z P t o.dst σ (ρ y) K): ∃u δ F,LOp P o ρ σ u δ F/\K u δ F:=by unfold a2z at h;split at h;{rename_i n d hy hd;split at h;{rename_i es q hf hm;obtain⟨k,b,e⟩:=q;exact⟨_,_,_,a7g a hy hf hm h.1,h.2⟩};.exact h.elim};{rename_i l d hy hd;exact⟨_,_,_,ayu a hy (jd h.1) h.2.1,h.2.2⟩};.exact h.elim
def bkv(σ:ASt)(u:PV)(K:KT):Prop:=
 match u with
 | .mh d=>match ai σ d with
  |some (.it m k done)=>match ai σ m with
   |some (.mp es)=> ∃l i,done=l++[i]/\k=es.length/\i<k/\K (.tup [(es.getD i (.undef,.undef)).1,(es.getD i (.undef,.undef)).2]) [] [d,m]
   |_=>False
  |_=>False
 |_=>False
theorem aqx{P:Program}{o:Oper}{ρ:Operand->PV}{σ:ASt}{y:Operand}(e:o.op= .entry y){K:KT}(h:bkv σ (ρ y) K): ∃u δ F,LOp P o ρ σ u δ F/\K u δ F:=by unfold bkv at h;split at h;{rename_i d hy;split at h;{rename_i m k done hd;split at h;{rename_i es hm;obtain⟨l,i,rfl,a,c,b⟩:=h;exact⟨_,_,_,a2e e hy hd hm a c,b⟩};.exact h.elim};.exact h.elim};.exact h.elim
def gy:Op->Bool
 | .next _ s=> !s
 |_=>false
def awk(P:Program)(t:TypeId)(σ:ASt)(x:PV)(K:KT):Prop:=
 match x with
 | .osl n k i=>match slT P t,ai σ n with
  |some (e',sz,_),some (.arh e asz xs)=>match az P e' with
   |some zs=>(asz=sz/\k=xs.length/\i<k/\zs.all fy=true)/\K (.tup []) [(n,.arh e asz (xs.take i++List.replicate (k - i) (zs.map aap)))] [n]
   |none=>False
  |_,_=>False
 |_=>False
theorem apf{P:Program}{o:Oper}{ρ:Operand->PV}{σ:ASt}{t:TypeId}{y:Operand}(f:o.op= .call {callee:= .builtin .clear,args:= #[y],argTypes:= #[t]}){K:KT}(h:awk P t σ (ρ y) K):
  ∃u δ F,LOp P o ρ σ u δ F/\K u δ F:=by unfold awk at h;split at h;{rename_i n k i hy;split at h;{rename_i e' sz b e asz xs hs hf;split at h;{rename_i zs hz;obtain⟨j,q,_,⟨p,a,c⟩,_⟩:=iv hs;rw[hz]at a;cases a;obtain⟨⟨rfl,m,l,d⟩,g⟩:=h;exact⟨_,_,_,a8b f hy hf m l j hz c d,g⟩};.exact h.elim};.exact h.elim};.exact h.elim
def afr(e sz bytes:Nat)(σ:ASt)(n k:Nat)(K:KT)(ys:List LP)(F:LN):Prop:=
 match ai σ n with
 |some (.arq e' sz' k' xs)=>(e'=e/\sz'=sz/\k=k'/\(xs.length+ys.length)*bytes<=140737488355328)/\K (.oq n (k+1)) [(n,.arq e sz (k+1) (xs++ys))] (n::F)
 |_=>False
def ava(P:Program)(t tx:TypeId)(σ:ASt)(n k:Nat)(v:PV)(K:KT):Prop:=
 match slT P t with
 |some (e,sz,bytes)=>xq P tx sz σ v (afr e sz bytes σ n k K)
 |none=>False
def a91(P:Program)(t tx:TypeId)(dst:Option Nat)(σ:ASt)(n k m j:Nat)(K:KT):Option Box->Prop
 |some (.arh _ _ ys)=>match slT P t,ai σ n with
  |some (e,sz,bytes),some (.arh e' sz' xs)=>match ay P tx,ai σ m with
   |true,some (.arh _ sz2 _)=>(e'=e/\sz'=sz/\sz2=sz/\k=xs.length/\j=ys.length/\(xs.length+ys.length)*bytes<=140737488355328)/\K (.os n (k+ys.length)) [(n,.arh e sz (xs++ys))] [n,m]
   |_,_=>False
  |_,_=>False
 |_=>o8 P t tx dst σ (.os n k) (.os m j) K
def qe(P:Program)(t tx:TypeId)(dst:Option Nat)(σ:ASt)(u v:PV)(K:KT):Prop:=
 match u,v with
 | .oq n k,v=>ava P t tx σ n k v K
 | .os n k,.os m j=>a91 P t tx dst σ n k m j K (ai σ m)
 |u,v=>o8 P t tx dst σ u v K
theorem ake{P:Program}{o:Oper}{ρ:Operand->PV}{σ:ASt}{t i:TypeId}{y z:Operand}{n k:Nat}(D:o.op= .call {callee:= .builtin .append,args:= #[y,z],argTypes:= #[t,i]})(M:ρ y= .oq n k){K:KT}(h:ava P t i σ n k (ρ z) K):
  ∃u δ F,LOp P o ρ σ u δ F/\K u δ F:=by
 unfold ava at h;split at h
 .rename_i e sz bytes hs;obtain⟨B,H,J,I,G,N⟩:=iv hs
  have fin: ∀r F,(ay P i=true\/je P i=true)->(∀(s:St),(∀m∈F,s m=ai σ m)->∀(x:Ctx P) f w v,SimW x s f w->RV (env x s f w) v (ρ z)->aam P (env x s f w) w sz v r)->afr e sz bytes σ n k K r F->∃u δ F,LOp P o ρ σ u δ F/\K u δ F:=λr F q d j=>by unfold afr at j;split at j;{rename_i e' sz' k' xs hf;obtain⟨⟨rfl,rfl,rfl,C⟩,L⟩:=j;exact⟨_,_,_,aid D ⟨B,H,J,I,G,N,q⟩ M hf C d,L⟩};.exact j.elim
  unfold xq at h;split at h
  .rename_i ys' d;exact fin _ _ (.inl h.1.1) (λs hs x f w v g a=>va (by rw[d]at a;exact a.vs_inv) h.1.2) h.2
  .rename_i d;exact fin _ _ (.inl h.1) (λs hs x f w v g a=>by rw[d]at a;rw[a.nils_inv];exact ag0) h.2
  .rename_i b d
   exact fin _ _ (.inl h.1) (λs hs x f w v g a=>va (by
    rw[d]at a
    cases a with
    |pure hq=>cases hq with
     |sn b c _=>exact .vs (sz:=0) (λ_ _=>undef) rfl (b0k _) Ad Ad Ad Ad) Ad) h.2
  .rename_i m A d;split at h;{rename_i e' sz' sh' ys' hf;obtain⟨⟨p,O,rfl⟩,E⟩:=h;exact fin _ _ (.inl p) (λs hs x f w v g a=>au5 g ((hs m Ad).trans hf) O (by rw[d]at a;exact a)) E};.exact h.elim
  .rename_i l d;obtain⟨⟨p,rfl⟩,A⟩:=h;exact fin _ _ (.inr p) (λs hs x f w v g a=>by rw[d]at a;rw[a.str_inv];exact ama) A
  .exact h.elim
 .exact h.elim
theorem alp{P:Program}{o:Oper}{ρ:Operand->PV}{σ:ASt}{t c:TypeId}{y z:Operand}(b:o.op= .call {callee:= .builtin .append,args:= #[y,z],argTypes:= #[t,c]}){K:KT}(h:qe P t c o.dst σ (ρ y) (ρ z) K):
  ∃u δ F,LOp P o ρ σ u δ F/\K u δ F:=by unfold qe at h;split at h;{rename_i n k hy;exact ake b hy h};{rename_i n k m j hy hz;have a:o8 P t c o.dst σ (.os n k) (.os m j) K->∃u δ F,LOp P o ρ σ u δ F/\K u δ F:=λh=>acx b (atr (by rw[hy,hz];exact h));unfold a91 at h;split at h;{rename_i e0 s0 ys hm;split at h;{rename_i e sz bytes e' sz' xs hs hn;split at h;{rename_i e2 sz2 ys2 hx hm2;rw[hm]at hm2;cases hm2;obtain⟨f,i,p,l,g,v⟩:=iv hs;obtain⟨⟨rfl,rfl,rfl,s,r,d⟩,q⟩:=h;exact⟨_,_,_,aiw b ⟨f,i,p,l,g,v,.inl hx⟩ hy hn s d hz hm r,q⟩};.exact h.elim};.exact h.elim};.exact a h};.exact acx b (atr h)
theorem akc{P:Program}{o:Oper}{ρ:Operand->PV}{σ:ASt}{t l:TypeId}{y z:Operand}(q:o.op= .call {callee:= .builtin .copy,args:= #[y,z],argTypes:= #[t,l]}){K:KT}(h:agv P t l σ (ρ y) (ρ z) K):
  ∃u δ F,LOp P o ρ σ u δ F/\K u δ F:=by unfold agv at h;split at h;{rename_i n k ys hy hz;unfold bq0 at h;split at h;{rename_i e' b p e xs h1 h2 hf;obtain⟨c,d,_⟩:=iv h1;obtain⟨⟨g,f⟩,a⟩:=h;exact⟨_,_,_,ao4 q hy hz hf g f c d,a⟩};.exact h.elim};{rename_i n k i m n' k' j m' hy hz;unfold bqx at h;split at h;{rename_i e' b p e xs h1 h2 hf;obtain⟨c,d,_⟩:=iv h1;obtain⟨⟨rfl,rfl,g,f,a,s,v⟩,r⟩:=h;exact⟨_,_,_,amd q hy hz hf g f a s v c d,r⟩};.exact h.elim};.exact h.elim
def bq4(P:Program)(b:Builtin)(us:LP)(ts:List TypeId)(dst:Option Nat)(σ:ASt)(K:KT):Prop:=
 match b with
 | .len=>match us,ts with
  |[x],[t]=>r7 P t σ x K
  |_,_=>False
 | .append=>match us,ts with
  |[x,y],[t,tx]=>qe P t tx dst σ x y K
  |_,_=>False
 | .copy=>match us,ts with
  |[x,y],[t,tx]=>agv P t tx σ x y K
  |_,_=>False
 | .min=>match us with
  |[x,y]=>bg2 false x y K
  |_=>False
 | .max=>match us with
  |[x,y]=>bg2 true x y K
  |_=>False
 | .clear=>match us,ts with
  |[x],[t]=>awk P t σ x K
  |_,_=>False
 |_=>False
theorem bpw{α β:Type}{a:Array α}{f:α->β}{x:β}(h:a.toList.map f=[x]): ∃y,a= #[y]/\f y=x:=by obtain⟨l⟩:=a;match l,h with|[y],h=>exact⟨y,rfl,An⟩
theorem bc5{α β:Type}{a:Array α}{f:α->β}{x y:β}(h:a.toList.map f=[x,y]): ∃u v,a= #[u,v]/\f u=x/\f v=y:=by obtain⟨l⟩:=a;match l,h with|[u,v],h=>exact⟨u,v,rfl,An⟩
theorem axo{P:Program}{o:Oper}{ρ:Operand->PV}{σ:ASt}{b:Builtin}{c:Array Operand}{ts:Array TypeId}(a:o.op= .call {callee:= .builtin b,args:=c,argTypes:=ts}){K:KT}
  (h:bq4 P b (c.toList.map ρ) ts.toList o.dst σ K): ∃u δ F,LOp P o ρ σ u δ F/\K u δ F:=by unfold bq4 at h;split at h;{split at h;{rename_i x t hy ht;obtain⟨y,rfl,rfl⟩:=bpw hy;have:ts= #[t]:=C0;subst this;exact anf a h};.exact h.elim};{split at h;{rename_i x y t tx hy ht;obtain⟨u,v,rfl,rfl,rfl⟩:=bc5 hy;have:ts= #[t,tx]:=C0;subst this;exact alp a h};.exact h.elim};{split at h;{rename_i x y t tx hy ht;obtain⟨u,v,rfl,rfl,rfl⟩:=bc5 hy;have:ts= #[t,tx]:=C0;subst this;exact akc a h};.exact h.elim};{split at h;{rename_i x y hy;obtain⟨u,v,rfl,rfl,rfl⟩:=bc5 hy;exact agd (mx:=false) a h};.exact h.elim};{split at h;{rename_i x y hy;obtain⟨u,v,rfl,rfl,rfl⟩:=bc5 hy;exact agd (mx:=true) a h};.exact h.elim};{split at h;{rename_i x t hy ht;obtain⟨y,rfl,rfl⟩:=bpw hy;have:ts= #[t]:=C0;subst this;exact apf a h};.exact h.elim};.exact h.elim
def bkl(fn:Fn)(first:List Operand)(us:LP)(K:KT):Prop:=
 match fn,first with
 | .func f,[]=>K (.fn f us) [] []
 |_,_=>False
def ifT(P:Program)(t:TypeId):Bool:=match P.underlying t with
 |some (.interface _)=>false
 |some _=>true
 |none=>false
def blh(P:Program)(t:TypeId)(σ:ASt)(v:PV)(K:KT):Prop:=
 ifT P t=true/\match v with
 | .agg cs=>match lg σ cs with
  |some (us,[])=>K (.ifc t (.agg us)) [] []
  |_=>False
 |v=>match pur σ v with
  |some (u,[])=>K (.ifc t u) [] []
  |_=>False
theorem aga(s:St):a8 s []=s:=by funext m;simp[a8]
theorem apg{P:Program}{o:Oper}{ρ:Operand->PV}{σ:ASt}{t:TypeId}{y:Operand}(l:o.op= .makeInterface t y){K:KT}(h:blh P t σ (ρ y) K): ∃u δ F,LOp P o ρ σ u δ F/\K u δ F:=by
 obtain⟨c,h⟩:=h
 have j: ∀(v:Value) (w:World),(Instr.makeInterface t v).run P w= .ok (.iface t v) w:=λv w=>by
  unfold ifT at c
  cases hd:P.underlying t with
  |none=>rw[hd]at c;cases c
  |some d=>
   rw[hd]at c
   cases d<;>first
    |(cases c;done)
    |simp[Instr.makeInterface,run_underlying hd]
 have n: ∀u,(∀(s:St) (x:Ctx P) (e:Nat->Value) (w:World),SimW x s e w->∀v,RV (env x s e w) v (ρ y)->RP (env x s e w).pc v u)->LOp P o ρ σ (.ifc t u) [] []:=λu k=>
  ar λs hs x a e w g f=>⟨.iface t (a.eval y),by simp[execOp,l,j],.pure (.ifc t (k s x e w g _ (f y (by simp[l,Op.operands]))))⟩
 split at h
 .rename_i cs hcs;split at h;{rename_i us hp;refine⟨_,_,_,n _ λs x e w g v b=> ?_,h⟩;rw[hcs]at b;obtain⟨r,rfl,z,p⟩:=b.agg_inv;obtain⟨q,m⟩:=ew (ns:=[]) g Ad hp Ad;rw[aga]at m;refine .agg Aa λi u k=> ?_;have c:i<cs.length:=(by have:=(dm.1 k).1;omega);exact m i _ u (bq c) k _ (p i _ (bq c))};.exact h.elim
 .split at h;{rename_i u hp;refine⟨_,_,_,n _ λs x e w g v b=> ?_,h⟩;have:=f9 (ns:=[]) g Ad hp Ad b;rwa [aga]at this};.exact h.elim
def bl3(P:Program)(t:TypeId)(name:String):Option FuncId:=match P.info? t with
 |some ti=>match ti.methods.find? (·.name==name)with
  |some m=>match m.path.toList,m.func,P.underlying t with
   |[],some (_,_),some (.pointer _)=>none
   |[],some (f,false),some _=>some f
   |_,_,_=>none
  |none=>none
 |none=>none
theorem aym{P:Program}{t:TypeId}{a:String}{f:FuncId}(h:bl3 P t a=some f)(n:Nat)(v:Value)(w:World):(method (n+1) t v a).run P w= .ok (f,v) w:=by
 unfold bl3 at h;split at h
 .rename_i ti hti;split at h
  .rename_i m hm;split at h
   .cases h
   .rename_i d hne hp hf hd
    cases h
    have c: ∀b,(receiverAt t (.val v) false b).run P w= .ok v w:=λb=>by
     unfold receiverAt;rw[b0v,run_underlying hd]
     cases d<;>first
      |(exact absurd rfl (hne _))
      |simp[Place.get]
    simp[method,typeInfo,hti,hm,hp,follow,hf,c]
   .cases h
  .cases h
 .cases h
def biu(P:Program)(r:PV)(name:String)(us:LP)(dst:Option Nat)(σ:ASt)(K:KT):Prop:=match r with
 | .ifc t u=>match bl3 P t name with
  |some f=>zh P (.fn f []) (u::us) dst σ K
  |none=>False
 |_=>False
theorem art{P:Program}{o:Oper}{ρ:Operand->PV}{σ:ASt}{r:Operand}{m:String}{g:Array Operand}{ts:Array TypeId}(M:o.op= .call {callee:= .invoke r m,args:=g,argTypes:=ts}){K:KT}
  (h:biu P (ρ r) m (g.toList.map ρ) o.dst σ K): ∃u δ F,LOp P o ρ σ u δ F/\K u δ F:=by
 unfold biu at h;split at h
 .rename_i t u0 hr0;split at h
  .rename_i f hf;obtain⟨k,U,R,a0,r',nb,a3,X,T,Z,a2,a1,d,J,D,W,h2,h3,h4,h5,C,h6,h7,Y,h9,_,hK⟩:=h
   cases J
   rw[b00]at W;refine⟨_,_,_,⟨λp j=> ?_,λs hs x a hv w hW l V Q N=> ?_⟩,hK⟩
   .simp only[aak,b0j]at j;rcases j with j|j|j;{obtain⟨n,N,rfl⟩:=b0z.1 j;exact b0j.2 (.inl N)};{obtain⟨n,B⟩:=p;exact b0j.2 (.inr (b0j.2 (.inl (List.of_mem_zip j).1)))};.exact b0j.2 (.inr (b0j.2 (.inr (b0z.2 ⟨p,j,rfl⟩))))
   .have hvr:=l r (by simp[M,Op.operands,Call.operands]);rw[hr0]at hvr
    obtain⟨c,G,O⟩: ∃c,a.eval r= .iface t c/\RP (env x s hv w).pc c u0:=by
     generalize a.eval r=vr at hvr
     cases hvr with
     |pure h=>cases h with
      |ifc _ h=>exact⟨_,rfl,h⟩
    have q:=ami D W h2 h3 h4 h5 C h6 h7 Y h9 hs hW (vals:=c::(g.toList.map a.eval)) Ad (λi v u b z=>by
     cases i with
     |zero=>simp only[b1n,b0c]at b z;subst b z;exact .pure O
     |succ i=>
      simp only[b21]at b z;rw[b0s]at b z
      cases hy:g.toList[i]? with
      |none=>rw[hy]at b;cases b
      |some y=>
       rw[hy]at b z
       cases b
       cases z
       have I:g[i]? =some y:=by simpa using hy
       exact l y (by simp[M,Op.operands,Call.operands];exact .inr (b2b I)))
    unfold Oper.wp
    have E:(execOp a.eval o).run P w= .ok (.enter f (c::(g.toList.map a.eval)).toArray) w:=by have he:=D.enter (c::(g.toList.map a.eval)).toArray w;have S:=aym hf (P.types.size+Made.depth - 1) c w;have A:(#[c]++(#[Value.iface t c]++g.map a.eval).extract 1 (#[Value.iface t c]++g.map a.eval).size)=(c::(g.toList.map a.eval)).toArray:=(by apply b55;simp;exact b14 Ad);have h0:(#[Value.iface t c]++g.map a.eval)[0]? =some (.iface t c):=(by rw[b23 Ad];rfl);have L:P.types.size+Made.depth - 1+1=P.types.size+Made.depth:=(by have:0<Made.depth:=Ar;omega);rw[L]at S;simp only[execOp,M,resolve,b0v,b1r,b0w,invoke,G,h0,callMethod,run_program,S,A];exact he
    rw[E,Oper.upon_enter];refine q.mono λe w'=> ?_;rintro⟨v,H,rfl,k1,k2,k3⟩;exact N v H w' k1 k2 k3
  .exact h.elim
 .exact h.elim
def brm(P:Program)(c:Callee)(ρ:Operand->PV)(us:LP)(ts:List TypeId)(dst:Option Nat)(σ:ASt)(K:KT):Prop:=
 match c with
 | .value f=>zh P (ρ f) us dst σ K
 | .builtin b=>bq4 P b us ts dst σ K
 | .invoke r name=>biu P (ρ r) name us dst σ K
def ael(P:Program)(o:Oper)(ρ:Operand->PV)(σ:ASt)(K:KT):Prop:=
 match o.op with
 | .move x=>K (ρ x) [] []
 | .assign x=>K (ρ x) [] []
 | .pick c a b=>match ρ c with
  | .bool t=>(t=true->K (ρ a) [] [])/\(t=false->K (ρ b) [] [])
  |_=>False
 | .nilCheck x=>match ρ x with
  | .ptr n k=>K (.ptr n k) [] []
  | .el cs=>K (.el cs) [] []
  | .oel n k i off=>K (.oel n k i off) [] []
  |_=>False
 | .extract t i=>match ρ t with
  | .tup us=>i<us.length/\K (us.getD i .undef) [] []
  |_=>False
 | .alloc t=>match az P t,o.dst with
  |some zs,some d=>ai σ d=none/\K (.ptr d 0) [(d,.cells zs)] [d]
  |_,_=>False
 | .box _ x=>match ei (ρ x),o.dst with
  |some us,some d=>ai σ d=none/\K (.ptr d 0) [(d,.cells us)] [d]
  |_,_=>False
 | .build t parts=>match ac9 P t (parts.toList.map λp=>(p.1,ρ p.2))with
  |some cs=>K (.agg cs) [] []
  |none=>False
 | .buildSlice t len parts=>kc P t len (parts.toList.map λp=>(p.1,ρ p.2)) o.dst σ K
 | .load t a=>qi P t σ (ρ a) K
 | .store t a v=>p6 P t σ (ρ a) (ρ v) K
 | .fieldAddr t x f=>ip P t f σ (ρ x) K
 | .field t x f=>ash P t f (ρ x) K
 | .indexAddr t x i=>da P t σ (ρ x) (ρ i) K
 | .index t x i=>rg P t (ρ x) (ρ i) K
 | .binOp op t x y _=>jf P op t (ρ x) (ρ y) λu=>K u [] []
 | .unOp op _ x=>bj3 op (ρ x) λu=>K u [] []
 | .convert s d x=>tw P s d o.dst σ (ρ x) K
 | .slice t x lo hi mx=>jc P t σ (ρ x) (lo.map ρ) (hi.map ρ) (mx.map ρ) K
 | .makeSlice t l c=>yg P t o.dst σ (ρ l) (ρ c) K
 | .makeFunc fn first cap=>bkl fn first.toList (cap.toList.map ρ) K
 | .makeInterface t x=>blh P t σ (ρ x) K
 | .call c=>brm P c.callee ρ (c.args.toList.map ρ) c.argTypes.toList o.dst σ K
 | .lookup t x i ok=>afq P t ok σ (ρ x) (ρ i) K
 | .mapUpdate t m k v=>ap0 P t σ (ρ m) (ρ k) (ρ v) K
 | .insert t m k v=>ap0 P t σ (ρ m) (ρ k) (ρ v) K
 | .makeMap _ r=>match r,o.dst with
  |none,some d=>ai σ d=none/\K (.mh d) [(d,.mp [])] [d]
  |_,_=>False
 | .range t x=>a2z P t o.dst σ (ρ x) K
 | .entry x=>bkv σ (ρ x) K
 | .next x s=>match s with
  |false=>a2p P σ (ρ x) K
  |true=>ack σ (ρ x) K
 |_=>False
theorem af5{P:Program}{o:Oper}{ρ:Operand->PV}{σ:ASt}{K:KT}(z:gy o.op=false)(h:ael P o ρ σ K): ∃u δ F,LOp P o ρ σ u δ F/\K u δ F:=by unfold ael at h;split at h;{rename_i x ho;exact⟨_,_,_,aus (.inl ho),h⟩};{rename_i x ho;exact⟨_,_,_,aus (.inr ho),h⟩};{rename_i c a b ho;split at h;{rename_i t hc;refine⟨_,_,_,bfi ho hc,?_⟩;cases t;{exact h.2 rfl};.exact h.1 rfl};.exact h.elim};{rename_i x ho;split at h;{rename_i n k hx;exact⟨_,_,_,qy ho (.inl ⟨n,k,hx⟩),by rw[hx];exact h⟩};{rename_i cs hx;exact⟨_,_,_,qy ho (.inr (.inl ⟨cs,hx⟩)),by rw[hx];exact h⟩};{rename_i n k i off hx;exact⟨_,_,_,qy ho (.inr (.inr ⟨n,k,i,off,hx⟩)),by rw[hx];exact h⟩};.exact h.elim};{rename_i t i ho;split at h;{rename_i us ht;exact⟨_,_,_,ap6 ho ht (ez h.1),h.2⟩};.exact h.elim};{rename_i t ho;split at h;{rename_i A d hz hd;exact⟨_,_,_,a8o ho hz h.1,h.2⟩};.exact h.elim};{rename_i t x ho;split at h;{rename_i us d hu hd;exact⟨_,_,_,bhg ho hu h.1,h.2⟩};.exact h.elim};{rename_i t parts ho;split at h;{rename_i cs hb;exact⟨_,_,_,a33 ho hb,h⟩};.exact h.elim};{rename_i t len parts ho;unfold kc at h;split at h;{rename_i e sz b d hs hd;obtain⟨g,j,_,⟨A,w,_⟩,q,_⟩:=iv hs;split at h;{split at h;{rename_i xs ns hr;exact⟨_,_,_,ae3 ho g j q (by rw[w];rfl) Fz h.2.2.1 hr h.1,h.2.2.2⟩};.exact h.elim};{split at h;{rename_i xs hr;exact⟨_,_,_,aeb ho g j q (by rw[w];rfl) Fz h.2.2.1 hr h.1,h.2.2.2⟩};.exact h.elim};.split at h;{rename_i xs ns hr;exact⟨_,_,_,adb ho g j q (by rw[w];rfl) Fz h.2.2.1 hr h.1,h.2.2.2⟩};.exact h.elim};.exact h.elim};{rename_i t a ho;exact al0 ho h};{rename_i t a v ho;exact aj0 ho h};{rename_i t x f ho;exact yz ho h};{rename_i t x f ho;exact ahj ho h};{rename_i t x i ho;exact yb ho h};{rename_i t x i ho;exact ai1 ho h};{rename_i op t x y t' ho;obtain⟨u,g,j⟩:=aq6 ho h;exact⟨u,[],[],g,j⟩};{rename_i op t x ho;obtain⟨u,g,j⟩:=ax2 ho h;exact⟨u,[],[],g,j⟩};{rename_i s d x ho;exact ag7 ho h};{rename_i t x lo hi mx ho;exact ae6 ho h};{rename_i t l c ho;exact amn ho (a3q h)};{rename_i fn first cap ho;unfold bkl at h;split at h;{rename_i f hf;have:first= #[]:=(by apply b55;simpa using hf);subst this;exact⟨_,_,_,al7 ho,h⟩};.exact h.elim};{rename_i t y ho;exact apg ho h};{rename_i c ho;obtain⟨p,C,B⟩:=c;unfold brm at h;split at h;{rename_i f hc;simp only at hc;subst hc;exact anl ho h};{rename_i b hc;simp only at hc;subst hc;exact axo ho h};.rename_i r name hc;simp only at hc;subst hc;exact art ho h};{rename_i t x i ok ho;exact akq ho h};{rename_i t m k v ho;exact adj (.inl ho) h};{rename_i t m k v ho;exact adj (.inr ho) h};{rename_i t r ho;split at h;{rename_i d hd;exact⟨_,_,_,aq7 ho h.1,h.2⟩};.exact h.elim};{rename_i t x ho;exact ao8 ho h};{rename_i x ho;exact aqx ho h};{rename_i x s ho;cases s with|false=>rw[ho]at z;cases z|true=>exact aj1 ho h};.exact h.elim
theorem bao{P:Program}{o:Oper}{ρ:Operand->PV}{σ:ASt}{K:KT}(h:ael P o ρ σ K)(x:Ctx P)(a:Act)(hv:Nat->Value)(w:World)(f:SimW x (ai σ) hv w)
  (c: ∀y∈o.op.operands,RV (env x (ai σ) hv w) (a.eval y) (ρ y)) (b:Act->World->Prop) (Q:Exit->Act->World->Prop)
  (e: ∀u δ F,K u δ F->∀v hv' w',SimW x (app (ai σ) δ) hv' w'->Env.le (env x (ai σ) hv w) (env x (app (ai σ) δ) hv' w')->RV (env x (app (ai σ) δ) hv' w') v u->b (a.put o.dst v) w'):o.wp P a w b Q:=by
 cases hx:gy o.op with
 |false=>
  obtain⟨u,δ,F,k,i⟩:=af5 hx h
  exact k.2 (ai σ) (λ_ _=>rfl) x a hv w f c b Q λv hv' w' g j d=>e u δ F i v hv' w' g j d
 |true=>
  cases ho:o.op<;>rw[ho]at hx<;>simp only[gy]at hx<;>(try (cases hx;done))
  rename_i y s;obtain rfl:s=false:=by simpa using hx
  unfold ael at h;rw[ho]at h;exact an1 ho h x a hv w f c b Q e
/- Regions: in the text's order, and in any order. -/
variable {P:Program}
abbrev AFr:=List (Nat×PV)
def look:AFr->Nat->PV
 |[],_=> .undef
 |(s,v)::r,t=>if s=t then v else look r t
def evL(L:Nat->PV):Operand->PV
 | .tmp t=>L t
 | .const v=>adf v
 | .global _=> .undef
 | .func f=> .fn f []
abbrev ev(fr:AFr):Operand->PV:=evL (look fr)
def aou(fr:AFr)(dst:Option Nat)(u:PV):AFr:=
 match dst with
 |some d=>(d,u)::fr
 |none=>fr
def arv(L:Nat->PV)(dst:Option Nat)(u:PV):Nat->PV:=
 match dst with
 |some d=>λt=>if t=d then u else L t
 |none=>L
theorem oa(fr:AFr)(a:Option Nat)(u:PV):look (aou fr a u)=arv (look fr) a u:=by cases a with|none=>rfl|some d=>funext t;simp only[aou,look,arv];by_cases h:d=t;{simp[h]};.simp[h,Ne.symm h]
def s7:ASt->Nat->Box->ASt
 |[],n,B=>[(n,B)]
 |(m,C)::r,n,B=>if m=n then(n,B)::r else(m,C)::s7 r n B
def agm(σ:ASt):ASt->ASt
 |[]=>σ
 |(n,B)::r=>agm (s7 σ n B) r
theorem bp: ∀(σ:ASt) (n:Nat) (B:Box),ai (s7 σ n B)=upd (ai σ) n (some B)
 |[],n,B=>by funext m;simp only[s7,ai,upd];by_cases h:n=m<;>simp[h,eq_comm]
 |(k,C)::r,n,B=>by
  funext m;simp only[s7];by_cases hk:k=n
  .subst hk;simp only[b4i,ai,upd];by_cases h:k=m
   .subst h;simp
   .simp[h,Ne.symm h]
  .rw[if_neg hk];simp only[ai];rw[bp r n B];simp only[upd,ai];by_cases h:k=m
   .subst h;simp[hk]
   .simp[h]
theorem vz: ∀(δ σ:ASt),ai (agm σ δ)=app (ai σ) δ
 |[],σ=>rfl
 |(n,B)::r,σ=>by simp only[agm,app];rw[vz r,bp]
structure Good(x:Ctx P)(N:Nat)(L:Nat->PV)(s:St)(a:Act)(hv:Nat->Value)(w:World):Prop where
 sim:SimW x s hv w
 size:a.tmps.size=N
 defers:a.defers=[]
 regs: ∀t,RV (env x s hv w) (a.tmps.getD t undef) (L t)
theorem Good.opnd{x:Ctx P}{N:Nat}{L:Nat->PV}{s:St}{a:Act}{hv:Nat->Value}{w:World}(h:Good x N L s a hv w)(y:Operand):RV (env x s hv w) (a.eval y) (evL L y):=by cases y with|tmp t=>exact h.regs t|const v=>exact ac5 _ v|global g=>exact .undef _|func f=>exact .pure (.fn f)
theorem Good.put{x:Ctx P}{N:Nat}{L:Nat->PV}{s s':St}{a:Act}{hv c:Nat->Value}{w w':World}(h:Good x N L s a hv w){b:Option Nat}(hd: ∀d,b=some d->d<N){v:Value}{u:PV}
  (i:SimW x s' c w') (j:Env.le (env x s hv w) (env x s' c w')) (e:RV (env x s' c w') v u):Good x N (arv L b u) s' (a.put b v) c w':=by cases b with|none=>exact⟨i,h.size,h.defers,λt=>(h.regs t).mono j⟩|some d=>refine⟨i,by simp[Act.put,h.size],h.defers,λt=> ?_⟩;simp only[arv,Act.put];by_cases f:t=d;{subst f;have g:t<a.tmps.size:=(by rw[h.size];exact hd t rfl);rw[if_pos rfl];simpa [g] using e};.rw[if_neg f];have:=(h.regs t).mono j;simpa [b1c,b4e (Ne.symm f)] using this
theorem Good.drew{x:Ctx P}{N:Nat}{L:Nat->PV}{s:St}{a:Act}{hv:Nat->Value}{w:World}(h:Good x N L s a hv w):Good x N L s a hv {w with drawn:=w.drawn+1}:=
 have b:=h.sim.drew 1
 ⟨b.1,h.size,h.defers,λt=>(h.regs t).mono b.2⟩
def lr(ops:Array Oper)(j:Nat):Option Nat:=(ops[j]?).bind (·.dst)
theorem afb{x:Ctx P}{N:Nat}{L:Nat->PV}{s:St}{a:Act}{hv:Nat->Value}{w:World}(h:Good x N L s a hv w){c:Array Oper}{j t:Nat}(i:lr c j=some t)(f:t<N){b:Bool}(k:L t= .bool b):yielded c a.tmps j=some b:=by have g:=h.regs t;rw[k]at g;have d:=g.bool_inv;have e:t<a.tmps.size:=(by rw[h.size];exact f);unfold yielded;unfold lr at i;rw[i];have l:a.tmps[t]? =some (.bool b):=(by rw[b1c,b11 e]at d;rw[b11 e];simpa using d);simp[l]
theorem aov{E:Env}:RV E undef (.tup []):= .pure (.tup Al (by intro i u a;simp at a))
theorem zj{x:Ctx P}{N:Nat}{L:Nat->PV}{s:St}{a:Act}{hv:Nat->Value}{w:World}(h:Good x N L s a hv w){b:Array Oper}{j t:Nat}(g:lr b j=some t)(e:t<N)(i:L t= .tup []):yielded b a.tmps j=none:=by have f:=h.regs t;rw[i]at f;obtain⟨l,c,m,_⟩:=f.tup_inv;have d:t<a.tmps.size:=(by rw[h.size];exact e);unfold yielded;unfold lr at g;rw[g];have k:a.tmps[t]? =some (.tuple l):=(by rw[b1c,b11 d]at c;rw[b11 d];simpa using c);simp[k]
def agt(N:Nat)(ops:Array Oper):Bool:=ops.toList.all λo=>match o.dst with|some d=>decide (d<N)|none=>true
theorem og{N:Nat}{a:Array Oper}(h:agt N a=true){i:Nat}{o:Oper}(b:a[i]? =some o): ∀d,o.dst=some d->d<N:=λd hd=>by
 have hm:o∈a.toList:=by simpa using Array.mem_of_getElem? b
 have:=b06.1 h o hm;rw[hd]at this;simpa using this
def ql(P:Program)(all:Array Oper):List Oper->AFr->ASt->(AFr->ASt->Prop)->Prop
 |[],fr,σ,K=>K fr σ
 |o::r,fr,σ,K=>
  match o.guard with
  |none=>ael P o (ev fr) σ λu δ _=>ql P all r (aou fr o.dst u) (agm σ δ) K
  |some (j,want)=>
   match lr all j with
   |some t=>match look fr t with
    | .bool b=>
     (b=want->ael P o (ev ((t,.bool want)::fr)) σ λu δ _=>ql P all r (aou ((t,.bool want)::fr) o.dst u) (agm σ δ) K)/\
     (b= !want->ql P all r (aou ((t,.bool (!want))::fr) o.dst (.tup [])) σ K)
    | .tup []=>ql P all r (aou fr o.dst (.tup [])) σ K
    |_=>False
   |none=>False
theorem u9{fr:AFr}{t:Nat}{u:PV}(h:look fr t=u):look ((t,u)::fr)=look fr:=by funext s;simp only[look];split;{rename_i hs;subst hs;exact h.symm};.rfl
theorem p7{P:Program}{d:Array Oper}{N:Nat}(q:agt N d=true){x:Ctx P}{Q:Exit->Act->World->Prop}{K:AFr->ASt->Prop}:
  ∀(l:List Oper) (k:Nat) (fr:AFr) (σ:ASt) (a:Act) (hv:Nat->Value) (w:World),d.toList.drop k=l->ql P d l fr σ K->Good x N (look fr) (ai σ) a hv w->
   (∀fr' σ' a' hv' w',K fr' σ'->Good x N (look fr') (ai σ') a' hv' w'->Q .normal a' w')->wpOps P d Q (List.range' k l.length) a w
 |[],k,fr,σ,a,hv,w,_,hK,hG,hQ=>hQ fr σ a hv w hK hG
 |o::r,k,fr,σ,a,hv,w,hl,hK,hG,hQ=>by
  have ho:d[k]? =some o:=by
   have:=b1k (xs:=d.toList) (i:=k) (j:=0);rw[hl]at this;simpa using this.symm
  have A:d.toList.drop (k+1)=r:=by rw[<-b4m,hl];simp
  have C:=og q ho
  have g: ∀e:AFr,look e=look fr->(ael P o (ev e) σ λu δ _=>ql P d r (aou e o.dst u) (agm σ δ) K)->o.wp P a w (wpOps P d Q (List.range' (k+1) r.length)) Q:=λe n hK=>by
   have E: ∀y,ev e y=evL (look fr) y:=λy=>by rw[ev,n]
   refine bao hK x a hv w hG.sim (λy _=>by rw[E];exact hG.opnd y) _ Q λu δ F hK v hv' w' D G B=> ?_;refine p7 q r (k+1) (aou e o.dst u) (agm σ δ) (a.put o.dst v) hv' w' A hK ?_ hQ;rw[oa,vz,n];exact hG.put C D G B
  simp only[b0q,List.range'_succ,wpOps,ho];simp only[ql]at hK
  cases hg:o.guard with
  |none=>
   rw[hg]at hK;have h:Region.wanted o (yielded d a.tmps)=true:=by simp[Region.wanted,hg]
   rw[if_pos h]
   exact .inl (g fr rfl hK)
  |some p=>
   obtain⟨j,want⟩:=p;rw[hg]at hK;simp only at hK
   cases ht:lr d j with
   |none=>rw[ht]at hK;exact hK.elim
   |some t=>
    rw[ht]at hK;simp only at hK
    have m:t<N:=by
     unfold lr at ht
     cases hoj:d[j]? with
     |none=>rw[hoj]at ht;cases ht
     |some oj=>rw[hoj]at ht;exact og q hoj t ht
    cases hb:look fr t with
    |bool b=>
     rw[hb]at hK;simp only at hK;have z:=afb hG ht m hb;by_cases f:b=want
     .have h:Region.wanted o (yielded d a.tmps)=true:=by simp[Region.wanted,hg,z,f]
      rw[if_pos h];exact .inl (g _ (u9 (by rw[hb,f])) (hK.1 f))
     .have h:Region.wanted o (yielded d a.tmps)=false:=by simp[Region.wanted,hg,z,f]
      rw[h];simp only[b12,b25];have s:b= !want:=by cases b<;>cases want<;>simp_all
      refine p7 q r (k+1) _ σ (a.put o.dst undef) hv w A (hK.2 s) ?_ hQ;rw[oa,u9 (by rw[hb,s])]
      exact hG.put C hG.sim (Env.le.refl _) aov
    |tup cs=>
     rw[hb]at hK
     cases cs with
     |cons c cs=>exact hK.elim
     |nil=>
      simp only at hK
      have h:Region.wanted o (yielded d a.tmps)=false:=by
       have z:=zj hG ht m hb;simp[Region.wanted,hg,z]
      rw[h];simp only[b12,b25];refine p7 q r (k+1) _ σ (a.put o.dst undef) hv w A hK ?_ hQ;rw[oa]
      exact hG.put C hG.sim (Env.le.refl _) aov
    |_=>rw[hb]at hK;exact hK.elim
/- Regions that are carried out in any order. -/
variable {P:Program}
structure Ent where
 u:PV
 δ:ASt
 F:LN
abbrev Tr:=List (Oper×Ent)
def aem:Tr->(Nat->PV)->(Nat->PV)
 |[],L=>L
 |p::r,L=>aem r (arv L p.1.dst p.2.u)
def aj5:Tr->St->St
 |[],s=>s
 |p::r,s=>aj5 r (app s p.2.δ)
def sub(S:Nat->Bool):Nat->Tr->Tr
 |_,[]=>[]
 |i,p::r=>if S i then p::sub S (i+1) r else sub S (i+1) r
def as9:ASt->Nat->Option Box
 |[],_=>none
 |(m,B)::r,n=>(as9 r n).or (if m=n then some B else none)
theorem ao2: ∀(δ:ASt) (s:St) (n:Nat),app s δ n=(as9 δ n).or (s n)
 |[],s,n=>by simp[app,as9]
 |(m,B)::r,s,n=>by
  simp only[app,as9];rw[ao2 r];by_cases h:m=n
  .subst h;simp
  .rw[ak _ _ (Ne.symm h)];simp[h]
theorem ab8{δ:ASt}{n:Nat}(h:(as9 δ n).isSome):n∈δ.map (·.1):=by induction δ with|nil=>cases h|cons p r ih=>obtain⟨m,B⟩:=p;simp only[as9]at h;cases hr:as9 r n with|some C=>simp only[b07,b0p];exact .inr (ih (by rw[hr];rfl))|none=>rw[hr]at h;by_cases a:m=n;{simp[a]};.simp[a]at h
theorem bia{δ:ASt}{n:Nat}(h:n∈δ.map (·.1)): ∃B,as9 δ n=some B:=by induction δ with|nil=>cases h|cons p r ih=>obtain⟨m,B⟩:=p;simp only[b07,b0p]at h;simp only[as9];cases hr:as9 r n with|some C=>exact⟨C,Ad⟩|none=>rcases h with h|h;{exact⟨B,Ev⟩};.obtain⟨C,hC⟩:=ih h;rw[hr]at hC;cases hC
def fL(t:Nat)(p:Oper×Ent):Option PV:=if p.1.dst=some t then some p.2.u else none
def fS(n:Nat)(p:Oper×Ent):Option Box:=as9 p.2.δ n
theorem abl: ∀(tr:Tr) (L:Nat->PV) (t:Nat),aem tr L t=((tr.filterMap (fL t)).getLast?).getD (L t)
 |[],L,t=>rfl
 |p::r,L,t=>by
  simp only[aem,b46];rw[abl r]
  cases hf:fL t p with
  |none=>
   have hne:p.1.dst≠some t:=λh=>by simp[fL,h]at hf
   have:arv L p.1.dst p.2.u t=L t:=by
    cases hd:p.1.dst with
    |none=>rfl
    |some d=>
     simp only[arv];rw[if_neg];intro e;exact hne (by rw[hd,e])
   rw[this]
  |some u=>
   have a:p.1.dst=some t/\p.2.u=u:=by
    unfold fL at hf;split at hf
    .rename_i h;exact⟨h,by simpa using hf⟩
    .cases hf
   have:arv L p.1.dst p.2.u t=u:=by rw[a.1,a.2];simp[arv]
   rw[this];simp only[b6d,b1o]
theorem aa5: ∀(tr:Tr) (s:St) (n:Nat),aj5 tr s n=((tr.filterMap (fS n)).getLast?).or (s n)
 |[],s,n=>by simp[aj5]
 |p::r,s,n=>by
  simp only[aj5,b46];rw[aa5 r,ao2]
  cases hv:fS n p with
  |none=>
   have:as9 p.2.δ n=none:=hv;rw[this]
   simp
  |some B=>
   have:as9 p.2.δ n=some B:=hv;rw[this];simp only[b6d]
   cases (r.filterMap (fS n)).getLast?<;>simp
theorem vw{β:Type}(f:Oper×Ent->Option β){S S':Nat->Bool}: ∀(tr:Tr) (i0:Nat),(∀(i:Nat) (x:Oper×Ent),tr[i]? =some x->(f x).isSome->S (i0+i)=S' (i0+i))->(sub S i0 tr).filterMap f=(sub S' i0 tr).filterMap f
 |[],_,_=>rfl
 |p::r,i0,h=>by
  have h0:=h 0 p rfl;have c:=vw f (S:=S) (S':=S') r (i0+1) λi x hx a=>by have:=h (i+1) x (by simpa using hx) a;rwa [show i0+1+i=i0+(i+1) from Aa]
  simp only[sub];simp only[b13]at h0
  cases a:f p with
  |none=>
   cases S i0<;>cases S' i0<;>simp[a,c]
  |some b=>
   rw[a]at h0;rw[h0 rfl]
   cases S' i0<;>simp[a,c]
theorem bf5: ∀(tr:Tr) (i0 j:Nat),sub (λi=>decide (i<i0+j)) i0 tr=tr.take j
 |[],_,_=>by simp[sub]
 |p::r,i0,0=>by
  simp only[sub,b13,b7y,b6e,b12,b25,b2d]
  have:sub (λi=>decide (i<i0)) (i0+1) r=[]:=by
   have: ∀(r:Tr) (k:Nat),i0<=k->sub (λi=>decide (i<i0)) k r=[]:=by
    intro r
    induction r with
    |nil=>intro k _;rfl
    |cons q r ih=>intro k a;simp only[sub];rw[if_neg Ag];exact ih (k+1) Aa
   exact this r (i0+1) Aa
  exact this
 |p::r,i0,j+1=>by
  simp only[sub,List.take_succ_cons];rw[if_pos Ad];have:=bf5 r (i0+1) j;rw[show i0+1+j=i0+(j+1) from Aa]at this;rw[this]
theorem a3e: ∀(tr:Tr) (i0:Nat) (S:Nat->Bool),(∀i,i<tr.length->S (i0+i)=true)->sub S i0 tr=tr
 |[],_,_,_=>rfl
 |p::r,i0,S,h=>by
  simp only[sub];rw[if_pos (by have:=h 0 (by simp);simpa using this),a3e r (i0+1) S λi a=>by have:=h (i+1) (by simp;omega);rwa [show i0+1+i=i0+(i+1) by omega]]
theorem ai9: ∀(tr:Tr) (i0:Nat),sub (λ_=>false) i0 tr=[]
 |[],_=>rfl
 |p::r,i0=>by simp only[sub,b12,b25];exact ai9 r (i0+1)
theorem ajc{β:Type}(f:Oper×Ent->Option β){S:Nat->Bool}{b:β}: ∀(tr:Tr) (i0 j:Nat) (x:Oper×Ent),tr[j]? =some x->f x=some b->S (i0+j)=true->
  (∀(i:Nat) (y:Oper×Ent),tr[i]? =some y->(f y).isSome->S (i0+i)=true->i<=j)->((sub S i0 tr).filterMap f).getLast? =some b
 |[],_,_,_,h,_,_,_=>by simp at h
 |p::r,i0,0,x,hx,hf,hS,hle=>by
  simp at hx;subst hx;simp only[sub];simp only[b13]at hS;rw[if_pos hS,b46,hf]
  have:(sub S (i0+1) r).filterMap f=[]:=by
   have e:=vw f (S:=S) (S':=λ_=>false) r (i0+1) λi y a hs=>by
    cases hq:S (i0+1+i)with
    |false=>rfl
    |true=>
     have:=hle (i+1) y A6 hs E5;omega
   rw[e,ai9];rfl
  rw[this]
  rfl
 |p::r,i0,j+1,x,hx,hf,hS,hle=>by
  have d:=ajc f r (i0+1) j x (by simpa using hx) hf (by rwa [show i0+1+j=i0+(j+1) from Aa]) λi y a hs g=>by
   have:=hle (i+1) y A6 hs E5;omega
  simp only[sub];split
  .rw[b46]
   cases hq:f p with
   |none=>exact d
   |some c=>
    simp only[b6d,d];rfl
  .exact d
def a9f(acc:LN):List Edge->Nat
 |[]=>0
 |e::es=>if Region.binds .any e then(2^e.on|||acc.getD e.on 0)|||a9f acc es else a9f acc es
def bgh:List Oper->LN->LN
 |[],acc=>acc
 |o::r,acc=>bgh r (acc++[a9f acc o.after.toList])
theorem abo{a:LN}{j:Nat}: ∀{es:List Edge},(a9f a es).testBit j=true->∃e∈es,Region.binds .any e=true/\(e.on=j\/(a.getD e.on 0).testBit j=true)
 |[],h=>by simp[a9f]at h
 |e::es,h=>by
  simp only[a9f]at h;split at h
  .rename_i hb;rw[Nat.testBit_or,Nat.testBit_or,b1v,b1v]at h;rcases h with (h|h)|h
   .rw[Nat.testBit_two_pow]at h;exact⟨e,by simp,hb,.inl (by simpa using h)⟩
   .exact⟨e,by simp,hb,.inr h⟩
   .obtain⟨e',h1,h2⟩:=abo h;exact⟨e',Du,h2⟩
  .obtain⟨e',h1,h2⟩:=abo h;exact⟨e',Du,h2⟩
theorem ana: ∀(l:List Oper) (acc:LN),(∃t,bgh l acc=acc++t/\t.length=l.length)/\∀i o,l[i]? =some o->(bgh l acc).getD (acc.length+i) 0=a9f ((bgh l acc).take (acc.length+i)) o.after.toList
 |[],acc=>by simp[bgh]
 |o::r,acc=>by
  obtain⟨⟨t,h1,h2⟩,h3⟩:=ana r (acc++[a9f acc o.after.toList]);simp only[bgh];refine⟨⟨a9f acc o.after.toList::t,by rw[h1];simp,by simp[h2]⟩,λi b a=> ?_⟩
  cases i with
  |zero=>
   simp at a;subst a;rw[h1,b0m]
   simp
  |succ i=>
   have:=h3 i b A6;simp only[b0a,b0q,b0r,b1w]at this;rw[show acc.length+(i+1)=acc.length+1+i from Aa];exact this
def aoy(a b:LN):Bool:=a.all λn=> !b.contains n
theorem kj{a b:LN}(h:aoy a b=true){n:Nat}(c:n∈a):n∉b:=by have:=b06.1 h n c;simpa using this
def blp(a b:Option Nat):Bool:=match a,b with
 |some x,some y=>x !=y
 |_,_=>true
def zu(ops:Array Oper)(bs:LN)(i j:Nat)(oi oj:Oper)(li lj:LN×LN):Bool:=
 blp oi.dst oj.dst&&((bs.getD j 0).testBit i||(aoy li.1 lj.2&&aoy lj.1 li.2&&oi.apart ops oj))
def a9n(ops:Array Oper)(bs:LN)(i:Nat)(oi:Oper)(li:LN×LN):Nat->List Oper->List (LN×LN)->Bool
 |j,oj::os,lj::ls=>zu ops bs i j oi oj li lj&&a9n ops bs i oi li (j+1) os ls
 |_,_,_=>true
def a9h(ops:Array Oper)(bs:LN):Nat->List Oper->List (LN×LN)->Bool
 |i,oi::os,li::ls=>a9n ops bs i oi li (i+1) os ls&&oi.after.toList.all (λe=> !Region.binds .any e||decide (e.on<i))&&a9h ops bs (i+1) os ls
 |_,_,_=>true
def am7(ops:Array Oper)(log:List (LN×LN)):Bool:=a9h ops (bgh ops.toList []) 0 ops.toList log
theorem afd{a:Array Oper}{b:LN}{i:Nat}{c:Oper}{d:LN×LN}: ∀{os:List Oper} {ls:List (LN×LN)} {j0:Nat},a9n a b i c d j0 os ls=true->∀(k:Nat) (o:Oper) (l:LN×LN),os[k]? =some o->ls[k]? =some l->zu a b i (j0+k) c o d l=true
 |[],_,_,_,k,o,l,h,_=>by simp at h
 |_::_,[],_,_,k,o,l,_,h=>by simp at h
 |oj::os,lj::ls,j0,h,k,o,l,h1,h2=>by
  simp only[a9n,b0l]at h
  cases k with
  |zero=>simp at h1 h2;subst h1 h2;exact h.1
  |succ k=>
   have:=afd h.2 k o l Bv Cp
   rwa [show j0+1+k=j0+(k+1) from Aa]at this
theorem xr{d:Array Oper}{g:LN}: ∀{os:List Oper} {ls:List (LN×LN)} {i0:Nat},a9h d g i0 os ls=true->∀(i:Nat) (oi:Oper) (li:LN×LN),os[i]? =some oi->ls[i]? =some li->
  (∀(j:Nat) (oj:Oper) (lj:LN×LN),i<j->os[j]? =some oj->ls[j]? =some lj->zu d g (i0+i) (i0+j) oi oj li lj=true)/\∀e∈oi.after.toList,Region.binds .any e=true->e.on<i0+i
 |[],_,_,_,i,oi,li,h,_=>by simp at h
 |_::_,[],_,_,i,oi,li,_,h=>by simp at h
 |o::os,l::ls,i0,h,i,oi,li,h1,h2=>by
  simp only[a9h,b0l]at h;obtain⟨⟨ha,hb⟩,hc⟩:=h
  cases i with
  |zero=>
   simp at h1 h2;subst h1 h2;refine⟨λj oj lj n c a=> ?_,λe f b=> ?_⟩
   .cases j with
    |zero=>omega
    |succ j=>
     have:=afd ha j oj lj Au A6
     rwa [show i0+1+j=i0+(j+1) from Aa]at this
   .have:=b06.1 hb e f;rw[b]at this
    simpa using this
  |succ i=>
   obtain⟨k,m⟩:=xr hc i oi li Bv Cp;refine⟨λj oj lj n c a=> ?_,λe f b=>by have:=m e f b;omega⟩
   cases j with
   |zero=>omega
   |succ j=>
    have:=k j oj lj Aa Au A6
    rwa [show i0+1+i=i0+(i+1) from Aa,show i0+1+j=i0+(j+1) from Aa]at this
/- Regions that are carried out in any order: the law. -/
variable {P:Program}
abbrev Log:=List (LN×LN)
variable {P:Program}{σ:ASt}{w:World}{o:Oper}{N i j:Nat}{x:Ctx P}{hv:Nat->Value}{s:St}{a b exts ns:LN}{u:PV}{fr:AFr}{B B':Box}{ext' nb:List Box}{tr:Tr}{all ops:Array Oper}{Q:Exit->Act->World->Prop}
def evD(P:Program)(all:Array Oper):List Oper->AFr->ASt->Log->(AFr->ASt->Log->Prop)->Prop
 |[],fr,σ,g,K=>K fr σ g
 |o::r,fr,σ,g,K=>
  gy o.op=false/\match o.guard with
  |none=>ael P o (ev fr) σ λu δ F=>evD P all r (aou fr o.dst u) (agm σ δ) ((δ.map (·.1),F)::g) K
  |some (j,want)=>
   match lr all j with
   |some t=>match look fr t with
    | .bool b=>
     (b=want->ael P o (ev ((t,.bool want)::fr)) σ λu δ F=>evD P all r (aou ((t,.bool want)::fr) o.dst u) (agm σ δ) ((δ.map (·.1),F)::g) K)/\
     (b= !want->evD P all r (aou ((t,.bool (!want))::fr) o.dst (.tup [])) σ (([],[])::g) K)
    | .tup []=>evD P all r (aou fr o.dst (.tup [])) σ (([],[])::g) K
    |_=>False
   |none=>False
def btc(P:Program)(all:Array Oper)(o:Oper)(L:Nat->PV)(σ:ASt)(e:Ent):Prop:=
 ((o.guard=none\/∃j want t,o.guard=some (j,want)/\lr all j=some t/\L t= .bool want)/\LOp P o (evL L) σ e.u e.δ e.F)\/
 ((∃j want t,o.guard=some (j,want)/\lr all j=some t/\(L t= .bool (!want)\/L t= .tup []))/\e.u= .tup []/\e.δ=[]/\e.F=[])
def TrOK(P:Program)(all:Array Oper):Tr->(Nat->PV)->ASt->Prop
 |[],_,_=>True
 |p::r,L,σ=>btc P all p.1 L σ p.2/\TrOK P all r (arv L p.1.dst p.2.u) (agm σ p.2.δ)
theorem wg{K:AFr->ASt->Log->Prop}: ∀(l:List Oper) (fr:AFr) (σ:ASt) (g:Log),evD P all l fr σ g K->
  ∃(tr:Tr) (fr':AFr) (σ':ASt),tr.map (·.1)=l/\TrOK P all tr (look fr) σ/\K fr' σ' ((tr.map λp=>(p.2.δ.map (·.1),p.2.F)).reverse++g)/\look fr'=aem tr (look fr)/\ai σ'=aj5 tr (ai σ)
 |[],fr,σ,g,h=>⟨[],fr,σ,rfl,trivial,h,rfl,rfl⟩
 |o::r,fr,σ,g,h=>by
  simp only[evD]at h;obtain⟨hnx,h⟩:=h
  have step: ∀fr1:AFr,look fr1=look fr->(o.guard=none\/∃j want t,o.guard=some (j,want)/\lr all j=some t/\look fr t= .bool want)->(ael P o (ev fr1) σ λu δ F=>evD P all r (aou fr1 o.dst u) (agm σ δ) ((δ.map (·.1),F)::g) K)->
    ∃(tr:Tr) (fr':AFr) (σ':ASt),tr.map (·.1)=o::r/\TrOK P all tr (look fr) σ/\K fr' σ' ((tr.map λp=>(p.2.δ.map (·.1),p.2.F)).reverse++g)/\look fr'=aem tr (look fr)/\ai σ'=aj5 tr (ai σ):=λfr1 hfr hgd hK=>by
   obtain⟨u,δ,F,hL,hK⟩:=af5 hnx hK;obtain⟨tr,fr',σ',h1,h2,h3,h4,h5⟩:=wg r _ _ _ hK;rw[oa,hfr]at h2 h4;rw[vz]at h5;refine⟨(o,⟨u,δ,F⟩)::tr,fr',σ',Du,⟨.inl ⟨hgd,?_⟩,h2⟩,?_,h4,h5⟩
   .have:ev fr1=evL (look fr):=by rw[<-hfr]
    rw[<-this];exact hL
   .simpa using h3
  cases hg:o.guard with
  |none=>rw[hg]at h;rw[hg]at step;exact step fr rfl (.inl rfl) h
  |some p=>
   obtain⟨j,want⟩:=p;rw[hg]at h step;simp only at h
   cases ht:lr all j with
   |none=>rw[ht]at h;exact h.elim
   |some t=>
    rw[ht]at h;simp only at h
    cases hb:look fr t with
    |bool b=>
     rw[hb]at h;simp only at h;by_cases a:b=want
     .exact step _ (u9 (by rw[hb,a])) (.inr ⟨j,want,t,rfl,ht,by rw[hb,a]⟩) (h.1 a)
     .have hbn:b= !want:=by cases b<;>cases want<;>simp_all
      obtain⟨tr,fr',σ',h1,h2,h3,h4,h5⟩:=wg r _ _ _ (h.2 hbn);rw[oa,u9 (by rw[hb,hbn])]at h2 h4
      exact⟨(o,⟨.tup [],[],[]⟩)::tr,fr',σ',Du,⟨.inr ⟨⟨j,want,t,hg,ht,.inl (by rw[hb,hbn])⟩,rfl,rfl,rfl⟩,h2⟩,by simpa using h3,h4,h5⟩
    |tup cs=>
     rw[hb]at h
     cases cs with
     |cons c cs=>exact h.elim
     |nil=>
      simp only at h;obtain⟨tr,fr',σ',h1,h2,h3,h4,h5⟩:=wg r _ _ _ h;rw[oa]at h2 h4
      exact⟨(o,⟨.tup [],[],[]⟩)::tr,fr',σ',Du,⟨.inr ⟨⟨j,want,t,hg,ht,.inr hb⟩,rfl,rfl,rfl⟩,h2⟩,by simpa using h3,h4,h5⟩
    |_=>rw[hb]at h;exact h.elim
theorem TrOK.get: ∀{tr:Tr} {L:Nat->PV} {σ:ASt},TrOK P all tr L σ->∀(j:Nat) (p:Oper×Ent),tr[j]? =some p->∃σj,ai σj=aj5 (tr.take j) (ai σ)/\btc P all p.1 (aem (tr.take j) L) σj p.2
 |[],_,_,_,j,p,h=>by simp at h
 |q::r,L,σ,h,0,p,hp=>by
  simp at hp;subst hp
  exact⟨σ,rfl,h.1⟩
 |q::r,L,σ,h,j+1,p,hp=>by
  obtain⟨σj,h1,h2⟩:=h.2.get j p (by simpa using hp);refine⟨σj,?_,h2⟩;rw[h1,vz];rfl
def SL(listed:Array Bool)(i:Nat):Bool:=listed.getD i false
theorem af0{S S':Nat->Bool}{L:Nat->PV}{t:Nat}(h: ∀i x,tr[i]? =some x->x.1.dst=some t->S i=S' i):aem (sub S 0 tr) L t=aem (sub S' 0 tr) L t:=by
 rw[abl,abl,vw (S:=S) (S':=S') (fL t) tr 0 λi x hx a=>by
  rw[b1w];refine h i x hx ?_;unfold fL at a;split at a
  .assumption
  .cases a]
theorem agz{S S':Nat->Bool}{n:Nat}(h: ∀i x,tr[i]? =some x->n∈x.2.δ.map (·.1)->S i=S' i):aj5 (sub S 0 tr) s n=aj5 (sub S' 0 tr) s n:=by
 rw[aa5,aa5,vw (S:=S) (S':=S') (fS n) tr 0 λi x hx a=>by
  rw[b1w];exact h i x hx (ab8 a)]
structure Cmm(ops:Array Oper)(tr:Tr):Prop where
 map:tr.map (·.1)=ops.toList
 ok:am7 ops (tr.map λp=>(p.2.δ.map (·.1),p.2.F))=true
section
theorem Cmm.op(h:Cmm ops tr){p:Oper×Ent}(a:tr[i]? =some p):ops[i]? =some p.1:=by
 have:(tr.map (·.1))[i]? =some p.1:=by rw[b0s,a];rfl
 rw[h.map]at this;simpa using this
theorem Cmm.ent(h:Cmm ops tr)(a:ops[i]? =some o): ∃e,tr[i]? =some (o,e):=by have:(tr.map (·.1))[i]? =some o:=(by rw[h.map];simpa using a);rw[b0s]at this;cases ht:tr[i]? with|none=>rw[ht]at this;cases this|some p=>rw[ht]at this;obtain⟨b,e⟩:=p;simp at this;subst this;exact⟨e,rfl⟩
theorem Cmm.size(h:Cmm ops tr):tr.length=ops.size:=by have:=congrArg List.length h.map;simpa using this
abbrev bf0(ops:Array Oper):LN:=bgh ops.toList []
theorem Cmm.pair(h:Cmm ops tr){p q:Oper×Ent}(c:tr[i]? =some p)(b:tr[j]? =some q)(a:i<j):
  zu ops (bf0 ops) i j p.1 q.1 (p.2.δ.map (·.1),p.2.F) (q.2.δ.map (·.1),q.2.F)=true:=by have:=(xr h.ok i p.1 (p.2.δ.map (·.1),p.2.F) (by rw[<-h.map,b0s,c];rfl) (by rw[b0s,c];rfl)).1 j q.1 (q.2.δ.map (·.1),q.2.F) a (by rw[<-h.map,b0s,b];rfl) (by rw[b0s,b];rfl);simpa using this
theorem Cmm.edge(h:Cmm ops tr)(a:ops[i]? =some o): ∀e∈o.after.toList,Region.binds .any e=true->e.on<i:=by obtain⟨e,b⟩:=h.ent a;have:=(xr h.ok i o (e.δ.map (·.1),e.F) A6 (by rw[b0s,b];rfl)).2;simpa using this
theorem Cmm.bs(h:Cmm ops tr)(a:ops[i]? =some o):(bf0 ops).getD i 0=a9f ((bf0 ops).take i) o.after.toList:=by
 have:=(ana ops.toList []).2 i o A6;simpa using this
end
def a5g(ops:Array Oper)(S:Nat->Bool):Prop:= ∀i j,S j=true->((bf0 ops).getD j 0).testBit i=true->S i=true
theorem aji(h:Cmm ops tr){S:Nat->Bool}(g:a5g ops S)(c:ops[j]? =some o)(k: ∀e∈o.after.toList,Region.binds .any e=true->S e.on=true)(i:Nat)
  (hi:((bf0 ops).getD j 0).testBit i=true):S i=true:=by rw[h.bs c]at hi;obtain⟨e,f,d,a⟩:=abo hi;have b:=k e f d;rcases a with a|a;{rw[<-a];exact b};.have hlt:=h.edge c e f d;have:((bf0 ops).take j).getD e.on 0=(bf0 ops).getD e.on 0:=(by simp only[bd,b04,hlt,b4i]);rw[this]at a;exact g i e.on b a
theorem bav(hN:agt N ops=true){E:Nat->PV}{σ0:ASt}(V:Cmm ops tr)(hT:TrOK P ops tr E σ0)
  (hQ: ∀a hv w,Good x N (aem tr E) (aj5 tr (ai σ0)) a hv w->Q .normal a w):
  ∀(fuel:Nat) (listed:Array Bool) (a:Act) (hv:Nat->Value) (w:World),listed.size=ops.size->(listed.toList.countP (· ==false)<=fuel)->a5g ops (SL listed)->
   Good x N (aem (sub (SL listed) 0 tr) E) (aj5 (sub (SL listed) 0 tr) (ai σ0)) a hv w->wpAny P .any ops Q fuel listed a w:=by
 have W: ∀(listed:Array Bool) (a:Act) (hv:Nat->Value) (w:World),listed.size=ops.size->
   Good x N (aem (sub (SL listed) 0 tr) E) (aj5 (sub (SL listed) 0 tr) (ai σ0)) a hv w->Region.ready .any ops listed=[]->Q .normal a w:=by
  intro listed a hv w hz I hr
  have b9: ∀i,i<ops.size->SL listed i=true:=by
   intro i
   induction i using Nat.strongRecOn with
   |_ i ih=>
    intro hi
    cases hl:SL listed i with
    |true=>rfl
    |false=>
     exfalso;have Y:ops[i]? =some ops[i]:=by simp[hi]
     have:i∈Region.ready .any ops listed:=by
      rw[mem_ready];refine⟨?_,_,Y,λe K A=> ?_⟩
      .unfold SL at hl;have c3:i<listed.size:=Aa
       simp[c3]at hl ⊢;exact hl
      .have C:=V.edge Y e (by simpa using K) A;exact ih e.on C Aa
     rw[hr]at this
     cases this
  have:sub (SL listed) 0 tr=tr:=a3e tr 0 _ λi hi=>by rw[b1w];exact b9 i (by rw[<-V.size];exact hi)
  rw[this]at I;exact hQ a hv w I
 intro fuel
 induction fuel with
 |zero=>intro listed a hv w hz hc S I;have hr:Region.ready .any ops listed=[]:=(by cases hr:Region.ready .any ops listed with|nil=>rfl|cons j l=>exfalso;have hj:j∈Region.ready .any ops listed:=(by rw[hr];simp);obtain⟨m,o,h2,_⟩:=mem_ready.1 hj;have C:j<listed.size:=(by rw[hz];exact(b03.1 h2).1);have:0<listed.toList.countP (· ==false):=(by rw[List.countP_pos_iff];refine⟨false,?_,rfl⟩;simp[C]at m;rw[<-m];simp);omega);exact⟨hr,W listed a hv w hz I hr⟩
 |succ fuel ih=>
  intro listed a hv w hz hc S I;refine⟨W listed a hv w hz I,λj hj=> ?_⟩;obtain⟨b6,o,Y,b2⟩:=mem_ready.1 hj;have d0:j<ops.size:=(b03.1 Y).1;have R:j<listed.size:=Aa
  have H:SL listed j=false:=by unfold SL;simp[R]at b6 ⊢;exact b6
  obtain⟨e,K⟩:=V.ent Y;have b4: ∀i,((bf0 ops).getD j 0).testBit i=true->SL listed i=true:=aji V S Y λe' c2 A=>b2 e' (by simpa using c2) A
  have r: ∀i,SL (listed.setIfInBounds j true) i=(SL listed i||decide (i=j)):=by intro i;unfold SL;by_cases c:i=j;{subst c;simp[R]};.rw[getD_set_ne false (Ne.symm c)];simp[c]
  have M: ∀i p,tr[i]? =some p->i≠j->((∀d,p.1.dst=some d->d∉o.looksAt ops)/\aoy (p.2.δ.map (·.1)) e.F=true/\aoy (e.δ.map (·.1)) p.2.F=true)\/SL listed i=decide (i<j):=by intro i p s c;rcases b4r c with C|a4;{have:=V.pair s K C;simp only[zu,b0l,b1v]at this;rcases this.2 with m|⟨⟨m,h2⟩,h3⟩;{right;rw[b4 i m];simp[C]};.left;exact⟨(Oper.apart_spec h3).1,m,h2⟩};.have:=V.pair K s a4;simp only[zu,b0l,b1v]at this;rcases this.2 with m|⟨⟨m,h2⟩,h3⟩;{right;cases hl:SL listed i with|false=>simp;omega|true=>have:=S j i hl m;rw[H]at this;cases this};.left;exact⟨(Oper.apart_spec h3).2.2,h2,m⟩
  have a7: ∀i p,tr[i]? =some p->i≠j->∀d,p.1.dst=some d->o.dst≠some d:=by intro i p s c d D a9;rcases b4r c with C|a4;{have:=V.pair s K C;simp only[zu,b0l]at this;have m:=this.1;simp[blp,D,a9]at m};.have:=V.pair K s a4;simp only[zu,b0l]at this;have m:=this.1;simp[blp,D,a9]at m
  have L: ∀k,tr.take k=sub (λi=>decide (i<k)) 0 tr:=λk=>by have:=bf5 tr 0 k;simp only[b1w]at this;exact this.symm
  have J: ∀t∈o.looksAt ops,aem (sub (SL listed) 0 tr) E t=aem (tr.take j) E t:=by intro t q;rw[L];refine af0 λi p s D=> ?_;by_cases c:i=j;{subst c;rw[H];simp};.rcases M i p s c with m|m;{exact absurd q (m.1 t D)};.exact m
  have b1: ∀n∈e.F,aj5 (sub (SL listed) 0 tr) (ai σ0) n=aj5 (tr.take j) (ai σ0) n:=by intro n hn;rw[L];refine agz λi p s D=> ?_;by_cases c:i=j;{subst c;rw[H];simp};.rcases M i p s c with m|m;{exact absurd hn (kj m.2.1 D)};.exact m
  obtain⟨σj,b8,X⟩:=hT.get j (o,e) K
  have c5: ∀y∈o.op.operands,evL (aem (sub (SL listed) 0 tr) E) y=evL (aem (tr.take j) E) y:=by intro y hy;cases y with|tmp t=>refine J t ?_;exact b4c _ (List.mem_filterMap.2 ⟨.tmp t,by simpa using hy,rfl⟩)|const v=>rfl|global g=>rfl|func f=>rfl
  have c1: ∀p∈e.δ,p.1∈e.F:=by rcases X with ⟨_,h⟩|⟨_,_,h,_⟩;{exact h.1};.have h':e.δ=[]:=h;rw[h'];simp
  have a1: ∀n,aj5 (sub (SL (listed.setIfInBounds j true)) 0 tr) (ai σ0) n=app (aj5 (sub (SL listed) 0 tr) (ai σ0)) e.δ n:=by
   intro n;rw[ao2]
   cases z:as9 e.δ n with
   |some B=>
    have b3:n∈e.δ.map (·.1):=ab8 (by rw[z];rfl)
    have hF:n∈e.F:=by obtain⟨p,s,rfl⟩:=b0z.1 b3;exact c1 p s
    rw[aa5,ajc (fS n) (b:=B) tr 0 j (o,e) K z (by rw[b1w,r];simp) λi p s hs U=>by
     rw[b1w,r]at U;by_cases c:i=j
     .omega
     .rcases M i p s c with m|m
      .exact absurd hF (kj m.2.1 (ab8 hs))
      .rw[m]at U;simp[c]at U;omega]
    rfl
   |none=>rw[Option.none_or];refine agz λi p s D=> ?_;rw[r];by_cases c:i=j;{subst c;rw[K]at s;cases s;obtain⟨B,hB⟩:=bia D;rw[hB]at z;cases z};.simp[c]
  have a3: ∀t,aem (sub (SL (listed.setIfInBounds j true)) 0 tr) E t=arv (aem (sub (SL listed) 0 tr) E) o.dst e.u t:=by
   intro t;by_cases q:o.dst=some t
   .rw[abl,ajc (fL t) (b:=e.u) tr 0 j (o,e) K (by simp[fL,q]) (by rw[b1w,r];simp) λi p s hs U=>by
     by_cases c:i=j
     .omega
     .exfalso;unfold fL at hs;split at hs
      .rename_i D;exact a7 i p s c t D q
      .cases hs]
    rw[q];simp[arv]
   .have:arv (aem (sub (SL listed) 0 tr) E) o.dst e.u t=aem (sub (SL listed) 0 tr) E t:=(by cases D:o.dst with|none=>rfl|some d=>simp only[arv];rw[if_neg];intro h;exact q (by rw[D,h]));rw[this];refine af0 λi p s D=> ?_;rw[r];by_cases c:i=j;{subst c;rw[K]at s;cases s;exact absurd D q};.simp[c]
  have b5:a5g ops (SL (listed.setIfInBounds j true)):=by intro i k hk A;rw[r]at hk ⊢;simp only[b1v,b01]at hk ⊢;rcases hk with hk|hk;{exact .inl (S i k hk A)};.subst hk;exact .inl (b4 i A)
  have a6:(listed.setIfInBounds j true).toList.countP (· ==false)<=fuel:=by have:(listed.setIfInBounds j true).toList=listed.toList.set j true:=Ad;rw[this];have c0:j<listed.toList.length:=(by simpa using R);have c6:listed.toList[j]=false:=(by unfold SL at H;simp[R]at H;simpa using H);have m:=List.countP_set (p:=(· ==false)) (l:=listed.toList) (i:=j) (a:=true) c0;rw[c6]at m;have h2:(if(false==false)=true then 1 else 0)=1:=rfl;have h3:(if(true==false)=true then 1 else 0)=0:=rfl;rw[h2,h3]at m;omega
  have Z: ∀a' z w',Good x N (arv (aem (sub (SL listed) 0 tr) E) o.dst e.u) (app (aj5 (sub (SL listed) 0 tr) (ai σ0)) e.δ) a' z w'->wpAny P .any ops Q fuel (listed.setIfInBounds j true) a' w':=by intro a' z w' c7;refine ih (listed.setIfInBounds j true) a' z w' (by simpa using hz) a6 b5 ?_;rw[funext a3,funext a1];exact c7
  have D:=og hN Y;unfold wpOp;rw[Y];simp only
  have G: ∀g want t b,o.guard=some (g,want)->lr ops g=some t->aem (tr.take j) E t= .bool b->Region.wanted o (yielded ops a.tmps)=(b==want):=by intro g want t b O q A;have a5:t<N:=(by unfold lr at q;cases hoj:ops[g]? with|none=>rw[hoj]at q;cases q|some oj=>rw[hoj]at q;exact og hN hoj t q);have a2:t∈o.looksAt ops:=(by refine b5t _ ?_;rw[O];simp only;have:(ops[g]?).bind (·.dst)=some t:=q;rw[this];simp);rw[<-J t a2]at A;have hy:=afb I q a5 A;simp[Region.wanted,O,hy]
  have T: ∀g want t,o.guard=some (g,want)->lr ops g=some t->aem (tr.take j) E t= .tup []->Region.wanted o (yielded ops a.tmps)=false:=by intro g want t O q A;have a5:t<N:=(by unfold lr at q;cases hoj:ops[g]? with|none=>rw[hoj]at q;cases q|some oj=>rw[hoj]at q;exact og hN hoj t q);have a2:t∈o.looksAt ops:=(by refine b5t _ ?_;rw[O];simp only;have:(ops[g]?).bind (·.dst)=some t:=q;rw[this];simp);rw[<-J t a2]at A;have hy:=zj I q a5 A;simp[Region.wanted,O,hy]
  rcases X with ⟨a0,hL⟩|⟨⟨g,want,t,O,q,A⟩,hu,hδ,hF⟩
  .have hw:Region.wanted o (yielded ops a.tmps)=true:=(by rcases a0 with a0|⟨g,want,t,O,q,A⟩;{have hgd':o.guard=none:=a0;simp[Region.wanted,hgd']};.rw[G g want t want O q A];simp);rw[if_pos hw];refine .inl (hL.2 (aj5 (sub (SL listed) 0 tr) (ai σ0)) (λn hn=>by rw[b1 n hn,b8]) x a hv w I.sim (λy hy=> ?_) _ Q λv z w' hS hE b7=> ?_);{rw[<-c5 y hy];exact I.opnd y};.exact Z _ z w' (I.put D hS hE b7)
  .have hw:Region.wanted o (yielded ops a.tmps)=false:=(by rcases A with A|A;{rw[G g want t (!want) O q A];cases want<;>rfl};.exact T g want t O q A);rw[hw];simp only[b12,b25];refine Z _ hv w ?_;simp only at hu hδ;rw[hu,hδ];exact I.put D I.sim (Env.le.refl _) aov
theorem a7r(l:P.follows .mixedOrders=true)(t:agt N ops=true){K:AFr->ASt->Prop}{u:Nat}{a:Act}
  (h:evD P ops ops.toList fr σ [] λfr' σ' g=>am7 ops g.reverse=true/\K fr' σ') (d:Good x N (look fr) (ai σ) a hv w)
  (s: ∀fr' σ' a' hv' w',K fr' σ'->Good x N (look fr') (ai σ') a' hv' w'->Q .normal a' w'):(Code.region u ops true).wp P Q a w:=by
 obtain⟨e,fr',σ',f,n,⟨q,r⟩,o,p⟩:=wg _ _ _ _ h;refine wp_region_any l ?_;have k:Cmm ops e:=⟨f,by simpa using q⟩;have c:=d.drew
 have m:sub (SL (Array.replicate ops.size false)) 0 e=[]:=by
  have:SL (Array.replicate ops.size false)=λ_=>false:=by
   funext i;unfold SL;by_cases b:i<ops.size<;>simp[b]
  rw[this,ai9]
 refine bav t k n (λa hv w d=>s fr' σ' a hv w r (by rw[o,p];exact d)) ops.size (Array.replicate ops.size false) a hv _ Ad ?_ ?_ ?_
 .exact b1l b7b Ad
 .intro i j hj;unfold SL at hj;by_cases b:j<ops.size<;>simp[b]at hj
 .rw[m];exact c
/- What a function hands back. -/
def bfx(σ:ASt):PV->Option (PV×LN)
 | .agg cs=>(lg σ cs).map λp=>(.agg p.1,p.2)
 |u=>pur σ u
def bgv(σ:ASt):List (PV×PV)->Option (List (PV×PV)×LN)
 |[]=>some ([],[])
 |(k,u)::us=>match bfx σ u,bgv σ us with
  |some (v,a),some (vs,b)=>some ((k,v)::vs,a++b)
  |_,_=>none
theorem ayk{e:PV}{v:Value}(h:SimW x s hv w)(hs: ∀n∈a,s n=ai σ n)(b:bfx σ u=some (e,a))(f: ∀n∈a,n∈ns)
  (c:RV (env x s hv w) v u):RP (env x (a8 s ns) hv w).pc v e:=by unfold bfx at b;split at b;{rename_i cs;cases hp:lg σ cs with|none=>rw[hp]at b;cases b|some p=>obtain⟨o,l⟩:=p;rw[hp]at b;simp only[b02,b0c,b0t]at b;obtain⟨rfl,rfl⟩:=b;obtain⟨m,rfl,j,g⟩:=c.agg_inv;obtain⟨i1,k⟩:=ew (ns:=ns) h hs hp f;refine .agg (by rw[j,i1]) λi u b=> ?_;have d:=(dm.1 b).1;rw[i1]at d;exact k i _ u (bq d) b _ (g i _ (bq d))};.exact f9 h hs b f c
theorem azb{b:PV}(h:bfx σ u=some (b,a)): ∀n∈a,∃B,ai σ n=some B:=by unfold bfx at h;split at h;{cases hp:lg σ _ with|none=>rw[hp]at h;cases h|some p=>rw[hp]at h;simp only[b02,b0c,b0t]at h;obtain⟨_,rfl⟩:=h;exact mb hp};.exact ra h
theorem au2: ∀{xs xs':List (PV×PV)} {a:LN},bgv σ xs=some (xs',a)->xs'.length=xs.length/\(∀n∈a,∃B,ai σ n=some B)/\
  ∀(i:Nat) (r r':PV×PV),xs[i]? =some r->xs'[i]? =some r'->r'.1=r.1/\∃b,bfx σ r.2=some (r'.2,b)/\∀n∈b,n∈a
 |[],xs',a,h=>by cases h;simp
 |(k,u)::us,xs',a,h=>by
  simp only[bgv]at h
  cases h1:bfx σ u with
  |none=>rw[h1]at h;cases h
  |some p=>
   cases h2:bgv σ us with
   |none=>rw[h1,h2]at h;cases h
   |some q=>
    obtain⟨p1,p2⟩:=p;obtain⟨s,t⟩:=q;rw[h1,h2]at h;simp only[b0c,b0t]at h;obtain⟨rfl,rfl⟩:=h;obtain⟨f,o,m⟩:=au2 h2;refine⟨Be,λn c=> ?_,λi r r' e d=> ?_⟩
    .rcases b0j.1 c with c|c
     .exact azb h1 n c
     .exact o n c
    .cases i with
     |zero=>simp at e d;subst e d;exact⟨rfl,p2,h1,λn c=>Cl⟩
     |succ i=>
      obtain⟨j,b,g,l⟩:=m i r r' A5 Aq;exact⟨j,b,g,λn c=>by simp[l n c]⟩
def ari(σ:ASt):Box->Option (Box×LN)
 | .cells cs=>(lg σ cs).map λp=>(.cells p.1,p.2)
 | .arr e sz sh xs=>some (.arr e sz sh xs,[])
 | .arh e sz xs=>(l7 σ xs).map λp=>(.arr e sz false p.1,p.2)
 | .mp es=>(bgv σ es).map λp=>(.mp p.1,p.2)
 | .it _ _ _=>none
 | .si _ _=>none
 | .arq _ _ _ _=>none
 | .dead sz l=>some (.dead sz l,[])
theorem a4q(h:ari σ B=some (B',a))(v:Value):Box.keep B v B' v:=by cases B with|cells cs=>(simp only[ari]at h;cases hq:lg σ cs with|none=>rw[hq]at h;cases h|some p=>rw[hq]at h;simp only[b02,b0c,b0t]at h;obtain⟨rfl,rfl⟩:=h;exact⟨⟨_,rfl⟩,rfl⟩)|arr e sz sh xs=>cases h;exact Box.keep_refl _ _|arh e sz xs=>(simp only[ari]at h;cases hq:l7 σ xs with|none=>rw[hq]at h;cases h|some p=>obtain⟨b,c⟩:=p;rw[hq]at h;simp only[b02,b0c,b0t]at h;obtain⟨rfl,rfl⟩:=h;exact⟨b.length,rfl,by rw[(oy hq).1];exact b0f _,λ_=>rfl⟩)|mp es=>(simp only[ari]at h;cases hq:bgv σ es with|none=>rw[hq]at h;cases h|some p=>rw[hq]at h;simp only[b02,b0c,b0t]at h;obtain⟨rfl,rfl⟩:=h;exact⟨rfl,rfl⟩)|it m k d=>cases h|si l p=>cases h|arq e sz k xs=>cases h|dead sz l=>cases h;exact Box.keep_refl _ _
def aai(σ:ASt):LN->Option (List Box×LN)
 |[]=>some ([],[])
 |n::r=>match ai σ n with
  |some B=>match ari σ B,aai σ r with
   |some (B',a),some (l,b)=>some (B'::l,a++b)
   |_,_=>none
  |none=>none
def bms(σ:ASt)(ns exts:LN):PV->Option (PV×LN)
 | .os n k=>match qp ns n with
  |some j=>some (.os j k,[])
  |none=>if exts.contains n then some (.os n k,[])else pur σ (.os n k)
 |u=>pur σ u
def aqq(σ:ASt)(ns exts:LN):LP->Option (LP×LN)
 |[]=>some ([],[])
 |u::us=>match bms σ ns exts u,aqq σ ns exts us with
  |some (v,a),some (vs,b)=>some (v::vs,a++b)
  |_,_=>none
def bbd(ns:LN):LP->Bool
 |[]=>false
 | .os n _::r=>ns.contains n||bbd ns r
 |_::r=>bbd ns r
theorem ane: ∀cs:LP,bbd [] cs=false
 |[]=>rfl
 |u::r=>by
  have:=ane r
  cases u<;>simp[bbd,this]
theorem amg: ∀{us us':LP} {b:LN},aqq σ ns exts us=some (us',b)->us'.length=us.length/\∀(i:Nat) (u u':PV),us[i]? =some u->us'[i]? =some u'->∃a,bms σ ns exts u=some (u',a)/\∀n∈a,n∈b
 |[],us',b,h=>by cases h;simp
 |u::us,us',b,h=>by
  simp only[aqq]at h
  cases h1:bms σ ns exts u with
  |none=>rw[h1]at h;cases h
  |some p=>
   cases h2:aqq σ ns exts us with
   |none=>rw[h1,h2]at h;cases h
   |some q=>
    obtain⟨v,a⟩:=p;obtain⟨s,o⟩:=q;rw[h1,h2]at h;simp only[b0c,b0t]at h;obtain⟨rfl,rfl⟩:=h;obtain⟨j,k⟩:=amg h2;refine⟨by simp[j],λi r g f d=> ?_⟩
    cases i with
    |zero=>
     simp at f d;subst f d
     exact⟨a,h1,λn e=>D4⟩
    |succ i=>
     obtain⟨c,l,m⟩:=k i r g F3 Aq;exact⟨c,l,λn e=>by simp[m n e]⟩
def a9l(σ:ASt)(ns exts:LN):PV->Option (PV×LN)
 | .undef=>some (.undef,[])
 | .ptr n off=>if exts.contains n then some (.ptr n off,[])else(qp ns n).map λj=>(.ptr j off,[])
 | .mh n=>if exts.contains n then some (.mh n,[])else(qp ns n).map λj=>(.mh j,[])
 | .os n k=>if exts.contains n then some (.os n k,[])else match qp ns n with
  |some j=>some (.os j k,[])
  |none=>pur σ (.os n k)
 | .agg cs=>if bbd ns cs=true then(aqq σ ns exts cs).map λp=>(.ago p.1,p.2)else(lg σ cs).map λp=>(.agg p.1,p.2)
 |u=>pur σ u
theorem aba: ∀{ns:LN} {nb:List Box} {b:LN},aai σ ns=some (nb,b)->nb.length=ns.length/\
  ∀(j n:Nat),ns[j]? =some n->∃B B' a,ai σ n=some B/\nb[j]? =some B'/\ari σ B=some (B',a)/\∀m∈a,m∈b
 |[],nb,b,h=>by cases h;simp
 |n::r,nb,b,h=>by
  simp only[aai]at h
  cases h1:ai σ n with
  |none=>rw[h1]at h;cases h
  |some B=>
   rw[h1]at h;simp only at h
   cases h2:ari σ B with
   |none=>rw[h2]at h;cases h
   |some p=>
    cases h3:aai σ r with
    |none=>rw[h2,h3]at h;cases h
    |some q=>
     obtain⟨B',a⟩:=p;obtain⟨l,u⟩:=q;rw[h2,h3]at h;simp only[b0c,b0t]at h;obtain⟨rfl,rfl⟩:=h;obtain⟨f,g⟩:=aba h3;refine⟨Be,λj m d=> ?_⟩
     cases j with
     |zero=>
      simp at d;subst d
      exact⟨B,B',a,h1,rfl,h2,λm e=>D4⟩
     |succ j=>
      obtain⟨C,s,c,k,t,i,o⟩:=g j m Aq;exact⟨C,s,c,k,by simpa using t,i,λm e=>by simp[o m e]⟩
theorem a5t(h:ari σ B=some (B',a))(off:Nat):B.perm off->B'.perm off:=by cases B with|cells cs=>intro h;exact h.elim|arr e sz sh xs=>cases h;exact id|_=>intro h;exact h.elim
def bqo(σ:ASt)(exts:LN)(B B':Box)(a:LN):Prop:=
 ari σ B=some (B',a)\/(B'=B/\a=[]/\((∃cs,B= .cells cs/\∀u∈cs,(∃n,n∈exts/\(u= .mh n\/∃k,u= .os n k))\/noH u)\/∃es,B= .mp es/\∀e∈es,noH e.2))
def bs1(σ:ASt)(exts:LN)(ext':List Box)(b:LN):Prop:=ext'.length=exts.length/\
  ∀(j n:Nat),exts[j]? =some n->∃B B' a,ai σ n=some B/\ext'[j]? =some B'/\bqo σ exts B B' a/\∀m∈a,m∈b
theorem blj(h:aai σ exts=some (ext',b)):bs1 σ exts ext' b:=by obtain⟨c,d⟩:=aba h;refine⟨c,λj n k=> ?_⟩;obtain⟨B,e,a,g,l,f,i⟩:=d j n k;exact⟨B,e,a,g,l,.inl f,i⟩
theorem a7o(h:bqo σ exts B B' a)(v:Value):Box.keep B v B' v:=by rcases h with h|⟨rfl,_⟩;{exact a4q h v};.exact Box.keep_refl _ _
theorem a8e(h:bqo σ exts B B' a)(off:Nat):B.perm off->B'.perm off:=by rcases h with h|⟨rfl,_⟩;{exact a5t h off};.exact id
def okI(ns:LN):PV->Prop
 | .os j _=>ns[j]? =some j
 |u=>noH u
def bb0(σ:ASt)(ns exts:LN)(B B':Box)(a:LN):Prop:=
 bqo σ exts B B' a\/∃e sz xs,B= .arh e sz xs/\B'=B/\a=[]/\∀x∈xs,∀u∈x,okI ns u
def brd(σ:ASt)(ns exts:LN)(nb:List Box)(b:LN):Prop:=nb.length=ns.length/\
  ∀(j n:Nat),ns[j]? =some n->∃B B' a,ai σ n=some B/\nb[j]? =some B'/\bb0 σ ns exts B B' a/\∀m∈a,m∈b
theorem a6e(h:aai σ ns=some (nb,b)):brd σ ns exts nb b:=by obtain⟨c,d⟩:=aba h;refine⟨c,λj n k=> ?_⟩;obtain⟨B,e,a,g,l,f,i⟩:=d j n k;exact⟨B,e,a,g,l,.inl (.inl f),i⟩
theorem aec(h:bb0 σ ns exts B B' a)(v:Value):Box.keep B v B' v:=by rcases h with h|⟨e,c,b,_,rfl,_⟩;{exact a7o h v};.exact Box.keep_refl _ _
theorem a6g(h:bb0 σ ns exts B B' a)(off:Nat):B.perm off->B'.perm off:=by rcases h with h|⟨e,c,b,_,rfl,_⟩;{exact a8e h off};.exact id
theorem a7e(E:SimW x (ai σ) hv w){shl b1 b2:LN}(h1:brd σ ns exts nb b1)(h2:bs1 σ exts ext' b2)
  (M:exts=List.range' 1000000 ext'.length) (hx: ∀n,x.hx n≠none->n∈exts) (b6: ∀n∈ns,n<1000000) (a9:ns.Nodup) (hl:ns.length<1000000)
  (d0: ∀n∈b1,n∈shl) (e6: ∀n∈b2,n∈shl) (d4: ∀n∈ns,n∉shl) (c5: ∀n∈exts,n∉shl):
  ∃hv',SimW x (fg nb ext') hv' w/\∀v u u' a,RV (env x (ai σ) hv w) v u->a9l σ ns exts u=some (u',a)->(∀n∈a,n∈shl)->RV (env x (fg nb ext') hv' w) v u':=by
 obtain⟨l1,g1⟩:=h1;obtain⟨l2,g2⟩:=h2;have J:=E.shared (em (ai σ) shl)
 let hv':Nat->Value:=λj=>if j<1000000 then hv (ns.getD j 0)else hv j
 have c0: ∀(j n:Nat),ns[j]? =some n->hv' j=hv n:=λj n z=>by have:j<1000000:=b5s (dm.1 z).1 hl;simp[hv',this,z]
 have b9: ∀j,1000000<=j->hv' j=hv j:=λj z=>by have: ¬j<1000000:=Aa;simp[hv',this]
 have N: ∀n,n∈exts↔1000000<=n/\n<1000000+ext'.length:=λn=>by rw[M];simp[b5m]
 have y: ∀(j:Nat) (g:Box),fg nb ext' j=some g->∃n B a,hv' j=hv n/\ai σ n=some B/\a8 (ai σ) shl n=some B/\bb0 σ ns exts B g a/\(∀m∈a,m∈shl)/\((j<1000000/\ns[j]? =some n)\/(1000000<=j/\n=j/\n∈exts)):=by intro j g G;rcases gj G with ⟨z,G⟩|⟨i,rfl,e7⟩;{have hjl:j<ns.length:=(by rw[<-l1];exact(dm.1 G).1);have P:ns[j]? =some ns[j]:=bq hjl;obtain⟨B,C,a,e1,e2,e3,e4⟩:=g1 j _ P;rw[G]at e2;cases e2;refine⟨_,B,a,c0 j _ P,e1,?_,e3,λm hm=>d0 m (e4 m hm),.inl ⟨z,P⟩⟩;simp[a8,d4 _ (b0e P),e1]};.clear G;rename ext'[i]? =some g=>G;have a6:i<ext'.length:=(dm.1 G).1;have a5:1000000+i∈exts:=(N _).2 Aa;have P:exts[i]? =some (1000000+i):=(by rw[M];simp[b7m,a6]);obtain⟨B,C,a,e1,e2,e3,e4⟩:=g2 i _ P;rw[G]at e2;cases e2;refine⟨_,B,a,b9 _ Aa,e1,?_,.inl e3,λm hm=>e6 m (e4 m hm),.inr ⟨Aa,rfl,a5⟩⟩;simp[a8,c5 _ a5,e1]
 have b3: ∀(j W:Nat) (B g C C':Box) (n X b:Nat),ai σ n=some B->ai σ X=some g->blk (hv n)=some b->blk (hv X)=some b->
   ((j<1000000/\ns[j]? =some n)\/(1000000<=j/\n=j/\n∈exts))->((W<1000000/\ns[W]? =some X)\/(1000000<=W/\X=W/\X∈exts))->j=W:=by
  intro j W B g C C' n X b k1 k2 k3 L k5 k6;have:=E.inj n X B g b k1 k2 k3 L;subst this;rcases k5 with ⟨a1,a2⟩|⟨a1,rfl,a3⟩<;>rcases k6 with ⟨c1,c2⟩|⟨c1,c2,c3⟩
  .have e1:=lh a9 a2;have e2:=lh a9 c2;rw[e1]at e2;exact b3v e2
  .have:=b6 _ (b0e a2);omega
  .have:=b6 _ (b0e c2);omega
  .exact c2
 have D: ∀a v,pcOf x (a8 (ai σ) shl) hv w a v->pcOf x (fg nb ext') hv' w a v:=by intro a v S;refine⟨S.1,S.2.1,λj g G U=> ?_⟩;obtain⟨n,B,c,e1,_,e2,e3,_⟩:=y j g G;rw[e1]at U;exact a6g e3 _ (S.2.2 n B e2 U)
 have I: ∀n j,qp ns n=some j->hv' j=hv n/\∃B g a,ai σ n=some B/\fg nb ext' j=some g/\bb0 σ ns exts B g a:=λn j z=>by have P:=kb z;obtain⟨B,g,a,e1,e2,e3,_⟩:=g1 j n P;have:j<1000000:=b5s (dm.1 P).1 hl;exact⟨c0 j n P,B,g,a,e1,by rw[ap1 this];exact e2,e3⟩
 have F: ∀n,n∈exts->hv' n=hv n/\∃B g a,ai σ n=some B/\fg nb ext' n=some g/\bb0 σ ns exts B g a:=λn Y=>by have hm:=(N n).1 Y;obtain⟨i,rfl⟩:=b4j hm.1;have a6:i<ext'.length:=Aa;have P:exts[i]? =some (1000000+i):=(by rw[M];simp[b7m,a6]);obtain⟨B,g,a,e1,e2,e3,_⟩:=g2 i _ P;exact⟨b9 _ Aa,B,g,a,e1,by rw[jo];exact e2,.inl e3⟩
 have a7: ∀v n j,RV (env x (ai σ) hv w) v (.mh n)->(hv' j=hv n/\∃B g a,ai σ n=some B/\fg nb ext' j=some g/\bb0 σ ns exts B g a)->RV (env x (fg nb ext') hv' w) v (.mh j):=by intro v n j h ⟨e1,B,g,a,e2,e3,e4⟩;obtain⟨⟨U,B1,k1,kM⟩,k2⟩:=h.mh_inv;rw[e2]at k1;cases k1;exact .mh ⟨⟨U,g,e3,((Box.keep_M kM).1 (aec e4 (hv n))).1⟩,by rw[e1];exact k2⟩
 have O: ∀v n k j,RV (env x (ai σ) hv w) v (.os n k)->(hv' j=hv n/\∃B g a,ai σ n=some B/\fg nb ext' j=some g/\bb0 σ ns exts B g a)->RV (env x (fg nb ext') hv' w) v (.os j k):=by intro v n k j h ⟨e1,B,g,a,e2,e3,e4⟩;obtain⟨J,B1,sz,l,k1,kd,k2,k3⟩:=h.os_inv;rw[e2]at k1;cases k1;obtain⟨l',R,d2,d3⟩:=(Box.keep_dim kd).1 (aec e4 (hv n));have c7:l=l':=(by rcases e4 with (e4|⟨rfl,_⟩)|⟨_,_,_,_,rfl,_⟩;rotate_left;{rw[kd]at R;cases R;rfl};{rw[kd]at R;cases R;rfl};cases B<;>simp only[Box.dim,b0c,b0t]at kd<;>(try (cases kd;done))<;>obtain⟨rfl,rfl⟩:=kd;{cases e4;simp only[Box.dim,b0c,b0t]at R;exact R.2};{rename_i e sz xs;simp only[ari]at e4;cases q:l7 σ xs with|none=>rw[q]at e4;cases e4|some p=>obtain⟨p1,p2⟩:=p;rw[q]at e4;simp only[b02,b0c,b0t]at e4;obtain⟨rfl,rfl⟩:=e4;simp only[Box.dim,b0c,b0t]at R;rw[<-R.2,(oy q).1]};.cases e4;simp only[Box.dim,b0c,b0t]at R;exact R.2);subst c7;exact .os ⟨J,g,sz,l,e3,R,k2,λhk=>by rw[e1];exact k3 hk⟩
 have hS:SimW x (fg nb ext') hv' w:={
  os:=E.os,tape:=E.tape,output:=E.output,size:=E.size,old:=E.old,glb:=E.glb,tabs:=E.tabs
  box:=λj g G=>by
   obtain⟨n,B,c,e1,e0,e2,e3,e4,_⟩:=y j g G;rw[e1];have K:=E.box n B e0;rcases e3 with (e3|⟨rfl,rfl,⟨cs,rfl,q1⟩|⟨es,rfl,q1⟩⟩)|⟨e,sz,xs,rfl,rfl,rfl,q1⟩
   rotate_left
   .obtain⟨b,t,arr,k1,k2,k3,L⟩:=K;refine⟨b,t,arr,k1,k2,k3,λi u f=> ?_⟩;rcases q1 u (b0e f)with ⟨m,hm,rfl|⟨k,rfl⟩⟩|hno
    .exact a7 _ m m (L i _ f) (F m hm)
    .exact O _ m k m (L i _ f) (F m hm)
    .exact((L i _ f).mono J.2).noH D hno
   .exact(K.mono J.2).noH D q1
   .obtain⟨h0,ys,k1,k2,k3,L⟩:=K;refine⟨h0,ys,k1,k2,k3,λi r j u hr f=> ?_⟩;have q:=q1 r (b0e hr) u (b0e f);have h4:=L i r j u hr f
    cases u<;>(try (exact(h4.mono J.2).noH D q))
    case os m k=>exact O _ m k m h4 (I m m (lh a9 q))
   cases B with
   |cells cs=>
    simp only[ari]at e3
    cases q:lg σ cs with
    |none=>rw[q]at e3;cases e3
    |some p=>
     obtain⟨b5,a⟩:=p;rw[q]at e3;simp only[b02,b0c,b0t]at e3;obtain⟨rfl,rfl⟩:=e3;obtain⟨b,t,arr,k1,k2,k3,L⟩:=K;obtain⟨i1,V⟩:=ew (ns:=shl) E (λn _=>rfl) q e4;refine⟨b,t,arr,k1,k2,by rw[k3,i1],λi u f=> ?_⟩;have A:=(dm.1 f).1;rw[i1]at A
     exact .pure ((V i _ u (bq A) f _ (L i _ (bq A))).mono D)
   |arr e sz sh xs=>
    cases e3
    have:=(J.1.box n _ e2);obtain⟨h0,ys,k1,k2,k3,L⟩:=this
    exact⟨h0,ys,k1,k2,k3,λi x j u hx f=>(L i x j u hx f).mono D⟩
   |arh e sz xs=>
    simp only[ari]at e3
    cases q:l7 σ xs with
    |none=>rw[q]at e3;cases e3
    |some p=>
     obtain⟨c6,a⟩:=p;rw[q]at e3;simp only[b02,b0c,b0t]at e3;obtain⟨rfl,rfl⟩:=e3;obtain⟨h0,ys,k1,k2,k3,L⟩:=K;obtain⟨i1,i0,V⟩:=oy q
     have Q: ∀(i:Nat) (T:LP),c6[i]? =some T->∃r b,xs[i]? =some r/\lg σ r=some (T,b)/\∀n∈b,n∈a:=λi T H=>by
      have A:=(dm.1 H).1;rw[i1]at A;obtain⟨b,q1,q2⟩:=V i _ T (bq A) H;exact⟨_,b,bq A,q1,q2⟩
     refine⟨h0,ys,by rw[i1];exact k1,λT H=> ?_,λT H=> ?_,λi T j u H f=> ?_⟩
     .obtain⟨i,A⟩:=b2v.1 H;obtain⟨r,b,q1,q2,q3⟩:=Q i T A;rw[(ew (ns:=shl) E (λn _=>rfl) q2 (λn Y=>e4 n (q3 n Y))).1];exact k2 r (b0e q1)
     .obtain⟨i,A⟩:=b2v.1 H;obtain⟨r,b,q1,q2,q3⟩:=Q i T A;exact aa4 q2
     .obtain⟨r,b,q1,q2,q3⟩:=Q i T H;obtain⟨l1,l2⟩:=ew (ns:=shl) E (λn _=>rfl) q2 (λn Y=>e4 n (q3 n Y));have z:=(dm.1 f).1;rw[l1]at z
      exact(l2 j _ u (bq z) f _ (L i r j _ q1 (bq z))).mono D
   |mp es=>
    simp only[ari]at e3
    cases q:bgv σ es with
    |none=>rw[q]at e3;cases e3
    |some p=>
     obtain⟨e8,a⟩:=p;rw[q]at e3;simp only[b02,b0c,b0t]at e3;obtain⟨rfl,rfl⟩:=e3;obtain⟨b,arr,k1,k2,k3,L⟩:=K;obtain⟨i1,i0,V⟩:=au2 q;refine⟨b,arr,k1,by rw[i1];exact k2,by rw[i1];exact k3,λi p' b7=> ?_⟩;have A:=(dm.1 b7).1;rw[i1]at A;obtain⟨q0,c,q1,q2⟩:=V i _ p' (bq A) b7;obtain⟨en,m1,m2,m3,m4⟩:=L i _ (bq A);refine⟨en,m1,m2,?_,.pure ((ayk (ns:=shl) E (λn _=>rfl) q1 (λn Y=>e4 n (q2 n Y)) m4).mono D)⟩;rw[q0]
     exact(m3.mono J.2.pc).mono D
   |it m k d=>cases e3
   |si l p=>cases e3
   |arq e sz k xs=>cases e3
   |dead sz l=>cases e3;exact K
  loc:=λj g b G U=>by
   obtain⟨n,B,c,e1,e0,_⟩:=y j g G;rw[e1]at U;exact E.loc n B b e0 U
  inj:=λj W g C' b G hC U b4=>by
   obtain⟨n,B,c,e1,e0,_,_,_,e5⟩:=y j g G;obtain⟨X,C,c',f1,f0,_,_,_,f5⟩:=y W C' hC;rw[e1]at U;rw[f1]at b4;exact b3 j W B C g C' n X b e0 f0 U b4 e5 f5
  ext:=λj h g hh G=>by
   obtain⟨n,B,c,e1,e0,_,e3,_,e5⟩:=y j g G;have z:=(N j).1 (hx j (by rw[hh];simp));rcases e5 with ⟨a1,_⟩|⟨_,rfl,_⟩
   .omega
   .rw[e1];exact Box.keep_trans (E.ext n h B hh e0) (aec e3 _)
  vis:=E.vis
  extin:=λj z=>by
   have hm:=(N j).1 (hx j z);refine⟨?_,hm.1⟩;obtain⟨i,rfl⟩:=b4j hm.1;rw[jo];have:i<ext'.length:=Aa
   simp[this]}
 refine⟨hv',hS,λv u u' a s f ha=> ?_⟩
 have a4:pur σ u=some (u',a)->RV (env x (fg nb ext') hv' w) v u':=λS=>
  .pure ((f9 (ns:=shl) E (λn _=>rfl) S ha s).mono D)
 have Z: ∀n o j,RV (env x (ai σ) hv w) v (.ptr n o)->(hv' j=hv n/\∃B g a,ai σ n=some B/\fg nb ext' j=some g/\bb0 σ ns exts B g a)->RV (env x (fg nb ext') hv' w) v (.ptr j o):=by intro n o j h ⟨e1,B,g,a,e2,e3,e4⟩;obtain⟨⟨cs,k1⟩,b,k2,k3⟩:=h.ptr_inv;rw[e2]at k1;cases k1;rcases e4 with (e4|⟨rfl,_⟩)|⟨_,_,_,b8,_⟩;rotate_left;{exact .ptr ⟨⟨_,e3⟩,b,by rw[e1];exact k2,k3⟩};{cases b8};simp only[ari]at e4;cases q:lg σ cs with|none=>rw[q]at e4;cases e4|some p=>rw[q]at e4;simp only[b02,b0c,b0t]at e4;obtain⟨rfl,rfl⟩:=e4;exact .ptr ⟨⟨_,e3⟩,b,by rw[e1];exact k2,k3⟩
 have hA: ∀(v:Value) (u u':PV) (a:LN),RV (env x (ai σ) hv w) v u->bms σ ns exts u=some (u',a)->(∀n∈a,n∈shl)->RV (env x (fg nb ext') hv' w) v u':=λv u u' a s f ha=>by have S:pur σ u=some (u',a)->RV (env x (fg nb ext') hv' w) v u':=λS=> .pure ((f9 (ns:=shl) E (λn _=>rfl) S ha s).mono D);cases u<;>(try (exact S f));case os n k=>simp only[bms]at f;split at f;{rename_i j z;cases f;exact O v n k j s (I n j z)};.split at f;{rename_i hc;cases f;exact O v n k n s (F n Dc)};.exact S f
 cases u<;>(try (exact a4 f))
 case mh n=>simp only[a9l]at f;split at f;{rename_i hc;cases f;exact a7 v n n s (F n Dc)};.cases z:qp ns n with|none=>rw[z]at f;cases f|some j=>rw[z]at f;simp only[b02,b0c,b0t]at f;obtain⟨rfl,rfl⟩:=f;exact a7 v n j s (I n j z)
 case undef=>cases f;exact .undef v
 case os n k=>simp only[a9l]at f;split at f;{rename_i hc;cases f;exact O v n k n s (F n Dc)};.split at f;{rename_i j z;cases f;exact O v n k j s (I n j z)};.exact a4 f
 case ptr n o=>simp only[a9l]at f;split at f;{rename_i hc;cases f;exact Z n o n s (F n Dc)};.cases z:qp ns n with|none=>rw[z]at f;cases f|some j=>rw[z]at f;cases f;exact Z n o j s (I n j z)
 case agg cs=>simp only[a9l]at f;split at f;{cases q:aqq σ ns exts cs with|none=>rw[q]at f;cases f|some p=>obtain⟨b5,c⟩:=p;rw[q]at f;simp only[b02,b0c,b0t]at f;obtain⟨rfl,rfl⟩:=f;obtain⟨vs,rfl,k1,k2⟩:=s.agg_inv;obtain⟨i1,V⟩:=amg q;refine .ago (by rw[k1,i1]) λi u f=> ?_;have A:=(dm.1 f).1;rw[i1]at A;obtain⟨a0,q1,q2⟩:=V i _ u (bq A) f;exact hA _ _ _ a0 (k2 i _ (bq A)) q1 λn Y=>ha n (q2 n Y)};cases q:lg σ cs with|none=>rw[q]at f;cases f|some p=>obtain⟨b5,c⟩:=p;rw[q]at f;simp only[b02,b0c,b0t]at f;obtain⟨rfl,rfl⟩:=f;obtain⟨vs,rfl,k1,k2⟩:=s.agg_inv;obtain⟨i1,V⟩:=ew (ns:=shl) E (λn _=>rfl) q ha;refine .pure (.agg (by rw[k1,i1]) λi u f=> ?_);have A:=(dm.1 f).1;rw[i1]at A;exact(V i _ u (bq A) f _ (k2 i _ (bq A))).mono D
def bnz(P:Program)(fr:AFr)(σ:ASt):ResultVar->Option PV
 | .tmp t=>some (look fr t)
 | .cell a ty=>match look fr a with
  | .ptr n off=>match ai σ n,ldT P ty with
   |some (.cells cs),some none=>cs[off]?
   |some (.cells cs),some (some m)=>if off+m<=cs.length then some (.agg ((cs.drop off).take m))else none
   |_,_=>none
  |_=>none
def bmr(tmps:Array Value):ResultVar->Sem Value
 | .tmp t=>pure (tmps.getD t undef)
 | .cell a t=>do loadVar t (<-asAddr (tmps.getD a undef))
theorem azx{a:Act}(h:Good x N (look fr) (ai σ) a hv w){r:ResultVar}(c:bnz P fr σ r=some u):
  ∃v,(bmr a.tmps r).run P w= .ok v w/\RV (env x (ai σ) hv w) v u:=by cases r with|tmp t=>cases c;exact⟨_,rfl,h.regs t⟩|cell y ty=>simp only[bnz]at c;split at c;{rename_i n off hy;have q:=h.regs y;rw[hy]at q;obtain⟨⟨l,o⟩,b,E,B⟩:=q.ptr_inv;have C:=h.sim.box n _ o;obtain⟨G,s,z⟩:=ai3 C;rw[E]at s;cases s;split at c;{rename_i cs g hl;rw[o]at g;cases g;obtain⟨v,k,e⟩:=z off u c;refine⟨v,?_,e⟩;simp[bmr,B,asAddr,fi (a2y hl) k]};{rename_i cs m g hl;rw[o]at g;cases g;split at c;{rename_i hle;cases c;obtain⟨F,D⟩:=a0s hl;have d: ∀j,j<m->∃v,w.cell? ⟨b,off+j,none⟩=some v/\RV (env x (ai σ) hv w) v (l.getD (off+j) .undef):=λj A=>z (off+j) _ (ez Aa);let f:Nat->Value:=λj=>(w.cell? ⟨b,off+j,none⟩).getD undef;have g: ∀j,j<m->w.cell? ((⟨b,off,none⟩:Addr).add j)=some (f j):=λj A=>(by obtain⟨v,k,_⟩:=d j A;rw[fh,k];simp[f,k]);refine⟨.agg ((List.range m).map f).toArray,by simp[bmr,B,asAddr,gi F D g],vu Ag λi u c=> ?_⟩;have p:i<m:=(by have:=(dm.1 c).1;simp at this;omega);obtain⟨v,k,e⟩:=d i p;rw[List.getElem?_take_of_lt p,b1k]at c;rw[ez Aa]at c;cases c;simp only[f,k,b1o];exact e};.cases c};.cases c};.cases c
def ao5(P:Program)(fr:AFr)(σ:ASt):List ResultVar->Option LP
 |[]=>some []
 |r::rs=>match bnz P fr σ r,ao5 P fr σ rs with
  |some u,some us=>some (u::us)
  |_,_=>none
theorem afu{a:Act}(h:Good x N (look fr) (ai σ) a hv w): ∀{rs:List ResultVar} {us:LP},ao5 P fr σ rs=some us->
  ∃vs:List Value,(rs.mapM (bmr a.tmps)).run P w= .ok vs w/\vs.length=us.length/\∀(i:Nat) (v:Value) (u:PV),vs[i]? =some v->us[i]? =some u->RV (env x (ai σ) hv w) v u
 |[],us,hu=>by cases hu;exact⟨[],rfl,rfl,by simp⟩
 |r::rs,us,hu=>by
  simp only[ao5]at hu
  cases h1:bnz P fr σ r with
  |none=>rw[h1]at hu;cases hu
  |some u=>
   cases h2:ao5 P fr σ rs with
   |none=>rw[h1,h2]at hu;cases hu
   |some us'=>
    rw[h1,h2]at hu
    cases hu
    obtain⟨v,e1,e2⟩:=azx h h1;obtain⟨vs,e,g,f⟩:=afu h h2;refine⟨v::vs,?_,Ew,λi j d b c=> ?_⟩
    .simp[List.mapM_cons,e1,e]
    .cases i with
     |zero=>simp at b c;subst b c;exact e2
     |succ i=>exact f i j d A0 Au
end Go.Proofs.Am
