/- AmU. -/
import Derived.Test.YteakcpfdfglndaaGreatDoorAmS
set_option linter.unusedSimpArgs false
set_option linter.unusedVariables false
namespace Go.Proofs.Am
open Go Go.RowKit
variable {P:Program}
section
variable (P:Program) (σ:ASt) (K:KT) (J:PV→Prop)
theorem a31(t:TypeId)(k k':IntKind)(a b:Int):fl P .add t (.int k a) (.int k' b) J=(k=k'∧J (.int k (k.wrap (a+b)))):=(rfl)
theorem a74(t:TypeId)(k k':IntKind)(a b:Int):fl P .sub t (.int k a) (.int k' b) J=(k=k'∧J (.int k (k.wrap (a - b)))):=(rfl)
theorem a6u(t:TypeId)(k k':IntKind)(a b:Int):fl P .mul t (.int k a) (.int k' b) J=(k=k'∧J (.int k (k.wrap (a*b)))):=(rfl)
theorem a44(t:TypeId)(k k':IntKind)(a b:Int):fl P .quo t (.int k a) (.int k' b) J=(k=k'∧b≠0∧J (.int k (k.wrap (a.tdiv b)))):=(rfl)
theorem a6q(t:TypeId)(k k':IntKind)(a b:Int):fl P .rem t (.int k a) (.int k' b) J=(k=k'∧b≠0∧J (.int k (a.tmod b))):=(rfl)
theorem a4u(t:TypeId)(k k':IntKind)(a b:Int):fl P .shl t (.int k a) (.int k' b) J=(0≤b∧J (.int k (k.wrap (a*2^min b.toNat k.bits)))):=(rfl)
theorem a6p(t:TypeId)(k k':IntKind)(a b:Int):fl P .shr t (.int k a) (.int k' b) J=(0≤b∧J (.int k (a.fdiv (2^min b.toNat k.bits)))):=(rfl)
theorem a4g(t:TypeId)(k k':IntKind)(a b:Int):fl P .and t (.int k a) (.int k' b) J=(k=k'∧J (.int k (bits .and k a b))):=(rfl)
theorem a9d(t:TypeId)(k k':IntKind)(a b:Int):fl P .or t (.int k a) (.int k' b) J=(k=k'∧J (.int k (bits .or k a b))):=(rfl)
theorem a4x(t:TypeId)(k k':IntKind)(a b:Int):fl P .xor t (.int k a) (.int k' b) J=(k=k'∧J (.int k (bits .xor k a b))):=(rfl)
theorem a5i(t:TypeId)(k k':IntKind)(a b:Int):fl P .eql t (.int k a) (.int k' b) J=(k=k'∧J (.bool (decide (a=b)))):=(rfl)
theorem a5k(t:TypeId)(k k':IntKind)(a b:Int):fl P .neq t (.int k a) (.int k' b) J=(k=k'∧J (.bool (decide (a≠b)))):=(rfl)
theorem a6c(t:TypeId)(k k':IntKind)(a b:Int):fl P .lss t (.int k a) (.int k' b) J=(k=k'∧J (.bool (decide (a<b)))):=(rfl)
theorem a5n(t:TypeId)(k k':IntKind)(a b:Int):fl P .leq t (.int k a) (.int k' b) J=(k=k'∧J (.bool (decide (a≤b)))):=(rfl)
theorem a63(t:TypeId)(k k':IntKind)(a b:Int):fl P .gtr t (.int k a) (.int k' b) J=(k=k'∧J (.bool (decide (b<a)))):=(rfl)
theorem a7h(t:TypeId)(k k':IntKind)(a b:Int):fl P .geq t (.int k a) (.int k' b) J=(k=k'∧J (.bool (decide (b≤a)))):=(rfl)
theorem azh(t:TypeId)(a b:Bool):fl P .eql t (.bool a) (.bool b) J=(P.underlying t=some .bool∧J (.bool (decide (a=b)))):=(rfl)
theorem ax1(t:TypeId)(a b:List UInt8):fl P .eql t (.str a) (.str b) J=J (.bool (decide (a=b))):=(rfl)
theorem azp(t:TypeId)(a b:List UInt8):fl P .neq t (.str a) (.str b) J=J (.bool (decide (a≠b))):=(rfl)
theorem a0j(t:TypeId)(a b:List UInt8):fl P .lss t (.str a) (.str b) J=J (.bool (Op.bytesLess a b)):=(rfl)
theorem aya(t:TypeId)(a b:List UInt8):fl P .geq t (.str a) (.str b) J=J (.bool (!Op.bytesLess a b)):=(rfl)
theorem a1u(t:TypeId)(a b:List PV):fl P .eql t (.agg a) (.agg b) J=bv (om P t) fun f=>match f with|some ks=>bv (vn ks a b) (fun q=>match q with|some b=>J (.bool b)|none=>False)|none=>False:=by
 simp only[fl,bv]
 cases om P t with
 |none=>rfl
 |some ks=>simp only;cases vn ks a b<;>rfl
theorem axm(t:TypeId)(a b:List PV):fl P .neq t (.agg a) (.agg b) J=bv (om P t) fun f=>match f with|some ks=>bv (vn ks a b) (fun q=>match q with|some b=>J (.bool (!b))|none=>False)|none=>False:=by
 simp only[fl,bv]
 cases om P t with
 |none=>rfl
 |some ks=>simp only;cases vn ks a b<;>rfl
theorem aoc(t:TypeId)(b:Bool):fl P .eql t (.sn b) .nils J=bv (bx P t) fun e=>e.isSome=true∧J (.bool b):=(rfl)
theorem anq(t:TypeId)(xs:List (List PV)):fl P .eql t (.vs xs) .nils J=bv (bx P t) fun e=>(e.isSome=true∧0<xs.length)∧J (.bool false):=(rfl)
theorem a8x(b:Bool):a41 .not (.bool b) J=J (.bool (!b)):=(rfl)
theorem a9j(k:IntKind)(n:Int):a41 .neg (.int k n) J=J (.int k (k.wrap (0 - n))):=(rfl)
theorem bau(k:IntKind)(n:Int):a41 .xor (.int k n) J=J (.int k (bits .xor k (if k.signed then -1 else k.max) n)):=(rfl)
theorem a90(k k':IntKind)(a b:Int):a79 false (.int k a) (.int k' b) K=K (.int k (if b<a then b else a)) [] []:=(rfl)
theorem a65:loN none=some 0:=(rfl)
theorem a3v(k:IntKind)(n:Int):loN (some (.int k n))=some n:=(rfl)
theorem a6x(l:Nat):hiN l none=some (l:Int):=(rfl)
theorem a7u(l:Nat)(k:IntKind)(n:Int):hiN l (some (.int k n))=some n:=(rfl)
theorem bdu(t:TypeId)(xs:List (List PV))(lo hi mx:Option PV):er P t σ (.vs xs) lo hi mx K=bv (slT P t) fun s=>bv (loN lo) fun l=>bv (hiN xs.length hi) fun h=>bv (hiN xs.length mx) fun m=>match l,s,h,m with
  |some l,some (_,sz,_),some h,some m=>(0≤l∧l≤h∧h≤m∧m≤xs.length∧(mx.isSome=true→hi.isSome=true))∧(0<l→∀x∈xs,x.length=sz)∧K (.vs ((xs.take h.toNat).drop l.toNat)) [] []
  |_,_,_,_=>False:=by
 simp only[er,bv]
 rcases loN lo with _|l<;>(try rfl)<;>rcases slT P t with _|⟨e,sz,b⟩<;>(try rfl)<;>rcases hiN xs.length hi with _|h<;>(try rfl)<;>rcases hiN xs.length mx with _|m<;>rfl
theorem bdq(t:TypeId)(n k:Nat)(lo hi mx:Option PV):er P t σ (.os n k) lo hi mx K=bv (ag σ n) fun B=>match B with
  |some (.arr _ asz _ xs)=>bv (slT P t) fun s=>bv (loN lo) fun l=>bv (hiN xs.length hi) fun h=>bv (hiN xs.length mx) fun m=>match l,s,h,m with
   |some l,some (_,sz,_),some h,some m=>(asz=sz∧k=xs.length∧0≤l∧l≤h∧h≤m∧m≤xs.length∧(mx.isSome=true→hi.isSome=true))∧K (.vs ((xs.take h.toNat).drop l.toNat)) (da σ [n]) [n]
   |_,_,_,_=>False
  |_=>False:=by
 simp only[er,bv]
 rcases loN lo with _|l
 ·rcases ag σ n with _|B
  ·rfl
  ·cases B<;>rfl
 ·rcases ag σ n with _|B
  ·rfl
  ·cases B with
   |cells cs=>rfl
   |arh e sz xs=>rfl
   |mp es=>rfl
   |it m k d=>rfl
   |si l p=>rfl
   |dead sz l=>rfl
   |arr e asz sh xs=>simp only;rcases slT P t with _|⟨e,sz,b⟩<;>(try rfl)<;>rcases hiN xs.length hi with _|h<;>(try rfl)<;>rcases hiN xs.length mx with _|m<;>rfl
theorem a9b(t:TypeId)(xs:List (List PV))(lo hi:Option PV):ic P t σ (.vs xs) lo hi none K=er P t σ (.vs xs) lo hi none K:=(rfl)
theorem a7v(t:TypeId)(s:List UInt8)(lo hi:Option PV):ic P t σ (.str s) lo hi none K=er P t σ (.str s) lo hi none K:=(rfl)
theorem bbj(t:TypeId)(xs:List (List PV))(k1 k2:IntKind)(i j:Int):ic P t σ (.vs xs) none (some (.int k1 i)) (some (.int k2 j)) K=bv (slT P t) fun s=>match s with
  |some _=>(i=j∧0≤i∧i≤xs.length)∧kk K (.vx (xs.take i.toNat)) [] []
  |none=>False:=by
 simp only[ic,a7y,bv,kk]
 rcases slT P t with _|⟨e,sz,b⟩<;>rfl
def bcw(P:Program)(t:TypeId)(σ:ASt)(n k:Nat)(lo hi mx:Option PV)(K:KT):Option Box→Prop
 |some (.arh e asz xs)=>ado P t σ n k e asz xs lo hi mx K
 |_=>er P t σ (.os n k) lo hi mx K
theorem ba9(t:TypeId)(n k:Nat)(lo hi:Option PV):ic P t σ (.os n k) lo hi none K=bv (ag σ n) (bcw P t σ n k lo hi none K):=by
 simp only[ic,bv]
 rcases ag σ n with _|B
 ·rfl
 ·cases B<;>rfl
theorem az2(t:TypeId)(n k:Nat)(lo hi mx:Option PV)(e sz:Nat)(sh:Bool)(xs:List (List PV)):bcw P t σ n k lo hi mx K (some (.arr e sz sh xs))=er P t σ (.os n k) lo hi mx K:=(rfl)
theorem a1x(t:TypeId)(n k:Nat)(lo hi mx:Option PV)(e sz:Nat)(xs:List (List PV)):bcw P t σ n k lo hi mx K (some (.arh e sz xs))=ado P t σ n k e sz xs lo hi mx K:=(rfl)
theorem a8v(t:TypeId)(n k e asz:Nat)(xs:List (List PV))(kd:IntKind)(i:Int):ado P t σ n k e asz xs (some (.int kd i)) none none K=bv (slT P t) fun s=>match s with
  |some (_,sz,_)=>(asz=sz∧k=xs.length∧0≤i∧i<k)∧kk K (.osl n k i.toNat) [] [n]
  |none=>False:=by
 simp only[ado,bv,kk]
 rcases slT P t with _|⟨e,sz,b⟩<;>first|rfl|simp only[and_assoc]
theorem bay(t:TypeId)(n k e asz:Nat)(xs:List (List PV))(kd:IntKind)(i:Int):ado P t σ n k e asz xs none (some (.int kd i)) none K=bv (slT P t) fun s=>match s with
  |some (_,sz,_)=>(asz=sz∧k=xs.length∧0≤i∧i≤k)∧jp σ xs=some (xs,[])∧kk K (.vs (xs.take i.toNat)) [(n,.arr e asz true xs)] [n]
  |none=>False:=by
 simp only[ado,bv,kk]
 rcases slT P t with _|⟨e,sz,b⟩<;>rfl
theorem as8(t:TypeId)(n k i:Nat):anv P t σ (.osl n k i) K=bv (slT P t) fun s=>bv (ag σ n) fun B=>match s,B with
  |some (e',sz,_),some (.arh e asz xs)=>bv (ay P e') fun z=>match z with
   |some zs=>(asz=sz∧k=xs.length∧i<k∧zs.all fw=true)∧K (.tup []) [(n,.arh e asz (xs.take i++List.replicate (k - i) (zs.map zq)))] [n]
   |none=>False
  |_,_=>False:=by
 simp only[anv,bv]
 rcases slT P t with _|⟨e,sz,b⟩<;>(try rfl)<;>rcases ag σ n with _|B<;>(try rfl)<;>cases B<;>(try rfl)
 all_goals (simp only;rcases ay P e with _|z<;>rfl)
theorem a9c(t:TypeId)(s:List UInt8)(lo hi:Option PV):er P t σ (.str s) lo hi none K=bv (gg P t) fun q=>bv (loN lo) fun l=>bv (hiN s.length hi) fun h=>match l,h with
  |some l,some h=>(q=true∧0≤l∧l≤h∧h≤s.length)∧K (.str ((s.take h.toNat).drop l.toNat)) [] []
  |_,_=>False:=by
 simp only[er,bv]
 rcases loN lo with _|l<;>(try rfl)<;>rcases hiN s.length hi with _|h<;>(try rfl)
 simp
theorem anw:da σ []=[]:=(rfl)
theorem ahy(n:Nat)(r:List Nat):da σ (n::r)=(n,((ag σ n).getD (.cells [])).share)::da σ r:=(rfl)
theorem auz(e sz:Nat)(sh:Bool)(xs:List (List PV)):Box.share (.arr e sz sh xs)= .arr e sz true xs:=(rfl)
theorem a3z(t:TypeId)(d:Nat)(k1 k2:IntKind)(l c:Int):q9 P t (some d) σ (.int k1 l) (.int k2 c) K=bv (slT P t) fun s=>match s with
  |some (e,sz,bytes)=>bv (ay P e) fun z=>match z with
   |some zs=>(zs.all fw=true∧0≤l∧l≤c∧(bytes:Int)*c≤140737488355328∧c≤140737488355328∧ag σ d=none)∧K (.os d l.toNat) [(d,.arr e sz false (List.replicate l.toNat (zs.map zq)))] [d]
   |none=>False
  |none=>False:=by
 simp only[q9,bv]
 rcases slT P t with _|⟨e,sz,b⟩
 ·rfl
 ·simp only;rcases ay P e with _|z<;>rfl
theorem a0g(t tx:TypeId)(d:Option Nat)(u v:PV):y3 P t tx d σ u v K=bv (slT P t) fun s=>match s with
  |some (e,sz,bytes)=>yv P tx sz σ v (wj e sz bytes d σ u K)
  |none=>False:=by
 simp only[y3,bv]
 rcases slT P t with _|⟨e,sz,b⟩<;>rfl
variable (k:List (List PV)→List Nat→Prop)
theorem a5g(tx sz:Nat)(ys:List (List PV)):yv P tx sz σ (.vs ys) k=bv (az P tx) fun q=>(q=true∧∀y∈ys,y.length=sz)∧k ys []:=(rfl)
theorem baw(tx sz:Nat)(b:Bool):yv P tx sz σ (.sn b) k=bv (az P tx) fun q=>q=true∧k [] []:=(rfl)
theorem baf(tx sz:Nat)(m n:Nat):yv P tx sz σ (.os m n) k=bv (ag σ m) fun B=>bv (az P tx) fun q=>match B with
  |some (.arr _ sz' _ ys)=>(q=true∧n=ys.length∧sz'=sz)∧k ys [m]
  |_=>False:=by
 simp only[yv,bv]
 rcases ag σ m with _|B<;>(try rfl)<;>cases B<;>rfl
theorem a69(tx sz:Nat)(l:List UInt8):yv P tx sz σ (.str l) k=bv (gg P tx) fun q=>(q=true∧sz=1)∧k (bg l) []:=(rfl)
theorem a8z(e sz bytes:Nat)(d:Option Nat)(n m:Nat)(ys:List (List PV))(F:List Nat):wj e sz bytes d σ (.os n m) K ys F=bv (ag σ n) fun B=>match B with
  |some (.arr e' sz' sh xs)=>(e'=e∧sz'=sz∧m=xs.length∧(xs.length+ys.length)*bytes≤140737488355328)∧K (.os n (m+ys.length)) [(n,.arr e sz sh (xs++ys))] (n::F)
  |some (.arh e' sz' xs)=>(e'=e∧sz'=sz∧m=xs.length∧(xs.length+ys.length)*bytes≤140737488355328)∧K (.os n (m+ys.length)) [(n,.arh e sz (xs++ys))] (n::F)
  |_=>False:=by
 simp only[wj,bv]
 rcases ag σ n with _|B<;>(try rfl)<;>cases B<;>rfl
theorem azz(e sz bytes d:Nat)(ys:List (List PV))(F:List Nat):wj e sz bytes (some d) σ .nils K ys F=((ag σ d=none∧ys.length*bytes≤140737488355328)∧K (.os d ys.length) [(d,.arr e sz false ys)] (d::F)):=(rfl)
theorem bbr(e sz bytes d:Nat)(xs ys:List (List PV))(F:List Nat):wj e sz bytes (some d) σ (.vx xs) K ys F=((ag σ d=none∧(∀x∈xs,x.length=sz)∧(xs.length+ys.length)*bytes≤140737488355328)∧(ys=[]→K (.vs xs) [] F)∧(0<ys.length→K (.os d (xs.length+ys.length)) [(d,.arr e sz false (xs++ys))] (d::F))):=(rfl)
theorem a7n(t len:Nat)(parts:List (Nat×PV))(d:Nat):ij P t len parts (some d) σ K=bv (slT P t) fun s=>match s with
  |some (e,sz,_)=>bv (ag σ (900000+d)) fun hint=>match hint with
   |none=>bv (o5 σ sz 0 parts) fun r=>match r with
    |some (xs,ns)=>(ag σ d=none∧len=parts.length∧len*sz≤16777216)∧kk K (.os d xs.length) (da σ ns++[(d,.arr e sz false xs)]) (d::ns)
    |none=>False
   |some _=>bv (ow σ sz 0 parts) fun r=>match r with
    |some (xs,ns)=>(ag σ d=none∧len=parts.length∧len*sz≤16777216)∧kk K (.os d xs.length) (da σ ns++[(d,.arr e sz false xs)]) (d::ns)
    |none=>False
  |none=>False:=by
 simp only[ij,bv,kk]
 rcases slT P t with _|⟨e,sz,b⟩
 ·rfl
 ·simp only
  rcases ag σ (900000+d)with _|B
  ·simp only;rcases o5 σ sz 0 parts with _|⟨xs,ns⟩<;>simp only[and_assoc]
  ·simp only;rcases ow σ sz 0 parts with _|⟨xs,ns⟩<;>simp only[and_assoc]
end
section
variable (P:Program) (σ:ASt) (K:KT) {α:Type} [Inhabited α] (f:α→List PV) (l:List α)
theorem ix{i:Nat}(h:i<l.length):dj (l.map f) i=f (el l i):=p6 f l i h
theorem av5(t:TypeId)(kd:IntKind)(i:Int):bo P t σ (.vs (l.map f)) (.int kd i) K=bv (slT P t) fun s=>match s with
  |some (_,sz,_)=>(0≤i∧i<l.length)∧bv (f (el l i.toNat)) fun c=>c.length=sz∧kk K (.el c) [] []
  |none=>False:=by
 rw[aj4]
 simp only[bv]
 rcases slT P t with _|⟨e,sz,b⟩
 ·rfl
 ·simp only[List.length_map]
  refine propext (and_congr_right fun h=> ?_)
  rw[ix f l (by omega)]
theorem aqy(n k i off e sz:Nat)(sh:Bool):ap7 n k i off K (some none) (some (.arr e sz sh (l.map f)))=((k=l.length∧i<k)∧bv (f (el l i)) fun c=>off<c.length∧kk K (ff c off) [] [n]):=by
 simp only[ap7,bv,List.length_map,and_assoc]
 refine propext (and_congr_right fun h1=>and_congr_right fun h2=> ?_)
 rw[ix f l (by omega)]
theorem asd(n k i off m e sz:Nat)(sh:Bool):ap7 n k i off K (some (some m)) (some (.arr e sz sh (l.map f)))=((k=l.length∧i<k)∧bv (f (el l i)) fun c=>off+m≤c.length∧kk K (.agg ((c.drop off).take m)) [] [n]):=by
 simp only[ap7,bv,List.length_map,and_assoc]
 refine propext (and_congr_right fun h1=>and_congr_right fun h2=> ?_)
 rw[ix f l (by omega)]
end
theorem a4o(P:Program)(σ:ASt){α:Type}(f:α→List PV)(l:List α)(tx sz:Nat)(k:List (List PV)→List Nat→Prop):yv P tx sz σ (.vs (l.map f)) k=bv (az P tx) fun q=>(q=true∧∀y∈l,(f y).length=sz)∧k (l.map f) []:=by
 simp only[yv,bv,List.forall_mem_map]
def u8(b:UInt8):List PV:=[.int .u8 b.toNat]
theorem bd1(b:UInt8):u8 b=[.int .u8 b.toNat]:=(rfl)
theorem aom(l:List UInt8):bg l=l.map u8:=(rfl)
section
variable (P:Program) (N:Nat) (Q:td) (fr:AFr) (σ:ASt)
theorem a5d:wv P N .skip Q fr σ=Q .normal fr σ:=(rfl)
theorem a4f(id:Nat):wv P N (.exit id) Q fr σ=Q (.exit id) fr σ:=(rfl)
theorem baa:wv P N .ret Q fr σ=Q .ret fr σ:=(rfl)
theorem bbg(a b:Code):wv P N (.seq a b) Q fr σ=wv P N a (wl (wv P N b Q) Q) fr σ:=(rfl)
theorem a1c(id:Nat)(c:Code):wv P N (.block id c) Q fr σ=wv P N c (zg id Q) fr σ:=(rfl)
def a4c(a b:Code):PV→Prop
 | .bool t=>(t=true→wv P N a Q fr σ)∧(t=false→wv P N b Q fr σ)
 |_=>False
theorem a6s(c:Operand)(a b:Code):wv P N (.cond c a b) Q fr σ=bv (ev fr c) (a4c P N Q fr σ a b):=by
 simp only[wv,bv]
 cases ev fr c<;>rfl
theorem aam(a b:Code)(t:Bool):a4c P N Q fr σ a b (.bool t)=((t=true→wv P N a Q fr σ)∧(t=false→wv P N b Q fr σ)):=(rfl)
theorem avn(id:Nat)(l:List Oper):wv P N (.region id l.toArray false) Q fr σ=l7 P l.toArray l fr σ (Q .normal):=(rfl)
def okD(ops:List Oper)(g:Log):Prop:=adw ops.toArray g.reverse=true
theorem apo(id:Nat)(l:List Oper):wv P N (.region id l.toArray true) Q fr σ=evD P l.toArray l fr σ [] fun fr' σ' g=>okD l g∧Q .normal fr' σ':=(rfl)
variable (K:AFr→ASt→Prop)
theorem afr:wl K Q .normal fr σ=K fr σ:=(rfl)
theorem ani(id:Nat):wl K Q (.exit id) fr σ=Q (.exit id) fr σ:=(rfl)
theorem ati:wl K Q .ret fr σ=Q .ret fr σ:=(rfl)
theorem aa1(id:Nat):zg id Q .normal fr σ=Q .normal fr σ:=(rfl)
theorem ane(id:Nat):zg id Q .ret fr σ=Q .ret fr σ:=(rfl)
theorem ajz(id id':Nat):zg id Q (.exit id') fr σ=if id'=id then Q .normal fr σ else Q (.exit id') fr σ:=(rfl)
variable (rs:List ResultVar) (ns exts:List Nat) (r:PV) (nb ext':List Box)
theorem ajk:bdc P rs ns exts r nb ext' .normal fr σ=a2l P rs ns exts r nb ext' fr σ:=(rfl)
theorem a1n:bdc P rs ns exts r nb ext' .ret fr σ=a2l P rs ns exts r nb ext' fr σ:=(rfl)
theorem a7k:a2l P rs ns exts r nb ext' fr σ=bv (aqg P fr σ rs) fun us=>bv (ze σ ns) fun a=>bv (ze σ exts) fun b=>match us with
  |some us=>bv (sy σ ns exts us) fun c=>match a,b,c with
   |some (nb0,b1),some (e0,b2),some (us',b3)=>x5 ns exts (b1++(b2++b3))=true∧nb0=nb∧e0=ext'∧aou us'=r
   |_,_,_=>False
  |none=>False:=by
 simp only[a2l,bv]
 rcases aqg P fr σ rs with _|us
 ·rfl
 ·simp only
  rcases ze σ ns with _|⟨nb0,b1⟩<;>(try rfl)<;>rcases ze σ exts with _|⟨e0,b2⟩<;>(try rfl)<;>rcases sy σ ns exts us with _|⟨us',b3⟩<;>rfl
end
attribute [congr] axp
theorem aih{a0}:em (.move a0)=false:=(rfl)
theorem ac3{a0}:em (.assign a0)=false:=(rfl)
theorem ajl{a0}{a1}{a2}:em (.pick a0 a1 a2)=false:=(rfl)
theorem ag0{a0}:em (.alloc a0)=false:=(rfl)
theorem adf{a0}{a1}:em (.build a0 a1)=false:=(rfl)
theorem rp{a0}{a1}{a2}:em (.buildSlice a0 a1 a2)=false:=(rfl)
theorem ah4{a0}{a1}:em (.load a0 a1)=false:=(rfl)
theorem aeh{a0}{a1}{a2}:em (.store a0 a1 a2)=false:=(rfl)
theorem xu{a0}:em (.nilCheck a0)=false:=(rfl)
theorem agi{a0}{a1}{a2}{a3}{a4}:em (.binOp a0 a1 a2 a3 a4)=false:=(rfl)
theorem ahz{a0}{a1}{a2}:em (.unOp a0 a1 a2)=false:=(rfl)
theorem ym{a0}{a1}{a2}:em (.convert a0 a1 a2)=false:=(rfl)
theorem agt{a0}{a1}{a2}{a3}{a4}:em (.slice a0 a1 a2 a3 a4)=false:=(rfl)
theorem tg{a0}{a1}{a2}:em (.fieldAddr a0 a1 a2)=false:=(rfl)
theorem s5{a0}{a1}{a2}:em (.indexAddr a0 a1 a2)=false:=(rfl)
theorem aeb{a0}{a1}{a2}:em (.index a0 a1 a2)=false:=(rfl)
theorem yq{a0}{a1}:em (.extract a0 a1)=false:=(rfl)
theorem ahx{a0}:em (.call a0)=false:=(rfl)
attribute [go_sem] aih ac3 ajl ag0 adf rp ah4 aeh xu agi ahz ym agt tg s5 aeb yq ahx
attribute [go_sem ↓] as9 a91 atb aoy asi aup anc aw4 a2i aau a0h a4t ahi
attribute [go_sem] au0 akx ms ow lm aqa jp a2w axg aav a0y Box.arh.injEq Box.mp.injEq Box.it.injEq PV.mh.injEq
attribute [go_sem ↓] bdv
attribute [go_sem ↓] bct azl aww bam a1h a3y atq a0d axk as2 axw awn
attribute [go_sem ↓] ahh af9 ae3 awy aox am3 aji a4b ae0 abd aaz a57 a1s a17 abv ax7
attribute [go_sem ↓] a1i akr
attribute [go_sem ↓ 1100] a1v
attribute [go_sem ↓ 1100] aqy asd av5 a4o
theorem a62(d e:Nat)(l:List UInt8)(K:KT):ben d e l K=kk K (.os d l.length) [(d,.arr e 1 false (l.map u8))] [d]:=(rfl)
attribute [go_sem] bd1 aom a62
attribute [go_sem ↓] ag8 ap6 ah9
attribute [go_sem] ann apl aoq am8 bds aqk a2j axi aqw as7 asv apu aoz
attribute [go_sem ↓] amx a35 atw avp a1g apf az8 aao afa azd ahr azj ar6 a3w awa yn a00 awd acu aaq aq4 ato ayu aj0 aqp aa5 af1 ax8 a4h an9 a4y
attribute [go_sem ↓] ao8 avk an7 ux aip ai5 ao6 ahf aj4 ay4 av9 aia ail aq5 a1p ayn am2 avm
attribute [go_sem ↓] a31 a74 a6u a44 a6q a4u a6p a4g a9d a4x a5i a5k a6c a5n a63 a7h azh ax1 azp a0j aya a1u axm a8x a9j bau a90
attribute [go_sem ↓] aoc anq baw
attribute [go_sem ↓] a9b a7v ba9 bbj az2 a1x a8v bay as8 atz arz awz bdu bdq a9c a3z a0g a5g bbr baf a69 a8z azz a7n
attribute [go_sem] a65 a3v a6x a7u anw ahy auz azs ath a1b avi
attribute [go_sem ↓] a5d a4f baa bbg a1c a6s aam avn apo afr ani ati aa1 ane ajz ajk a1n a7k
theorem a61(σ:ASt)(fr:AFr):wkF σ fr []=True:=(rfl)
theorem ayz(σ:ASt)(fr:AFr)(s:Nat)(u:PV)(r:AFr):wkF σ fr ((s,u)::r)=(bv (look fr s) (fun v=>bv u fun u=>wkU σ v u)∧wkF σ fr r):=(rfl)
theorem a4k(fr:AFr):wkN fr []=[]:=(rfl)
theorem a06(fr:AFr)(s:Nat)(u:PV)(r:AFr):wkN fr ((s,u)::r)=a8e (look fr s) u++wkN fr r:=(rfl)
theorem a38(σ:ASt):wkS σ []=True:=(rfl)
theorem a2b(σ:ASt)(n:Nat)(B:Box)(r:ASt):wkS σ ((n,B)::r)=(bv (ag σ n) (fun v=>v=some B)∧wkS σ r):=(rfl)
theorem bde(fr:AFr)(σ:ASt)(fr':AFr)(σ':ASt):wk fr σ fr' σ'=(wkF σ fr fr'∧wkS σ σ'∧aky (σ'.map (·.1)) (wkN fr fr')=true∧a20 (σ'.map (·.1)) fr'=true∧zb (σ'.map (·.1)) σ'=true∧a8a (σ'.map (·.1)) σ=true):=(rfl)
theorem loop{P:Program}(hm:P.follows .mixedOrders=true){N:Nat}{c:Code}{Q:td}{fr:AFr}{σ:ASt}{ι:Type}(i0:ι)(fs:ι→AFr)(ss:ι→ASt)(I:ι→Prop)(μ:ι→Nat)(hc:gk N c=true)(hI:I i0)(hw:wk fr σ (fs i0) (ss i0))
  (round: ∀i,I i→wv P N c (wl (fun fr' σ'=> ∃j,(I j∧μ j<μ i)∧wk fr' σ' (fs j) (ss j)) Q) (fs i) (ss i)):wv P N (.loop c) Q fr σ:=
 a9f hm hc fs ss I μ i0 hI hw round
theorem bc5{P:Program}(hm:P.follows .mixedOrders=true){N:Nat}{c:Code}{Q:td}{fr:AFr}{σ:ASt}{ι:Type}(i0:ι)(fs:ι→AFr)(ss:ι→ASt)(I:ι→Prop)(μ:ι→Nat)(hc:gk N c=true)(l0:List (Nat×Nat))(hI:I i0)(hw:wkR l0 fr σ (fs i0) (ss i0))
  (round: ∀i,I i→wv P N c (wl (fun fr' σ'=> ∃j l,(I j∧μ j<μ i)∧wkR l fr' σ' (fs j) (ss j)) Q) (fs i) (ss i)):wv P N (.loop c) Q fr σ:=
 a4e hm hc fs ss I μ i0 hI l0 hw round
theorem bbf(l:List (Nat×Nat))(fr:AFr)(σ:ASt)(fr':AFr)(σ':ASt):wkR l fr σ fr' σ'=(a3j l fr σ∧bv (at8 l fr σ) fun p=>wk p.1 p.2 fr' σ'):=(rfl)
theorem azc(fr:AFr)(σ:ASt):a3j [] fr σ=True:=(rfl)
theorem avf(n m:Nat)(r:List (Nat×Nat))(fr:AFr)(σ:ASt):a3j ((n,m)::r) fr σ=((bv (ag σ m) (fun B=>B=none)∧n<1000000∧m<1000000∧n≠m)∧bv (axc n m fr) fun fr=>bv (yh n m σ) fun σ=>a3j r fr σ):=(rfl)
theorem a0n(fr:AFr)(σ:ASt):at8 [] fr σ=(fr,σ):=(rfl)
theorem arx(n m:Nat)(r:List (Nat×Nat))(fr:AFr)(σ:ASt):at8 ((n,m)::r) fr σ=at8 r (axc n m fr) (yh n m σ):=(rfl)
attribute [go_sem ↓] bbf azc avf
attribute [go_sem] a0n arx axc yh renV mn jv rn
attribute [go_sem ↓] a4k a61 ayz a38 a2b bde
attribute [go_sem] a06 wkU a8e aky a20 zb a8a a2v afi
attribute [go_sem] decide_true decide_false decide_eq_true_eq decide_eq_false_iff_not Bool.not_eq_true' Bool.not_eq_false' Bool.not_true Bool.not_false true_and and_true false_and and_false forall_const implies_true not_true_eq_false not_false_eq_true eq_self ne_eq
attribute [go_sem] Bool.true_and Bool.and_true Bool.false_and Bool.and_false Bool.true_or Bool.or_true Bool.false_or Bool.or_false Bool.and_eq_true Bool.or_eq_true Bool.not_eq_true Bool.true_eq_false Bool.false_eq_true
attribute [go_sem] List.length_map List.length_cons List.length_nil List.length_append List.length_replicate List.map_cons List.map_nil List.append_nil List.nil_append List.cons_append List.toList_toArray List.all_nil List.all_cons
attribute [go_sem] List.take_zero List.take_succ_cons List.take_nil List.drop_zero List.drop_succ_cons List.drop_nil Option.map_some Option.map_none Option.getD_some Option.isSome_some Option.isSome_none
theorem baz{α:Type}(f:α→List PV)(l:List α)(n:Nat):(l.map f).take n=(l.take n).map f:=List.map_take.symm
theorem a9s{α:Type}(f:α→List PV)(l:List α)(n:Nat):(l.map f).drop n=(l.drop n).map f:=List.map_drop.symm
theorem all_map{α:Type}(f:α→List PV)(l:List α)(p:List PV→Prop):(∀x∈l.map f,p x)= ∀x∈l,p (f x):=by simp
attribute [go_sem] baz a9s
attribute [go_sem ↓] all_map
theorem bax(n:Nat):((no_index (OfNat.ofNat n):Nat):Int)=OfNat.ofNat n:=(rfl)
attribute [go_sem] bax Int.toNat_natCast Int.toNat_zero Int.ofNat_lt Int.ofNat_le Int.natCast_nonneg Int.ofNat_eq_natCast Int.zero_le_ofNat
attribute [go_sem] PV.int.injEq PV.bool.injEq PV.vs.injEq PV.str.injEq PV.os.injEq PV.tup.injEq PV.agg.injEq PV.ptr.injEq PV.el.injEq PV.fn.injEq Box.arr.injEq Box.cells.injEq Option.some.injEq Prod.mk.injEq List.cons.injEq
attribute [go_sem] List.not_mem_nil List.mem_cons List.contains_nil List.contains_cons or_false false_or not_or Nat.not_lt_zero Nat.zero_add Nat.add_zero
attribute [go_sem] dt pur gq o5 a9q aqg ajo ze azq sy aou ny eqC vn yj xb fw
end Go.Proofs.Am
