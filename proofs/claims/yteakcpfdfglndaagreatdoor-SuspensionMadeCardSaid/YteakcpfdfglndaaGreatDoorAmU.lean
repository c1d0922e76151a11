/- AmU. -/
import Derived.Test.YteakcpfdfglndaaGreatDoorAmS
set_option linter.unusedSimpArgs false
set_option linter.unusedVariables false
namespace Go.Proofs.Am
open Go Go.RowKit
variable {P:Program}
section
variable (P:Program) (σ:ASt) (K:KT) (J:PV→Prop)
theorem a6h(t:TypeId)(k k':IntKind)(a b:Int):f8 P .add t (.int k a) (.int k' b) J=(k=k'∧J (.int k (k.wrap (a+b)))):=(rfl)
theorem a6p(t:TypeId)(k k':IntKind)(a b:Int):f8 P .sub t (.int k a) (.int k' b) J=(k=k'∧J (.int k (k.wrap (a - b)))):=(rfl)
theorem a86(t:TypeId)(k k':IntKind)(a b:Int):f8 P .mul t (.int k a) (.int k' b) J=(k=k'∧J (.int k (k.wrap (a*b)))):=(rfl)
theorem a8l(t:TypeId)(k k':IntKind)(a b:Int):f8 P .quo t (.int k a) (.int k' b) J=(k=k'∧b≠0∧J (.int k (k.wrap (a.tdiv b)))):=(rfl)
theorem a8j(t:TypeId)(k k':IntKind)(a b:Int):f8 P .rem t (.int k a) (.int k' b) J=(k=k'∧b≠0∧J (.int k (a.tmod b))):=(rfl)
theorem a5m(t:TypeId)(k k':IntKind)(a b:Int):f8 P .shl t (.int k a) (.int k' b) J=(0≤b∧J (.int k (k.wrap (a*2^min b.toNat k.bits)))):=(rfl)
theorem a5g(t:TypeId)(k k':IntKind)(a b:Int):f8 P .shr t (.int k a) (.int k' b) J=(0≤b∧J (.int k (a.fdiv (2^min b.toNat k.bits)))):=(rfl)
theorem a5j(t:TypeId)(k k':IntKind)(a b:Int):f8 P .and t (.int k a) (.int k' b) J=(k=k'∧J (.int k (bits .and k a b))):=(rfl)
theorem bc1(t:TypeId)(k k':IntKind)(a b:Int):f8 P .or t (.int k a) (.int k' b) J=(k=k'∧J (.int k (bits .or k a b))):=(rfl)
theorem a8h(t:TypeId)(k k':IntKind)(a b:Int):f8 P .xor t (.int k a) (.int k' b) J=(k=k'∧J (.int k (bits .xor k a b))):=(rfl)
theorem a9d(t:TypeId)(k k':IntKind)(a b:Int):f8 P .eql t (.int k a) (.int k' b) J=(k=k'∧J (.bool (decide (a=b)))):=(rfl)
theorem a8r(t:TypeId)(k k':IntKind)(a b:Int):f8 P .neq t (.int k a) (.int k' b) J=(k=k'∧J (.bool (decide (a≠b)))):=(rfl)
theorem a7d(t:TypeId)(k k':IntKind)(a b:Int):f8 P .lss t (.int k a) (.int k' b) J=(k=k'∧J (.bool (decide (a<b)))):=(rfl)
theorem a78(t:TypeId)(k k':IntKind)(a b:Int):f8 P .leq t (.int k a) (.int k' b) J=(k=k'∧J (.bool (decide (a≤b)))):=(rfl)
theorem a8o(t:TypeId)(k k':IntKind)(a b:Int):f8 P .gtr t (.int k a) (.int k' b) J=(k=k'∧J (.bool (decide (b<a)))):=(rfl)
theorem a6l(t:TypeId)(k k':IntKind)(a b:Int):f8 P .geq t (.int k a) (.int k' b) J=(k=k'∧J (.bool (decide (b≤a)))):=(rfl)
theorem a08(t:TypeId)(a b:Bool):f8 P .eql t (.bool a) (.bool b) J=(P.underlying t=some .bool∧J (.bool (decide (a=b)))):=(rfl)
theorem a2p(t:TypeId)(a b:List UInt8):f8 P .eql t (.str a) (.str b) J=J (.bool (decide (a=b))):=(rfl)
theorem a3w(t:TypeId)(a b:List UInt8):f8 P .neq t (.str a) (.str b) J=J (.bool (decide (a≠b))):=(rfl)
theorem a30(t:TypeId)(a b:List UInt8):f8 P .lss t (.str a) (.str b) J=J (.bool (Op.bytesLess a b)):=(rfl)
theorem a0y(t:TypeId)(a b:List UInt8):f8 P .geq t (.str a) (.str b) J=J (.bool (!Op.bytesLess a b)):=(rfl)
theorem a1f(t:TypeId)(a b:List PV):f8 P .eql t (.agg a) (.agg b) J=bv (o5 P t) fun f=>match f with|some ks=>bv (wb ks a b) (fun q=>match q with|some b=>J (.bool b)|none=>False)|none=>False:=by
 simp only[f8,bv]
 cases o5 P t with
 |none=>rfl
 |some ks=>simp only;cases wb ks a b<;>rfl
theorem a00(t:TypeId)(a b:List PV):f8 P .neq t (.agg a) (.agg b) J=bv (o5 P t) fun f=>match f with|some ks=>bv (wb ks a b) (fun q=>match q with|some b=>J (.bool (!b))|none=>False)|none=>False:=by
 simp only[f8,bv]
 cases o5 P t with
 |none=>rfl
 |some ks=>simp only;cases wb ks a b<;>rfl
theorem ap5(t:TypeId)(b:Bool):f8 P .eql t (.sn b) .nils J=bv (da P t) fun e=>e.isSome=true∧J (.bool b):=(rfl)
theorem an1(t:TypeId)(xs:List (List PV)):f8 P .eql t (.vs xs) .nils J=bv (da P t) fun e=>(e.isSome=true∧0<xs.length)∧J (.bool false):=(rfl)
theorem bbg(b:Bool):a7o .not (.bool b) J=J (.bool (!b)):=(rfl)
theorem ba2(k:IntKind)(n:Int):a7o .neg (.int k n) J=J (.int k (k.wrap (0 - n))):=(rfl)
theorem a9x(k:IntKind)(n:Int):a7o .xor (.int k n) J=J (.int k (bits .xor k (if k.signed then -1 else k.max) n)):=(rfl)
theorem bc8(k k':IntKind)(a b:Int):a9n false (.int k a) (.int k' b) K=K (.int k (if b<a then b else a)) [] []:=(rfl)
theorem a7v:loN none=some 0:=(rfl)
theorem a87(k:IntKind)(n:Int):loN (some (.int k n))=some n:=(rfl)
theorem a8s(l:Nat):hiN l none=some (l:Int):=(rfl)
theorem a6g(l:Nat)(k:IntKind)(n:Int):hiN l (some (.int k n))=some n:=(rfl)
theorem bdw(t:TypeId)(xs:List (List PV))(lo hi mx:Option PV):fc P t σ (.vs xs) lo hi mx K=bv (slT P t) fun s=>bv (loN lo) fun l=>bv (hiN xs.length hi) fun h=>bv (hiN xs.length mx) fun m=>match l,s,h,m with
  |some l,some (_,sz,_),some h,some m=>(0≤l∧l≤h∧h≤m∧m≤xs.length∧(mx.isSome=true→hi.isSome=true))∧(0<l→∀x∈xs,x.length=sz)∧K (.vs ((xs.take h.toNat).drop l.toNat)) [] []
  |_,_,_,_=>False:=by
 simp only[fc,bv]
 rcases loN lo with _|l<;>(try rfl)<;>rcases slT P t with _|⟨e,sz,b⟩<;>(try rfl)<;>rcases hiN xs.length hi with _|h<;>(try rfl)<;>rcases hiN xs.length mx with _|m<;>rfl
theorem bfj(t:TypeId)(n k:Nat)(lo hi mx:Option PV):fc P t σ (.os n k) lo hi mx K=bv (ah σ n) fun B=>match B with
  |some (.arr _ asz _ xs)=>bv (slT P t) fun s=>bv (loN lo) fun l=>bv (hiN xs.length hi) fun h=>bv (hiN xs.length mx) fun m=>match l,s,h,m with
   |some l,some (_,sz,_),some h,some m=>(asz=sz∧k=xs.length∧0≤l∧l≤h∧h≤m∧m≤xs.length∧(mx.isSome=true→hi.isSome=true))∧K (.vs ((xs.take h.toNat).drop l.toNat)) (dm σ [n]) [n]
   |_,_,_,_=>False
  |_=>False:=by
 simp only[fc,bv]
 rcases loN lo with _|l
 ·rcases ah σ n with _|B
  ·rfl
  ·cases B<;>rfl
 ·rcases ah σ n with _|B
  ·rfl
  ·cases B with
   |cells cs=>rfl
   |arh e sz xs=>rfl
   |mp es=>rfl
   |it m k d=>rfl
   |si l p=>rfl
   |dead sz l=>rfl
   |arr e asz sh xs=>simp only;rcases slT P t with _|⟨e,sz,b⟩<;>(try rfl)<;>rcases hiN xs.length hi with _|h<;>(try rfl)<;>rcases hiN xs.length mx with _|m<;>rfl
theorem bbl(t:TypeId)(xs:List (List PV))(lo hi:Option PV):ip P t σ (.vs xs) lo hi none K=fc P t σ (.vs xs) lo hi none K:=(rfl)
theorem a7n(t:TypeId)(s:List UInt8)(lo hi:Option PV):ip P t σ (.str s) lo hi none K=fc P t σ (.str s) lo hi none K:=(rfl)
theorem bbb(t:TypeId)(xs:List (List PV))(k1 k2:IntKind)(i j:Int):ip P t σ (.vs xs) none (some (.int k1 i)) (some (.int k2 j)) K=bv (slT P t) fun s=>match s with
  |some _=>(i=j∧0≤i∧i≤xs.length)∧kk K (.vx (xs.take i.toNat)) [] []
  |none=>False:=by
 simp only[ip,a6e,bv,kk]
 rcases slT P t with _|⟨e,sz,b⟩<;>rfl
def bd0(P:Program)(t:TypeId)(σ:ASt)(n k:Nat)(lo hi mx:Option PV)(K:KT):Option Box→Prop
 |some (.arh e asz xs)=>afm P t σ n k e asz xs lo hi mx K
 |_=>fc P t σ (.os n k) lo hi mx K
theorem bcn(t:TypeId)(n k:Nat)(lo hi:Option PV):ip P t σ (.os n k) lo hi none K=bv (ah σ n) (bd0 P t σ n k lo hi none K):=by
 simp only[ip,bv]
 rcases ah σ n with _|B
 ·rfl
 ·cases B<;>rfl
theorem a2v(t:TypeId)(n k:Nat)(lo hi mx:Option PV)(e sz:Nat)(sh:Bool)(xs:List (List PV)):bd0 P t σ n k lo hi mx K (some (.arr e sz sh xs))=fc P t σ (.os n k) lo hi mx K:=(rfl)
theorem a13(t:TypeId)(n k:Nat)(lo hi mx:Option PV)(e sz:Nat)(xs:List (List PV)):bd0 P t σ n k lo hi mx K (some (.arh e sz xs))=afm P t σ n k e sz xs lo hi mx K:=(rfl)
theorem bb3(t:TypeId)(n k e asz:Nat)(xs:List (List PV))(kd:IntKind)(i:Int):afm P t σ n k e asz xs (some (.int kd i)) none none K=bv (slT P t) fun s=>match s with
  |some (_,sz,_)=>(asz=sz∧k=xs.length∧0≤i∧i<k)∧kk K (.osl n k i.toNat) [] [n]
  |none=>False:=by
 simp only[afm,bv,kk]
 rcases slT P t with _|⟨e,sz,b⟩<;>first|rfl|simp only[and_assoc]
theorem a9w(t:TypeId)(n k e asz:Nat)(xs:List (List PV))(kd:IntKind)(i:Int):afm P t σ n k e asz xs none (some (.int kd i)) none K=bv (slT P t) fun s=>match s with
  |some (_,sz,_)=>(asz=sz∧k=xs.length∧0≤i∧i≤k)∧jw σ xs=some (xs,[])∧kk K (.vs (xs.take i.toNat)) [(n,.arr e asz true xs)] [n]
  |none=>False:=by
 simp only[afm,bv,kk]
 rcases slT P t with _|⟨e,sz,b⟩<;>rfl
theorem axz(t:TypeId)(n k i:Nat):api P t σ (.osl n k i) K=bv (slT P t) fun s=>bv (ah σ n) fun B=>match s,B with
  |some (e',sz,_),some (.arh e asz xs)=>bv (bf P e') fun z=>match z with
   |some zs=>(asz=sz∧k=xs.length∧i<k∧zs.all ge=true)∧K (.tup []) [(n,.arh e asz (xs.take i++List.replicate (k - i) (zs.map zf)))] [n]
   |none=>False
  |_,_=>False:=by
 simp only[api,bv]
 rcases slT P t with _|⟨e,sz,b⟩<;>(try rfl)<;>rcases ah σ n with _|B<;>(try rfl)<;>cases B<;>(try rfl)
 all_goals (simp only;rcases bf P e with _|z<;>rfl)
theorem bc4(t:TypeId)(s:List UInt8)(lo hi:Option PV):fc P t σ (.str s) lo hi none K=bv (gl P t) fun q=>bv (loN lo) fun l=>bv (hiN s.length hi) fun h=>match l,h with
  |some l,some h=>(q=true∧0≤l∧l≤h∧h≤s.length)∧K (.str ((s.take h.toNat).drop l.toNat)) [] []
  |_,_=>False:=by
 simp only[fc,bv]
 rcases loN lo with _|l<;>(try rfl)<;>rcases hiN s.length hi with _|h<;>(try rfl)
 simp
theorem aq9:dm σ []=[]:=(rfl)
theorem akr(n:Nat)(r:List Nat):dm σ (n::r)=(n,((ah σ n).getD (.cells [])).share)::dm σ r:=(rfl)
theorem ar2(e sz:Nat)(sh:Bool)(xs:List (List PV)):Box.share (.arr e sz sh xs)= .arr e sz true xs:=(rfl)
theorem a54(t:TypeId)(d:Nat)(k1 k2:IntKind)(l c:Int):r8 P t (some d) σ (.int k1 l) (.int k2 c) K=bv (slT P t) fun s=>match s with
  |some (e,sz,bytes)=>bv (bf P e) fun z=>match z with
   |some zs=>(zs.all ge=true∧0≤l∧l≤c∧(bytes:Int)*c≤140737488355328∧c≤140737488355328∧ah σ d=none)∧K (.os d l.toNat) [(d,.arr e sz false (List.replicate l.toNat (zs.map zf)))] [d]
   |none=>False
  |none=>False:=by
 simp only[r8,bv]
 rcases slT P t with _|⟨e,sz,b⟩
 ·rfl
 ·simp only;rcases bf P e with _|z<;>rfl
theorem az5(t tx:TypeId)(d:Option Nat)(u v:PV):aak P t tx d σ u v K=bv (slT P t) fun s=>match s with
  |some (e,sz,bytes)=>y2 P tx sz σ v (yk e sz bytes d σ u K)
  |none=>False:=by
 simp only[aak,bv]
 rcases slT P t with _|⟨e,sz,b⟩<;>rfl
variable (k:List (List PV)→List Nat→Prop)
theorem a69(tx sz:Nat)(ys:List (List PV)):y2 P tx sz σ (.vs ys) k=bv (bg P tx) fun q=>(q=true∧∀y∈ys,y.length=sz)∧k ys []:=(rfl)
theorem a90(tx sz:Nat)(b:Bool):y2 P tx sz σ (.sn b) k=bv (bg P tx) fun q=>q=true∧k [] []:=(rfl)
theorem bas(tx sz:Nat)(m n:Nat):y2 P tx sz σ (.os m n) k=bv (ah σ m) fun B=>bv (bg P tx) fun q=>match B with
  |some (.arr _ sz' _ ys)=>(q=true∧n=ys.length∧sz'=sz)∧k ys [m]
  |_=>False:=by
 simp only[y2,bv]
 rcases ah σ m with _|B<;>(try rfl)<;>cases B<;>rfl
theorem a73(tx sz:Nat)(l:List UInt8):y2 P tx sz σ (.str l) k=bv (gl P tx) fun q=>(q=true∧sz=1)∧k (bj l) []:=(rfl)
theorem baq(e sz bytes:Nat)(d:Option Nat)(n m:Nat)(ys:List (List PV))(F:List Nat):yk e sz bytes d σ (.os n m) K ys F=bv (ah σ n) fun B=>match B with
  |some (.arr e' sz' sh xs)=>(e'=e∧sz'=sz∧m=xs.length∧(xs.length+ys.length)*bytes≤140737488355328)∧K (.os n (m+ys.length)) [(n,.arr e sz sh (xs++ys))] (n::F)
  |some (.arh e' sz' xs)=>(e'=e∧sz'=sz∧m=xs.length∧(xs.length+ys.length)*bytes≤140737488355328)∧K (.os n (m+ys.length)) [(n,.arh e sz (xs++ys))] (n::F)
  |_=>False:=by
 simp only[yk,bv]
 rcases ah σ n with _|B<;>(try rfl)<;>cases B<;>rfl
theorem a0x(e sz bytes d:Nat)(ys:List (List PV))(F:List Nat):yk e sz bytes (some d) σ .nils K ys F=((ah σ d=none∧ys.length*bytes≤140737488355328)∧K (.os d ys.length) [(d,.arr e sz false ys)] (d::F)):=(rfl)
theorem a9v(e sz bytes d:Nat)(xs ys:List (List PV))(F:List Nat):yk e sz bytes (some d) σ (.vx xs) K ys F=((ah σ d=none∧(∀x∈xs,x.length=sz)∧(xs.length+ys.length)*bytes≤140737488355328)∧(ys=[]→K (.vs xs) [] F)∧(0<ys.length→K (.os d (xs.length+ys.length)) [(d,.arr e sz false (xs++ys))] (d::F))):=(rfl)
theorem a6n(t len:Nat)(parts:List (Nat×PV))(d:Nat):iw P t len parts (some d) σ K=bv (slT P t) fun s=>match s with
  |some (e,sz,_)=>bv (ah σ (900000+d)) fun hint=>match hint with
   |none=>bv (po σ sz 0 parts) fun r=>match r with
    |some (xs,ns)=>(ah σ d=none∧len=parts.length∧len*sz≤16777216)∧kk K (.os d xs.length) (dm σ ns++[(d,.arr e sz false xs)]) (d::ns)
    |none=>False
   |some _=>bv (pb σ sz 0 parts) fun r=>match r with
    |some (xs,ns)=>(ah σ d=none∧len=parts.length∧len*sz≤16777216)∧kk K (.os d xs.length) (dm σ ns++[(d,.arr e sz false xs)]) (d::ns)
    |none=>False
  |none=>False:=by
 simp only[iw,bv,kk]
 rcases slT P t with _|⟨e,sz,b⟩
 ·rfl
 ·simp only
  rcases ah σ (900000+d)with _|B
  ·simp only;rcases po σ sz 0 parts with _|⟨xs,ns⟩<;>simp only[and_assoc]
  ·simp only;rcases pb σ sz 0 parts with _|⟨xs,ns⟩<;>simp only[and_assoc]
end
section
variable (P:Program) (σ:ASt) (K:KT) {α:Type} [Inhabited α] (f:α→List PV) (l:List α)
theorem jf{i:Nat}(h:i<l.length):dt (l.map f) i=f (el l i):=qn f l i h
theorem awq(t:TypeId)(kd:IntKind)(i:Int):bt P t σ (.vs (l.map f)) (.int kd i) K=bv (slT P t) fun s=>match s with
  |some (_,sz,_)=>(0≤i∧i<l.length)∧bv (f (el l i.toNat)) fun c=>c.length=sz∧kk K (.el c) [] []
  |none=>False:=by
 rw[amm]
 simp only[bv]
 rcases slT P t with _|⟨e,sz,b⟩
 ·rfl
 ·simp only[List.length_map]
  refine propext (and_congr_right fun h=> ?_)
  rw[jf f l (by omega)]
theorem avq(n k i off e sz:Nat)(sh:Bool):arn n k i off K (some none) (some (.arr e sz sh (l.map f)))=((k=l.length∧i<k)∧bv (f (el l i)) fun c=>off<c.length∧kk K (fm c off) [] [n]):=by
 simp only[arn,bv,List.length_map,and_assoc]
 refine propext (and_congr_right fun h1=>and_congr_right fun h2=> ?_)
 rw[jf f l (by omega)]
theorem auc(n k i off m e sz:Nat)(sh:Bool):arn n k i off K (some (some m)) (some (.arr e sz sh (l.map f)))=((k=l.length∧i<k)∧bv (f (el l i)) fun c=>off+m≤c.length∧kk K (.agg ((c.drop off).take m)) [] [n]):=by
 simp only[arn,bv,List.length_map,and_assoc]
 refine propext (and_congr_right fun h1=>and_congr_right fun h2=> ?_)
 rw[jf f l (by omega)]
end
theorem a7j(P:Program)(σ:ASt){α:Type}(f:α→List PV)(l:List α)(tx sz:Nat)(k:List (List PV)→List Nat→Prop):y2 P tx sz σ (.vs (l.map f)) k=bv (bg P tx) fun q=>(q=true∧∀y∈l,(f y).length=sz)∧k (l.map f) []:=by
 simp only[y2,bv,List.forall_mem_map]
def u8(b:UInt8):List PV:=[.int .u8 b.toNat]
theorem be7(b:UInt8):u8 b=[.int .u8 b.toNat]:=(rfl)
theorem an3(l:List UInt8):bj l=l.map u8:=(rfl)
section
variable (P:Program) (N:Nat) (Q:pv) (fr:AFr) (σ:ASt)
theorem a5k:wv P N .skip Q fr σ=Q .normal fr σ:=(rfl)
theorem a8d(id:Nat):wv P N (.exit id) Q fr σ=Q (.exit id) fr σ:=(rfl)
theorem ba1:wv P N .ret Q fr σ=Q .ret fr σ:=(rfl)
theorem ba6(a b:Code):wv P N (.seq a b) Q fr σ=wv P N a (q7 (wv P N b Q) Q) fr σ:=(rfl)
theorem az4(id:Nat)(c:Code):wv P N (.block id c) Q fr σ=wv P N c (zq id Q) fr σ:=(rfl)
def a8a(a b:Code):PV→Prop
 | .bool t=>(t=true→wv P N a Q fr σ)∧(t=false→wv P N b Q fr σ)
 |_=>False
theorem a7h(c:Operand)(a b:Code):wv P N (.cond c a b) Q fr σ=bv (ev fr c) (a8a P N Q fr σ a b):=by
 simp only[wv,bv]
 cases ev fr c<;>rfl
theorem aaa(a b:Code)(t:Bool):a8a P N Q fr σ a b (.bool t)=((t=true→wv P N a Q fr σ)∧(t=false→wv P N b Q fr σ)):=(rfl)
theorem ax6(id:Nat)(l:List Oper):wv P N (.region id l.toArray false) Q fr σ=mo P l.toArray l fr σ (Q .normal):=(rfl)
def okD(ops:List Oper)(g:Log):Prop:=ad7 ops.toArray g.reverse=true
theorem aod(id:Nat)(l:List Oper):wv P N (.region id l.toArray true) Q fr σ=evD P l.toArray l fr σ [] fun fr' σ' g=>okD l g∧Q .normal fr' σ':=(rfl)
variable (K:AFr→ASt→Prop)
theorem ahc:q7 K Q .normal fr σ=K fr σ:=(rfl)
theorem apy(id:Nat):q7 K Q (.exit id) fr σ=Q (.exit id) fr σ:=(rfl)
theorem axj:q7 K Q .ret fr σ=Q .ret fr σ:=(rfl)
theorem acu(id:Nat):zq id Q .normal fr σ=Q .normal fr σ:=(rfl)
theorem anz(id:Nat):zq id Q .ret fr σ=Q .ret fr σ:=(rfl)
theorem ah2(id id':Nat):zq id Q (.exit id') fr σ=if id'=id then Q .normal fr σ else Q (.exit id') fr σ:=(rfl)
variable (rs:List ResultVar) (ns exts:List Nat) (r:PV) (nb ext':List Box)
theorem akt:bdr P rs ns exts r nb ext' .normal fr σ=ayx P rs ns exts r nb ext' fr σ:=(rfl)
theorem a17:bdr P rs ns exts r nb ext' .ret fr σ=ayx P rs ns exts r nb ext' fr σ:=(rfl)
theorem a62:ayx P rs ns exts r nb ext' fr σ=bv (aro P fr σ rs) fun us=>bv (zi σ ns) fun a=>bv (zi σ exts) fun b=>match us with
  |some us=>bv (t7 σ ns exts us) fun c=>match a,b,c with
   |some (nb0,b1),some (e0,b2),some (us',b3)=>x6 ns exts (b1++(b2++b3))=true∧nb0=nb∧e0=ext'∧aqm us'=r
   |_,_,_=>False
  |none=>False:=by
 simp only[ayx,bv]
 rcases aro P fr σ rs with _|us
 ·rfl
 ·simp only
  rcases zi σ ns with _|⟨nb0,b1⟩<;>(try rfl)<;>rcases zi σ exts with _|⟨e0,b2⟩<;>(try rfl)<;>rcases t7 σ ns exts us with _|⟨us',b3⟩<;>rfl
end
attribute [congr] a3x
theorem ah0{a0}:fa (.move a0)=false:=(rfl)
theorem abv{a0}:fa (.assign a0)=false:=(rfl)
theorem ajo{a0}{a1}{a2}:fa (.pick a0 a1 a2)=false:=(rfl)
theorem age{a0}:fa (.alloc a0)=false:=(rfl)
theorem afp{a0}{a1}:fa (.build a0 a1)=false:=(rfl)
theorem q6{a0}{a1}{a2}:fa (.buildSlice a0 a1 a2)=false:=(rfl)
theorem aii{a0}{a1}:fa (.load a0 a1)=false:=(rfl)
theorem aej{a0}{a1}{a2}:fa (.store a0 a1 a2)=false:=(rfl)
theorem wm{a0}:fa (.nilCheck a0)=false:=(rfl)
theorem ag9{a0}{a1}{a2}{a3}{a4}:fa (.binOp a0 a1 a2 a3 a4)=false:=(rfl)
theorem ah8{a0}{a1}{a2}:fa (.unOp a0 a1 a2)=false:=(rfl)
theorem yy{a0}{a1}{a2}:fa (.convert a0 a1 a2)=false:=(rfl)
theorem ahd{a0}{a1}{a2}{a3}{a4}:fa (.slice a0 a1 a2 a3 a4)=false:=(rfl)
theorem tv{a0}{a1}{a2}:fa (.fieldAddr a0 a1 a2)=false:=(rfl)
theorem tu{a0}{a1}{a2}:fa (.indexAddr a0 a1 a2)=false:=(rfl)
theorem ahg{a0}{a1}{a2}:fa (.index a0 a1 a2)=false:=(rfl)
theorem y9{a0}{a1}:fa (.extract a0 a1)=false:=(rfl)
theorem aj0{a0}:fa (.call a0)=false:=(rfl)
attribute [go_sem] ah0 abv ajo age afp q6 aii aej wm ag9 ah8 yy ahd tv tu ahg y9 aj0
attribute [go_sem ↓] ax4 bbu ayi aof av4 arw aou au9 a2l acw aze a7g aj5
attribute [go_sem] aus ak3 nq pb l4 ark jw a4f ayr acv a1y Box.arh.injEq Box.mp.injEq Box.it.injEq PV.mh.injEq
attribute [go_sem ↓] be3
attribute [go_sem ↓] bei a1r awf baw a1w a7s aww azc a3c ayo a3g aw4
attribute [go_sem ↓] aks ahq ag1 ar9 aqd aoj ajf a6c agh adh ab1 a5p a2j a1z adg a26
attribute [go_sem ↓] a0k ak5
attribute [go_sem ↓ 1100] a3o
attribute [go_sem ↓ 1100] avq auc awq a7j
theorem a5e(d e:Nat)(l:List UInt8)(K:KT):bgc d e l K=kk K (.os d l.length) [(d,.arr e 1 false (l.map u8))] [d]:=(rfl)
attribute [go_sem] be7 an3 a5e
attribute [go_sem ↓] aig anv ajj
attribute [go_sem] aqq aqw aqr an4 ben axp a2q azg avp au6 aur aqh apa
attribute [go_sem ↓] ant a85 aru aue aza apc azq zh agw a2m ajl a1k avn a79 ax5 y8 a0m aw3 ac8 acj as8 axo azi aji ast acz afl a33 a6r anq a88
attribute [go_sem ↓] apt awe aol yi aj8 aij ap6 ai2 amm a0r axd aj7 ai7 ar6 a09 ay2 aqo as2
attribute [go_sem ↓] a6h a6p a86 a8l a8j a5m a5g a5j bc1 a8h a9d a8r a7d a78 a8o a6l a08 a2p a3w a30 a0y a1f a00 bbg ba2 a9x bc8
attribute [go_sem ↓] ap5 an1 a90
attribute [go_sem ↓] bbl a7n bcn bbb a2v a13 bb3 a9w axz avw awp as9 bdw bfj bc4 a54 az5 a69 a9v bas a73 baq a0x a6n
attribute [go_sem] a7v a87 a8s a6g aq9 akr ar2 a2r ayj azn at2
attribute [go_sem ↓] a5k a8d ba1 ba6 az4 a7h aaa ax6 aod ahc apy axj acu anz ah2 akt a17 a62
theorem a8k(σ:ASt)(fr:AFr):wkF σ fr []=True:=(rfl)
theorem a31(σ:ASt)(fr:AFr)(s:Nat)(u:PV)(r:AFr):wkF σ fr ((s,u)::r)=(bv (look fr s) (fun v=>bv u fun u=>wkU σ v u)∧wkF σ fr r):=(rfl)
theorem a8c(fr:AFr):wkN fr []=[]:=(rfl)
theorem a2s(fr:AFr)(s:Nat)(u:PV)(r:AFr):wkN fr ((s,u)::r)=a9l (look fr s) u++wkN fr r:=(rfl)
theorem a7f(σ:ASt):wkS σ []=True:=(rfl)
theorem az2(σ:ASt)(n:Nat)(B:Box)(r:ASt):wkS σ ((n,B)::r)=(bv (ah σ n) (fun v=>v=some B)∧wkS σ r):=(rfl)
theorem bf1(fr:AFr)(σ:ASt)(fr':AFr)(σ':ASt):wk fr σ fr' σ'=(wkF σ fr fr'∧wkS σ σ'∧aln (σ'.map (·.1)) (wkN fr fr')=true∧a4p (σ'.map (·.1)) fr'=true∧aay (σ'.map (·.1)) σ'=true∧a9m (σ'.map (·.1)) σ=true):=(rfl)
theorem loop{P:Program}(hm:P.follows .mixedOrders=true){N:Nat}{c:Code}{Q:pv}{fr:AFr}{σ:ASt}{ι:Type}(i0:ι)(fs:ι→AFr)(ss:ι→ASt)(I:ι→Prop)(μ:ι→Nat)(hc:fu N c=true)(hI:I i0)(hw:wk fr σ (fs i0) (ss i0))
  (round: ∀i,I i→wv P N c (q7 (fun fr' σ'=> ∃j,(I j∧μ j<μ i)∧wk fr' σ' (fs j) (ss j)) Q) (fs i) (ss i)):wv P N (.loop c) Q fr σ:=
 bau hm hc fs ss I μ i0 hI hw round
theorem ber{P:Program}(hm:P.follows .mixedOrders=true){N:Nat}{c:Code}{Q:pv}{fr:AFr}{σ:ASt}{ι:Type}(i0:ι)(fs:ι→AFr)(ss:ι→ASt)(I:ι→Prop)(μ:ι→Nat)(hc:fu N c=true)(l0:List (Nat×Nat))(hI:I i0)(hw:wkR l0 fr σ (fs i0) (ss i0))
  (round: ∀i,I i→wv P N c (q7 (fun fr' σ'=> ∃j l,(I j∧μ j<μ i)∧wkR l fr' σ' (fs j) (ss j)) Q) (fs i) (ss i)):wv P N (.loop c) Q fr σ:=
 a7p hm hc fs ss I μ i0 hI l0 hw round
theorem bcp(l:List (Nat×Nat))(fr:AFr)(σ:ASt)(fr':AFr)(σ':ASt):wkR l fr σ fr' σ'=(a4b l fr σ∧bv (aun l fr σ) fun p=>wk p.1 p.2 fr' σ'):=(rfl)
theorem azm(fr:AFr)(σ:ASt):a4b [] fr σ=True:=(rfl)
theorem au0(n m:Nat)(r:List (Nat×Nat))(fr:AFr)(σ:ASt):a4b ((n,m)::r) fr σ=((bv (ah σ m) (fun B=>B=none)∧n<1000000∧m<1000000∧n≠m)∧bv (ayu n m fr) fun fr=>bv (y6 n m σ) fun σ=>a4b r fr σ):=(rfl)
theorem azu(fr:AFr)(σ:ASt):aun [] fr σ=(fr,σ):=(rfl)
theorem avm(n m:Nat)(r:List (Nat×Nat))(fr:AFr)(σ:ASt):aun ((n,m)::r) fr σ=aun r (ayu n m fr) (y6 n m σ):=(rfl)
attribute [go_sem ↓] bcp azm au0
attribute [go_sem] azu avm ayu y6 renV n4 kn rn
attribute [go_sem ↓] a8c a8k a31 a7f az2 bf1
attribute [go_sem] a2s wkU a9l aln a4p aay a9m a5c aht
attribute [go_sem] decide_true decide_false decide_eq_true_eq decide_eq_false_iff_not Bool.not_eq_true' Bool.not_eq_false' Bool.not_true Bool.not_false true_and and_true false_and and_false forall_const implies_true not_true_eq_false not_false_eq_true eq_self ne_eq
attribute [go_sem] Bool.true_and Bool.and_true Bool.false_and Bool.and_false Bool.true_or Bool.or_true Bool.false_or Bool.or_false Bool.and_eq_true Bool.or_eq_true Bool.not_eq_true Bool.true_eq_false Bool.false_eq_true
attribute [go_sem] List.length_map List.length_cons List.length_nil List.length_append List.length_replicate List.map_cons List.map_nil List.append_nil List.nil_append List.cons_append List.toList_toArray List.all_nil List.all_cons
attribute [go_sem] List.take_zero List.take_succ_cons List.take_nil List.drop_zero List.drop_succ_cons List.drop_nil Option.map_some Option.map_none Option.getD_some Option.isSome_some Option.isSome_none
theorem bbw{α:Type}(f:α→List PV)(l:List α)(n:Nat):(l.map f).take n=(l.take n).map f:=List.map_take.symm
theorem a97{α:Type}(f:α→List PV)(l:List α)(n:Nat):(l.map f).drop n=(l.drop n).map f:=List.map_drop.symm
theorem all_map{α:Type}(f:α→List PV)(l:List α)(p:List PV→Prop):(∀x∈l.map f,p x)= ∀x∈l,p (f x):=by simp
attribute [go_sem] bbw a97
attribute [go_sem ↓] all_map
theorem bc0(n:Nat):((no_index (OfNat.ofNat n):Nat):Int)=OfNat.ofNat n:=(rfl)
attribute [go_sem] bc0 Int.toNat_natCast Int.toNat_zero Int.ofNat_lt Int.ofNat_le Int.natCast_nonneg Int.ofNat_eq_natCast Int.zero_le_ofNat
attribute [go_sem] PV.int.injEq PV.bool.injEq PV.vs.injEq PV.str.injEq PV.os.injEq PV.tup.injEq PV.agg.injEq PV.ptr.injEq PV.el.injEq PV.fn.injEq Box.arr.injEq Box.cells.injEq Option.some.injEq Prod.mk.injEq List.cons.injEq
attribute [go_sem] List.not_mem_nil List.mem_cons List.contains_nil List.contains_cons or_false false_or not_or Nat.not_lt_zero Nat.zero_add Nat.add_zero
attribute [go_sem] d6 pur ig po bcw aro ai5 zi azr t7 aqm ov eqC wb ub r9 ge
end Go.Proofs.Am
