/- AmU. -/
import Derived.Test.YtloaichcpoboeaaGreatDoorAmS
set_option linter.unusedSimpArgs false
set_option linter.unusedVariables false
namespace Go.Proofs.Am
open Go Go.RowKit
variable {P:Program}
section
variable (P:Program) (σ:ASt) (K:KT) (J:PV→Prop)
theorem a7l(t:TypeId)(k k':IntKind)(a b:Int):fb P .add t (.int k a) (.int k' b) J=(k=k'∧J (.int k (k.wrap (a+b)))):=(rfl)
theorem a6d(t:TypeId)(k k':IntKind)(a b:Int):fb P .sub t (.int k a) (.int k' b) J=(k=k'∧J (.int k (k.wrap (a - b)))):=(rfl)
theorem a8l(t:TypeId)(k k':IntKind)(a b:Int):fb P .mul t (.int k a) (.int k' b) J=(k=k'∧J (.int k (k.wrap (a*b)))):=(rfl)
theorem a7c(t:TypeId)(k k':IntKind)(a b:Int):fb P .quo t (.int k a) (.int k' b) J=(k=k'∧b≠0∧J (.int k (k.wrap (a.tdiv b)))):=(rfl)
theorem a74(t:TypeId)(k k':IntKind)(a b:Int):fb P .rem t (.int k a) (.int k' b) J=(k=k'∧b≠0∧J (.int k (a.tmod b))):=(rfl)
theorem a8i(t:TypeId)(k k':IntKind)(a b:Int):fb P .shl t (.int k a) (.int k' b) J=(0≤b∧J (.int k (k.wrap (a*2^min b.toNat k.bits)))):=(rfl)
theorem a6g(t:TypeId)(k k':IntKind)(a b:Int):fb P .shr t (.int k a) (.int k' b) J=(0≤b∧J (.int k (a.fdiv (2^min b.toNat k.bits)))):=(rfl)
theorem a7g(t:TypeId)(k k':IntKind)(a b:Int):fb P .and t (.int k a) (.int k' b) J=(k=k'∧J (.int k (bits .and k a b))):=(rfl)
theorem bbm(t:TypeId)(k k':IntKind)(a b:Int):fb P .or t (.int k a) (.int k' b) J=(k=k'∧J (.int k (bits .or k a b))):=(rfl)
theorem a8u(t:TypeId)(k k':IntKind)(a b:Int):fb P .xor t (.int k a) (.int k' b) J=(k=k'∧J (.int k (bits .xor k a b))):=(rfl)
theorem a7x(t:TypeId)(k k':IntKind)(a b:Int):fb P .eql t (.int k a) (.int k' b) J=(k=k'∧J (.bool (decide (a=b)))):=(rfl)
theorem a5p(t:TypeId)(k k':IntKind)(a b:Int):fb P .neq t (.int k a) (.int k' b) J=(k=k'∧J (.bool (decide (a≠b)))):=(rfl)
theorem a6r(t:TypeId)(k k':IntKind)(a b:Int):fb P .lss t (.int k a) (.int k' b) J=(k=k'∧J (.bool (decide (a<b)))):=(rfl)
theorem a6z(t:TypeId)(k k':IntKind)(a b:Int):fb P .leq t (.int k a) (.int k' b) J=(k=k'∧J (.bool (decide (a≤b)))):=(rfl)
theorem a5u(t:TypeId)(k k':IntKind)(a b:Int):fb P .gtr t (.int k a) (.int k' b) J=(k=k'∧J (.bool (decide (b<a)))):=(rfl)
theorem a5n(t:TypeId)(k k':IntKind)(a b:Int):fb P .geq t (.int k a) (.int k' b) J=(k=k'∧J (.bool (decide (b≤a)))):=(rfl)
theorem a1x(t:TypeId)(a b:List UInt8):fb P .eql t (.str a) (.str b) J=J (.bool (decide (a=b))):=(rfl)
theorem a2h(t:TypeId)(a b:List UInt8):fb P .neq t (.str a) (.str b) J=J (.bool (decide (a≠b))):=(rfl)
theorem ay1(t:TypeId)(a b:List UInt8):fb P .lss t (.str a) (.str b) J=J (.bool (Op.bytesLess a b)):=(rfl)
theorem azm(t:TypeId)(a b:List UInt8):fb P .gtr t (.str a) (.str b) J=J (.bool (!(Op.bytesLess a b||decide (a=b)))):=(rfl)
theorem ay7(t:TypeId)(a b:List PV):fb P .eql t (.agg a) (.agg b) J=bv (mi P t) fun f=>match f with|some ks=>bv (ww ks a b) (fun q=>match q with|some b=>J (.bool b)|none=>False)|none=>False:=by
 simp only[fb,bv]
 cases mi P t with
 |none=>rfl
 |some ks=>simp only;cases ww ks a b<;>rfl
theorem a0v(t:TypeId)(a b:List PV):fb P .neq t (.agg a) (.agg b) J=bv (mi P t) fun f=>match f with|some ks=>bv (ww ks a b) (fun q=>match q with|some b=>J (.bool (!b))|none=>False)|none=>False:=by
 simp only[fb,bv]
 cases mi P t with
 |none=>rfl
 |some ks=>simp only;cases ww ks a b<;>rfl
theorem aos(t:TypeId)(b:Bool):fb P .eql t (.sn b) .nils J=bv (a8 P t) fun e=>e.isSome=true∧J (.bool b):=(rfl)
theorem api(t:TypeId)(xs:List (List PV)):fb P .eql t (.vs xs) .nils J=bv (a8 P t) fun e=>(e.isSome=true∧0<xs.length)∧J (.bool false):=(rfl)
theorem bbo(b:Bool):a7r .not (.bool b) J=J (.bool (!b)):=(rfl)
theorem bbv(k:IntKind)(n:Int):a7r .neg (.int k n) J=J (.int k (k.wrap (0 - n))):=(rfl)
theorem a98(k:IntKind)(n:Int):a7r .xor (.int k n) J=J (.int k (bits .xor k (if k.signed then -1 else k.max) n)):=(rfl)
theorem bar(k k':IntKind)(a b:Int):a4c false (.int k a) (.int k' b) K=K (.int k (if b<a then b else a)) [] []:=(rfl)
theorem bbl(k k':IntKind)(a b:Int):a4c true (.int k a) (.int k' b) K=K (.int k (if a<b then b else a)) [] []:=(rfl)
theorem a5o:loN none=some 0:=(rfl)
theorem a5b(k:IntKind)(n:Int):loN (some (.int k n))=some n:=(rfl)
theorem a5k(l:Nat):hiN l none=some (l:Int):=(rfl)
theorem a71(l:Nat)(k:IntKind)(n:Int):hiN l (some (.int k n))=some n:=(rfl)
theorem bdk(t:TypeId)(xs:List (List PV))(lo hi mx:Option PV):d5 P t σ (.vs xs) lo hi mx K=bv (slT P t) fun s=>bv (loN lo) fun l=>bv (hiN xs.length hi) fun h=>bv (hiN xs.length mx) fun m=>match l,s,h,m with
  |some l,some (_,sz,_),some h,some m=>(0≤l∧l≤h∧h≤m∧m≤xs.length∧(mx.isSome=true→hi.isSome=true))∧(0<l→∀x∈xs,x.length=sz)∧K (.vs ((xs.take h.toNat).drop l.toNat)) [] []
  |_,_,_,_=>False:=by
 simp only[d5,bv]
 rcases loN lo with _|l<;>(try rfl)<;>rcases slT P t with _|⟨e,sz,b⟩<;>(try rfl)<;>rcases hiN xs.length hi with _|h<;>(try rfl)<;>rcases hiN xs.length mx with _|m<;>rfl
theorem bdb(t:TypeId)(n k:Nat)(lo hi mx:Option PV):d5 P t σ (.os n k) lo hi mx K=bv (ac σ n) fun B=>match B with
  |some (.arr _ asz _ xs)=>bv (slT P t) fun s=>bv (loN lo) fun l=>bv (hiN xs.length hi) fun h=>bv (hiN xs.length mx) fun m=>match l,s,h,m with
   |some l,some (_,sz,_),some h,some m=>(asz=sz∧k=xs.length∧0≤l∧l≤h∧h≤m∧m≤xs.length∧(mx.isSome=true→hi.isSome=true))∧K (.vs ((xs.take h.toNat).drop l.toNat)) (bu σ [n]) [n]
   |_,_,_,_=>False
  |_=>False:=by
 simp only[d5,bv]
 rcases loN lo with _|l
 ·rcases ac σ n with _|B
  ·rfl
  ·cases B<;>rfl
 ·rcases ac σ n with _|B
  ·rfl
  ·cases B with
   |cells cs=>rfl
   |arh e sz xs=>rfl
   |mp es=>rfl
   |it m k d=>rfl
   |si l p=>rfl
   |arq e sz k xs=>rfl
   |dead sz l=>rfl
   |arr e asz sh xs=>simp only;rcases slT P t with _|⟨e,sz,b⟩<;>(try rfl)<;>rcases hiN xs.length hi with _|h<;>(try rfl)<;>rcases hiN xs.length mx with _|m<;>rfl
theorem bac(t:TypeId)(xs:List (List PV))(lo hi:Option PV):gg P t σ (.vs xs) lo hi none K=d5 P t σ (.vs xs) lo hi none K:=(rfl)
theorem a6w(t:TypeId)(s:List UInt8)(lo hi:Option PV):gg P t σ (.str s) lo hi none K=d5 P t σ (.str s) lo hi none K:=(rfl)
theorem a9r(t:TypeId)(xs:List (List PV))(k1 k2:IntKind)(i j:Int):gg P t σ (.vs xs) none (some (.int k1 i)) (some (.int k2 j)) K=bv (slT P t) fun s=>match s with
  |some _=>(i=j∧0≤i∧i≤xs.length)∧kk K (.vx (xs.take i.toNat)) [] []
  |none=>False:=by
 simp only[gg,a78,bv,kk]
 rcases slT P t with _|⟨e,sz,b⟩<;>rfl
def bdf(P:Program)(t:TypeId)(σ:ASt)(n k:Nat)(lo hi mx:Option PV)(K:KT):Option Box→Prop
 |some (.arh e asz xs)=>bv (ac σ (900000+n)) fun hint=>match hint with
  |none=>afc P t σ n k e asz xs lo hi mx K
  |some _=>af0 P t n k asz xs lo hi K
 |_=>d5 P t σ (.os n k) lo hi mx K
theorem ba9(t:TypeId)(n k:Nat)(lo hi:Option PV):gg P t σ (.os n k) lo hi none K=bv (ac σ n) (bdf P t σ n k lo hi none K):=by
 simp only[gg,bv]
 rcases ac σ n with _|B
 ·rfl
 ·cases B<;>rfl
theorem azr(t:TypeId)(n k:Nat)(lo hi mx:Option PV)(e sz:Nat)(sh:Bool)(xs:List (List PV)):bdf P t σ n k lo hi mx K (some (.arr e sz sh xs))=d5 P t σ (.os n k) lo hi mx K:=(rfl)
theorem a2r(t:TypeId)(n k:Nat)(lo hi mx:Option PV)(e sz:Nat)(xs:List (List PV)):bdf P t σ n k lo hi mx K (some (.arh e sz xs))=bv (ac σ (900000+n)) fun hint=>match hint with
  |none=>afc P t σ n k e sz xs lo hi mx K
  |some _=>af0 P t n k sz xs lo hi K:=(rfl)
theorem bal(t:TypeId)(n k asz:Nat)(xs:List (List PV))(kd:IntKind)(i:Int):af0 P t n k asz xs (some (.int kd i)) none K=bv (slT P t) fun s=>match s with
  |some (_,sz,_)=>(asz=sz∧k=xs.length∧0≤i∧i<k)∧kk K (.oss n k i.toNat (k - i.toNat)) [] [n]
  |none=>False:=by
 simp only[af0,bv,kk]
 rcases slT P t with _|⟨e,sz,b⟩<;>rfl
theorem bbf(t:TypeId)(n k asz:Nat)(xs:List (List PV))(kd:IntKind)(i:Int):af0 P t n k asz xs none (some (.int kd i)) K=bv (slT P t) fun s=>match s with
  |some (_,sz,_)=>(asz=sz∧k=xs.length∧0<i∧i≤k)∧kk K (.oss n k 0 i.toNat) [] [n]
  |none=>False:=by
 simp only[af0,bv,kk]
 rcases slT P t with _|⟨e,sz,b⟩<;>rfl
theorem a7q(t tx:TypeId)(n k:Nat)(ys:List (List PV)):y4 P t tx σ (.os n k) (.vs ys) K=bv (slT P t) fun s=>bv (slT P tx) fun s2=>bv (ac σ n) fun B=>bcc n k ys K s s2 B:=(rfl)
theorem a2d(n k a b e2:Nat)(q:Nat×Nat×Nat)(ys xs:List (List PV)):bcc n k ys K (some (a,1,b)) (some q) (some (.arr e2 1 false xs))=(((0<k∧k=xs.length)∧(∀y∈ys,y.length=1))∧K (.int .i64 ((min ys.length k:Nat):Int)) [(n,.arr e2 1 false (ys.take (min ys.length k)++xs.drop (min ys.length k)))] [n]):=(rfl)
theorem a0r(t tx:TypeId)(n k i m n' k' j m':Nat):y4 P t tx σ (.oss n k i m) (.oss n' k' j m') K=bv (slT P t) fun s=>bv (slT P tx) fun s2=>bv (ac σ n) fun B=>bb3 n k i m n' k' j m' K s s2 B:=(rfl)
theorem ay3(n k i m n' k' j m' a b e2:Nat)(q:Nat×Nat×Nat)(xs:List (List PV)):bb3 n k i m n' k' j m' K (some (a,1,b)) (some q) (some (.arh e2 1 xs))=((n'=n∧k'=k∧k=xs.length∧i+m≤k∧j+m'≤k∧i<k∧j<k)∧K (.int .i64 ((min m' m:Nat):Int)) [(n,.arh e2 1 (xs.take i++((xs.drop j).take (min m' m)++xs.drop (i+min m' m))))] [n]):=(rfl)
attribute [go_sem ↓] bal bbf a7q a2d a0r ay3 a2o
theorem bbi(t:TypeId)(n k e asz:Nat)(xs:List (List PV))(kd:IntKind)(i:Int):afc P t σ n k e asz xs (some (.int kd i)) none none K=bv (slT P t) fun s=>match s with
  |some (_,sz,_)=>(asz=sz∧k=xs.length∧0≤i∧i<k)∧kk K (.osl n k i.toNat) [] [n]
  |none=>False:=by
 simp only[afc,bv,kk]
 rcases slT P t with _|⟨e,sz,b⟩<;>first|rfl|simp only[and_assoc]
theorem a94(t:TypeId)(n k e asz:Nat)(xs:List (List PV))(kd:IntKind)(i:Int):afc P t σ n k e asz xs none (some (.int kd i)) none K=bv (slT P t) fun s=>match s with
  |some (_,sz,_)=>(asz=sz∧k=xs.length∧0≤i∧i≤k)∧ij σ xs=some (xs,[])∧kk K (.vs (xs.take i.toNat)) [(n,.arr e asz true xs)] [n]
  |none=>False:=by
 simp only[afc,bv,kk]
 rcases slT P t with _|⟨e,sz,b⟩<;>rfl
theorem axi(t:TypeId)(n k i:Nat):aqi P t σ (.osl n k i) K=bv (slT P t) fun s=>bv (ac σ n) fun B=>match s,B with
  |some (e',sz,_),some (.arh e asz xs)=>bv (av P e') fun z=>match z with
   |some zs=>(asz=sz∧k=xs.length∧i<k∧zs.all eu=true)∧K (.tup []) [(n,.arh e asz (xs.take i++List.replicate (k - i) (zs.map zt)))] [n]
   |none=>False
  |_,_=>False:=by
 simp only[aqi,bv]
 rcases slT P t with _|⟨e,sz,b⟩<;>(try rfl)<;>rcases ac σ n with _|B<;>(try rfl)<;>cases B<;>(try rfl)
 all_goals (simp only;rcases av P e with _|z<;>rfl)
theorem bba(t:TypeId)(s:List UInt8)(lo hi:Option PV):d5 P t σ (.str s) lo hi none K=bv (ew P t) fun q=>bv (loN lo) fun l=>bv (hiN s.length hi) fun h=>match l,h with
  |some l,some h=>(q=true∧0≤l∧l≤h∧h≤s.length)∧K (.str ((s.take h.toNat).drop l.toNat)) [] []
  |_,_=>False:=by
 simp only[d5,bv]
 rcases loN lo with _|l<;>(try rfl)<;>rcases hiN s.length hi with _|h<;>(try rfl)
 simp
theorem am5:bu σ []=[]:=(rfl)
theorem ahr(n:Nat)(r:List Nat):bu σ (n::r)=(n,((ac σ n).getD (.cells [])).share)::bu σ r:=(rfl)
theorem auw(e sz:Nat)(sh:Bool)(xs:List (List PV)):Box.share (.arr e sz sh xs)= .arr e sz true xs:=(rfl)
theorem a7e(t:TypeId)(d:Nat)(k1 k2:IntKind)(l c:Int):qi P t (some d) σ (.int k1 l) (.int k2 c) K=bv (slT P t) fun s=>match s with
  |some (e,sz,bytes)=>bv (av P e) fun z=>match z with
   |some zs=>(zs.all eu=true∧0≤l∧l≤c∧(bytes:Int)*c≤140737488355328∧c≤140737488355328∧ac σ d=none)∧K (.os d l.toNat) [(d,.arr e sz false (List.replicate l.toNat (zs.map zt)))] [d]
   |none=>False
  |none=>False:=by
 simp only[qi,bv]
 rcases slT P t with _|⟨e,sz,b⟩
 ·rfl
 ·simp only;rcases av P e with _|z<;>rfl
theorem a11(t tx:TypeId)(d:Option Nat)(u v:PV):rh P t tx d σ u v K=bv (slT P t) fun s=>match s with
  |some (e,sz,bytes)=>s4 P tx sz σ v (v7 e sz bytes d σ u K)
  |none=>False:=by
 simp only[rh,bv]
 rcases slT P t with _|⟨e,sz,b⟩<;>rfl
theorem a6s(t tx:TypeId)(d:Option Nat)(n k:Nat)(v:PV):vj P t tx d σ (.os n k) v K=rh P t tx d σ (.os n k) v K:=(rfl)
theorem ato(t tx:TypeId)(d:Option Nat)(v:PV):vj P t tx d σ .nils v K=rh P t tx d σ .nils v K:=(rfl)
theorem a5a(t tx:TypeId)(d:Option Nat)(xs:List (List PV))(v:PV):vj P t tx d σ (.vx xs) v K=rh P t tx d σ (.vx xs) v K:=(rfl)
attribute [go_sem ↓] a6s ato a5a
attribute [go_sem] Box.arq.injEq PV.oq.injEq
variable (k:List (List PV)→List Nat→Prop)
theorem a68(tx sz:Nat)(ys:List (List PV)):s4 P tx sz σ (.vs ys) k=bv (aq P tx) fun q=>(q=true∧∀y∈ys,y.length=sz)∧k ys []:=(rfl)
theorem bbh(tx sz:Nat)(b:Bool):s4 P tx sz σ (.sn b) k=bv (aq P tx) fun q=>q=true∧k [] []:=(rfl)
theorem bbj(tx sz:Nat)(m n:Nat):s4 P tx sz σ (.os m n) k=bv (ac σ m) fun B=>bv (aq P tx) fun q=>match B with
  |some (.arr _ sz' _ ys)=>(q=true∧n=ys.length∧sz'=sz)∧k ys [m]
  |_=>False:=by
 simp only[s4,bv]
 rcases ac σ m with _|B<;>(try rfl)<;>cases B<;>rfl
theorem a4n(tx sz:Nat)(l:List UInt8):s4 P tx sz σ (.str l) k=bv (ew P tx) fun q=>(q=true∧sz=1)∧k (az l) []:=(rfl)
theorem a9q(e sz bytes:Nat)(d:Option Nat)(n m:Nat)(ys:List (List PV))(F:List Nat):v7 e sz bytes d σ (.os n m) K ys F=bv (ac σ n) fun B=>match B with
  |some (.arr e' sz' sh xs)=>(e'=e∧sz'=sz∧m=xs.length∧(xs.length+ys.length)*bytes≤140737488355328)∧K (.os n (m+ys.length)) [(n,.arr e sz sh (xs++ys))] (n::F)
  |some (.arh e' sz' xs)=>(e'=e∧sz'=sz∧m=xs.length∧(xs.length+ys.length)*bytes≤140737488355328)∧K (.os n (m+ys.length)) [(n,.arh e sz (xs++ys))] (n::F)
  |_=>False:=by
 simp only[v7,bv]
 rcases ac σ n with _|B<;>(try rfl)<;>cases B<;>rfl
theorem a02(e sz bytes d:Nat)(ys:List (List PV))(F:List Nat):v7 e sz bytes (some d) σ .nils K ys F=((ac σ d=none∧ys.length*bytes≤140737488355328)∧K (.os d ys.length) [(d,.arr e sz false ys)] (d::F)):=(rfl)
theorem a9i(e sz bytes d:Nat)(xs ys:List (List PV))(F:List Nat):v7 e sz bytes (some d) σ (.vx xs) K ys F=((ac σ d=none∧(∀x∈xs,x.length=sz)∧(xs.length+ys.length)*bytes≤140737488355328)∧(ys=[]→K (.vs xs) [] F)∧(0<ys.length→K (.os d (xs.length+ys.length)) [(d,.arr e sz false (xs++ys))] (d::F))):=(rfl)
theorem a44(t len:Nat)(parts:List (Nat×PV))(d:Nat):gn P t len parts (some d) σ K=bv (slT P t) fun s=>match s with
  |some (e,sz,_)=>bv (ac σ (900000+d)) fun hint=>match hint with
   |none=>bv (n5 σ sz 0 parts) fun r=>match r with
    |some (xs,ns)=>(ac σ d=none∧len=parts.length∧len*sz≤16777216)∧kk K (.os d xs.length) (bu σ ns++[(d,.arr e sz false xs)]) (d::ns)
    |none=>False
   |some _=>bv (oa σ sz 0 parts) fun r=>match r with
    |some (xs,ns)=>(ac σ d=none∧len=parts.length∧len*sz≤16777216)∧kk K (.os d xs.length) (bu σ ns++[(d,.arr e sz false xs)]) (d::ns)
    |none=>False
  |none=>False:=by
 simp only[gn,bv,kk]
 rcases slT P t with _|⟨e,sz,b⟩
 ·rfl
 ·simp only
  rcases ac σ (900000+d)with _|B
  ·simp only;rcases n5 σ sz 0 parts with _|⟨xs,ns⟩<;>simp only[and_assoc]
  ·simp only;rcases oa σ sz 0 parts with _|⟨xs,ns⟩<;>simp only[and_assoc]
end
section
variable (P:Program) (σ:ASt) (K:KT) {α:Type} [Inhabited α] (f:α→List PV) (l:List α)
theorem ir{i:Nat}(h:i<l.length):db (l.map f) i=f (el l i):=adi f l i h
theorem asa(t:TypeId)(kd:IntKind)(i:Int):bj P t σ (.vs (l.map f)) (.int kd i) K=bv (slT P t) fun s=>match s with
  |some (_,sz,_)=>(0≤i∧i<l.length)∧bv (f (el l i.toNat)) fun c=>c.length=sz∧kk K (.el c) [] []
  |none=>False:=by
 rw[ak1]
 simp only[bv]
 rcases slT P t with _|⟨e,sz,b⟩
 ·rfl
 ·simp only[List.length_map]
  refine propext (and_congr_right fun h=> ?_)
  rw[ir f l (by omega)]
theorem atw(n k i off e sz:Nat)(sh:Bool):arz n k i off K (some none) (some (.arr e sz sh (l.map f)))=((k=l.length∧i<k)∧bv (f (el l i)) fun c=>off<c.length∧kk K (eh c off) [] [n]):=by
 simp only[arz,bv,List.length_map,and_assoc]
 refine propext (and_congr_right fun h1=>and_congr_right fun h2=> ?_)
 rw[ir f l (by omega)]
theorem axn(n k i off m e sz:Nat)(sh:Bool):arz n k i off K (some (some m)) (some (.arr e sz sh (l.map f)))=((k=l.length∧i<k)∧bv (f (el l i)) fun c=>off+m≤c.length∧kk K (.agg ((c.drop off).take m)) [] [n]):=by
 simp only[arz,bv,List.length_map,and_assoc]
 refine propext (and_congr_right fun h1=>and_congr_right fun h2=> ?_)
 rw[ir f l (by omega)]
end
theorem a42(P:Program)(σ:ASt){α:Type}(f:α→List PV)(l:List α)(tx sz:Nat)(k:List (List PV)→List Nat→Prop):s4 P tx sz σ (.vs (l.map f)) k=bv (aq P tx) fun q=>(q=true∧∀y∈l,(f y).length=sz)∧k (l.map f) []:=by
 simp only[s4,bv,List.forall_mem_map]
def u8(b:UInt8):List PV:=[.int .u8 b.toNat]
theorem bcw(b:UInt8):u8 b=[.int .u8 b.toNat]:=(rfl)
theorem apn(l:List UInt8):az l=l.map u8:=(rfl)
section
variable (P:Program) (N:Nat) (Q:rt) (fr:AFr) (σ:ASt)
theorem a4f:wv P N .skip Q fr σ=Q .normal fr σ:=(rfl)
theorem a40(id:Nat):wv P N (.exit id) Q fr σ=Q (.exit id) fr σ:=(rfl)
theorem a9h:wv P N .ret Q fr σ=Q .ret fr σ:=(rfl)
theorem baj(a b:Code):wv P N (.seq a b) Q fr σ=wv P N a (vk (wv P N b Q) Q) fr σ:=(rfl)
theorem az9(id:Nat)(c:Code):wv P N (.block id c) Q fr σ=wv P N c (zf id Q) fr σ:=(rfl)
def a73(a b:Code):PV→Prop
 | .bool t=>(t=true→wv P N a Q fr σ)∧(t=false→wv P N b Q fr σ)
 |_=>False
theorem a4r(c:Operand)(a b:Code):wv P N (.cond c a b) Q fr σ=bv (ev fr c) (a73 P N Q fr σ a b):=by
 simp only[wv,bv]
 cases ev fr c<;>rfl
theorem yy(a b:Code)(t:Bool):a73 P N Q fr σ a b (.bool t)=((t=true→wv P N a Q fr σ)∧(t=false→wv P N b Q fr σ)):=(rfl)
theorem asy(id:Nat)(l:List Oper):wv P N (.region id l.toArray false) Q fr σ=lc P l.toArray l fr σ (Q .normal):=(rfl)
def okD(ops:List Oper)(g:Log):Prop:=aep ops.toArray g.reverse=true
theorem am2(id:Nat)(l:List Oper):wv P N (.region id l.toArray true) Q fr σ=evD P l.toArray l fr σ [] fun fr' σ' g=>okD l g∧Q .normal fr' σ':=(rfl)
variable (K:AFr→ASt→Prop)
theorem ade:vk K Q .normal fr σ=K fr σ:=(rfl)
theorem aov(id:Nat):vk K Q (.exit id) fr σ=Q (.exit id) fr σ:=(rfl)
theorem as4:vk K Q .ret fr σ=Q .ret fr σ:=(rfl)
theorem abi(id:Nat):zf id Q .normal fr σ=Q .normal fr σ:=(rfl)
theorem am4(id:Nat):zf id Q .ret fr σ=Q .ret fr σ:=(rfl)
theorem ail(id id':Nat):zf id Q (.exit id') fr σ=if id'=id then Q .normal fr σ else Q (.exit id') fr σ:=(rfl)
variable (rs:List ResultVar) (ns exts:List Nat) (r:PV) (nb ext':List Box)
theorem ai6:bdd P rs ns exts r nb ext' .normal fr σ=a2t P rs ns exts r nb ext' fr σ:=(rfl)
theorem a0x:bdd P rs ns exts r nb ext' .ret fr σ=a2t P rs ns exts r nb ext' fr σ:=(rfl)
theorem a8h:a2t P rs ns exts r nb ext' fr σ=bv (ain P fr σ rs) fun us=>bv (ri σ ns) fun a=>bv (ri σ exts) fun b=>match us with
  |some us=>bv (np σ ns exts us) fun c=>match a,b,c with
   |some (nb0,b1),some (e0,b2),some (us',b3)=>pj ns exts (b1++(b2++b3))=true∧nb0=nb∧e0=ext'∧adh us'=r
   |_,_,_=>False
  |none=>False:=by
 simp only[a2t,bv]
 rcases ain P fr σ rs with _|us
 ·rfl
 ·simp only
  rcases ri σ ns with _|⟨nb0,b1⟩<;>(try rfl)<;>rcases ri σ exts with _|⟨e0,b2⟩<;>(try rfl)<;>rcases np σ ns exts us with _|⟨us',b3⟩<;>rfl
end
attribute [congr] ax6
theorem ai4{a0}:ec (.move a0)=false:=(rfl)
theorem aa3{a0}:ec (.assign a0)=false:=(rfl)
theorem ahk{a0}{a1}{a2}:ec (.pick a0 a1 a2)=false:=(rfl)
theorem adz{a0}:ec (.alloc a0)=false:=(rfl)
theorem af8{a0}{a1}:ec (.build a0 a1)=false:=(rfl)
theorem qj{a0}{a1}{a2}:ec (.buildSlice a0 a1 a2)=false:=(rfl)
theorem ajy{a0}{a1}:ec (.load a0 a1)=false:=(rfl)
theorem afb{a0}{a1}{a2}:ec (.store a0 a1 a2)=false:=(rfl)
theorem ui{a0}:ec (.nilCheck a0)=false:=(rfl)
theorem afw{a0}{a1}{a2}{a3}{a4}:ec (.binOp a0 a1 a2 a3 a4)=false:=(rfl)
theorem aho{a0}{a1}{a2}:ec (.unOp a0 a1 a2)=false:=(rfl)
theorem xv{a0}{a1}{a2}:ec (.convert a0 a1 a2)=false:=(rfl)
theorem aff{a0}{a1}{a2}{a3}{a4}:ec (.slice a0 a1 a2 a3 a4)=false:=(rfl)
theorem sx{a0}{a1}{a2}:ec (.fieldAddr a0 a1 a2)=false:=(rfl)
theorem sv{a0}{a1}{a2}:ec (.indexAddr a0 a1 a2)=false:=(rfl)
theorem x7{a0}{a1}:ec (.extract a0 a1)=false:=(rfl)
theorem aib{a0}:ec (.call a0)=false:=(rfl)
attribute [go_sem] a6p ai4 aa3 ahk adz af8 qj ajy afb ui afw aho xv aff sx sv x7 aib
attribute [go_sem ↓] aup aoh ars axl bbw av9 anp axf arb anv at4 a20 abc ayq a8b aie avr
attribute [go_sem] a6k ama mc oa kw aqo ij a3o a4a vy baq Box.arh.injEq Box.mp.injEq Box.it.injEq PV.mh.injEq
attribute [go_sem ↓] bc9
attribute [go_sem ↓] bck ay0 awm a9o a2x a6j aw2 a13 azs ari a0m asf
attribute [go_sem ↓] ahd aei af7 awd aop aqb ahc a7z agm aag acs a57 a0e a1o aau azf
attribute [go_sem ↓] ala
attribute [go_sem ↓ 1100] a1b
attribute [go_sem ↓ 1100] atw axn asa a42
theorem a60(d e:Nat)(l:List UInt8)(K:KT):bd6 d e l K=kk K (.os d l.length) [(d,.arr e 1 false (l.map u8))] [d]:=(rfl)
attribute [go_sem] bcw apn a60
attribute [go_sem ↓] ahs apt ajp
attribute [go_sem] an3 aqj aqe aps bc0 axm a1l a2c aum ar0 ao2 aom
attribute [go_sem ↓] av8 a1i anh a1t zg afd ay5 ah4 a2k aq9 a7b awq ya ayb avk acu aaa avx ati ayx ahz aqt aa9 ac7 aze a6b an7 a7s a5c
attribute [go_sem ↓] aoo as3 ani w5 ajf aja ap9 ah7 ak1 a2f axd ah0 ai8 aun ax8 a10 aod as7
attribute [go_sem ↓] a7l a6d a8l a7c a74 a8i a6g a7g bbm a8u a7x a5p a6r a6z a5u a5n a1x a2h ay1 azm ay7 a0v bbo bbv a98 bar bbl
attribute [go_sem ↓] aos api bbh
attribute [go_sem ↓] bac a6w ba9 a9r azr a2r bbi a94 axi awp au0 asv bdk bdb bba a7e a11 a68 a9i bbj a4n a9q a02 a44
attribute [go_sem] a5o a5b a5k a71 am5 ahr auw ayy aso az8 axh
attribute [go_sem ↓] a4f a40 a9h baj az9 a4r yy asy am2 ade aov as4 abi am4 ail ai6 a0x a8h
theorem a6t(σ:ASt)(fr:AFr):wkF σ fr []=True:=(rfl)
theorem a0o(σ:ASt)(fr:AFr)(s:Nat)(u:PV)(r:AFr):wkF σ fr ((s,u)::r)=(bv (look fr s) (fun v=>bv u fun u=>wkU σ v u)∧wkF σ fr r):=(rfl)
theorem a6e(fr:AFr):wkN fr []=[]:=(rfl)
theorem azi(fr:AFr)(s:Nat)(u:PV)(r:AFr):wkN fr ((s,u)::r)=a81 (look fr s) u++wkN fr r:=(rfl)
theorem a5r(σ:ASt):wkS σ []=True:=(rfl)
theorem a06(σ:ASt)(n:Nat)(B:Box)(r:ASt):wkS σ ((n,B)::r)=(bv (ac σ n) (fun v=>v=some B)∧wkS σ r):=(rfl)
theorem bda(fr:AFr)(σ:ASt)(fr':AFr)(σ':ASt):wk fr σ fr' σ'=(wkF σ fr fr'∧wkS σ σ'∧ajs (σ'.map (·.1)) (wkN fr fr')=true∧a3y (σ'.map (·.1)) fr'=true∧xl (σ'.map (·.1)) σ'=true∧a82 (σ'.map (·.1)) σ=true):=(rfl)
theorem loop{P:Program}(hm:P.follows .mixedOrders=true){N:Nat}{c:Code}{Q:rt}{fr:AFr}{σ:ASt}{ι:Type}(i0:ι)(fs:ι→AFr)(ss:ι→ASt)(I:ι→Prop)(μ:ι→Nat)(hc:fu N c=true)(hI:I i0)(hw:wk fr σ (fs i0) (ss i0))
  (round: ∀i,I i→wv P N c (vk (fun fr' σ'=> ∃j,(I j∧μ j<μ i)∧wk fr' σ' (fs j) (ss j)) Q) (fs i) (ss i)):wv P N (.loop c) Q fr σ:=
 bah hm hc fs ss I μ i0 hI hw round
theorem bct{P:Program}(hm:P.follows .mixedOrders=true){N:Nat}{c:Code}{Q:rt}{fr:AFr}{σ:ASt}{ι:Type}(i0:ι)(fs:ι→AFr)(ss:ι→ASt)(I:ι→Prop)(μ:ι→Nat)(hc:fu N c=true)(l0:List (Nat×Nat))(hI:I i0)(hw:wkR l0 fr σ (fs i0) (ss i0))
  (round: ∀i,I i→wv P N c (vk (fun fr' σ'=> ∃j l,(I j∧μ j<μ i)∧wkR l fr' σ' (fs j) (ss j)) Q) (fs i) (ss i)):wv P N (.loop c) Q fr σ:=
 a4i hm hc fs ss I μ i0 hI l0 hw round
theorem bbg(l:List (Nat×Nat))(fr:AFr)(σ:ASt)(fr':AFr)(σ':ASt):wkR l fr σ fr' σ'=(a3u l fr σ∧bv (aw4 l fr σ) fun p=>wk p.1 p.2 fr' σ'):=(rfl)
theorem a1e(fr:AFr)(σ:ASt):a3u [] fr σ=True:=(rfl)
theorem aq0(n m:Nat)(r:List (Nat×Nat))(fr:AFr)(σ:ASt):a3u ((n,m)::r) fr σ=((bv (ac σ m) (fun B=>B=none)∧n<1000000∧m<1000000∧n≠m)∧bv (axu n m fr) fun fr=>bv (xw n m σ) fun σ=>a3u r fr σ):=(rfl)
theorem a15(fr:AFr)(σ:ASt):aw4 [] fr σ=(fr,σ):=(rfl)
theorem awn(n m:Nat)(r:List (Nat×Nat))(fr:AFr)(σ:ASt):aw4 ((n,m)::r) fr σ=aw4 r (axu n m fr) (xw n m σ):=(rfl)
attribute [go_sem ↓] bbg a1e aq0
attribute [go_sem] a15 awn axu xw renV k9 jh rn
attribute [go_sem ↓] a6e a6t a0o a5r a06 bda
attribute [go_sem] azi wkU a81 ajs a3y xl a82 a3n agu
attribute [go_sem] decide_true decide_false decide_eq_true_eq decide_eq_false_iff_not Bool.not_eq_true' Bool.not_eq_false' Bool.not_true Bool.not_false true_and and_true false_and and_false forall_const implies_true not_true_eq_false not_false_eq_true eq_self ne_eq
attribute [go_sem] Bool.true_and Bool.and_true Bool.false_and Bool.and_false Bool.true_or Bool.or_true Bool.false_or Bool.or_false Bool.and_eq_true Bool.or_eq_true Bool.not_eq_true Bool.true_eq_false Bool.false_eq_true
attribute [go_sem] List.length_map List.length_cons List.length_nil List.length_append List.length_replicate List.map_cons List.map_nil List.append_nil List.nil_append List.cons_append List.toList_toArray List.all_nil List.all_cons
attribute [go_sem] List.take_zero List.take_succ_cons List.take_nil List.drop_zero List.drop_succ_cons List.drop_nil Option.map_some Option.map_none Option.getD_some Option.isSome_some Option.isSome_none
theorem bai{α:Type}(f:α→List PV)(l:List α)(n:Nat):(l.map f).take n=(l.take n).map f:=List.map_take.symm
theorem bbn{α:Type}(f:α→List PV)(l:List α)(n:Nat):(l.map f).drop n=(l.drop n).map f:=List.map_drop.symm
theorem all_map{α:Type}(f:α→List PV)(l:List α)(p:List PV→Prop):(∀x∈l.map f,p x)= ∀x∈l,p (f x):=by simp
attribute [go_sem] bai bbn
attribute [go_sem ↓] all_map
theorem a9y(n:Nat):((no_index (OfNat.ofNat n):Nat):Int)=OfNat.ofNat n:=(rfl)
attribute [go_sem] a9y Int.toNat_natCast Int.toNat_zero Int.ofNat_lt Int.ofNat_le Int.natCast_nonneg Int.ofNat_eq_natCast Int.zero_le_ofNat
attribute [go_sem] PV.int.injEq PV.bool.injEq PV.vs.injEq PV.str.injEq PV.os.injEq PV.tup.injEq PV.agg.injEq PV.ptr.injEq PV.el.injEq PV.fn.injEq Box.arr.injEq Box.cells.injEq Option.some.injEq Prod.mk.injEq List.cons.injEq
attribute [go_sem] List.not_mem_nil List.mem_cons List.contains_nil List.contains_cons or_false false_or not_or Nat.not_lt_zero Nat.zero_add Nat.add_zero
attribute [go_sem] c9 pur f9 n5 bbc ain ajh ri a2b np a86 ajk adh lg eqC ww xu wn eu
end Go.Proofs.Am
