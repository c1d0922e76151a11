/- AmU. -/
import Derived.Test.YtloaichcpoboeaaGreatDoorAmS
set_option linter.unusedSimpArgs false
set_option linter.unusedVariables false
namespace Go.Proofs.Am
open Go Go.RowKit
variable {P:Program}
section
variable (P:Program) (σ:ASt) (K:KT) (J:PV→Prop)
theorem a54(t:TypeId)(k k':IntKind)(a b:Int):fb P .add t (.int k a) (.int k' b) J=(k=k'∧J (.int k (k.wrap (a+b)))):=(rfl)
theorem a5r(t:TypeId)(k k':IntKind)(a b:Int):fb P .sub t (.int k a) (.int k' b) J=(k=k'∧J (.int k (k.wrap (a - b)))):=(rfl)
theorem a7h(t:TypeId)(k k':IntKind)(a b:Int):fb P .mul t (.int k a) (.int k' b) J=(k=k'∧J (.int k (k.wrap (a*b)))):=(rfl)
theorem a6a(t:TypeId)(k k':IntKind)(a b:Int):fb P .quo t (.int k a) (.int k' b) J=(k=k'∧b≠0∧J (.int k (k.wrap (a.tdiv b)))):=(rfl)
theorem a4h(t:TypeId)(k k':IntKind)(a b:Int):fb P .rem t (.int k a) (.int k' b) J=(k=k'∧b≠0∧J (.int k (a.tmod b))):=(rfl)
theorem a5b(t:TypeId)(k k':IntKind)(a b:Int):fb P .shl t (.int k a) (.int k' b) J=(0≤b∧J (.int k (k.wrap (a*2^min b.toNat k.bits)))):=(rfl)
theorem a7z(t:TypeId)(k k':IntKind)(a b:Int):fb P .shr t (.int k a) (.int k' b) J=(0≤b∧J (.int k (a.fdiv (2^min b.toNat k.bits)))):=(rfl)
theorem a5k(t:TypeId)(k k':IntKind)(a b:Int):fb P .and t (.int k a) (.int k' b) J=(k=k'∧J (.int k (bits .and k a b))):=(rfl)
theorem a9m(t:TypeId)(k k':IntKind)(a b:Int):fb P .or t (.int k a) (.int k' b) J=(k=k'∧J (.int k (bits .or k a b))):=(rfl)
theorem a4q(t:TypeId)(k k':IntKind)(a b:Int):fb P .xor t (.int k a) (.int k' b) J=(k=k'∧J (.int k (bits .xor k a b))):=(rfl)
theorem a74(t:TypeId)(k k':IntKind)(a b:Int):fb P .eql t (.int k a) (.int k' b) J=(k=k'∧J (.bool (decide (a=b)))):=(rfl)
theorem a42(t:TypeId)(k k':IntKind)(a b:Int):fb P .neq t (.int k a) (.int k' b) J=(k=k'∧J (.bool (decide (a≠b)))):=(rfl)
theorem a4j(t:TypeId)(k k':IntKind)(a b:Int):fb P .lss t (.int k a) (.int k' b) J=(k=k'∧J (.bool (decide (a<b)))):=(rfl)
theorem a67(t:TypeId)(k k':IntKind)(a b:Int):fb P .leq t (.int k a) (.int k' b) J=(k=k'∧J (.bool (decide (a≤b)))):=(rfl)
theorem a6t(t:TypeId)(k k':IntKind)(a b:Int):fb P .gtr t (.int k a) (.int k' b) J=(k=k'∧J (.bool (decide (b<a)))):=(rfl)
theorem a47(t:TypeId)(k k':IntKind)(a b:Int):fb P .geq t (.int k a) (.int k' b) J=(k=k'∧J (.bool (decide (b≤a)))):=(rfl)
theorem a20(t:TypeId)(a b:List UInt8):fb P .eql t (.str a) (.str b) J=J (.bool (decide (a=b))):=(rfl)
theorem ax8(t:TypeId)(a b:List UInt8):fb P .neq t (.str a) (.str b) J=J (.bool (decide (a≠b))):=(rfl)
theorem a14(t:TypeId)(a b:List UInt8):fb P .lss t (.str a) (.str b) J=J (.bool (Op.bytesLess a b)):=(rfl)
theorem a2v(t:TypeId)(a b:List UInt8):fb P .gtr t (.str a) (.str b) J=J (.bool (!(Op.bytesLess a b||decide (a=b)))):=(rfl)
theorem a1f(t:TypeId)(a b:List PV):fb P .eql t (.agg a) (.agg b) J=bv (ma P t) fun f=>match f with|some ks=>bv (wx ks a b) (fun q=>match q with|some b=>J (.bool b)|none=>False)|none=>False:=by
 simp only[fb,bv]
 cases ma P t with
 |none=>rfl
 |some ks=>simp only;cases wx ks a b<;>rfl
theorem a2j(t:TypeId)(a b:List PV):fb P .neq t (.agg a) (.agg b) J=bv (ma P t) fun f=>match f with|some ks=>bv (wx ks a b) (fun q=>match q with|some b=>J (.bool (!b))|none=>False)|none=>False:=by
 simp only[fb,bv]
 cases ma P t with
 |none=>rfl
 |some ks=>simp only;cases wx ks a b<;>rfl
theorem am0(t:TypeId)(b:Bool):fb P .eql t (.sn b) .nils J=bv (a8 P t) fun e=>e.isSome=true∧J (.bool b):=(rfl)
theorem ap5(t:TypeId)(xs:List (List PV)):fb P .eql t (.vs xs) .nils J=bv (a8 P t) fun e=>(e.isSome=true∧0<xs.length)∧J (.bool false):=(rfl)
theorem ban(b:Bool):a8o .not (.bool b) J=J (.bool (!b)):=(rfl)
theorem baq(k:IntKind)(n:Int):a8o .neg (.int k n) J=J (.int k (k.wrap (0 - n))):=(rfl)
theorem bbb(k:IntKind)(n:Int):a8o .xor (.int k n) J=J (.int k (bits .xor k (if k.signed then -1 else k.max) n)):=(rfl)
theorem baa(k k':IntKind)(a b:Int):a3o false (.int k a) (.int k' b) K=K (.int k (if b<a then b else a)) [] []:=(rfl)
theorem a9p(k k':IntKind)(a b:Int):a3o true (.int k a) (.int k' b) K=K (.int k (if a<b then b else a)) [] []:=(rfl)
theorem a5i:loN none=some 0:=(rfl)
theorem a4p(k:IntKind)(n:Int):loN (some (.int k n))=some n:=(rfl)
theorem a6m(l:Nat):hiN l none=some (l:Int):=(rfl)
theorem a5u(l:Nat)(k:IntKind)(n:Int):hiN l (some (.int k n))=some n:=(rfl)
theorem bci(t:TypeId)(xs:List (List PV))(lo hi mx:Option PV):d5 P t σ (.vs xs) lo hi mx K=bv (slT P t) fun s=>bv (loN lo) fun l=>bv (hiN xs.length hi) fun h=>bv (hiN xs.length mx) fun m=>match l,s,h,m with
  |some l,some (_,sz,_),some h,some m=>(0≤l∧l≤h∧h≤m∧m≤xs.length∧(mx.isSome=true→hi.isSome=true))∧(0<l→∀x∈xs,x.length=sz)∧K (.vs ((xs.take h.toNat).drop l.toNat)) [] []
  |_,_,_,_=>False:=by
 simp only[d5,bv]
 rcases loN lo with _|l<;>(try rfl)<;>rcases slT P t with _|⟨e,sz,b⟩<;>(try rfl)<;>rcases hiN xs.length hi with _|h<;>(try rfl)<;>rcases hiN xs.length mx with _|m<;>rfl
theorem bcx(t:TypeId)(n k:Nat)(lo hi mx:Option PV):d5 P t σ (.os n k) lo hi mx K=bv (ac σ n) fun B=>match B with
  |some (.arr _ asz _ xs)=>bv (slT P t) fun s=>bv (loN lo) fun l=>bv (hiN xs.length hi) fun h=>bv (hiN xs.length mx) fun m=>match l,s,h,m with
   |some l,some (_,sz,_),some h,some m=>(asz=sz∧k=xs.length∧0≤l∧l≤h∧h≤m∧m≤xs.length∧(mx.isSome=true→hi.isSome=true))∧K (.vs ((xs.take h.toNat).drop l.toNat)) (bt σ [n]) [n]
   |_,_,_,_=>False
  |_=>False:=by
 simp only[d5,bv]
 rcases loN lo with _|l
 ·rcases ac σ n with _|B
  ·rfl
  ·cases B<;>rfl
 ·rcases ac σ n with _|B
  ·rfl
  ·cases B with
   |cells cs=>rfl
   |arh e sz xs=>rfl
   |mp es=>rfl
   |it m k d=>rfl
   |si l p=>rfl
   |arq e sz k xs=>rfl
   |dead sz l=>rfl
   |arr e asz sh xs=>simp only;rcases slT P t with _|⟨e,sz,b⟩<;>(try rfl)<;>rcases hiN xs.length hi with _|h<;>(try rfl)<;>rcases hiN xs.length mx with _|m<;>rfl
theorem a9d(t:TypeId)(xs:List (List PV))(lo hi:Option PV):gh P t σ (.vs xs) lo hi none K=d5 P t σ (.vs xs) lo hi none K:=(rfl)
theorem a40(t:TypeId)(s:List UInt8)(lo hi:Option PV):gh P t σ (.str s) lo hi none K=d5 P t σ (.str s) lo hi none K:=(rfl)
theorem bbq(t:TypeId)(xs:List (List PV))(k1 k2:IntKind)(i j:Int):gh P t σ (.vs xs) none (some (.int k1 i)) (some (.int k2 j)) K=bv (slT P t) fun s=>match s with
  |some _=>(i=j∧0≤i∧i≤xs.length)∧kk K (.vx (xs.take i.toNat)) [] []
  |none=>False:=by
 simp only[gh,a5c,bv,kk]
 rcases slT P t with _|⟨e,sz,b⟩<;>rfl
def bc4(P:Program)(t:TypeId)(σ:ASt)(n k:Nat)(lo hi mx:Option PV)(K:KT):Option Box→Prop
 |some (.arh e asz xs)=>bv (ac σ (900000+n)) fun hint=>match hint with
  |none=>ae5 P t σ n k e asz xs lo hi mx K
  |some _=>aes P t n k asz xs lo hi K
 |_=>d5 P t σ (.os n k) lo hi mx K
theorem bav(t:TypeId)(n k:Nat)(lo hi:Option PV):gh P t σ (.os n k) lo hi none K=bv (ac σ n) (bc4 P t σ n k lo hi none K):=by
 simp only[gh,bv]
 rcases ac σ n with _|B
 ·rfl
 ·cases B<;>rfl
theorem a1z(t:TypeId)(n k:Nat)(lo hi mx:Option PV)(e sz:Nat)(sh:Bool)(xs:List (List PV)):bc4 P t σ n k lo hi mx K (some (.arr e sz sh xs))=d5 P t σ (.os n k) lo hi mx K:=(rfl)
theorem a19(t:TypeId)(n k:Nat)(lo hi mx:Option PV)(e sz:Nat)(xs:List (List PV)):bc4 P t σ n k lo hi mx K (some (.arh e sz xs))=bv (ac σ (900000+n)) fun hint=>match hint with
  |none=>ae5 P t σ n k e sz xs lo hi mx K
  |some _=>aes P t n k sz xs lo hi K:=(rfl)
theorem bbe(t:TypeId)(n k asz:Nat)(xs:List (List PV))(kd:IntKind)(i:Int):aes P t n k asz xs (some (.int kd i)) none K=bv (slT P t) fun s=>match s with
  |some (_,sz,_)=>(asz=sz∧k=xs.length∧0≤i∧i<k)∧kk K (.oss n k i.toNat (k - i.toNat)) [] [n]
  |none=>False:=by
 simp only[aes,bv,kk]
 rcases slT P t with _|⟨e,sz,b⟩<;>rfl
theorem a9x(t:TypeId)(n k asz:Nat)(xs:List (List PV))(kd:IntKind)(i:Int):aes P t n k asz xs none (some (.int kd i)) K=bv (slT P t) fun s=>match s with
  |some (_,sz,_)=>(asz=sz∧k=xs.length∧0<i∧i≤k)∧kk K (.oss n k 0 i.toNat) [] [n]
  |none=>False:=by
 simp only[aes,bv,kk]
 rcases slT P t with _|⟨e,sz,b⟩<;>rfl
theorem a5q(t tx:TypeId)(n k:Nat)(ys:List (List PV)):y4 P t tx σ (.os n k) (.vs ys) K=bv (slT P t) fun s=>bv (slT P tx) fun s2=>bv (ac σ n) fun B=>bcb n k ys K s s2 B:=(rfl)
theorem azp(n k a b e2:Nat)(q:Nat×Nat×Nat)(ys xs:List (List PV)):bcb n k ys K (some (a,1,b)) (some q) (some (.arr e2 1 false xs))=(((0<k∧k=xs.length)∧(∀y∈ys,y.length=1))∧K (.int .i64 ((min ys.length k:Nat):Int)) [(n,.arr e2 1 false (ys.take (min ys.length k)++xs.drop (min ys.length k)))] [n]):=(rfl)
theorem a0j(t tx:TypeId)(n k i m n' k' j m':Nat):y4 P t tx σ (.oss n k i m) (.oss n' k' j m') K=bv (slT P t) fun s=>bv (slT P tx) fun s2=>bv (ac σ n) fun B=>bbx n k i m n' k' j m' K s s2 B:=(rfl)
theorem ayh(n k i m n' k' j m' a b e2:Nat)(q:Nat×Nat×Nat)(xs:List (List PV)):bbx n k i m n' k' j m' K (some (a,1,b)) (some q) (some (.arh e2 1 xs))=((n'=n∧k'=k∧k=xs.length∧i+m≤k∧j+m'≤k∧i<k∧j<k)∧K (.int .i64 ((min m' m:Nat):Int)) [(n,.arh e2 1 (xs.take i++((xs.drop j).take (min m' m)++xs.drop (i+min m' m))))] [n]):=(rfl)
attribute [go_sem ↓] bbe a9x a5q azp a0j ayh a1b
theorem bbh(t:TypeId)(n k e asz:Nat)(xs:List (List PV))(kd:IntKind)(i:Int):ae5 P t σ n k e asz xs (some (.int kd i)) none none K=bv (slT P t) fun s=>match s with
  |some (_,sz,_)=>(asz=sz∧k=xs.length∧0≤i∧i<k)∧kk K (.osl n k i.toNat) [] [n]
  |none=>False:=by
 simp only[ae5,bv,kk]
 rcases slT P t with _|⟨e,sz,b⟩<;>first|rfl|simp only[and_assoc]
theorem a9n(t:TypeId)(n k e asz:Nat)(xs:List (List PV))(kd:IntKind)(i:Int):ae5 P t σ n k e asz xs none (some (.int kd i)) none K=bv (slT P t) fun s=>match s with
  |some (_,sz,_)=>(asz=sz∧k=xs.length∧0≤i∧i≤k)∧ik σ xs=some (xs,[])∧kk K (.vs (xs.take i.toNat)) [(n,.arr e asz true xs)] [n]
  |none=>False:=by
 simp only[ae5,bv,kk]
 rcases slT P t with _|⟨e,sz,b⟩<;>rfl
theorem aw5(t:TypeId)(n k i:Nat):am9 P t σ (.osl n k i) K=bv (slT P t) fun s=>bv (ac σ n) fun B=>match s,B with
  |some (e',sz,_),some (.arh e asz xs)=>bv (av P e') fun z=>match z with
   |some zs=>(asz=sz∧k=xs.length∧i<k∧zs.all eu=true)∧K (.tup []) [(n,.arh e asz (xs.take i++List.replicate (k - i) (zs.map zg)))] [n]
   |none=>False
  |_,_=>False:=by
 simp only[am9,bv]
 rcases slT P t with _|⟨e,sz,b⟩<;>(try rfl)<;>rcases ac σ n with _|B<;>(try rfl)<;>cases B<;>(try rfl)
 all_goals (simp only;rcases av P e with _|z<;>rfl)
theorem a92(t:TypeId)(s:List UInt8)(lo hi:Option PV):d5 P t σ (.str s) lo hi none K=bv (ew P t) fun q=>bv (loN lo) fun l=>bv (hiN s.length hi) fun h=>match l,h with
  |some l,some h=>(q=true∧0≤l∧l≤h∧h≤s.length)∧K (.str ((s.take h.toNat).drop l.toNat)) [] []
  |_,_=>False:=by
 simp only[d5,bv]
 rcases loN lo with _|l<;>(try rfl)<;>rcases hiN s.length hi with _|h<;>(try rfl)
 simp
theorem apl:bt σ []=[]:=(rfl)
theorem ah3(n:Nat)(r:List Nat):bt σ (n::r)=(n,((ac σ n).getD (.cells [])).share)::bt σ r:=(rfl)
theorem aw6(e sz:Nat)(sh:Bool)(xs:List (List PV)):Box.share (.arr e sz sh xs)= .arr e sz true xs:=(rfl)
theorem a73(t:TypeId)(d:Nat)(k1 k2:IntKind)(l c:Int):qx P t (some d) σ (.int k1 l) (.int k2 c) K=bv (slT P t) fun s=>match s with
  |some (e,sz,bytes)=>bv (av P e) fun z=>match z with
   |some zs=>(zs.all eu=true∧0≤l∧l≤c∧(bytes:Int)*c≤140737488355328∧c≤140737488355328∧ac σ d=none)∧K (.os d l.toNat) [(d,.arr e sz false (List.replicate l.toNat (zs.map zg)))] [d]
   |none=>False
  |none=>False:=by
 simp only[qx,bv]
 rcases slT P t with _|⟨e,sz,b⟩
 ·rfl
 ·simp only;rcases av P e with _|z<;>rfl
theorem az0(t tx:TypeId)(d:Option Nat)(u v:PV):rj P t tx d σ u v K=bv (slT P t) fun s=>match s with
  |some (e,sz,bytes)=>s7 P tx sz σ v (w5 e sz bytes d σ u K)
  |none=>False:=by
 simp only[rj,bv]
 rcases slT P t with _|⟨e,sz,b⟩<;>rfl
theorem a8c(t tx:TypeId)(d:Option Nat)(n k:Nat)(v:PV):ww P t tx d σ (.os n k) v K=rj P t tx d σ (.os n k) v K:=(rfl)
theorem aun(t tx:TypeId)(d:Option Nat)(v:PV):ww P t tx d σ .nils v K=rj P t tx d σ .nils v K:=(rfl)
theorem a6q(t tx:TypeId)(d:Option Nat)(xs:List (List PV))(v:PV):ww P t tx d σ (.vx xs) v K=rj P t tx d σ (.vx xs) v K:=(rfl)
attribute [go_sem ↓] a8c aun a6q
attribute [go_sem] Box.arq.injEq PV.oq.injEq
variable (k:List (List PV)→List Nat→Prop)
theorem a8w(tx sz:Nat)(ys:List (List PV)):s7 P tx sz σ (.vs ys) k=bv (ap P tx) fun q=>(q=true∧∀y∈ys,y.length=sz)∧k ys []:=(rfl)
theorem bbt(tx sz:Nat)(b:Bool):s7 P tx sz σ (.sn b) k=bv (ap P tx) fun q=>q=true∧k [] []:=(rfl)
theorem a9u(tx sz:Nat)(m n:Nat):s7 P tx sz σ (.os m n) k=bv (ac σ m) fun B=>bv (ap P tx) fun q=>match B with
  |some (.arr _ sz' _ ys)=>(q=true∧n=ys.length∧sz'=sz)∧k ys [m]
  |_=>False:=by
 simp only[s7,bv]
 rcases ac σ m with _|B<;>(try rfl)<;>cases B<;>rfl
theorem a79(tx sz:Nat)(l:List UInt8):s7 P tx sz σ (.str l) k=bv (ew P tx) fun q=>(q=true∧sz=1)∧k (az l) []:=(rfl)
theorem bap(e sz bytes:Nat)(d:Option Nat)(n m:Nat)(ys:List (List PV))(F:List Nat):w5 e sz bytes d σ (.os n m) K ys F=bv (ac σ n) fun B=>match B with
  |some (.arr e' sz' sh xs)=>(e'=e∧sz'=sz∧m=xs.length∧(xs.length+ys.length)*bytes≤140737488355328)∧K (.os n (m+ys.length)) [(n,.arr e sz sh (xs++ys))] (n::F)
  |some (.arh e' sz' xs)=>(e'=e∧sz'=sz∧m=xs.length∧(xs.length+ys.length)*bytes≤140737488355328)∧K (.os n (m+ys.length)) [(n,.arh e sz (xs++ys))] (n::F)
  |_=>False:=by
 simp only[w5,bv]
 rcases ac σ n with _|B<;>(try rfl)<;>cases B<;>rfl
theorem az7(e sz bytes d:Nat)(ys:List (List PV))(F:List Nat):w5 e sz bytes (some d) σ .nils K ys F=((ac σ d=none∧ys.length*bytes≤140737488355328)∧K (.os d ys.length) [(d,.arr e sz false ys)] (d::F)):=(rfl)
theorem bau(e sz bytes d:Nat)(xs ys:List (List PV))(F:List Nat):w5 e sz bytes (some d) σ (.vx xs) K ys F=((ac σ d=none∧(∀x∈xs,x.length=sz)∧(xs.length+ys.length)*bytes≤140737488355328)∧(ys=[]→K (.vs xs) [] F)∧(0<ys.length→K (.os d (xs.length+ys.length)) [(d,.arr e sz false (xs++ys))] (d::F))):=(rfl)
theorem a5o(t len:Nat)(parts:List (Nat×PV))(d:Nat):gi P t len parts (some d) σ K=bv (slT P t) fun s=>match s with
  |some (e,sz,_)=>bv (ac σ (900000+d)) fun hint=>match hint with
   |none=>bv (ob σ sz 0 parts) fun r=>match r with
    |some (xs,ns)=>(ac σ d=none∧len=parts.length∧len*sz≤16777216)∧kk K (.os d xs.length) (bt σ ns++[(d,.arr e sz false xs)]) (d::ns)
    |none=>False
   |some _=>bv (oe σ sz 0 parts) fun r=>match r with
    |some (xs,ns)=>(ac σ d=none∧len=parts.length∧len*sz≤16777216)∧kk K (.os d xs.length) (bt σ ns++[(d,.arr e sz false xs)]) (d::ns)
    |none=>False
  |none=>False:=by
 simp only[gi,bv,kk]
 rcases slT P t with _|⟨e,sz,b⟩
 ·rfl
 ·simp only
  rcases ac σ (900000+d)with _|B
  ·simp only;rcases ob σ sz 0 parts with _|⟨xs,ns⟩<;>simp only[and_assoc]
  ·simp only;rcases oe σ sz 0 parts with _|⟨xs,ns⟩<;>simp only[and_assoc]
end
section
variable (P:Program) (σ:ASt) (K:KT) {α:Type} [Inhabited α] (f:α→List PV) (l:List α)
theorem iv{i:Nat}(h:i<l.length):dd (l.map f) i=f (el l i):=af7 f l i h
theorem axc(t:TypeId)(kd:IntKind)(i:Int):bj P t σ (.vs (l.map f)) (.int kd i) K=bv (slT P t) fun s=>match s with
  |some (_,sz,_)=>(0≤i∧i<l.length)∧bv (f (el l i.toNat)) fun c=>c.length=sz∧kk K (.el c) [] []
  |none=>False:=by
 rw[ams]
 simp only[bv]
 rcases slT P t with _|⟨e,sz,b⟩
 ·rfl
 ·simp only[List.length_map]
  refine propext (and_congr_right fun h=> ?_)
  rw[iv f l (by omega)]
theorem arn(n k i off e sz:Nat)(sh:Bool):aq1 n k i off K (some none) (some (.arr e sz sh (l.map f)))=((k=l.length∧i<k)∧bv (f (el l i)) fun c=>off<c.length∧kk K (eh c off) [] [n]):=by
 simp only[aq1,bv,List.length_map,and_assoc]
 refine propext (and_congr_right fun h1=>and_congr_right fun h2=> ?_)
 rw[iv f l (by omega)]
theorem aq5(n k i off m e sz:Nat)(sh:Bool):aq1 n k i off K (some (some m)) (some (.arr e sz sh (l.map f)))=((k=l.length∧i<k)∧bv (f (el l i)) fun c=>off+m≤c.length∧kk K (.agg ((c.drop off).take m)) [] [n]):=by
 simp only[aq1,bv,List.length_map,and_assoc]
 refine propext (and_congr_right fun h1=>and_congr_right fun h2=> ?_)
 rw[iv f l (by omega)]
end
theorem a7w(P:Program)(σ:ASt){α:Type}(f:α→List PV)(l:List α)(tx sz:Nat)(k:List (List PV)→List Nat→Prop):s7 P tx sz σ (.vs (l.map f)) k=bv (ap P tx) fun q=>(q=true∧∀y∈l,(f y).length=sz)∧k (l.map f) []:=by
 simp only[s7,bv,List.forall_mem_map]
def u8(b:UInt8):List PV:=[.int .u8 b.toNat]
theorem bcq(b:UInt8):u8 b=[.int .u8 b.toNat]:=(rfl)
theorem aoz(l:List UInt8):az l=l.map u8:=(rfl)
section
variable (P:Program) (N:Nat) (Q:sa) (fr:AFr) (σ:ASt)
theorem a6z:wv P N .skip Q fr σ=Q .normal fr σ:=(rfl)
theorem a5f(id:Nat):wv P N (.exit id) Q fr σ=Q (.exit id) fr σ:=(rfl)
theorem ba1:wv P N .ret Q fr σ=Q .ret fr σ:=(rfl)
theorem bba(a b:Code):wv P N (.seq a b) Q fr σ=wv P N a (wh (wv P N b Q) Q) fr σ:=(rfl)
theorem aze(id:Nat)(c:Code):wv P N (.block id c) Q fr σ=wv P N c (ze id Q) fr σ:=(rfl)
def a8i(a b:Code):PV→Prop
 | .bool t=>(t=true→wv P N a Q fr σ)∧(t=false→wv P N b Q fr σ)
 |_=>False
theorem a4g(c:Operand)(a b:Code):wv P N (.cond c a b) Q fr σ=bv (ev fr c) (a8i P N Q fr σ a b):=by
 simp only[wv,bv]
 cases ev fr c<;>rfl
theorem y5(a b:Code)(t:Bool):a8i P N Q fr σ a b (.bool t)=((t=true→wv P N a Q fr σ)∧(t=false→wv P N b Q fr σ)):=(rfl)
theorem aqw(id:Nat)(l:List Oper):wv P N (.region id l.toArray false) Q fr σ=k9 P l.toArray l fr σ (Q .normal):=(rfl)
def okD(ops:List Oper)(g:Log):Prop:=afj ops.toArray g.reverse=true
theorem ap4(id:Nat)(l:List Oper):wv P N (.region id l.toArray true) Q fr σ=evD P l.toArray l fr σ [] fun fr' σ' g=>okD l g∧Q .normal fr' σ':=(rfl)
variable (K:AFr→ASt→Prop)
theorem aeh:wh K Q .normal fr σ=K fr σ:=(rfl)
theorem ao6(id:Nat):wh K Q (.exit id) fr σ=Q (.exit id) fr σ:=(rfl)
theorem ato:wh K Q .ret fr σ=Q .ret fr σ:=(rfl)
theorem aao(id:Nat):ze id Q .normal fr σ=Q .normal fr σ:=(rfl)
theorem anc(id:Nat):ze id Q .ret fr σ=Q .ret fr σ:=(rfl)
theorem ai3(id id':Nat):ze id Q (.exit id') fr σ=if id'=id then Q .normal fr σ else Q (.exit id') fr σ:=(rfl)
variable (rs:List ResultVar) (ns exts:List Nat) (r:PV) (nb ext':List Box)
theorem ag0:bdp P rs ns exts r nb ext' .normal fr σ=a1x P rs ns exts r nb ext' fr σ:=(rfl)
theorem ay8:bdp P rs ns exts r nb ext' .ret fr σ=a1x P rs ns exts r nb ext' fr σ:=(rfl)
theorem a8m:a1x P rs ns exts r nb ext' fr σ=bv (ahp P fr σ rs) fun us=>bv (r7 σ ns) fun a=>bv (r7 σ exts) fun b=>match us with
  |some us=>bv (ol σ ns exts us) fun c=>match a,b,c with
   |some (nb0,b1),some (e0,b2),some (us',b3)=>pe ns exts (b1++(b2++b3))=true∧nb0=nb∧e0=ext'∧af8 us'=r
   |_,_,_=>False
  |none=>False:=by
 simp only[a1x,bv]
 rcases ahp P fr σ rs with _|us
 ·rfl
 ·simp only
  rcases r7 σ ns with _|⟨nb0,b1⟩<;>(try rfl)<;>rcases r7 σ exts with _|⟨e0,b2⟩<;>(try rfl)<;>rcases ol σ ns exts us with _|⟨us',b3⟩<;>rfl
end
attribute [congr] a1y
theorem aio{a0}:d7 (.move a0)=false:=(rfl)
theorem acq{a0}:d7 (.assign a0)=false:=(rfl)
theorem ag8{a0}{a1}{a2}:d7 (.pick a0 a1 a2)=false:=(rfl)
theorem aew{a0}:d7 (.alloc a0)=false:=(rfl)
theorem aed{a0}{a1}:d7 (.build a0 a1)=false:=(rfl)
theorem ra{a0}{a1}{a2}:d7 (.buildSlice a0 a1 a2)=false:=(rfl)
theorem ajo{a0}{a1}:d7 (.load a0 a1)=false:=(rfl)
theorem aeu{a0}{a1}{a2}:d7 (.store a0 a1 a2)=false:=(rfl)
theorem wt{a0}:d7 (.nilCheck a0)=false:=(rfl)
theorem adj{a0}{a1}{a2}{a3}{a4}:d7 (.binOp a0 a1 a2 a3 a4)=false:=(rfl)
theorem ai8{a0}{a1}{a2}:d7 (.unOp a0 a1 a2)=false:=(rfl)
theorem xw{a0}{a1}{a2}:d7 (.convert a0 a1 a2)=false:=(rfl)
theorem afy{a0}{a1}{a2}{a3}{a4}:d7 (.slice a0 a1 a2 a3 a4)=false:=(rfl)
theorem s4{a0}{a1}{a2}:d7 (.fieldAddr a0 a1 a2)=false:=(rfl)
theorem sc{a0}{a1}{a2}:d7 (.indexAddr a0 a1 a2)=false:=(rfl)
theorem x5{a0}{a1}:d7 (.extract a0 a1)=false:=(rfl)
theorem ahe{a0}:d7 (.call a0)=false:=(rfl)
attribute [go_sem] a5x aio acq ag8 aew aed ra ajo aeu wt adj ai8 xw afy s4 sc x5 ahe
attribute [go_sem ↓] avo ao4 au8 ard a9c aso aor at8 asn am1 ar6 ayn abt azg a5d air axm
attribute [go_sem] a4r akz me oe ke aqm ik a3u a3c wy bac Box.arh.injEq Box.mp.injEq Box.it.injEq PV.mh.injEq
attribute [go_sem ↓] bc9
attribute [go_sem ↓] bc8 ay9 asp a93 a0t a68 ar7 a2g a17 as8 a1e arv
attribute [go_sem ↓] ag3 agc aen aty aqi anr ai0 a7u adc abb abf a6p a1d ayq aa4 azf
attribute [go_sem ↓] aku
attribute [go_sem ↓ 1100] a12
attribute [go_sem ↓ 1100] arn aq5 axc a7w
theorem a6n(d e:Nat)(l:List UInt8)(K:KT):bd3 d e l K=kk K (.os d l.length) [(d,.arr e 1 false (l.map u8))] [d]:=(rfl)
attribute [go_sem] bcq aoz a6n
attribute [go_sem ↓] agx ao5 ai5
attribute [go_sem] aqd ani aop ap6 bcj av9 ax7 a2n ash avx aoy aqg
attribute [go_sem ↓] aw2 a1w ap1 ay4 zw ae9 a0s aha a21 atd a58 atz xq a1m arw acl aah ar1 as9 azj ajv au5 abv aez a2r a6i aog a65 a6y
attribute [go_sem ↓] apg ate aof vo ah6 ai4 aow ai2 ams a2m au6 aho ajt asd a2d az3 aoe awo
attribute [go_sem ↓] a54 a5r a7h a6a a4h a5b a7z a5k a9m a4q a74 a42 a4j a67 a6t a47 a20 ax8 a14 a2v a1f a2j ban baq bbb baa a9p
attribute [go_sem ↓] am0 ap5 bbt
attribute [go_sem ↓] a9d a40 bav bbq a1z a19 bbh a9n aw5 aua awp arg bci bcx a92 a73 az0 a8w bau a9u a79 bap az7 a5o
attribute [go_sem] a5i a4p a6m a5u apl ah3 aw6 azm auc ay6 as7
attribute [go_sem ↓] a6z a5f ba1 bba aze a4g y5 aqw ap4 aeh ao6 ato aao anc ai3 ag0 ay8 a8m
theorem a59(σ:ASt)(fr:AFr):wkF σ fr []=True:=(rfl)
theorem a03(σ:ASt)(fr:AFr)(s:Nat)(u:PV)(r:AFr):wkF σ fr ((s,u)::r)=(bv (look fr s) (fun v=>bv u fun u=>wkU σ v u)∧wkF σ fr r):=(rfl)
theorem a7b(fr:AFr):wkN fr []=[]:=(rfl)
theorem aya(fr:AFr)(s:Nat)(u:PV)(r:AFr):wkN fr ((s,u)::r)=a81 (look fr s) u++wkN fr r:=(rfl)
theorem a8g(σ:ASt):wkS σ []=True:=(rfl)
theorem az9(σ:ASt)(n:Nat)(B:Box)(r:ASt):wkS σ ((n,B)::r)=(bv (ac σ n) (fun v=>v=some B)∧wkS σ r):=(rfl)
theorem bcn(fr:AFr)(σ:ASt)(fr':AFr)(σ':ASt):wk fr σ fr' σ'=(wkF σ fr fr'∧wkS σ σ'∧aju (σ'.map (·.1)) (wkN fr fr')=true∧a3b (σ'.map (·.1)) fr'=true∧xk (σ'.map (·.1)) σ'=true∧a80 (σ'.map (·.1)) σ=true):=(rfl)
theorem loop{P:Program}(hm:P.follows .mixedOrders=true){N:Nat}{c:Code}{Q:sa}{fr:AFr}{σ:ASt}{ι:Type}(i0:ι)(fs:ι→AFr)(ss:ι→ASt)(I:ι→Prop)(μ:ι→Nat)(hc:fu N c=true)(hI:I i0)(hw:wk fr σ (fs i0) (ss i0))
  (round: ∀i,I i→wv P N c (wh (fun fr' σ'=> ∃j,(I j∧μ j<μ i)∧wk fr' σ' (fs j) (ss j)) Q) (fs i) (ss i)):wv P N (.loop c) Q fr σ:=
 a9o hm hc fs ss I μ i0 hI hw round
theorem bde{P:Program}(hm:P.follows .mixedOrders=true){N:Nat}{c:Code}{Q:sa}{fr:AFr}{σ:ASt}{ι:Type}(i0:ι)(fs:ι→AFr)(ss:ι→ASt)(I:ι→Prop)(μ:ι→Nat)(hc:fu N c=true)(l0:List (Nat×Nat))(hI:I i0)(hw:wkR l0 fr σ (fs i0) (ss i0))
  (round: ∀i,I i→wv P N c (wh (fun fr' σ'=> ∃j l,(I j∧μ j<μ i)∧wkR l fr' σ' (fs j) (ss j)) Q) (fs i) (ss i)):wv P N (.loop c) Q fr σ:=
 a64 hm hc fs ss I μ i0 hI l0 hw round
theorem bat(l:List (Nat×Nat))(fr:AFr)(σ:ASt)(fr':AFr)(σ':ASt):wkR l fr σ fr' σ'=(a3t l fr σ∧bv (atb l fr σ) fun p=>wk p.1 p.2 fr' σ'):=(rfl)
theorem ay7(fr:AFr)(σ:ASt):a3t [] fr σ=True:=(rfl)
theorem ar3(n m:Nat)(r:List (Nat×Nat))(fr:AFr)(σ:ASt):a3t ((n,m)::r) fr σ=((bv (ac σ m) (fun B=>B=none)∧n<1000000∧m<1000000∧n≠m)∧bv (axt n m fr) fun fr=>bv (yd n m σ) fun σ=>a3t r fr σ):=(rfl)
theorem a18(fr:AFr)(σ:ASt):atb [] fr σ=(fr,σ):=(rfl)
theorem ara(n m:Nat)(r:List (Nat×Nat))(fr:AFr)(σ:ASt):atb ((n,m)::r) fr σ=atb r (axt n m fr) (yd n m σ):=(rfl)
attribute [go_sem ↓] bat ay7 ar3
attribute [go_sem] a18 ara axt yd renV ld jk rn
attribute [go_sem ↓] a7b a59 a03 a8g az9 bcn
attribute [go_sem] aya wkU a81 aju a3b xk a80 a3z agv
attribute [go_sem] decide_true decide_false decide_eq_true_eq decide_eq_false_iff_not Bool.not_eq_true' Bool.not_eq_false' Bool.not_true Bool.not_false true_and and_true false_and and_false forall_const implies_true not_true_eq_false not_false_eq_true eq_self ne_eq
attribute [go_sem] Bool.true_and Bool.and_true Bool.false_and Bool.and_false Bool.true_or Bool.or_true Bool.false_or Bool.or_false Bool.and_eq_true Bool.or_eq_true Bool.not_eq_true Bool.true_eq_false Bool.false_eq_true
attribute [go_sem] List.length_map List.length_cons List.length_nil List.length_append List.length_replicate List.map_cons List.map_nil List.append_nil List.nil_append List.cons_append List.toList_toArray List.all_nil List.all_cons
attribute [go_sem] List.take_zero List.take_succ_cons List.take_nil List.drop_zero List.drop_succ_cons List.drop_nil Option.map_some Option.map_none Option.getD_some Option.isSome_some Option.isSome_none
theorem a9q{α:Type}(f:α→List PV)(l:List α)(n:Nat):(l.map f).take n=(l.take n).map f:=List.map_take.symm
theorem a9v{α:Type}(f:α→List PV)(l:List α)(n:Nat):(l.map f).drop n=(l.drop n).map f:=List.map_drop.symm
theorem all_map{α:Type}(f:α→List PV)(l:List α)(p:List PV→Prop):(∀x∈l.map f,p x)= ∀x∈l,p (f x):=by simp
attribute [go_sem] a9q a9v
attribute [go_sem ↓] all_map
theorem bam(n:Nat):((no_index (OfNat.ofNat n):Nat):Int)=OfNat.ofNat n:=(rfl)
attribute [go_sem] bam Int.toNat_natCast Int.toNat_zero Int.ofNat_lt Int.ofNat_le Int.natCast_nonneg Int.ofNat_eq_natCast Int.zero_le_ofNat
attribute [go_sem] PV.int.injEq PV.bool.injEq PV.vs.injEq PV.str.injEq PV.os.injEq PV.tup.injEq PV.agg.injEq PV.ptr.injEq PV.el.injEq PV.fn.injEq Box.arr.injEq Box.cells.injEq Option.some.injEq Prod.mk.injEq List.cons.injEq
attribute [go_sem] List.not_mem_nil List.mem_cons List.contains_nil List.contains_cons or_false false_or not_or Nat.not_lt_zero Nat.zero_add Nat.add_zero
attribute [go_sem] c9 pur f9 ob ba5 ahp ajj r7 a2y ol a8y aif af8 lh eqC wx yb uv eu
end Go.Proofs.Am
