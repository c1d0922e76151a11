/- AmU. -/
import Derived.Test.YtloaichcpoboeaaGreatDoorAmS
set_option linter.unusedSimpArgs false
set_option linter.unusedVariables false
namespace Go.Proofs.Am
open Go Go.RowKit
variable {P:Program}
section
variable (P:Program) (σ:ASt) (K:KT) (J:PV→Prop)
theorem a7u(t:TypeId)(k k':IntKind)(a b:Int):fe P .add t (.int k a) (.int k' b) J=(k=k'∧J (.int k (k.wrap (a+b)))):=(rfl)
theorem a8o(t:TypeId)(k k':IntKind)(a b:Int):fe P .sub t (.int k a) (.int k' b) J=(k=k'∧J (.int k (k.wrap (a - b)))):=(rfl)
theorem a44(t:TypeId)(k k':IntKind)(a b:Int):fe P .mul t (.int k a) (.int k' b) J=(k=k'∧J (.int k (k.wrap (a*b)))):=(rfl)
theorem a73(t:TypeId)(k k':IntKind)(a b:Int):fe P .quo t (.int k a) (.int k' b) J=(k=k'∧b≠0∧J (.int k (k.wrap (a.tdiv b)))):=(rfl)
theorem a4o(t:TypeId)(k k':IntKind)(a b:Int):fe P .rem t (.int k a) (.int k' b) J=(k=k'∧b≠0∧J (.int k (a.tmod b))):=(rfl)
theorem a8w(t:TypeId)(k k':IntKind)(a b:Int):fe P .shl t (.int k a) (.int k' b) J=(0≤b∧J (.int k (k.wrap (a*2^min b.toNat k.bits)))):=(rfl)
theorem a7b(t:TypeId)(k k':IntKind)(a b:Int):fe P .shr t (.int k a) (.int k' b) J=(0≤b∧J (.int k (a.fdiv (2^min b.toNat k.bits)))):=(rfl)
theorem a4q(t:TypeId)(k k':IntKind)(a b:Int):fe P .and t (.int k a) (.int k' b) J=(k=k'∧J (.int k (bits .and k a b))):=(rfl)
theorem a94(t:TypeId)(k k':IntKind)(a b:Int):fe P .or t (.int k a) (.int k' b) J=(k=k'∧J (.int k (bits .or k a b))):=(rfl)
theorem a8t(t:TypeId)(k k':IntKind)(a b:Int):fe P .xor t (.int k a) (.int k' b) J=(k=k'∧J (.int k (bits .xor k a b))):=(rfl)
theorem a74(t:TypeId)(k k':IntKind)(a b:Int):fe P .eql t (.int k a) (.int k' b) J=(k=k'∧J (.bool (decide (a=b)))):=(rfl)
theorem a7c(t:TypeId)(k k':IntKind)(a b:Int):fe P .neq t (.int k a) (.int k' b) J=(k=k'∧J (.bool (decide (a≠b)))):=(rfl)
theorem a67(t:TypeId)(k k':IntKind)(a b:Int):fe P .lss t (.int k a) (.int k' b) J=(k=k'∧J (.bool (decide (a<b)))):=(rfl)
theorem a5r(t:TypeId)(k k':IntKind)(a b:Int):fe P .leq t (.int k a) (.int k' b) J=(k=k'∧J (.bool (decide (a≤b)))):=(rfl)
theorem a6h(t:TypeId)(k k':IntKind)(a b:Int):fe P .gtr t (.int k a) (.int k' b) J=(k=k'∧J (.bool (decide (b<a)))):=(rfl)
theorem a4t(t:TypeId)(k k':IntKind)(a b:Int):fe P .geq t (.int k a) (.int k' b) J=(k=k'∧J (.bool (decide (b≤a)))):=(rfl)
theorem a01(t:TypeId)(a b:List UInt8):fe P .eql t (.str a) (.str b) J=J (.bool (decide (a=b))):=(rfl)
theorem az2(t:TypeId)(a b:List UInt8):fe P .neq t (.str a) (.str b) J=J (.bool (decide (a≠b))):=(rfl)
theorem ay8(t:TypeId)(a b:List UInt8):fe P .lss t (.str a) (.str b) J=J (.bool (Op.bytesLess a b)):=(rfl)
theorem azu(t:TypeId)(a b:List UInt8):fe P .gtr t (.str a) (.str b) J=J (.bool (!(Op.bytesLess a b||decide (a=b)))):=(rfl)
theorem a2n(t:TypeId)(a b:List PV):fe P .eql t (.agg a) (.agg b) J=bv (mb P t) fun f=>match f with|some ks=>bv (xi ks a b) (fun q=>match q with|some b=>J (.bool b)|none=>False)|none=>False:=by
 simp only[fe,bv]
 cases mb P t with
 |none=>rfl
 |some ks=>simp only;cases xi ks a b<;>rfl
theorem a2g(t:TypeId)(a b:List PV):fe P .neq t (.agg a) (.agg b) J=bv (mb P t) fun f=>match f with|some ks=>bv (xi ks a b) (fun q=>match q with|some b=>J (.bool (!b))|none=>False)|none=>False:=by
 simp only[fe,bv]
 cases mb P t with
 |none=>rfl
 |some ks=>simp only;cases xi ks a b<;>rfl
theorem anj(t:TypeId)(b:Bool):fe P .eql t (.sn b) .nils J=bv (bd P t) fun e=>e.isSome=true∧J (.bool b):=(rfl)
theorem ans(t:TypeId)(xs:List (List PV)):fe P .eql t (.vs xs) .nils J=bv (bd P t) fun e=>(e.isSome=true∧0<xs.length)∧J (.bool false):=(rfl)
theorem a9v(b:Bool):a6d .not (.bool b) J=J (.bool (!b)):=(rfl)
theorem a9m(k:IntKind)(n:Int):a6d .neg (.int k n) J=J (.int k (k.wrap (0 - n))):=(rfl)
theorem bbm(k:IntKind)(n:Int):a6d .xor (.int k n) J=J (.int k (bits .xor k (if k.signed then -1 else k.max) n)):=(rfl)
theorem a90(k k':IntKind)(a b:Int):a4b false (.int k a) (.int k' b) K=K (.int k (if b<a then b else a)) [] []:=(rfl)
theorem a9p(k k':IntKind)(a b:Int):a4b true (.int k a) (.int k' b) K=K (.int k (if a<b then b else a)) [] []:=(rfl)
theorem a8j:loN none=some 0:=(rfl)
theorem a7k(k:IntKind)(n:Int):loN (some (.int k n))=some n:=(rfl)
theorem a58(l:Nat):hiN l none=some (l:Int):=(rfl)
theorem a83(l:Nat)(k:IntKind)(n:Int):hiN l (some (.int k n))=some n:=(rfl)
theorem bco(t:TypeId)(xs:List (List PV))(lo hi mx:Option PV):d6 P t σ (.vs xs) lo hi mx K=bv (slT P t) fun s=>bv (loN lo) fun l=>bv (hiN xs.length hi) fun h=>bv (hiN xs.length mx) fun m=>match l,s,h,m with
  |some l,some (_,sz,_),some h,some m=>(0≤l∧l≤h∧h≤m∧m≤xs.length∧(mx.isSome=true→hi.isSome=true))∧(0<l→∀x∈xs,x.length=sz)∧K (.vs ((xs.take h.toNat).drop l.toNat)) [] []
  |_,_,_,_=>False:=by
 simp only[d6,bv]
 rcases loN lo with _|l<;>(try rfl)<;>rcases slT P t with _|⟨e,sz,b⟩<;>(try rfl)<;>rcases hiN xs.length hi with _|h<;>(try rfl)<;>rcases hiN xs.length mx with _|m<;>rfl
theorem bdd(t:TypeId)(n k:Nat)(lo hi mx:Option PV):d6 P t σ (.os n k) lo hi mx K=bv (ac σ n) fun B=>match B with
  |some (.arr _ asz _ xs)=>bv (slT P t) fun s=>bv (loN lo) fun l=>bv (hiN xs.length hi) fun h=>bv (hiN xs.length mx) fun m=>match l,s,h,m with
   |some l,some (_,sz,_),some h,some m=>(asz=sz∧k=xs.length∧0≤l∧l≤h∧h≤m∧m≤xs.length∧(mx.isSome=true→hi.isSome=true))∧K (.vs ((xs.take h.toNat).drop l.toNat)) (bt σ [n]) [n]
   |_,_,_,_=>False
  |_=>False:=by
 simp only[d6,bv]
 rcases loN lo with _|l
 ·rcases ac σ n with _|B
  ·rfl
  ·cases B<;>rfl
 ·rcases ac σ n with _|B
  ·rfl
  ·cases B with
   |cells cs=>rfl
   |arh e sz xs=>rfl
   |mp es=>rfl
   |it m k d=>rfl
   |si l p=>rfl
   |arq e sz k xs=>rfl
   |dead sz l=>rfl
   |arr e asz sh xs=>simp only;rcases slT P t with _|⟨e,sz,b⟩<;>(try rfl)<;>rcases hiN xs.length hi with _|h<;>(try rfl)<;>rcases hiN xs.length mx with _|m<;>rfl
theorem ba3(t:TypeId)(xs:List (List PV))(lo hi:Option PV):gh P t σ (.vs xs) lo hi none K=d6 P t σ (.vs xs) lo hi none K:=(rfl)
theorem a7v(t:TypeId)(s:List UInt8)(lo hi:Option PV):gh P t σ (.str s) lo hi none K=d6 P t σ (.str s) lo hi none K:=(rfl)
theorem bba(t:TypeId)(xs:List (List PV))(k1 k2:IntKind)(i j:Int):gh P t σ (.vs xs) none (some (.int k1 i)) (some (.int k2 j)) K=bv (slT P t) fun s=>match s with
  |some _=>(i=j∧0≤i∧i≤xs.length)∧kk K (.vx (xs.take i.toNat)) [] []
  |none=>False:=by
 simp only[gh,a6n,bv,kk]
 rcases slT P t with _|⟨e,sz,b⟩<;>rfl
def bcn(P:Program)(t:TypeId)(σ:ASt)(n k:Nat)(lo hi mx:Option PV)(K:KT):Option Box→Prop
 |some (.arh e asz xs)=>bv (ac σ (900000+n)) fun hint=>match hint with
  |none=>afq P t σ n k e asz xs lo hi mx K
  |some _=>aej P t n k asz xs lo hi K
 |_=>d6 P t σ (.os n k) lo hi mx K
theorem bav(t:TypeId)(n k:Nat)(lo hi:Option PV):gh P t σ (.os n k) lo hi none K=bv (ac σ n) (bcn P t σ n k lo hi none K):=by
 simp only[gh,bv]
 rcases ac σ n with _|B
 ·rfl
 ·cases B<;>rfl
theorem a3c(t:TypeId)(n k:Nat)(lo hi mx:Option PV)(e sz:Nat)(sh:Bool)(xs:List (List PV)):bcn P t σ n k lo hi mx K (some (.arr e sz sh xs))=d6 P t σ (.os n k) lo hi mx K:=(rfl)
theorem a13(t:TypeId)(n k:Nat)(lo hi mx:Option PV)(e sz:Nat)(xs:List (List PV)):bcn P t σ n k lo hi mx K (some (.arh e sz xs))=bv (ac σ (900000+n)) fun hint=>match hint with
  |none=>afq P t σ n k e sz xs lo hi mx K
  |some _=>aej P t n k sz xs lo hi K:=(rfl)
theorem a96(t:TypeId)(n k asz:Nat)(xs:List (List PV))(kd:IntKind)(i:Int):aej P t n k asz xs (some (.int kd i)) none K=bv (slT P t) fun s=>match s with
  |some (_,sz,_)=>(asz=sz∧k=xs.length∧0≤i∧i<k)∧kk K (.oss n k i.toNat (k - i.toNat)) [] [n]
  |none=>False:=by
 simp only[aej,bv,kk]
 rcases slT P t with _|⟨e,sz,b⟩<;>rfl
theorem baa(t:TypeId)(n k asz:Nat)(xs:List (List PV))(kd:IntKind)(i:Int):aej P t n k asz xs none (some (.int kd i)) K=bv (slT P t) fun s=>match s with
  |some (_,sz,_)=>(asz=sz∧k=xs.length∧0<i∧i≤k)∧kk K (.oss n k 0 i.toNat) [] [n]
  |none=>False:=by
 simp only[aej,bv,kk]
 rcases slT P t with _|⟨e,sz,b⟩<;>rfl
theorem a5q(t tx:TypeId)(n k:Nat)(ys:List (List PV)):y4 P t tx σ (.os n k) (.vs ys) K=bv (slT P t) fun s=>bv (slT P tx) fun s2=>bv (ac σ n) fun B=>bb8 n k ys K s s2 B:=(rfl)
theorem a0u(n k a b e2:Nat)(q:Nat×Nat×Nat)(ys xs:List (List PV)):bb8 n k ys K (some (a,1,b)) (some q) (some (.arr e2 1 false xs))=(((0<k∧k=xs.length)∧(∀y∈ys,y.length=1))∧K (.int .i64 ((min ys.length k:Nat):Int)) [(n,.arr e2 1 false (ys.take (min ys.length k)++xs.drop (min ys.length k)))] [n]):=(rfl)
theorem a1g(t tx:TypeId)(n k i m n' k' j m':Nat):y4 P t tx σ (.oss n k i m) (.oss n' k' j m') K=bv (slT P t) fun s=>bv (slT P tx) fun s2=>bv (ac σ n) fun B=>bb5 n k i m n' k' j m' K s s2 B:=(rfl)
theorem a0h(n k i m n' k' j m' a b e2:Nat)(q:Nat×Nat×Nat)(xs:List (List PV)):bb5 n k i m n' k' j m' K (some (a,1,b)) (some q) (some (.arh e2 1 xs))=((n'=n∧k'=k∧k=xs.length∧i+m≤k∧j+m'≤k∧i<k∧j<k)∧K (.int .i64 ((min m' m:Nat):Int)) [(n,.arh e2 1 (xs.take i++((xs.drop j).take (min m' m)++xs.drop (i+min m' m))))] [n]):=(rfl)
attribute [go_sem ↓] a96 baa a5q a0u a1g a0h azd
theorem bae(t:TypeId)(n k e asz:Nat)(xs:List (List PV))(kd:IntKind)(i:Int):afq P t σ n k e asz xs (some (.int kd i)) none none K=bv (slT P t) fun s=>match s with
  |some (_,sz,_)=>(asz=sz∧k=xs.length∧0≤i∧i<k)∧kk K (.osl n k i.toNat) [] [n]
  |none=>False:=by
 simp only[afq,bv,kk]
 rcases slT P t with _|⟨e,sz,b⟩<;>first|rfl|simp only[and_assoc]
theorem ba8(t:TypeId)(n k e asz:Nat)(xs:List (List PV))(kd:IntKind)(i:Int):afq P t σ n k e asz xs none (some (.int kd i)) none K=bv (slT P t) fun s=>match s with
  |some (_,sz,_)=>(asz=sz∧k=xs.length∧0≤i∧i≤k)∧iu σ xs=some (xs,[])∧kk K (.vs (xs.take i.toNat)) [(n,.arr e asz true xs)] [n]
  |none=>False:=by
 simp only[afq,bv,kk]
 rcases slT P t with _|⟨e,sz,b⟩<;>rfl
theorem axv(t:TypeId)(n k i:Nat):anr P t σ (.osl n k i) K=bv (slT P t) fun s=>bv (ac σ n) fun B=>match s,B with
  |some (e',sz,_),some (.arh e asz xs)=>bv (av P e') fun z=>match z with
   |some zs=>(asz=sz∧k=xs.length∧i<k∧zs.all ew=true)∧K (.tup []) [(n,.arh e asz (xs.take i++List.replicate (k - i) (zs.map aab)))] [n]
   |none=>False
  |_,_=>False:=by
 simp only[anr,bv]
 rcases slT P t with _|⟨e,sz,b⟩<;>(try rfl)<;>rcases ac σ n with _|B<;>(try rfl)<;>cases B<;>(try rfl)
 all_goals (simp only;rcases av P e with _|z<;>rfl)
theorem bbo(t:TypeId)(s:List UInt8)(lo hi:Option PV):d6 P t σ (.str s) lo hi none K=bv (ez P t) fun q=>bv (loN lo) fun l=>bv (hiN s.length hi) fun h=>match l,h with
  |some l,some h=>(q=true∧0≤l∧l≤h∧h≤s.length)∧K (.str ((s.take h.toNat).drop l.toNat)) [] []
  |_,_=>False:=by
 simp only[d6,bv]
 rcases loN lo with _|l<;>(try rfl)<;>rcases hiN s.length hi with _|h<;>(try rfl)
 simp
theorem ao5:bt σ []=[]:=(rfl)
theorem aj2(n:Nat)(r:List Nat):bt σ (n::r)=(n,((ac σ n).getD (.cells [])).share)::bt σ r:=(rfl)
theorem atu(e sz:Nat)(sh:Bool)(xs:List (List PV)):Box.share (.arr e sz sh xs)= .arr e sz true xs:=(rfl)
theorem a8g(t:TypeId)(d:Nat)(k1 k2:IntKind)(l c:Int):qy P t (some d) σ (.int k1 l) (.int k2 c) K=bv (slT P t) fun s=>match s with
  |some (e,sz,bytes)=>bv (av P e) fun z=>match z with
   |some zs=>(zs.all ew=true∧0≤l∧l≤c∧(bytes:Int)*c≤140737488355328∧c≤140737488355328∧ac σ d=none)∧K (.os d l.toNat) [(d,.arr e sz false (List.replicate l.toNat (zs.map aab)))] [d]
   |none=>False
  |none=>False:=by
 simp only[qy,bv]
 rcases slT P t with _|⟨e,sz,b⟩
 ·rfl
 ·simp only;rcases av P e with _|z<;>rfl
theorem a0d(t tx:TypeId)(d:Option Nat)(u v:PV):r7 P t tx d σ u v K=bv (slT P t) fun s=>match s with
  |some (e,sz,bytes)=>s6 P tx sz σ v (vv e sz bytes d σ u K)
  |none=>False:=by
 simp only[r7,bv]
 rcases slT P t with _|⟨e,sz,b⟩<;>rfl
theorem a60(t tx:TypeId)(d:Option Nat)(n k:Nat)(v:PV):vd P t tx d σ (.os n k) v K=r7 P t tx d σ (.os n k) v K:=(rfl)
theorem awo(t tx:TypeId)(d:Option Nat)(v:PV):vd P t tx d σ .nils v K=r7 P t tx d σ .nils v K:=(rfl)
theorem a7w(t tx:TypeId)(d:Option Nat)(xs:List (List PV))(v:PV):vd P t tx d σ (.vx xs) v K=r7 P t tx d σ (.vx xs) v K:=(rfl)
attribute [go_sem ↓] a60 awo a7w
attribute [go_sem] Box.arq.injEq PV.oq.injEq
variable (k:List (List PV)→List Nat→Prop)
theorem a6u(tx sz:Nat)(ys:List (List PV)):s6 P tx sz σ (.vs ys) k=bv (ap P tx) fun q=>(q=true∧∀y∈ys,y.length=sz)∧k ys []:=(rfl)
theorem bas(tx sz:Nat)(b:Bool):s6 P tx sz σ (.sn b) k=bv (ap P tx) fun q=>q=true∧k [] []:=(rfl)
theorem a9r(tx sz:Nat)(m n:Nat):s6 P tx sz σ (.os m n) k=bv (ac σ m) fun B=>bv (ap P tx) fun q=>match B with
  |some (.arr _ sz' _ ys)=>(q=true∧n=ys.length∧sz'=sz)∧k ys [m]
  |_=>False:=by
 simp only[s6,bv]
 rcases ac σ m with _|B<;>(try rfl)<;>cases B<;>rfl
theorem a5o(tx sz:Nat)(l:List UInt8):s6 P tx sz σ (.str l) k=bv (ez P tx) fun q=>(q=true∧sz=1)∧k (a8 l) []:=(rfl)
theorem bbh(e sz bytes:Nat)(d:Option Nat)(n m:Nat)(ys:List (List PV))(F:List Nat):vv e sz bytes d σ (.os n m) K ys F=bv (ac σ n) fun B=>match B with
  |some (.arr e' sz' sh xs)=>(e'=e∧sz'=sz∧m=xs.length∧(xs.length+ys.length)*bytes≤140737488355328)∧K (.os n (m+ys.length)) [(n,.arr e sz sh (xs++ys))] (n::F)
  |some (.arh e' sz' xs)=>(e'=e∧sz'=sz∧m=xs.length∧(xs.length+ys.length)*bytes≤140737488355328)∧K (.os n (m+ys.length)) [(n,.arh e sz (xs++ys))] (n::F)
  |_=>False:=by
 simp only[vv,bv]
 rcases ac σ n with _|B<;>(try rfl)<;>cases B<;>rfl
theorem a3b(e sz bytes d:Nat)(ys:List (List PV))(F:List Nat):vv e sz bytes (some d) σ .nils K ys F=((ac σ d=none∧ys.length*bytes≤140737488355328)∧K (.os d ys.length) [(d,.arr e sz false ys)] (d::F)):=(rfl)
theorem ba7(e sz bytes d:Nat)(xs ys:List (List PV))(F:List Nat):vv e sz bytes (some d) σ (.vx xs) K ys F=((ac σ d=none∧(∀x∈xs,x.length=sz)∧(xs.length+ys.length)*bytes≤140737488355328)∧(ys=[]→K (.vs xs) [] F)∧(0<ys.length→K (.os d (xs.length+ys.length)) [(d,.arr e sz false (xs++ys))] (d::F))):=(rfl)
theorem a5c(t len:Nat)(parts:List (Nat×PV))(d:Nat):gq P t len parts (some d) σ K=bv (slT P t) fun s=>match s with
  |some (e,sz,_)=>bv (ac σ (900000+d)) fun hint=>match hint with
   |none=>bv (ob σ sz 0 parts) fun r=>match r with
    |some (xs,ns)=>(ac σ d=none∧len=parts.length∧len*sz≤16777216)∧kk K (.os d xs.length) (bt σ ns++[(d,.arr e sz false xs)]) (d::ns)
    |none=>False
   |some _=>bv (nr σ sz 0 parts) fun r=>match r with
    |some (xs,ns)=>(ac σ d=none∧len=parts.length∧len*sz≤16777216)∧kk K (.os d xs.length) (bt σ ns++[(d,.arr e sz false xs)]) (d::ns)
    |none=>False
  |none=>False:=by
 simp only[gq,bv,kk]
 rcases slT P t with _|⟨e,sz,b⟩
 ·rfl
 ·simp only
  rcases ac σ (900000+d)with _|B
  ·simp only;rcases ob σ sz 0 parts with _|⟨xs,ns⟩<;>simp only[and_assoc]
  ·simp only;rcases nr σ sz 0 parts with _|⟨xs,ns⟩<;>simp only[and_assoc]
end
section
variable (P:Program) (σ:ASt) (K:KT) {α:Type} [Inhabited α] (f:α→List PV) (l:List α)
theorem i7{i:Nat}(h:i<l.length):c9 (l.map f) i=f (el l i):=agv f l i h
theorem awk(t:TypeId)(kd:IntKind)(i:Int):bk P t σ (.vs (l.map f)) (.int kd i) K=bv (slT P t) fun s=>match s with
  |some (_,sz,_)=>(0≤i∧i<l.length)∧bv (f (el l i.toNat)) fun c=>c.length=sz∧kk K (.el c) [] []
  |none=>False:=by
 rw[amf]
 simp only[bv]
 rcases slT P t with _|⟨e,sz,b⟩
 ·rfl
 ·simp only[List.length_map]
  refine propext (and_congr_right fun h=> ?_)
  rw[i7 f l (by omega)]
theorem arm(n k i off e sz:Nat)(sh:Bool):atq n k i off K (some none) (some (.arr e sz sh (l.map f)))=((k=l.length∧i<k)∧bv (f (el l i)) fun c=>off<c.length∧kk K (ej c off) [] [n]):=by
 simp only[atq,bv,List.length_map,and_assoc]
 refine propext (and_congr_right fun h1=>and_congr_right fun h2=> ?_)
 rw[i7 f l (by omega)]
theorem avg(n k i off m e sz:Nat)(sh:Bool):atq n k i off K (some (some m)) (some (.arr e sz sh (l.map f)))=((k=l.length∧i<k)∧bv (f (el l i)) fun c=>off+m≤c.length∧kk K (.agg ((c.drop off).take m)) [] [n]):=by
 simp only[atq,bv,List.length_map,and_assoc]
 refine propext (and_congr_right fun h1=>and_congr_right fun h2=> ?_)
 rw[i7 f l (by omega)]
end
theorem a6j(P:Program)(σ:ASt){α:Type}(f:α→List PV)(l:List α)(tx sz:Nat)(k:List (List PV)→List Nat→Prop):s6 P tx sz σ (.vs (l.map f)) k=bv (ap P tx) fun q=>(q=true∧∀y∈l,(f y).length=sz)∧k (l.map f) []:=by
 simp only[s6,bv,List.forall_mem_map]
def u8(b:UInt8):List PV:=[.int .u8 b.toNat]
theorem bdt(b:UInt8):u8 b=[.int .u8 b.toNat]:=(rfl)
theorem anw(l:List UInt8):a8 l=l.map u8:=(rfl)
section
variable (P:Program) (N:Nat) (Q:rp) (fr:AFr) (σ:ASt)
theorem a8z:wv P N .skip Q fr σ=Q .normal fr σ:=(rfl)
theorem a8k(id:Nat):wv P N (.exit id) Q fr σ=Q (.exit id) fr σ:=(rfl)
theorem bbn:wv P N .ret Q fr σ=Q .ret fr σ:=(rfl)
theorem bbu(a b:Code):wv P N (.seq a b) Q fr σ=wv P N a (ut (wv P N b Q) Q) fr σ:=(rfl)
theorem a24(id:Nat)(c:Code):wv P N (.block id c) Q fr σ=wv P N c (zk id Q) fr σ:=(rfl)
def a8q(a b:Code):PV→Prop
 | .bool t=>(t=true→wv P N a Q fr σ)∧(t=false→wv P N b Q fr σ)
 |_=>False
theorem a5e(c:Operand)(a b:Code):wv P N (.cond c a b) Q fr σ=bv (ev fr c) (a8q P N Q fr σ a b):=by
 simp only[wv,bv]
 cases ev fr c<;>rfl
theorem zz(a b:Code)(t:Bool):a8q P N Q fr σ a b (.bool t)=((t=true→wv P N a Q fr σ)∧(t=false→wv P N b Q fr σ)):=(rfl)
theorem asu(id:Nat)(l:List Oper):wv P N (.region id l.toArray false) Q fr σ=lm P l.toArray l fr σ (Q .normal):=(rfl)
def okD(ops:List Oper)(g:Log):Prop:=afh ops.toArray g.reverse=true
theorem aoo(id:Nat)(l:List Oper):wv P N (.region id l.toArray true) Q fr σ=evD P l.toArray l fr σ [] fun fr' σ' g=>okD l g∧Q .normal fr' σ':=(rfl)
variable (K:AFr→ASt→Prop)
theorem aef:ut K Q .normal fr σ=K fr σ:=(rfl)
theorem aql(id:Nat):ut K Q (.exit id) fr σ=Q (.exit id) fr σ:=(rfl)
theorem aw1:ut K Q .ret fr σ=Q .ret fr σ:=(rfl)
theorem aan(id:Nat):zk id Q .normal fr σ=Q .normal fr σ:=(rfl)
theorem aqm(id:Nat):zk id Q .ret fr σ=Q .ret fr σ:=(rfl)
theorem aj1(id id':Nat):zk id Q (.exit id') fr σ=if id'=id then Q .normal fr σ else Q (.exit id') fr σ:=(rfl)
variable (rs:List ResultVar) (ns exts:List Nat) (r:PV) (nb ext':List Box)
theorem ahp:bdf P rs ns exts r nb ext' .normal fr σ=azx P rs ns exts r nb ext' fr σ:=(rfl)
theorem a10:bdf P rs ns exts r nb ext' .ret fr σ=azx P rs ns exts r nb ext' fr σ:=(rfl)
theorem a5d:azx P rs ns exts r nb ext' fr σ=bv (ajx P fr σ rs) fun us=>bv (r6 σ ns) fun a=>bv (r6 σ exts) fun b=>match us with
  |some us=>bv (n8 σ ns exts us) fun c=>match a,b,c with
   |some (nb0,b1),some (e0,b2),some (us',b3)=>oy ns exts (b1++(b2++b3))=true∧nb0=nb∧e0=ext'∧agb us'=r
   |_,_,_=>False
  |none=>False:=by
 simp only[azx,bv]
 rcases ajx P fr σ rs with _|us
 ·rfl
 ·simp only
  rcases r6 σ ns with _|⟨nb0,b1⟩<;>(try rfl)<;>rcases r6 σ exts with _|⟨e0,b2⟩<;>(try rfl)<;>rcases n8 σ ns exts us with _|⟨us',b3⟩<;>rfl
end
attribute [congr] azc
theorem aj8{a0}:eb (.move a0)=false:=(rfl)
theorem aa8{a0}:eb (.assign a0)=false:=(rfl)
theorem ah5{a0}{a1}{a2}:eb (.pick a0 a1 a2)=false:=(rfl)
theorem agk{a0}:eb (.alloc a0)=false:=(rfl)
theorem afs{a0}{a1}:eb (.build a0 a1)=false:=(rfl)
theorem qw{a0}{a1}{a2}:eb (.buildSlice a0 a1 a2)=false:=(rfl)
theorem aim{a0}{a1}:eb (.load a0 a1)=false:=(rfl)
theorem adi{a0}{a1}{a2}:eb (.store a0 a1 a2)=false:=(rfl)
theorem wj{a0}:eb (.nilCheck a0)=false:=(rfl)
theorem agp{a0}{a1}{a2}{a3}{a4}:eb (.binOp a0 a1 a2 a3 a4)=false:=(rfl)
theorem ahi{a0}{a1}{a2}:eb (.unOp a0 a1 a2)=false:=(rfl)
theorem xv{a0}{a1}{a2}:eb (.convert a0 a1 a2)=false:=(rfl)
theorem aeb{a0}{a1}{a2}{a3}{a4}:eb (.slice a0 a1 a2 a3 a4)=false:=(rfl)
theorem sy{a0}{a1}{a2}:eb (.fieldAddr a0 a1 a2)=false:=(rfl)
theorem td{a0}{a1}{a2}:eb (.indexAddr a0 a1 a2)=false:=(rfl)
theorem yi{a0}{a1}:eb (.extract a0 a1)=false:=(rfl)
theorem ahr{a0}:eb (.call a0)=false:=(rfl)
attribute [go_sem] a8r aj8 aa8 ah5 agk afs qw aim adi wj agp ahi xv aeb sy td yi ahr
attribute [go_sem ↓] as5 aow avd arp bbj ato anm au3 as1 am8 atd a0n aap aym a6z ahu as3
attribute [go_sem] a54 amg mf nr ki aqw iu a3n a3g vz bay Box.arh.injEq Box.mp.injEq Box.it.injEq PV.mh.injEq
attribute [go_sem ↓] bdb
attribute [go_sem ↓] bck a2u avu bbk ayp a6o aro a0x a2i aqy az4 avl
attribute [go_sem ↓] ajk ad4 ady avp anc aqg ajz a81 afz ac4 abv a7g ayz a0l acf azl
attribute [go_sem ↓] al4
attribute [go_sem ↓ 1100] azj
attribute [go_sem ↓ 1100] arm avg awk a6j
theorem a49(d e:Nat)(l:List UInt8)(K:KT):bd3 d e l K=kk K (.os d l.length) [(d,.arr e 1 false (l.map u8))] [d]:=(rfl)
attribute [go_sem] bdt anw a49
attribute [go_sem ↓] ah7 ani ah2
attribute [go_sem] ana ane aok apg bcp as0 a07 ay9 as7 atx ann ap2
attribute [go_sem ↓] axs a06 ao0 a2o yj ae6 az3 ain ay5 awt a69 auo x8 az0 awq ab7 acy atn aq9 a14 aj5 axr acn aeg azh a7d an8 a61 a5f
attribute [go_sem ↓] aoe asx aod un ai0 aic aqb ahz amf a1y axu akd air ax1 a1m a1v ap4 awe
attribute [go_sem ↓] a7u a8o a44 a73 a4o a8w a7b a4q a94 a8t a74 a7c a67 a5r a6h a4t a01 az2 ay8 azu a2n a2g a9v a9m bbm a90 a9p
attribute [go_sem ↓] anj ans bas
attribute [go_sem ↓] ba3 a7v bav bba a3c a13 bae ba8 axv atk arv aur bco bdd bbo a8g a0d a6u ba7 a9r a5o bbh a3b a5c
attribute [go_sem] a8j a7k a58 a83 ao5 aj2 atu ayj awv a20 aua
attribute [go_sem ↓] a8z a8k bbn bbu a24 a5e zz asu aoo aef aql aw1 aan aqm aj1 ahp a10 a5d
theorem a8b(σ:ASt)(fr:AFr):wkF σ fr []=True:=(rfl)
theorem a1l(σ:ASt)(fr:AFr)(s:Nat)(u:PV)(r:AFr):wkF σ fr ((s,u)::r)=(bv (look fr s) (fun v=>bv u fun u=>wkU σ v u)∧wkF σ fr r):=(rfl)
theorem a6w(fr:AFr):wkN fr []=[]:=(rfl)
theorem a0t(fr:AFr)(s:Nat)(u:PV)(r:AFr):wkN fr ((s,u)::r)=a85 (look fr s) u++wkN fr r:=(rfl)
theorem a48(σ:ASt):wkS σ []=True:=(rfl)
theorem a1s(σ:ASt)(n:Nat)(B:Box)(r:ASt):wkS σ ((n,B)::r)=(bv (ac σ n) (fun v=>v=some B)∧wkS σ r):=(rfl)
theorem bdg(fr:AFr)(σ:ASt)(fr':AFr)(σ':ASt):wk fr σ fr' σ'=(wkF σ fr fr'∧wkS σ σ'∧aht (σ'.map (·.1)) (wkN fr fr')=true∧a4j (σ'.map (·.1)) fr'=true∧xr (σ'.map (·.1)) σ'=true∧a86 (σ'.map (·.1)) σ=true):=(rfl)
theorem loop{P:Program}(hm:P.follows .mixedOrders=true){N:Nat}{c:Code}{Q:rp}{fr:AFr}{σ:ASt}{ι:Type}(i0:ι)(fs:ι→AFr)(ss:ι→ASt)(I:ι→Prop)(μ:ι→Nat)(hc:fw N c=true)(hI:I i0)(hw:wk fr σ (fs i0) (ss i0))
  (round: ∀i,I i→wv P N c (ut (fun fr' σ'=> ∃j,(I j∧μ j<μ i)∧wk fr' σ' (fs j) (ss j)) Q) (fs i) (ss i)):wv P N (.loop c) Q fr σ:=
 bbp hm hc fs ss I μ i0 hI hw round
theorem bcl{P:Program}(hm:P.follows .mixedOrders=true){N:Nat}{c:Code}{Q:rp}{fr:AFr}{σ:ASt}{ι:Type}(i0:ι)(fs:ι→AFr)(ss:ι→ASt)(I:ι→Prop)(μ:ι→Nat)(hc:fw N c=true)(l0:List (Nat×Nat))(hI:I i0)(hw:wkR l0 fr σ (fs i0) (ss i0))
  (round: ∀i,I i→wv P N c (ut (fun fr' σ'=> ∃j l,(I j∧μ j<μ i)∧wkR l fr' σ' (fs j) (ss j)) Q) (fs i) (ss i)):wv P N (.loop c) Q fr σ:=
 a4x hm hc fs ss I μ i0 hI l0 hw round
theorem bac(l:List (Nat×Nat))(fr:AFr)(σ:ASt)(fr':AFr)(σ':ASt):wkR l fr σ fr' σ'=(a3o l fr σ∧bv (avk l fr σ) fun p=>wk p.1 p.2 fr' σ'):=(rfl)
theorem a18(fr:AFr)(σ:ASt):a3o [] fr σ=True:=(rfl)
theorem ara(n m:Nat)(r:List (Nat×Nat))(fr:AFr)(σ:ASt):a3o ((n,m)::r) fr σ=((bv (ac σ m) (fun B=>B=none)∧n<1000000∧m<1000000∧n≠m)∧bv (ayb n m fr) fun fr=>bv (yh n m σ) fun σ=>a3o r fr σ):=(rfl)
theorem a2s(fr:AFr)(σ:ASt):avk [] fr σ=(fr,σ):=(rfl)
theorem ar1(n m:Nat)(r:List (Nat×Nat))(fr:AFr)(σ:ASt):avk ((n,m)::r) fr σ=avk r (ayb n m fr) (yh n m σ):=(rfl)
attribute [go_sem ↓] bac a18 ara
attribute [go_sem] a2s ar1 ayb yh renV lk jm rn
attribute [go_sem ↓] a6w a8b a1l a48 a1s bdg
attribute [go_sem] a0t wkU a85 aht a4j xr a86 a35 ag3
attribute [go_sem] decide_true decide_false decide_eq_true_eq decide_eq_false_iff_not Bool.not_eq_true' Bool.not_eq_false' Bool.not_true Bool.not_false true_and and_true false_and and_false forall_const implies_true not_true_eq_false not_false_eq_true eq_self ne_eq
attribute [go_sem] Bool.true_and Bool.and_true Bool.false_and Bool.and_false Bool.true_or Bool.or_true Bool.false_or Bool.or_false Bool.and_eq_true Bool.or_eq_true Bool.not_eq_true Bool.true_eq_false Bool.false_eq_true
attribute [go_sem] List.length_map List.length_cons List.length_nil List.length_append List.length_replicate List.map_cons List.map_nil List.append_nil List.nil_append List.cons_append List.toList_toArray List.all_nil List.all_cons
attribute [go_sem] List.take_zero List.take_succ_cons List.take_nil List.drop_zero List.drop_succ_cons List.drop_nil Option.map_some Option.map_none Option.getD_some Option.isSome_some Option.isSome_none
theorem bbr{α:Type}(f:α→List PV)(l:List α)(n:Nat):(l.map f).take n=(l.take n).map f:=List.map_take.symm
theorem a9i{α:Type}(f:α→List PV)(l:List α)(n:Nat):(l.map f).drop n=(l.drop n).map f:=List.map_drop.symm
theorem all_map{α:Type}(f:α→List PV)(l:List α)(p:List PV→Prop):(∀x∈l.map f,p x)= ∀x∈l,p (f x):=by simp
attribute [go_sem] bbr a9i
attribute [go_sem ↓] all_map
theorem bbv(n:Nat):((no_index (OfNat.ofNat n):Nat):Int)=OfNat.ofNat n:=(rfl)
attribute [go_sem] bbv Int.toNat_natCast Int.toNat_zero Int.ofNat_lt Int.ofNat_le Int.natCast_nonneg Int.ofNat_eq_natCast Int.zero_le_ofNat
attribute [go_sem] PV.int.injEq PV.bool.injEq PV.vs.injEq PV.str.injEq PV.os.injEq PV.tup.injEq PV.agg.injEq PV.ptr.injEq PV.el.injEq PV.fn.injEq Box.arr.injEq Box.cells.injEq Option.some.injEq Prod.mk.injEq List.cons.injEq
attribute [go_sem] List.not_mem_nil List.mem_cons List.contains_nil List.contains_cons or_false false_or not_or Nat.not_lt_zero Nat.zero_add Nat.add_zero
attribute [go_sem] da pur fx ob bbz ajx ajm r6 ay2 n8 a9e aix agb lu eqC xi xt wu ew
end Go.Proofs.Am
