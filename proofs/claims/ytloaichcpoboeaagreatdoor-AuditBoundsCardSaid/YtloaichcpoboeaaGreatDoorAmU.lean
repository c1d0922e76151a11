/- AmU. -/
import Derived.Test.YtloaichcpoboeaaGreatDoorAmS
set_option linter.unusedSimpArgs false
set_option linter.unusedVariables false
namespace Go.Proofs.Am
open Go Go.RowKit
variable {P:Program}
section
variable (P:Program) (σ:ASt) (K:KT) (J:PV->Prop)
theorem bem(t:TypeId)(k k':IntKind)(a b:Int):ga P .add t (.int k a) (.int k' b) J=(k=k'/\J (.int k (k.wrap (a+b)))):=(rfl)
theorem bbx(t:TypeId)(k k':IntKind)(a b:Int):ga P .sub t (.int k a) (.int k' b) J=(k=k'/\J (.int k (k.wrap (a - b)))):=(rfl)
theorem bex(t:TypeId)(k k':IntKind)(a b:Int):ga P .mul t (.int k a) (.int k' b) J=(k=k'/\J (.int k (k.wrap (a*b)))):=(rfl)
theorem be9(t:TypeId)(k k':IntKind)(a b:Int):ga P .quo t (.int k a) (.int k' b) J=(k=k'/\b≠0/\J (.int k (k.wrap (a.tdiv b)))):=(rfl)
theorem be3(t:TypeId)(k k':IntKind)(a b:Int):ga P .rem t (.int k a) (.int k' b) J=(k=k'/\b≠0/\J (.int k (a.tmod b))):=(rfl)
theorem bbr(t:TypeId)(k k':IntKind)(a b:Int):ga P .shl t (.int k a) (.int k' b) J=(0<=b/\J (.int k (k.wrap (a*2^min b.toNat k.bits)))):=(rfl)
theorem bdd(t:TypeId)(k k':IntKind)(a b:Int):ga P .shr t (.int k a) (.int k' b) J=(0<=b/\J (.int k (a.fdiv (2^min b.toNat k.bits)))):=(rfl)
theorem bdj(t:TypeId)(k k':IntKind)(a b:Int):ga P .and t (.int k a) (.int k' b) J=(k=k'/\J (.int k (bits .and k a b))):=(rfl)
theorem bhy(t:TypeId)(k k':IntKind)(a b:Int):ga P .or t (.int k a) (.int k' b) J=(k=k'/\J (.int k (bits .or k a b))):=(rfl)
theorem bdg(t:TypeId)(k k':IntKind)(a b:Int):ga P .xor t (.int k a) (.int k' b) J=(k=k'/\J (.int k (bits .xor k a b))):=(rfl)
theorem bch(t:TypeId)(k k':IntKind)(a b:Int):ga P .eql t (.int k a) (.int k' b) J=(k=k'/\J (.bool (decide (a=b)))):=(rfl)
theorem bbz(t:TypeId)(k k':IntKind)(a b:Int):ga P .neq t (.int k a) (.int k' b) J=(k=k'/\J (.bool (decide (a≠b)))):=(rfl)
theorem bbh(t:TypeId)(k k':IntKind)(a b:Int):ga P .lss t (.int k a) (.int k' b) J=(k=k'/\J (.bool (decide (a<b)))):=(rfl)
theorem bdq(t:TypeId)(k k':IntKind)(a b:Int):ga P .leq t (.int k a) (.int k' b) J=(k=k'/\J (.bool (decide (a<=b)))):=(rfl)
theorem bc5(t:TypeId)(k k':IntKind)(a b:Int):ga P .gtr t (.int k a) (.int k' b) J=(k=k'/\J (.bool (decide (b<a)))):=(rfl)
theorem bda(t:TypeId)(k k':IntKind)(a b:Int):ga P .geq t (.int k a) (.int k' b) J=(k=k'/\J (.bool (decide (b<=a)))):=(rfl)
theorem a6g(t:TypeId)(a b:List UInt8):ga P .eql t (.str a) (.str b) J=J (.bool (decide (a=b))):=(rfl)
theorem a3t(t:TypeId)(a b:List UInt8):ga P .neq t (.str a) (.str b) J=J (.bool (decide (a≠b))):=(rfl)
theorem a8m(t:TypeId)(a b:List UInt8):ga P .lss t (.str a) (.str b) J=J (.bool (Op.bytesLess a b)):=(rfl)
theorem a63(t:TypeId)(a b:List UInt8):ga P .gtr t (.str a) (.str b) J=J (.bool (!(Op.bytesLess a b||decide (a=b)))):=(rfl)
theorem a6c(t:TypeId)(a b:List PV):ga P .eql t (.agg a) (.agg b) J=bv (nr P t) fun f=>match f with|some ks=>bv (ya ks a b) (fun q=>match q with|some b=>J (.bool b)|none=>False)|none=>False:=by
 simp only[ga,bv]
 cases nr P t with
 |none=>rfl
 |some ks=>simp only;cases ya ks a b<;>rfl
theorem a8a(t:TypeId)(a b:List PV):ga P .neq t (.agg a) (.agg b) J=bv (nr P t) fun f=>match f with|some ks=>bv (ya ks a b) (fun q=>match q with|some b=>J (.bool (!b))|none=>False)|none=>False:=by
 simp only[ga,bv]
 cases nr P t with
 |none=>rfl
 |some ks=>simp only;cases ya ks a b<;>rfl
theorem ar2(t:TypeId)(b:Bool):ga P .eql t (.sn b) .nils J=bv (bq P t) fun e=>e.isSome=true/\J (.bool b):=(rfl)
theorem aui(t:TypeId)(xs:List (List PV)):ga P .eql t (.vs xs) .nils J=bv (bq P t) fun e=>(e.isSome=true/\0<xs.length)/\J (.bool false):=(rfl)
theorem bf0(b:Bool):bb8 .not (.bool b) J=J (.bool (!b)):=(rfl)
theorem bfy(k:IntKind)(n:Int):bb8 .neg (.int k n) J=J (.int k (k.wrap (0 - n))):=(rfl)
theorem bgn(k:IntKind)(n:Int):bb8 .xor (.int k n) J=J (.int k (bits .xor k (if k.signed then -1 else k.max) n)):=(rfl)
theorem bgf(k k':IntKind)(a b:Int):a9k false (.int k a) (.int k' b) K=K (.int k (if b<a then b else a)) [] []:=(rfl)
theorem bgt(k k':IntKind)(a b:Int):a9k true (.int k a) (.int k' b) K=K (.int k (if a<b then b else a)) [] []:=(rfl)
theorem bc7:loN none=some 0:=(rfl)
theorem bbc(k:IntKind)(n:Int):loN (some (.int k n))=some n:=(rfl)
theorem bes(l:Nat):hiN l none=some (l:Int):=(rfl)
theorem bd9(l:Nat)(k:IntKind)(n:Int):hiN l (some (.int k n))=some n:=(rfl)
theorem bje(t:TypeId)(xs:List (List PV))(lo hi mx:Option PV):et P t σ (.vs xs) lo hi mx K=bv (slT P t) fun s=>bv (loN lo) fun l=>bv (hiN xs.length hi) fun h=>bv (hiN xs.length mx) fun m=>match l,s,h,m with
  |some l,some (_,sz,_),some h,some m=>(0<=l/\l<=h/\h<=m/\m<=xs.length/\(mx.isSome=true->hi.isSome=true))/\(0<l->∀x∈xs,x.length=sz)/\K (.vs ((xs.take h.toNat).drop l.toNat)) [] []
  |_,_,_,_=>False:=by
 simp only[et,bv];rcases loN lo with _|l<;>(try rfl)<;>rcases slT P t with _|⟨e,sz,b⟩<;>(try rfl)<;>rcases hiN xs.length hi with _|h<;>(try rfl)<;>rcases hiN xs.length mx with _|m<;>rfl
theorem bju(t:TypeId)(n k:Nat)(lo hi mx:Option PV):et P t σ (.os n k) lo hi mx K=bv (ah σ n) fun B=>match B with
  |some (.arr _ asz _ xs)=>bv (slT P t) fun s=>bv (loN lo) fun l=>bv (hiN xs.length hi) fun h=>bv (hiN xs.length mx) fun m=>match l,s,h,m with
   |some l,some (_,sz,_),some h,some m=>(asz=sz/\k=xs.length/\0<=l/\l<=h/\h<=m/\m<=xs.length/\(mx.isSome=true->hi.isSome=true))/\K (.vs ((xs.take h.toNat).drop l.toNat)) (dh σ [n]) [n]
   |_,_,_,_=>False
  |_=>False:=by
 simp only[et,bv];rcases loN lo with _|l
 ·rcases ah σ n with _|B
  ·rfl
  ·cases B<;>rfl
 ·rcases ah σ n with _|B
  ·rfl
  ·cases B with
   |cells cs=>rfl
   |arh e sz xs=>rfl
   |mp es=>rfl
   |it m k d=>rfl
   |si l p=>rfl
   |arq e sz k xs=>rfl
   |dead sz l=>rfl
   |arr e asz sh xs=>simp only;rcases slT P t with _|⟨e,sz,b⟩<;>(try rfl)<;>rcases hiN xs.length hi with _|h<;>(try rfl)<;>rcases hiN xs.length mx with _|m<;>rfl
theorem bhd(t:TypeId)(xs:List (List PV))(lo hi:Option PV):fm P t σ (.vs xs) lo hi none K=et P t σ (.vs xs) lo hi none K:=(rfl)
theorem bat(t:TypeId)(s:List UInt8)(lo hi:Option PV):fm P t σ (.str s) lo hi none K=et P t σ (.str s) lo hi none K:=(rfl)
theorem bfr(t:TypeId)(xs:List (List PV))(k1 k2:IntKind)(i j:Int):fm P t σ (.vs xs) none (some (.int k1 i)) (some (.int k2 j)) K=bv (slT P t) fun s=>match s with
  |some _=>(i=j/\0<=i/\i<=xs.length)/\kk K (.vx (xs.take i.toNat)) [] []
  |none=>False:=by
 simp only[fm,bc0,bv,kk];rcases slT P t with _|⟨e,sz,b⟩<;>rfl
def bkr(P:Program)(t:TypeId)(σ:ASt)(n k:Nat)(lo hi mx:Option PV)(K:KT):Option Box->Prop
 |some (.arh e asz xs)=>bv (ah σ (900000+n)) fun hint=>match hint with
  |none=>ajc P t σ n k e asz xs lo hi mx K
  |some _=>aiq P t n k asz xs lo hi K
 |_=>et P t σ (.os n k) lo hi mx K
theorem bgz(t:TypeId)(n k:Nat)(lo hi:Option PV):fm P t σ (.os n k) lo hi none K=bv (ah σ n) (bkr P t σ n k lo hi none K):=by
 simp only[fm,bv];rcases ah σ n with _|B
 ·rfl
 ·cases B<;>rfl
theorem a82(t:TypeId)(n k:Nat)(lo hi mx:Option PV)(e sz:Nat)(sh:Bool)(xs:List (List PV)):bkr P t σ n k lo hi mx K (some (.arr e sz sh xs))=et P t σ (.os n k) lo hi mx K:=(rfl)
theorem a5o(t:TypeId)(n k:Nat)(lo hi mx:Option PV)(e sz:Nat)(xs:List (List PV)):bkr P t σ n k lo hi mx K (some (.arh e sz xs))=bv (ah σ (900000+n)) fun hint=>match hint with
  |none=>ajc P t σ n k e sz xs lo hi mx K
  |some _=>aiq P t n k sz xs lo hi K:=(rfl)
theorem bil(t:TypeId)(n k asz:Nat)(xs:List (List PV))(kd:IntKind)(i:Int):aiq P t n k asz xs (some (.int kd i)) none K=bv (slT P t) fun s=>match s with
  |some (_,sz,_)=>(asz=sz/\k=xs.length/\0<=i/\i<k)/\kk K (.oss n k i.toNat (k - i.toNat)) [] [n]
  |none=>False:=by
 simp only[aiq,bv,kk];rcases slT P t with _|⟨e,sz,b⟩<;>rfl
theorem bfu(t:TypeId)(n k asz:Nat)(xs:List (List PV))(kd:IntKind)(i:Int):aiq P t n k asz xs none (some (.int kd i)) K=bv (slT P t) fun s=>match s with
  |some (_,sz,_)=>(asz=sz/\k=xs.length/\0<i/\i<=k)/\kk K (.oss n k 0 i.toNat) [] [n]
  |none=>False:=by
 simp only[aiq,bv,kk];rcases slT P t with _|⟨e,sz,b⟩<;>rfl
theorem bev(t tx:TypeId)(n k:Nat)(ys:List (List PV)):abi P t tx σ (.os n k) (.vs ys) K=bv (slT P t) fun s=>bv (slT P tx) fun s2=>bv (ah σ n) fun B=>bi3 n k ys K s s2 B:=(rfl)
theorem a7d(n k a b e2:Nat)(q:Nat×Nat×Nat)(ys xs:List (List PV)):bi3 n k ys K (some (a,1,b)) (some q) (some (.arr e2 1 false xs))=(((0<k/\k=xs.length)/\(∀y∈ys,y.length=1))/\K (.int .i64 ((min ys.length k:Nat):Int)) [(n,.arr e2 1 false (ys.take (min ys.length k)++xs.drop (min ys.length k)))] [n]):=(rfl)
theorem a68(t tx:TypeId)(n k i m n' k' j m':Nat):abi P t tx σ (.oss n k i m) (.oss n' k' j m') K=bv (slT P t) fun s=>bv (slT P tx) fun s2=>bv (ah σ n) fun B=>biw n k i m n' k' j m' K s s2 B:=(rfl)
theorem a9b(n k i m n' k' j m' a b e2:Nat)(q:Nat×Nat×Nat)(xs:List (List PV)):biw n k i m n' k' j m' K (some (a,1,b)) (some q) (some (.arh e2 1 xs))=((n'=n/\k'=k/\k=xs.length/\i+m<=k/\j+m'<=k/\i<k/\j<k)/\K (.int .i64 ((min m' m:Nat):Int)) [(n,.arh e2 1 (xs.take i++((xs.drop j).take (min m' m)++xs.drop (i+min m' m))))] [n]):=(rfl)
attribute [go_sem ↓] bil bfu bev a7d a68 a9b a4j
theorem bg6(t:TypeId)(n k e asz:Nat)(xs:List (List PV))(kd:IntKind)(i:Int):ajc P t σ n k e asz xs (some (.int kd i)) none none K=bv (slT P t) fun s=>match s with
  |some (_,sz,_)=>(asz=sz/\k=xs.length/\0<=i/\i<k)/\kk K (.osl n k i.toNat) [] [n]
  |none=>False:=by
 simp only[ajc,bv,kk];rcases slT P t with _|⟨e,sz,b⟩<;>first|rfl|simp only[and_assoc]
theorem bf3(t:TypeId)(n k e asz:Nat)(xs:List (List PV))(kd:IntKind)(i:Int):ajc P t σ n k e asz xs none (some (.int kd i)) none K=bv (slT P t) fun s=>match s with
  |some (_,sz,_)=>(asz=sz/\k=xs.length/\0<=i/\i<=k)/\jl σ xs=some (xs,[])/\kk K (.vs (xs.take i.toNat)) [(n,.arr e asz true xs)] [n]
  |none=>False:=by
 simp only[ajc,bv,kk];rcases slT P t with _|⟨e,sz,b⟩<;>rfl
theorem a1o(t:TypeId)(n k i:Nat):au5 P t σ (.osl n k i) K=bv (slT P t) fun s=>bv (ah σ n) fun B=>match s,B with
  |some (e',sz,_),some (.arh e asz xs)=>bv (ay P e') fun z=>match z with
   |some zs=>(asz=sz/\k=xs.length/\i<k/\zs.all fu=true)/\K (.tup []) [(n,.arh e asz (xs.take i++List.replicate (k - i) (zs.map vd)))] [n]
   |none=>False
  |_,_=>False:=by
 simp only[au5,bv];rcases slT P t with _|⟨e,sz,b⟩<;>(try rfl)<;>rcases ah σ n with _|B<;>(try rfl)<;>cases B<;>(try rfl)
 all_goals (simp only;rcases ay P e with _|z<;>rfl)
theorem bhz(t:TypeId)(s:List UInt8)(lo hi:Option PV):et P t σ (.str s) lo hi none K=bv (fw P t) fun q=>bv (loN lo) fun l=>bv (hiN s.length hi) fun h=>match l,h with
  |some l,some h=>(q=true/\0<=l/\l<=h/\h<=s.length)/\K (.str ((s.take h.toNat).drop l.toNat)) [] []
  |_,_=>False:=by
 simp only[et,bv];rcases loN lo with _|l<;>(try rfl)<;>rcases hiN s.length hi with _|h<;>(try rfl);simp
theorem as2:dh σ []=[]:=(rfl)
theorem anf(n:Nat)(r:List Nat):dh σ (n::r)=(n,((ah σ n).getD (.cells [])).share)::dh σ r:=(rfl)
theorem a0v(e sz:Nat)(sh:Bool)(xs:List (List PV)):Box.share (.arr e sz sh xs)= .arr e sz true xs:=(rfl)
theorem bc8(t:TypeId)(d:Nat)(k1 k2:IntKind)(l c:Int):tv P t (some d) σ (.int k1 l) (.int k2 c) K=bv (slT P t) fun s=>match s with
  |some (e,sz,bytes)=>bv (ay P e) fun z=>match z with
   |some zs=>(zs.all fu=true/\0<=l/\l<=c/\(bytes:Int)*c<=140737488355328/\c<=140737488355328/\ah σ d=none)/\K (.os d l.toNat) [(d,.arr e sz false (List.replicate l.toNat (zs.map vd)))] [d]
   |none=>False
  |none=>False:=by
 simp only[tv,bv];rcases slT P t with _|⟨e,sz,b⟩
 ·rfl
 ·simp only;rcases ay P e with _|z<;>rfl
theorem a7f(t tx:TypeId)(d:Option Nat)(u v:PV):ub P t tx d σ u v K=bv (slT P t) fun s=>match s with
  |some (e,sz,bytes)=>r8 P tx sz σ v (yq e sz bytes d σ u K)
  |none=>False:=by
 simp only[ub,bv];rcases slT P t with _|⟨e,sz,b⟩<;>rfl
theorem beb(t tx:TypeId)(d:Option Nat)(n k:Nat)(v:PV):rp P t tx d σ (.os n k) v K=ub P t tx d σ (.os n k) v K:=(rfl)
theorem a2s(t tx:TypeId)(d:Option Nat)(v:PV):rp P t tx d σ .nils v K=ub P t tx d σ .nils v K:=(rfl)
theorem bdz(t tx:TypeId)(d:Option Nat)(xs:List (List PV))(v:PV):rp P t tx d σ (.vx xs) v K=ub P t tx d σ (.vx xs) v K:=(rfl)
theorem bcg(t tx:TypeId)(d:Option Nat)(n k:Nat)(v:PV):rp P t tx d σ (.oq n k) v K=bv (slT P t) fun s=>match s with
  |some (e,sz,bytes)=>r8 P tx sz σ v (aca e sz bytes σ n k K)
  |none=>False:=by
 simp only[rp,apg,bv];rcases slT P t with _|⟨e,sz,b⟩<;>rfl
theorem bh3(e sz bytes n k:Nat)(ys:List (List PV))(F:List Nat):aca e sz bytes σ n k K ys F=bv (ah σ n) fun B=>match B with
  |some (.arq e' sz' k' xs)=>(e'=e/\sz'=sz/\k=k'/\(xs.length+ys.length)*bytes<=140737488355328)/\K (.oq n (k+1)) [(n,.arq e sz (k+1) (xs++ys))] (n::F)
  |_=>False:=by
 simp only[aca,bv];rcases ah σ n with _|B<;>(try rfl)<;>cases B<;>rfl
def bb5(k:Nat)(n:Nat)(K:KT)(q:Bool):Option Box->Prop
 |some (.arq _ _ k' xs)=>(k=k'/\q=true)/\kk K (.int .i64 xs.length) [] [n]
 |_=>False
theorem bio(t:TypeId)(n k:Nat):np P t σ (.oq n k) K=bv (av P t) fun q=>bv (ah σ n) fun B=>bb5 k n K q B:=by
 simp only[np,sb,bv];rcases ah σ n with _|B<;>(try rfl)<;>cases B<;>first|rfl|simp only[bb5,kk,bv,and_assoc]
theorem axh(k n e sz k':Nat)(q:Bool)(xs:List (List PV)):bb5 k n K q (some (.arq e sz k' xs))=((k=k'/\q=true)/\kk K (.int .i64 xs.length) [] [n]):=(rfl)
def bjw(n k i sz off:Nat)(K:KT):Option (Option Nat)->Option Box->Prop
 |some none,some (.arq _ sz' k' xs)=>(k=k'/\sz=sz'/\i<xs.length/\off<(cw xs i).length)/\kk K (ei (cw xs i) off) [] [n]
 |_,_=>False
theorem a4a(t:TypeId)(n k i sz off:Nat):mj P t σ (.oqe n k i sz off) K=bv (ldT P t) fun l=>bv (ah σ n) fun B=>bjw n k i sz off K l B:=by
 simp only[mj,bv,kk];rcases ldT P t with _|_|m<;>(try rfl)<;>rcases ah σ n with _|B<;>(try rfl)<;>cases B<;>first|rfl|simp only[bjw,kk,bv,cw,ei,and_assoc]
theorem a84(n k i sz off e sz' k':Nat)(xs:List (List PV)):bjw n k i sz off K (some none) (some (.arq e sz' k' xs))=((k=k'/\sz=sz'/\i<xs.length/\off<(cw xs i).length)/\kk K (ei (cw xs i) off) [] [n]):=(rfl)
def bkq(n m:Nat)(i:Int)(K:KT):Option (Nat×Nat×Nat)->Option Box->Prop
 |some (_,sz,_),some (.arq _ sz' k' xs)=>(sz'=sz/\m=k'/\0<=i/\i<xs.length)/\kk K (.oqe n m i.toNat sz 0) [] [n]
 |_,_=>False
theorem bge(t:TypeId)(n m:Nat)(kd:IntKind)(i:Int):bp P t σ (.oq n m) (.int kd i) K=bv (slT P t) fun s=>bv (ah σ n) fun B=>bkq n m i K s B:=by
 simp only[bp,bv];rcases slT P t with _|⟨e,sz,b⟩<;>(try rfl)<;>rcases ah σ n with _|B<;>(try rfl)<;>cases B<;>first|rfl|simp only[bkq,kk,bv,and_assoc]
theorem a48(n m:Nat)(i:Int)(e sz b e' sz' k':Nat)(xs:List (List PV)):bkq n m i K (some (e,sz,b)) (some (.arq e' sz' k' xs))=((sz'=sz/\m=k'/\0<=i/\i<xs.length)/\kk K (.oqe n m i.toNat sz 0) [] [n]):=(rfl)
def bjn(n k:Nat)(i:Int)(K:KT):Option (Nat×Nat×Nat)->Option Box->Prop
 |some (_,sz,_),some (.arq e asz k' xs)=>(asz=sz/\k=k'/\0<=i/\i<=xs.length)/\kk K (.oq n (k+1)) [(n,.arq e asz (k+1) (xs.drop i.toNat))] [n]
 |_,_=>False
theorem bj7(t:TypeId)(n k:Nat)(kd:IntKind)(i:Int):fm P t σ (.oq n k) (some (.int kd i)) none none K=bv (slT P t) fun s=>bv (ah σ n) fun B=>bjn n k i K s B:=by
 simp only[fm,bey,bv];rcases slT P t with _|⟨e,sz,b⟩<;>(try rfl)<;>rcases ah σ n with _|B<;>(try rfl)<;>cases B<;>first|rfl|simp only[bjn,kk,bv,and_assoc]
theorem a4y(n k:Nat)(i:Int)(e sz b e' asz k':Nat)(xs:List (List PV)):bjn n k i K (some (e,sz,b)) (some (.arq e' asz k' xs))=((asz=sz/\k=k'/\0<=i/\i<=xs.length)/\kk K (.oq n (k+1)) [(n,.arq e' asz (k+1) (xs.drop i.toNat))] [n]):=(rfl)
attribute [go_sem ↓] beb a2s bdz bcg bh3 bio axh a4a a84 bge a48 bj7 a4y
attribute [go_sem] Box.arq.injEq PV.oq.injEq
variable (k:List (List PV)->List Nat->Prop)
theorem bfa(tx sz:Nat)(ys:List (List PV)):r8 P tx sz σ (.vs ys) k=bv (av P tx) fun q=>(q=true/\∀y∈ys,y.length=sz)/\k ys []:=(rfl)
theorem bim(tx sz:Nat)(b:Bool):r8 P tx sz σ (.sn b) k=bv (av P tx) fun q=>q=true/\k [] []:=(rfl)
theorem bg2(tx sz:Nat)(m n:Nat):r8 P tx sz σ (.os m n) k=bv (ah σ m) fun B=>bv (av P tx) fun q=>match B with
  |some (.arr _ sz' _ ys)=>(q=true/\n=ys.length/\sz'=sz)/\k ys [m]
  |_=>False:=by
 simp only[r8,bv];rcases ah σ m with _|B<;>(try rfl)<;>cases B<;>rfl
theorem bdu(tx sz:Nat)(l:List UInt8):r8 P tx sz σ (.str l) k=bv (fw P tx) fun q=>(q=true/\sz=1)/\k (bm l) []:=(rfl)
theorem bhq(e sz bytes:Nat)(d:Option Nat)(n m:Nat)(ys:List (List PV))(F:List Nat):yq e sz bytes d σ (.os n m) K ys F=bv (ah σ n) fun B=>match B with
  |some (.arr e' sz' sh xs)=>(e'=e/\sz'=sz/\m=xs.length/\(xs.length+ys.length)*bytes<=140737488355328)/\K (.os n (m+ys.length)) [(n,.arr e sz sh (xs++ys))] (n::F)
  |some (.arh e' sz' xs)=>(e'=e/\sz'=sz/\m=xs.length/\(xs.length+ys.length)*bytes<=140737488355328)/\K (.os n (m+ys.length)) [(n,.arh e sz (xs++ys))] (n::F)
  |_=>False:=by
 simp only[yq,bv];rcases ah σ n with _|B<;>(try rfl)<;>cases B<;>rfl
theorem a5t(e sz bytes d:Nat)(ys:List (List PV))(F:List Nat):yq e sz bytes (some d) σ .nils K ys F=((ah σ d=none/\ys.length*bytes<=140737488355328)/\K (.os d ys.length) [(d,.arr e sz false ys)] (d::F)):=(rfl)
theorem bgm(e sz bytes d:Nat)(xs ys:List (List PV))(F:List Nat):yq e sz bytes (some d) σ (.vx xs) K ys F=((ah σ d=none/\(∀x∈xs,x.length=sz)/\(xs.length+ys.length)*bytes<=140737488355328)/\(ys=[]->K (.vs xs) [] F)/\(0<ys.length->K (.os d (xs.length+ys.length)) [(d,.arr e sz false (xs++ys))] (d::F))):=(rfl)
theorem bdw(t len:Nat)(parts:List (Nat×PV))(d:Nat):iy P t len parts (some d) σ K=bv (slT P t) fun s=>match s with
  |some (e,sz,_)=>bv (ah σ (900000+d)) fun hint=>match hint with
   |none=>bv (pr σ sz 0 parts) fun r=>match r with
    |some (xs,ns)=>(ah σ d=none/\len=parts.length/\len*sz<=16777216)/\kk K (.os d xs.length) (dh σ ns++[(d,.arr e sz false xs)]) (d::ns)
    |none=>False
   |some _=>bv (p7 σ sz 0 parts) fun r=>match r with
    |some (xs,ns)=>(ah σ d=none/\len=parts.length/\len*sz<=16777216)/\kk K (.os d xs.length) (dh σ ns++[(d,.arr e sz false xs)]) (d::ns)
    |none=>False
  |none=>False:=by
 simp only[iy,bv,kk];rcases slT P t with _|⟨e,sz,b⟩
 ·rfl
 ·simp only;rcases ah σ (900000+d)with _|B
  ·simp only;rcases pr σ sz 0 parts with _|⟨xs,ns⟩<;>simp only[and_assoc]
  ·simp only;rcases p7 σ sz 0 parts with _|⟨xs,ns⟩<;>simp only[and_assoc]
end
section
variable (P:Program) (σ:ASt) (K:KT) {α:Type} [Inhabited α] (f:α->List PV) (l:List α)
theorem ic{i:Nat}(h:i<l.length):cw (l.map f) i=f (el l i):=ag2 f l i h
theorem a2x(t:TypeId)(kd:IntKind)(i:Int):bp P t σ (.vs (l.map f)) (.int kd i) K=bv (slT P t) fun s=>match s with
  |some (_,sz,_)=>(0<=i/\i<l.length)/\bv (f (el l i.toNat)) fun c=>c.length=sz/\kk K (.el c) [] []
  |none=>False:=by
 rw[aq4];simp only[bv];rcases slT P t with _|⟨e,sz,b⟩
 ·rfl
 ·simp only[List.length_map];refine propext (and_congr_right fun h=> ?_);rw[ic f l (by omega)]
theorem axn(n k i off e sz:Nat)(sh:Bool):au8 n k i off K (some none) (some (.arr e sz sh (l.map f)))=((k=l.length/\i<k)/\bv (f (el l i)) fun c=>off<c.length/\kk K (ei c off) [] [n]):=by
 simp only[au8,bv,List.length_map,and_assoc];refine propext (and_congr_right fun h1=>and_congr_right fun h2=> ?_);rw[ic f l (by omega)]
theorem avf(n k i off m e sz:Nat)(sh:Bool):au8 n k i off K (some (some m)) (some (.arr e sz sh (l.map f)))=((k=l.length/\i<k)/\bv (f (el l i)) fun c=>off+m<=c.length/\kk K (.agg ((c.drop off).take m)) [] [n]):=by
 simp only[au8,bv,List.length_map,and_assoc];refine propext (and_congr_right fun h1=>and_congr_right fun h2=> ?_);rw[ic f l (by omega)]
end
theorem ba0(P:Program)(σ:ASt){α:Type}(f:α->List PV)(l:List α)(tx sz:Nat)(k:List (List PV)->List Nat->Prop):r8 P tx sz σ (.vs (l.map f)) k=bv (av P tx) fun q=>(q=true/\∀y∈l,(f y).length=sz)/\k (l.map f) []:=by
 simp only[r8,bv,List.forall_mem_map]
def u8(b:UInt8):List PV:=[.int .u8 b.toNat]
theorem bj9(b:UInt8):u8 b=[.int .u8 b.toNat]:=(rfl)
theorem ath(l:List UInt8):bm l=l.map u8:=(rfl)
section
variable (P:Program) (N:Nat) (Q:t7) (fr:AFr) (σ:ASt)
theorem bbn:wv P N .skip Q fr σ=Q .normal fr σ:=(rfl)
theorem bdv(id:Nat):wv P N (.exit id) Q fr σ=Q (.exit id) fr σ:=(rfl)
theorem bg3:wv P N .ret Q fr σ=Q .ret fr σ:=(rfl)
theorem bh5(a b:Code):wv P N (.seq a b) Q fr σ=wv P N a (xi (wv P N b Q) Q) fr σ:=(rfl)
theorem a35(id:Nat)(c:Code):wv P N (.block id c) Q fr σ=wv P N c (abk id Q) fr σ:=(rfl)
def bcx(a b:Code):PV->Prop
 | .bool t=>(t=true->wv P N a Q fr σ)/\(t=false->wv P N b Q fr σ)
 |_=>False
theorem bd4(c:Operand)(a b:Code):wv P N (.cond c a b) Q fr σ=bv (ev fr c) (bcx P N Q fr σ a b):=by
 simp only[wv,bv]
 cases ev fr c<;>rfl
theorem aa4(a b:Code)(t:Bool):bcx P N Q fr σ a b (.bool t)=((t=true->wv P N a Q fr σ)/\(t=false->wv P N b Q fr σ)):=(rfl)
theorem awx(id:Nat)(l:List Oper):wv P N (.region id l.toArray false) Q fr σ=mr P l.toArray l fr σ (Q .normal):=(rfl)
def okD(ops:List Oper)(g:Log):Prop:=ag1 ops.toArray g.reverse=true
theorem asu(id:Nat)(l:List Oper):wv P N (.region id l.toArray true) Q fr σ=evD P l.toArray l fr σ [] fun fr' σ' g=>okD l g/\Q .normal fr' σ':=(rfl)
variable (K:AFr->ASt->Prop)
theorem ahc:xi K Q .normal fr σ=K fr σ:=(rfl)
theorem as3(id:Nat):xi K Q (.exit id) fr σ=Q (.exit id) fr σ:=(rfl)
theorem a0h:xi K Q .ret fr σ=Q .ret fr σ:=(rfl)
theorem afb(id:Nat):abk id Q .normal fr σ=Q .normal fr σ:=(rfl)
theorem atj(id:Nat):abk id Q .ret fr σ=Q .ret fr σ:=(rfl)
theorem anq(id id':Nat):abk id Q (.exit id') fr σ=if id'=id then Q .normal fr σ else Q (.exit id') fr σ:=(rfl)
variable (rs:List ResultVar) (ns exts:List Nat) (r:PV) (nb ext':List Box)
theorem aki:biu P rs ns exts r nb ext' .normal fr σ=a8c P rs ns exts r nb ext' fr σ:=(rfl)
theorem a3v:biu P rs ns exts r nb ext' .ret fr σ=a8c P rs ns exts r nb ext' fr σ:=(rfl)
theorem bd8:a8c P rs ns exts r nb ext' fr σ=bv (anm P fr σ rs) fun us=>bv (uj σ ns) fun a=>bv (uj σ exts) fun b=>match us with
  |some us=>bv (p8 σ ns exts us) fun c=>match a,b,c with
   |some (nb0,b1),some (e0,b2),some (us',b3)=>qu ns exts (b1++(b2++b3))=true/\nb0=nb/\e0=ext'/\ajs us'=r
   |_,_,_=>False
  |none=>False:=by
 simp only[a8c,bv];rcases anm P fr σ rs with _|us
 ·rfl
 ·simp only;rcases uj σ ns with _|⟨nb0,b1⟩<;>(try rfl)<;>rcases uj σ exts with _|⟨e0,b2⟩<;>(try rfl)<;>rcases p8 σ ns exts us with _|⟨us',b3⟩<;>rfl
end
attribute [congr] a6z
theorem al3{a0}:ez (.move a0)=false:=(rfl)
theorem ads{a0}:ez (.assign a0)=false:=(rfl)
theorem am9{a0}{a1}{a2}:ez (.pick a0 a1 a2)=false:=(rfl)
theorem ah2{a0}:ez (.alloc a0)=false:=(rfl)
theorem ail{a0}{a1}:ez (.build a0 a1)=false:=(rfl)
theorem tn{a0}{a1}{a2}:ez (.buildSlice a0 a1 a2)=false:=(rfl)
theorem ak1{a0}{a1}:ez (.load a0 a1)=false:=(rfl)
theorem ai2{a0}{a1}{a2}:ez (.store a0 a1 a2)=false:=(rfl)
theorem yu{a0}:ez (.nilCheck a0)=false:=(rfl)
theorem agx{a0}{a1}{a2}{a3}{a4}:ez (.binOp a0 a1 a2 a3 a4)=false:=(rfl)
theorem alq{a0}{a1}{a2}:ez (.unOp a0 a1 a2)=false:=(rfl)
theorem aar{a0}{a1}{a2}:ez (.convert a0 a1 a2)=false:=(rfl)
theorem ai1{a0}{a1}{a2}{a3}{a4}:ez (.slice a0 a1 a2 a3 a4)=false:=(rfl)
theorem u6{a0}{a1}{a2}:ez (.fieldAddr a0 a1 a2)=false:=(rfl)
theorem vi{a0}{a1}{a2}:ez (.indexAddr a0 a1 a2)=false:=(rfl)
theorem aao{a0}{a1}:ez (.extract a0 a1)=false:=(rfl)
theorem amj{a0}:ez (.call a0)=false:=(rfl)
attribute [go_sem] ba7 al3 ads am9 ah2 ail tn ak1 ai2 yu agx alq aar ai1 u6 vi aao amj
attribute [go_sem ↓] ayh aue a0d az2 bfx ayz ato ayn ay4 atl azo a3x adg a8x bc2 alb axr
attribute [go_sem] ba5 ap7 n7 p7 mb au7 jl baf baj xu bft Box.arh.injEq Box.mp.injEq Box.it.injEq PV.mh.injEq
attribute [go_sem ↓] bkn
attribute [go_sem ↓] bjb a6o avu bhm a7r bap a0w a8l a5p ax5 a5j aw7
attribute [go_sem ↓] ald ajm aik awk ar0 auu al1 bdy aih acz ac0 bd2 a8r a34 adj a43
attribute [go_sem ↓] a7l aq9
attribute [go_sem ↓ 1100] a65
attribute [go_sem ↓ 1100] axn avf a2x ba0
theorem bcd(d e:Nat)(l:List UInt8)(K:KT):bkv d e l K=kk K (.os d l.length) [(d,.arr e 1 false (l.map u8))] [d]:=(rfl)
attribute [go_sem] bj9 ath bcd
attribute [go_sem ↓] alo asy ak3
attribute [go_sem] arf ata auk as9 bkt aw3 a7p a7n a0p a1j aru atq
attribute [go_sem ↓] avx a8v ar9 a8z ab8 agb a8o al7 a8j ay6 bby ay0 aat a6k aze adx adq a2r azd a8q alf a0t afo ais a6d bdh asw bbf bej
attribute [go_sem ↓] auf ax2 arz ze aml anl atx ank aq4 a42 ayk alp amx ayg a4k a73 auy aw4
attribute [go_sem ↓] bem bbx bex be9 be3 bbr bdd bdj bhy bdg bch bbz bbh bdq bc5 bda a6g a3t a8m a63 a6c a8a bf0 bfy bgn bgf bgt
attribute [go_sem ↓] ar2 aui bim
attribute [go_sem ↓] bhd bat bgz bfr a82 a5o bg6 bf3 a1o axm a2i axz bje bju bhz bc8 a7f bfa bgm bg2 bdu bhq a5t bdw
attribute [go_sem] bc7 bbc bes bd9 as2 anf a0v a58 ayj a7b avl
attribute [go_sem ↓] bbn bdv bg3 bh5 a35 bd4 aa4 awx asu ahc as3 a0h afb atj anq aki a3v bd8
theorem bdp(σ:ASt)(fr:AFr):wkF σ fr []=True:=(rfl)
theorem a3z(σ:ASt)(fr:AFr)(s:Nat)(u:PV)(r:AFr):wkF σ fr ((s,u)::r)=(bv (look fr s) (fun v=>bv u fun u=>wkU σ v u)/\wkF σ fr r):=(rfl)
theorem be2(fr:AFr):wkN fr []=[]:=(rfl)
theorem a6y(fr:AFr)(s:Nat)(u:PV)(r:AFr):wkN fr ((s,u)::r)=bfn (look fr s) u++wkN fr r:=(rfl)
theorem bbu(σ:ASt):wkS σ []=True:=(rfl)
theorem a7a(σ:ASt)(n:Nat)(B:Box)(r:ASt):wkS σ ((n,B)::r)=(bv (ah σ n) (fun v=>v=some B)/\wkS σ r):=(rfl)
theorem bjf(fr:AFr)(σ:ASt)(fr':AFr)(σ':ASt):wk fr σ fr' σ'=(wkF σ fr fr'/\wkS σ σ'/\al0 (σ'.map (·.1)) (wkN fr fr')=true/\a5k (σ'.map (·.1)) fr'=true/\xv (σ'.map (·.1)) σ'=true/\bfp (σ'.map (·.1)) σ=true):=(rfl)
theorem loop{P:Program}(hm:P.follows .mixedOrders=true){N:Nat}{c:Code}{Q:t7}{fr:AFr}{σ:ASt}{ι:Type}(i0:ι)(fs:ι->AFr)(ss:ι->ASt)(I:ι->Prop)(μ:ι->Nat)(hc:gj N c=true)(hI:I i0)(hw:wk fr σ (fs i0) (ss i0))
  (round: ∀i,I i->wv P N c (xi (fun fr' σ'=> ∃j,(I j/\μ j<μ i)/\wk fr' σ' (fs j) (ss j)) Q) (fs i) (ss i)):wv P N (.loop c) Q fr σ:=
 bh7 hm hc fs ss I μ i0 hI hw round
theorem bke{P:Program}(hm:P.follows .mixedOrders=true){N:Nat}{c:Code}{Q:t7}{fr:AFr}{σ:ASt}{ι:Type}(i0:ι)(fs:ι->AFr)(ss:ι->ASt)(I:ι->Prop)(μ:ι->Nat)(hc:gj N c=true)(l0:List (Nat×Nat))(hI:I i0)(hw:wkR l0 fr σ (fs i0) (ss i0))
  (round: ∀i,I i->wv P N c (xi (fun fr' σ'=> ∃j l,(I j/\μ j<μ i)/\wkR l fr' σ' (fs j) (ss j)) Q) (fs i) (ss i)):wv P N (.loop c) Q fr σ:=
 bcr hm hc fs ss I μ i0 hI l0 hw round
theorem bgw(l:List (Nat×Nat))(fr:AFr)(σ:ASt)(fr':AFr)(σ':ASt):wkR l fr σ fr' σ'=(a96 l fr σ/\bv (a0y l fr σ) fun p=>wk p.1 p.2 fr' σ'):=(rfl)
theorem a88(fr:AFr)(σ:ASt):a96 [] fr σ=True:=(rfl)
theorem az5(n m:Nat)(r:List (Nat×Nat))(fr:AFr)(σ:ASt):a96 ((n,m)::r) fr σ=((bv (ah σ m) (fun B=>B=none)/\n<1000000/\m<1000000/\n≠m)/\bv (a3d n m fr) fun fr=>bv (aav n m σ) fun σ=>a96 r fr σ):=(rfl)
theorem a3s(fr:AFr)(σ:ASt):a0y [] fr σ=(fr,σ):=(rfl)
theorem a14(n m:Nat)(r:List (Nat×Nat))(fr:AFr)(σ:ASt):a0y ((n,m)::r) fr σ=a0y r (a3d n m fr) (aav n m σ):=(rfl)
attribute [go_sem ↓] bgw a88 az5
attribute [go_sem] a3s a14 a3d aav renV mu kb rn
attribute [go_sem ↓] be2 bdp a3z bbu a7a bjf
attribute [go_sem] a6y wkU bfn al0 a5k xv bfp a9s aj4
attribute [go_sem] decide_true decide_false decide_eq_true_eq decide_eq_false_iff_not Bool.not_eq_true' Bool.not_eq_false' Bool.not_true Bool.not_false true_and and_true false_and and_false forall_const implies_true not_true_eq_false not_false_eq_true eq_self ne_eq
attribute [go_sem] Bool.true_and Bool.and_true Bool.false_and Bool.and_false Bool.true_or Bool.or_true Bool.false_or Bool.or_false Bool.and_eq_true Bool.or_eq_true Bool.not_eq_true Bool.true_eq_false Bool.false_eq_true
attribute [go_sem] List.length_map List.length_cons List.length_nil List.length_append List.length_replicate List.map_cons List.map_nil List.append_nil List.nil_append List.cons_append List.toList_toArray List.all_nil List.all_cons
attribute [go_sem] List.take_zero List.take_succ_cons List.take_nil List.drop_zero List.drop_succ_cons List.drop_nil Option.map_some Option.map_none Option.getD_some Option.isSome_some Option.isSome_none
theorem bht{α:Type}(f:α->List PV)(l:List α)(n:Nat):(l.map f).take n=(l.take n).map f:=List.map_take.symm
theorem bgx{α:Type}(f:α->List PV)(l:List α)(n:Nat):(l.map f).drop n=(l.drop n).map f:=List.map_drop.symm
theorem all_map{α:Type}(f:α->List PV)(l:List α)(p:List PV->Prop):(∀x∈l.map f,p x)= ∀x∈l,p (f x):=by simp
attribute [go_sem] bht bgx
attribute [go_sem ↓] all_map
theorem bgl(n:Nat):((no_index (OfNat.ofNat n):Nat):Int)=OfNat.ofNat n:=(rfl)
attribute [go_sem] bgl Int.toNat_natCast Int.toNat_zero Int.ofNat_lt Int.ofNat_le Int.natCast_nonneg Int.ofNat_eq_natCast Int.zero_le_ofNat
attribute [go_sem] PV.int.injEq PV.bool.injEq PV.vs.injEq PV.str.injEq PV.os.injEq PV.tup.injEq PV.agg.injEq PV.ptr.injEq PV.el.injEq PV.fn.injEq Box.arr.injEq Box.cells.injEq Option.some.injEq Prod.mk.injEq List.cons.injEq
attribute [go_sem] List.not_mem_nil List.mem_cons List.contains_nil List.contains_cons or_false false_or not_or Nat.not_lt_zero Nat.zero_add Nat.add_zero
attribute [go_sem] dx pur gy pr bia anm am6 uj a4l p8 bfk akc ajs my eqC ya xp uz fu
end Go.Proofs.Am
