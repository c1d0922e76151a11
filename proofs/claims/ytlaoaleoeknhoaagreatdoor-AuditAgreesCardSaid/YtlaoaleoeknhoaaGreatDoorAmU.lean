/- AmU. -/
import Derived.Test.YtlaoaleoeknhoaaGreatDoorAmS
set_option linter.unusedSimpArgs false
set_option linter.unusedVariables false
namespace Go.Proofs.Am
open Go Go.RowKit
variable {P:Program}{σ:ASt}{N:Nat}{xs:List LP}{r:PV}{us:LP}{fr:AFr}{ext ext':List Box}{Q:r8}{dst:Option Nat}{ops:List Oper}{α ι:Type}{g:Log}
section
variable (P:Program) (σ:ASt) (K:KT) (J:PV->Prop)
theorem bhz(t:TypeId)(k c:IntKind)(a b:Int):jf P .add t (.int k a) (.int c b) J=(k=c/\J (.int k (k.wrap (a+b)))):=(rfl)
theorem bjv(t:TypeId)(k c:IntKind)(a b:Int):jf P .sub t (.int k a) (.int c b) J=(k=c/\J (.int k (k.wrap (a - b)))):=(rfl)
theorem bhb(t:TypeId)(k c:IntKind)(a b:Int):jf P .mul t (.int k a) (.int c b) J=(k=c/\J (.int k (k.wrap (a*b)))):=(rfl)
theorem bj6(t:TypeId)(k c:IntKind)(a b:Int):jf P .quo t (.int k a) (.int c b) J=(k=c/\b≠0/\J (.int k (k.wrap (a.tdiv b)))):=(rfl)
theorem biq(t:TypeId)(k c:IntKind)(a b:Int):jf P .rem t (.int k a) (.int c b) J=(k=c/\b≠0/\J (.int k (a.tmod b))):=(rfl)
theorem bh5(t:TypeId)(k c:IntKind)(a b:Int):jf P .shl t (.int k a) (.int c b) J=(0<=b/\J (.int k (k.wrap (a*2^min b.toNat k.bits)))):=(rfl)
theorem bhv(t:TypeId)(k c:IntKind)(a b:Int):jf P .shr t (.int k a) (.int c b) J=(0<=b/\J (.int k (a.fdiv (2^min b.toNat k.bits)))):=(rfl)
theorem bk9(t:TypeId)(k c:IntKind)(a b:Int):jf P .and t (.int k a) (.int c b) J=(k=c/\J (.int k (bits .and k a b))):=(rfl)
theorem bpk(t:TypeId)(k c:IntKind)(a b:Int):jf P .or t (.int k a) (.int c b) J=(k=c/\J (.int k (bits .or k a b))):=(rfl)
theorem bha(t:TypeId)(k c:IntKind)(a b:Int):jf P .xor t (.int k a) (.int c b) J=(k=c/\J (.int k (bits .xor k a b))):=(rfl)
theorem bh0(t:TypeId)(k c:IntKind)(a b:Int):jf P .eql t (.int k a) (.int c b) J=(k=c/\J (.bool (decide (a=b)))):=(rfl)
theorem bl9(t:TypeId)(k c:IntKind)(a b:Int):jf P .neq t (.int k a) (.int c b) J=(k=c/\J (.bool (decide (a≠b)))):=(rfl)
theorem bkd(t:TypeId)(k c:IntKind)(a b:Int):jf P .lss t (.int k a) (.int c b) J=(k=c/\J (.bool (decide (a<b)))):=(rfl)
theorem bhf(t:TypeId)(k c:IntKind)(a b:Int):jf P .leq t (.int k a) (.int c b) J=(k=c/\J (.bool (decide (a<=b)))):=(rfl)
theorem bkz(t:TypeId)(k c:IntKind)(a b:Int):jf P .gtr t (.int k a) (.int c b) J=(k=c/\J (.bool (decide (b<a)))):=(rfl)
theorem bh3(t:TypeId)(k c:IntKind)(a b:Int):jf P .geq t (.int k a) (.int c b) J=(k=c/\J (.bool (decide (b<=a)))):=(rfl)
theorem bdy(t:TypeId)(a b:Bool):jf P .eql t (.bool a) (.bool b) J=(P.underlying t=some .bool/\J (.bool (decide (a=b)))):=(rfl)
theorem bbq(t:TypeId)(a b:LB):jf P .eql t (.str a) (.str b) J=J (.bool (decide (a=b))):=(rfl)
theorem bbi(t:TypeId)(a b:LB):jf P .neq t (.str a) (.str b) J=J (.bool (decide (a≠b))):=(rfl)
theorem bbw(t:TypeId)(a b:LB):jf P .lss t (.str a) (.str b) J=J (.bool (Op.bytesLess a b)):=(rfl)
theorem bax(t:TypeId)(a b:LB):jf P .gtr t (.str a) (.str b) J=J (.bool (!(Op.bytesLess a b||decide (a=b)))):=(rfl)
theorem bfo(t:TypeId)(a b:LP):jf P .eql t (.agg a) (.agg b) J=bv (oz P t) λf=>match f with|some ks=>bv (ad9 ks a b) (λq=>match q with|some b=>J (.bool b)|none=>False)|none=>False:=by simp only[jf,bv];cases oz P t with|none=>rfl|some ks=>simp only;cases ad9 ks a b<;>rfl
theorem bfh(t:TypeId)(a b:LP):jf P .neq t (.agg a) (.agg b) J=bv (oz P t) λf=>match f with|some ks=>bv (ad9 ks a b) (λq=>match q with|some b=>J (.bool (!b))|none=>False)|none=>False:=by simp only[jf,bv];cases oz P t with|none=>rfl|some ks=>simp only;cases ad9 ks a b<;>rfl
theorem ayx(t:TypeId)(b:Bool):jf P .eql t (.sn b) .nils J=bv (cw P t) λe=>e.isSome=true/\J (.bool b):=(rfl)
theorem azy(t:TypeId)(xs:List LP):jf P .eql t (.vs xs) .nils J=bv (cw P t) λe=>(e.isSome=true/\0<xs.length)/\J (.bool false):=(rfl)
theorem bo8(b:Bool):bj3 .not (.bool b) J=J (.bool (!b)):=(rfl)
theorem boq(k:IntKind)(n:Int):bj3 .neg (.int k n) J=J (.int k (k.wrap (0 - n))):=(rfl)
theorem bqa(k:IntKind)(n:Int):bj3 .xor (.int k n) J=J (.int k (bits .xor k (if k.signed then -1 else k.max) n)):=(rfl)
theorem bnj(k c:IntKind)(a b:Int):bg2 false (.int k a) (.int c b) K=K (.int k (if b<a then b else a)) [] []:=(rfl)
theorem bqh(k c:IntKind)(a b:Int):bg2 true (.int k a) (.int c b) K=K (.int k (if a<b then b else a)) [] []:=(rfl)
theorem blg:loN none=some 0:=(rfl)
theorem bkn(k:IntKind)(n:Int):loN (some (.int k n))=some n:=(rfl)
theorem bhh(l:Nat):hiN l none=some (l:Int):=(rfl)
theorem bkk(l:Nat)(k:IntKind)(n:Int):hiN l (some (.int k n))=some n:=(rfl)
theorem bsd(t:TypeId)(xs:List LP)(lo hi mx:Option PV):gx P t σ (.vs xs) lo hi mx K=bv (slT P t) λs=>bv (loN lo) λl=>bv (hiN xs.length hi) λh=>bv (hiN xs.length mx) λm=>match l,s,h,m with
  |some l,some (_,sz,_),some h,some m=>(0<=l/\l<=h/\h<=m/\m<=xs.length/\(mx.isSome=true->hi.isSome=true))/\(0<l->∀x∈xs,x.length=sz)/\K (.vs ((xs.take h.toNat).drop l.toNat)) [] []
  |_,_,_,_=>False:=by simp only[gx,bv];rcases loN lo with _|l<;>(try rfl)<;>rcases slT P t with _|⟨e,sz,b⟩<;>(try rfl)<;>rcases hiN xs.length hi with _|h<;>(try rfl)<;>rcases hiN xs.length mx with _|m<;>rfl
theorem br3(t:TypeId)(n k:Nat)(lo hi mx:Option PV):gx P t σ (.os n k) lo hi mx K=bv (ai σ n) λB=>match B with
  |some (.arr _ asz _ xs)=>bv (slT P t) λs=>bv (loN lo) λl=>bv (hiN xs.length hi) λh=>bv (hiN xs.length mx) λm=>match l,s,h,m with
   |some l,some (_,sz,_),some h,some m=>(asz=sz/\k=xs.length/\0<=l/\l<=h/\h<=m/\m<=xs.length/\(mx.isSome=true->hi.isSome=true))/\K (.vs ((xs.take h.toNat).drop l.toNat)) (ej σ [n]) [n]
   |_,_,_,_=>False
  |_=>False:=by simp only[gx,bv];rcases loN lo with _|l;{rcases ai σ n with _|B;{rfl};.cases B<;>rfl};.rcases ai σ n with _|B;{rfl};.cases B with|cells cs=>rfl|arh e sz xs=>rfl|mp es=>rfl|it m k d=>rfl|si l p=>rfl|arq e sz k xs=>rfl|dead sz l=>rfl|arr e asz sh xs=>simp only;rcases slT P t with _|⟨e,sz,b⟩<;>(try rfl)<;>rcases hiN xs.length hi with _|h<;>(try rfl)<;>rcases hiN xs.length mx with _|m<;>rfl
theorem bon(t:TypeId)(xs:List LP)(lo hi:Option PV):jc P t σ (.vs xs) lo hi none K=gx P t σ (.vs xs) lo hi none K:=(rfl)
theorem bh1(t:TypeId)(s:LB)(lo hi:Option PV):jc P t σ (.str s) lo hi none K=gx P t σ (.str s) lo hi none K:=(rfl)
theorem bm0(t:TypeId)(xs:List LP)(a c:IntKind)(i j:Int):jc P t σ (.vs xs) none (some (.int a i)) (some (.int c j)) K=bv (slT P t) λs=>match s with
  |some _=>(i=j/\0<=i/\i<=xs.length)/\kk K (.vx (xs.take i.toNat)) [] []
  |none=>False:=by simp only[jc,bjw,bv,kk];rcases slT P t with _|⟨e,d,b⟩<;>rfl
def bsj(P:Program)(t:TypeId)(σ:ASt)(n k:Nat)(lo hi mx:Option PV)(K:KT):Option Box->Prop
 |some (.arh e asz xs)=>bv (ai σ (900000+n)) λhint=>match hint with
  |none=>amc P t σ n k e asz xs lo hi mx K
  |some _=>alm P t n k asz xs lo hi K
 |_=>gx P t σ (.os n k) lo hi mx K
theorem bpc(t:TypeId)(n k:Nat)(lo hi:Option PV):jc P t σ (.os n k) lo hi none K=bv (ai σ n) (bsj P t σ n k lo hi none K):=by simp only[jc,bv];rcases ai σ n with _|B;{rfl};.cases B<;>rfl
theorem bcs(t:TypeId)(n k:Nat)(lo hi mx:Option PV)(e sz:Nat)(sh:Bool)(xs:List LP):bsj P t σ n k lo hi mx K (some (.arr e sz sh xs))=gx P t σ (.os n k) lo hi mx K:=(rfl)
theorem be6(t:TypeId)(n k:Nat)(lo hi mx:Option PV)(e sz:Nat)(xs:List LP):bsj P t σ n k lo hi mx K (some (.arh e sz xs))=bv (ai σ (900000+n)) λhint=>match hint with
  |none=>amc P t σ n k e sz xs lo hi mx K
  |some _=>alm P t n k sz xs lo hi K:=(rfl)
theorem bqd(t:TypeId)(n k a:Nat)(xs:List LP)(kd:IntKind)(i:Int):alm P t n k a xs (some (.int kd i)) none K=bv (slT P t) λs=>match s with
  |some (_,sz,_)=>(a=sz/\k=xs.length/\0<=i/\i<k)/\kk K (.oss n k i.toNat (k - i.toNat)) [] [n]
  |none=>False:=by simp only[alm,bv,kk];rcases slT P t with _|⟨e,sz,b⟩<;>rfl
theorem bnx(t:TypeId)(n k a:Nat)(xs:List LP)(kd:IntKind)(i:Int):alm P t n k a xs none (some (.int kd i)) K=bv (slT P t) λs=>match s with
  |some (_,sz,_)=>(a=sz/\k=xs.length/\0<i/\i<=k)/\kk K (.oss n k 0 i.toNat) [] [n]
  |none=>False:=by simp only[alm,bv,kk];rcases slT P t with _|⟨e,sz,b⟩<;>rfl
theorem bl4(t a:TypeId)(n k:Nat)(b:List LP):agv P t a σ (.os n k) (.vs b) K=bv (slT P t) λs=>bv (slT P a) λs2=>bv (ai σ n) λB=>bq0 n k b K s s2 B:=(rfl)
theorem bbs(n k a b d:Nat)(q:Nat×Nat×Nat)(c xs:List LP):bq0 n k c K (some (a,1,b)) (some q) (some (.arr d 1 false xs))=(((0<k/\k=xs.length)/\(∀y∈c,y.length=1))/\K (.int .i64 ((min c.length k:Nat):Int)) [(n,.arr d 1 false (c.take (min c.length k)++xs.drop (min c.length k)))] [n]):=(rfl)
theorem bal(t b:TypeId)(n k i m d a j c:Nat):agv P t b σ (.oss n k i m) (.oss d a j c) K=bv (slT P t) λs=>bv (slT P b) λs2=>bv (ai σ n) λB=>bqx n k i m d a j c K s s2 B:=(rfl)
theorem baj(n k i m d e j c a b f:Nat)(q:Nat×Nat×Nat)(xs:List LP):bqx n k i m d e j c K (some (a,1,b)) (some q) (some (.arh f 1 xs))=((d=n/\e=k/\k=xs.length/\i+m<=k/\j+c<=k/\i<k/\j<k)/\K (.int .i64 ((min c m:Nat):Int)) [(n,.arh f 1 (xs.take i++((xs.drop j).take (min c m)++xs.drop (i+min c m))))] [n]):=(rfl)
attribute [go_sem ↓] bqd bnx bl4 bbs bal baj bai
theorem boc(t:TypeId)(n k e a:Nat)(xs:List LP)(kd:IntKind)(i:Int):amc P t σ n k e a xs (some (.int kd i)) none none K=bv (slT P t) λs=>match s with
  |some (_,sz,_)=>(a=sz/\k=xs.length/\0<=i/\i<k)/\kk K (.osl n k i.toNat) [] [n]
  |none=>False:=by simp only[amc,bv,kk];rcases slT P t with _|⟨e,sz,b⟩<;>first|rfl|simp only[b2s]
theorem bpv(t:TypeId)(n k e a:Nat)(xs:List LP)(kd:IntKind)(i:Int):amc P t σ n k e a xs none (some (.int kd i)) none K=bv (slT P t) λs=>match s with
  |some (_,sz,_)=>(a=sz/\k=xs.length/\0<=i/\i<=k)/\l7 σ xs=some (xs,[])/\kk K (.vs (xs.take i.toNat)) [(n,.arr e a true xs)] [n]
  |none=>False:=by simp only[amc,bv,kk];rcases slT P t with _|⟨e,sz,b⟩<;>rfl
theorem a3v(t:TypeId)(n k i:Nat):awk P t σ (.osl n k i) K=bv (slT P t) λs=>bv (ai σ n) λB=>match s,B with
  |some (e',sz,_),some (.arh e asz xs)=>bv (az P e') λz=>match z with
   |some zs=>(asz=sz/\k=xs.length/\i<k/\zs.all fy=true)/\K (.tup []) [(n,.arh e asz (xs.take i++List.replicate (k - i) (zs.map aap)))] [n]
   |none=>False
  |_,_=>False:=by simp only[awk,bv];rcases slT P t with _|⟨e,sz,b⟩<;>(try rfl)<;>rcases ai σ n with _|B<;>(try rfl)<;>cases B<;>(try rfl);all_goals (simp only;rcases az P e with _|z<;>rfl)
theorem bpe(t:TypeId)(s:LB)(lo hi:Option PV):gx P t σ (.str s) lo hi none K=bv (je P t) λq=>bv (loN lo) λl=>bv (hiN s.length hi) λh=>match l,h with
  |some l,some h=>(q=true/\0<=l/\l<=h/\h<=s.length)/\K (.str ((s.take h.toNat).drop l.toNat)) [] []
  |_,_=>False:=by simp only[gx,bv];rcases loN lo with _|l<;>(try rfl)<;>rcases hiN s.length hi with _|h<;>(try rfl);simp
theorem ax6:ej σ []=[]:=(rfl)
theorem aqz(n:Nat)(r:LN):ej σ (n::r)=(n,((ai σ n).getD (.cells [])).share)::ej σ r:=(rfl)
theorem a36(e sz:Nat)(sh:Bool)(xs:List LP):Box.share (.arr e sz sh xs)= .arr e sz true xs:=(rfl)
theorem bj9(t:TypeId)(d:Nat)(a f:IntKind)(l c:Int):yg P t (some d) σ (.int a l) (.int f c) K=bv (slT P t) λs=>match s with
  |some (e,sz,bytes)=>bv (az P e) λz=>match z with
   |some zs=>bv (ai σ (900000+d)) λhb=>match hb with
    |some _=>(zs.all fy=true/\0<=l/\l<=c/\(bytes:Int)*c<=140737488355328/\c<=140737488355328/\ai σ d=none)/\K (.os d l.toNat) [(d,.arr e sz false (List.replicate l.toNat zs))] [d]
    |none=>(zs.all fy=true/\0<=l/\l<=c/\(bytes:Int)*c<=140737488355328/\c<=140737488355328/\ai σ d=none)/\K (.os d l.toNat) [(d,.arr e sz false (List.replicate l.toNat (zs.map aap)))] [d]
   |none=>False
  |none=>False:=by simp only[yg,bv];rcases slT P t with _|⟨e,sz,b⟩;{rfl};.simp only;rcases az P e with _|z;{rfl};.simp only;rcases hb:ai σ (900000+d)with _|B;{simp only[awq]};.simp only[awa]
theorem bex(t a:TypeId)(d:Option Nat)(u v:PV):o8 P t a d σ u v K=bv (slT P t) λs=>match s with
  |some (e,sz,bytes)=>xq P a sz σ v (adv e sz bytes d σ u K)
  |none=>False:=by simp only[o8,bv];rcases slT P t with _|⟨e,sz,b⟩<;>rfl
theorem bkx(t a:TypeId)(d:Option Nat)(n k m j:Nat):qe P t a d σ (.os n k) (.os m j) K=bv (ai σ m) (a91 P t a d σ n k m j K):=(rfl)
theorem a1q(t a:TypeId)(d:Option Nat)(n k:Nat)(b:List LP):qe P t a d σ (.os n k) (.vs b) K=o8 P t a d σ (.os n k) (.vs b) K:=(rfl)
theorem a54(t a:TypeId)(d:Option Nat)(n k:Nat)(b:Bool):qe P t a d σ (.os n k) (.sn b) K=o8 P t a d σ (.os n k) (.sn b) K:=(rfl)
theorem aws(t a:TypeId)(d:Option Nat)(n k:Nat)(l:LB):qe P t a d σ (.os n k) (.str l) K=o8 P t a d σ (.os n k) (.str l) K:=(rfl)
theorem be1(t a:TypeId)(d:Option Nat)(n k m j e sz:Nat)(sh:Bool)(b:List LP):a91 P t a d σ n k m j K (some (.arr e sz sh b))=o8 P t a d σ (.os n k) (.os m j) K:=(rfl)
theorem a3w(t a:TypeId)(d:Option Nat)(v:PV):qe P t a d σ .nils v K=o8 P t a d σ .nils v K:=(rfl)
theorem bma(t a:TypeId)(d:Option Nat)(xs:List LP)(v:PV):qe P t a d σ (.vx xs) v K=o8 P t a d σ (.vx xs) v K:=(rfl)
theorem blw(t a:TypeId)(d:Option Nat)(n k:Nat)(v:PV):qe P t a d σ (.oq n k) v K=bv (slT P t) λs=>match s with
  |some (e,sz,bytes)=>xq P a sz σ v (afr e sz bytes σ n k K)
  |none=>False:=by simp only[qe,ava,bv];rcases slT P t with _|⟨e,sz,b⟩<;>rfl
theorem bpf(e sz bytes n k:Nat)(a:List LP)(F:LN):afr e sz bytes σ n k K a F=bv (ai σ n) λB=>match B with
  |some (.arq e' sz' k' xs)=>(e'=e/\sz'=sz/\k=k'/\(xs.length+a.length)*bytes<=140737488355328)/\K (.oq n (k+1)) [(n,.arq e sz (k+1) (xs++a))] (n::F)
  |_=>False:=by simp only[afr,bv];rcases ai σ n with _|B<;>(try rfl)<;>cases B<;>rfl
def bi4(k:Nat)(n:Nat)(K:KT)(q:Bool):Option Box->Prop
 |some (.arq _ _ k' xs)=>(k=k'/\q=true)/\kk K (.int .i64 xs.length) [] [n]
 |_=>False
theorem bnf(t:TypeId)(n k:Nat):r7 P t σ (.oq n k) K=bv (ay P t) λq=>bv (ai σ n) λB=>bi4 k n K q B:=by simp only[r7,xu,bv];rcases ai σ n with _|B<;>(try rfl)<;>cases B<;>first|rfl|simp only[bi4,kk,bv,b2s]
theorem a7y(k n e sz a:Nat)(q:Bool)(xs:List LP):bi4 k n K q (some (.arq e sz a xs))=((k=a/\q=true)/\kk K (.int .i64 xs.length) [] [n]):=(rfl)
def brj(n k i sz off:Nat)(K:KT):Option (Option Nat)->Option Box->Prop
 |some none,some (.arq _ sz' k' xs)=>(k=k'/\sz=sz'/\i<xs.length/\off<(dq xs i).length)/\kk K (gq (dq xs i) off) [] [n]
 |_,_=>False
theorem bd6(t:TypeId)(n k i sz off:Nat):qi P t σ (.oqe n k i sz off) K=bv (ldT P t) λl=>bv (ai σ n) λB=>brj n k i sz off K l B:=by simp only[qi,bv,kk];rcases ldT P t with _|_|m<;>(try rfl)<;>rcases ai σ n with _|B<;>(try rfl)<;>cases B<;>first|rfl|simp only[brj,kk,bv,dq,gq,b2s]
theorem baz(n k i sz off e a b:Nat)(xs:List LP):brj n k i sz off K (some none) (some (.arq e a b xs))=((k=b/\sz=a/\i<xs.length/\off<(dq xs i).length)/\kk K (gq (dq xs i) off) [] [n]):=(rfl)
def bsz(n m:Nat)(i:Int)(K:KT):Option (Nat×Nat×Nat)->Option Box->Prop
 |some (_,sz,_),some (.arq _ sz' k' xs)=>(sz'=sz/\m=k'/\0<=i/\i<xs.length)/\kk K (.oqe n m i.toNat sz 0) [] [n]
 |_,_=>False
theorem bnp(t:TypeId)(n m:Nat)(kd:IntKind)(i:Int):da P t σ (.oq n m) (.int kd i) K=bv (slT P t) λs=>bv (ai σ n) λB=>bsz n m i K s B:=by simp only[da,bv];rcases slT P t with _|⟨e,a,b⟩<;>(try rfl)<;>rcases ai σ n with _|B<;>(try rfl)<;>cases B<;>first|rfl|simp only[bsz,kk,bv,b2s]
theorem bay(n m:Nat)(i:Int)(e sz b d a c:Nat)(xs:List LP):bsz n m i K (some (e,sz,b)) (some (.arq d a c xs))=((a=sz/\m=c/\0<=i/\i<xs.length)/\kk K (.oqe n m i.toNat sz 0) [] [n]):=(rfl)
def brs(n k:Nat)(i:Int)(K:KT):Option (Nat×Nat×Nat)->Option Box->Prop
 |some (_,sz,_),some (.arq e asz k' xs)=>(asz=sz/\k=k'/\0<=i/\i<=xs.length)/\kk K (.oq n (k+1)) [(n,.arq e asz (k+1) (xs.drop i.toNat))] [n]
 |_,_=>False
theorem bra(t:TypeId)(n k:Nat)(kd:IntKind)(i:Int):jc P t σ (.oq n k) (some (.int kd i)) none none K=bv (slT P t) λs=>bv (ai σ n) λB=>brs n k i K s B:=by simp only[jc,bi9,bv];rcases slT P t with _|⟨e,a,b⟩<;>(try rfl)<;>rcases ai σ n with _|B<;>(try rfl)<;>cases B<;>first|rfl|simp only[brs,kk,bv,b2s]
theorem bfp(n k:Nat)(i:Int)(e sz b c a d:Nat)(xs:List LP):brs n k i K (some (e,sz,b)) (some (.arq c a d xs))=((a=sz/\k=d/\0<=i/\i<=xs.length)/\kk K (.oq n (k+1)) [(n,.arq c a (k+1) (xs.drop i.toNat))] [n]):=(rfl)
attribute [go_sem ↓] bkx a1q a54 aws be1 a3w bma blw bpf bnf a7y bd6 baz bnp bay bra bfp
attribute [go_sem] Box.arq.injEq PV.oq.injEq
variable (k:List LP->LN->Prop)
theorem bkh(b sz:Nat)(a:List LP):xq P b sz σ (.vs a) k=bv (ay P b) λq=>(q=true/\∀y∈a,y.length=sz)/\k a []:=(rfl)
theorem bm8(a sz:Nat)(b:Bool):xq P a sz σ (.sn b) k=bv (ay P a) λq=>q=true/\k [] []:=(rfl)
theorem bop(a sz:Nat)(m n:Nat):xq P a sz σ (.os m n) k=bv (ai σ m) λB=>bv (ay P a) λq=>match B with
  |some (.arr _ sz' _ ys)=>(q=true/\n=ys.length/\sz'=sz)/\k ys [m]
  |_=>False:=by simp only[xq,bv];rcases ai σ m with _|B<;>(try rfl)<;>cases B<;>rfl
theorem bmh(a sz:Nat)(l:LB):xq P a sz σ (.str l) k=bv (je P a) λq=>(q=true/\sz=1)/\k (cz l) []:=(rfl)
theorem bp6(e sz bytes:Nat)(d:Option Nat)(n m:Nat)(a:List LP)(F:LN):adv e sz bytes d σ (.os n m) K a F=bv (ai σ n) λB=>match B with
  |some (.arr e' sz' sh xs)=>(e'=e/\sz'=sz/\m=xs.length/\(xs.length+a.length)*bytes<=140737488355328)/\K (.os n (m+a.length)) [(n,.arr e sz sh (xs++a))] (n::F)
  |some (.arh e' sz' xs)=>(e'=e/\sz'=sz/\m=xs.length/\(xs.length+a.length)*bytes<=140737488355328)/\K (.os n (m+a.length)) [(n,.arh e sz (xs++a))] (n::F)
  |_=>False:=by simp only[adv,bv];rcases ai σ n with _|B<;>(try rfl)<;>cases B<;>rfl
theorem bec(e sz bytes d:Nat)(a:List LP)(F:LN):adv e sz bytes (some d) σ .nils K a F=((ai σ d=none/\a.length*bytes<=140737488355328)/\K (.os d a.length) [(d,.arr e sz false a)] (d::F)):=(rfl)
theorem bn3(e sz bytes d:Nat)(xs a:List LP)(F:LN):adv e sz bytes (some d) σ (.vx xs) K a F=((ai σ d=none/\(∀x∈xs,x.length=sz)/\(xs.length+a.length)*bytes<=140737488355328)/\(a=[]->K (.vs xs) [] F)/\(0<a.length->K (.os d (xs.length+a.length)) [(d,.arr e sz false (xs++a))] (d::F))):=(rfl)
theorem bhw(t c:Nat)(a:List (Nat×PV))(d:Nat):kc P t c a (some d) σ K=bv (slT P t) λs=>match s with
  |some (e,sz,_)=>bv (ai σ (900000+d)) λhint=>match hint with
   |none=>bv (ul σ sz 0 a) λr=>match r with
    |some (xs,ns)=>(ai σ d=none/\c=a.length/\c*sz<=16777216)/\kk K (.os d xs.length) (ej σ ns++[(d,.arr e sz false xs)]) (d::ns)
    |none=>False
   |some (.dead 2 _)=>bv (aao sz 0 a) λr=>match r with
    |some xs=>(ai σ d=none/\c=a.length/\c*sz<=16777216)/\kk K (.os d xs.length) [(d,.arh e sz xs)] [d]
    |none=>False
   |some _=>bv (uk σ sz 0 a) λr=>match r with
    |some (xs,ns)=>(ai σ d=none/\c=a.length/\c*sz<=16777216)/\kk K (.os d xs.length) (ej σ ns++[(d,.arr e sz false xs)]) (d::ns)
    |none=>False
  |none=>False:=by
 simp only[kc,bv,kk];rcases slT P t with _|⟨e,sz,b⟩
 .rfl
 .simp only;rcases ai σ (900000+d)with _|B
  .simp only;rcases ul σ sz 0 a with _|⟨xs,ns⟩<;>simp only[b2s]
  ·(try simp only)
   split
   .rename_i h;cases h
   .rename_i h;cases h;rcases aao sz 0 a with _|xs<;>simp only[b2s]
   .rename_i B' h1 h2
    cases h2
    rcases uk σ sz 0 a with _|⟨xs,ns⟩<;>simp only[b2s]
end
section
variable (P:Program) (σ:ASt) (K:KT)  [Inhabited α] (f:α->LP) (l:List α)
theorem jv{i:Nat}(h:i<l.length):dq (l.map f) i=f (el l i):=v8 f l i h
theorem a5i(t:TypeId)(kd:IntKind)(i:Int):da P t σ (.vs (l.map f)) (.int kd i) K=bv (slT P t) λs=>match s with
  |some (_,sz,_)=>(0<=i/\i<l.length)/\bv (f (el l i.toNat)) λc=>c.length=sz/\kk K (.el c) [] []
  |none=>False:=by rw[ath];simp only[bv];rcases slT P t with _|⟨e,sz,b⟩;{rfl};.simp only[b0x];refine propext (b1x λh=> ?_);rw[jv f l Aa]
theorem a6i(n k i off e sz:Nat)(sh:Bool):a0h n k i off K (some none) (some (.arr e sz sh (l.map f)))=((k=l.length/\i<k)/\bv (f (el l i)) λc=>off<c.length/\kk K (gq c off) [] [n]):=by simp only[a0h,bv,b0x,b2s];refine propext (b1x λa=>b1x λb=> ?_);rw[jv f l Aa]
theorem a5c(n k i off m e sz:Nat)(sh:Bool):a0h n k i off K (some (some m)) (some (.arr e sz sh (l.map f)))=((k=l.length/\i<k)/\bv (f (el l i)) λc=>off+m<=c.length/\kk K (.agg ((c.drop off).take m)) [] [n]):=by
 simp only[a0h,bv,b0x,b2s];refine propext (b1x λa=>b1x λb=> ?_);rw[jv f l Aa]
end
theorem blc(P:Program)(σ:ASt)(f:α->LP)(l:List α)(a sz:Nat)(k:List LP->LN->Prop):xq P a sz σ (.vs (l.map f)) k=bv (ay P a) λq=>(q=true/\∀y∈l,(f y).length=sz)/\k (l.map f) []:=by simp only[xq,bv,List.forall_mem_map]
def u8(b:UInt8):LP:=[.int .u8 b.toNat]
theorem brg(b:UInt8):u8 b=[.int .u8 b.toNat]:=(rfl)
theorem ay3(l:LB):cz l=l.map u8:=(rfl)
section
variable (P:Program) (N:Nat) (Q:r8) (fr:AFr) (σ:ASt)
theorem bht:wv P N .skip Q fr σ=Q .normal fr σ:=(rfl)
theorem bi6(a:Nat):wv P N (.exit a) Q fr σ=Q (.exit a) fr σ:=(rfl)
theorem bo0:wv P N .ret Q fr σ=Q .ret fr σ:=(rfl)
theorem boe(a b:Code):wv P N (.seq a b) Q fr σ=wv P N a (yk (wv P N b Q) Q) fr σ:=(rfl)
theorem bdf(a:Nat)(c:Code):wv P N (.block a c) Q fr σ=wv P N c (af2 a Q) fr σ:=(rfl)
def bl8(a b:Code):PV->Prop
 | .bool t=>(t=true->wv P N a Q fr σ)/\(t=false->wv P N b Q fr σ)
 |_=>False
theorem bk3(c:Operand)(a b:Code):wv P N (.cond c a b) Q fr σ=bv (ev fr c) (bl8 P N Q fr σ a b):=by simp only[wv,bv];cases ev fr c<;>rfl
theorem agf(a b:Code)(t:Bool):bl8 P N Q fr σ a b (.bool t)=((t=true->wv P N a Q fr σ)/\(t=false->wv P N b Q fr σ)):=(rfl)
theorem a2r(a:Nat)(l:List Oper):wv P N (.region a l.toArray false) Q fr σ=ql P l.toArray l fr σ (Q .normal):=(rfl)
def okD(ops:List Oper)(g:Log):Prop:=am7 ops.toArray g.reverse=true
theorem ayt(a:Nat)(l:List Oper):wv P N (.region a l.toArray true) Q fr σ=evD P l.toArray l fr σ [] λfr' σ' g=>okD l g/\Q .normal fr' σ':=(rfl)
variable (K:AFr->ASt->Prop)
theorem amm:yk K Q .normal fr σ=K fr σ:=(rfl)
theorem ayg(a:Nat):yk K Q (.exit a) fr σ=Q (.exit a) fr σ:=(rfl)
theorem a3r:yk K Q .ret fr σ=Q .ret fr σ:=(rfl)
theorem aha(a:Nat):af2 a Q .normal fr σ=Q .normal fr σ:=(rfl)
theorem ayj(a:Nat):af2 a Q .ret fr σ=Q .ret fr σ:=(rfl)
theorem aqd(b a:Nat):af2 b Q (.exit a) fr σ=if a=b then Q .normal fr σ else Q (.exit a) fr σ:=(rfl)
variable (rs:List ResultVar) (ns exts:LN) (r:PV) (nb ext':List Box)
theorem ao7:bpr P rs ns exts r nb ext' .normal fr σ=bep P rs ns exts r nb ext' fr σ:=(rfl)
theorem bc9:bpr P rs ns exts r nb ext' .ret fr σ=bep P rs ns exts r nb ext' fr σ:=(rfl)
theorem bj1:bep P rs ns exts r nb ext' fr σ=bv (ao5 P fr σ rs) λus=>bv (aai σ ns) λa=>bv (aai σ exts) λb=>match us with
  |some us=>bv (t6 σ ns exts us) λc=>match a,b,c with
   |some (nb0,b1),some (e0,b2),some (us',b3)=>wu ns exts (b1++(b2++b3))=true/\nb0=nb/\e0=ext'/\aml us'=r
   |_,_,_=>False
  |none=>False:=by
 simp only[bep,bv];rcases ao5 P fr σ rs with _|us
 .rfl
 .simp only;rcases aai σ ns with _|⟨nb0,b1⟩<;>(try rfl)<;>rcases aai σ exts with _|⟨e0,b2⟩<;>(try rfl)<;>rcases t6 σ ns exts us with _|⟨us',b3⟩<;>rfl
end
attribute [congr] bag
theorem aqt{a0}:gy (.move a0)=false:=(rfl)
theorem aie{a0}:gy (.assign a0)=false:=(rfl)
theorem aq9{a0}{a1}{a2}:gy (.pick a0 a1 a2)=false:=(rfl)
theorem amq{a0}:gy (.alloc a0)=false:=(rfl)
theorem ak9{a0}{a1}:gy (.build a0 a1)=false:=(rfl)
theorem yo{a0}{a1}{a2}:gy (.buildSlice a0 a1 a2)=false:=(rfl)
theorem apm{a0}{a1}:gy (.load a0 a1)=false:=(rfl)
theorem al4{a0}{a1}{a2}:gy (.store a0 a1 a2)=false:=(rfl)
theorem adm{a0}:gy (.nilCheck a0)=false:=(rfl)
theorem am6{a0}{a1}{a2}{a3}{a4}:gy (.binOp a0 a1 a2 a3 a4)=false:=(rfl)
theorem ase{a0}{a1}{a2}:gy (.unOp a0 a1 a2)=false:=(rfl)
theorem aep{a0}{a1}{a2}:gy (.convert a0 a1 a2)=false:=(rfl)
theorem an6{a0}{a1}{a2}{a3}{a4}:gy (.slice a0 a1 a2 a3 a4)=false:=(rfl)
theorem aab{a0}{a1}{a2}:gy (.fieldAddr a0 a1 a2)=false:=(rfl)
theorem aaj{a0}{a1}{a2}:gy (.indexAddr a0 a1 a2)=false:=(rfl)
theorem alv{a0}{a1}{a2}:gy (.index a0 a1 a2)=false:=(rfl)
theorem ae1{a0}{a1}:gy (.extract a0 a1)=false:=(rfl)
theorem aq4{a0}:gy (.call a0)=false:=(rfl)
attribute [go_sem] bjt aqt aie aq9 amq ak9 yo apm al4 adm am6 ase aep an6 aab aaj alv ae1 aq4
attribute [go_sem ↓] a4e aw3 a15 a27 bpl a4x axq a6f a73 ay1 a1c ba1 aio bb9 bla aq3 a4i
attribute [go_sem] bkb avr qw aao uk qc a0c l7 bfx bgv ac2 bno Box.arh.injEq Box.mp.injEq Box.it.injEq PV.mh.injEq
attribute [go_sem ↓] bsx
attribute [go_sem ↓] brv be7 a7w boi ben bkj a5d bdn be5 a5p bdq a08
attribute [go_sem ↓] ara akt akd a7b awh axj ar2 bho akj ajn ahe bi7 bct a9i aju bdc
attribute [go_sem ↓] bez auc
attribute [go_sem ↓ 1100] bds
attribute [go_sem ↓ 1100] a6i a5c a5i blc
theorem blv(d e:Nat)(l:LB)(K:KT):bs3 d e l K=kk K (.os d l.length) [(d,.arr e 1 false (l.map u8))] [d]:=(rfl)
attribute [go_sem] brg ay3 blv
attribute [go_sem ↓] ap7 axf asa
attribute [go_sem] azl az7 azp azf bsv a63 baa a9p a3h a8f ay7 aw7
attribute [go_sem ↓] a5x bab axx bbh af9 aom bbn be9 ar8 ba0 a2t bjq a8m aet bfn a1p ahq ag2 a6d a4h bcd apl a4j ag5 ak3 bbx blz az6 bjk bj5
attribute [go_sem ↓] aw5 a5q aze ada aqb apv axk aqn ath a93 a1t arp apx a8h bby bew awb a3n
attribute [go_sem ↓] bhz bjv bhb bj6 biq bh5 bhv bk9 bpk bha bh0 bl9 bkd bhf bkz bh3 bdy bbq bbi bbw bax bfo bfh bo8 boq bqa bnj bqh
attribute [go_sem ↓] ayx azy bm8
attribute [go_sem ↓] bon bh1 bpc bm0 bcs be6 boc bpv a3v a7v a4k a05 bsd br3 bpe bj9 bex bkh bn3 bop bmh bp6 bec bhw
attribute [go_sem] blg bkn bhh bkk ax6 aqz a36 a9o a4l bfa a2b
attribute [go_sem ↓] bht bi6 bo0 boe bdf bk3 agf a2r ayt amm ayg a3r aha ayj aqd ao7 bc9 bj1
theorem bl5(σ:ASt)(fr:AFr):wkF σ fr []=True:=(rfl)
theorem a95(σ:ASt)(fr:AFr)(s:Nat)(u:PV)(r:AFr):wkF σ fr ((s,u)::r)=(bv (look fr s) (λv=>bv u λu=>wkU σ v u)/\wkF σ fr r):=(rfl)
theorem bin(fr:AFr):wkN fr []=[]:=(rfl)
theorem baf(fr:AFr)(s:Nat)(u:PV)(r:AFr):wkN fr ((s,u)::r)=bmy (look fr s) u++wkN fr r:=(rfl)
theorem bh4(σ:ASt):wkS σ []=True:=(rfl)
theorem bdo(σ:ASt)(n:Nat)(B:Box)(r:ASt):wkS σ ((n,B)::r)=(bv (ai σ n) (λv=>v=some B)/\wkS σ r):=(rfl)
theorem br7(fr:AFr)(σ:ASt)(fr':AFr)(σ':ASt):wk fr σ fr' σ'=(wkF σ fr fr'/\wkS σ σ'/\aoy (σ'.map (·.1)) (wkN fr fr')=true/\bcq (σ'.map (·.1)) fr'=true/\abz (σ'.map (·.1)) σ'=true/\bmm (σ'.map (·.1)) σ=true):=(rfl)
theorem Qz(g:P.follows .mixedOrders=true){c:Code}(e:ι)(d:ι->AFr)(b:ι->ASt)(I:ι->Prop)(μ:ι->Nat)(h:ix N c=true)(k:I e)(f:wk fr σ (d e) (b e))
  (a: ∀i,I i->wv P N c (yk (λfr' σ'=> ∃j,(I j/\μ j<μ i)/\wk fr' σ' (d j) (b j)) Q) (d i) (b i)):wv P N (.loop c) Q fr σ:=
 bo2 g h d b I μ e k f a
theorem lo_{c:Code}(i0:ι)(fs:ι->AFr)(ss:ι->ASt)(I:ι->Prop)(μ:ι->Nat)(hI:I i0)(hw:wk fr σ (fs i0) (ss i0))(round: ∀i,I i->wv P N c (yk (λfr' σ'=> ∃j,(I j/\μ j<μ i)/\wk fr' σ' (fs j) (ss j)) Q) (fs i) (ss i))(hm:P.follows .mixedOrders=true:=by kernel_rfl)(hc:ix N c=true:=by kernel_rfl):wv P N (.loop c) Q fr σ:=Qz hm i0 fs ss I μ hc hI hw round
theorem brr(h:P.follows .mixedOrders=true){c:Code}(e:ι)(d:ι->AFr)(b:ι->ASt)(I:ι->Prop)(μ:ι->Nat)(k:ix N c=true)(f:List (Nat×Nat))(m:I e)(g:wkR f fr σ (d e) (b e))
  (a: ∀i,I i->wv P N c (yk (λfr' σ'=> ∃j l,(I j/\μ j<μ i)/\wkR l fr' σ' (d j) (b j)) Q) (d i) (b i)):wv P N (.loop c) Q fr σ:=
 bis h k d b I μ e m f g a
theorem bo7(l:List (Nat×Nat))(fr:AFr)(σ:ASt)(fr':AFr)(σ':ASt):wkR l fr σ fr' σ'=(bgq l fr σ/\bv (a24 l fr σ) λp=>wk p.1 p.2 fr' σ'):=(rfl)
theorem a97(fr:AFr)(σ:ASt):bgq [] fr σ=True:=(rfl)
theorem a5j(n m:Nat)(r:List (Nat×Nat))(fr:AFr)(σ:ASt):bgq ((n,m)::r) fr σ=((bv (ai σ m) (λB=>B=none)/\n<1000000/\m<1000000/\n≠m)/\bv (a89 n m fr) λfr=>bv (ae0 n m σ) λσ=>bgq r fr σ):=(rfl)
theorem bbu(fr:AFr)(σ:ASt):a24 [] fr σ=(fr,σ):=(rfl)
theorem a44(n m:Nat)(r:List (Nat×Nat))(fr:AFr)(σ:ASt):a24 ((n,m)::r) fr σ=a24 r (a89 n m fr) (ae0 n m σ):=(rfl)
attribute [go_sem ↓] bo7 a97 a5j
attribute [go_sem] bbu a44 a89 ae0 renV qj na rn
attribute [go_sem ↓] bin bl5 a95 bh4 bdo br7
attribute [go_sem] baf wkU bmy aoy bcq abz bmm bge aop
attribute [go_sem] decide_true decide_false decide_eq_true_eq decide_eq_false_iff_not Bool.not_eq_true' Bool.not_eq_false' Bool.not_true Bool.not_false true_and and_true false_and and_false forall_const implies_true not_true_eq_false not_false_eq_true eq_self ne_eq
attribute [go_sem] Bool.true_and Bool.and_true Bool.false_and Bool.and_false Bool.true_or Bool.or_true Bool.false_or Bool.or_false Bool.and_eq_true Bool.or_eq_true Bool.not_eq_true Bool.true_eq_false Bool.false_eq_true
attribute [go_sem] List.length_map List.length_cons List.length_nil List.length_append List.length_replicate List.map_cons List.map_nil List.append_nil List.nil_append List.cons_append List.toList_toArray List.all_nil List.all_cons
attribute [go_sem] List.take_zero List.take_succ_cons List.take_nil List.drop_zero List.drop_succ_cons List.drop_nil Option.map_some Option.map_none Option.getD_some Option.isSome_some Option.isSome_none
theorem bm2(f:α->LP)(l:List α)(n:Nat):(l.map f).take n=(l.take n).map f:=b3j.symm
theorem bog(f:α->LP)(l:List α)(n:Nat):(l.map f).drop n=(l.drop n).map f:=b6t.symm
theorem all_map(f:α->LP)(l:List α)(p:LP->Prop):(∀x∈l.map f,p x)= ∀x∈l,p (f x):=Ad
attribute [go_sem] bm2 bog
attribute [go_sem ↓] all_map
theorem bpn(n:Nat):((no_index (OfNat.ofNat n):Nat):Int)=OfNat.ofNat n:=(rfl)
attribute [go_sem] bpn Int.toNat_natCast Int.toNat_zero Int.ofNat_lt Int.ofNat_le Int.natCast_nonneg Int.ofNat_eq_natCast Int.zero_le_ofNat
attribute [go_sem] PV.int.injEq PV.bool.injEq PV.vs.injEq PV.str.injEq PV.os.injEq PV.tup.injEq PV.agg.injEq PV.ptr.injEq PV.el.injEq PV.fn.injEq Box.arr.injEq Box.cells.injEq Option.some.injEq Prod.mk.injEq List.cons.injEq
attribute [go_sem] List.not_mem_nil List.mem_cons List.contains_nil List.contains_cons or_false false_or not_or Nat.not_lt_zero Nat.zero_add Nat.add_zero
attribute [go_sem] ei pur lg ul bnz ao5 ari aai a9l t6 bms aqq aml qp eqC ad9 aad yu fy
def afa(p:α->Prop):List α->Prop
 |[]=>True
 |a::r=>p a/\afa p r
theorem allL_iff{p:α->Prop}{l:List α}:afa p l↔∀a∈l,p a:=by induction l with|nil=>simp[afa]|cons a r ih=>simp[afa,ih]
theorem bce(p:α->Prop):afa p []=True:=(rfl)
theorem a1u(p:α->Prop)(a:α)(r:List α):afa p (a::r)=(p a/\afa p r):=(rfl)
def bb4(cargs:LP)(ext:List Box)(r:PV)(nb ext':List Box)(ren:LN)(us:LP)(dst:Option Nat)(σ:ASt)(K:KT):Prop:=
 bv (ye σ ren us) λp=>bv (bfm σ ren) λq=>match p,q with
 |some (c,ns1),some (e,ns2)=>(c=cargs/\e=ext)/\(zt ren=true/\aoy ren (ns1++ns2)=true/\ahk ext ext'/\afa as6 nb/\(wh (dst.getD 0) nb).all (λn=>(ai σ n).isNone)=true/\nb.length<1000000/\okR nb.length ext.length r)/\
   bv (bml (rnm (dst.getD 0) ren) r) λu=>bv (aak σ (dst.getD 0) (ns1++ns2) ren ext' nb) λδ=>K u δ ((ns1++ns2)++(ren++wh (dst.getD 0) nb))
 |_,_=>False
theorem Qq{k:FuncId}{a b:LP}{f:List Box}(D:Den P k b ext r f ext')(d:LN){K:KT}
  (h:bb4 b ext r f ext' d (us++a) dst σ K):zh P (.fn k a) us dst σ K:=by simp only[bb4,bv]at h;split at h;{rename_i c ns1 e ns2 h1 h2;obtain⟨⟨rfl,rfl⟩,⟨q,o,i,m,s,j,l⟩,p⟩:=h;refine⟨k,a,c,e,r,f,f,ext',ext',ns1,ns2,d,dst.getD 0,rfl,D,h1,bb8 h2,mj q,λn g=>kj o g,(au1 i f.length e.length (rnm (dst.getD 0) d)).1,(au1 i f.length e.length (rnm (dst.getD 0) d)).2,a4m (allL_iff.1 m),λn g=> ?_,j,l,rfl,p⟩;have:=b06.1 s n g;simpa using this};.exact h.elim
def a2j(cargs:LP)(ext0:List Box)(el sz kk:Nat)(xs:List LP)(r:PV)(nb ext0':List Box)(ren0:LN)(c m:Nat)(ren:LN)(us:LP)(dst:Option Nat)(σ:ASt)(K:KT):Prop:=
 bv (ye σ ren us) λp=>bv (bfm σ ren0) λq=>bv (ai σ c) λC=>bv (ai σ m) λM=>match p,q with
 |some (cg,ns1),some (e,ns2)=>(cg=cargs/\e=ext0/\C=some (.cells [.os m kk])/\M=some (.arr el sz false xs))/\(zt ren=true/\aoy ren (ns1++ns2)=true/\ahk ext0 ext0'/\afa as6 nb/\(wh (dst.getD 0) nb).all (λn=>(ai σ n).isNone)=true/\nb.length<1000000/\okR nb.length (ext0.length+2) r)/\
   bv (bml (rnm (dst.getD 0) ren) r) λu=>bv (aak σ (dst.getD 0) (ns1++ns2) ren (ext0'++[.cells [.os m kk],.arr el sz false xs]) nb) λδ=>K u δ ((ns1++ns2)++(ren++wh (dst.getD 0) nb))
 |_,_=>False
theorem alq{k:FuncId}{q s:LP}{el sz kk:Nat}{H:List Box}(D:Den P k s ext r H ext')(o g:List Box)(p:LN)(c m:Nat)(l:LN)
  (v:ext=o++[.cells [.os (1000000+(o.length+1)) kk],.arr el sz false xs]) (i:ext'=g++[.cells [.os (1000000+(o.length+1)) kk],.arr el sz false xs]) (C:l=p++[c,m])    {K:KT}
  (h:a2j s o el sz kk xs r H g p c m l (us++q) dst σ K):zh P (.fn k q) us dst σ K:=by
 simp only[a2j,bv]at h;split at h
 rotate_left
 .exact h.elim
 rename_i cg J e O h1 h2;obtain⟨⟨rfl,rfl,X,M⟩,⟨W,a2,V,a4,a5,Y,a7⟩,hK⟩:=h;obtain⟨S,Z,l3⟩:=abm h2;obtain⟨B,T⟩:=wo V;have A:=mj W;have t:ext.length=e.length+2:=by rw[v];simp
 have hc:l[e.length]? =some c:=by rw[C,b0y Aa,S];simp
 have L:l[e.length+1]? =some m:=by rw[C,b0y Aa,S];simp
 have y:qp l m=some (e.length+1):=lh A L;have w:ext[e.length]? =some (.cells [.os (1000000+(e.length+1)) kk]):=by rw[v,b0y Aa];simp
 have E:ext[e.length+1]? =some (.arr el sz false xs):=by rw[v,b0y Aa];simp
 have x:ext'[e.length]? =some (.cells [.os (1000000+(e.length+1)) kk]):=by rw[i,b0y Aa,B];simp
 have z:ext'[e.length+1]? =some (.arr el sz false xs):=by rw[i,b0y Aa,B];simp
 have I:(g++[.cells [.os m kk],.arr el sz false xs])[e.length]? =some (.cells [.os m kk]):=by rw[b0y Aa,B];simp
 have Q:(g++[.cells [.os m kk],.arr el sz false xs])[e.length+1]? =some (.arr el sz false xs):=by rw[b0y Aa,B];simp
 have R: ∀(j:Nat),j<e.length+2->j<e.length\/j=e.length\/j=e.length+1:=λj d=>Aa
 refine⟨k,q,cg,ext,r,H,H,ext',g++[.cells [.os m kk],.arr el sz false xs],J,O,l,dst.getD 0,rfl,D,h1,⟨by rw[t,C];simp[S],Z,λj n d=> ?_⟩,A,λn F=>kj a2 F,⟨?_,λj a d=> ?_⟩,⟨?_,λj b d=> ?_⟩,a4m (allL_iff.1 a4),λn F=> ?_,Y,by rw[t];exact a7,rfl,hK⟩
 .have f:j<e.length+2:=(by have:=(dm.1 d).1;rw[C]at this;simp at this;omega);rcases R j f with f|rfl|rfl;{have hj0:p[j]? =some n:=(by rw[C,b09 Aa]at d;exact d);have he:ext[j]? =e[j]?:=(by rw[v,b09 f]);rw[he];rcases l3 j n hj0 with h|h;{exact .inr (.inr (.inl h))};.exact .inr (.inl h)};{rw[hc]at d;cases d;exact .inl ⟨[.os m kk],[.os (1000000+(e.length+1)) kk],[],X,by simp[jk,ado,y],Ad,w⟩};.rw[L]at d;cases d;exact .inr (.inl ⟨_,_,_,M,E⟩)
 .rw[v,i];simp[B]
 .have f:j<e.length+2:=(by have:=(dm.1 d).1;omega);rcases R j f with f|rfl|rfl;{rw[v,b09 f]at d;obtain⟨b,G,N,_⟩:=T j a d;exact⟨b,by rw[i,b09 Aa];exact G,N⟩};{rw[w]at d;cases d;exact⟨_,x,trivial⟩};.rw[E]at d;cases d;exact⟨_,z,rfl,b0f _⟩
 .rw[i];simp
 .have f:j<e.length+2:=(by have:=(dm.1 d).1;rw[i]at this;simp at this;omega);rcases R j f with f|rfl|rfl;{rw[i,b09 Aa]at d;refine⟨b,by rw[b09 Aa];exact d,.inl ⟨?_,rfl⟩⟩;obtain⟨b',G,_,N⟩:=T j _ (bq f);rw[d]at G;cases G;exact N};{rw[x]at d;cases d;refine⟨_,I,.inr ⟨_,rfl,λu U=> ?_,?_⟩⟩;{simp only[b1h]at U;subst U;exact .inr Aa};.have F: ¬(1000000+(e.length+1)<1000000):=Aa;have hr:rnm (dst.getD 0) l (1000000+(e.length+1))=m:=(by simp only[rnm,if_neg F,b3h,bd,L,b1o]);simp only[b07,b0o,bej,hr]};.rw[z]at d;cases d;exact⟨_,Q,.inl ⟨trivial,rfl⟩⟩
 .have:=b06.1 a5 n F;simpa using this
theorem a60:ahk [] []=True:=(rfl)
theorem azv(a b:Box)(as c:List Box):ahk (a::as) (b::c)=(az4 a b/\as6 b/\ahk as c):=(rfl)
theorem apa(as a:LP):az4 (.cells as) (.cells a)=True:=(rfl)
theorem a7m(e sz d b:Nat)(sh c:Bool)(xs a:List LP):az4 (.arr e sz sh xs) (.arr d b c a)=(b=sz/\xs.length<=a.length):=(rfl)
theorem ba8(e sz:Nat)(sh:Bool)(xs:List LP):as6 (.arr e sz sh xs)=True:=(rfl)
theorem az5(cs:LP):as6 (.cells cs)=afa noH cs:=propext allL_iff.symm
theorem bd3(b:Bool):Hin (λ_=>False) (.bool b)=True:=b4s (.bool b)
theorem bjx(k:IntKind)(n:Int):Hin (λ_=>False) (.int k n)=True:=b4s (.int k n)
theorem bh7(l:LB):Hin (λ_=>False) (.str l)=True:=b4s (.str l)
theorem bo6(xs:List LP):Hin (λ_=>False) (.vs xs)=True:=b4s (.vs xs)
theorem a20(cs:LP):Hin (λ_=>False) (.agg cs)=afa (Hin (λ_=>False)) cs:=propext ⟨λh=>by cases h with|agg _ h=>exact allL_iff.2 h,λh=> .agg cs (allL_iff.1 h)⟩
theorem bjr(f:FuncId):Hin (λ_=>False) (.fn f [])=True:=b4s (.fn f [] Ad)
theorem aa(h:am7 ops.toArray g.reverse=true):okD ops g:=h
theorem ok_(h:am7 ops.toArray g.reverse=true:=by kernel_rfl):okD ops g:=h
theorem an_{a b:Prop}(h:b)(ha:a:=by first|omega|exact aa (by kernel_rfl)):a/\b:=⟨ha,h⟩
theorem bm{c:Code}(slot n e sz:Nat)(sh:Bool)(h:wv P N (.loop c) Q ((slot,.os n 0)::fr) (s7 σ n (.arr e sz sh [])))(hs:bv (look fr slot) λu=>u= .nils)(p:bv (ai σ n) λB=>B=none)(s:0<sz):wv P N (.loop c) Q fr σ:=by intro x a o w f;have q:W P N (.loop c) Q ((slot,.os n 0)::fr) (s7 σ n (.arr e sz sh [])):=h;have k:ai σ n=none:=p;have g:look fr slot= .nils:=hs;obtain⟨r,z⟩:=f.sim.new (d:=n) (B:= .arr e sz sh []) (hd:= .slice none 0 0) (w':=w) k rfl rfl rfl (b0f _) (λ_ _=>rfl) (λb m=>by cases m) (λE _=>⟨s,[],⟨Ad,.inl ⟨rfl,rfl⟩⟩,Ad,Ad,λi y j u v A=>by simp at v⟩);refine q x a (upd o n (.slice none 0 0)) w ⟨by rw[bp];exact r,f.size,f.defers,λt=> ?_⟩;rw[bp];simp only[look];split;{rename_i hst;subst hst;have l:=f.regs slot;rw[g]at l;rw[l.nils_inv];exact .os ⟨⟨none,0,rfl⟩,.arr e sz sh [],sz,0,av _ _ _,rfl,b0f _,λ_=>(av _ _ _).symm⟩};.exact(f.regs t).mono z
theorem bly(n m:Nat)(us:LP):okR n m (.tup us)=afa (okC n m) us:=propext allL_iff.symm
theorem bc7(n m:Nat)(b:Bool):okR n m (.bool b)=True:=b4s (.bool b)
theorem bme(n m:Nat)(k:IntKind)(i:Int):okR n m (.int k i)=True:=b4s (.int k i)
theorem bir(n m:Nat)(l:LB):okR n m (.str l)=True:=b4s (.str l)
theorem bpx(n m:Nat)(xs:List LP):okR n m (.vs xs)=True:=b4s (.vs xs)
theorem biv(n m:Nat)(cs:LP):okR n m (.agg cs)=afa noH cs:=a20 cs
theorem bjm(n m:Nat)(cs:LP):okR n m (.ago cs)=afa (okA n m) cs:=propext allL_iff.symm
theorem bd1(ns:LN):bbd ns []=false:=(rfl)
theorem a5r(ns:LN)(u:PV)(r:LP):bbd ns (u::r)=(match u with| .os n _=>ns.contains n||bbd ns r|_=>bbd ns r):=by cases u<;>rfl
theorem bna(n m j k:Nat):okR n m (.os j k)=okN n m j:=(rfl)
theorem bhp(n m j k:Nat):okR n m (.ptr j k)=okN n m j:=(rfl)
theorem Den.vs{k:FuncId}{args:LP}{e sz:Nat}{sh:Bool}{n:Nat}(D:Den P k args ext (.os 0 n) [.arr e sz sh xs] ext')(g:n=xs.length)(hx:afa as6 ext')(T:ext'.length=ext.length):Den P k args ext (.vs xs) [] ext':=by
 refine⟨D.enter,λw V L A c H C x=>(D.run w V L A c H C x).mono λW U=> ?_⟩;rintro⟨v,f,rfl,E,M⟩;refine⟨v,f,rfl,?_⟩;have b:=E.shared (em (fg [.arr e sz sh xs] ext') [0]);have h0:a8 (fg [.arr e sz sh xs] ext') [0] 0=some (.arr e sz true xs):=by simp[a8,fg,Box.share]
 have a:=b.1.asList h0
 have o:v=f 0:=by have:fg [.arr e sz sh xs] ext' 0=some (.arr e sz sh xs):=rfl;obtain⟨_,R,K,N,J,z,S,G⟩:=M.os_arr this;rw[this]at z;cases z;exact G g
 obtain⟨F,s⟩:=b.1.drop (s':=fg [] ext') (λn B q=>by
   rcases gj q with ⟨_,h⟩|⟨j,rfl,h⟩
   .simp at h
   .have: ¬(1000000+j∈[0]):=Ad
    simp only[a8,if_neg this,jo];exact h)
  (λn B q=>by
   rcases gj q with ⟨_,h⟩|⟨j,rfl,h⟩
   .simp at h
   .have hb:=allL_iff.1 hx B (b0e h)
    cases B with
    |arr=>trivial
    |cells cs=>exact λu t=>(hb u t).mono λ_ h=>h.elim
    |arh e sz xs=>exact λr I u t=>(hb r I u t).mono λ_ h=>h.elim
    |mp es=>exact λe O=>(hb e O).mono λ_ h=>h.elim
    |it m k d=>exact hb.elim
    |si l p=>exact hb.elim
    |arq e sz k xs=>exact hb.elim
    |dead sz l=>trivial)
  (λn g=>by
   have y:n∈List.range' 1000000 ext.length:=by
    simp only[cx]at g
    cases hq:fg [] ext n with
    |none=>rw[hq]at g;simp at g
    |some B=>
     rcases gj hq with ⟨_,x⟩|⟨j,rfl,Q⟩
     .simp at x
     .have:=(dm.1 Q).1;simp[b5m];omega
   simp only[b5m]at y;obtain⟨i,rfl⟩:=b4j y.1;rw[jo];have:i<ext'.length:=Aa
   simp[this])
 refine⟨F,s v _ (by rw[o];exact .pure a) (.vs xs)⟩
theorem aj3{rs:List ResultVar}{exts:LN}{a:List Box}(l:List (Nat×Nat×Nat×Nat))(ns:LN)(b:uo l fr σ)(c:bv (lifts l fr σ) λp=>bep P rs ns exts r a ext' p.1 p.2):bmw P rs exts r a ext' fr σ:=⟨l,ns,b,a16 c⟩
section
variable (P:Program) (rs:List ResultVar) (ns exts0 exts:LN) (c m:Nat) (es:List (PV×PV)) (r:PV) (nb ext0':List Box) (fr:AFr) (σ:ASt)
theorem bba:bn2 P rs ns exts0 exts c m es r nb ext0' fr σ=bv (ao5 P fr σ rs) λus=>bv (aai σ ns) λa=>bv (aai σ exts0) λb=>bv (ai σ c) λC=>bv (ai σ m) λM=>match us with
  |some us=>bv (t6 σ ns exts us) λq=>match a,b,q with
   |some (nb0,b1),some (e0,b2),some (us',b3)=>(C=some (.cells [.mh m])/\M=some (.mp es))/\wu ns exts (b1++(b2++b3))=true/\nb0=nb/\e0=ext0'/\aml us'=r
   |_,_,_=>False
  |none=>False:=by
 simp only[bn2,bv];rcases ao5 P fr σ rs with _|us
 .rfl
 .simp only;rcases aai σ ns with _|⟨nb0,b1⟩<;>(try rfl)<;>rcases aai σ exts0 with _|⟨e0,b2⟩<;>(try rfl)<;>rcases t6 σ ns exts us with _|⟨us',b3⟩<;>rfl
end
section
variable (P:Program) (rs:List ResultVar) (ns exts0 exts:LN) (c m el sz kk:Nat) (xs:List LP) (r:PV) (nb ext0':List Box) (fr:AFr) (σ:ASt)
theorem anq:bhi P rs ns exts0 exts c m el sz kk xs r nb ext0' .normal fr σ=ano P rs ns exts0 exts c m el sz kk xs r nb ext0' fr σ:=(rfl)
theorem a0m:bhi P rs ns exts0 exts c m el sz kk xs r nb ext0' .ret fr σ=ano P rs ns exts0 exts c m el sz kk xs r nb ext0' fr σ:=(rfl)
theorem beq:ano P rs ns exts0 exts c m el sz kk xs r nb ext0' fr σ=bv (ao5 P fr σ rs) λus=>bv (aai σ ns) λa=>bv (aai σ exts0) λb=>bv (ai σ c) λC=>bv (ai σ m) λM=>match us with
  |some us=>bv (t6 σ ns exts us) λq=>match a,b,q with
   |some (nb0,b1),some (e0,b2),some (us',b3)=>(C=some (.cells [.os m kk])/\M=some (.arr el sz false xs))/\wu ns exts (b1++(b2++b3))=true/\nb0=nb/\e0=ext0'/\aml us'=r
   |_,_,_=>False
  |none=>False:=by
 simp only[ano,bv];rcases ao5 P fr σ rs with _|us
 .rfl
 .simp only;rcases aai σ ns with _|⟨nb0,b1⟩<;>(try rfl)<;>rcases aai σ exts0 with _|⟨e0,b2⟩<;>(try rfl)<;>rcases t6 σ ns exts us with _|⟨us',b3⟩<;>rfl
end
attribute [go_sem ↓] anq a0m beq bba
section
variable (P:Program) (rs:List ResultVar) (n0:Nat) (ns1 exts:LN) (r:PV) (e sz:Nat) (xs:List LP) (nb1 ext':List Box) (fr:AFr) (σ:ASt)
end
theorem a6l(P:Program)(rs:List ResultVar)(exts:LN)(r:PV)(b a:List Box)(fr:AFr)(σ:ASt):bio P rs exts r b a .ret fr σ=bmw P rs exts r b a fr σ:=(rfl)
theorem a5e(fr:AFr)(σ:ASt):lifts [] fr σ=(fr,σ):=(rfl)
theorem axw(slot n e sz:Nat)(r:List (Nat×Nat×Nat×Nat))(fr:AFr)(σ:ASt):lifts ((slot,n,e,sz)::r) fr σ=lifts r ((slot,.os n 0)::fr) (s7 σ n (.arr e sz false [])):=(rfl)
theorem arl(fr:AFr)(σ:ASt):uo [] fr σ=True:=(rfl)
theorem an8(slot n e sz:Nat)(r:List (Nat×Nat×Nat×Nat))(fr:AFr)(σ:ASt):uo ((slot,n,e,sz)::r) fr σ=(bv (look fr slot) (λu=>u= .nils)/\bv (ai σ n) (λB=>B=none)/\0<sz/\bv (s7 σ n (.arr e sz false [])) λσ'=>uo r ((slot,.os n 0)::fr) σ'):=(rfl)
attribute [go_sem ↓] a6l a5e axw arl an8
attribute [go_sem ↓] a2j bly bc7 bme bir bpx biv bjm ane bd1 a5r bna bhp bce a1u bb4 a60 azv apa a7m ba8 az5
attribute [go_sem] true_or Classical.not_not false_imp_iff true_imp_iff ye an5 ado jk bfm zt aoy bd3 bjx bh7 bo6 a20 bjr beq_iff_eq beq_eq_false_iff_ne wu aoy noH okC okA bhx okN ac9 a0k btg List.zipIdx_cons List.zipIdx_nil List.foldl_cons List.foldl_nil List.set_cons_zero List.set_cons_succ List.set_nil gt_iff_lt ge_iff_le List.getElem?_cons_zero List.getElem?_cons_succ List.getElem?_nil bml bej rnm bn aak nbD wh List.zip_cons_cons List.zip_nil_left List.zip_nil_right List.forall_mem_cons Option.isNone_none Option.isNone_some List.getD_cons_zero List.getD_cons_succ List.map_map
end Go.Proofs.Am
