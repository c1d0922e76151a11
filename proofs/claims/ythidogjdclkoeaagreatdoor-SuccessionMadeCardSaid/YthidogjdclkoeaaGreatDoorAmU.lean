/- AmU. -/
import Derived.Test.YthidogjdclkoeaaGreatDoorAmS
set_option linter.unusedSimpArgs false
set_option linter.unusedVariables false
namespace Go.Proofs.Am
open Go Go.RowKit
variable {P:Program}
section
variable (P:Program) (σ:ASt) (K:KT) (J:PV->Prop)
theorem a1s(t:TypeId)(k k':IntKind)(a b:Int):fl P .add t (.int k a) (.int k' b) J=(k=k'/\J (.int k (k.wrap (a+b)))):=(rfl)
theorem a0z(t:TypeId)(k k':IntKind)(a b:Int):fl P .sub t (.int k a) (.int k' b) J=(k=k'/\J (.int k (k.wrap (a - b)))):=(rfl)
theorem a0y(t:TypeId)(k k':IntKind)(a b:Int):fl P .mul t (.int k a) (.int k' b) J=(k=k'/\J (.int k (k.wrap (a*b)))):=(rfl)
theorem a0m(t:TypeId)(k k':IntKind)(a b:Int):fl P .quo t (.int k a) (.int k' b) J=(k=k'/\b≠0/\J (.int k (k.wrap (a.tdiv b)))):=(rfl)
theorem a3y(t:TypeId)(k k':IntKind)(a b:Int):fl P .rem t (.int k a) (.int k' b) J=(k=k'/\b≠0/\J (.int k (a.tmod b))):=(rfl)
theorem a0v(t:TypeId)(k k':IntKind)(a b:Int):fl P .shl t (.int k a) (.int k' b) J=(0<=b/\J (.int k (k.wrap (a*2^min b.toNat k.bits)))):=(rfl)
theorem a0i(t:TypeId)(k k':IntKind)(a b:Int):fl P .shr t (.int k a) (.int k' b) J=(0<=b/\J (.int k (a.fdiv (2^min b.toNat k.bits)))):=(rfl)
theorem a1l(t:TypeId)(k k':IntKind)(a b:Int):fl P .and t (.int k a) (.int k' b) J=(k=k'/\J (.int k (bits .and k a b))):=(rfl)
theorem a57(t:TypeId)(k k':IntKind)(a b:Int):fl P .or t (.int k a) (.int k' b) J=(k=k'/\J (.int k (bits .or k a b))):=(rfl)
theorem a3h(t:TypeId)(k k':IntKind)(a b:Int):fl P .xor t (.int k a) (.int k' b) J=(k=k'/\J (.int k (bits .xor k a b))):=(rfl)
theorem a27(t:TypeId)(k k':IntKind)(a b:Int):fl P .eql t (.int k a) (.int k' b) J=(k=k'/\J (.bool (decide (a=b)))):=(rfl)
theorem a3w(t:TypeId)(k k':IntKind)(a b:Int):fl P .neq t (.int k a) (.int k' b) J=(k=k'/\J (.bool (decide (a≠b)))):=(rfl)
theorem a09(t:TypeId)(k k':IntKind)(a b:Int):fl P .lss t (.int k a) (.int k' b) J=(k=k'/\J (.bool (decide (a<b)))):=(rfl)
theorem a0f(t:TypeId)(k k':IntKind)(a b:Int):fl P .leq t (.int k a) (.int k' b) J=(k=k'/\J (.bool (decide (a<=b)))):=(rfl)
theorem a2l(t:TypeId)(k k':IntKind)(a b:Int):fl P .gtr t (.int k a) (.int k' b) J=(k=k'/\J (.bool (decide (b<a)))):=(rfl)
theorem a0n(t:TypeId)(k k':IntKind)(a b:Int):fl P .geq t (.int k a) (.int k' b) J=(k=k'/\J (.bool (decide (b<=a)))):=(rfl)
theorem ax9(t:TypeId)(a b:Bool):fl P .eql t (.bool a) (.bool b) J=(P.underlying t=some .bool/\J (.bool (decide (a=b)))):=(rfl)
theorem ayk(t:TypeId)(a b:Bool):fl P .neq t (.bool a) (.bool b) J=(P.underlying t=some .bool/\J (.bool (decide (a≠b)))):=(rfl)
theorem axk(t:TypeId)(a b:List UInt8):fl P .eql t (.str a) (.str b) J=J (.bool (decide (a=b))):=(rfl)
theorem ayh(t:TypeId)(a b:List UInt8):fl P .neq t (.str a) (.str b) J=J (.bool (decide (a≠b))):=(rfl)
theorem aw6(t:TypeId)(a b:List UInt8):fl P .lss t (.str a) (.str b) J=J (.bool (Op.bytesLess a b)):=(rfl)
theorem awl(t:TypeId)(a b:List PV):fl P .eql t (.agg a) (.agg b) J=bv (lz P t) fun f=>match f with|some ks=>bv (w5 ks a b) (fun q=>match q with|some b=>J (.bool b)|none=>False)|none=>False:=by
 simp only[fl,bv]
 cases lz P t with
 |none=>rfl
 |some ks=>simp only;cases w5 ks a b<;>rfl
theorem axu(t:TypeId)(a b:List PV):fl P .neq t (.agg a) (.agg b) J=bv (lz P t) fun f=>match f with|some ks=>bv (w5 ks a b) (fun q=>match q with|some b=>J (.bool (!b))|none=>False)|none=>False:=by
 simp only[fl,bv]
 cases lz P t with
 |none=>rfl
 |some ks=>simp only;cases w5 ks a b<;>rfl
theorem amk(t:TypeId)(b:Bool):fl P .eql t (.sn b) .nils J=bv (br P t) fun e=>e.isSome=true/\J (.bool b):=(rfl)
theorem aon(t:TypeId)(xs:List (List PV)):fl P .eql t (.vs xs) .nils J=bv (br P t) fun e=>(e.isSome=true/\0<xs.length)/\J (.bool false):=(rfl)
theorem a7g(b:Bool):a2f .not (.bool b) J=J (.bool (!b)):=(rfl)
theorem a6r(k:IntKind)(n:Int):a2f .neg (.int k n) J=J (.int k (k.wrap (0 - n))):=(rfl)
theorem a7k(k:IntKind)(n:Int):a2f .xor (.int k n) J=J (.int k (bits .xor k (if k.signed then -1 else k.max) n)):=(rfl)
theorem a7c(k k':IntKind)(a b:Int):a4f false (.int k a) (.int k' b) K=K (.int k (if b<a then b else a)) [] []:=(rfl)
theorem a0k:loN none=some 0:=(rfl)
theorem a1y(k:IntKind)(n:Int):loN (some (.int k n))=some n:=(rfl)
theorem a2g(l:Nat):hiN l none=some (l:Int):=(rfl)
theorem a1g(l:Nat)(k:IntKind)(n:Int):hiN l (some (.int k n))=some n:=(rfl)
theorem a87(t:TypeId)(xs:List (List PV))(lo hi mx:Option PV):gi P t σ (.vs xs) lo hi mx K=bv (slT P t) fun s=>bv (loN lo) fun l=>bv (hiN xs.length hi) fun h=>bv (hiN xs.length mx) fun m=>match l,s,h,m with
  |some l,some (_,sz,_),some h,some m=>(0<=l/\l<=h/\h<=m/\m<=xs.length/\(mx.isSome=true->hi.isSome=true))/\(0<l->∀x∈xs,x.length=sz)/\K (.vs ((xs.take h.toNat).drop l.toNat)) [] []
  |_,_,_,_=>False:=by
 simp only[gi,bv];rcases loN lo with _|l<;>(try rfl)<;>rcases slT P t with _|⟨e,sz,b⟩<;>(try rfl)<;>rcases hiN xs.length hi with _|h<;>(try rfl)<;>rcases hiN xs.length mx with _|m<;>rfl
theorem a9g(t:TypeId)(n k:Nat)(lo hi mx:Option PV):gi P t σ (.os n k) lo hi mx K=bv (ah σ n) fun B=>match B with
  |some (.arr _ asz _ xs)=>bv (slT P t) fun s=>bv (loN lo) fun l=>bv (hiN xs.length hi) fun h=>bv (hiN xs.length mx) fun m=>match l,s,h,m with
   |some l,some (_,sz,_),some h,some m=>(asz=sz/\k=xs.length/\0<=l/\l<=h/\h<=m/\m<=xs.length/\(mx.isSome=true->hi.isSome=true))/\K (.vs ((xs.take h.toNat).drop l.toNat)) (dj σ [n]) [n]
   |_,_,_,_=>False
  |_=>False:=by
 simp only[gi,bv];rcases loN lo with _|l
 ·rcases ah σ n with _|B
  ·rfl
  ·cases B<;>rfl
 ·rcases ah σ n with _|B
  ·rfl
  ·cases B with
   |cells cs=>rfl
   |arh e sz xs=>rfl
   |mp es=>rfl
   |it m k d=>rfl
   |si l p=>rfl
   |arq e sz k xs=>rfl
   |dead sz l=>rfl
   |arr e asz sh xs=>simp only;rcases slT P t with _|⟨e,sz,b⟩<;>(try rfl)<;>rcases hiN xs.length hi with _|h<;>(try rfl)<;>rcases hiN xs.length mx with _|m<;>rfl
theorem a5y(t:TypeId)(xs:List (List PV))(lo hi:Option PV):iw P t σ (.vs xs) lo hi none K=gi P t σ (.vs xs) lo hi none K:=(rfl)
theorem a5c(t:TypeId)(xs:List (List PV))(k1 k2:IntKind)(i j:Int):iw P t σ (.vs xs) none (some (.int k1 i)) (some (.int k2 j)) K=bv (slT P t) fun s=>match s with
  |some _=>(i=j/\0<=i/\i<=xs.length)/\kk K (.vx (xs.take i.toNat)) [] []
  |none=>False:=by
 simp only[iw,a1w,bv,kk];rcases slT P t with _|⟨e,sz,b⟩<;>rfl
def a85(P:Program)(t:TypeId)(σ:ASt)(n k:Nat)(lo hi mx:Option PV)(K:KT):Option Box->Prop
 |some (.arh e asz xs)=>bv (ah σ (900000+n)) fun hint=>match hint with
  |none=>aet P t σ n k e asz xs lo hi mx K
  |some _=>amz P t n k asz xs lo hi K
 |_=>gi P t σ (.os n k) lo hi mx K
theorem a6i(t:TypeId)(n k:Nat)(lo hi:Option PV):iw P t σ (.os n k) lo hi none K=bv (ah σ n) (a85 P t σ n k lo hi none K):=by
 simp only[iw,bv];rcases ah σ n with _|B
 ·rfl
 ·cases B<;>rfl
theorem azc(t:TypeId)(n k:Nat)(lo hi mx:Option PV)(e sz:Nat)(sh:Bool)(xs:List (List PV)):a85 P t σ n k lo hi mx K (some (.arr e sz sh xs))=gi P t σ (.os n k) lo hi mx K:=(rfl)
theorem ay0(t:TypeId)(n k:Nat)(lo hi mx:Option PV)(e sz:Nat)(xs:List (List PV)):a85 P t σ n k lo hi mx K (some (.arh e sz xs))=bv (ah σ (900000+n)) fun hint=>match hint with
  |none=>aet P t σ n k e sz xs lo hi mx K
  |some _=>amz P t n k sz xs lo hi K:=(rfl)
theorem a6s(t:TypeId)(n k asz:Nat)(xs:List (List PV))(kd:IntKind)(i:Int):amz P t n k asz xs (some (.int kd i)) none K=bv (slT P t) fun s=>match s with
  |some (_,sz,_)=>(asz=sz/\k=xs.length/\0<=i/\i<k)/\kk K (.oss n k i.toNat (k - i.toNat)) [] [n]
  |none=>False:=by
 simp only[amz,bv,kk];rcases slT P t with _|⟨e,sz,b⟩<;>rfl
attribute [go_sem ↓] a6s
theorem a4n(t:TypeId)(n k e asz:Nat)(xs:List (List PV))(kd:IntKind)(i:Int):aet P t σ n k e asz xs (some (.int kd i)) none none K=bv (slT P t) fun s=>match s with
  |some (_,sz,_)=>(asz=sz/\k=xs.length/\0<=i/\i<k)/\kk K (.osl n k i.toNat) [] [n]
  |none=>False:=by
 simp only[aet,bv,kk];rcases slT P t with _|⟨e,sz,b⟩<;>first|rfl|simp only[and_assoc]
theorem a61(t:TypeId)(n k e asz:Nat)(xs:List (List PV))(kd:IntKind)(i:Int):aet P t σ n k e asz xs none (some (.int kd i)) none K=bv (slT P t) fun s=>match s with
  |some (_,sz,_)=>(asz=sz/\k=xs.length/\0<=i/\i<=k)/\lm σ xs=some (xs,[])/\kk K (.vs (xs.take i.toNat)) [(n,.arr e asz true xs)] [n]
  |none=>False:=by
 simp only[aet,bv,kk];rcases slT P t with _|⟨e,sz,b⟩<;>rfl
theorem asp(t:TypeId)(n k i:Nat):am8 P t σ (.osl n k i) K=bv (slT P t) fun s=>bv (ah σ n) fun B=>match s,B with
  |some (e',sz,_),some (.arh e asz xs)=>bv (bk P e') fun z=>match z with
   |some zs=>(asz=sz/\k=xs.length/\i<k/\zs.all eh=true)/\K (.tup []) [(n,.arh e asz (xs.take i++List.replicate (k - i) (zs.map agc)))] [n]
   |none=>False
  |_,_=>False:=by
 simp only[am8,bv];rcases slT P t with _|⟨e,sz,b⟩<;>(try rfl)<;>rcases ah σ n with _|B<;>(try rfl)<;>cases B<;>(try rfl)
 all_goals (simp only;rcases bk P e with _|z<;>rfl)
theorem am0:dj σ []=[]:=(rfl)
theorem ai1(n:Nat)(r:List Nat):dj σ (n::r)=(n,((ah σ n).getD (.cells [])).share)::dj σ r:=(rfl)
theorem aqz(e sz:Nat)(sh:Bool)(xs:List (List PV)):Box.share (.arr e sz sh xs)= .arr e sz true xs:=(rfl)
theorem a2z(t:TypeId)(d:Nat)(k1 k2:IntKind)(l c:Int):r9 P t (some d) σ (.int k1 l) (.int k2 c) K=bv (slT P t) fun s=>match s with
  |some (e,sz,bytes)=>bv (bk P e) fun z=>match z with
   |some zs=>(zs.all eh=true/\0<=l/\l<=c/\(bytes:Int)*c<=140737488355328/\c<=140737488355328/\ah σ d=none)/\K (.os d l.toNat) [(d,.arr e sz false (List.replicate l.toNat (zs.map agc)))] [d]
   |none=>False
  |none=>False:=by
 simp only[r9,bv];rcases slT P t with _|⟨e,sz,b⟩
 ·rfl
 ·simp only;rcases bk P e with _|z<;>rfl
theorem axx(t tx:TypeId)(d:Option Nat)(u v:PV):ki P t tx d σ u v K=bv (slT P t) fun s=>match s with
  |some (e,sz,bytes)=>t7 P tx sz σ v (vz e sz bytes d σ u K)
  |none=>False:=by
 simp only[ki,bv];rcases slT P t with _|⟨e,sz,b⟩<;>rfl
theorem a14(t tx:TypeId)(d:Option Nat)(n k m j:Nat):nv P t tx d σ (.os n k) (.os m j) K=bv (ah σ m) (ar8 P t tx d σ n k m j K):=(rfl)
theorem atg(t tx:TypeId)(d:Option Nat)(n k:Nat)(ys:List (List PV)):nv P t tx d σ (.os n k) (.vs ys) K=ki P t tx d σ (.os n k) (.vs ys) K:=(rfl)
theorem atp(t tx:TypeId)(d:Option Nat)(n k:Nat)(b:Bool):nv P t tx d σ (.os n k) (.sn b) K=ki P t tx d σ (.os n k) (.sn b) K:=(rfl)
theorem amv(t tx:TypeId)(d:Option Nat)(n k:Nat)(l:List UInt8):nv P t tx d σ (.os n k) (.str l) K=ki P t tx d σ (.os n k) (.str l) K:=(rfl)
theorem avh(t tx:TypeId)(d:Option Nat)(n k m j e sz:Nat)(sh:Bool)(ys:List (List PV)):ar8 P t tx d σ n k m j K (some (.arr e sz sh ys))=ki P t tx d σ (.os n k) (.os m j) K:=(rfl)
theorem ay7(t tx:TypeId)(d:Option Nat)(n k m j e0 s0:Nat)(ys:List (List PV)):ar8 P t tx d σ n k m j K (some (.arh e0 s0 ys))=bv (slT P t) fun s=>bv (ah σ n) fun B=>bv (ay P tx) fun q=>bv (ah σ m) fun M=>match s,B with
  |some (e,sz,bytes),some (.arh e' sz' xs)=>match q,M with
   |true,some (.arh _ sz2 _)=>(e'=e/\sz'=sz/\sz2=sz/\k=xs.length/\j=ys.length/\(xs.length+ys.length)*bytes<=140737488355328)/\K (.os n (k+ys.length)) [(n,.arh e sz (xs++ys))] [n,m]
   |_,_=>False
  |_,_=>False:=(rfl)
theorem aup(t tx:TypeId)(d:Option Nat)(v:PV):nv P t tx d σ .nils v K=ki P t tx d σ .nils v K:=(rfl)
theorem a2i(t tx:TypeId)(d:Option Nat)(xs:List (List PV))(v:PV):nv P t tx d σ (.vx xs) v K=ki P t tx d σ (.vx xs) v K:=(rfl)
attribute [go_sem ↓] a14 atg atp amv avh ay7 aup a2i
attribute [go_sem] Box.arq.injEq PV.oq.injEq
variable (k:List (List PV)->List Nat->Prop)
theorem a08(tx sz:Nat)(ys:List (List PV)):t7 P tx sz σ (.vs ys) k=bv (ay P tx) fun q=>(q=true/\∀y∈ys,y.length=sz)/\k ys []:=(rfl)
theorem a6z(tx sz:Nat)(b:Bool):t7 P tx sz σ (.sn b) k=bv (ay P tx) fun q=>q=true/\k [] []:=(rfl)
theorem a5r(tx sz:Nat)(m n:Nat):t7 P tx sz σ (.os m n) k=bv (ah σ m) fun B=>bv (ay P tx) fun q=>match B with
  |some (.arr _ sz' _ ys)=>(q=true/\n=ys.length/\sz'=sz)/\k ys [m]
  |_=>False:=by
 simp only[t7,bv];rcases ah σ m with _|B<;>(try rfl)<;>cases B<;>rfl
theorem a03(tx sz:Nat)(l:List UInt8):t7 P tx sz σ (.str l) k=bv (fx P tx) fun q=>(q=true/\sz=1)/\k (bo l) []:=(rfl)
theorem a7j(e sz bytes:Nat)(d:Option Nat)(n m:Nat)(ys:List (List PV))(F:List Nat):vz e sz bytes d σ (.os n m) K ys F=bv (ah σ n) fun B=>match B with
  |some (.arr e' sz' sh xs)=>(e'=e/\sz'=sz/\m=xs.length/\(xs.length+ys.length)*bytes<=140737488355328)/\K (.os n (m+ys.length)) [(n,.arr e sz sh (xs++ys))] (n::F)
  |some (.arh e' sz' xs)=>(e'=e/\sz'=sz/\m=xs.length/\(xs.length+ys.length)*bytes<=140737488355328)/\K (.os n (m+ys.length)) [(n,.arh e sz (xs++ys))] (n::F)
  |_=>False:=by
 simp only[vz,bv];rcases ah σ n with _|B<;>(try rfl)<;>cases B<;>rfl
theorem awh(e sz bytes d:Nat)(ys:List (List PV))(F:List Nat):vz e sz bytes (some d) σ .nils K ys F=((ah σ d=none/\ys.length*bytes<=140737488355328)/\K (.os d ys.length) [(d,.arr e sz false ys)] (d::F)):=(rfl)
theorem a62(e sz bytes d:Nat)(xs ys:List (List PV))(F:List Nat):vz e sz bytes (some d) σ (.vx xs) K ys F=((ah σ d=none/\(∀x∈xs,x.length=sz)/\(xs.length+ys.length)*bytes<=140737488355328)/\(ys=[]->K (.vs xs) [] F)/\(0<ys.length->K (.os d (xs.length+ys.length)) [(d,.arr e sz false (xs++ys))] (d::F))):=(rfl)
theorem a1r(t len:Nat)(parts:List (Nat×PV))(d:Nat):ij P t len parts (some d) σ K=bv (slT P t) fun s=>match s with
  |some (e,sz,_)=>bv (ah σ (900000+d)) fun hint=>match hint with
   |none=>bv (oc σ sz 0 parts) fun r=>match r with
    |some (xs,ns)=>(ah σ d=none/\len=parts.length/\len*sz<=16777216)/\kk K (.os d xs.length) (dj σ ns++[(d,.arr e sz false xs)]) (d::ns)
    |none=>False
   |some (.dead 2 _)=>bv (ue sz 0 parts) fun r=>match r with
    |some xs=>(ah σ d=none/\len=parts.length/\len*sz<=16777216)/\kk K (.os d xs.length) [(d,.arh e sz xs)] [d]
    |none=>False
   |some _=>bv (oe σ sz 0 parts) fun r=>match r with
    |some (xs,ns)=>(ah σ d=none/\len=parts.length/\len*sz<=16777216)/\kk K (.os d xs.length) (dj σ ns++[(d,.arr e sz false xs)]) (d::ns)
    |none=>False
  |none=>False:=by
 simp only[ij,bv,kk];rcases slT P t with _|⟨e,sz,b⟩
 ·rfl
 ·simp only;rcases ah σ (900000+d)with _|B
  ·simp only;rcases oc σ sz 0 parts with _|⟨xs,ns⟩<;>simp only[and_assoc]
  ·(try simp only)
   split
   ·rename_i h;cases h
   ·rename_i h;cases h;rcases ue sz 0 parts with _|xs<;>simp only[and_assoc]
   ·rename_i B' h1 h2
    cases h2
    rcases oe σ sz 0 parts with _|⟨xs,ns⟩<;>simp only[and_assoc]
end
section
variable (P:Program) (σ:ASt) (K:KT) {α:Type} [Inhabited α] (f:α->List PV) (l:List α)
theorem kc{i:Nat}(h:i<l.length):db (l.map f) i=f (el l i):=pu f l i h
theorem au7(t:TypeId)(kd:IntKind)(i:Int):cg P t σ (.vs (l.map f)) (.int kd i) K=bv (slT P t) fun s=>match s with
  |some (_,sz,_)=>(0<=i/\i<l.length)/\bv (f (el l i.toNat)) fun c=>c.length=sz/\kk K (.el c) [] []
  |none=>False:=by
 rw[ai5];simp only[bv];rcases slT P t with _|⟨e,sz,b⟩
 ·rfl
 ·simp only[List.length_map];refine propext (and_congr_right fun h=> ?_);rw[kc f l (by omega)]
theorem aqd(n k i off e sz:Nat)(sh:Bool):ar3 n k i off K (some none) (some (.arr e sz sh (l.map f)))=((k=l.length/\i<k)/\bv (f (el l i)) fun c=>off<c.length/\kk K (fc c off) [] [n]):=by
 simp only[ar3,bv,List.length_map,and_assoc];refine propext (and_congr_right fun h1=>and_congr_right fun h2=> ?_);rw[kc f l (by omega)]
theorem auz(n k i off m e sz:Nat)(sh:Bool):ar3 n k i off K (some (some m)) (some (.arr e sz sh (l.map f)))=((k=l.length/\i<k)/\bv (f (el l i)) fun c=>off+m<=c.length/\kk K (.agg ((c.drop off).take m)) [] [n]):=by
 simp only[ar3,bv,List.length_map,and_assoc];refine propext (and_congr_right fun h1=>and_congr_right fun h2=> ?_);rw[kc f l (by omega)]
end
theorem a2u(P:Program)(σ:ASt){α:Type}(f:α->List PV)(l:List α)(tx sz:Nat)(k:List (List PV)->List Nat->Prop):t7 P tx sz σ (.vs (l.map f)) k=bv (ay P tx) fun q=>(q=true/\∀y∈l,(f y).length=sz)/\k (l.map f) []:=by
 simp only[t7,bv,List.forall_mem_map]
def u8(b:UInt8):List PV:=[.int .u8 b.toNat]
theorem a8t(b:UInt8):u8 b=[.int .u8 b.toNat]:=(rfl)
theorem anl(l:List UInt8):bo l=l.map u8:=(rfl)
section
variable (P:Program) (N:Nat) (Q:o8) (fr:AFr) (σ:ASt)
theorem a1d:wv P N .skip Q fr σ=Q .normal fr σ:=(rfl)
theorem a3a(id:Nat):wv P N (.exit id) Q fr σ=Q (.exit id) fr σ:=(rfl)
theorem a52:wv P N .ret Q fr σ=Q .ret fr σ:=(rfl)
theorem a7o(a b:Code):wv P N (.seq a b) Q fr σ=wv P N a (ru (wv P N b Q) Q) fr σ:=(rfl)
theorem ayf(id:Nat)(c:Code):wv P N (.block id c) Q fr σ=wv P N c (zw id Q) fr σ:=(rfl)
def a0w(a b:Code):PV->Prop
 | .bool t=>(t=true->wv P N a Q fr σ)/\(t=false->wv P N b Q fr σ)
 |_=>False
theorem a3l(c:Operand)(a b:Code):wv P N (.cond c a b) Q fr σ=bv (ev fr c) (a0w P N Q fr σ a b):=by
 simp only[wv,bv]
 cases ev fr c<;>rfl
theorem yx(a b:Code)(t:Bool):a0w P N Q fr σ a b (.bool t)=((t=true->wv P N a Q fr σ)/\(t=false->wv P N b Q fr σ)):=(rfl)
theorem asf(id:Nat)(l:List Oper):wv P N (.region id l.toArray false) Q fr σ=lw P l.toArray l fr σ (Q .normal):=(rfl)
def okD(ops:List Oper)(g:Log):Prop:=ad9 ops.toArray g.reverse=true
theorem an9(id:Nat)(l:List Oper):wv P N (.region id l.toArray true) Q fr σ=evD P l.toArray l fr σ [] fun fr' σ' g=>okD l g/\Q .normal fr' σ':=(rfl)
variable (K:AFr->ASt->Prop)
theorem aen:ru K Q .normal fr σ=K fr σ:=(rfl)
theorem an2(id:Nat):ru K Q (.exit id) fr σ=Q (.exit id) fr σ:=(rfl)
theorem aqr:ru K Q .ret fr σ=Q .ret fr σ:=(rfl)
theorem aco(id:Nat):zw id Q .normal fr σ=Q .normal fr σ:=(rfl)
theorem aod(id:Nat):zw id Q .ret fr σ=Q .ret fr σ:=(rfl)
theorem aih(id id':Nat):zw id Q (.exit id') fr σ=if id'=id then Q .normal fr σ else Q (.exit id') fr σ:=(rfl)
variable (rs:List ResultVar) (ns exts:List Nat) (r:PV) (nb ext':List Box)
theorem aia:a6o P rs ns exts r nb ext' .normal fr σ=avc P rs ns exts r nb ext' fr σ:=(rfl)
theorem azg:a6o P rs ns exts r nb ext' .ret fr σ=avc P rs ns exts r nb ext' fr σ:=(rfl)
theorem a2w:avc P rs ns exts r nb ext' fr σ=bv (ahq P fr σ rs) fun us=>bv (ug σ ns) fun a=>bv (ug σ exts) fun b=>match us with
  |some us=>bv (o5 σ ns exts us) fun c=>match a,b,c with
   |some (nb0,b1),some (e0,b2),some (us',b3)=>pq ns exts (b1++(b2++b3))=true/\nb0=nb/\e0=ext'/\afi us'=r
   |_,_,_=>False
  |none=>False:=by
 simp only[avc,bv];rcases ahq P fr σ rs with _|us
 ·rfl
 ·simp only;rcases ug σ ns with _|⟨nb0,b1⟩<;>(try rfl)<;>rcases ug σ exts with _|⟨e0,b2⟩<;>(try rfl)<;>rcases o5 σ ns exts us with _|⟨us',b3⟩<;>rfl
end
attribute [congr] avi
theorem aha{a0}:em (.move a0)=false:=(rfl)
theorem abj{a0}:em (.assign a0)=false:=(rfl)
theorem ag4{a0}{a1}{a2}:em (.pick a0 a1 a2)=false:=(rfl)
theorem adl{a0}:em (.alloc a0)=false:=(rfl)
theorem aep{a0}{a1}:em (.build a0 a1)=false:=(rfl)
theorem rc{a0}{a1}{a2}:em (.buildSlice a0 a1 a2)=false:=(rfl)
theorem aio{a0}{a1}:em (.load a0 a1)=false:=(rfl)
theorem aec{a0}{a1}{a2}:em (.store a0 a1 a2)=false:=(rfl)
theorem xz{a0}:em (.nilCheck a0)=false:=(rfl)
theorem adj{a0}{a1}{a2}{a3}{a4}:em (.binOp a0 a1 a2 a3 a4)=false:=(rfl)
theorem ahh{a0}{a1}{a2}:em (.unOp a0 a1 a2)=false:=(rfl)
theorem yc{a0}{a1}{a2}:em (.convert a0 a1 a2)=false:=(rfl)
theorem ad2{a0}{a1}{a2}{a3}{a4}:em (.slice a0 a1 a2 a3 a4)=false:=(rfl)
theorem ub{a0}{a1}{a2}:em (.fieldAddr a0 a1 a2)=false:=(rfl)
theorem tz{a0}{a1}{a2}:em (.indexAddr a0 a1 a2)=false:=(rfl)
theorem afe{a0}{a1}{a2}:em (.index a0 a1 a2)=false:=(rfl)
theorem ye{a0}{a1}:em (.extract a0 a1)=false:=(rfl)
theorem aid{a0}:em (.call a0)=false:=(rfl)
attribute [go_sem] a0x aha abj ag4 adl aep rc aio aec xz adj ahh yc ad2 ub tz afe ye aid
attribute [go_sem ↓] ap2 anv au5 aub at0 a5v aq8 aou atl aus anb asm ayv ab0 ayl a2y aie aqw
attribute [go_sem] a1f akj mc ue oe k8 ao1 lm az9 azv ra a4p Box.arh.injEq Box.mp.injEq Box.it.injEq PV.mh.injEq
attribute [go_sem ↓] a9h
attribute [go_sem ↓] a86 azd apb a41 avn a4a atb axz aw2 at4 awy atx
attribute [go_sem ↓] ahd ad5 afx arb an3 an5 ahz a2s af7 aal ace a04 axn ayw aa9 azh
attribute [go_sem ↓] awi ai9
attribute [go_sem ↓ 1100] awp
attribute [go_sem ↓ 1100] aqd auz au7 a2u
theorem a0h(d e:Nat)(l:List UInt8)(K:KT):a9s d e l K=kk K (.os d l.length) [(d,.arr e 1 false (l.map u8))] [d]:=(rfl)
attribute [go_sem] a8t anl a0h
attribute [go_sem ↓] ait an8 aix
attribute [go_sem] al3 am6 aoi aoa a8p aq2 awn aya ate aqp ama ami
attribute [go_sem ↓] apx axp aos aze zp ac7 ayt agv ayr asv a1p as4 yj avp auv aaz abe aq7 apo av7 aiq apd aao ads av4 a3d ams a1z
attribute [go_sem ↓] amr asy am4 ww aiy ah8 amn ahv ai5 azi au1 ah7 ah6 aru avj awm amb asi
attribute [go_sem ↓] a1s a0z a0y a0m a3y a0v a0i a1l a57 a3h a27 a3w a09 a0f a2l a0n ax9 ayk axk ayh aw6 awl axu a7g a6r a7k a7c
attribute [go_sem ↓] amk aon a6z
attribute [go_sem ↓] a5y a6i a5c azc ay0 a4n a61 asp arf asr as9 a87 a9g a2z axx a08 a62 a5r a03 a7j awh a1r
attribute [go_sem] a0k a1y a2g a1g am0 ai1 aqz ayx atr aw0 atj
attribute [go_sem ↓] a1d a3a a52 a7o ayf a3l yx asf an9 aen an2 aqr aco aod aih aia azg a2w
theorem a3z(σ:ASt)(fr:AFr):wkF σ fr []=True:=(rfl)
theorem avf(σ:ASt)(fr:AFr)(s:Nat)(u:PV)(r:AFr):wkF σ fr ((s,u)::r)=(bv (look fr s) (fun v=>bv u fun u=>wkU σ v u)/\wkF σ fr r):=(rfl)
theorem a1a(fr:AFr):wkN fr []=[]:=(rfl)
theorem axf(fr:AFr)(s:Nat)(u:PV)(r:AFr):wkN fr ((s,u)::r)=a4k (look fr s) u++wkN fr r:=(rfl)
theorem a0u(σ:ASt):wkS σ []=True:=(rfl)
theorem azf(σ:ASt)(n:Nat)(B:Box)(r:ASt):wkS σ ((n,B)::r)=(bv (ah σ n) (fun v=>v=some B)/\wkS σ r):=(rfl)
theorem a8g(fr:AFr)(σ:ASt)(fr':AFr)(σ':ASt):wk fr σ fr' σ'=(wkF σ fr fr'/\wkS σ σ'/\ak4 (σ'.map (·.1)) (wkN fr fr')=true/\az1 (σ'.map (·.1)) fr'=true/\x7 (σ'.map (·.1)) σ'=true/\a4g (σ'.map (·.1)) σ=true):=(rfl)
theorem loop{P:Program}(hm:P.follows .mixedOrders=true){N:Nat}{c:Code}{Q:o8}{fr:AFr}{σ:ASt}{ι:Type}(i0:ι)(fs:ι->AFr)(ss:ι->ASt)(I:ι->Prop)(μ:ι->Nat)(hc:fb N c=true)(hI:I i0)(hw:wk fr σ (fs i0) (ss i0))
  (round: ∀i,I i->wv P N c (ru (fun fr' σ'=> ∃j,(I j/\μ j<μ i)/\wk fr' σ' (fs j) (ss j)) Q) (fs i) (ss i)):wv P N (.loop c) Q fr σ:=
 a7l hm hc fs ss I μ i0 hI hw round
theorem a4v{P:Program}(hm:P.follows .mixedOrders=true){N:Nat}{c:Code}{Q:o8}{fr:AFr}{σ:ASt}{ι:Type}(i0:ι)(fs:ι->AFr)(ss:ι->ASt)(I:ι->Prop)(μ:ι->Nat)(hc:fb N c=true)(l0:List (Nat×Nat))(hI:I i0)(hw:wkR l0 fr σ (fs i0) (ss i0))
  (round: ∀i,I i->wv P N c (ru (fun fr' σ'=> ∃j l,(I j/\μ j<μ i)/\wkR l fr' σ' (fs j) (ss j)) Q) (fs i) (ss i)):wv P N (.loop c) Q fr σ:=
 a1h hm hc fs ss I μ i0 hI l0 hw round
theorem a68(l:List (Nat×Nat))(fr:AFr)(σ:ASt)(fr':AFr)(σ':ASt):wkR l fr σ fr' σ'=(azn l fr σ/\bv (ar7 l fr σ) fun p=>wk p.1 p.2 fr' σ'):=(rfl)
theorem awd(fr:AFr)(σ:ASt):azn [] fr σ=True:=(rfl)
theorem ass(n m:Nat)(r:List (Nat×Nat))(fr:AFr)(σ:ASt):azn ((n,m)::r) fr σ=((bv (ah σ m) (fun B=>B=none)/\n<1000000/\m<1000000/\n≠m)/\bv (avd n m fr) fun fr=>bv (yf n m σ) fun σ=>azn r fr σ):=(rfl)
theorem ay6(fr:AFr)(σ:ASt):ar7 [] fr σ=(fr,σ):=(rfl)
theorem aqo(n m:Nat)(r:List (Nat×Nat))(fr:AFr)(σ:ASt):ar7 ((n,m)::r) fr σ=ar7 r (avd n m fr) (yf n m σ):=(rfl)
attribute [go_sem ↓] a68 awd ass
attribute [go_sem] ay6 aqo avd yf renV lf ju rn
attribute [go_sem ↓] a1a a3z avf a0u azf a8g
attribute [go_sem] axf wkU a4k ak4 az1 x7 a4g as3 acw
attribute [go_sem] decide_true decide_false decide_eq_true_eq decide_eq_false_iff_not Bool.not_eq_true' Bool.not_eq_false' Bool.not_true Bool.not_false true_and and_true false_and and_false forall_const implies_true not_true_eq_false not_false_eq_true eq_self ne_eq
attribute [go_sem] Bool.true_and Bool.and_true Bool.false_and Bool.and_false Bool.true_or Bool.or_true Bool.false_or Bool.or_false Bool.and_eq_true Bool.or_eq_true Bool.not_eq_true Bool.true_eq_false Bool.false_eq_true
attribute [go_sem] List.length_map List.length_cons List.length_nil List.length_append List.length_replicate List.map_cons List.map_nil List.append_nil List.nil_append List.cons_append List.toList_toArray List.all_nil List.all_cons
attribute [go_sem] List.take_zero List.take_succ_cons List.take_nil List.drop_zero List.drop_succ_cons List.drop_nil Option.map_some Option.map_none Option.getD_some Option.isSome_some Option.isSome_none
theorem a4x{α:Type}(f:α->List PV)(l:List α)(n:Nat):(l.map f).take n=(l.take n).map f:=List.map_take.symm
theorem a7p{α:Type}(f:α->List PV)(l:List α)(n:Nat):(l.map f).drop n=(l.drop n).map f:=List.map_drop.symm
theorem all_map{α:Type}(f:α->List PV)(l:List α)(p:List PV->Prop):(∀x∈l.map f,p x)= ∀x∈l,p (f x):=by simp
attribute [go_sem] a4x a7p
attribute [go_sem ↓] all_map
theorem a5z(n:Nat):((no_index (OfNat.ofNat n):Nat):Int)=OfNat.ofNat n:=(rfl)
attribute [go_sem] a5z Int.toNat_natCast Int.toNat_zero Int.ofNat_lt Int.ofNat_le Int.natCast_nonneg Int.ofNat_eq_natCast Int.zero_le_ofNat
attribute [go_sem] PV.int.injEq PV.bool.injEq PV.vs.injEq PV.str.injEq PV.os.injEq PV.tup.injEq PV.agg.injEq PV.ptr.injEq PV.el.injEq PV.fn.injEq Box.arr.injEq Box.cells.injEq Option.some.injEq Prod.mk.injEq List.cons.injEq
attribute [go_sem] List.not_mem_nil List.mem_cons List.contains_nil List.contains_cons or_false false_or not_or Nat.not_lt_zero Nat.zero_add Nat.add_zero
attribute [go_sem] dl pur gr oc a4q ahq air ug axd o5 a4i ahs afi nc eqC w5 rk qg eh
end Go.Proofs.Am
