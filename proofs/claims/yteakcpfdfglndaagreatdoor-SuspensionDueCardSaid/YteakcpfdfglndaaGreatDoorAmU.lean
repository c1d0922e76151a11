/- AmU. -/
import Derived.Test.YteakcpfdfglndaaGreatDoorAmS
set_option linter.unusedSimpArgs false
set_option linter.unusedVariables false
namespace Go.Proofs.Am
open Go Go.RowKit
variable {P:Program}
section
variable (P:Program) (σ:ASt) (K:KT) (J:PV→Prop)
theorem a4e(t:TypeId)(k k':IntKind)(a b:Int):fw P .add t (.int k a) (.int k' b) J=(k=k'∧J (.int k (k.wrap (a+b)))):=(rfl)
theorem a47(t:TypeId)(k k':IntKind)(a b:Int):fw P .sub t (.int k a) (.int k' b) J=(k=k'∧J (.int k (k.wrap (a - b)))):=(rfl)
theorem a5u(t:TypeId)(k k':IntKind)(a b:Int):fw P .mul t (.int k a) (.int k' b) J=(k=k'∧J (.int k (k.wrap (a*b)))):=(rfl)
theorem a27(t:TypeId)(k k':IntKind)(a b:Int):fw P .quo t (.int k a) (.int k' b) J=(k=k'∧b≠0∧J (.int k (k.wrap (a.tdiv b)))):=(rfl)
theorem a60(t:TypeId)(k k':IntKind)(a b:Int):fw P .rem t (.int k a) (.int k' b) J=(k=k'∧b≠0∧J (.int k (a.tmod b))):=(rfl)
theorem a3l(t:TypeId)(k k':IntKind)(a b:Int):fw P .shl t (.int k a) (.int k' b) J=(0≤b∧J (.int k (k.wrap (a*2^min b.toNat k.bits)))):=(rfl)
theorem a6c(t:TypeId)(k k':IntKind)(a b:Int):fw P .shr t (.int k a) (.int k' b) J=(0≤b∧J (.int k (a.fdiv (2^min b.toNat k.bits)))):=(rfl)
theorem a31(t:TypeId)(k k':IntKind)(a b:Int):fw P .and t (.int k a) (.int k' b) J=(k=k'∧J (.int k (bits .and k a b))):=(rfl)
theorem a8t(t:TypeId)(k k':IntKind)(a b:Int):fw P .or t (.int k a) (.int k' b) J=(k=k'∧J (.int k (bits .or k a b))):=(rfl)
theorem a23(t:TypeId)(k k':IntKind)(a b:Int):fw P .xor t (.int k a) (.int k' b) J=(k=k'∧J (.int k (bits .xor k a b))):=(rfl)
theorem a5k(t:TypeId)(k k':IntKind)(a b:Int):fw P .eql t (.int k a) (.int k' b) J=(k=k'∧J (.bool (decide (a=b)))):=(rfl)
theorem a3n(t:TypeId)(k k':IntKind)(a b:Int):fw P .neq t (.int k a) (.int k' b) J=(k=k'∧J (.bool (decide (a≠b)))):=(rfl)
theorem a3b(t:TypeId)(k k':IntKind)(a b:Int):fw P .lss t (.int k a) (.int k' b) J=(k=k'∧J (.bool (decide (a<b)))):=(rfl)
theorem a4k(t:TypeId)(k k':IntKind)(a b:Int):fw P .leq t (.int k a) (.int k' b) J=(k=k'∧J (.bool (decide (a≤b)))):=(rfl)
theorem a5f(t:TypeId)(k k':IntKind)(a b:Int):fw P .gtr t (.int k a) (.int k' b) J=(k=k'∧J (.bool (decide (b<a)))):=(rfl)
theorem a4s(t:TypeId)(k k':IntKind)(a b:Int):fw P .geq t (.int k a) (.int k' b) J=(k=k'∧J (.bool (decide (b≤a)))):=(rfl)
theorem a1p(t:TypeId)(a b:Bool):fw P .eql t (.bool a) (.bool b) J=(P.underlying t=some .bool∧J (.bool (decide (a=b)))):=(rfl)
theorem a0y(t:TypeId)(a b:List UInt8):fw P .eql t (.str a) (.str b) J=J (.bool (decide (a=b))):=(rfl)
theorem a02(t:TypeId)(a b:List UInt8):fw P .neq t (.str a) (.str b) J=J (.bool (decide (a≠b))):=(rfl)
theorem ayb(t:TypeId)(a b:List UInt8):fw P .lss t (.str a) (.str b) J=J (.bool (Op.bytesLess a b)):=(rfl)
theorem a0x(t:TypeId)(a b:List UInt8):fw P .geq t (.str a) (.str b) J=J (.bool (!Op.bytesLess a b)):=(rfl)
theorem ax4(t:TypeId)(a b:List PV):fw P .eql t (.agg a) (.agg b) J=bv (n8 P t) fun f=>match f with|some ks=>bv (ut ks a b) (fun q=>match q with|some b=>J (.bool b)|none=>False)|none=>False:=by
 simp only[fw,bv]
 cases n8 P t with
 |none=>rfl
 |some ks=>simp only;cases ut ks a b<;>rfl
theorem azx(t:TypeId)(a b:List PV):fw P .neq t (.agg a) (.agg b) J=bv (n8 P t) fun f=>match f with|some ks=>bv (ut ks a b) (fun q=>match q with|some b=>J (.bool (!b))|none=>False)|none=>False:=by
 simp only[fw,bv]
 cases n8 P t with
 |none=>rfl
 |some ks=>simp only;cases ut ks a b<;>rfl
theorem an5(t:TypeId)(b:Bool):fw P .eql t (.sn b) .nils J=bv (bx P t) fun e=>e.isSome=true∧J (.bool b):=(rfl)
theorem ao2(t:TypeId)(xs:List (List PV)):fw P .eql t (.vs xs) .nils J=bv (bx P t) fun e=>(e.isSome=true∧0<xs.length)∧J (.bool false):=(rfl)
theorem a8x(b:Bool):a5i .not (.bool b) J=J (.bool (!b)):=(rfl)
theorem a8r(k:IntKind)(n:Int):a5i .neg (.int k n) J=J (.int k (k.wrap (0 - n))):=(rfl)
theorem a7k(k:IntKind)(n:Int):a5i .xor (.int k n) J=J (.int k (bits .xor k (if k.signed then -1 else k.max) n)):=(rfl)
theorem a8b(k k':IntKind)(a b:Int):a7a false (.int k a) (.int k' b) K=K (.int k (if b<a then b else a)) [] []:=(rfl)
theorem a6y:loN none=some 0:=(rfl)
theorem a3h(k:IntKind)(n:Int):loN (some (.int k n))=some n:=(rfl)
theorem a56(l:Nat):hiN l none=some (l:Int):=(rfl)
theorem a29(l:Nat)(k:IntKind)(n:Int):hiN l (some (.int k n))=some n:=(rfl)
theorem ba7(t:TypeId)(xs:List (List PV))(lo hi mx:Option PV):ey P t σ (.vs xs) lo hi mx K=bv (slT P t) fun s=>bv (loN lo) fun l=>bv (hiN xs.length hi) fun h=>bv (hiN xs.length mx) fun m=>match l,s,h,m with
  |some l,some (_,sz,_),some h,some m=>(0≤l∧l≤h∧h≤m∧m≤xs.length∧(mx.isSome=true→hi.isSome=true))∧(0<l→∀x∈xs,x.length=sz)∧K (.vs ((xs.take h.toNat).drop l.toNat)) [] []
  |_,_,_,_=>False:=by
 simp only[ey,bv]
 rcases loN lo with _|l<;>(try rfl)<;>rcases slT P t with _|⟨e,sz,b⟩<;>(try rfl)<;>rcases hiN xs.length hi with _|h<;>(try rfl)<;>rcases hiN xs.length mx with _|m<;>rfl
theorem bbm(t:TypeId)(n k:Nat)(lo hi mx:Option PV):ey P t σ (.os n k) lo hi mx K=bv (ag σ n) fun B=>match B with
  |some (.arr _ asz _ xs)=>bv (slT P t) fun s=>bv (loN lo) fun l=>bv (hiN xs.length hi) fun h=>bv (hiN xs.length mx) fun m=>match l,s,h,m with
   |some l,some (_,sz,_),some h,some m=>(asz=sz∧k=xs.length∧0≤l∧l≤h∧h≤m∧m≤xs.length∧(mx.isSome=true→hi.isSome=true))∧K (.vs ((xs.take h.toNat).drop l.toNat)) (dh σ [n]) [n]
   |_,_,_,_=>False
  |_=>False:=by
 simp only[ey,bv]
 rcases loN lo with _|l
 ·rcases ag σ n with _|B
  ·rfl
  ·cases B<;>rfl
 ·rcases ag σ n with _|B
  ·rfl
  ·cases B with
   |cells cs=>rfl
   |arh e sz xs=>rfl
   |mp es=>rfl
   |it m k d=>rfl
   |si l p=>rfl
   |dead sz l=>rfl
   |arr e asz sh xs=>simp only;rcases slT P t with _|⟨e,sz,b⟩<;>(try rfl)<;>rcases hiN xs.length hi with _|h<;>(try rfl)<;>rcases hiN xs.length mx with _|m<;>rfl
theorem a8i(t:TypeId)(xs:List (List PV))(lo hi:Option PV):gy P t σ (.vs xs) lo hi none K=ey P t σ (.vs xs) lo hi none K:=(rfl)
theorem a4b(t:TypeId)(s:List UInt8)(lo hi:Option PV):gy P t σ (.str s) lo hi none K=ey P t σ (.str s) lo hi none K:=(rfl)
theorem a8k(t:TypeId)(xs:List (List PV))(k1 k2:IntKind)(i j:Int):gy P t σ (.vs xs) none (some (.int k1 i)) (some (.int k2 j)) K=bv (slT P t) fun s=>match s with
  |some _=>(i=j∧0≤i∧i≤xs.length)∧kk K (.vx (xs.take i.toNat)) [] []
  |none=>False:=by
 simp only[gy,a5q,bv,kk]
 rcases slT P t with _|⟨e,sz,b⟩<;>rfl
def bbx(P:Program)(t:TypeId)(σ:ASt)(n k:Nat)(lo hi mx:Option PV)(K:KT):Option Box→Prop
 |some (.arh e asz xs)=>afu P t σ n k e asz xs lo hi mx K
 |_=>ey P t σ (.os n k) lo hi mx K
theorem a96(t:TypeId)(n k:Nat)(lo hi:Option PV):gy P t σ (.os n k) lo hi none K=bv (ag σ n) (bbx P t σ n k lo hi none K):=by
 simp only[gy,bv]
 rcases ag σ n with _|B
 ·rfl
 ·cases B<;>rfl
theorem axo(t:TypeId)(n k:Nat)(lo hi mx:Option PV)(e sz:Nat)(sh:Bool)(xs:List (List PV)):bbx P t σ n k lo hi mx K (some (.arr e sz sh xs))=ey P t σ (.os n k) lo hi mx K:=(rfl)
theorem awt(t:TypeId)(n k:Nat)(lo hi mx:Option PV)(e sz:Nat)(xs:List (List PV)):bbx P t σ n k lo hi mx K (some (.arh e sz xs))=afu P t σ n k e sz xs lo hi mx K:=(rfl)
theorem a7g(t:TypeId)(n k e asz:Nat)(xs:List (List PV))(kd:IntKind)(i:Int):afu P t σ n k e asz xs (some (.int kd i)) none none K=bv (slT P t) fun s=>match s with
  |some (_,sz,_)=>(asz=sz∧k=xs.length∧0≤i∧i<k)∧kk K (.osl n k i.toNat) [] [n]
  |none=>False:=by
 simp only[afu,bv,kk]
 rcases slT P t with _|⟨e,sz,b⟩<;>first|rfl|simp only[and_assoc]
theorem a75(t:TypeId)(n k e asz:Nat)(xs:List (List PV))(kd:IntKind)(i:Int):afu P t σ n k e asz xs none (some (.int kd i)) none K=bv (slT P t) fun s=>match s with
  |some (_,sz,_)=>(asz=sz∧k=xs.length∧0≤i∧i≤k)∧jk σ xs=some (xs,[])∧kk K (.vs (xs.take i.toNat)) [(n,.arr e asz true xs)] [n]
  |none=>False:=by
 simp only[afu,bv,kk]
 rcases slT P t with _|⟨e,sz,b⟩<;>rfl
theorem atg(t:TypeId)(n k i:Nat):apm P t σ (.osl n k i) K=bv (slT P t) fun s=>bv (ag σ n) fun B=>match s,B with
  |some (e',sz,_),some (.arh e asz xs)=>bv (av P e') fun z=>match z with
   |some zs=>(asz=sz∧k=xs.length∧i<k∧zs.all f7=true)∧K (.tup []) [(n,.arh e asz (xs.take i++List.replicate (k - i) (zs.map za)))] [n]
   |none=>False
  |_,_=>False:=by
 simp only[apm,bv]
 rcases slT P t with _|⟨e,sz,b⟩<;>(try rfl)<;>rcases ag σ n with _|B<;>(try rfl)<;>cases B<;>(try rfl)
 all_goals (simp only;rcases av P e with _|z<;>rfl)
theorem a7q(t:TypeId)(s:List UInt8)(lo hi:Option PV):ey P t σ (.str s) lo hi none K=bv (ga P t) fun q=>bv (loN lo) fun l=>bv (hiN s.length hi) fun h=>match l,h with
  |some l,some h=>(q=true∧0≤l∧l≤h∧h≤s.length)∧K (.str ((s.take h.toNat).drop l.toNat)) [] []
  |_,_=>False:=by
 simp only[ey,bv]
 rcases loN lo with _|l<;>(try rfl)<;>rcases hiN s.length hi with _|h<;>(try rfl)
 simp
theorem ani:dh σ []=[]:=(rfl)
theorem ahw(n:Nat)(r:List Nat):dh σ (n::r)=(n,((ag σ n).getD (.cells [])).share)::dh σ r:=(rfl)
theorem ar8(e sz:Nat)(sh:Bool)(xs:List (List PV)):Box.share (.arr e sz sh xs)= .arr e sz true xs:=(rfl)
theorem a3g(t:TypeId)(d:Nat)(k1 k2:IntKind)(l c:Int):qk P t (some d) σ (.int k1 l) (.int k2 c) K=bv (slT P t) fun s=>match s with
  |some (e,sz,bytes)=>bv (av P e) fun z=>match z with
   |some zs=>(zs.all f7=true∧0≤l∧l≤c∧(bytes:Int)*c≤140737488355328∧c≤140737488355328∧ag σ d=none)∧K (.os d l.toNat) [(d,.arr e sz false (List.replicate l.toNat (zs.map za)))] [d]
   |none=>False
  |none=>False:=by
 simp only[qk,bv]
 rcases slT P t with _|⟨e,sz,b⟩
 ·rfl
 ·simp only;rcases av P e with _|z<;>rfl
theorem axr(t tx:TypeId)(d:Option Nat)(u v:PV):yf P t tx d σ u v K=bv (slT P t) fun s=>match s with
  |some (e,sz,bytes)=>xl P tx sz σ v (wq e sz bytes d σ u K)
  |none=>False:=by
 simp only[yf,bv]
 rcases slT P t with _|⟨e,sz,b⟩<;>rfl
variable (k:List (List PV)→List Nat→Prop)
theorem a24(tx sz:Nat)(ys:List (List PV)):xl P tx sz σ (.vs ys) k=bv (ay P tx) fun q=>(q=true∧∀y∈ys,y.length=sz)∧k ys []:=(rfl)
theorem a9z(tx sz:Nat)(b:Bool):xl P tx sz σ (.sn b) k=bv (ay P tx) fun q=>q=true∧k [] []:=(rfl)
theorem a7l(tx sz:Nat)(m n:Nat):xl P tx sz σ (.os m n) k=bv (ag σ m) fun B=>bv (ay P tx) fun q=>match B with
  |some (.arr _ sz' _ ys)=>(q=true∧n=ys.length∧sz'=sz)∧k ys [m]
  |_=>False:=by
 simp only[xl,bv]
 rcases ag σ m with _|B<;>(try rfl)<;>cases B<;>rfl
theorem a3a(tx sz:Nat)(l:List UInt8):xl P tx sz σ (.str l) k=bv (ga P tx) fun q=>(q=true∧sz=1)∧k (bd l) []:=(rfl)
theorem a9d(e sz bytes:Nat)(d:Option Nat)(n m:Nat)(ys:List (List PV))(F:List Nat):wq e sz bytes d σ (.os n m) K ys F=bv (ag σ n) fun B=>match B with
  |some (.arr e' sz' sh xs)=>(e'=e∧sz'=sz∧m=xs.length∧(xs.length+ys.length)*bytes≤140737488355328)∧K (.os n (m+ys.length)) [(n,.arr e sz sh (xs++ys))] (n::F)
  |some (.arh e' sz' xs)=>(e'=e∧sz'=sz∧m=xs.length∧(xs.length+ys.length)*bytes≤140737488355328)∧K (.os n (m+ys.length)) [(n,.arh e sz (xs++ys))] (n::F)
  |_=>False:=by
 simp only[wq,bv]
 rcases ag σ n with _|B<;>(try rfl)<;>cases B<;>rfl
theorem azz(e sz bytes d:Nat)(ys:List (List PV))(F:List Nat):wq e sz bytes (some d) σ .nils K ys F=((ag σ d=none∧ys.length*bytes≤140737488355328)∧K (.os d ys.length) [(d,.arr e sz false ys)] (d::F)):=(rfl)
theorem a9y(e sz bytes d:Nat)(xs ys:List (List PV))(F:List Nat):wq e sz bytes (some d) σ (.vx xs) K ys F=((ag σ d=none∧(∀x∈xs,x.length=sz)∧(xs.length+ys.length)*bytes≤140737488355328)∧(ys=[]→K (.vs xs) [] F)∧(0<ys.length→K (.os d (xs.length+ys.length)) [(d,.arr e sz false (xs++ys))] (d::F))):=(rfl)
theorem a3p(t len:Nat)(parts:List (Nat×PV))(d:Nat):ij P t len parts (some d) σ K=bv (slT P t) fun s=>match s with
  |some (e,sz,_)=>bv (ag σ (900000+d)) fun hint=>match hint with
   |none=>bv (om σ sz 0 parts) fun r=>match r with
    |some (xs,ns)=>(ag σ d=none∧len=parts.length∧len*sz≤16777216)∧kk K (.os d xs.length) (dh σ ns++[(d,.arr e sz false xs)]) (d::ns)
    |none=>False
   |some _=>bv (oq σ sz 0 parts) fun r=>match r with
    |some (xs,ns)=>(ag σ d=none∧len=parts.length∧len*sz≤16777216)∧kk K (.os d xs.length) (dh σ ns++[(d,.arr e sz false xs)]) (d::ns)
    |none=>False
  |none=>False:=by
 simp only[ij,bv,kk]
 rcases slT P t with _|⟨e,sz,b⟩
 ·rfl
 ·simp only
  rcases ag σ (900000+d)with _|B
  ·simp only;rcases om σ sz 0 parts with _|⟨xs,ns⟩<;>simp only[and_assoc]
  ·simp only;rcases oq σ sz 0 parts with _|⟨xs,ns⟩<;>simp only[and_assoc]
end
section
variable (P:Program) (σ:ASt) (K:KT) {α:Type} [Inhabited α] (f:α→List PV) (l:List α)
theorem ix{i:Nat}(h:i<l.length):dv (l.map f) i=f (el l i):=ac9 f l i h
theorem auk(t:TypeId)(kd:IntKind)(i:Int):bm P t σ (.vs (l.map f)) (.int kd i) K=bv (slT P t) fun s=>match s with
  |some (_,sz,_)=>(0≤i∧i<l.length)∧bv (f (el l i.toNat)) fun c=>c.length=sz∧kk K (.el c) [] []
  |none=>False:=by
 rw[ald]
 simp only[bv]
 rcases slT P t with _|⟨e,sz,b⟩
 ·rfl
 ·simp only[List.length_map]
  refine propext (and_congr_right fun h=> ?_)
  rw[ix f l (by omega)]
theorem asb(n k i off e sz:Nat)(sh:Bool):apr n k i off K (some none) (some (.arr e sz sh (l.map f)))=((k=l.length∧i<k)∧bv (f (el l i)) fun c=>off<c.length∧kk K (fj c off) [] [n]):=by
 simp only[apr,bv,List.length_map,and_assoc]
 refine propext (and_congr_right fun h1=>and_congr_right fun h2=> ?_)
 rw[ix f l (by omega)]
theorem awa(n k i off m e sz:Nat)(sh:Bool):apr n k i off K (some (some m)) (some (.arr e sz sh (l.map f)))=((k=l.length∧i<k)∧bv (f (el l i)) fun c=>off+m≤c.length∧kk K (.agg ((c.drop off).take m)) [] [n]):=by
 simp only[apr,bv,List.length_map,and_assoc]
 refine propext (and_congr_right fun h1=>and_congr_right fun h2=> ?_)
 rw[ix f l (by omega)]
end
theorem a5n(P:Program)(σ:ASt){α:Type}(f:α→List PV)(l:List α)(tx sz:Nat)(k:List (List PV)→List Nat→Prop):xl P tx sz σ (.vs (l.map f)) k=bv (ay P tx) fun q=>(q=true∧∀y∈l,(f y).length=sz)∧k (l.map f) []:=by
 simp only[xl,bv,List.forall_mem_map]
def u8(b:UInt8):List PV:=[.int .u8 b.toNat]
theorem baq(b:UInt8):u8 b=[.int .u8 b.toNat]:=(rfl)
theorem amn(l:List UInt8):bd l=l.map u8:=(rfl)
section
variable (P:Program) (N:Nat) (Q:s6) (fr:AFr) (σ:ASt)
theorem a3d:wv P N .skip Q fr σ=Q .normal fr σ:=(rfl)
theorem a5h(id:Nat):wv P N (.exit id) Q fr σ=Q (.exit id) fr σ:=(rfl)
theorem a79:wv P N .ret Q fr σ=Q .ret fr σ:=(rfl)
theorem a97(a b:Code):wv P N (.seq a b) Q fr σ=wv P N a (vg (wv P N b Q) Q) fr σ:=(rfl)
theorem axn(id:Nat)(c:Code):wv P N (.block id c) Q fr σ=wv P N c (yd id Q) fr σ:=(rfl)
def a6n(a b:Code):PV→Prop
 | .bool t=>(t=true→wv P N a Q fr σ)∧(t=false→wv P N b Q fr σ)
 |_=>False
theorem a5a(c:Operand)(a b:Code):wv P N (.cond c a b) Q fr σ=bv (ev fr c) (a6n P N Q fr σ a b):=by
 simp only[wv,bv]
 cases ev fr c<;>rfl
theorem yg(a b:Code)(t:Bool):a6n P N Q fr σ a b (.bool t)=((t=true→wv P N a Q fr σ)∧(t=false→wv P N b Q fr σ)):=(rfl)
theorem ash(id:Nat)(l:List Oper):wv P N (.region id l.toArray false) Q fr σ=l7 P l.toArray l fr σ (Q .normal):=(rfl)
def okD(ops:List Oper)(g:Log):Prop:=afh ops.toArray g.reverse=true
theorem ami(id:Nat)(l:List Oper):wv P N (.region id l.toArray true) Q fr σ=evD P l.toArray l fr σ [] fun fr' σ' g=>okD l g∧Q .normal fr' σ':=(rfl)
variable (K:AFr→ASt→Prop)
theorem agh:vg K Q .normal fr σ=K fr σ:=(rfl)
theorem aob(id:Nat):vg K Q (.exit id) fr σ=Q (.exit id) fr σ:=(rfl)
theorem ar7:vg K Q .ret fr σ=Q .ret fr σ:=(rfl)
theorem aa6(id:Nat):yd id Q .normal fr σ=Q .normal fr σ:=(rfl)
theorem al9(id:Nat):yd id Q .ret fr σ=Q .ret fr σ:=(rfl)
theorem aij(id id':Nat):yd id Q (.exit id') fr σ=if id'=id then Q .normal fr σ else Q (.exit id') fr σ:=(rfl)
variable (rs:List ResultVar) (ns exts:List Nat) (r:PV) (nb ext':List Box)
theorem agu:bbk P rs ns exts r nb ext' .normal fr σ=azt P rs ns exts r nb ext' fr σ:=(rfl)
theorem ayv:bbk P rs ns exts r nb ext' .ret fr σ=azt P rs ns exts r nb ext' fr σ:=(rfl)
theorem a6l:azt P rs ns exts r nb ext' fr σ=bv (apt P fr σ rs) fun us=>bv (zt σ ns) fun a=>bv (zt σ exts) fun b=>match us with
  |some us=>bv (s5 σ ns exts us) fun c=>match a,b,c with
   |some (nb0,b1),some (e0,b2),some (us',b3)=>ur ns exts (b1++(b2++b3))=true∧nb0=nb∧e0=ext'∧aod us'=r
   |_,_,_=>False
  |none=>False:=by
 simp only[azt,bv]
 rcases apt P fr σ rs with _|us
 ·rfl
 ·simp only
  rcases zt σ ns with _|⟨nb0,b1⟩<;>(try rfl)<;>rcases zt σ exts with _|⟨e0,b2⟩<;>(try rfl)<;>rcases s5 σ ns exts us with _|⟨us',b3⟩<;>rfl
end
attribute [congr] ay1
theorem ah5{a0}:fa (.move a0)=false:=(rfl)
theorem acg{a0}:fa (.assign a0)=false:=(rfl)
theorem agv{a0}{a1}{a2}:fa (.pick a0 a1 a2)=false:=(rfl)
theorem adv{a0}:fa (.alloc a0)=false:=(rfl)
theorem afy{a0}{a1}:fa (.build a0 a1)=false:=(rfl)
theorem qo{a0}{a1}{a2}:fa (.buildSlice a0 a1 a2)=false:=(rfl)
theorem ag5{a0}{a1}:fa (.load a0 a1)=false:=(rfl)
theorem ac0{a0}{a1}{a2}:fa (.store a0 a1 a2)=false:=(rfl)
theorem uf{a0}:fa (.nilCheck a0)=false:=(rfl)
theorem afe{a0}{a1}{a2}{a3}{a4}:fa (.binOp a0 a1 a2 a3 a4)=false:=(rfl)
theorem ajh{a0}{a1}{a2}:fa (.unOp a0 a1 a2)=false:=(rfl)
theorem yb{a0}{a1}{a2}:fa (.convert a0 a1 a2)=false:=(rfl)
theorem acs{a0}{a1}{a2}{a3}{a4}:fa (.slice a0 a1 a2 a3 a4)=false:=(rfl)
theorem sj{a0}{a1}{a2}:fa (.fieldAddr a0 a1 a2)=false:=(rfl)
theorem s4{a0}{a1}{a2}:fa (.indexAddr a0 a1 a2)=false:=(rfl)
theorem ad9{a0}{a1}{a2}:fa (.index a0 a1 a2)=false:=(rfl)
theorem x9{a0}{a1}:fa (.extract a0 a1)=false:=(rfl)
theorem aje{a0}:fa (.call a0)=false:=(rfl)
attribute [go_sem] ah5 acg agv adv afy qo ag5 ac0 uf afe ajh yb acs sj s4 ad9 x9 aje
attribute [go_sem ↓] ato a7z asp aph awb aut an8 aq1 az6 aae ay9 a5x aiz
attribute [go_sem] arn akq m7 oq k9 apw jk a2d awk aba az7 Box.arh.injEq Box.mp.injEq Box.it.injEq PV.mh.injEq
attribute [go_sem ↓] ba9
attribute [go_sem ↓] bax a0k ar3 a89 aye a3k at6 ayw ayf av8 aya arj
attribute [go_sem ↓] aih afn ada as9 amz amg ai6 a3j ade aao aal a4i ay7 awy abd axe
attribute [go_sem ↓] axv akj
attribute [go_sem ↓ 1100] a0r
attribute [go_sem ↓ 1100] asb awa auk a5n
theorem a43(d e:Nat)(l:List UInt8)(K:KT):bcg d e l K=kk K (.os d l.length) [(d,.arr e 1 false (l.map u8))] [d]:=(rfl)
attribute [go_sem] baq amn a43
attribute [go_sem ↓] aid ao5 ag0
attribute [go_sem] amf amj am7 aor bb1 asq azq a1n arg aun aus aoa ano
attribute [go_sem ↓] aov a3m atq auj aw2 amk ay6 zd af5 ayp agy ay4 aqa a26 ap8 xx azu atm abj acm asw awe ayr aiq avm aak afw ayx a63 am9 a54
attribute [go_sem ↓] amu ava apb vz ah4 aha aox aib ald az4 aqh ai5 ajk avy aw5 aw3 anz aub
attribute [go_sem ↓] a4e a47 a5u a27 a60 a3l a6c a31 a8t a23 a5k a3n a3b a4k a5f a4s a1p a0y a02 ayb a0x ax4 azx a8x a8r a7k a8b
attribute [go_sem ↓] an5 ao2 a9z
attribute [go_sem ↓] a8i a4b a96 a8k axo awt a7g a75 atg aqc ap6 av4 ba7 bbm a7q a3g axr a24 a9y a7l a3a a9d azz a3p
attribute [go_sem] a6y a3h a56 a29 ani ahw ar8 axd aq8 axw asr
attribute [go_sem ↓] a3d a5h a79 a97 axn a5a yg ash ami agh aob ar7 aa6 al9 aij agu ayv a6l
theorem a48(σ:ASt)(fr:AFr):wkF σ fr []=True:=(rfl)
theorem axx(σ:ASt)(fr:AFr)(s:Nat)(u:PV)(r:AFr):wkF σ fr ((s,u)::r)=(bv (look fr s) (fun v=>bv u fun u=>wkU σ v u)∧wkF σ fr r):=(rfl)
theorem a4l(fr:AFr):wkN fr []=[]:=(rfl)
theorem a1s(fr:AFr)(s:Nat)(u:PV)(r:AFr):wkN fr ((s,u)::r)=a69 (look fr s) u++wkN fr r:=(rfl)
theorem a3q(σ:ASt):wkS σ []=True:=(rfl)
theorem azg(σ:ASt)(n:Nat)(B:Box)(r:ASt):wkS σ ((n,B)::r)=(bv (ag σ n) (fun v=>v=some B)∧wkS σ r):=(rfl)
theorem bbz(fr:AFr)(σ:ASt)(fr':AFr)(σ':ASt):wk fr σ fr' σ'=(wkF σ fr fr'∧wkS σ σ'∧ak9 (σ'.map (·.1)) (wkN fr fr')=true∧a2g (σ'.map (·.1)) fr'=true∧zr (σ'.map (·.1)) σ'=true∧a7e (σ'.map (·.1)) σ=true):=(rfl)
theorem loop{P:Program}(hm:P.follows .mixedOrders=true){N:Nat}{c:Code}{Q:s6}{fr:AFr}{σ:ASt}{ι:Type}(i0:ι)(fs:ι→AFr)(ss:ι→ASt)(I:ι→Prop)(μ:ι→Nat)(hc:gm N c=true)(hI:I i0)(hw:wk fr σ (fs i0) (ss i0))
  (round: ∀i,I i→wv P N c (vg (fun fr' σ'=> ∃j,(I j∧μ j<μ i)∧wk fr' σ' (fs j) (ss j)) Q) (fs i) (ss i)):wv P N (.loop c) Q fr σ:=
 a8p hm hc fs ss I μ i0 hI hw round
theorem bbt{P:Program}(hm:P.follows .mixedOrders=true){N:Nat}{c:Code}{Q:s6}{fr:AFr}{σ:ASt}{ι:Type}(i0:ι)(fs:ι→AFr)(ss:ι→ASt)(I:ι→Prop)(μ:ι→Nat)(hc:gm N c=true)(l0:List (Nat×Nat))(hI:I i0)(hw:wkR l0 fr σ (fs i0) (ss i0))
  (round: ∀i,I i→wv P N c (vg (fun fr' σ'=> ∃j l,(I j∧μ j<μ i)∧wkR l fr' σ' (fs j) (ss j)) Q) (fs i) (ss i)):wv P N (.loop c) Q fr σ:=
 a4h hm hc fs ss I μ i0 hI l0 hw round
theorem a82(l:List (Nat×Nat))(fr:AFr)(σ:ASt)(fr':AFr)(σ':ASt):wkR l fr σ fr' σ'=(a2w l fr σ∧bv (ata l fr σ) fun p=>wk p.1 p.2 fr' σ'):=(rfl)
theorem ayz(fr:AFr)(σ:ASt):a2w [] fr σ=True:=(rfl)
theorem as1(n m:Nat)(r:List (Nat×Nat))(fr:AFr)(σ:ASt):a2w ((n,m)::r) fr σ=((bv (ag σ m) (fun B=>B=none)∧n<1000000∧m<1000000∧n≠m)∧bv (awp n m fr) fun fr=>bv (xv n m σ) fun σ=>a2w r fr σ):=(rfl)
theorem a07(fr:AFr)(σ:ASt):ata [] fr σ=(fr,σ):=(rfl)
theorem aul(n m:Nat)(r:List (Nat×Nat))(fr:AFr)(σ:ASt):ata ((n,m)::r) fr σ=ata r (awp n m fr) (xv n m σ):=(rfl)
attribute [go_sem ↓] a82 ayz as1
attribute [go_sem] a07 aul awp xv renV md jx rn
attribute [go_sem ↓] a4l a48 axx a3q azg bbz
attribute [go_sem] a1s wkU a69 ak9 a2g zr a7e a2h adl
attribute [go_sem] decide_true decide_false decide_eq_true_eq decide_eq_false_iff_not Bool.not_eq_true' Bool.not_eq_false' Bool.not_true Bool.not_false true_and and_true false_and and_false forall_const implies_true not_true_eq_false not_false_eq_true eq_self ne_eq
attribute [go_sem] Bool.true_and Bool.and_true Bool.false_and Bool.and_false Bool.true_or Bool.or_true Bool.false_or Bool.or_false Bool.and_eq_true Bool.or_eq_true Bool.not_eq_true Bool.true_eq_false Bool.false_eq_true
attribute [go_sem] List.length_map List.length_cons List.length_nil List.length_append List.length_replicate List.map_cons List.map_nil List.append_nil List.nil_append List.cons_append List.toList_toArray List.all_nil List.all_cons
attribute [go_sem] List.take_zero List.take_succ_cons List.take_nil List.drop_zero List.drop_succ_cons List.drop_nil Option.map_some Option.map_none Option.getD_some Option.isSome_some Option.isSome_none
theorem a9n{α:Type}(f:α→List PV)(l:List α)(n:Nat):(l.map f).take n=(l.take n).map f:=List.map_take.symm
theorem a95{α:Type}(f:α→List PV)(l:List α)(n:Nat):(l.map f).drop n=(l.drop n).map f:=List.map_drop.symm
theorem all_map{α:Type}(f:α→List PV)(l:List α)(p:List PV→Prop):(∀x∈l.map f,p x)= ∀x∈l,p (f x):=by simp
attribute [go_sem] a9n a95
attribute [go_sem ↓] all_map
theorem a74(n:Nat):((no_index (OfNat.ofNat n):Nat):Int)=OfNat.ofNat n:=(rfl)
attribute [go_sem] a74 Int.toNat_natCast Int.toNat_zero Int.ofNat_lt Int.ofNat_le Int.natCast_nonneg Int.ofNat_eq_natCast Int.zero_le_ofNat
attribute [go_sem] PV.int.injEq PV.bool.injEq PV.vs.injEq PV.str.injEq PV.os.injEq PV.tup.injEq PV.agg.injEq PV.ptr.injEq PV.el.injEq PV.fn.injEq Box.arr.injEq Box.cells.injEq Option.some.injEq Prod.mk.injEq List.cons.injEq
attribute [go_sem] List.not_mem_nil List.mem_cons List.contains_nil List.contains_cons or_false false_or not_or Nat.not_lt_zero Nat.zero_add Nat.add_zero
attribute [go_sem] dz pur gv om a8v apt ahb zt ax8 s5 aod nc eqC ut xn w7 f7
end Go.Proofs.Am
