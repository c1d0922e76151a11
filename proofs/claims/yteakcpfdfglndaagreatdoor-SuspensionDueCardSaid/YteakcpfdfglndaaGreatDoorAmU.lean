/- AmU. -/
import Derived.Test.YteakcpfdfglndaaGreatDoorAmS
set_option linter.unusedSimpArgs false
set_option linter.unusedVariables false
namespace Go.Proofs.Am
open Go Go.RowKit
variable {P:Program}
section
variable (P:Program) (σ:ASt) (K:KT) (J:PV→Prop)
theorem a4r(t:TypeId)(k k':IntKind)(a b:Int):fw P .add t (.int k a) (.int k' b) J=(k=k'∧J (.int k (k.wrap (a+b)))):=(rfl)
theorem a3t(t:TypeId)(k k':IntKind)(a b:Int):fw P .sub t (.int k a) (.int k' b) J=(k=k'∧J (.int k (k.wrap (a - b)))):=(rfl)
theorem a30(t:TypeId)(k k':IntKind)(a b:Int):fw P .mul t (.int k a) (.int k' b) J=(k=k'∧J (.int k (k.wrap (a*b)))):=(rfl)
theorem a49(t:TypeId)(k k':IntKind)(a b:Int):fw P .quo t (.int k a) (.int k' b) J=(k=k'∧b≠0∧J (.int k (k.wrap (a.tdiv b)))):=(rfl)
theorem a43(t:TypeId)(k k':IntKind)(a b:Int):fw P .rem t (.int k a) (.int k' b) J=(k=k'∧b≠0∧J (.int k (a.tmod b))):=(rfl)
theorem a5z(t:TypeId)(k k':IntKind)(a b:Int):fw P .shl t (.int k a) (.int k' b) J=(0≤b∧J (.int k (k.wrap (a*2^min b.toNat k.bits)))):=(rfl)
theorem a3w(t:TypeId)(k k':IntKind)(a b:Int):fw P .shr t (.int k a) (.int k' b) J=(0≤b∧J (.int k (a.fdiv (2^min b.toNat k.bits)))):=(rfl)
theorem a5n(t:TypeId)(k k':IntKind)(a b:Int):fw P .and t (.int k a) (.int k' b) J=(k=k'∧J (.int k (bits .and k a b))):=(rfl)
theorem a9h(t:TypeId)(k k':IntKind)(a b:Int):fw P .or t (.int k a) (.int k' b) J=(k=k'∧J (.int k (bits .or k a b))):=(rfl)
theorem a6j(t:TypeId)(k k':IntKind)(a b:Int):fw P .xor t (.int k a) (.int k' b) J=(k=k'∧J (.int k (bits .xor k a b))):=(rfl)
theorem a40(t:TypeId)(k k':IntKind)(a b:Int):fw P .eql t (.int k a) (.int k' b) J=(k=k'∧J (.bool (decide (a=b)))):=(rfl)
theorem a60(t:TypeId)(k k':IntKind)(a b:Int):fw P .neq t (.int k a) (.int k' b) J=(k=k'∧J (.bool (decide (a≠b)))):=(rfl)
theorem a6u(t:TypeId)(k k':IntKind)(a b:Int):fw P .lss t (.int k a) (.int k' b) J=(k=k'∧J (.bool (decide (a<b)))):=(rfl)
theorem a6f(t:TypeId)(k k':IntKind)(a b:Int):fw P .leq t (.int k a) (.int k' b) J=(k=k'∧J (.bool (decide (a≤b)))):=(rfl)
theorem a6t(t:TypeId)(k k':IntKind)(a b:Int):fw P .gtr t (.int k a) (.int k' b) J=(k=k'∧J (.bool (decide (b<a)))):=(rfl)
theorem a6x(t:TypeId)(k k':IntKind)(a b:Int):fw P .geq t (.int k a) (.int k' b) J=(k=k'∧J (.bool (decide (b≤a)))):=(rfl)
theorem a0e(t:TypeId)(a b:Bool):fw P .eql t (.bool a) (.bool b) J=(P.underlying t=some .bool∧J (.bool (decide (a=b)))):=(rfl)
theorem a05(t:TypeId)(a b:List UInt8):fw P .eql t (.str a) (.str b) J=J (.bool (decide (a=b))):=(rfl)
theorem a0h(t:TypeId)(a b:List UInt8):fw P .neq t (.str a) (.str b) J=J (.bool (decide (a≠b))):=(rfl)
theorem a0a(t:TypeId)(a b:List UInt8):fw P .lss t (.str a) (.str b) J=J (.bool (Op.bytesLess a b)):=(rfl)
theorem a01(t:TypeId)(a b:List UInt8):fw P .geq t (.str a) (.str b) J=J (.bool (!Op.bytesLess a b)):=(rfl)
theorem axb(t:TypeId)(a b:List PV):fw P .eql t (.agg a) (.agg b) J=bv (ob P t) fun f=>match f with|some ks=>bv (v7 ks a b) (fun q=>match q with|some b=>J (.bool b)|none=>False)|none=>False:=by
 simp only[fw,bv]
 cases ob P t with
 |none=>rfl
 |some ks=>simp only;cases v7 ks a b<;>rfl
theorem azy(t:TypeId)(a b:List PV):fw P .neq t (.agg a) (.agg b) J=bv (ob P t) fun f=>match f with|some ks=>bv (v7 ks a b) (fun q=>match q with|some b=>J (.bool (!b))|none=>False)|none=>False:=by
 simp only[fw,bv]
 cases ob P t with
 |none=>rfl
 |some ks=>simp only;cases v7 ks a b<;>rfl
theorem aot(t:TypeId)(b:Bool):fw P .eql t (.sn b) .nils J=bv (bu P t) fun e=>e.isSome=true∧J (.bool b):=(rfl)
theorem ape(t:TypeId)(xs:List (List PV)):fw P .eql t (.vs xs) .nils J=bv (bu P t) fun e=>(e.isSome=true∧0<xs.length)∧J (.bool false):=(rfl)
theorem a78(b:Bool):a57 .not (.bool b) J=J (.bool (!b)):=(rfl)
theorem a9z(k:IntKind)(n:Int):a57 .neg (.int k n) J=J (.int k (k.wrap (0 - n))):=(rfl)
theorem a9p(k:IntKind)(n:Int):a57 .xor (.int k n) J=J (.int k (bits .xor k (if k.signed then -1 else k.max) n)):=(rfl)
theorem a7z(k k':IntKind)(a b:Int):a7d false (.int k a) (.int k' b) K=K (.int k (if b<a then b else a)) [] []:=(rfl)
theorem a3r:loN none=some 0:=(rfl)
theorem a32(k:IntKind)(n:Int):loN (some (.int k n))=some n:=(rfl)
theorem a6r(l:Nat):hiN l none=some (l:Int):=(rfl)
theorem a6z(l:Nat)(k:IntKind)(n:Int):hiN l (some (.int k n))=some n:=(rfl)
theorem bbf(t:TypeId)(xs:List (List PV))(lo hi mx:Option PV):fa P t σ (.vs xs) lo hi mx K=bv (slT P t) fun s=>bv (loN lo) fun l=>bv (hiN xs.length hi) fun h=>bv (hiN xs.length mx) fun m=>match l,s,h,m with
  |some l,some (_,sz,_),some h,some m=>(0≤l∧l≤h∧h≤m∧m≤xs.length∧(mx.isSome=true→hi.isSome=true))∧(0<l→∀x∈xs,x.length=sz)∧K (.vs ((xs.take h.toNat).drop l.toNat)) [] []
  |_,_,_,_=>False:=by
 simp only[fa,bv]
 rcases loN lo with _|l<;>(try rfl)<;>rcases slT P t with _|⟨e,sz,b⟩<;>(try rfl)<;>rcases hiN xs.length hi with _|h<;>(try rfl)<;>rcases hiN xs.length mx with _|m<;>rfl
theorem bb1(t:TypeId)(n k:Nat)(lo hi mx:Option PV):fa P t σ (.os n k) lo hi mx K=bv (ag σ n) fun B=>match B with
  |some (.arr _ asz _ xs)=>bv (slT P t) fun s=>bv (loN lo) fun l=>bv (hiN xs.length hi) fun h=>bv (hiN xs.length mx) fun m=>match l,s,h,m with
   |some l,some (_,sz,_),some h,some m=>(asz=sz∧k=xs.length∧0≤l∧l≤h∧h≤m∧m≤xs.length∧(mx.isSome=true→hi.isSome=true))∧K (.vs ((xs.take h.toNat).drop l.toNat)) (da σ [n]) [n]
   |_,_,_,_=>False
  |_=>False:=by
 simp only[fa,bv]
 rcases loN lo with _|l
 ·rcases ag σ n with _|B
  ·rfl
  ·cases B<;>rfl
 ·rcases ag σ n with _|B
  ·rfl
  ·cases B with
   |cells cs=>rfl
   |arh e sz xs=>rfl
   |mp es=>rfl
   |it m k d=>rfl
   |si l p=>rfl
   |dead sz l=>rfl
   |arr e asz sh xs=>simp only;rcases slT P t with _|⟨e,sz,b⟩<;>(try rfl)<;>rcases hiN xs.length hi with _|h<;>(try rfl)<;>rcases hiN xs.length mx with _|m<;>rfl
theorem a9f(t:TypeId)(xs:List (List PV))(lo hi:Option PV):gz P t σ (.vs xs) lo hi none K=fa P t σ (.vs xs) lo hi none K:=(rfl)
theorem a3k(t:TypeId)(s:List UInt8)(lo hi:Option PV):gz P t σ (.str s) lo hi none K=fa P t σ (.str s) lo hi none K:=(rfl)
theorem a8k(t:TypeId)(xs:List (List PV))(k1 k2:IntKind)(i j:Int):gz P t σ (.vs xs) none (some (.int k1 i)) (some (.int k2 j)) K=bv (slT P t) fun s=>match s with
  |some _=>(i=j∧0≤i∧i≤xs.length)∧kk K (.vx (xs.take i.toNat)) [] []
  |none=>False:=by
 simp only[gz,a3g,bv,kk]
 rcases slT P t with _|⟨e,sz,b⟩<;>rfl
def baq(P:Program)(t:TypeId)(σ:ASt)(n k:Nat)(lo hi mx:Option PV)(K:KT):Option Box→Prop
 |some (.arh e asz xs)=>ae1 P t σ n k e asz xs lo hi mx K
 |_=>fa P t σ (.os n k) lo hi mx K
theorem a81(t:TypeId)(n k:Nat)(lo hi:Option PV):gz P t σ (.os n k) lo hi none K=bv (ag σ n) (baq P t σ n k lo hi none K):=by
 simp only[gz,bv]
 rcases ag σ n with _|B
 ·rfl
 ·cases B<;>rfl
theorem ayr(t:TypeId)(n k:Nat)(lo hi mx:Option PV)(e sz:Nat)(sh:Bool)(xs:List (List PV)):baq P t σ n k lo hi mx K (some (.arr e sz sh xs))=fa P t σ (.os n k) lo hi mx K:=(rfl)
theorem azj(t:TypeId)(n k:Nat)(lo hi mx:Option PV)(e sz:Nat)(xs:List (List PV)):baq P t σ n k lo hi mx K (some (.arh e sz xs))=ae1 P t σ n k e sz xs lo hi mx K:=(rfl)
theorem a7n(t:TypeId)(n k e asz:Nat)(xs:List (List PV))(kd:IntKind)(i:Int):ae1 P t σ n k e asz xs (some (.int kd i)) none none K=bv (slT P t) fun s=>match s with
  |some (_,sz,_)=>(asz=sz∧k=xs.length∧0≤i∧i<k)∧kk K (.osl n k i.toNat) [] [n]
  |none=>False:=by
 simp only[ae1,bv,kk]
 rcases slT P t with _|⟨e,sz,b⟩<;>first|rfl|simp only[and_assoc]
theorem a91(t:TypeId)(n k e asz:Nat)(xs:List (List PV))(kd:IntKind)(i:Int):ae1 P t σ n k e asz xs none (some (.int kd i)) none K=bv (slT P t) fun s=>match s with
  |some (_,sz,_)=>(asz=sz∧k=xs.length∧0≤i∧i≤k)∧jj σ xs=some (xs,[])∧kk K (.vs (xs.take i.toNat)) [(n,.arr e asz true xs)] [n]
  |none=>False:=by
 simp only[ae1,bv,kk]
 rcases slT P t with _|⟨e,sz,b⟩<;>rfl
theorem as3(t:TypeId)(n k i:Nat):ao3 P t σ (.osl n k i) K=bv (slT P t) fun s=>bv (ag σ n) fun B=>match s,B with
  |some (e',sz,_),some (.arh e asz xs)=>bv (aw P e') fun z=>match z with
   |some zs=>(asz=sz∧k=xs.length∧i<k∧zs.all f7=true)∧K (.tup []) [(n,.arh e asz (xs.take i++List.replicate (k - i) (zs.map zj)))] [n]
   |none=>False
  |_,_=>False:=by
 simp only[ao3,bv]
 rcases slT P t with _|⟨e,sz,b⟩<;>(try rfl)<;>rcases ag σ n with _|B<;>(try rfl)<;>cases B<;>(try rfl)
 all_goals (simp only;rcases aw P e with _|z<;>rfl)
theorem a9a(t:TypeId)(s:List UInt8)(lo hi:Option PV):fa P t σ (.str s) lo hi none K=bv (ge P t) fun q=>bv (loN lo) fun l=>bv (hiN s.length hi) fun h=>match l,h with
  |some l,some h=>(q=true∧0≤l∧l≤h∧h≤s.length)∧K (.str ((s.take h.toNat).drop l.toNat)) [] []
  |_,_=>False:=by
 simp only[fa,bv]
 rcases loN lo with _|l<;>(try rfl)<;>rcases hiN s.length hi with _|h<;>(try rfl)
 simp
theorem ama:da σ []=[]:=(rfl)
theorem ag0(n:Nat)(r:List Nat):da σ (n::r)=(n,((ag σ n).getD (.cells [])).share)::da σ r:=(rfl)
theorem as6(e sz:Nat)(sh:Bool)(xs:List (List PV)):Box.share (.arr e sz sh xs)= .arr e sz true xs:=(rfl)
theorem a4j(t:TypeId)(d:Nat)(k1 k2:IntKind)(l c:Int):qr P t (some d) σ (.int k1 l) (.int k2 c) K=bv (slT P t) fun s=>match s with
  |some (e,sz,bytes)=>bv (aw P e) fun z=>match z with
   |some zs=>(zs.all f7=true∧0≤l∧l≤c∧(bytes:Int)*c≤140737488355328∧c≤140737488355328∧ag σ d=none)∧K (.os d l.toNat) [(d,.arr e sz false (List.replicate l.toNat (zs.map zj)))] [d]
   |none=>False
  |none=>False:=by
 simp only[qr,bv]
 rcases slT P t with _|⟨e,sz,b⟩
 ·rfl
 ·simp only;rcases aw P e with _|z<;>rfl
theorem a1k(t tx:TypeId)(d:Option Nat)(u v:PV):zt P t tx d σ u v K=bv (slT P t) fun s=>match s with
  |some (e,sz,bytes)=>xw P tx sz σ v (uj e sz bytes d σ u K)
  |none=>False:=by
 simp only[zt,bv]
 rcases slT P t with _|⟨e,sz,b⟩<;>rfl
variable (k:List (List PV)→List Nat→Prop)
theorem a3v(tx sz:Nat)(ys:List (List PV)):xw P tx sz σ (.vs ys) k=bv (ay P tx) fun q=>(q=true∧∀y∈ys,y.length=sz)∧k ys []:=(rfl)
theorem a8p(tx sz:Nat)(b:Bool):xw P tx sz σ (.sn b) k=bv (ay P tx) fun q=>q=true∧k [] []:=(rfl)
theorem a80(tx sz:Nat)(m n:Nat):xw P tx sz σ (.os m n) k=bv (ag σ m) fun B=>bv (ay P tx) fun q=>match B with
  |some (.arr _ sz' _ ys)=>(q=true∧n=ys.length∧sz'=sz)∧k ys [m]
  |_=>False:=by
 simp only[xw,bv]
 rcases ag σ m with _|B<;>(try rfl)<;>cases B<;>rfl
theorem a5y(tx sz:Nat)(l:List UInt8):xw P tx sz σ (.str l) k=bv (ge P tx) fun q=>(q=true∧sz=1)∧k (bd l) []:=(rfl)
theorem a8t(e sz bytes:Nat)(d:Option Nat)(n m:Nat)(ys:List (List PV))(F:List Nat):uj e sz bytes d σ (.os n m) K ys F=bv (ag σ n) fun B=>match B with
  |some (.arr e' sz' sh xs)=>(e'=e∧sz'=sz∧m=xs.length∧(xs.length+ys.length)*bytes≤140737488355328)∧K (.os n (m+ys.length)) [(n,.arr e sz sh (xs++ys))] (n::F)
  |some (.arh e' sz' xs)=>(e'=e∧sz'=sz∧m=xs.length∧(xs.length+ys.length)*bytes≤140737488355328)∧K (.os n (m+ys.length)) [(n,.arh e sz (xs++ys))] (n::F)
  |_=>False:=by
 simp only[uj,bv]
 rcases ag σ n with _|B<;>(try rfl)<;>cases B<;>rfl
theorem ayf(e sz bytes d:Nat)(ys:List (List PV))(F:List Nat):uj e sz bytes (some d) σ .nils K ys F=((ag σ d=none∧ys.length*bytes≤140737488355328)∧K (.os d ys.length) [(d,.arr e sz false ys)] (d::F)):=(rfl)
theorem a8s(e sz bytes d:Nat)(xs ys:List (List PV))(F:List Nat):uj e sz bytes (some d) σ (.vx xs) K ys F=((ag σ d=none∧(∀x∈xs,x.length=sz)∧(xs.length+ys.length)*bytes≤140737488355328)∧(ys=[]→K (.vs xs) [] F)∧(0<ys.length→K (.os d (xs.length+ys.length)) [(d,.arr e sz false (xs++ys))] (d::F))):=(rfl)
theorem a61(t len:Nat)(parts:List (Nat×PV))(d:Nat):il P t len parts (some d) σ K=bv (slT P t) fun s=>match s with
  |some (e,sz,_)=>bv (ag σ (900000+d)) fun hint=>match hint with
   |none=>bv (oz σ sz 0 parts) fun r=>match r with
    |some (xs,ns)=>(ag σ d=none∧len=parts.length∧len*sz≤16777216)∧kk K (.os d xs.length) (da σ ns++[(d,.arr e sz false xs)]) (d::ns)
    |none=>False
   |some _=>bv (ow σ sz 0 parts) fun r=>match r with
    |some (xs,ns)=>(ag σ d=none∧len=parts.length∧len*sz≤16777216)∧kk K (.os d xs.length) (da σ ns++[(d,.arr e sz false xs)]) (d::ns)
    |none=>False
  |none=>False:=by
 simp only[il,bv,kk]
 rcases slT P t with _|⟨e,sz,b⟩
 ·rfl
 ·simp only
  rcases ag σ (900000+d)with _|B
  ·simp only;rcases oz σ sz 0 parts with _|⟨xs,ns⟩<;>simp only[and_assoc]
  ·simp only;rcases ow σ sz 0 parts with _|⟨xs,ns⟩<;>simp only[and_assoc]
end
section
variable (P:Program) (σ:ASt) (K:KT) {α:Type} [Inhabited α] (f:α→List PV) (l:List α)
theorem iv{i:Nat}(h:i<l.length):du (l.map f) i=f (el l i):=af4 f l i h
theorem av0(t:TypeId)(kd:IntKind)(i:Int):bm P t σ (.vs (l.map f)) (.int kd i) K=bv (slT P t) fun s=>match s with
  |some (_,sz,_)=>(0≤i∧i<l.length)∧bv (f (el l i.toNat)) fun c=>c.length=sz∧kk K (.el c) [] []
  |none=>False:=by
 rw[alf]
 simp only[bv]
 rcases slT P t with _|⟨e,sz,b⟩
 ·rfl
 ·simp only[List.length_map]
  refine propext (and_congr_right fun h=> ?_)
  rw[iv f l (by omega)]
theorem aqn(n k i off e sz:Nat)(sh:Bool):ap0 n k i off K (some none) (some (.arr e sz sh (l.map f)))=((k=l.length∧i<k)∧bv (f (el l i)) fun c=>off<c.length∧kk K (fj c off) [] [n]):=by
 simp only[ap0,bv,List.length_map,and_assoc]
 refine propext (and_congr_right fun h1=>and_congr_right fun h2=> ?_)
 rw[iv f l (by omega)]
theorem awb(n k i off m e sz:Nat)(sh:Bool):ap0 n k i off K (some (some m)) (some (.arr e sz sh (l.map f)))=((k=l.length∧i<k)∧bv (f (el l i)) fun c=>off+m≤c.length∧kk K (.agg ((c.drop off).take m)) [] [n]):=by
 simp only[ap0,bv,List.length_map,and_assoc]
 refine propext (and_congr_right fun h1=>and_congr_right fun h2=> ?_)
 rw[iv f l (by omega)]
end
theorem a31(P:Program)(σ:ASt){α:Type}(f:α→List PV)(l:List α)(tx sz:Nat)(k:List (List PV)→List Nat→Prop):xw P tx sz σ (.vs (l.map f)) k=bv (ay P tx) fun q=>(q=true∧∀y∈l,(f y).length=sz)∧k (l.map f) []:=by
 simp only[xw,bv,List.forall_mem_map]
def u8(b:UInt8):List PV:=[.int .u8 b.toNat]
theorem bbm(b:UInt8):u8 b=[.int .u8 b.toNat]:=(rfl)
theorem amc(l:List UInt8):bd l=l.map u8:=(rfl)
section
variable (P:Program) (N:Nat) (Q:sf) (fr:AFr) (σ:ASt)
theorem a4o:wv P N .skip Q fr σ=Q .normal fr σ:=(rfl)
theorem a6w(id:Nat):wv P N (.exit id) Q fr σ=Q (.exit id) fr σ:=(rfl)
theorem a84:wv P N .ret Q fr σ=Q .ret fr σ:=(rfl)
theorem a7l(a b:Code):wv P N (.seq a b) Q fr σ=wv P N a (wh (wv P N b Q) Q) fr σ:=(rfl)
theorem ax5(id:Nat)(c:Code):wv P N (.block id c) Q fr σ=wv P N c (yi id Q) fr σ:=(rfl)
def a5q(a b:Code):PV→Prop
 | .bool t=>(t=true→wv P N a Q fr σ)∧(t=false→wv P N b Q fr σ)
 |_=>False
theorem a6k(c:Operand)(a b:Code):wv P N (.cond c a b) Q fr σ=bv (ev fr c) (a5q P N Q fr σ a b):=by
 simp only[wv,bv]
 cases ev fr c<;>rfl
theorem y6(a b:Code)(t:Bool):a5q P N Q fr σ a b (.bool t)=((t=true→wv P N a Q fr σ)∧(t=false→wv P N b Q fr σ)):=(rfl)
theorem auy(id:Nat)(l:List Oper):wv P N (.region id l.toArray false) Q fr σ=l6 P l.toArray l fr σ (Q .normal):=(rfl)
def okD(ops:List Oper)(g:Log):Prop:=acw ops.toArray g.reverse=true
theorem ao1(id:Nat)(l:List Oper):wv P N (.region id l.toArray true) Q fr σ=evD P l.toArray l fr σ [] fun fr' σ' g=>okD l g∧Q .normal fr' σ':=(rfl)
variable (K:AFr→ASt→Prop)
theorem ad3:wh K Q .normal fr σ=K fr σ:=(rfl)
theorem anh(id:Nat):wh K Q (.exit id) fr σ=Q (.exit id) fr σ:=(rfl)
theorem auc:wh K Q .ret fr σ=Q .ret fr σ:=(rfl)
theorem abr(id:Nat):yi id Q .normal fr σ=Q .normal fr σ:=(rfl)
theorem ank(id:Nat):yi id Q .ret fr σ=Q .ret fr σ:=(rfl)
theorem ajk(id id':Nat):yi id Q (.exit id') fr σ=if id'=id then Q .normal fr σ else Q (.exit id') fr σ:=(rfl)
variable (rs:List ResultVar) (ns exts:List Nat) (r:PV) (nb ext':List Box)
theorem aij:bbx P rs ns exts r nb ext' .normal fr σ=ax0 P rs ns exts r nb ext' fr σ:=(rfl)
theorem axv:bbx P rs ns exts r nb ext' .ret fr σ=ax0 P rs ns exts r nb ext' fr σ:=(rfl)
theorem a58:ax0 P rs ns exts r nb ext' fr σ=bv (apy P fr σ rs) fun us=>bv (zh σ ns) fun a=>bv (zh σ exts) fun b=>match us with
  |some us=>bv (s5 σ ns exts us) fun c=>match a,b,c with
   |some (nb0,b1),some (e0,b2),some (us',b3)=>wm ns exts (b1++(b2++b3))=true∧nb0=nb∧e0=ext'∧aov us'=r
   |_,_,_=>False
  |none=>False:=by
 simp only[ax0,bv]
 rcases apy P fr σ rs with _|us
 ·rfl
 ·simp only
  rcases zh σ ns with _|⟨nb0,b1⟩<;>(try rfl)<;>rcases zh σ exts with _|⟨e0,b2⟩<;>(try rfl)<;>rcases s5 σ ns exts us with _|⟨us',b3⟩<;>rfl
end
attribute [congr] awr
theorem ajd{a0}:ey (.move a0)=false:=(rfl)
theorem ach{a0}:ey (.assign a0)=false:=(rfl)
theorem aiw{a0}{a1}{a2}:ey (.pick a0 a1 a2)=false:=(rfl)
theorem ac8{a0}:ey (.alloc a0)=false:=(rfl)
theorem afs{a0}{a1}:ey (.build a0 a1)=false:=(rfl)
theorem qx{a0}{a1}{a2}:ey (.buildSlice a0 a1 a2)=false:=(rfl)
theorem ahu{a0}{a1}:ey (.load a0 a1)=false:=(rfl)
theorem acy{a0}{a1}{a2}:ey (.store a0 a1 a2)=false:=(rfl)
theorem wz{a0}:ey (.nilCheck a0)=false:=(rfl)
theorem ada{a0}{a1}{a2}{a3}{a4}:ey (.binOp a0 a1 a2 a3 a4)=false:=(rfl)
theorem ahf{a0}{a1}{a2}:ey (.unOp a0 a1 a2)=false:=(rfl)
theorem xq{a0}{a1}{a2}:ey (.convert a0 a1 a2)=false:=(rfl)
theorem adn{a0}{a1}{a2}{a3}{a4}:ey (.slice a0 a1 a2 a3 a4)=false:=(rfl)
theorem sj{a0}{a1}{a2}:ey (.fieldAddr a0 a1 a2)=false:=(rfl)
theorem sy{a0}{a1}{a2}:ey (.indexAddr a0 a1 a2)=false:=(rfl)
theorem agj{a0}{a1}{a2}:ey (.index a0 a1 a2)=false:=(rfl)
theorem x7{a0}{a1}:ey (.extract a0 a1)=false:=(rfl)
theorem aig{a0}:ey (.call a0)=false:=(rfl)
attribute [go_sem] ajd ach aiw ac8 afs qx ahu acy wz ada ahf xq adn sj sy agj x7 aig
attribute [go_sem ↓] au0 a7y arj apl ar5 avw aoh awf ayu ack a1p a6d aiy
attribute [go_sem] ap5 akv mu ow k8 apt jj a16 awq aak az0 Box.arh.injEq Box.mp.injEq Box.it.injEq PV.mh.injEq
attribute [go_sem ↓] bb2
attribute [go_sem ↓] bbp aw4 ar1 a9d ax8 a4t avo ayx azz au2 a03 ato
attribute [go_sem ↓] ahs aeu af7 aq2 am6 amy ai2 a3a ae5 aau ab0 a6v ayh a1e aam azt
attribute [go_sem ↓] aww alr
attribute [go_sem ↓ 1100] aye
attribute [go_sem ↓ 1100] aqn awb av0 a31
theorem a5x(d e:Nat)(l:List UInt8)(K:KT):bb7 d e l K=kk K (.os d l.length) [(d,.arr e 1 false (l.map u8))] [d]:=(rfl)
attribute [go_sem] bbm amc a5x
attribute [go_sem ↓] ag4 aon aip
attribute [go_sem] anx anr anm am1 bb5 asa ayz azu aur aud au3 aoq aoz
attribute [go_sem ↓] amj a24 auq aul azs ao6 aya zp ac5 axu ag1 a06 awh a4i avr xu az2 ath ab3 abp asw as0 ay2 ahd ap1 abi adi a0y a4n aop a3p
attribute [go_sem ↓] amn atu ami wu ahg aib an0 ai9 alf a0p at9 aik ag7 ar2 ayn azw am5 arf
attribute [go_sem ↓] a4r a3t a30 a49 a43 a5z a3w a5n a9h a6j a40 a60 a6u a6f a6t a6x a0e a05 a0h a0a a01 axb azy a78 a9z a9p a7z
attribute [go_sem ↓] aot ape a8p
attribute [go_sem ↓] a9f a3k a81 a8k ayr azj a7n a91 as3 ave avg au9 bbf bb1 a9a a4j a1k a3v a8s a80 a5y a8t ayf a61
attribute [go_sem] a3r a32 a6r a6z ama ag0 as6 a0v auv a1m avk
attribute [go_sem ↓] a4o a6w a84 a7l ax5 a6k y6 auy ao1 ad3 anh auc abr ank ajk aij axv a58
theorem a6s(σ:ASt)(fr:AFr):wkF σ fr []=True:=(rfl)
theorem ay9(σ:ASt)(fr:AFr)(s:Nat)(u:PV)(r:AFr):wkF σ fr ((s,u)::r)=(bv (look fr s) (fun v=>bv u fun u=>wkU σ v u)∧wkF σ fr r):=(rfl)
theorem a6p(fr:AFr):wkN fr []=[]:=(rfl)
theorem a0n(fr:AFr)(s:Nat)(u:PV)(r:AFr):wkN fr ((s,u)::r)=a68 (look fr s) u++wkN fr r:=(rfl)
theorem a34(σ:ASt):wkS σ []=True:=(rfl)
theorem azf(σ:ASt)(n:Nat)(B:Box)(r:ASt):wkS σ ((n,B)::r)=(bv (ag σ n) (fun v=>v=some B)∧wkS σ r):=(rfl)
theorem bbv(fr:AFr)(σ:ASt)(fr':AFr)(σ':ASt):wk fr σ fr' σ'=(wkF σ fr fr'∧wkS σ σ'∧alj (σ'.map (·.1)) (wkN fr fr')=true∧a2v (σ'.map (·.1)) fr'=true∧yk (σ'.map (·.1)) σ'=true∧a69 (σ'.map (·.1)) σ=true):=(rfl)
theorem loop{P:Program}(hm:P.follows .mixedOrders=true){N:Nat}{c:Code}{Q:sf}{fr:AFr}{σ:ASt}{ι:Type}(i0:ι)(fs:ι→AFr)(ss:ι→ASt)(I:ι→Prop)(μ:ι→Nat)(hc:gp N c=true)(hI:I i0)(hw:wk fr σ (fs i0) (ss i0))
  (round: ∀i,I i→wv P N c (wh (fun fr' σ'=> ∃j,(I j∧μ j<μ i)∧wk fr' σ' (fs j) (ss j)) Q) (fs i) (ss i)):wv P N (.loop c) Q fr σ:=
 a7s hm hc fs ss I μ i0 hI hw round
theorem bb0{P:Program}(hm:P.follows .mixedOrders=true){N:Nat}{c:Code}{Q:sf}{fr:AFr}{σ:ASt}{ι:Type}(i0:ι)(fs:ι→AFr)(ss:ι→ASt)(I:ι→Prop)(μ:ι→Nat)(hc:gp N c=true)(l0:List (Nat×Nat))(hI:I i0)(hw:wkR l0 fr σ (fs i0) (ss i0))
  (round: ∀i,I i→wv P N c (wh (fun fr' σ'=> ∃j l,(I j∧μ j<μ i)∧wkR l fr' σ' (fs j) (ss j)) Q) (fs i) (ss i)):wv P N (.loop c) Q fr σ:=
 a4e hm hc fs ss I μ i0 hI l0 hw round
theorem a8f(l:List (Nat×Nat))(fr:AFr)(σ:ASt)(fr':AFr)(σ':ASt):wkR l fr σ fr' σ'=(a2f l fr σ∧bv (ash l fr σ) fun p=>wk p.1 p.2 fr' σ'):=(rfl)
theorem azp(fr:AFr)(σ:ASt):a2f [] fr σ=True:=(rfl)
theorem au6(n m:Nat)(r:List (Nat×Nat))(fr:AFr)(σ:ASt):a2f ((n,m)::r) fr σ=((bv (ag σ m) (fun B=>B=none)∧n<1000000∧m<1000000∧n≠m)∧bv (awk n m fr) fun fr=>bv (xx n m σ) fun σ=>a2f r fr σ):=(rfl)
theorem az4(fr:AFr)(σ:ASt):ash [] fr σ=(fr,σ):=(rfl)
theorem ati(n m:Nat)(r:List (Nat×Nat))(fr:AFr)(σ:ASt):ash ((n,m)::r) fr σ=ash r (awk n m fr) (xx n m σ):=(rfl)
attribute [go_sem ↓] a8f azp au6
attribute [go_sem] az4 ati awk xx renV l9 jy rn
attribute [go_sem ↓] a6p a6s ay9 a34 azf bbv
attribute [go_sem] a0n wkU a68 alj a2v yk a69 a1y adk
attribute [go_sem] decide_true decide_false decide_eq_true_eq decide_eq_false_iff_not Bool.not_eq_true' Bool.not_eq_false' Bool.not_true Bool.not_false true_and and_true false_and and_false forall_const implies_true not_true_eq_false not_false_eq_true eq_self ne_eq
attribute [go_sem] Bool.true_and Bool.and_true Bool.false_and Bool.and_false Bool.true_or Bool.or_true Bool.false_or Bool.or_false Bool.and_eq_true Bool.or_eq_true Bool.not_eq_true Bool.true_eq_false Bool.false_eq_true
attribute [go_sem] List.length_map List.length_cons List.length_nil List.length_append List.length_replicate List.map_cons List.map_nil List.append_nil List.nil_append List.cons_append List.toList_toArray List.all_nil List.all_cons
attribute [go_sem] List.take_zero List.take_succ_cons List.take_nil List.drop_zero List.drop_succ_cons List.drop_nil Option.map_some Option.map_none Option.getD_some Option.isSome_some Option.isSome_none
theorem a82{α:Type}(f:α→List PV)(l:List α)(n:Nat):(l.map f).take n=(l.take n).map f:=List.map_take.symm
theorem a89{α:Type}(f:α→List PV)(l:List α)(n:Nat):(l.map f).drop n=(l.drop n).map f:=List.map_drop.symm
theorem all_map{α:Type}(f:α→List PV)(l:List α)(p:List PV→Prop):(∀x∈l.map f,p x)= ∀x∈l,p (f x):=by simp
attribute [go_sem] a82 a89
attribute [go_sem ↓] all_map
theorem a85(n:Nat):((no_index (OfNat.ofNat n):Nat):Int)=OfNat.ofNat n:=(rfl)
attribute [go_sem] a85 Int.toNat_natCast Int.toNat_zero Int.ofNat_lt Int.ofNat_le Int.natCast_nonneg Int.ofNat_eq_natCast Int.zero_le_ofNat
attribute [go_sem] PV.int.injEq PV.bool.injEq PV.vs.injEq PV.str.injEq PV.os.injEq PV.tup.injEq PV.agg.injEq PV.ptr.injEq PV.el.injEq PV.fn.injEq Box.arr.injEq Box.cells.injEq Option.some.injEq Prod.mk.injEq List.cons.injEq
attribute [go_sem] List.not_mem_nil List.mem_cons List.contains_nil List.contains_cons or_false false_or not_or Nat.not_lt_zero Nat.zero_add Nat.add_zero
attribute [go_sem] dx pur gv oz a9t apy ahn zh az8 s5 aov ne eqC v7 xv uv f7
end Go.Proofs.Am
