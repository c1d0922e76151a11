/- GWFour. -/
import Derived.Test.YtloaichcpoboeaaGreatDoorGWTwo
import Derived.Test.YtloaichcpoboeaaGreatDoorGWOne
import Derived.Test.YtloaichcpoboeaaGreatDoorGAOne
import Derived.Test.YtloaichcpoboeaaGreatDoorCOne
set_option maxHeartbeats 1000000
set_option maxRecDepth 100000
set_option linter.unusedSimpArgs false
set_option linter.unusedVariables false
namespace Go.Proofs.Am
open Go Go.RowKit
open Go.Proofs
theorem av0(n:Nat)(h:n<=64):Den Tryz.prog 124 [.int .u64 1,.int .u64 n] [] (.tup [.int .u64 0,.int .u64 n]) [] []:=by
 refine aa Tryz.func124 rfl Tryz.call124 Tryz.ntmps124 Tryz.results124 (by simp) (by kernel_rfl) [] (exts:=[]) rfl rfl ?_;have key: ∀m:Nat,m<65->IntKind.u64.wrap (IntKind.u64.wrap (IntKind.u64.wrap (Int.fdiv 1 (2^min 32 64)*(m:Int).fdiv (2^min 32 64))+(IntKind.u64.wrap (IntKind.u64.wrap (Int.fdiv 1 (2^min 32 64)*bits BinOp.and IntKind.u64 (m:Int) 4294967295)+(IntKind.u64.wrap (bits BinOp.and IntKind.u64 1 4294967295*bits BinOp.and IntKind.u64 (m:Int) 4294967295)).fdiv (2^min 32 64))).fdiv (2^min 32 64))+(IntKind.u64.wrap (bits BinOp.and IntKind.u64 (IntKind.u64.wrap (IntKind.u64.wrap (Int.fdiv 1 (2^min 32 64)*bits BinOp.and IntKind.u64 (m:Int) 4294967295)+(IntKind.u64.wrap (bits BinOp.and IntKind.u64 1 4294967295*bits BinOp.and IntKind.u64 (m:Int) 4294967295)).fdiv (2^min 32 64))) 4294967295+IntKind.u64.wrap (bits BinOp.and IntKind.u64 1 4294967295*(m:Int).fdiv (2^min 32 64)))).fdiv (2^min 32 64))=0/\IntKind.u64.wrap (1*(m:Int))=(m:Int):=by decide+kernel
 simp only[go_sem];exact key n (by omega)
theorem ba3(n:Nat)(h:n<=64):Den Tryz.prog 87 [.int .u64 1,.int .u64 n] [] (.tup [.int .u64 0,.int .u64 n]) [] []:=by
 refine aa Tryz.func87 rfl Tryz.call87 Tryz.ntmps87 Tryz.results87 (by simp) (by kernel_rfl) [] (exts:=[]) rfl rfl ?_;simp only[go_sem];refine call (av0 n h) [] ?_;simp only[go_sem]
def aka(n m:Nat):List (List PV):=(List.replicate m (-1:Int)++List.replicate (n - m) (0:Int)).map i1
theorem a4p{n m:Nat}(h:m<=n):(aka n m).length=n:=by simp[aka];omega
theorem ays{n m:Nat}(h:m<=n):List.take m (aka n m)++(List.take (min m (n - m)) (aka n m)++List.drop (m+min m (n - m)) (aka n m))=aka n (m+min m (n - m)):=by
 have e:List.replicate m (-1:Int)++(List.replicate (min m (n - m)) (-1:Int)++List.replicate (n - (m+min m (n - m))) (0:Int))=List.replicate (m+min m (n - m)) (-1:Int)++List.replicate (n - (m+min m (n - m))) (0:Int):=by
  rw[<-List.append_assoc,List.replicate_append_replicate]
 unfold aka;rw[<-e];simp only[List.map_append];congr 1
 ·rw[List.take_append_of_le_length (by simp),List.take_of_length_le (by simp)]
 congr 1
 ·rw[List.take_append_of_le_length (by simp;omega),<-List.map_take,List.take_replicate];congr 2;omega
 ·rw[List.drop_append,List.drop_of_length_le (by simp),List.nil_append,<-List.map_drop,List.drop_replicate];simp only[List.length_map,List.length_replicate];congr 2;omega
theorem a5h(n:Nat):aka n n=List.replicate n [.int .i64 (-1)]:=by unfold aka;rw[Nat.sub_self];simp[i1]
theorem a4x(n:Nat):aka n 1=[.int .i64 (-1)]::List.replicate (n - 1) [.int .i64 0]:=by unfold aka;simp[i1]
theorem a4h{σ:ASt}(l:List Int):jl σ (l.map i1)=some (l.map i1,[]):=lp fun x hx=>by
 obtain⟨a,_,rfl⟩:=List.mem_map.1 hx;rfl
theorem asq(n:Nat)(h:n<=64)(h0:0<n):Den Tryz.prog 58 [.vs [[.int .i64 (-1)]],.int .i64 n] [] (.os 0 n) [.arr 3 1 false (List.replicate n [.int .i64 (-1)])] []:=by
 refine aa Tryz.func58 rfl Tryz.call58 Tryz.ntmps58 Tryz.results58 (by simp) (by kernel_rfl) [30] (exts:=[]) rfl rfl ?_;have g0: ¬(n:Int)<0:=by omega
 have w0:IntKind.u64.wrap (n:Int)=(n:Int):=by rw[show IntKind.u64.wrap (n:Int)=(n:Int) % 18446744073709551616 from rfl];omega
 have w1:IntKind.u64.wrap 1=1:=rfl;have w2:IntKind.i64.wrap (n:Int)=(n:Int):=by rw[ae]<;>omega
 have g2: ¬9223372036854775807<(n:Int):=by omega
 simp only[go_sem,g0,w0,w1];refine call (ba3 n h) [] ?_;simp only[go_sem,g2,w2,g0];have hm1:min 1 n=1:=by omega
 rw[hm1];refine⟨⟨Nat.le_refl _,by omega,by omega⟩,⟨h0,fun y hy=>by rw[hy];rfl⟩,?_⟩;refine jf (Cv.trans (Cv.opn (n:=30) (by rfl)) (Cv.hint (n:=900030) (by rfl))) ?_;refine r5 Tryz.mixed 1 (fun m:Nat=>[(7,.os 30 n),(8,.int .i64 m)]) (fun m=>[(30,.arh 3 1 (aka n m)),(900030,.dead 1 0)]) (fun m=>1<=m/\m<=n) (fun m=>n - m) (by kernel_rfl) ⟨Nat.le_refl _,h0⟩ ?_ ?_
 ·refine Cv.wk ?_;rw[List.drop_replicate];have hh:xu [30,900030] (aka n 1)=true:=bd _ _ (fun a=>rfl) _;simp only[go_sem,hh];exact(a4x n).symm
 intro m hm;have hl:=a4p hm.2;by_cases hlt:m<n
 ·have g1:(m:Int)<(n:Int):=by omega
  have hc:=ays hm.2;have w3:IntKind.i64.wrap ((m:Int)+((min m (n - m):Nat):Int))=((m+min m (n - m):Nat):Int):=by rw[ae]<;>omega
  have hh:xu [30,900030] (aka n (m+min m (n - m)))=true:=bd _ _ (fun a=>rfl) _;generalize aka n m=R at*;simp only[go_sem,g1,hl];rw[hc,w3];refine⟨by omega,by omega,ag (by kernel_rfl),m+min m (n - m),⟨⟨by omega,by omega⟩,by omega⟩,Cv.wk ?_⟩;simp only[go_sem,hh]
 ·have g1: ¬(m:Int)<(n:Int):=by omega
  have:m=n:=by omega
  subst this;generalize hR:aka m m=R at*;simp only[go_sem,g1,hl];refine⟨_,_,Cv.shutB (n:=30) (xs:=R) (by rfl) (by rw[<-hR];exact a4h _),?_⟩;simp only[go_sem];rw[<-hR];exact a5h m
def a3e(D:List Int):Nat:=D.countP fun d=>decide (0<=d)
theorem az9: ∀(D:List Int) (k:Nat) (d:Int),k<D.length->el D k<0->0<=d->a3e (D.set k d)=a3e D+1
 |[],k,d,h,_,_=>absurd h (Nat.not_lt_zero k)
 |a::D,0,d,_,h1,h2=>by
  have h1':a<0:=h1;show List.countP _ (d::D)=List.countP _ (a::D)+1
  rw[List.countP_cons_of_pos (by simpa using h2),List.countP_cons_of_neg (by simp;omega)]
 |a::D,k+1,d,h,h1,h2=>by
  have h3:a3e (D.set k d)=a3e D+1:=az9 D k d (by simpa using h) h1 h2;show List.countP _ (a::D.set k d)=List.countP _ (a::D)+1;unfold a3e at h3;rw[List.countP_cons,List.countP_cons,h3];omega
theorem a9z(D:List Int):a3e D<=D.length:=List.countP_le_length
def pin(O:Int->List Int)(n:Int)(D F:List Int)(i:Nat):List Int×List Int:=(F.take i).foldl (ow O n) (D,[])
theorem ao1{O:Int->List Int}{n:Int}{D F:List Int}{i:Nat}(h:i<F.length):pin O n D F (i+1)=ow O n (pin O n D F i) (el F i):=by
 unfold pin;rw[cu h,List.foldl_append];rfl
theorem axj(O:Int->List Int)(n:Int)(s:List Int×List Int)(x:Int):(ow O n s x).1.length=s.1.length:=by
 unfold ow;split
 ·rfl
 ·simp
theorem amz(O:Int->List Int)(n:Int)(D F:List Int)(i:Nat):(pin O n D F i).1.length=D.length:=by
 have: ∀(l:List Int) (s:List Int×List Int),(l.foldl (ow O n) s).1.length=s.1.length:=fun l=>by
  induction l with
  |nil=>intro s;rfl
  |cons a l ih=>intro s;rw[List.foldl_cons,ih,axj]
 exact this _ _
theorem awp{O:Int->List Int}{n:Int}{D F:List Int}{B:Nat}(hB: ∀x,(O x).length<=B)(hn:0<=n)(hF: ∀x∈F,0<=x/\x<(D.length:Int)): ∀i,i<=F.length->(pin O n D F i).2.length<=a3e (pin O n D F i).1*B
 |0,_=>Nat.zero_le _
 |i+1,h=>by
  have ih:=awp hB hn hF i (by omega);have hl:=amz O n D F i;have hx:=hF (el F i) (by rw[el,aw,a8 h];exact List.getElem_mem h);rw[ao1 h];unfold ow;split
  ·exact ih
  ·rename_i hc;show(_++_:List Int).length<=a3e (_:List Int)*B;rw[az9 _ _ _ (by omega) (by omega) hn,List.length_append,Nat.add_mul,Nat.one_mul];exact Nat.add_le_add ih (hB _)
theorem bcb{g:Gr}{O:Int->List Int}{S:List Int}(hB: ∀x,(O x).length<=1000)(hz:g.sz<=64)(hF: ∀n,(pfr g O S n).1.length=g.sz.toNat/\∀x∈(pfr g O S n).2,0<=x/\x<g.sz): ∀n,(pfr g O S n).2.length<=64000
 |0=>by
  show(List.filter _ _).length<=_;refine Nat.le_trans (List.length_filter_le _ _) ?_;simp
  omega
 |n+1=>by
  show(au3 g _).length<=_;refine Nat.le_trans (List.length_filter_le _ _) ?_;have h:=awp (O:=O) (n:=n) (D:=(pfr g O S n).1) (F:=(pfr g O S n).2) (B:=1000) hB (by omega) (fun x hx=>by have h1:=hF n;have h2:=h1.2 x hx;rw[h1.1];omega) (pfr g O S n).2.length (Nat.le_refl _);have hc:=a9z (pin O n (pfr g O S n).1 (pfr g O S n).2 (pfr g O S n).2.length).1;rw[amz,(hF n).1]at hc;unfold pin at h hc;rw[List.take_length]at h hc;have:a3e (List.foldl (ow O n) ((pfr g O S n).1,[]) (pfr g O S n).2).1*1000<=64*1000:=Nat.mul_le_mul_right _ (by omega);omega
theorem awf(g:Gr)(S:List Int)(O:Int->List Int)(hg:OkE g)(hS: ∀x∈S,0<=x/\x<g.sz)(h0:0<g.sz)(h64:g.sz<=64)(h2:big g.gone.length)(h3:big S.length)
  (hO: ∀x y,y∈O x↔∃e∈g.ed,e.fr=x/\e.to=y) (hB: ∀x,(O x).length<=1000)
  (cO: ∀x,Den Tryz.prog 62 [.agg (gr g),.int .i64 x] [] (.vs ((O x).map i1)) [] []):
  Den Tryz.prog 29 [.agg (gr g),.vs (S.map i1)] [] (.os 0 (bg g S).length) [.arr 3 1 false ((bg g S).map i1)] []:=by
 refine aa Tryz.func29 rfl Tryz.call29 Tryz.ntmps29 Tryz.results29 (by simp) (by kernel_rfl) [15] (exts:=[]) rfl rfl ?_;have hsp:=ww (S:=S) hg hO;have hF: ∀n,(pfr g O S n).1.length=g.sz.toNat/\∀x∈(pfr g O S n).2,0<=x/\x<g.sz:=fun n=>⟨by rw[(hsp n).1];exact wj _ _,fun x hx=>((hsp n).2 x|>.1 hx).1⟩;have hfl:=bcb hB h64 hF;have hlt: ∀n,(pfr g O S n).2≠[]->n<g.sz.toNat:=fun n h=>bg1 hg hO hS h;have hend: ∀n,n<=g.sz.toNat+1->(pfr g O S n).2=[]->(pfr g O S n).1=bg g S:=fun n hn h=>bau hg hO hS hn h
 have hp0:pfr g O S 0=((List.replicate g.sz.toNat (-1:Int)),whr (fun k=>decide (k∈S)&& !decide (k∈g.gone)) g.sz.toNat):=by
  show(rt g (fun _=> -1),_)=_;congr 1;unfold rt;simp[List.map_const']
 have hps: ∀n,pfr g O S (n+1)=((pin O n (pfr g O S n).1 (pfr g O S n).2 (pfr g O S n).2.length).1,au3 g (pin O n (pfr g O S n).1 (pfr g O S n).2 (pfr g O S n).2.length)):=fun n=>by unfold pin;rw[List.take_length];rfl
 have cR:=asq g.sz.toNat (by omega) (by omega);have cW:=a09 g S g.sz.toNat (by omega) h2 h3;have hsz:((g.sz.toNat:Nat):Int)=g.sz:=by omega
 rw[hsz]at cR cW;rw[dv]at cW;have hmx:(if 0<g.sz then g.sz else 0)=g.sz:=if_pos h0;simp only[go_sem,hmx];refine call cR [] ?_;simp only[go_sem];refine call cW [2,3] ?_;generalize hP:pfr g O S=P at*;generalize hZ:g.sz.toNat=Z at*;simp only[go_sem];refine loop Tryz.mixed (0:Nat) (fun n:Nat=>[(2,.ptr 2 0),(5,.ptr 5 0),(6,.vs ((P n).2.map i1)),(7,.int .i64 n)]) (fun n=>[(2,.cells (gr g)),(5,.cells [.os 15 Z]),(15,.arr 3 1 false ((P n).1.map i1))]) (fun n=>n<=Z) (fun n=>Z - n) (by kernel_rfl) (Nat.zero_le _) ?_ ?_
 ·rw[hp0];simp only[go_sem];simp[i1]
 intro n hn;obtain⟨hD,hx⟩:=hF n;have hsx:=hps n;have hfn:=hfl n;have hltn:=hlt n;have hen:=hend n (by omega);generalize P n=p at*;obtain⟨D,F⟩:=p;simp only at hD hx hsx hfn hltn hen;by_cases hf:F=[]
 ·subst hf;have:=hen rfl;subst this;have gz:(bg g S).length=Z:=hD;simp only[go_sem];exact gz.symm
 ·have gp:(0:Int)<(F.length:Int):=by have:=List.length_pos_iff.2 hf;omega
  have hnZ:=hltn hf;have w7:IntKind.i64.wrap ((n:Int)+1)=((n+1:Nat):Int):=by rw[ae]<;>omega
  simp only[go_sem,gp];have ps: ∀i,i<F.length->pin O n D F (i+1)=ow O n (pin O n D F i) (el F i):=fun i hi=>ao1 hi;have pl:=amz O n D F
  have pb: ∀i,i<=F.length->(pin O n D F i).2.length<=64000:=fun i hi=>by
   have h1:=awp (O:=O) (n:=n) (D:=D) (F:=F) (B:=1000) hB (by omega) (fun x h=>by have:=hx x h;omega) i hi;have h2:=a9z (pin O n D F i).1;rw[pl,hD]at h2;have:a3e (pin O n D F i).1*1000<=64*1000:=Nat.mul_le_mul_right _ (by omega);omega
  have p0:pin O n D F 0=(D,[]):=rfl;generalize hQ:pin O n D F=Q at*;refine da 8 98 3 1 false ?_ (by rfl) (by rfl) (by omega);refine loop Tryz.mixed (0:Nat) (fun i:Nat=>[(2,.ptr 2 0),(5,.ptr 5 0),(7,.int .i64 n),(8,.os 98 (Q i).2.length),(25,.vs (F.map i1)),(26,.int .i64 F.length),(27,.int .i64 i)]) (fun i=>[(2,.cells (gr g)),(5,.cells [.os 15 Z]),(15,.arr 3 1 false ((Q i).1.map i1)),(98,.arr 3 1 false ((Q i).2.map i1))]) (fun i=>i<=F.length) (fun i=>F.length - i) (by kernel_rfl) (Nat.zero_le _) ?_ ?_
  ·rw[p0];simp only[go_sem]
  intro i hi;by_cases hli:i<F.length
  ·have g1:(i:Int)<(F.length:Int):=by omega
   have psi:=ps i hli;have pli:=pl i;have pbi:=pb i hi;have pbj:=pb (i+1) hli;obtain⟨hx0,hx1⟩:=hx (el F i) (by rw[el,aw,a8 hli];exact List.getElem_mem hli);have cOx:=cO (el F i);rw[dv]at cOx;have w8:IntKind.i64.wrap ((i:Int)+1)=((i+1:Nat):Int):=by rw[ae]<;>omega
   generalize Q i=q at*;obtain⟨E,N⟩:=q;simp only at pli pbi;have hZE:Z=E.length:=by omega
   subst hZE;have hxZ:(el F i).toNat<E.length:=by omega
   have hxI:el F i<(E.length:Int):=by omega
   unfold ow at psi;by_cases hc:0<=el E (el F i).toNat
   ·rw[if_pos hc]at psi;simp only[go_sem,g1,hli,hx0,hxI,hxZ,hc];exact⟨i+1,⟨hli,by omega⟩,⟨by rw[psi],w8⟩,by rw[psi],by rw[psi]⟩
   ·rw[if_neg hc]at psi;have hbN:(N.length+(O (el F i)).length)*8<=140737488355328:=by have:=hB (el F i);omega
    simp only[go_sem,g1,hli,hx0,hxI,hxZ,hc];refine call cOx [] ?_;simp only[go_sem];refine⟨hbN,i+1,⟨hli,by omega⟩,⟨by rw[psi,List.length_append],w8⟩,?_,by rw[psi,List.map_append]⟩;rw[psi,List.map_set];rfl
  ·have g1: ¬(i:Int)<(F.length:Int):=by omega
   have:i=F.length:=by omega
   subst this;have pbi:=pb F.length (Nat.le_refl _);have pli:=pl F.length
   have hnx:au3 g (Q F.length)=(Q F.length).2.filter (lr (Q F.length).1):=by
    unfold au3 lr;rw[pli,hD];congr 1;funext y;rw[show((Z:Nat):Int)=g.sz by omega]
   rw[hnx]at hsx;generalize Q F.length=q at*;obtain⟨E,N⟩:=q;simp only at pli pbi hsx;have hZE:Z=E.length:=by omega
   subst hZE;obtain⟨new,hnew,cD⟩:=ale N E (by simp only[big];omega) (by omega);simp only[go_sem,g1];refine aii cD [.arr 3 1 false (N.map i1)] [.arr 3 1 true new] [98] 5 15 [98,5,15] rfl rfl rfl ?_;simp only[go_sem,w7];refine⟨⟨rfl,by omega⟩,n+1,⟨hnZ,by omega⟩,⟨by rw[hsx],rfl⟩,by rw[hsx]⟩
def lsS(d gone ta K:List Int)(i:Nat):Int:=((K.take i).map (u5 d gone ta K)).sum
theorem aqs{d gone ta K:List Int}{i:Nat}(h:i<K.length):lsS d gone ta K (i+1)=lsS d gone ta K i+u5 d gone ta K (el K i):=by
 unfold lsS;rw[cu h,List.map_append,List.sum_append];simp
theorem bek(d gone ta K:List Int):lsS d gone ta K K.length=yy d gone ta K:=by unfold lsS yy;rw[List.take_length]
theorem aqg(d gone ta K:List Int):lsS d gone ta K 0=0:=rfl
theorem aep{n:Int}{p:Pol}(h:i9 n p=true)(d:Int):0<=kw p.ta d/\kw p.ta d<=1000:=by
 have hp:aaf (jc p.ta) p.ta.length=true:=by
  unfold i9 at h;simp only[Bool.and_eq_true]at h;exact h.2.2.2
 unfold kw;split
 ·omega
 ·split
  ·rename_i h1 h2;have:=of_decide_eq_true (qk.1 hp d.toNat (by omega));omega
  ·omega
theorem azv{g:Gr}{S:List Int}(h0:0<=g.sz)(h64:g.sz<=64):OkD (bg g S) g.sz:=by
 have hl:(bg g S).length=g.sz.toNat:=wj _ _
 have key: ∀i,el (bg g S) i=if i<g.sz.toNat then dvl g S (g.sz.toNat+1) (i:Int)else 0:=fun i=>by
  by_cases h:i<g.sz.toNat
  ·rw[if_pos h];exact tc (g:=g) (f:=dvl g S (g.sz.toNat+1)) (k:=(i:Int)) (by omega) (by omega)
  ·rw[if_neg h];simp[el,aw,show¬i<(bg g S).length by omega]
 refine⟨by omega,fun i=> ?_,fun i=> ?_⟩
 ·rw[key];split
  ·exact(va g S i (g.sz.toNat+1)).1
  ·omega
 ·rw[key];split
  ·have:=(va g S i (g.sz.toNat+1)).2;omega
  ·omega
theorem a7z{n:Int}{p:Pol}(h:i9 n p=true)(d gone K:List Int)(x:Int): -1<=u5 d gone p.ta K x/\u5 d gone p.ta K x<=1000:=by
 have:=aep h (mo d K x);unfold u5;split<;>omega
theorem a9o{n:Int}{p:Pol}(h:i9 n p=true)(d gone K:List Int): ∀i,i<=K.length-> -(i:Int)<=lsS d gone p.ta K i/\lsS d gone p.ta K i<=1000*(i:Int)
 |0,_=>by rw[aqg];omega
 |i+1,hi=>by
  have ih:=a9o h d gone K i (by omega);have:=a7z h d gone K (el K i);rw[aqs (by omega)];omega
theorem zk(g:Gr)(p:Pol)(K:List Int)(g1:g.ed.length<=1000)(g2:g.gone.length<=1000)(h1:big p.se.length)(h2:big p.ta.length)(hK:big K.length)
  (cD:qr g p=0->Den Tryz.prog 29 [.agg (gr (bz g p.lv)),.vs (p.se.map i1)] [] (.os 0 (bg (bz g p.lv) p.se).length) [.arr 3 1 false ((bg (bz g p.lv) p.se).map i1)] []):
  Den Tryz.prog 12 [.agg (gr g),.agg (pl p),.vs (K.map i1)] [] (.tup [.int .i64 (alv g p K).1,.int .i64 (alv g p K).2]) [] []:=by
 refine aa Tryz.func12 rfl Tryz.call12 Tryz.ntmps12 Tryz.results12 (by simp) (by kernel_rfl) [] (exts:=[]) rfl rfl ?_;have c1:=a5y g p (by simp only[big];omega) (by simp only[big];omega) h1 h2;have c2:=ase K g.sz hK;have c3:=beu g p.lv g1 g2;have hR:alv g p K=if qr g p≠0 then(0,qr g p)else if a15 K g.sz=false then(0,4)else(yy (bg (bz g p.lv) p.se) g.gone p.ta K,0):=rfl
 rw[dv,mt]at c1;rw[dv]at c3;simp only[go_sem];refine call c1 [] ?_;by_cases hc:qr g p=0
 rotate_left
 ·rw[if_pos hc]at hR;rw[hR];simp only[go_sem,hc]
 rw[if_neg (by simp[hc])]at hR;have cd:=cD hc;simp only[go_sem,hc];refine call c2 [] ?_;by_cases hd:a15 K g.sz=true
 rotate_left
 ·rw[if_pos (by simpa using hd)]at hR;rw[hR];simp only[go_sem,hd]
 rw[if_neg (by simp[hd])]at hR
 have hG:bh g=true:=by
  by_cases h:bh g=true
  ·exact h
  ·exfalso;unfold qr at hc;rw[if_pos (by simpa using h)]at hc;omega
 have hP:i9 g.sz p=true:=by
  by_cases h:i9 g.sz p=true
  ·exact h
  ·exfalso;unfold qr at hc;rw[if_neg (by simp[hG]),if_pos (by simpa using h)]at hc;omega
 have hz:=(ig.1 hG).1
 have hK16:K.length<=16/\∀k∈K,0<=k/\k<g.sz:=by
  unfold a15 at hd;rw[Bool.and_eq_true,decide_eq_true_eq]at hd;exact⟨hd.2,(c7.1 hd.1).1⟩
 have hD:OkD (bg (bz g p.lv) p.se) g.sz:=azv (g:=bz g p.lv) hz.1 hz.2.1;have hsb:=a9o hP (bg (bz g p.lv) p.se) g.gone K;have hss:=fun i (h:i<K.length)=>aqs (d:=bg (bz g p.lv) p.se) (gone:=g.gone) (ta:=p.ta) h;have hse:=bek (bg (bz g p.lv) p.se) g.gone p.ta K;have hs0:=aqg (bg (bz g p.lv) p.se) g.gone p.ta K;have hcb:=aep hP;rw[hR];rw[<-hse];rw[dv]at cd;generalize bg (bz g p.lv) p.se=D at*;simp only[go_sem,hd];refine call c3 [] ?_;simp only[go_sem];refine call cd [] ?_;simp only[go_sem];refine⟨ag (by kernel_rfl),?_⟩;refine loop Tryz.mixed (0:Nat) (fun i:Nat=>[(2,.vs (K.map i1)),(3,.ptr 3 0),(4,.ptr 4 0),(9,.vs (D.map i1)),(10,.int .i64 (lsS D g.gone p.ta K i)),(32,.vs (K.map i1)),(33,.int .i64 K.length),(34,.int .i64 i)]) (fun _=>[(3,.cells (gr g)),(4,.cells (pl p))]) (fun i=>i<=K.length) (fun i=>K.length - i) (by kernel_rfl) (Nat.zero_le _) ?_ ?_
 ·rw[hs0];simp only[go_sem]
 intro i hi;by_cases hlt:i<K.length
 ·have gl:(i:Int)<(K.length:Int):=by omega
  have hx:=hK16.2 (el K i) (dl hlt);have hsi:=hss i hlt;have hb1:=hsb i (by omega);have hb2:=hsb (i+1) (by omega);have cl:=awc D K g.sz (el K i) hD ⟨hz.1,hz.2.1⟩ hK hK16.2 hx;have cc:=f9 g.gone (el K i) (by simp only[big];omega);have co:=a2z p (mo D K (el K i));rw[mt]at co;have w8:IntKind.i64.wrap ((i:Int)+1)=((i+1:Nat):Int):=by rw[ae]<;>omega
  have hcc:=hcb (mo D K (el K i));have wc:IntKind.i64.wrap (kw p.ta (mo D K (el K i)) - 1)=kw p.ta (mo D K (el K i)) - 1:=by rw[ae]<;>omega
  unfold u5 at hsi;generalize lsS D g.gone p.ta K=s at*;simp only[go_sem,gl,hlt];refine call cl [] ?_;generalize mo D K (el K i)=L at*;generalize kw p.ta L=C at*;by_cases m1:0<=L
  ·simp only[go_sem,m1];refine call cc [] ?_;by_cases m2:el K i∈g.gone
   ·rw[if_neg (by simp[m2]),Int.add_zero]at hsi;simp only[go_sem,m2];exact⟨i+1,⟨hlt,by omega⟩,hsi.symm,w8⟩
   ·rw[if_pos ⟨m1,m2⟩]at hsi;have ws:IntKind.i64.wrap (s i+(C - 1))=s i+(C - 1):=by rw[ae]<;>omega
    simp only[go_sem,m2];refine call co [] ?_;simp only[go_sem,wc,ws];exact⟨i+1,⟨hlt,by omega⟩,hsi.symm,w8⟩
  ·rw[if_neg (by simp[m1]),Int.add_zero]at hsi;simp only[go_sem,m1];exact⟨i+1,⟨hlt,by omega⟩,hsi.symm,w8⟩
 ·have gl: ¬(i:Int)<(K.length:Int):=by omega
  have:i=K.length:=by omega
  subst this;simp only[go_sem,gl]
theorem abe(l:List Int): ∀(n i p:Nat),(qw l n i p).Pairwise (· < ·)
 |0,_,_=>List.Pairwise.nil
 |n+1,i,p=>by
  rw[qw,List.pairwise_append];refine⟨by split<;>simp,abe l n (i+1) (ob l p),fun a ha b hb=> ?_⟩;have:=(o9 l n (i+1) (ob l p) b hb).1;split at ha
  ·simp at ha;omega
  ·simp at ha
theorem bcq{K:List Int}{n:Int}(h0:0<=n)(h:n<=16)(hp:K.Pairwise (· < ·))(hr: ∀x∈K,0<=x/\x<n):a15 K n=true:=by
 unfold a15;rw[c7.2 ⟨hr,hp⟩,Bool.true_and,decide_eq_true_eq]
 have:=lz (l:=K) (m:=(List.range n.toNat).map fun k:Nat=>(k:Int)) (hp.imp fun h=>by omega) fun x hx=>by
  have:=hr x hx;exact List.mem_map.2 ⟨x.toNat,List.mem_range.2 (by omega),by omega⟩
 rw[List.length_map,List.length_range]at this;omega
theorem ber(l:List Int){p:Nat}(hp:p<=l.length):(mgr l p).2<=l.length:=by
 have key: ∀(n:Nat) (s:Gr×Nat),s.2<=l.length->(a4g l n s).2<=l.length:=fun n=>by
  induction n with
  |zero=>exact fun s h=>h
  |succ n ih=>
   intro s h;rw[a4g];refine ih _ ?_;unfold aeu;exact dm h 3
 refine key _ _ (dm ?_ 1);unfold po;split
 ·exact dm hp 3
 ·exact dm hp 2
theorem a4b(l:List Int){p:Nat}(hp:p<=l.length):ayr l p<=l.length:=by
 unfold ayr;refine dm ?_ _;unfold pAt;split
 ·exact dm hp 4
 ·exact dm hp 3
theorem apo{l:List Int}{n:Int}(h:kr l n=true)(h0:0<=n):l.length<=n.toNat:=by
 obtain⟨h1,h2⟩:=c7.1 h
 have:=lz (l:=l) (m:=(List.range n.toNat).map fun k:Nat=>(k:Int)) (h2.imp fun h=>by omega) fun x hx=>by
  have:=h1 x hx;exact List.mem_map.2 ⟨x.toNat,List.mem_range.2 (by omega),by omega⟩
 rw[List.length_map,List.length_range]at this;exact this
theorem a5b{g:Gr}{x y:Int}:y∈ae8 g x↔∃e∈g.ed,e.fr=x/\e.to=y:=by
 unfold ae8;rw[List.mem_map];constructor
 ·rintro⟨e,he,rfl⟩;obtain⟨h1,h2⟩:=List.mem_filter.1 he;exact⟨e,h1,of_decide_eq_true h2,rfl⟩
 ·rintro⟨e,h1,h2,rfl⟩;exact⟨e,List.mem_filter.2 ⟨h1,decide_eq_true h2⟩,rfl⟩
theorem ay1(O:Gr->Int->List Int)(hm: ∀g x y,y∈O g x↔y∈ae8 g x)(hl: ∀g x,(O g x).length=(ae8 g x).length)
  (cO: ∀g x,g.ed.length<=1000->Den Tryz.prog 62 [.agg (gr g),.int .i64 x] [] (.vs ((O g x).map i1)) [] [])
  (g:Gr) (p:Pol) (h:qr g p=0) (hL:g.ed.length<=1000):Den Tryz.prog 29 [.agg (gr (bz g p.lv)),.vs (p.se.map i1)] [] (.os 0 (bg (bz g p.lv) p.se).length) [.arr 3 1 false ((bg (bz g p.lv) p.se).map i1)] []:=by
 have hG:bh g=true:=by
  by_cases h1:bh g=true
  ·exact h1
  ·exfalso;unfold qr at h;rw[if_pos (by simpa using h1)]at h;omega
 have hP:i9 g.sz p=true:=by
  by_cases h1:i9 g.sz p=true
  ·exact h1
  ·exfalso;unfold qr at h;rw[if_neg (by simp[hG]),if_pos (by simpa using h1)]at h;omega
 obtain⟨hz,hgone,_⟩:=ig.1 hG
 have hse:0<p.se.length/\kr p.se g.sz=true:=by
  unfold i9 at hP;simp only[Bool.and_eq_true,decide_eq_true_eq]at hP;exact⟨hP.1,hP.2.1⟩
 have hS:=(c7.1 hse.2).1;have h0:=hS _ (dl hse.1);have hEd:(bz g p.lv).ed.length<=1000:=Nat.le_trans (List.length_filter_le _ _) hL;have l1:=apo hse.2 hz.1;have l2:=apo hgone hz.1;refine awf (bz g p.lv) p.se (O (bz g p.lv)) (apl hG p.lv) hS (by show 0<g.sz;omega) (by show g.sz<=64;omega) (by show big g.gone.length;simp only[big];omega) (by simp only[big];omega) (fun x y=>(hm _ x y).trans a5b) (fun x=> ?_) (fun x=>cO _ x hEd);rw[hl];unfold ae8;rw[List.length_map];exact Nat.le_trans (List.length_filter_le _ _) hEd
end Go.Proofs.Am
