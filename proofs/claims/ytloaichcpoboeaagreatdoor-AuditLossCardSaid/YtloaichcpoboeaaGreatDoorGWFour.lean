/- GWFour. -/
import Derived.Test.YtloaichcpoboeaaGreatDoorGWTwo
import Derived.Test.YtloaichcpoboeaaGreatDoorGWOne
import Derived.Test.YtloaichcpoboeaaGreatDoorGAOne
import Derived.Test.YtloaichcpoboeaaGreatDoorCOne
set_option maxHeartbeats 1000000
set_option maxRecDepth 100000
set_option linter.unusedSimpArgs false
set_option linter.unusedVariables false
namespace Go.Proofs.Am
open Go Go.RowKit
open Go.Proofs
theorem axa(n:Nat)(h:n≤64):Den Tryz.prog 124 [.int .u64 1,.int .u64 n] [] (.tup [.int .u64 0,.int .u64 n]) [] []:=by
 refine aa Tryz.mixed Tryz.func124 rfl Tryz.call124 Tryz.ntmps124 (congrArg Array.toList Tryz.results124) (by simp) (by kernel_rfl) [] (exts:=[]) rfl rfl ?_
 have key: ∀m:Nat,m<65→IntKind.u64.wrap (IntKind.u64.wrap (IntKind.u64.wrap (Int.fdiv 1 (2^min 32 64)*(m:Int).fdiv (2^min 32 64))+(IntKind.u64.wrap (IntKind.u64.wrap (Int.fdiv 1 (2^min 32 64)*bits BinOp.and IntKind.u64 (m:Int) 4294967295)+(IntKind.u64.wrap (bits BinOp.and IntKind.u64 1 4294967295*bits BinOp.and IntKind.u64 (m:Int) 4294967295)).fdiv (2^min 32 64))).fdiv (2^min 32 64))+(IntKind.u64.wrap (bits BinOp.and IntKind.u64 (IntKind.u64.wrap (IntKind.u64.wrap (Int.fdiv 1 (2^min 32 64)*bits BinOp.and IntKind.u64 (m:Int) 4294967295)+(IntKind.u64.wrap (bits BinOp.and IntKind.u64 1 4294967295*bits BinOp.and IntKind.u64 (m:Int) 4294967295)).fdiv (2^min 32 64))) 4294967295+IntKind.u64.wrap (bits BinOp.and IntKind.u64 1 4294967295*(m:Int).fdiv (2^min 32 64)))).fdiv (2^min 32 64))=0∧IntKind.u64.wrap (1*(m:Int))=(m:Int):=by decide+kernel
 simp only[go_sem]
 exact key n (by omega)
theorem a8u(n:Nat)(h:n≤64):Den Tryz.prog 87 [.int .u64 1,.int .u64 n] [] (.tup [.int .u64 0,.int .u64 n]) [] []:=by
 refine aa Tryz.mixed Tryz.func87 rfl Tryz.call87 Tryz.ntmps87 (congrArg Array.toList Tryz.results87) (by simp) (by kernel_rfl) [] (exts:=[]) rfl rfl ?_
 simp only[go_sem]
 refine call (axa n h) [] ?_
 simp only[go_sem]
def ag7(n m:Nat):List (List PV):=(List.replicate m (-1:Int)++List.replicate (n - m) (0:Int)).map i1
theorem a16{n m:Nat}(h:m≤n):(ag7 n m).length=n:=by simp[ag7];omega
theorem ari{n m:Nat}(h:m≤n):List.take m (ag7 n m)++(List.take (min m (n - m)) (ag7 n m)++List.drop (m+min m (n - m)) (ag7 n m))=ag7 n (m+min m (n - m)):=by
 have e:List.replicate m (-1:Int)++(List.replicate (min m (n - m)) (-1:Int)++List.replicate (n - (m+min m (n - m))) (0:Int))=List.replicate (m+min m (n - m)) (-1:Int)++List.replicate (n - (m+min m (n - m))) (0:Int):=by
  rw[←List.append_assoc,List.replicate_append_replicate]
 unfold ag7
 rw[←e]
 simp only[List.map_append]
 congr 1
 ·rw[List.take_append_of_le_length (by simp),List.take_of_length_le (by simp)]
 congr 1
 ·rw[List.take_append_of_le_length (by simp;omega),←List.map_take,List.take_replicate]
  congr 2
  omega
 ·rw[List.drop_append,List.drop_of_length_le (by simp),List.nil_append,←List.map_drop,List.drop_replicate]
  simp only[List.length_map,List.length_replicate]
  congr 2
  omega
theorem azy(n:Nat):ag7 n n=List.replicate n [.int .i64 (-1)]:=by unfold ag7;rw[Nat.sub_self];simp[i1]
theorem a0q(n:Nat):ag7 n 1=[.int .i64 (-1)]::List.replicate (n - 1) [.int .i64 0]:=by unfold ag7;simp[i1]
theorem a15{σ:ASt}(l:List Int):iu σ (l.map i1)=some (l.map i1,[]):=kz fun x hx=>by
 obtain⟨a,_,rfl⟩:=List.mem_map.1 hx
 rfl
theorem apn(n:Nat)(h:n≤64)(h0:0<n):Den Tryz.prog 58 [.vs [[.int .i64 (-1)]],.int .i64 n] [] (.os 0 n) [.arr 3 1 false (List.replicate n [.int .i64 (-1)])] []:=by
 refine aa Tryz.mixed Tryz.func58 rfl Tryz.call58 Tryz.ntmps58 (congrArg Array.toList Tryz.results58) (by simp) (by kernel_rfl) [30] (exts:=[]) rfl rfl ?_
 have g0: ¬(n:Int)<0:=by omega
 have w0:IntKind.u64.wrap (n:Int)=(n:Int):=by rw[show IntKind.u64.wrap (n:Int)=(n:Int) % 18446744073709551616 from rfl];omega
 have w1:IntKind.u64.wrap 1=1:=rfl
 have w2:IntKind.i64.wrap (n:Int)=(n:Int):=by rw[ae]<;>omega
 have g2: ¬9223372036854775807<(n:Int):=by omega
 simp only[go_sem,g0,w0,w1]
 refine call (a8u n h) [] ?_
 simp only[go_sem,g2,w2,g0]
 have hm1:min 1 n=1:=by omega
 rw[hm1]
 refine⟨⟨Nat.le_refl _,by omega,by omega⟩,⟨h0,fun y hy=>by rw[hy];rfl⟩,?_⟩
 refine lp (Cv.trans (Cv.opn (n:=30) (by rfl)) (Cv.hint (n:=900030) (by rfl))) ?_
 refine qq Tryz.mixed 1 (fun m:Nat=>[(7,.os 30 n),(8,.int .i64 m)]) (fun m=>[(30,.arh 3 1 (ag7 n m)),(900030,.dead 1 0)]) (fun m=>1≤m∧m≤n) (fun m=>n - m) (by kernel_rfl) ⟨Nat.le_refl _,h0⟩ ?_ ?_
 ·refine Cv.wk ?_
  rw[List.drop_replicate]
  have hh:vz [30,900030] (ag7 n 1)=true:=aw _ _ (fun a=>rfl) _
  simp only[go_sem,hh]
  exact(a0q n).symm
 intro m hm
 have hl:=a16 hm.2
 by_cases hlt:m<n
 ·have g1:(m:Int)<(n:Int):=by omega
  have hc:=ari hm.2
  have w3:IntKind.i64.wrap ((m:Int)+((min m (n - m):Nat):Int))=((m+min m (n - m):Nat):Int):=by rw[ae]<;>omega
  have hh:vz [30,900030] (ag7 n (m+min m (n - m)))=true:=aw _ _ (fun a=>rfl) _
  generalize ag7 n m=R at*
  simp only[go_sem,g1,hl]
  rw[hc,w3]
  refine⟨by omega,by omega,ag (by kernel_rfl),m+min m (n - m),⟨⟨by omega,by omega⟩,by omega⟩,Cv.wk ?_⟩
  simp only[go_sem,hh]
 ·have g1: ¬(m:Int)<(n:Int):=by omega
  have:m=n:=by omega
  subst this
  generalize hR:ag7 m m=R at*
  simp only[go_sem,g1,hl]
  refine⟨_,_,Cv.shutB (n:=30) (xs:=R) (by rfl) (by rw[←hR];exact a15 _),?_⟩
  simp only[go_sem]
  rw[←hR]
  exact azy m
def aya(D:List Int):Nat:=D.countP fun d=>decide (0≤d)
theorem ar8: ∀(D:List Int) (k:Nat) (d:Int),k<D.length→el D k<0→0≤d→aya (D.set k d)=aya D+1
 |[],k,d,h,_,_=>absurd h (Nat.not_lt_zero k)
 |a::D,0,d,_,h1,h2=>by
  have h1':a<0:=h1
  show List.countP _ (d::D)=List.countP _ (a::D)+1
  rw[List.countP_cons_of_pos (by simpa using h2),List.countP_cons_of_neg (by simp;omega)]
 |a::D,k+1,d,h,h1,h2=>by
  have h3:aya (D.set k d)=aya D+1:=ar8 D k d (by simpa using h) h1 h2
  show List.countP _ (a::D.set k d)=List.countP _ (a::D)+1
  unfold aya at h3
  rw[List.countP_cons,List.countP_cons,h3]
  omega
theorem a4h(D:List Int):aya D≤D.length:=List.countP_le_length
def pin(O:Int→List Int)(n:Int)(D F:List Int)(i:Nat):List Int×List Int:=(F.take i).foldl (m7 O n) (D,[])
theorem amp{O:Int→List Int}{n:Int}{D F:List Int}{i:Nat}(h:i<F.length):pin O n D F (i+1)=m7 O n (pin O n D F i) (el F i):=by
 unfold pin
 rw[bm h,List.foldl_append]
 rfl
theorem awh(O:Int→List Int)(n:Int)(s:List Int×List Int)(x:Int):(m7 O n s x).1.length=s.1.length:=by
 unfold m7
 split
 ·rfl
 ·simp
theorem aig(O:Int→List Int)(n:Int)(D F:List Int)(i:Nat):(pin O n D F i).1.length=D.length:=by
 have: ∀(l:List Int) (s:List Int×List Int),(l.foldl (m7 O n) s).1.length=s.1.length:=fun l=>by
  induction l with
  |nil=>intro s;rfl
  |cons a l ih=>intro s;rw[List.foldl_cons,ih,awh]
 exact this _ _
theorem art{O:Int→List Int}{n:Int}{D F:List Int}{B:Nat}(hB: ∀x,(O x).length≤B)(hn:0≤n)(hF: ∀x∈F,0≤x∧x<(D.length:Int)): ∀i,i≤F.length→(pin O n D F i).2.length≤aya (pin O n D F i).1*B
 |0,_=>Nat.zero_le _
 |i+1,h=>by
  have ih:=art hB hn hF i (by omega)
  have hl:=aig O n D F i
  have hx:=hF (el F i) (by rw[el,List.getD_eq_getElem?_getD,List.getElem?_eq_getElem h];exact List.getElem_mem h)
  rw[amp h]
  unfold m7
  split
  ·exact ih
  ·rename_i hc
   show(_++_:List Int).length≤aya (_:List Int)*B
   rw[ar8 _ _ _ (by omega) (by omega) hn,List.length_append,Nat.add_mul,Nat.one_mul]
   exact Nat.add_le_add ih (hB _)
theorem a71{g:Gr}{O:Int→List Int}{S:List Int}(hB: ∀x,(O x).length≤1000)(hz:g.sz≤64)(hF: ∀n,(pfr g O S n).1.length=g.sz.toNat∧∀x∈(pfr g O S n).2,0≤x∧x<g.sz): ∀n,(pfr g O S n).2.length≤64000
 |0=>by
  show(List.filter _ _).length≤_
  refine Nat.le_trans (List.length_filter_le _ _) ?_
  simp
  omega
 |n+1=>by
  show(ao9 g _).length≤_
  refine Nat.le_trans (List.length_filter_le _ _) ?_
  have h:=art (O:=O) (n:=n) (D:=(pfr g O S n).1) (F:=(pfr g O S n).2) (B:=1000) hB (by omega) (fun x hx=>by have h1:=hF n;have h2:=h1.2 x hx;rw[h1.1];omega) (pfr g O S n).2.length (Nat.le_refl _)
  have hc:=a4h (pin O n (pfr g O S n).1 (pfr g O S n).2 (pfr g O S n).2.length).1
  rw[aig,(hF n).1]at hc
  unfold pin at h hc
  rw[List.take_length]at h hc
  have:aya (List.foldl (m7 O n) ((pfr g O S n).1,[]) (pfr g O S n).2).1*1000≤64*1000:=Nat.mul_le_mul_right _ (by omega)
  omega
theorem arn(g:Gr)(S:List Int)(O:Int→List Int)(hg:OkE g)(hS: ∀x∈S,0≤x∧x<g.sz)(h0:0<g.sz)(h64:g.sz≤64)(h2:big g.gone.length)(h3:big S.length)
  (hO: ∀x y,y∈O x↔∃e∈g.ed,e.fr=x∧e.to=y) (hB: ∀x,(O x).length≤1000)
  (cO: ∀x,Den Tryz.prog 62 [.agg (gr g),.int .i64 x] [] (.vs ((O x).map i1)) [] []):
  Den Tryz.prog 29 [.agg (gr g),.vs (S.map i1)] [] (.os 0 (dv g S).length) [.arr 3 1 false ((dv g S).map i1)] []:=by
 refine aa Tryz.mixed Tryz.func29 rfl Tryz.call29 Tryz.ntmps29 (congrArg Array.toList Tryz.results29) (by simp) (by kernel_rfl) [15] (exts:=[]) rfl rfl ?_
 have hsp:=ua (S:=S) hg hO
 have hF: ∀n,(pfr g O S n).1.length=g.sz.toNat∧∀x∈(pfr g O S n).2,0≤x∧x<g.sz:=fun n=>⟨by rw[(hsp n).1];exact abk _ _,fun x hx=>((hsp n).2 x|>.1 hx).1⟩
 have hfl:=a71 hB h64 hF
 have hlt: ∀n,(pfr g O S n).2≠[]→n<g.sz.toNat:=fun n h=>bbi hg hO hS h
 have hend: ∀n,n≤g.sz.toNat+1→(pfr g O S n).2=[]→(pfr g O S n).1=dv g S:=fun n hn h=>a5y hg hO hS hn h
 have hp0:pfr g O S 0=((List.replicate g.sz.toNat (-1:Int)),whr (fun k=>decide (k∈S)&& !decide (k∈g.gone)) g.sz.toNat):=by
  show(p7 g (fun _=> -1),_)=_
  congr 1
  unfold p7
  simp[List.map_const']
 have hps: ∀n,pfr g O S (n+1)=((pin O n (pfr g O S n).1 (pfr g O S n).2 (pfr g O S n).2.length).1,ao9 g (pin O n (pfr g O S n).1 (pfr g O S n).2 (pfr g O S n).2.length)):=fun n=>by unfold pin;rw[List.take_length];rfl
 have cR:=apn g.sz.toNat (by omega) (by omega)
 have cW:=at5 g S g.sz.toNat (by omega) h2 h3
 have hsz:((g.sz.toNat:Nat):Int)=g.sz:=by omega
 rw[hsz]at cR cW
 rw[f9]at cW
 have hmx:(if 0<g.sz then g.sz else 0)=g.sz:=if_pos h0
 simp only[go_sem,hmx]
 refine call cR [] ?_
 simp only[go_sem]
 refine call cW [2,3] ?_
 generalize hP:pfr g O S=P at*
 generalize hZ:g.sz.toNat=Z at*
 simp only[go_sem]
 refine loop Tryz.mixed (0:Nat) (fun n:Nat=>[(2,.ptr 2 0),(5,.ptr 5 0),(6,.vs ((P n).2.map i1)),(7,.int .i64 n)]) (fun n=>[(2,.cells (gr g)),(5,.cells [.os 15 Z]),(15,.arr 3 1 false ((P n).1.map i1))]) (fun n=>n≤Z) (fun n=>Z - n) (by kernel_rfl) (Nat.zero_le _) ?_ ?_
 ·rw[hp0]
  simp only[go_sem]
  simp[i1]
 intro n hn
 obtain⟨hD,hx⟩:=hF n
 have hsx:=hps n
 have hfn:=hfl n
 have hltn:=hlt n
 have hen:=hend n (by omega)
 generalize P n=p at*
 obtain⟨D,F⟩:=p
 simp only at hD hx hsx hfn hltn hen
 by_cases hf:F=[]
 ·subst hf
  have:=hen rfl
  subst this
  have gz:(dv g S).length=Z:=hD
  simp only[go_sem]
  exact gz.symm
 ·have gp:(0:Int)<(F.length:Int):=by have:=List.length_pos_iff.2 hf;omega
  have hnZ:=hltn hf
  have w7:IntKind.i64.wrap ((n:Int)+1)=((n+1:Nat):Int):=by rw[ae]<;>omega
  simp only[go_sem,gp]
  have ps: ∀i,i<F.length→pin O n D F (i+1)=m7 O n (pin O n D F i) (el F i):=fun i hi=>amp hi
  have pl:=aig O n D F
  have pb: ∀i,i≤F.length→(pin O n D F i).2.length≤64000:=fun i hi=>by
   have h1:=art (O:=O) (n:=n) (D:=D) (F:=F) (B:=1000) hB (by omega) (fun x h=>by have:=hx x h;omega) i hi
   have h2:=a4h (pin O n D F i).1
   rw[pl,hD]at h2
   have:aya (pin O n D F i).1*1000≤64*1000:=Nat.mul_le_mul_right _ (by omega)
   omega
  have p0:pin O n D F 0=(D,[]):=rfl
  generalize hQ:pin O n D F=Q at*
  refine cy 8 98 3 1 false ?_ (by rfl) (by rfl) (by omega)
  refine loop Tryz.mixed (0:Nat) (fun i:Nat=>[(2,.ptr 2 0),(5,.ptr 5 0),(7,.int .i64 n),(8,.os 98 (Q i).2.length),(25,.vs (F.map i1)),(26,.int .i64 F.length),(27,.int .i64 i)]) (fun i=>[(2,.cells (gr g)),(5,.cells [.os 15 Z]),(15,.arr 3 1 false ((Q i).1.map i1)),(98,.arr 3 1 false ((Q i).2.map i1))]) (fun i=>i≤F.length) (fun i=>F.length - i) (by kernel_rfl) (Nat.zero_le _) ?_ ?_
  ·rw[p0]
   simp only[go_sem]
  intro i hi
  by_cases hli:i<F.length
  ·have g1:(i:Int)<(F.length:Int):=by omega
   have psi:=ps i hli
   have pli:=pl i
   have pbi:=pb i hi
   have pbj:=pb (i+1) hli
   obtain⟨hx0,hx1⟩:=hx (el F i) (by rw[el,List.getD_eq_getElem?_getD,List.getElem?_eq_getElem hli];exact List.getElem_mem hli)
   have cOx:=cO (el F i)
   rw[f9]at cOx
   have w8:IntKind.i64.wrap ((i:Int)+1)=((i+1:Nat):Int):=by rw[ae]<;>omega
   generalize Q i=q at*
   obtain⟨E,N⟩:=q
   simp only at pli pbi
   have hZE:Z=E.length:=by omega
   subst hZE
   have hxZ:(el F i).toNat<E.length:=by omega
   have hxI:el F i<(E.length:Int):=by omega
   unfold m7 at psi
   by_cases hc:0≤el E (el F i).toNat
   ·rw[if_pos hc]at psi
    simp only[go_sem,g1,hli,hx0,hxI,hxZ,hc]
    exact⟨i+1,⟨hli,by omega⟩,⟨by rw[psi],w8⟩,by rw[psi],by rw[psi]⟩
   ·rw[if_neg hc]at psi
    have hbN:(N.length+(O (el F i)).length)*8≤140737488355328:=by have:=hB (el F i);omega
    simp only[go_sem,g1,hli,hx0,hxI,hxZ,hc]
    refine call cOx [] ?_
    simp only[go_sem]
    refine⟨hbN,i+1,⟨hli,by omega⟩,⟨by rw[psi,List.length_append],w8⟩,?_,by rw[psi,List.map_append]⟩
    rw[psi,List.map_set]
    rfl
  ·have g1: ¬(i:Int)<(F.length:Int):=by omega
   have:i=F.length:=by omega
   subst this
   have pbi:=pb F.length (Nat.le_refl _)
   have pli:=pl F.length
   have hnx:ao9 g (Q F.length)=(Q F.length).2.filter (kj (Q F.length).1):=by
    unfold ao9 kj
    rw[pli,hD]
    congr 1
    funext y
    rw[show((Z:Nat):Int)=g.sz by omega]
   rw[hnx]at hsx
   generalize Q F.length=q at*
   obtain⟨E,N⟩:=q
   simp only at pli pbi hsx
   have hZE:Z=E.length:=by omega
   subst hZE
   obtain⟨new,hnew,cD⟩:=ah4 N E (by simp only[big];omega) (by omega)
   simp only[go_sem,g1]
   refine adq cD [.arr 3 1 false (N.map i1)] [.arr 3 1 true new] [98] 5 15 [98,5,15] rfl rfl rfl ?_
   simp only[go_sem,w7]
   refine⟨⟨rfl,by omega⟩,n+1,⟨hnZ,by omega⟩,⟨by rw[hsx],rfl⟩,by rw[hsx]⟩
def lsS(d gone ta K:List Int)(i:Nat):Int:=((K.take i).map (afw d gone ta K)).sum
theorem acu{d gone ta K:List Int}{i:Nat}(h:i<K.length):lsS d gone ta K (i+1)=lsS d gone ta K i+afw d gone ta K (el K i):=by
 unfold lsS
 rw[bm h,List.map_append,List.sum_append]
 simp
theorem ass(d gone ta K:List Int):lsS d gone ta K K.length=ap5 d gone ta K:=by unfold lsS ap5;rw[List.take_length]
theorem ac1(d gone ta K:List Int):lsS d gone ta K 0=0:=rfl
theorem ai4{n:Int}{p:Pol}(h:jz n p=true)(d:Int):0≤zo p.ta d∧zo p.ta d≤1000:=by
 have hp:x6 (io p.ta) p.ta.length=true:=by
  unfold jz at h
  simp only[Bool.and_eq_true]at h
  exact h.2.2.2
 unfold zo
 split
 ·omega
 ·split
  ·rename_i h1 h2
   have:=of_decide_eq_true (t7.1 hp d.toNat (by omega))
   omega
  ·omega
theorem af2{g:Gr}{S:List Int}(h0:0≤g.sz)(h64:g.sz≤64):OkD (dv g S) g.sz:=by
 have hl:(dv g S).length=g.sz.toNat:=abk _ _
 have key: ∀i,el (dv g S) i=if i<g.sz.toNat then dvl g S (g.sz.toNat+1) (i:Int)else 0:=fun i=>by
  by_cases h:i<g.sz.toNat
  ·rw[if_pos h]
   exact w4 (g:=g) (f:=dvl g S (g.sz.toNat+1)) (k:=(i:Int)) (by omega) (by omega)
  ·rw[if_neg h]
   simp[el,List.getD_eq_getElem?_getD,show¬i<(dv g S).length by omega]
 refine⟨by omega,fun i=> ?_,fun i=> ?_⟩
 ·rw[key];split
  ·exact(xy g S i (g.sz.toNat+1)).1
  ·omega
 ·rw[key];split
  ·have:=(xy g S i (g.sz.toNat+1)).2
   omega
  ·omega
theorem a1t{n:Int}{p:Pol}(h:jz n p=true)(d gone K:List Int)(x:Int): -1≤afw d gone p.ta K x∧afw d gone p.ta K x≤1000:=by
 have:=ai4 h (jx d K x)
 unfold afw
 split<;>omega
theorem asf{n:Int}{p:Pol}(h:jz n p=true)(d gone K:List Int): ∀i,i≤K.length→ -(i:Int)≤lsS d gone p.ta K i∧lsS d gone p.ta K i≤1000*(i:Int)
 |0,_=>by rw[ac1];omega
 |i+1,hi=>by
  have ih:=asf h d gone K i (by omega)
  have:=a1t h d gone K (el K i)
  rw[acu (by omega)]
  omega
theorem xe(g:Gr)(p:Pol)(K:List Int)(g1:g.ed.length≤1000)(g2:g.gone.length≤1000)(h1:big p.se.length)(h2:big p.ta.length)(hK:big K.length)
  (cD:qe g p=0→Den Tryz.prog 29 [.agg (gr (gn g p.lv)),.vs (p.se.map i1)] [] (.os 0 (dv (gn g p.lv) p.se).length) [.arr 3 1 false ((dv (gn g p.lv) p.se).map i1)] []):
  Den Tryz.prog 12 [.agg (gr g),.agg (pl p),.vs (K.map i1)] [] (.tup [.int .i64 (ma g p K).1,.int .i64 (ma g p K).2]) [] []:=by
 refine aa Tryz.mixed Tryz.func12 rfl Tryz.call12 Tryz.ntmps12 (congrArg Array.toList Tryz.results12) (by simp) (by kernel_rfl) [] (exts:=[]) rfl rfl ?_
 have c1:=ayn g p (by simp only[big];omega) (by simp only[big];omega) h1 h2
 have c2:=ap1 K g.sz hK
 have c3:=a4p g p.lv g1 g2
 have hR:ma g p K=if qe g p≠0 then(0,qe g p)else if ape K g.sz=false then(0,4)else(ap5 (dv (gn g p.lv) p.se) g.gone p.ta K,0):=rfl
 rw[f9,o9]at c1
 rw[f9]at c3
 simp only[go_sem]
 refine call c1 [] ?_
 by_cases hc:qe g p=0
 rotate_left
 ·rw[if_pos hc]at hR
  rw[hR]
  simp only[go_sem,hc]
 rw[if_neg (by simp[hc])]at hR
 have cd:=cD hc
 simp only[go_sem,hc]
 refine call c2 [] ?_
 by_cases hd:ape K g.sz=true
 rotate_left
 ·rw[if_pos (by simpa using hd)]at hR
  rw[hR]
  simp only[go_sem,hd]
 rw[if_neg (by simp[hd])]at hR
 have hG:bg g=true:=by
  by_cases h:bg g=true
  ·exact h
  ·exfalso;unfold qe at hc;rw[if_pos (by simpa using h)]at hc;omega
 have hP:jz g.sz p=true:=by
  by_cases h:jz g.sz p=true
  ·exact h
  ·exfalso;unfold qe at hc;rw[if_neg (by simp[hG]),if_pos (by simpa using h)]at hc;omega
 have hz:=(iw.1 hG).1
 have hK16:K.length≤16∧∀k∈K,0≤k∧k<g.sz:=by
  unfold ape at hd
  rw[Bool.and_eq_true,decide_eq_true_eq]at hd
  exact⟨hd.2,(kv.1 hd.1).1⟩
 have hD:OkD (dv (gn g p.lv) p.se) g.sz:=af2 (g:=gn g p.lv) hz.1 hz.2.1
 have hsb:=asf hP (dv (gn g p.lv) p.se) g.gone K
 have hss:=fun i (h:i<K.length)=>acu (d:=dv (gn g p.lv) p.se) (gone:=g.gone) (ta:=p.ta) h
 have hse:=ass (dv (gn g p.lv) p.se) g.gone p.ta K
 have hs0:=ac1 (dv (gn g p.lv) p.se) g.gone p.ta K
 have hcb:=ai4 hP
 rw[hR]
 rw[←hse]
 rw[f9]at cd
 generalize dv (gn g p.lv) p.se=D at*
 simp only[go_sem,hd]
 refine call c3 [] ?_
 simp only[go_sem]
 refine call cd [] ?_
 simp only[go_sem]
 refine⟨ag (by kernel_rfl),?_⟩
 refine loop Tryz.mixed (0:Nat) (fun i:Nat=>[(2,.vs (K.map i1)),(3,.ptr 3 0),(4,.ptr 4 0),(9,.vs (D.map i1)),(10,.int .i64 (lsS D g.gone p.ta K i)),(32,.vs (K.map i1)),(33,.int .i64 K.length),(34,.int .i64 i)]) (fun _=>[(3,.cells (gr g)),(4,.cells (pl p))]) (fun i=>i≤K.length) (fun i=>K.length - i) (by kernel_rfl) (Nat.zero_le _) ?_ ?_
 ·rw[hs0]
  simp only[go_sem]
 intro i hi
 by_cases hlt:i<K.length
 ·have gl:(i:Int)<(K.length:Int):=by omega
  have hx:=hK16.2 (el K i) (lc hlt)
  have hsi:=hss i hlt
  have hb1:=hsb i (by omega)
  have hb2:=hsb (i+1) (by omega)
  have cl:=ati D K g.sz (el K i) hD ⟨hz.1,hz.2.1⟩ hK hK16.2 hx
  have cc:=fb g.gone (el K i) (by simp only[big];omega)
  have co:=auw p (jx D K (el K i))
  rw[o9]at co
  have w8:IntKind.i64.wrap ((i:Int)+1)=((i+1:Nat):Int):=by rw[ae]<;>omega
  have hcc:=hcb (jx D K (el K i))
  have wc:IntKind.i64.wrap (zo p.ta (jx D K (el K i)) - 1)=zo p.ta (jx D K (el K i)) - 1:=by rw[ae]<;>omega
  unfold afw at hsi
  generalize lsS D g.gone p.ta K=s at*
  simp only[go_sem,gl,hlt]
  refine call cl [] ?_
  generalize jx D K (el K i)=L at*
  generalize zo p.ta L=C at*
  by_cases m1:0≤L
  ·simp only[go_sem,m1]
   refine call cc [] ?_
   by_cases m2:el K i∈g.gone
   ·rw[if_neg (by simp[m2]),Int.add_zero]at hsi
    simp only[go_sem,m2]
    exact⟨i+1,⟨hlt,by omega⟩,hsi.symm,w8⟩
   ·rw[if_pos ⟨m1,m2⟩]at hsi
    have ws:IntKind.i64.wrap (s i+(C - 1))=s i+(C - 1):=by rw[ae]<;>omega
    simp only[go_sem,m2]
    refine call co [] ?_
    simp only[go_sem,wc,ws]
    exact⟨i+1,⟨hlt,by omega⟩,hsi.symm,w8⟩
  ·rw[if_neg (by simp[m1]),Int.add_zero]at hsi
   simp only[go_sem,m1]
   exact⟨i+1,⟨hlt,by omega⟩,hsi.symm,w8⟩
 ·have gl: ¬(i:Int)<(K.length:Int):=by omega
  have:i=K.length:=by omega
  subst this
  simp only[go_sem,gl]
theorem i6(g:Gr)(p:Pol)(K:List Int)(g1:g.ed.length≤1000)(g2:g.gone.length≤1000)(h1:big p.se.length)(h2:big p.ta.length)(hK:big K.length):
  Den Tryz.prog 13 [.agg (gr g),.agg (pl p),.vs (K.map i1)] [] (.tup [.int .i64 (ma g p K).1,.int .i64 (ma g p K).2]) [] []:=by
 refine aa Tryz.mixed Tryz.func13 rfl Tryz.call13 Tryz.ntmps13 (congrArg Array.toList Tryz.results13) (by simp) (by kernel_rfl) [] (exts:=[]) rfl rfl ?_
 have c1:=a8h g p (by simp only[big];omega) (by simp only[big];omega) h1 h2
 have c3:=atw g p.lv g1 g2
 have hR:ma g p K=if qe g p≠0 then(0,qe g p)else if ape K g.sz=false then(0,4)else(ap5 (dv (gn g p.lv) p.se) g.gone p.ta K,0):=rfl
 rw[f9,o9]at c1
 rw[f9]at c3
 simp only[go_sem]
 refine call c1 [] ?_
 by_cases hc:qe g p=0
 rotate_left
 ·rw[if_pos hc]at hR
  rw[hR]
  simp only[go_sem,hc]
 rw[if_neg (by simp[hc])]at hR
 by_cases hk16:16<(K.length:Int)
 ·have hd:ape K g.sz=false:=by unfold ape;rw[Bool.and_eq_false_iff];exact .inr (decide_eq_false (by omega))
  rw[if_pos hd]at hR
  rw[hR]
  simp only[go_sem,hc,hk16]
 have hk16':K.length≤16:=by omega
 have hdec:ape K g.sz=kx K g.sz:=by unfold ape;rw[decide_eq_true hk16',Bool.and_true]
 rw[hdec]at hR
 have hbad:kx K g.sz=false→ma g p K=(0,4):=fun h=>by rw[hR,if_pos h]
 have hgood:kx K g.sz=true→ma g p K=(ap5 (dv (gn g p.lv) p.se) g.gone p.ta K,0):=fun h=>by rw[hR,if_neg (by simp[h])]
 clear hR hdec
 generalize ma g p K=R at*
 have hG:bg g=true:=by
  by_cases h:bg g=true
  ·exact h
  ·exfalso;unfold qe at hc;rw[if_pos (by simpa using h)]at hc;omega
 have hP:jz g.sz p=true:=by
  by_cases h:jz g.sz p=true
  ·exact h
  ·exfalso;unfold qe at hc;rw[if_neg (by simp[hG]),if_pos (by simpa using h)]at hc;omega
 have hz:=(iw.1 hG).1
 have hEd:(gn g p.lv).ed.length≤1000:=Nat.le_trans (List.length_filter_le _ _) g1
 have cd:=apj (gn g p.lv) p.se (a3v hG p.lv) hz.2.1 hEd (by show big g.gone.length;simp only[big];omega) h1
 have hD:OkD (dv (gn g p.lv) p.se) g.sz:=af2 (g:=gn g p.lv) hz.1 hz.2.1
 have hsb:=asf hP (dv (gn g p.lv) p.se) g.gone K
 have hss:=fun i (h:i<K.length)=>acu (d:=dv (gn g p.lv) p.se) (gone:=g.gone) (ta:=p.ta) h
 have hse:=ass (dv (gn g p.lv) p.se) g.gone p.ta K
 have hs0:=ac1 (dv (gn g p.lv) p.se) g.gone p.ta K
 have hcb:=ai4 hP
 rw[←hse]at hgood
 rw[f9]at cd
 generalize dv (gn g p.lv) p.se=D at*
 have hl:=hD.len
 have lo:=hD.lo
 have hi0:=hD.hi
 simp only[go_sem,hc,hk16]
 refine loop Tryz.mixed 0 (fun i:Nat=>[(2,.vs (K.map i1)),(3,.ptr 3 0),(4,.ptr 4 0),(9,.int .i64 i)]) (fun i=>[(3,.cells (gr g)),(4,.cells (pl p))]) (fun i=>i≤K.length∧∀j,j<i→et g.sz K j=true) (fun i=>K.length - i) (by kernel_rfl) ?_ ?_ ?_
 ·simp
 ·simp only[go_sem]
 rintro i ⟨hi,hp⟩
 by_cases hi':i<K.length
 ·have hlt:(i:Int)<(K.length:Int):=by omega
  by_cases a1:el K i<0
  ·have hq:et g.sz K i=false:=decide_eq_false (by omega)
   have hz:=hbad (dw hi' hq)
   simp only[go_sem,hlt,hi',a1,hz]
   exact ag (by kernel_rfl)
  by_cases a2:g.sz≤el K i
  ·have hq:et g.sz K i=false:=decide_eq_false (by omega)
   have hz:=hbad (dw hi' hq)
   simp only[go_sem,hlt,hi',a1,a2,hz]
   exact ag (by kernel_rfl)
  by_cases a3:0<i
  ·have a3':(0:Int)<(i:Int):=by omega
   have e1:IntKind.i64.wrap ((i:Int) - 1)=((i - 1:Nat):Int):=by rw[ae]<;>omega
   have e2:i - 1<K.length:=by omega
   by_cases a4:el K i≤el K (i - 1)
   ·have hq:et g.sz K i=false:=decide_eq_false (by omega)
    have hz:=hbad (dw hi' hq)
    simp only[go_sem,hlt,hi',a1,a2,a3',e1,e2,a4,hz]
    exact ag (by kernel_rfl)
   ·have hq:et g.sz K i=true:=decide_eq_true (by omega)
    simp only[go_sem,hlt,hi',a1,a2,a3',e1,e2,a4]
    exact⟨ag (by kernel_rfl),i+1,⟨⟨by omega,az hp hq⟩,by omega⟩,by rw[ae]<;>omega⟩
  ·have a3': ¬(0:Int)<(i:Int):=by omega
   have hq:et g.sz K i=true:=decide_eq_true (by omega)
   simp only[go_sem,hlt,hi',a1,a2,a3']
   exact⟨ag (by kernel_rfl),i+1,⟨⟨by omega,az hp hq⟩,by omega⟩,by rw[ae]<;>omega⟩
 have hf: ¬((i:Int)<(K.length:Int)):=by omega
 have:i=K.length:=by omega
 subst this
 have hset:kx K g.sz=true:=lg hp
 rw[hgood hset]
 have hk:=(kv.1 hset).1
 clear hgood hbad
 simp only[go_sem,hf]
 refine call c3 [] ?_
 simp only[go_sem]
 refine call cd [] ?_
 simp only[go_sem]
 refine⟨ag (by kernel_rfl),?_⟩
 refine loop Tryz.mixed (0:Nat) (fun i:Nat=>[(2,.vs (K.map i1)),(3,.ptr 3 0),(4,.ptr 4 0),(10,.vs (D.map i1)),(11,.int .i64 (lsS D g.gone p.ta K i)),(12,.int .i64 i)]) (fun _=>[(3,.cells (gr g)),(4,.cells (pl p))]) (fun i=>i≤K.length) (fun i=>K.length - i) (by kernel_rfl) (Nat.zero_le _) ?_ ?_
 ·rw[hs0]
  simp only[go_sem]
 intro i hi
 by_cases hlt:i<K.length
 rotate_left
 ·have gl: ¬(i:Int)<(K.length:Int):=by omega
  have:i=K.length:=by omega
  subst this
  simp only[go_sem,gl]
 have gl:(i:Int)<(K.length:Int):=by omega
 have hx:=hk (el K i) (lc hlt)
 have hsi:=hss i hlt
 have hb1:=hsb i (by omega)
 have hb2:=hsb (i+1) (by omega)
 have cc:=bdw g.gone (el K i) (by simp only[big];omega)
 have co:=a1c p (jx D K (el K i))
 rw[o9]at co
 have w8:IntKind.i64.wrap ((i:Int)+1)=((i+1:Nat):Int):=by rw[ae]<;>omega
 have hcc:=hcb (jx D K (el K i))
 unfold afw at hsi
 generalize lsS D g.gone p.ta K=s at*
 have u0:=aca D K (el K i)
 have uS: ∀j,j<K.length→lsU D K (el K i) (j+1)=aep D (el K i) (lsU D K (el K i) j) (el K j):=fun j h=>aby h
 have uE:=av6 D K (el K i)
 have uB:=att hD K (el K i)
 have x1:(el K i).toNat<D.length:=by omega
 have x2:el K i<(D.length:Int):=by omega
 have x0:=hx.1
 generalize lsU D K (el K i)=U at*
 simp only[go_sem,gl,hlt,x0,x1,x2]
 rw[←u0]
 refine loop Tryz.mixed (0:Nat) (fun j:Nat=>[(2,.vs (K.map i1)),(3,.ptr 3 0),(4,.ptr 4 0),(10,.vs (D.map i1)),(11,.int .i64 (s i)),(12,.int .i64 i),(13,.int .i64 (el K i)),(14,.int .i64 (U j)),(15,.int .i64 j)]) (fun _=>[(3,.cells (gr g)),(4,.cells (pl p))]) (fun j=>j≤K.length) (fun j=>K.length - j) (by kernel_rfl) (Nat.zero_le _) ?_ ?_
 ·simp only[go_sem]
 intro j hj
 by_cases hjl:j<K.length
 ·have gj:(j:Int)<(K.length:Int):=by omega
  have hsu:=uS j hjl
  have hb:=uB j hj
  obtain⟨k0,k1⟩:=hk _ (lc hjl)
  unfold aep at hsu
  generalize U j=b at*
  have d1:(el K j).toNat<D.length:=by omega
  have d2:el K j<(D.length:Int):=by omega
  have l1:=lo (el K j).toNat
  have l2:=hi0 (el K j).toNat
  have w2:IntKind.i64.wrap (el D (el K j).toNat+2)=el D (el K j).toNat+2:=by rw[ae]<;>omega
  have w9:IntKind.i64.wrap ((j:Int)+1)=((j+1:Nat):Int):=by rw[ae]<;>omega
  by_cases c1:el K j=el K i
  ·rw[if_neg fun h=>h.1 c1]at hsu
   simp only[go_sem,gj,hjl,c1,x0,x1,x2]
   exact⟨j+1,⟨by omega,by omega⟩,by rw[hsu],w9⟩
  by_cases c2:0≤el D (el K j).toNat
  rotate_left
  ·rw[if_neg fun h=>c2 h.2.1]at hsu
   simp only[go_sem,gj,hjl,k0,d1,d2,c1,c2]
   exact⟨j+1,⟨by omega,by omega⟩,by rw[hsu],w9⟩
  by_cases c3:b<0
  ·rw[if_pos ⟨c1,c2,.inl c3⟩]at hsu
   simp only[go_sem,gj,hjl,k0,d1,d2,c1,c2,c3,w2]
   exact⟨j+1,⟨by omega,by omega⟩,by rw[hsu],w9⟩
  by_cases c4:el D (el K j).toNat+2<b
  ·rw[if_pos ⟨c1,c2,.inr c4⟩]at hsu
   simp only[go_sem,gj,hjl,k0,d1,d2,c1,c2,c3,w2,c4]
   exact⟨j+1,⟨by omega,by omega⟩,by rw[hsu],w9⟩
  ·rw[if_neg fun h=>by omega]at hsu
   simp only[go_sem,gj,hjl,k0,d1,d2,c1,c2,c3,w2,c4]
   exact⟨j+1,⟨by omega,by omega⟩,by rw[hsu],w9⟩
 have gj: ¬(j:Int)<(K.length:Int):=by omega
 have:j=K.length:=by omega
 subst this
 rw[uE]
 generalize jx D K (el K i)=L at*
 by_cases m1:0≤L
 rotate_left
 ·rw[if_neg (by simp[m1]),Int.add_zero]at hsi
  simp only[go_sem,gj,m1]
  exact⟨i+1,⟨hlt,by omega⟩,hsi.symm,w8⟩
 simp only[go_sem,gj,m1]
 refine call cc [] ?_
 by_cases m2:el K i∈g.gone
 ·rw[if_neg (by simp[m2]),Int.add_zero]at hsi
  simp only[go_sem,m2]
  exact⟨i+1,⟨hlt,by omega⟩,hsi.symm,w8⟩
 ·rw[if_pos ⟨m1,m2⟩]at hsi
  generalize zo p.ta L=C at*
  have ws:IntKind.i64.wrap (s i+C)=s i+C:=by rw[ae]<;>omega
  have ws2:IntKind.i64.wrap (s i+C - 1)=s i+C - 1:=by rw[ae]<;>omega
  simp only[go_sem,m2]
  refine call co [] ?_
  simp only[go_sem,ws,ws2]
  exact⟨i+1,⟨hlt,by omega⟩,by omega,w8⟩
theorem a7t(l:List Int){p:Nat}(hp:p≤l.length):(mgr l p).2≤l.length:=by
 have key: ∀(n:Nat) (s:Gr×Nat),s.2≤l.length→(a0o l n s).2≤l.length:=fun n=>by
  induction n with
  |zero=>exact fun s h=>h
  |succ n ih=>
   intro s h
   rw[a0o]
   refine ih _ ?_
   unfold aa3
   exact ee h 3
 refine key _ _ (ee ?_ 1)
 unfold n4
 split
 ·exact ee hp 3
 ·exact ee hp 2
theorem a23(l:List Int){p:Nat}(hp:p≤l.length):avc l p≤l.length:=by
 unfold avc
 refine ee ?_ _
 unfold pAt
 split
 ·exact ee hp 4
 ·exact ee hp 3
theorem ar4(hAw:Den Tryz.prog 7 [] [] (.bool true) [] [])
  (hD: ∀(g:Gr) (p:Pol),qe g p=0→g.ed.length≤1000→Den Tryz.prog 29 [.agg (gr (gn g p.lv)),.vs (p.se.map i1)] [] (.os 0 (dv (gn g p.lv) p.se).length) [.arr 3 1 false ((dv (gn g p.lv) p.se).map i1)] [])
  (l raw:List Int) (odd:Int) (ho:0≤odd∧odd<256):Den Tryz.prog 3 [.vs (l.map i1),.vs (raw.map i1),.int .u8 odd] [] (.bool true) [] []:=by
 refine aa Tryz.mixed Tryz.func3 rfl Tryz.call3 Tryz.ntmps3 (congrArg Array.toList Tryz.results3) (by simp) (by kernel_rfl) [] (exts:=[]) rfl rfl ?_
 simp only[go_sem]
 refine call (atb l) [] ?_
 by_cases hL:l.length≤400
 rotate_left
 ·simp only[go_sem,hL]
  refine call hAw [] ?_
  simp only[go_sem]
 by_cases hW:60<(raw.length:Int)
 ·simp only[go_sem,hL,hW]
  refine call hAw [] ?_
  simp only[go_sem]
 have hl:big l.length:=by simp only[big];omega
 have hr:big raw.length:=by simp only[big];omega
 simp only[go_sem,hL,hW]
 refine call (ba5 l) [] ?_
 simp only[go_sem]
 refine call (anx l 0 hl (Nat.zero_le _)) [25] ?_
 obtain⟨hok,hsz,hgo,hle⟩:=a92 l 0
 have hzb:=auk l 0
 have hP:=a7t l (Nat.zero_le _)
 have hgn:(mgr l 0).1.gone.length≤1:=by rw[hgo];exact(aj0 (l:=l) (p:=0)).2.2.2
 have hpo: ∀q,jz (gSz l 0) (a6s l (gSz l 0) q)=true:=fun q=>a6m l q (by omega)
 rw[←hsz]at hpo hzb
 clear hsz hgo
 generalize mgr l 0=G at*
 obtain⟨g,P⟩:=G
 simp only at*
 simp only[go_sem]
 have cP:=aiv l P g hl hP (by omega) (by omega)
 rw[f9,o9]at cP
 refine call cP [25] ?_
 have hQ:=a23 l hP
 have hpl:=hpo P
 clear hpo
 have hse:big (a6s l g.sz P).se.length:=by have:=(ad6 l (sz:=g.sz) P (by omega)).2.2;show big (o4 l g.sz P).length;simp only[big];omega
 have htl:(a6s l g.sz P).ta.length≤8:=by
  unfold jz at hpl
  simp only[Bool.and_eq_true,decide_eq_true_eq]at hpl
  exact hpl.2.2.1.2.1
 generalize a6s l g.sz P=p at*
 generalize avc l P=Q at*
 have cS:=azn l Q g.sz.toNat hl hQ (by omega)
 rw[show((g.sz.toNat:Nat):Int)=g.sz by omega]at cS
 have kl:=af6 l g.sz.toNat 0 Q
 simp only[go_sem]
 refine call cS [25] ?_
 generalize xh l g.sz.toNat 0 Q=k at*
 have cA:=fun(g:Gr) (p:Pol) (K:List Int) (h1:g.ed.length≤1000) (h2:g.gone.length≤1000) (h3:big p.se.length) (h4:big p.ta.length) (hK:big K.length)=>xe g p K h1 h2 h3 h4 hK (fun h=>hD g p h h1)
 have hod:0≤odd.tmod 7:=Int.tmod_nonneg _ ho.1
 simp only[go_sem]
 generalize odd.tmod 7=r at*
 by_cases c0:r=0
 ·simp only[go_sem,c0]
  have a1:=cA g p raw (by omega) (by show g.gone.length≤1000;omega) hse (by simp only[big];omega) (by simp only[big];omega)
  have a2:=i6 g p raw (by omega) (by show g.gone.length≤1000;omega) hse (by simp only[big];omega) (by simp only[big];omega)
  rw[f9,o9]at a1 a2
  generalize ma g p raw=R at*
  refine call a1 [] ?_
  simp only[go_sem]
  refine call a2 [] ?_
  simp only[go_sem]
  refine call hAw [] ?_
  simp only[go_sem]
 by_cases c1:r=1
 ·simp only[go_sem,c0,c1]
  have a1:=cA g ⟨p.se,[],p.lv⟩ k (by omega) (by show g.gone.length≤1000;omega) hse (by simp[big]) (by simp only[big];omega)
  have a2:=i6 g ⟨p.se,[],p.lv⟩ k (by omega) (by show g.gone.length≤1000;omega) hse (by simp[big]) (by simp only[big];omega)
  rw[f9,o9]at a1 a2
  generalize ma g ⟨p.se,[],p.lv⟩ k=R at*
  refine call a1 [] ?_
  simp only[go_sem]
  refine call a2 [] ?_
  simp only[go_sem]
  refine call hAw [] ?_
  simp only[go_sem]
 by_cases c2:r=2
 ·simp only[go_sem,c0,c1,c2]
  have a1:=cA ⟨g.sz,g.ed++[⟨0,0,0⟩],g.gone⟩ p k (by show(g.ed++[⟨0,0,0⟩]:List Ed).length≤1000;rw[List.length_append];simp only[List.length_cons,List.length_nil];omega) (by show g.gone.length≤1000;omega) hse (by simp only[big];omega) (by simp only[big];omega)
  have a2:=i6 ⟨g.sz,g.ed++[⟨0,0,0⟩],g.gone⟩ p k (by show(g.ed++[⟨0,0,0⟩]:List Ed).length≤1000;rw[List.length_append];simp only[List.length_cons,List.length_nil];omega) (by show g.gone.length≤1000;omega) hse (by simp only[big];omega) (by simp only[big];omega)
  rw[f9,o9]at a1 a2
  simp only[List.map_append,List.map_cons,List.map_nil,ik]at a1 a2
  refine⟨by omega,?_⟩
  generalize ma ⟨g.sz,g.ed++[⟨0,0,0⟩],g.gone⟩ p k=R at*
  refine call a1 [] ?_
  simp only[go_sem]
  refine call a2 [] ?_
  simp only[go_sem]
  refine call hAw [] ?_
  simp only[go_sem]
 by_cases c3:r=3
 ·simp only[go_sem,c0,c1,c2,c3]
  have a1:=cA g p (k++[g.sz]) (by omega) (by show g.gone.length≤1000;omega) hse (by simp only[big];omega) (by simp only[big,List.length_append,List.length_cons,List.length_nil];omega)
  have a2:=i6 g p (k++[g.sz]) (by omega) (by show g.gone.length≤1000;omega) hse (by simp only[big];omega) (by simp only[big,List.length_append,List.length_cons,List.length_nil];omega)
  rw[f9,o9]at a1 a2
  simp only[List.map_append,List.map_cons,List.map_nil,ik]at a1 a2
  refine⟨by omega,?_⟩
  generalize ma g p (k++[g.sz])=R at*
  refine call a1 [] ?_
  simp only[go_sem]
  refine call a2 [] ?_
  simp only[go_sem]
  refine call hAw [] ?_
  simp only[go_sem]
 by_cases c4:r=4
 ·simp only[go_sem,c0,c1,c2,c3,c4]
  have a1:=cA g p (k++[0]) (by omega) (by show g.gone.length≤1000;omega) hse (by simp only[big];omega) (by simp only[big,List.length_append,List.length_cons,List.length_nil];omega)
  have a2:=i6 g p (k++[0]) (by omega) (by show g.gone.length≤1000;omega) hse (by simp only[big];omega) (by simp only[big,List.length_append,List.length_cons,List.length_nil];omega)
  rw[f9,o9]at a1 a2
  simp only[List.map_append,List.map_cons,List.map_nil,ik]at a1 a2
  refine⟨by omega,?_⟩
  generalize ma g p (k++[0])=R at*
  refine call a1 [] ?_
  simp only[go_sem]
  refine call a2 [] ?_
  simp only[go_sem]
  refine call hAw [] ?_
  simp only[go_sem]
 simp only[go_sem,c0,c1,c2,c3,c4]
 have a1:=cA g p k (by omega) (by show g.gone.length≤1000;omega) hse (by simp only[big];omega) (by simp only[big];omega)
 have a2:=i6 g p k (by omega) (by show g.gone.length≤1000;omega) hse (by simp only[big];omega) (by simp only[big];omega)
 rw[f9,o9]at a1 a2
 generalize ma g p k=R at*
 refine call a1 [] ?_
 simp only[go_sem]
 refine call a2 [] ?_
 simp only[go_sem]
 refine call hAw [] ?_
 simp only[go_sem]
theorem aks{l:List Int}{n:Int}(h:kx l n=true)(h0:0≤n):l.length≤n.toNat:=by
 obtain⟨h1,h2⟩:=kv.1 h
 have:=akx (l:=l) (m:=(List.range n.toNat).map fun k:Nat=>(k:Int)) (h2.imp fun h=>by omega) fun x hx=>by
  have:=h1 x hx
  exact List.mem_map.2 ⟨x.toNat,List.mem_range.2 (by omega),by omega⟩
 rw[List.length_map,List.length_range]at this
 exact this
theorem a2f{g:Gr}{x y:Int}:y∈acd g x↔∃e∈g.ed,e.fr=x∧e.to=y:=by
 unfold acd
 rw[List.mem_map]
 constructor
 ·rintro⟨e,he,rfl⟩
  obtain⟨h1,h2⟩:=List.mem_filter.1 he
  exact⟨e,h1,of_decide_eq_true h2,rfl⟩
 ·rintro⟨e,h1,h2,rfl⟩
  exact⟨e,List.mem_filter.2 ⟨h1,decide_eq_true h2⟩,rfl⟩
theorem awx(O:Gr→Int→List Int)(hm: ∀g x y,y∈O g x↔y∈acd g x)(hl: ∀g x,(O g x).length=(acd g x).length)
  (cO: ∀g x,g.ed.length≤1000→Den Tryz.prog 62 [.agg (gr g),.int .i64 x] [] (.vs ((O g x).map i1)) [] [])
  (g:Gr) (p:Pol) (h:qe g p=0) (hL:g.ed.length≤1000):Den Tryz.prog 29 [.agg (gr (gn g p.lv)),.vs (p.se.map i1)] [] (.os 0 (dv (gn g p.lv) p.se).length) [.arr 3 1 false ((dv (gn g p.lv) p.se).map i1)] []:=by
 have hG:bg g=true:=by
  by_cases h1:bg g=true
  ·exact h1
  ·exfalso;unfold qe at h;rw[if_pos (by simpa using h1)]at h;omega
 have hP:jz g.sz p=true:=by
  by_cases h1:jz g.sz p=true
  ·exact h1
  ·exfalso;unfold qe at h;rw[if_neg (by simp[hG]),if_pos (by simpa using h1)]at h;omega
 obtain⟨hz,hgone,_⟩:=iw.1 hG
 have hse:0<p.se.length∧kx p.se g.sz=true:=by
  unfold jz at hP
  simp only[Bool.and_eq_true,decide_eq_true_eq]at hP
  exact⟨hP.1,hP.2.1⟩
 have hS:=(kv.1 hse.2).1
 have h0:=hS _ (lc hse.1)
 have hEd:(gn g p.lv).ed.length≤1000:=Nat.le_trans (List.length_filter_le _ _) hL
 have l1:=aks hse.2 hz.1
 have l2:=aks hgone hz.1
 refine arn (gn g p.lv) p.se (O (gn g p.lv)) (a3v hG p.lv) hS (by show 0<g.sz;omega) (by show g.sz≤64;omega) (by show big g.gone.length;simp only[big];omega) (by simp only[big];omega) (fun x y=>(hm _ x y).trans a2f) (fun x=> ?_) (fun x=>cO _ x hEd)
 rw[hl]
 unfold acd
 rw[List.length_map]
 exact Nat.le_trans (List.length_filter_le _ _) hEd
end Go.Proofs.Am
