/- GWFour. -/
import Derived.Test.YtloaichcpoboeaaGreatDoorGWTwo
import Derived.Test.YtloaichcpoboeaaGreatDoorGWOne
import Derived.Test.YtloaichcpoboeaaGreatDoorGAOne
import Derived.Test.YtloaichcpoboeaaGreatDoorCOne
set_option maxHeartbeats 1000000
set_option maxRecDepth 100000
set_option linter.unusedSimpArgs false
set_option linter.unusedVariables false
namespace Go.Proofs.Am
open Go Go.RowKit
open Go.Proofs
theorem axp(n:Nat)(h:n≤64):Den Tryz.prog 124 [.int .u64 1,.int .u64 n] [] (.tup [.int .u64 0,.int .u64 n]) [] []:=by
 refine aa Tryz.mixed Tryz.func124 rfl Tryz.call124 Tryz.ntmps124 (congrArg Array.toList Tryz.results124) (by simp) (by kernel_rfl) [] (exts:=[]) rfl rfl ?_
 have key: ∀m:Nat,m<65→IntKind.u64.wrap (IntKind.u64.wrap (IntKind.u64.wrap (Int.fdiv 1 (2^min 32 64)*(m:Int).fdiv (2^min 32 64))+(IntKind.u64.wrap (IntKind.u64.wrap (Int.fdiv 1 (2^min 32 64)*bits BinOp.and IntKind.u64 (m:Int) 4294967295)+(IntKind.u64.wrap (bits BinOp.and IntKind.u64 1 4294967295*bits BinOp.and IntKind.u64 (m:Int) 4294967295)).fdiv (2^min 32 64))).fdiv (2^min 32 64))+(IntKind.u64.wrap (bits BinOp.and IntKind.u64 (IntKind.u64.wrap (IntKind.u64.wrap (Int.fdiv 1 (2^min 32 64)*bits BinOp.and IntKind.u64 (m:Int) 4294967295)+(IntKind.u64.wrap (bits BinOp.and IntKind.u64 1 4294967295*bits BinOp.and IntKind.u64 (m:Int) 4294967295)).fdiv (2^min 32 64))) 4294967295+IntKind.u64.wrap (bits BinOp.and IntKind.u64 1 4294967295*(m:Int).fdiv (2^min 32 64)))).fdiv (2^min 32 64))=0∧IntKind.u64.wrap (1*(m:Int))=(m:Int):=by decide+kernel
 simp only[go_sem]
 exact key n (by omega)
theorem a7f(n:Nat)(h:n≤64):Den Tryz.prog 87 [.int .u64 1,.int .u64 n] [] (.tup [.int .u64 0,.int .u64 n]) [] []:=by
 refine aa Tryz.mixed Tryz.func87 rfl Tryz.call87 Tryz.ntmps87 (congrArg Array.toList Tryz.results87) (by simp) (by kernel_rfl) [] (exts:=[]) rfl rfl ?_
 simp only[go_sem]
 refine call (axp n h) [] ?_
 simp only[go_sem]
def agq(n m:Nat):List (List PV):=(List.replicate m (-1:Int)++List.replicate (n - m) (0:Int)).map i1
theorem ayo{n m:Nat}(h:m≤n):(agq n m).length=n:=by simp[agq];omega
theorem au5{n m:Nat}(h:m≤n):List.take m (agq n m)++(List.take (min m (n - m)) (agq n m)++List.drop (m+min m (n - m)) (agq n m))=agq n (m+min m (n - m)):=by
 have e:List.replicate m (-1:Int)++(List.replicate (min m (n - m)) (-1:Int)++List.replicate (n - (m+min m (n - m))) (0:Int))=List.replicate (m+min m (n - m)) (-1:Int)++List.replicate (n - (m+min m (n - m))) (0:Int):=by
  rw[←List.append_assoc,List.replicate_append_replicate]
 unfold agq
 rw[←e]
 simp only[List.map_append]
 congr 1
 ·rw[List.take_append_of_le_length (by simp),List.take_of_length_le (by simp)]
 congr 1
 ·rw[List.take_append_of_le_length (by simp;omega),←List.map_take,List.take_replicate]
  congr 2
  omega
 ·rw[List.drop_append,List.drop_of_length_le (by simp),List.nil_append,←List.map_drop,List.drop_replicate]
  simp only[List.length_map,List.length_replicate]
  congr 2
  omega
theorem ayl(n:Nat):agq n n=List.replicate n [.int .i64 (-1)]:=by unfold agq;rw[Nat.sub_self];simp[i1]
theorem ayc(n:Nat):agq n 1=[.int .i64 (-1)]::List.replicate (n - 1) [.int .i64 0]:=by unfold agq;simp[i1]
theorem ay9{σ:ASt}(l:List Int):ij σ (l.map i1)=some (l.map i1,[]):=kc fun x hx=>by
 obtain⟨a,_,rfl⟩:=List.mem_map.1 hx
 rfl
theorem anc(n:Nat)(h:n≤64)(h0:0<n):Den Tryz.prog 58 [.vs [[.int .i64 (-1)]],.int .i64 n] [] (.os 0 n) [.arr 3 1 false (List.replicate n [.int .i64 (-1)])] []:=by
 refine aa Tryz.mixed Tryz.func58 rfl Tryz.call58 Tryz.ntmps58 (congrArg Array.toList Tryz.results58) (by simp) (by kernel_rfl) [30] (exts:=[]) rfl rfl ?_
 have g0: ¬(n:Int)<0:=by omega
 have w0:IntKind.u64.wrap (n:Int)=(n:Int):=by rw[show IntKind.u64.wrap (n:Int)=(n:Int) % 18446744073709551616 from rfl];omega
 have w1:IntKind.u64.wrap 1=1:=rfl
 have w2:IntKind.i64.wrap (n:Int)=(n:Int):=by rw[ae]<;>omega
 have g2: ¬9223372036854775807<(n:Int):=by omega
 simp only[go_sem,g0,w0,w1]
 refine call (a7f n h) [] ?_
 simp only[go_sem,g2,w2,g0]
 have hm1:min 1 n=1:=by omega
 rw[hm1]
 refine⟨⟨Nat.le_refl _,by omega,by omega⟩,⟨h0,fun y hy=>by rw[hy];rfl⟩,?_⟩
 refine lr (Cv.trans (Cv.opn (n:=30) (by rfl)) (Cv.hint (n:=900030) (by rfl))) ?_
 refine rc Tryz.mixed 1 (fun m:Nat=>[(7,.os 30 n),(8,.int .i64 m)]) (fun m=>[(30,.arh 3 1 (agq n m)),(900030,.dead 1 0)]) (fun m=>1≤m∧m≤n) (fun m=>n - m) (by kernel_rfl) ⟨Nat.le_refl _,h0⟩ ?_ ?_
 ·refine Cv.wk ?_
  rw[List.drop_replicate]
  have hh:vy [30,900030] (agq n 1)=true:=aw _ _ (fun a=>rfl) _
  simp only[go_sem,hh]
  exact(ayc n).symm
 intro m hm
 have hl:=ayo hm.2
 by_cases hlt:m<n
 ·have g1:(m:Int)<(n:Int):=by omega
  have hc:=au5 hm.2
  have w3:IntKind.i64.wrap ((m:Int)+((min m (n - m):Nat):Int))=((m+min m (n - m):Nat):Int):=by rw[ae]<;>omega
  have hh:vy [30,900030] (agq n (m+min m (n - m)))=true:=aw _ _ (fun a=>rfl) _
  generalize agq n m=R at*
  simp only[go_sem,g1,hl]
  rw[hc,w3]
  refine⟨by omega,by omega,ag (by kernel_rfl),m+min m (n - m),⟨⟨by omega,by omega⟩,by omega⟩,Cv.wk ?_⟩
  simp only[go_sem,hh]
 ·have g1: ¬(m:Int)<(n:Int):=by omega
  have:m=n:=by omega
  subst this
  generalize hR:agq m m=R at*
  simp only[go_sem,g1,hl]
  refine⟨_,_,Cv.shutB (n:=30) (xs:=R) (by rfl) (by rw[←hR];exact ay9 _),?_⟩
  simp only[go_sem]
  rw[←hR]
  exact ayl m
def axy(D:List Int):Nat:=D.countP fun d=>decide (0≤d)
theorem ase: ∀(D:List Int) (k:Nat) (d:Int),k<D.length→el D k<0→0≤d→axy (D.set k d)=axy D+1
 |[],k,d,h,_,_=>absurd h (Nat.not_lt_zero k)
 |a::D,0,d,_,h1,h2=>by
  have h1':a<0:=h1
  show List.countP _ (d::D)=List.countP _ (a::D)+1
  rw[List.countP_cons_of_pos (by simpa using h2),List.countP_cons_of_neg (by simp;omega)]
 |a::D,k+1,d,h,h1,h2=>by
  have h3:axy (D.set k d)=axy D+1:=ase D k d (by simpa using h) h1 h2
  show List.countP _ (a::D.set k d)=List.countP _ (a::D)+1
  unfold axy at h3
  rw[List.countP_cons,List.countP_cons,h3]
  omega
theorem a29(D:List Int):axy D≤D.length:=List.countP_le_length
def pin(O:Int→List Int)(n:Int)(D F:List Int)(i:Nat):List Int×List Int:=(F.take i).foldl (m7 O n) (D,[])
theorem akc{O:Int→List Int}{n:Int}{D F:List Int}{i:Nat}(h:i<F.length):pin O n D F (i+1)=m7 O n (pin O n D F i) (el F i):=by
 unfold pin
 rw[bm h,List.foldl_append]
 rfl
theorem ath(O:Int→List Int)(n:Int)(s:List Int×List Int)(x:Int):(m7 O n s x).1.length=s.1.length:=by
 unfold m7
 split
 ·rfl
 ·simp
theorem aik(O:Int→List Int)(n:Int)(D F:List Int)(i:Nat):(pin O n D F i).1.length=D.length:=by
 have: ∀(l:List Int) (s:List Int×List Int),(l.foldl (m7 O n) s).1.length=s.1.length:=fun l=>by
  induction l with
  |nil=>intro s;rfl
  |cons a l ih=>intro s;rw[List.foldl_cons,ih,ath]
 exact this _ _
theorem awb{O:Int→List Int}{n:Int}{D F:List Int}{B:Nat}(hB: ∀x,(O x).length≤B)(hn:0≤n)(hF: ∀x∈F,0≤x∧x<(D.length:Int)): ∀i,i≤F.length→(pin O n D F i).2.length≤axy (pin O n D F i).1*B
 |0,_=>Nat.zero_le _
 |i+1,h=>by
  have ih:=awb hB hn hF i (by omega)
  have hl:=aik O n D F i
  have hx:=hF (el F i) (by rw[el,List.getD_eq_getElem?_getD,List.getElem?_eq_getElem h];exact List.getElem_mem h)
  rw[akc h]
  unfold m7
  split
  ·exact ih
  ·rename_i hc
   show(_++_:List Int).length≤axy (_:List Int)*B
   rw[ase _ _ _ (by omega) (by omega) hn,List.length_append,Nat.add_mul,Nat.one_mul]
   exact Nat.add_le_add ih (hB _)
theorem a47{g:Gr}{O:Int→List Int}{S:List Int}(hB: ∀x,(O x).length≤1000)(hz:g.sz≤64)(hF: ∀n,(pfr g O S n).1.length=g.sz.toNat∧∀x∈(pfr g O S n).2,0≤x∧x<g.sz): ∀n,(pfr g O S n).2.length≤64000
 |0=>by
  show(List.filter _ _).length≤_
  refine Nat.le_trans (List.length_filter_le _ _) ?_
  simp
  omega
 |n+1=>by
  show(apg g _).length≤_
  refine Nat.le_trans (List.length_filter_le _ _) ?_
  have h:=awb (O:=O) (n:=n) (D:=(pfr g O S n).1) (F:=(pfr g O S n).2) (B:=1000) hB (by omega) (fun x hx=>by have h1:=hF n;have h2:=h1.2 x hx;rw[h1.1];omega) (pfr g O S n).2.length (Nat.le_refl _)
  have hc:=a29 (pin O n (pfr g O S n).1 (pfr g O S n).2 (pfr g O S n).2.length).1
  rw[aik,(hF n).1]at hc
  unfold pin at h hc
  rw[List.take_length]at h hc
  have:axy (List.foldl (m7 O n) ((pfr g O S n).1,[]) (pfr g O S n).2).1*1000≤64*1000:=Nat.mul_le_mul_right _ (by omega)
  omega
theorem ar8(g:Gr)(S:List Int)(O:Int→List Int)(hg:OkE g)(hS: ∀x∈S,0≤x∧x<g.sz)(h0:0<g.sz)(h64:g.sz≤64)(h2:big g.gone.length)(h3:big S.length)
  (hO: ∀x y,y∈O x↔∃e∈g.ed,e.fr=x∧e.to=y) (hB: ∀x,(O x).length≤1000)
  (cO: ∀x,Den Tryz.prog 62 [.agg (gr g),.int .i64 x] [] (.vs ((O x).map i1)) [] []):
  Den Tryz.prog 29 [.agg (gr g),.vs (S.map i1)] [] (.os 0 (eo g S).length) [.arr 3 1 false ((eo g S).map i1)] []:=by
 refine aa Tryz.mixed Tryz.func29 rfl Tryz.call29 Tryz.ntmps29 (congrArg Array.toList Tryz.results29) (by simp) (by kernel_rfl) [15] (exts:=[]) rfl rfl ?_
 have hsp:=tf (S:=S) hg hO
 have hF: ∀n,(pfr g O S n).1.length=g.sz.toNat∧∀x∈(pfr g O S n).2,0≤x∧x<g.sz:=fun n=>⟨by rw[(hsp n).1];exact ak3 _ _,fun x hx=>((hsp n).2 x|>.1 hx).1⟩
 have hfl:=a47 hB h64 hF
 have hlt: ∀n,(pfr g O S n).2≠[]→n<g.sz.toNat:=fun n h=>bbk hg hO hS h
 have hend: ∀n,n≤g.sz.toNat+1→(pfr g O S n).2=[]→(pfr g O S n).1=eo g S:=fun n hn h=>a4e hg hO hS hn h
 have hp0:pfr g O S 0=((List.replicate g.sz.toNat (-1:Int)),whr (fun k=>decide (k∈S)&& !decide (k∈g.gone)) g.sz.toNat):=by
  show(vc g (fun _=> -1),_)=_
  congr 1
  unfold vc
  simp[List.map_const']
 have hps: ∀n,pfr g O S (n+1)=((pin O n (pfr g O S n).1 (pfr g O S n).2 (pfr g O S n).2.length).1,apg g (pin O n (pfr g O S n).1 (pfr g O S n).2 (pfr g O S n).2.length)):=fun n=>by unfold pin;rw[List.take_length];rfl
 have cR:=anc g.sz.toNat (by omega) (by omega)
 have cW:=avs g S g.sz.toNat (by omega) h2 h3
 have hsz:((g.sz.toNat:Nat):Int)=g.sz:=by omega
 rw[hsz]at cR cW
 rw[m5]at cW
 have hmx:(if 0<g.sz then g.sz else 0)=g.sz:=if_pos h0
 simp only[go_sem,hmx]
 refine call cR [] ?_
 simp only[go_sem]
 refine call cW [2,3] ?_
 generalize hP:pfr g O S=P at*
 generalize hZ:g.sz.toNat=Z at*
 simp only[go_sem]
 refine loop Tryz.mixed (0:Nat) (fun n:Nat=>[(2,.ptr 2 0),(5,.ptr 5 0),(6,.vs ((P n).2.map i1)),(7,.int .i64 n)]) (fun n=>[(2,.cells (gr g)),(5,.cells [.os 15 Z]),(15,.arr 3 1 false ((P n).1.map i1))]) (fun n=>n≤Z) (fun n=>Z - n) (by kernel_rfl) (Nat.zero_le _) ?_ ?_
 ·rw[hp0]
  simp only[go_sem]
  simp[i1]
 intro n hn
 obtain⟨hD,hx⟩:=hF n
 have hsx:=hps n
 have hfn:=hfl n
 have hltn:=hlt n
 have hen:=hend n (by omega)
 generalize P n=p at*
 obtain⟨D,F⟩:=p
 simp only at hD hx hsx hfn hltn hen
 by_cases hf:F=[]
 ·subst hf
  have:=hen rfl
  subst this
  have gz:(eo g S).length=Z:=hD
  simp only[go_sem]
  exact gz.symm
 ·have gp:(0:Int)<(F.length:Int):=by have:=List.length_pos_iff.2 hf;omega
  have hnZ:=hltn hf
  have w7:IntKind.i64.wrap ((n:Int)+1)=((n+1:Nat):Int):=by rw[ae]<;>omega
  simp only[go_sem,gp]
  have ps: ∀i,i<F.length→pin O n D F (i+1)=m7 O n (pin O n D F i) (el F i):=fun i hi=>akc hi
  have pl:=aik O n D F
  have pb: ∀i,i≤F.length→(pin O n D F i).2.length≤64000:=fun i hi=>by
   have h1:=awb (O:=O) (n:=n) (D:=D) (F:=F) (B:=1000) hB (by omega) (fun x h=>by have:=hx x h;omega) i hi
   have h2:=a29 (pin O n D F i).1
   rw[pl,hD]at h2
   have:axy (pin O n D F i).1*1000≤64*1000:=Nat.mul_le_mul_right _ (by omega)
   omega
  have p0:pin O n D F 0=(D,[]):=rfl
  generalize hQ:pin O n D F=Q at*
  refine cy 8 98 3 1 false ?_ (by rfl) (by rfl) (by omega)
  refine loop Tryz.mixed (0:Nat) (fun i:Nat=>[(2,.ptr 2 0),(5,.ptr 5 0),(7,.int .i64 n),(8,.os 98 (Q i).2.length),(25,.vs (F.map i1)),(26,.int .i64 F.length),(27,.int .i64 i)]) (fun i=>[(2,.cells (gr g)),(5,.cells [.os 15 Z]),(15,.arr 3 1 false ((Q i).1.map i1)),(98,.arr 3 1 false ((Q i).2.map i1))]) (fun i=>i≤F.length) (fun i=>F.length - i) (by kernel_rfl) (Nat.zero_le _) ?_ ?_
  ·rw[p0]
   simp only[go_sem]
  intro i hi
  by_cases hli:i<F.length
  ·have g1:(i:Int)<(F.length:Int):=by omega
   have psi:=ps i hli
   have pli:=pl i
   have pbi:=pb i hi
   have pbj:=pb (i+1) hli
   obtain⟨hx0,hx1⟩:=hx (el F i) (by rw[el,List.getD_eq_getElem?_getD,List.getElem?_eq_getElem hli];exact List.getElem_mem hli)
   have cOx:=cO (el F i)
   rw[m5]at cOx
   have w8:IntKind.i64.wrap ((i:Int)+1)=((i+1:Nat):Int):=by rw[ae]<;>omega
   generalize Q i=q at*
   obtain⟨E,N⟩:=q
   simp only at pli pbi
   have hZE:Z=E.length:=by omega
   subst hZE
   have hxZ:(el F i).toNat<E.length:=by omega
   have hxI:el F i<(E.length:Int):=by omega
   unfold m7 at psi
   by_cases hc:0≤el E (el F i).toNat
   ·rw[if_pos hc]at psi
    simp only[go_sem,g1,hli,hx0,hxI,hxZ,hc]
    exact⟨i+1,⟨hli,by omega⟩,⟨by rw[psi],w8⟩,by rw[psi],by rw[psi]⟩
   ·rw[if_neg hc]at psi
    have hbN:(N.length+(O (el F i)).length)*8≤140737488355328:=by have:=hB (el F i);omega
    simp only[go_sem,g1,hli,hx0,hxI,hxZ,hc]
    refine call cOx [] ?_
    simp only[go_sem]
    refine⟨hbN,i+1,⟨hli,by omega⟩,⟨by rw[psi,List.length_append],w8⟩,?_,by rw[psi,List.map_append]⟩
    rw[psi,List.map_set]
    rfl
  ·have g1: ¬(i:Int)<(F.length:Int):=by omega
   have:i=F.length:=by omega
   subst this
   have pbi:=pb F.length (Nat.le_refl _)
   have pli:=pl F.length
   have hnx:apg g (Q F.length)=(Q F.length).2.filter (kx (Q F.length).1):=by
    unfold apg kx
    rw[pli,hD]
    congr 1
    funext y
    rw[show((Z:Nat):Int)=g.sz by omega]
   rw[hnx]at hsx
   generalize Q F.length=q at*
   obtain⟨E,N⟩:=q
   simp only at pli pbi hsx
   have hZE:Z=E.length:=by omega
   subst hZE
   obtain⟨new,hnew,cD⟩:=ais N E (by simp only[big];omega) (by omega)
   simp only[go_sem,g1]
   refine ad6 cD [.arr 3 1 false (N.map i1)] [.arr 3 1 true new] [98] 5 15 [98,5,15] rfl rfl rfl ?_
   simp only[go_sem,w7]
   refine⟨⟨rfl,by omega⟩,n+1,⟨hnZ,by omega⟩,⟨by rw[hsx],rfl⟩,by rw[hsx]⟩
def lsS(d gone ta K:List Int)(i:Nat):Int:=((K.take i).map (mg d gone ta K)).sum
theorem amk{d gone ta K:List Int}{i:Nat}(h:i<K.length):lsS d gone ta K (i+1)=lsS d gone ta K i+mg d gone ta K (el K i):=by
 unfold lsS
 rw[bm h,List.map_append,List.sum_append]
 simp
theorem a4s(d gone ta K:List Int):lsS d gone ta K K.length=qd d gone ta K:=by unfold lsS qd;rw[List.take_length]
theorem akk(d gone ta K:List Int):lsS d gone ta K 0=0:=rfl
theorem ahp{n:Int}{p:Pol}(h:ue n p=true)(d:Int):0≤sq p.ta d∧sq p.ta d≤1000:=by
 have hp:ac0 (ol p.ta) p.ta.length=true:=by
  unfold ue at h
  simp only[Bool.and_eq_true]at h
  exact h.2.2.2
 unfold sq
 split
 ·omega
 ·split
  ·rename_i h1 h2
   have:=of_decide_eq_true (ow.1 hp d.toNat (by omega))
   omega
  ·omega
theorem ave{g:Gr}{S:List Int}(h0:0≤g.sz)(h64:g.sz≤64):OkD (eo g S) g.sz:=by
 have hl:(eo g S).length=g.sz.toNat:=ak3 _ _
 have key: ∀i,el (eo g S) i=if i<g.sz.toNat then dvl g S (g.sz.toNat+1) (i:Int)else 0:=fun i=>by
  by_cases h:i<g.sz.toNat
  ·rw[if_pos h]
   exact ajr (g:=g) (f:=dvl g S (g.sz.toNat+1)) (k:=(i:Int)) (by omega) (by omega)
  ·rw[if_neg h]
   simp[el,List.getD_eq_getElem?_getD,show¬i<(eo g S).length by omega]
 refine⟨by omega,fun i=> ?_,fun i=> ?_⟩
 ·rw[key];split
  ·exact(aak g S i (g.sz.toNat+1)).1
  ·omega
 ·rw[key];split
  ·have:=(aak g S i (g.sz.toNat+1)).2
   omega
  ·omega
theorem a1u{n:Int}{p:Pol}(h:ue n p=true)(d gone K:List Int)(x:Int): -1≤mg d gone p.ta K x∧mg d gone p.ta K x≤1000:=by
 have:=ahp h (i7 d K x)
 unfold mg
 split<;>omega
theorem a3l{n:Int}{p:Pol}(h:ue n p=true)(d gone K:List Int): ∀i,i≤K.length→ -(i:Int)≤lsS d gone p.ta K i∧lsS d gone p.ta K i≤1000*(i:Int)
 |0,_=>by rw[akk];omega
 |i+1,hi=>by
  have ih:=a3l h d gone K i (by omega)
  have:=a1u h d gone K (el K i)
  rw[amk (by omega)]
  omega
theorem wt(g:Gr)(p:Pol)(K:List Int)(g1:g.ed.length≤1000)(g2:g.gone.length≤1000)(h1:big p.se.length)(h2:big p.ta.length)(hK:big K.length)
  (cD:xi g p=0→Den Tryz.prog 29 [.agg (gr (jq g p.lv)),.vs (p.se.map i1)] [] (.os 0 (eo (jq g p.lv) p.se).length) [.arr 3 1 false ((eo (jq g p.lv) p.se).map i1)] []):
  Den Tryz.prog 12 [.agg (gr g),.agg (pl p),.vs (K.map i1)] [] (.tup [.int .i64 (ahe g p K).1,.int .i64 (ahe g p K).2]) [] []:=by
 refine aa Tryz.mixed Tryz.func12 rfl Tryz.call12 Tryz.ntmps12 (congrArg Array.toList Tryz.results12) (by simp) (by kernel_rfl) [] (exts:=[]) rfl rfl ?_
 have c1:=azp g p (by simp only[big];omega) (by simp only[big];omega) h1 h2
 have c2:=aph K g.sz hK
 have c3:=a6c g p.lv g1 g2
 have hR:ahe g p K=if xi g p≠0 then(0,xi g p)else if anj K g.sz=false then(0,4)else(qd (eo (jq g p.lv) p.se) g.gone p.ta K,0):=rfl
 rw[m5,ao1]at c1
 rw[m5]at c3
 simp only[go_sem]
 refine call c1 [] ?_
 by_cases hc:xi g p=0
 rotate_left
 ·rw[if_pos hc]at hR
  rw[hR]
  simp only[go_sem,hc]
 rw[if_neg (by simp[hc])]at hR
 have cd:=cD hc
 simp only[go_sem,hc]
 refine call c2 [] ?_
 by_cases hd:anj K g.sz=true
 rotate_left
 ·rw[if_pos (by simpa using hd)]at hR
  rw[hR]
  simp only[go_sem,hd]
 rw[if_neg (by simp[hd])]at hR
 have hG:bk g=true:=by
  by_cases h:bk g=true
  ·exact h
  ·exfalso;unfold xi at hc;rw[if_pos (by simpa using h)]at hc;omega
 have hP:ue g.sz p=true:=by
  by_cases h:ue g.sz p=true
  ·exact h
  ·exfalso;unfold xi at hc;rw[if_neg (by simp[hG]),if_pos (by simpa using h)]at hc;omega
 have hz:=(jz.1 hG).1
 have hK16:K.length≤16∧∀k∈K,0≤k∧k<g.sz:=by
  unfold anj at hd
  rw[Bool.and_eq_true,decide_eq_true_eq]at hd
  exact⟨hd.2,(ki.1 hd.1).1⟩
 have hD:OkD (eo (jq g p.lv) p.se) g.sz:=ave (g:=jq g p.lv) hz.1 hz.2.1
 have hsb:=a3l hP (eo (jq g p.lv) p.se) g.gone K
 have hss:=fun i (h:i<K.length)=>amk (d:=eo (jq g p.lv) p.se) (gone:=g.gone) (ta:=p.ta) h
 have hse:=a4s (eo (jq g p.lv) p.se) g.gone p.ta K
 have hs0:=akk (eo (jq g p.lv) p.se) g.gone p.ta K
 have hcb:=ahp hP
 rw[hR]
 rw[←hse]
 rw[m5]at cd
 generalize eo (jq g p.lv) p.se=D at*
 simp only[go_sem,hd]
 refine call c3 [] ?_
 simp only[go_sem]
 refine call cd [] ?_
 simp only[go_sem]
 refine⟨ag (by kernel_rfl),?_⟩
 refine loop Tryz.mixed (0:Nat) (fun i:Nat=>[(2,.vs (K.map i1)),(3,.ptr 3 0),(4,.ptr 4 0),(9,.vs (D.map i1)),(10,.int .i64 (lsS D g.gone p.ta K i)),(32,.vs (K.map i1)),(33,.int .i64 K.length),(34,.int .i64 i)]) (fun _=>[(3,.cells (gr g)),(4,.cells (pl p))]) (fun i=>i≤K.length) (fun i=>K.length - i) (by kernel_rfl) (Nat.zero_le _) ?_ ?_
 ·rw[hs0]
  simp only[go_sem]
 intro i hi
 by_cases hlt:i<K.length
 ·have gl:(i:Int)<(K.length:Int):=by omega
  have hx:=hK16.2 (el K i) (lk hlt)
  have hsi:=hss i hlt
  have hb1:=hsb i (by omega)
  have hb2:=hsb (i+1) (by omega)
  have cl:=atm D K g.sz (el K i) hD ⟨hz.1,hz.2.1⟩ hK hK16.2 hx
  have cc:=fa g.gone (el K i) (by simp only[big];omega)
  have co:=axj p (i7 D K (el K i))
  rw[ao1]at co
  have w8:IntKind.i64.wrap ((i:Int)+1)=((i+1:Nat):Int):=by rw[ae]<;>omega
  have hcc:=hcb (i7 D K (el K i))
  have wc:IntKind.i64.wrap (sq p.ta (i7 D K (el K i)) - 1)=sq p.ta (i7 D K (el K i)) - 1:=by rw[ae]<;>omega
  unfold mg at hsi
  generalize lsS D g.gone p.ta K=s at*
  simp only[go_sem,gl,hlt]
  refine call cl [] ?_
  generalize i7 D K (el K i)=L at*
  generalize sq p.ta L=C at*
  by_cases m1:0≤L
  ·simp only[go_sem,m1]
   refine call cc [] ?_
   by_cases m2:el K i∈g.gone
   ·rw[if_neg (by simp[m2]),Int.add_zero]at hsi
    simp only[go_sem,m2]
    exact⟨i+1,⟨hlt,by omega⟩,hsi.symm,w8⟩
   ·rw[if_pos ⟨m1,m2⟩]at hsi
    have ws:IntKind.i64.wrap (s i+(C - 1))=s i+(C - 1):=by rw[ae]<;>omega
    simp only[go_sem,m2]
    refine call co [] ?_
    simp only[go_sem,wc,ws]
    exact⟨i+1,⟨hlt,by omega⟩,hsi.symm,w8⟩
  ·rw[if_neg (by simp[m1]),Int.add_zero]at hsi
   simp only[go_sem,m1]
   exact⟨i+1,⟨hlt,by omega⟩,hsi.symm,w8⟩
 ·have gl: ¬(i:Int)<(K.length:Int):=by omega
  have:i=K.length:=by omega
  subst this
  simp only[go_sem,gl]
theorem yk(l:List Int): ∀(n i p:Nat),(o0 l n i p).Pairwise (· < ·)
 |0,_,_=>List.Pairwise.nil
 |n+1,i,p=>by
  rw[o0,List.pairwise_append]
  refine⟨by split<;>simp,yk l n (i+1) (ot l p),fun a ha b hb=> ?_⟩
  have:=(oh l n (i+1) (ot l p) b hb).1
  split at ha
  ·simp at ha;omega
  ·simp at ha
theorem ate{K:List Int}{n:Int}(h0:0≤n)(h:n≤16)(hp:K.Pairwise (· < ·))(hr: ∀x∈K,0≤x∧x<n):anj K n=true:=by
 unfold anj
 rw[ki.2 ⟨hr,hp⟩,Bool.true_and,decide_eq_true_eq]
 have:=aa2 (l:=K) (m:=(List.range n.toNat).map fun k:Nat=>(k:Int)) (hp.imp fun h=>by omega) fun x hx=>by
  have:=hr x hx
  exact List.mem_map.2 ⟨x.toNat,List.mem_range.2 (by omega),by omega⟩
 rw[List.length_map,List.length_range]at this
 omega
theorem a7h(l:List Int){p:Nat}(hp:p≤l.length):(mgr l p).2≤l.length:=by
 have key: ∀(n:Nat) (s:Gr×Nat),s.2≤l.length→(a07 l n s).2≤l.length:=fun n=>by
  induction n with
  |zero=>exact fun s h=>h
  |succ n ih=>
   intro s h
   rw[a07]
   refine ih _ ?_
   unfold aaq
   exact eb h 3
 refine key _ _ (eb ?_ 1)
 unfold nz
 split
 ·exact eb hp 3
 ·exact eb hp 2
theorem az7(l:List Int){p:Nat}(hp:p≤l.length):ara l p≤l.length:=by
 unfold ara
 refine eb ?_ _
 unfold pAt
 split
 ·exact eb hp 4
 ·exact eb hp 3
theorem ait(hAw:Den Tryz.prog 7 [] [] (.bool true) [] [])
  (hD: ∀(g:Gr) (p:Pol),xi g p=0→g.ed.length≤1000→Den Tryz.prog 29 [.agg (gr (jq g p.lv)),.vs (p.se.map i1)] [] (.os 0 (eo (jq g p.lv) p.se).length) [.arr 3 1 false ((eo (jq g p.lv) p.se).map i1)] [])
  (l:List Int) (more:Int) (hm:0≤more∧more<256):Den Tryz.prog 5 [.vs (l.map i1),.int .u8 more] [] (.bool true) [] []:=by
 refine aa Tryz.mixed Tryz.func5 rfl Tryz.call5 Tryz.ntmps5 (congrArg Array.toList Tryz.results5) (by simp) (by kernel_rfl) [] (exts:=[]) rfl rfl ?_
 simp only[go_sem]
 refine call (at9 l) [] ?_
 by_cases hL:l.length≤400
 rotate_left
 ·simp only[go_sem,hL]
  refine call hAw [] ?_
  simp only[go_sem]
 have hl:big l.length:=by simp only[big];omega
 simp only[go_sem,hL]
 refine call (a9k l) [] ?_
 simp only[go_sem]
 refine call (ao8 l 0 hl (Nat.zero_le _)) [21] ?_
 obtain⟨hok,hsz,hgo,hle⟩:=aq1 l 0
 have hzb:=akq l 0
 have hP:=a7h l (Nat.zero_le _)
 have hgn:(mgr l 0).1.gone.length≤1:=by rw[hgo];exact(ahh (l:=l) (p:=0)).2.2.2
 have hcap: ∀q,xi (mgr l 0).1 (azt l (gSz l 0) q)=0:=fun q=>a0i l 0 q
 have hpo: ∀q,ue (gSz l 0) (azt l (gSz l 0) q)=true:=fun q=>axk l q (by omega)
 rw[←hsz]at hcap hpo hzb
 clear hsz hgo
 generalize mgr l 0=G at*
 obtain⟨g,P⟩:=G
 simp only at*
 simp only[go_sem]
 have cP:=ai7 l P g hl hP (by omega) (by omega)
 rw[m5,ao1]at cP
 refine call cP [21] ?_
 have hQ:=az7 l hP
 have hca:=hcap P
 have hpl:=hpo P
 clear hcap hpo
 have hse:big (azt l g.sz P).se.length:=by have:=(agh l (sz:=g.sz) P (by omega)).2.2;show big (pp l g.sz P).length;simp only[big];omega
 have hta0:=a54 hpl
 have htl:(azt l g.sz P).ta.length≤8:=by
  unfold ue at hpl
  simp only[Bool.and_eq_true,decide_eq_true_eq]at hpl
  exact hpl.2.2.1.2.1
 generalize azt l g.sz P=p at*
 generalize ara l P=Q at*
 have cS:=a5t l Q g.sz.toNat hl hQ (by omega)
 rw[show((g.sz.toNat:Nat):Int)=g.sz by omega]at cS
 have k1:=yk l g.sz.toNat 0 Q
 have k2:=oh l g.sz.toNat 0 Q
 simp only[go_sem]
 refine call cS [21] ?_
 generalize o0 l g.sz.toNat 0 Q=k at*
 have k3: ∀x∈k,0≤x∧x<g.sz:=fun x hx=>by have:=k2 x hx;omega
 have dk:=ate (by omega) (by omega:g.sz≤16) k1 k3
 have kl:k.length≤16:=by unfold anj at dk;rw[Bool.and_eq_true,decide_eq_true_eq]at dk;exact dk.2
 have cA:=fun(K:List Int) (hK:big K.length)=>wt g p K (by omega) (by omega) hse (by simp only[big];omega) hK (fun h=>hD g p h (by omega))
 rw[m5,ao1]at cA
 have hlo:=fun K:List Int=>a0a (d:=eo (jq g p.lv) p.se) (gone:=g.gone) (K:=K) hta0
 have hmo:=fun(M:List Int) (h: ∀x∈k,x∈M)=>ana (d:=eo (jq g p.lv) p.se) (gone:=g.gone) (M:=M) hta0 (k1.imp fun h=>by omega) h
 have hhi:=fun K:List Int=>a21 (d:=eo (jq g p.lv) p.se) (gone:=g.gone) (K:=K) hta0
 have hR: ∀K,anj K g.sz=true→ahe g p K=(qd (eo (jq g p.lv) p.se) g.gone p.ta K,0):=fun K h=>by unfold ahe;rw[if_neg (by simp[hca]),if_neg (by simp[h])]
 have hX0:qd (eo (jq g p.lv) p.se) g.gone p.ta []=0:=rfl
 have cAk:=cA k (by simp only[big];omega)
 rw[hR k dk]at cAk
 simp only[go_sem]
 refine call cAk [] ?_
 generalize jq g p.lv=G2 at*
 have wm:IntKind.i64.wrap more=more:=by rw[ae]<;>omega
 have gz: ¬g.sz=0:=by omega
 simp only[go_sem,wm,gz]
 have hx0:0≤more.tmod g.sz∧more.tmod g.sz<g.sz:=⟨Int.tmod_nonneg _ hm.1,Int.tmod_lt_of_pos _ (by omega)⟩
 generalize more.tmod g.sz=x at*
 refine call (a79 k [x] (by simp only[big];omega) (by simp[big])) [] ?_
 have m1: ∀y,y∈cr (fun i=>decide (i∈k)||decide (i∈[x])) 64↔(0≤y∧y<64)∧(y∈k∨y=x):=fun y=>by rw[l8];simp
 have m2:=ub (fun i=>decide (i∈k)||decide (i∈[x])) 64
 generalize cr (fun i=>decide (i∈k)||decide (i∈[x])) 64=M at*
 have m3: ∀y∈M,0≤y∧y<g.sz:=fun y hy=>by
  rcases((m1 y).1 hy).2 with h|h
  ·exact k3 y h
  ·omega
 have dm:=ate (by omega) (by omega:g.sz≤16) m2 m3
 have ml:M.length≤16:=by unfold anj at dm;rw[Bool.and_eq_true,decide_eq_true_eq]at dm;exact dm.2
 have hMo:=hmo M (fun y hy=>(m1 y).2 ⟨by have:=k3 y hy;omega,.inl hy⟩)
 have hHi:=hhi M
 have hLo:=hlo k
 have cAm:=cA M (by simp only[big];omega)
 have cA0:=cA [] (by simp[big])
 rw[hR M dm]at cAm
 rw[hR [] rfl,hX0]at cA0
 have hb0:=ahp hpl 0
 have hc0:sq p.ta 0=el p.ta 0:=by unfold sq;rw[if_neg (by omega),if_pos (by have:=hta0.ne;omega)];rfl
 rw[hc0]at hb0
 have tn:=hta0.ne
 have tn':(0:Int)<(p.ta.length:Int):=by omega
 generalize qd _ g.gone p.ta k=A at*
 generalize qd _ g.gone p.ta M=B at*
 have w1:IntKind.i64.wrap (el p.ta 0 - 1)=el p.ta 0 - 1:=by rw[ae]<;>omega
 have hmul: -1000≤(M.length:Int)*(el p.ta 0 - 1)∧(M.length:Int)*(el p.ta 0 - 1)≤16000:=by
  rcases Nat.eq_zero_or_pos M.length with h|h
  ·rw[h];simp
  ·have h1:(M.length:Int)*(el p.ta 0 - 1)≤16*1000:=Int.mul_le_mul (by omega) (by omega) (by have:=hta0.lo _ (lk tn);omega) (by omega)
   have h2:0≤(M.length:Int)*(el p.ta 0 - 1):=Int.mul_nonneg (by omega) (by have:=hta0.lo _ (lk tn);omega)
   omega
 have w2:IntKind.i64.wrap ((M.length:Int)*(el p.ta 0 - 1))=(M.length:Int)*(el p.ta 0 - 1):=by rw[ae]<;>omega
 simp only[go_sem]
 refine call cAm [] ?_
 simp only[go_sem]
 refine call cA0 [] ?_
 simp only[go_sem,hLo,hMo,tn,tn',w1,w2,hHi]
 refine call hAw [] ?_
 simp only[go_sem]
theorem amp{l:List Int}{n:Int}(h:mu l n=true)(h0:0≤n):l.length≤n.toNat:=by
 obtain⟨h1,h2⟩:=ki.1 h
 have:=aa2 (l:=l) (m:=(List.range n.toNat).map fun k:Nat=>(k:Int)) (h2.imp fun h=>by omega) fun x hx=>by
  have:=h1 x hx
  exact List.mem_map.2 ⟨x.toNat,List.mem_range.2 (by omega),by omega⟩
 rw[List.length_map,List.length_range]at this
 exact this
theorem ax5{g:Gr}{x y:Int}:y∈aas g x↔∃e∈g.ed,e.fr=x∧e.to=y:=by
 unfold aas
 rw[List.mem_map]
 constructor
 ·rintro⟨e,he,rfl⟩
  obtain⟨h1,h2⟩:=List.mem_filter.1 he
  exact⟨e,h1,of_decide_eq_true h2,rfl⟩
 ·rintro⟨e,h1,h2,rfl⟩
  exact⟨e,List.mem_filter.2 ⟨h1,decide_eq_true h2⟩,rfl⟩
theorem avm(O:Gr→Int→List Int)(hm: ∀g x y,y∈O g x↔y∈aas g x)(hl: ∀g x,(O g x).length=(aas g x).length)
  (cO: ∀g x,g.ed.length≤1000→Den Tryz.prog 62 [.agg (gr g),.int .i64 x] [] (.vs ((O g x).map i1)) [] [])
  (g:Gr) (p:Pol) (h:xi g p=0) (hL:g.ed.length≤1000):Den Tryz.prog 29 [.agg (gr (jq g p.lv)),.vs (p.se.map i1)] [] (.os 0 (eo (jq g p.lv) p.se).length) [.arr 3 1 false ((eo (jq g p.lv) p.se).map i1)] []:=by
 have hG:bk g=true:=by
  by_cases h1:bk g=true
  ·exact h1
  ·exfalso;unfold xi at h;rw[if_pos (by simpa using h1)]at h;omega
 have hP:ue g.sz p=true:=by
  by_cases h1:ue g.sz p=true
  ·exact h1
  ·exfalso;unfold xi at h;rw[if_neg (by simp[hG]),if_pos (by simpa using h1)]at h;omega
 obtain⟨hz,hgone,_⟩:=jz.1 hG
 have hse:0<p.se.length∧mu p.se g.sz=true:=by
  unfold ue at hP
  simp only[Bool.and_eq_true,decide_eq_true_eq]at hP
  exact⟨hP.1,hP.2.1⟩
 have hS:=(ki.1 hse.2).1
 have h0:=hS _ (lk hse.1)
 have hEd:(jq g p.lv).ed.length≤1000:=Nat.le_trans (List.length_filter_le _ _) hL
 have l1:=amp hse.2 hz.1
 have l2:=amp hgone hz.1
 refine ar8 (jq g p.lv) p.se (O (jq g p.lv)) (a99 hG p.lv) hS (by show 0<g.sz;omega) (by show g.sz≤64;omega) (by show big g.gone.length;simp only[big];omega) (by simp only[big];omega) (fun x y=>(hm _ x y).trans ax5) (fun x=> ?_) (fun x=>cO _ x hEd)
 rw[hl]
 unfold aas
 rw[List.length_map]
 exact Nat.le_trans (List.length_filter_le _ _) hEd
end Go.Proofs.Am
