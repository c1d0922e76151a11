/- GWFour. -/
import Derived.Test.YtloaichcpoboeaaGreatDoorGWTwo
import Derived.Test.YtloaichcpoboeaaGreatDoorGWOne
import Derived.Test.YtloaichcpoboeaaGreatDoorGAOne
import Derived.Test.YtloaichcpoboeaaGreatDoorCOne
set_option maxHeartbeats 1000000
set_option maxRecDepth 100000
set_option linter.unusedSimpArgs false
set_option linter.unusedVariables false
namespace Go.Proofs.Am
open Go Go.RowKit
open Go.Proofs
theorem auz(n:Nat)(h:n≤64):Den Tryz.prog 124 [.int .u64 1,.int .u64 n] [] (.tup [.int .u64 0,.int .u64 n]) [] []:=by
 refine aa Tryz.mixed Tryz.func124 rfl Tryz.call124 Tryz.ntmps124 (congrArg Array.toList Tryz.results124) (by simp) (by kernel_rfl) [] (exts:=[]) rfl rfl ?_
 have key: ∀m:Nat,m<65→IntKind.u64.wrap (IntKind.u64.wrap (IntKind.u64.wrap (Int.fdiv 1 (2^min 32 64)*(m:Int).fdiv (2^min 32 64))+(IntKind.u64.wrap (IntKind.u64.wrap (Int.fdiv 1 (2^min 32 64)*bits BinOp.and IntKind.u64 (m:Int) 4294967295)+(IntKind.u64.wrap (bits BinOp.and IntKind.u64 1 4294967295*bits BinOp.and IntKind.u64 (m:Int) 4294967295)).fdiv (2^min 32 64))).fdiv (2^min 32 64))+(IntKind.u64.wrap (bits BinOp.and IntKind.u64 (IntKind.u64.wrap (IntKind.u64.wrap (Int.fdiv 1 (2^min 32 64)*bits BinOp.and IntKind.u64 (m:Int) 4294967295)+(IntKind.u64.wrap (bits BinOp.and IntKind.u64 1 4294967295*bits BinOp.and IntKind.u64 (m:Int) 4294967295)).fdiv (2^min 32 64))) 4294967295+IntKind.u64.wrap (bits BinOp.and IntKind.u64 1 4294967295*(m:Int).fdiv (2^min 32 64)))).fdiv (2^min 32 64))=0∧IntKind.u64.wrap (1*(m:Int))=(m:Int):=by decide+kernel
 simp only[go_sem]
 exact key n (by omega)
theorem a7j(n:Nat)(h:n≤64):Den Tryz.prog 87 [.int .u64 1,.int .u64 n] [] (.tup [.int .u64 0,.int .u64 n]) [] []:=by
 refine aa Tryz.mixed Tryz.func87 rfl Tryz.call87 Tryz.ntmps87 (congrArg Array.toList Tryz.results87) (by simp) (by kernel_rfl) [] (exts:=[]) rfl rfl ?_
 simp only[go_sem]
 refine call (auz n h) [] ?_
 simp only[go_sem]
def agn(n m:Nat):List (List PV):=(List.replicate m (-1:Int)++List.replicate (n - m) (0:Int)).map i1
theorem a0w{n m:Nat}(h:m≤n):(agn n m).length=n:=by simp[agn];omega
theorem awg{n m:Nat}(h:m≤n):List.take m (agn n m)++(List.take (min m (n - m)) (agn n m)++List.drop (m+min m (n - m)) (agn n m))=agn n (m+min m (n - m)):=by
 have e:List.replicate m (-1:Int)++(List.replicate (min m (n - m)) (-1:Int)++List.replicate (n - (m+min m (n - m))) (0:Int))=List.replicate (m+min m (n - m)) (-1:Int)++List.replicate (n - (m+min m (n - m))) (0:Int):=by
  rw[←List.append_assoc,List.replicate_append_replicate]
 unfold agn
 rw[←e]
 simp only[List.map_append]
 congr 1
 ·rw[List.take_append_of_le_length (by simp),List.take_of_length_le (by simp)]
 congr 1
 ·rw[List.take_append_of_le_length (by simp;omega),←List.map_take,List.take_replicate]
  congr 2
  omega
 ·rw[List.drop_append,List.drop_of_length_le (by simp),List.nil_append,←List.map_drop,List.drop_replicate]
  simp only[List.length_map,List.length_replicate]
  congr 2
  omega
theorem azt(n:Nat):agn n n=List.replicate n [.int .i64 (-1)]:=by unfold agn;rw[Nat.sub_self];simp[i1]
theorem azx(n:Nat):agn n 1=[.int .i64 (-1)]::List.replicate (n - 1) [.int .i64 0]:=by unfold agn;simp[i1]
theorem azn{σ:ASt}(l:List Int):ik σ (l.map i1)=some (l.map i1,[]):=ky fun x hx=>by
 obtain⟨a,_,rfl⟩:=List.mem_map.1 hx
 rfl
theorem aoj(n:Nat)(h:n≤64)(h0:0<n):Den Tryz.prog 58 [.vs [[.int .i64 (-1)]],.int .i64 n] [] (.os 0 n) [.arr 3 1 false (List.replicate n [.int .i64 (-1)])] []:=by
 refine aa Tryz.mixed Tryz.func58 rfl Tryz.call58 Tryz.ntmps58 (congrArg Array.toList Tryz.results58) (by simp) (by kernel_rfl) [30] (exts:=[]) rfl rfl ?_
 have g0: ¬(n:Int)<0:=by omega
 have w0:IntKind.u64.wrap (n:Int)=(n:Int):=by rw[show IntKind.u64.wrap (n:Int)=(n:Int) % 18446744073709551616 from rfl];omega
 have w1:IntKind.u64.wrap 1=1:=rfl
 have w2:IntKind.i64.wrap (n:Int)=(n:Int):=by rw[ae]<;>omega
 have g2: ¬9223372036854775807<(n:Int):=by omega
 simp only[go_sem,g0,w0,w1]
 refine call (a7j n h) [] ?_
 simp only[go_sem,g2,w2,g0]
 have hm1:min 1 n=1:=by omega
 rw[hm1]
 refine⟨⟨Nat.le_refl _,by omega,by omega⟩,⟨h0,fun y hy=>by rw[hy];rfl⟩,?_⟩
 refine lk (Cv.trans (Cv.opn (n:=30) (by rfl)) (Cv.hint (n:=900030) (by rfl))) ?_
 refine q8 Tryz.mixed 1 (fun m:Nat=>[(7,.os 30 n),(8,.int .i64 m)]) (fun m=>[(30,.arh 3 1 (agn n m)),(900030,.dead 1 0)]) (fun m=>1≤m∧m≤n) (fun m=>n - m) (by kernel_rfl) ⟨Nat.le_refl _,h0⟩ ?_ ?_
 ·refine Cv.wk ?_
  rw[List.drop_replicate]
  have hh:wy [30,900030] (agn n 1)=true:=aw _ _ (fun a=>rfl) _
  simp only[go_sem,hh]
  exact(azx n).symm
 intro m hm
 have hl:=a0w hm.2
 by_cases hlt:m<n
 ·have g1:(m:Int)<(n:Int):=by omega
  have hc:=awg hm.2
  have w3:IntKind.i64.wrap ((m:Int)+((min m (n - m):Nat):Int))=((m+min m (n - m):Nat):Int):=by rw[ae]<;>omega
  have hh:wy [30,900030] (agn n (m+min m (n - m)))=true:=aw _ _ (fun a=>rfl) _
  generalize agn n m=R at*
  simp only[go_sem,g1,hl]
  rw[hc,w3]
  refine⟨by omega,by omega,ag (by kernel_rfl),m+min m (n - m),⟨⟨by omega,by omega⟩,by omega⟩,Cv.wk ?_⟩
  simp only[go_sem,hh]
 ·have g1: ¬(m:Int)<(n:Int):=by omega
  have:m=n:=by omega
  subst this
  generalize hR:agn m m=R at*
  simp only[go_sem,g1,hl]
  refine⟨_,_,Cv.shutB (n:=30) (xs:=R) (by rfl) (by rw[←hR];exact azn _),?_⟩
  simp only[go_sem]
  rw[←hR]
  exact azt m
def axw(D:List Int):Nat:=D.countP fun d=>decide (0≤d)
theorem ar9: ∀(D:List Int) (k:Nat) (d:Int),k<D.length→el D k<0→0≤d→axw (D.set k d)=axw D+1
 |[],k,d,h,_,_=>absurd h (Nat.not_lt_zero k)
 |a::D,0,d,_,h1,h2=>by
  have h1':a<0:=h1
  show List.countP _ (d::D)=List.countP _ (a::D)+1
  rw[List.countP_cons_of_pos (by simpa using h2),List.countP_cons_of_neg (by simp;omega)]
 |a::D,k+1,d,h,h1,h2=>by
  have h3:axw (D.set k d)=axw D+1:=ar9 D k d (by simpa using h) h1 h2
  show List.countP _ (a::D.set k d)=List.countP _ (a::D)+1
  unfold axw at h3
  rw[List.countP_cons,List.countP_cons,h3]
  omega
theorem a3y(D:List Int):axw D≤D.length:=List.countP_le_length
def pin(O:Int→List Int)(n:Int)(D F:List Int)(i:Nat):List Int×List Int:=(F.take i).foldl (m5 O n) (D,[])
theorem ama{O:Int→List Int}{n:Int}{D F:List Int}{i:Nat}(h:i<F.length):pin O n D F (i+1)=m5 O n (pin O n D F i) (el F i):=by
 unfold pin
 rw[bm h,List.foldl_append]
 rfl
theorem atc(O:Int→List Int)(n:Int)(s:List Int×List Int)(x:Int):(m5 O n s x).1.length=s.1.length:=by
 unfold m5
 split
 ·rfl
 ·simp
theorem ahv(O:Int→List Int)(n:Int)(D F:List Int)(i:Nat):(pin O n D F i).1.length=D.length:=by
 have: ∀(l:List Int) (s:List Int×List Int),(l.foldl (m5 O n) s).1.length=s.1.length:=fun l=>by
  induction l with
  |nil=>intro s;rfl
  |cons a l ih=>intro s;rw[List.foldl_cons,ih,atc]
 exact this _ _
theorem arm{O:Int→List Int}{n:Int}{D F:List Int}{B:Nat}(hB: ∀x,(O x).length≤B)(hn:0≤n)(hF: ∀x∈F,0≤x∧x<(D.length:Int)): ∀i,i≤F.length→(pin O n D F i).2.length≤axw (pin O n D F i).1*B
 |0,_=>Nat.zero_le _
 |i+1,h=>by
  have ih:=arm hB hn hF i (by omega)
  have hl:=ahv O n D F i
  have hx:=hF (el F i) (by rw[el,List.getD_eq_getElem?_getD,List.getElem?_eq_getElem h];exact List.getElem_mem h)
  rw[ama h]
  unfold m5
  split
  ·exact ih
  ·rename_i hc
   show(_++_:List Int).length≤axw (_:List Int)*B
   rw[ar9 _ _ _ (by omega) (by omega) hn,List.length_append,Nat.add_mul,Nat.one_mul]
   exact Nat.add_le_add ih (hB _)
theorem a5n{g:Gr}{O:Int→List Int}{S:List Int}(hB: ∀x,(O x).length≤1000)(hz:g.sz≤64)(hF: ∀n,(pfr g O S n).1.length=g.sz.toNat∧∀x∈(pfr g O S n).2,0≤x∧x<g.sz): ∀n,(pfr g O S n).2.length≤64000
 |0=>by
  show(List.filter _ _).length≤_
  refine Nat.le_trans (List.length_filter_le _ _) ?_
  simp
  omega
 |n+1=>by
  show(an3 g _).length≤_
  refine Nat.le_trans (List.length_filter_le _ _) ?_
  have h:=arm (O:=O) (n:=n) (D:=(pfr g O S n).1) (F:=(pfr g O S n).2) (B:=1000) hB (by omega) (fun x hx=>by have h1:=hF n;have h2:=h1.2 x hx;rw[h1.1];omega) (pfr g O S n).2.length (Nat.le_refl _)
  have hc:=a3y (pin O n (pfr g O S n).1 (pfr g O S n).2 (pfr g O S n).2.length).1
  rw[ahv,(hF n).1]at hc
  unfold pin at h hc
  rw[List.take_length]at h hc
  have:axw (List.foldl (m5 O n) ((pfr g O S n).1,[]) (pfr g O S n).2).1*1000≤64*1000:=Nat.mul_le_mul_right _ (by omega)
  omega
theorem av0(g:Gr)(S:List Int)(O:Int→List Int)(hg:OkE g)(hS: ∀x∈S,0≤x∧x<g.sz)(h0:0<g.sz)(h64:g.sz≤64)(h2:big g.gone.length)(h3:big S.length)
  (hO: ∀x y,y∈O x↔∃e∈g.ed,e.fr=x∧e.to=y) (hB: ∀x,(O x).length≤1000)
  (cO: ∀x,Den Tryz.prog 62 [.agg (gr g),.int .i64 x] [] (.vs ((O x).map i1)) [] []):
  Den Tryz.prog 29 [.agg (gr g),.vs (S.map i1)] [] (.os 0 (eo g S).length) [.arr 3 1 false ((eo g S).map i1)] []:=by
 refine aa Tryz.mixed Tryz.func29 rfl Tryz.call29 Tryz.ntmps29 (congrArg Array.toList Tryz.results29) (by simp) (by kernel_rfl) [15] (exts:=[]) rfl rfl ?_
 have hsp:=td (S:=S) hg hO
 have hF: ∀n,(pfr g O S n).1.length=g.sz.toNat∧∀x∈(pfr g O S n).2,0≤x∧x<g.sz:=fun n=>⟨by rw[(hsp n).1];exact ak7 _ _,fun x hx=>((hsp n).2 x|>.1 hx).1⟩
 have hfl:=a5n hB h64 hF
 have hlt: ∀n,(pfr g O S n).2≠[]→n<g.sz.toNat:=fun n h=>bao hg hO hS h
 have hend: ∀n,n≤g.sz.toNat+1→(pfr g O S n).2=[]→(pfr g O S n).1=eo g S:=fun n hn h=>a8s hg hO hS hn h
 have hp0:pfr g O S 0=((List.replicate g.sz.toNat (-1:Int)),whr (fun k=>decide (k∈S)&& !decide (k∈g.gone)) g.sz.toNat):=by
  show(wu g (fun _=> -1),_)=_
  congr 1
  unfold wu
  simp[List.map_const']
 have hps: ∀n,pfr g O S (n+1)=((pin O n (pfr g O S n).1 (pfr g O S n).2 (pfr g O S n).2.length).1,an3 g (pin O n (pfr g O S n).1 (pfr g O S n).2 (pfr g O S n).2.length)):=fun n=>by unfold pin;rw[List.take_length];rfl
 have cR:=aoj g.sz.toNat (by omega) (by omega)
 have cW:=avz g S g.sz.toNat (by omega) h2 h3
 have hsz:((g.sz.toNat:Nat):Int)=g.sz:=by omega
 rw[hsz]at cR cW
 rw[m6]at cW
 have hmx:(if 0<g.sz then g.sz else 0)=g.sz:=if_pos h0
 simp only[go_sem,hmx]
 refine call cR [] ?_
 simp only[go_sem]
 refine call cW [2,3] ?_
 generalize hP:pfr g O S=P at*
 generalize hZ:g.sz.toNat=Z at*
 simp only[go_sem]
 refine loop Tryz.mixed (0:Nat) (fun n:Nat=>[(2,.ptr 2 0),(5,.ptr 5 0),(6,.vs ((P n).2.map i1)),(7,.int .i64 n)]) (fun n=>[(2,.cells (gr g)),(5,.cells [.os 15 Z]),(15,.arr 3 1 false ((P n).1.map i1))]) (fun n=>n≤Z) (fun n=>Z - n) (by kernel_rfl) (Nat.zero_le _) ?_ ?_
 ·rw[hp0]
  simp only[go_sem]
  simp[i1]
 intro n hn
 obtain⟨hD,hx⟩:=hF n
 have hsx:=hps n
 have hfn:=hfl n
 have hltn:=hlt n
 have hen:=hend n (by omega)
 generalize P n=p at*
 obtain⟨D,F⟩:=p
 simp only at hD hx hsx hfn hltn hen
 by_cases hf:F=[]
 ·subst hf
  have:=hen rfl
  subst this
  have gz:(eo g S).length=Z:=hD
  simp only[go_sem]
  exact gz.symm
 ·have gp:(0:Int)<(F.length:Int):=by have:=List.length_pos_iff.2 hf;omega
  have hnZ:=hltn hf
  have w7:IntKind.i64.wrap ((n:Int)+1)=((n+1:Nat):Int):=by rw[ae]<;>omega
  simp only[go_sem,gp]
  have ps: ∀i,i<F.length→pin O n D F (i+1)=m5 O n (pin O n D F i) (el F i):=fun i hi=>ama hi
  have pl:=ahv O n D F
  have pb: ∀i,i≤F.length→(pin O n D F i).2.length≤64000:=fun i hi=>by
   have h1:=arm (O:=O) (n:=n) (D:=D) (F:=F) (B:=1000) hB (by omega) (fun x h=>by have:=hx x h;omega) i hi
   have h2:=a3y (pin O n D F i).1
   rw[pl,hD]at h2
   have:axw (pin O n D F i).1*1000≤64*1000:=Nat.mul_le_mul_right _ (by omega)
   omega
  have p0:pin O n D F 0=(D,[]):=rfl
  generalize hQ:pin O n D F=Q at*
  refine cy 8 98 3 1 false ?_ (by rfl) (by rfl) (by omega)
  refine loop Tryz.mixed (0:Nat) (fun i:Nat=>[(2,.ptr 2 0),(5,.ptr 5 0),(7,.int .i64 n),(8,.os 98 (Q i).2.length),(25,.vs (F.map i1)),(26,.int .i64 F.length),(27,.int .i64 i)]) (fun i=>[(2,.cells (gr g)),(5,.cells [.os 15 Z]),(15,.arr 3 1 false ((Q i).1.map i1)),(98,.arr 3 1 false ((Q i).2.map i1))]) (fun i=>i≤F.length) (fun i=>F.length - i) (by kernel_rfl) (Nat.zero_le _) ?_ ?_
  ·rw[p0]
   simp only[go_sem]
  intro i hi
  by_cases hli:i<F.length
  ·have g1:(i:Int)<(F.length:Int):=by omega
   have psi:=ps i hli
   have pli:=pl i
   have pbi:=pb i hi
   have pbj:=pb (i+1) hli
   obtain⟨hx0,hx1⟩:=hx (el F i) (by rw[el,List.getD_eq_getElem?_getD,List.getElem?_eq_getElem hli];exact List.getElem_mem hli)
   have cOx:=cO (el F i)
   rw[m6]at cOx
   have w8:IntKind.i64.wrap ((i:Int)+1)=((i+1:Nat):Int):=by rw[ae]<;>omega
   generalize Q i=q at*
   obtain⟨E,N⟩:=q
   simp only at pli pbi
   have hZE:Z=E.length:=by omega
   subst hZE
   have hxZ:(el F i).toNat<E.length:=by omega
   have hxI:el F i<(E.length:Int):=by omega
   unfold m5 at psi
   by_cases hc:0≤el E (el F i).toNat
   ·rw[if_pos hc]at psi
    simp only[go_sem,g1,hli,hx0,hxI,hxZ,hc]
    exact⟨i+1,⟨hli,by omega⟩,⟨by rw[psi],w8⟩,by rw[psi],by rw[psi]⟩
   ·rw[if_neg hc]at psi
    have hbN:(N.length+(O (el F i)).length)*8≤140737488355328:=by have:=hB (el F i);omega
    simp only[go_sem,g1,hli,hx0,hxI,hxZ,hc]
    refine call cOx [] ?_
    simp only[go_sem]
    refine⟨hbN,i+1,⟨hli,by omega⟩,⟨by rw[psi,List.length_append],w8⟩,?_,by rw[psi,List.map_append]⟩
    rw[psi,List.map_set]
    rfl
  ·have g1: ¬(i:Int)<(F.length:Int):=by omega
   have:i=F.length:=by omega
   subst this
   have pbi:=pb F.length (Nat.le_refl _)
   have pli:=pl F.length
   have hnx:an3 g (Q F.length)=(Q F.length).2.filter (kr (Q F.length).1):=by
    unfold an3 kr
    rw[pli,hD]
    congr 1
    funext y
    rw[show((Z:Nat):Int)=g.sz by omega]
   rw[hnx]at hsx
   generalize Q F.length=q at*
   obtain⟨E,N⟩:=q
   simp only at pli pbi hsx
   have hZE:Z=E.length:=by omega
   subst hZE
   obtain⟨new,hnew,cD⟩:=ahw N E (by simp only[big];omega) (by omega)
   simp only[go_sem,g1]
   refine af5 cD [.arr 3 1 false (N.map i1)] [.arr 3 1 true new] [98] 5 15 [98,5,15] rfl rfl rfl ?_
   simp only[go_sem,w7]
   refine⟨⟨rfl,by omega⟩,n+1,⟨hnZ,by omega⟩,⟨by rw[hsx],rfl⟩,by rw[hsx]⟩
def lsS(d gone ta K:List Int)(i:Nat):Int:=((K.take i).map (mb d gone ta K)).sum
theorem amq{d gone ta K:List Int}{i:Nat}(h:i<K.length):lsS d gone ta K (i+1)=lsS d gone ta K i+mb d gone ta K (el K i):=by
 unfold lsS
 rw[bm h,List.map_append,List.sum_append]
 simp
theorem a7l(d gone ta K:List Int):lsS d gone ta K K.length=q9 d gone ta K:=by unfold lsS q9;rw[List.take_length]
theorem akk(d gone ta K:List Int):lsS d gone ta K 0=0:=rfl
theorem ahc{n:Int}{p:Pol}(h:tt n p=true)(d:Int):0≤s8 p.ta d∧s8 p.ta d≤1000:=by
 have hp:ac0 (nz p.ta) p.ta.length=true:=by
  unfold tt at h
  simp only[Bool.and_eq_true]at h
  exact h.2.2.2
 unfold s8
 split
 ·omega
 ·split
  ·rename_i h1 h2
   have:=of_decide_eq_true (p7.1 hp d.toNat (by omega))
   omega
  ·omega
theorem auu{g:Gr}{S:List Int}(h0:0≤g.sz)(h64:g.sz≤64):OkD (eo g S) g.sz:=by
 have hl:(eo g S).length=g.sz.toNat:=ak7 _ _
 have key: ∀i,el (eo g S) i=if i<g.sz.toNat then dvl g S (g.sz.toNat+1) (i:Int)else 0:=fun i=>by
  by_cases h:i<g.sz.toNat
  ·rw[if_pos h]
   exact ag7 (g:=g) (f:=dvl g S (g.sz.toNat+1)) (k:=(i:Int)) (by omega) (by omega)
  ·rw[if_neg h]
   simp[el,List.getD_eq_getElem?_getD,show¬i<(eo g S).length by omega]
 refine⟨by omega,fun i=> ?_,fun i=> ?_⟩
 ·rw[key];split
  ·exact(ab3 g S i (g.sz.toNat+1)).1
  ·omega
 ·rw[key];split
  ·have:=(ab3 g S i (g.sz.toNat+1)).2
   omega
  ·omega
theorem a2a{n:Int}{p:Pol}(h:tt n p=true)(d gone K:List Int)(x:Int): -1≤mb d gone p.ta K x∧mb d gone p.ta K x≤1000:=by
 have:=ahc h (jb d K x)
 unfold mb
 split<;>omega
theorem a3f{n:Int}{p:Pol}(h:tt n p=true)(d gone K:List Int): ∀i,i≤K.length→ -(i:Int)≤lsS d gone p.ta K i∧lsS d gone p.ta K i≤1000*(i:Int)
 |0,_=>by rw[akk];omega
 |i+1,hi=>by
  have ih:=a3f h d gone K i (by omega)
  have:=a2a h d gone K (el K i)
  rw[amq (by omega)]
  omega
theorem vd(g:Gr)(p:Pol)(K:List Int)(g1:g.ed.length≤1000)(g2:g.gone.length≤1000)(h1:big p.se.length)(h2:big p.ta.length)(hK:big K.length)
  (cD:xl g p=0→Den Tryz.prog 29 [.agg (gr (jq g p.lv)),.vs (p.se.map i1)] [] (.os 0 (eo (jq g p.lv) p.se).length) [.arr 3 1 false ((eo (jq g p.lv) p.se).map i1)] []):
  Den Tryz.prog 12 [.agg (gr g),.agg (pl p),.vs (K.map i1)] [] (.tup [.int .i64 (ahx g p K).1,.int .i64 (ahx g p K).2]) [] []:=by
 refine aa Tryz.mixed Tryz.func12 rfl Tryz.call12 Tryz.ntmps12 (congrArg Array.toList Tryz.results12) (by simp) (by kernel_rfl) [] (exts:=[]) rfl rfl ?_
 have c1:=azq g p (by simp only[big];omega) (by simp only[big];omega) h1 h2
 have c2:=apb K g.sz hK
 have c3:=a4d g p.lv g1 g2
 have hR:ahx g p K=if xl g p≠0 then(0,xl g p)else if am4 K g.sz=false then(0,4)else(q9 (eo (jq g p.lv) p.se) g.gone p.ta K,0):=rfl
 rw[m6,apo]at c1
 rw[m6]at c3
 simp only[go_sem]
 refine call c1 [] ?_
 by_cases hc:xl g p=0
 rotate_left
 ·rw[if_pos hc]at hR
  rw[hR]
  simp only[go_sem,hc]
 rw[if_neg (by simp[hc])]at hR
 have cd:=cD hc
 simp only[go_sem,hc]
 refine call c2 [] ?_
 by_cases hd:am4 K g.sz=true
 rotate_left
 ·rw[if_pos (by simpa using hd)]at hR
  rw[hR]
  simp only[go_sem,hd]
 rw[if_neg (by simp[hd])]at hR
 have hG:bk g=true:=by
  by_cases h:bk g=true
  ·exact h
  ·exfalso;unfold xl at hc;rw[if_pos (by simpa using h)]at hc;omega
 have hP:tt g.sz p=true:=by
  by_cases h:tt g.sz p=true
  ·exact h
  ·exfalso;unfold xl at hc;rw[if_neg (by simp[hG]),if_pos (by simpa using h)]at hc;omega
 have hz:=(j7.1 hG).1
 have hK16:K.length≤16∧∀k∈K,0≤k∧k<g.sz:=by
  unfold am4 at hd
  rw[Bool.and_eq_true,decide_eq_true_eq]at hd
  exact⟨hd.2,(kc.1 hd.1).1⟩
 have hD:OkD (eo (jq g p.lv) p.se) g.sz:=auu (g:=jq g p.lv) hz.1 hz.2.1
 have hsb:=a3f hP (eo (jq g p.lv) p.se) g.gone K
 have hss:=fun i (h:i<K.length)=>amq (d:=eo (jq g p.lv) p.se) (gone:=g.gone) (ta:=p.ta) h
 have hse:=a7l (eo (jq g p.lv) p.se) g.gone p.ta K
 have hs0:=akk (eo (jq g p.lv) p.se) g.gone p.ta K
 have hcb:=ahc hP
 rw[hR]
 rw[←hse]
 rw[m6]at cd
 generalize eo (jq g p.lv) p.se=D at*
 simp only[go_sem,hd]
 refine call c3 [] ?_
 simp only[go_sem]
 refine call cd [] ?_
 simp only[go_sem]
 refine⟨ag (by kernel_rfl),?_⟩
 refine loop Tryz.mixed (0:Nat) (fun i:Nat=>[(2,.vs (K.map i1)),(3,.ptr 3 0),(4,.ptr 4 0),(9,.vs (D.map i1)),(10,.int .i64 (lsS D g.gone p.ta K i)),(32,.vs (K.map i1)),(33,.int .i64 K.length),(34,.int .i64 i)]) (fun _=>[(3,.cells (gr g)),(4,.cells (pl p))]) (fun i=>i≤K.length) (fun i=>K.length - i) (by kernel_rfl) (Nat.zero_le _) ?_ ?_
 ·rw[hs0]
  simp only[go_sem]
 intro i hi
 by_cases hlt:i<K.length
 ·have gl:(i:Int)<(K.length:Int):=by omega
  have hx:=hK16.2 (el K i) (l9 hlt)
  have hsi:=hss i hlt
  have hb1:=hsb i (by omega)
  have hb2:=hsb (i+1) (by omega)
  have cl:=as4 D K g.sz (el K i) hD ⟨hz.1,hz.2.1⟩ hK hK16.2 hx
  have cc:=ey g.gone (el K i) (by simp only[big];omega)
  have co:=axf p (jb D K (el K i))
  rw[apo]at co
  have w8:IntKind.i64.wrap ((i:Int)+1)=((i+1:Nat):Int):=by rw[ae]<;>omega
  have hcc:=hcb (jb D K (el K i))
  have wc:IntKind.i64.wrap (s8 p.ta (jb D K (el K i)) - 1)=s8 p.ta (jb D K (el K i)) - 1:=by rw[ae]<;>omega
  unfold mb at hsi
  generalize lsS D g.gone p.ta K=s at*
  simp only[go_sem,gl,hlt]
  refine call cl [] ?_
  generalize jb D K (el K i)=L at*
  generalize s8 p.ta L=C at*
  by_cases m1:0≤L
  ·simp only[go_sem,m1]
   refine call cc [] ?_
   by_cases m2:el K i∈g.gone
   ·rw[if_neg (by simp[m2]),Int.add_zero]at hsi
    simp only[go_sem,m2]
    exact⟨i+1,⟨hlt,by omega⟩,hsi.symm,w8⟩
   ·rw[if_pos ⟨m1,m2⟩]at hsi
    have ws:IntKind.i64.wrap (s i+(C - 1))=s i+(C - 1):=by rw[ae]<;>omega
    simp only[go_sem,m2]
    refine call co [] ?_
    simp only[go_sem,wc,ws]
    exact⟨i+1,⟨hlt,by omega⟩,hsi.symm,w8⟩
  ·rw[if_neg (by simp[m1]),Int.add_zero]at hsi
   simp only[go_sem,m1]
   exact⟨i+1,⟨hlt,by omega⟩,hsi.symm,w8⟩
 ·have gl: ¬(i:Int)<(K.length:Int):=by omega
  have:i=K.length:=by omega
  subst this
  simp only[go_sem,gl]
theorem z7(l:List Int): ∀(n i p:Nat),(o5 l n i p).Pairwise (· < ·)
 |0,_,_=>List.Pairwise.nil
 |n+1,i,p=>by
  rw[o5,List.pairwise_append]
  refine⟨by split<;>simp,z7 l n (i+1) (ot l p),fun a ha b hb=> ?_⟩
  have:=(oh l n (i+1) (ot l p) b hb).1
  split at ha
  ·simp at ha;omega
  ·simp at ha
theorem ast{K:List Int}{n:Int}(h0:0≤n)(h:n≤16)(hp:K.Pairwise (· < ·))(hr: ∀x∈K,0≤x∧x<n):am4 K n=true:=by
 unfold am4
 rw[kc.2 ⟨hr,hp⟩,Bool.true_and,decide_eq_true_eq]
 have:=acf (l:=K) (m:=(List.range n.toNat).map fun k:Nat=>(k:Int)) (hp.imp fun h=>by omega) fun x hx=>by
  have:=hr x hx
  exact List.mem_map.2 ⟨x.toNat,List.mem_range.2 (by omega),by omega⟩
 rw[List.length_map,List.length_range]at this
 omega
theorem a4e(l:List Int){p:Nat}(hp:p≤l.length):(mgr l p).2≤l.length:=by
 have key: ∀(n:Nat) (s:Gr×Nat),s.2≤l.length→(a0i l n s).2≤l.length:=fun n=>by
  induction n with
  |zero=>exact fun s h=>h
  |succ n ih=>
   intro s h
   rw[a0i]
   refine ih _ ?_
   unfold aci
   exact d9 h 3
 refine key _ _ (d9 ?_ 1)
 unfold oa
 split
 ·exact d9 hp 3
 ·exact d9 hp 2
theorem a1c(l:List Int){p:Nat}(hp:p≤l.length):asl l p≤l.length:=by
 unfold asl
 refine d9 ?_ _
 unfold pAt
 split
 ·exact d9 hp 4
 ·exact d9 hp 3
theorem ais(hAw:Den Tryz.prog 7 [] [] (.bool true) [] [])
  (hD: ∀(g:Gr) (p:Pol),xl g p=0→g.ed.length≤1000→Den Tryz.prog 29 [.agg (gr (jq g p.lv)),.vs (p.se.map i1)] [] (.os 0 (eo (jq g p.lv) p.se).length) [.arr 3 1 false ((eo (jq g p.lv) p.se).map i1)] [])
  (l:List Int) (more:Int) (hm:0≤more∧more<256):Den Tryz.prog 5 [.vs (l.map i1),.int .u8 more] [] (.bool true) [] []:=by
 refine aa Tryz.mixed Tryz.func5 rfl Tryz.call5 Tryz.ntmps5 (congrArg Array.toList Tryz.results5) (by simp) (by kernel_rfl) [] (exts:=[]) rfl rfl ?_
 simp only[go_sem]
 refine call (awh l) [] ?_
 by_cases hL:l.length≤400
 rotate_left
 ·simp only[go_sem,hL]
  refine call hAw [] ?_
  simp only[go_sem]
 have hl:big l.length:=by simp only[big];omega
 simp only[go_sem,hL]
 refine call (a9t l) [] ?_
 simp only[go_sem]
 refine call (ap7 l 0 hl (Nat.zero_le _)) [21] ?_
 obtain⟨hok,hsz,hgo,hle⟩:=axa l 0
 have hzb:=alk l 0
 have hP:=a4e l (Nat.zero_le _)
 have hgn:(mgr l 0).1.gone.length≤1:=by rw[hgo];exact(aii (l:=l) (p:=0)).2.2.2
 have hcap: ∀q,xl (mgr l 0).1 (a10 l (gSz l 0) q)=0:=fun q=>aym l 0 q
 have hpo: ∀q,tt (gSz l 0) (a10 l (gSz l 0) q)=true:=fun q=>aw0 l q (by omega)
 rw[←hsz]at hcap hpo hzb
 clear hsz hgo
 generalize mgr l 0=G at*
 obtain⟨g,P⟩:=G
 simp only at*
 simp only[go_sem]
 have cP:=ajw l P g hl hP (by omega) (by omega)
 rw[m6,apo]at cP
 refine call cP [21] ?_
 have hQ:=a1c l hP
 have hca:=hcap P
 have hpl:=hpo P
 clear hcap hpo
 have hse:big (a10 l g.sz P).se.length:=by have:=(afe l (sz:=g.sz) P (by omega)).2.2;show big (pt l g.sz P).length;simp only[big];omega
 have hta0:=a4w hpl
 have htl:(a10 l g.sz P).ta.length≤8:=by
  unfold tt at hpl
  simp only[Bool.and_eq_true,decide_eq_true_eq]at hpl
  exact hpl.2.2.1.2.1
 generalize a10 l g.sz P=p at*
 generalize asl l P=Q at*
 have cS:=a8e l Q g.sz.toNat hl hQ (by omega)
 rw[show((g.sz.toNat:Nat):Int)=g.sz by omega]at cS
 have k1:=z7 l g.sz.toNat 0 Q
 have k2:=oh l g.sz.toNat 0 Q
 simp only[go_sem]
 refine call cS [21] ?_
 generalize o5 l g.sz.toNat 0 Q=k at*
 have k3: ∀x∈k,0≤x∧x<g.sz:=fun x hx=>by have:=k2 x hx;omega
 have dk:=ast (by omega) (by omega:g.sz≤16) k1 k3
 have kl:k.length≤16:=by unfold am4 at dk;rw[Bool.and_eq_true,decide_eq_true_eq]at dk;exact dk.2
 have cA:=fun(K:List Int) (hK:big K.length)=>vd g p K (by omega) (by omega) hse (by simp only[big];omega) hK (fun h=>hD g p h (by omega))
 rw[m6,apo]at cA
 have hlo:=fun K:List Int=>azc (d:=eo (jq g p.lv) p.se) (gone:=g.gone) (K:=K) hta0
 have hmo:=fun(M:List Int) (h: ∀x∈k,x∈M)=>ap3 (d:=eo (jq g p.lv) p.se) (gone:=g.gone) (M:=M) hta0 (k1.imp fun h=>by omega) h
 have hhi:=fun K:List Int=>ayr (d:=eo (jq g p.lv) p.se) (gone:=g.gone) (K:=K) hta0
 have hR: ∀K,am4 K g.sz=true→ahx g p K=(q9 (eo (jq g p.lv) p.se) g.gone p.ta K,0):=fun K h=>by unfold ahx;rw[if_neg (by simp[hca]),if_neg (by simp[h])]
 have hX0:q9 (eo (jq g p.lv) p.se) g.gone p.ta []=0:=rfl
 have cAk:=cA k (by simp only[big];omega)
 rw[hR k dk]at cAk
 simp only[go_sem]
 refine call cAk [] ?_
 generalize jq g p.lv=G2 at*
 have wm:IntKind.i64.wrap more=more:=by rw[ae]<;>omega
 have gz: ¬g.sz=0:=by omega
 simp only[go_sem,wm,gz]
 have hx0:0≤more.tmod g.sz∧more.tmod g.sz<g.sz:=⟨Int.tmod_nonneg _ hm.1,Int.tmod_lt_of_pos _ (by omega)⟩
 generalize more.tmod g.sz=x at*
 refine call (a8h k [x] (by simp only[big];omega) (by simp[big])) [] ?_
 have m1: ∀y,y∈cj (fun i=>decide (i∈k)||decide (i∈[x])) 64↔(0≤y∧y<64)∧(y∈k∨y=x):=fun y=>by rw[lz];simp
 have m2:=ub (fun i=>decide (i∈k)||decide (i∈[x])) 64
 generalize cj (fun i=>decide (i∈k)||decide (i∈[x])) 64=M at*
 have m3: ∀y∈M,0≤y∧y<g.sz:=fun y hy=>by
  rcases((m1 y).1 hy).2 with h|h
  ·exact k3 y h
  ·omega
 have dm:=ast (by omega) (by omega:g.sz≤16) m2 m3
 have ml:M.length≤16:=by unfold am4 at dm;rw[Bool.and_eq_true,decide_eq_true_eq]at dm;exact dm.2
 have hMo:=hmo M (fun y hy=>(m1 y).2 ⟨by have:=k3 y hy;omega,.inl hy⟩)
 have hHi:=hhi M
 have hLo:=hlo k
 have cAm:=cA M (by simp only[big];omega)
 have cA0:=cA [] (by simp[big])
 rw[hR M dm]at cAm
 rw[hR [] rfl,hX0]at cA0
 have hb0:=ahc hpl 0
 have hc0:s8 p.ta 0=el p.ta 0:=by unfold s8;rw[if_neg (by omega),if_pos (by have:=hta0.ne;omega)];rfl
 rw[hc0]at hb0
 have tn:=hta0.ne
 have tn':(0:Int)<(p.ta.length:Int):=by omega
 generalize q9 _ g.gone p.ta k=A at*
 generalize q9 _ g.gone p.ta M=B at*
 have w1:IntKind.i64.wrap (el p.ta 0 - 1)=el p.ta 0 - 1:=by rw[ae]<;>omega
 have hmul: -1000≤(M.length:Int)*(el p.ta 0 - 1)∧(M.length:Int)*(el p.ta 0 - 1)≤16000:=by
  rcases Nat.eq_zero_or_pos M.length with h|h
  ·rw[h];simp
  ·have h1:(M.length:Int)*(el p.ta 0 - 1)≤16*1000:=Int.mul_le_mul (by omega) (by omega) (by have:=hta0.lo _ (l9 tn);omega) (by omega)
   have h2:0≤(M.length:Int)*(el p.ta 0 - 1):=Int.mul_nonneg (by omega) (by have:=hta0.lo _ (l9 tn);omega)
   omega
 have w2:IntKind.i64.wrap ((M.length:Int)*(el p.ta 0 - 1))=(M.length:Int)*(el p.ta 0 - 1):=by rw[ae]<;>omega
 simp only[go_sem]
 refine call cAm [] ?_
 simp only[go_sem]
 refine call cA0 [] ?_
 simp only[go_sem,hLo,hMo,tn,tn',w1,w2,hHi]
 refine call hAw [] ?_
 simp only[go_sem]
theorem ami{l:List Int}{n:Int}(h:mr l n=true)(h0:0≤n):l.length≤n.toNat:=by
 obtain⟨h1,h2⟩:=kc.1 h
 have:=acf (l:=l) (m:=(List.range n.toNat).map fun k:Nat=>(k:Int)) (h2.imp fun h=>by omega) fun x hx=>by
  have:=h1 x hx
  exact List.mem_map.2 ⟨x.toNat,List.mem_range.2 (by omega),by omega⟩
 rw[List.length_map,List.length_range]at this
 exact this
theorem azb{g:Gr}{x y:Int}:y∈aau g x↔∃e∈g.ed,e.fr=x∧e.to=y:=by
 unfold aau
 rw[List.mem_map]
 constructor
 ·rintro⟨e,he,rfl⟩
  obtain⟨h1,h2⟩:=List.mem_filter.1 he
  exact⟨e,h1,of_decide_eq_true h2,rfl⟩
 ·rintro⟨e,h1,h2,rfl⟩
  exact⟨e,List.mem_filter.2 ⟨h1,decide_eq_true h2⟩,rfl⟩
theorem aqv(O:Gr→Int→List Int)(hm: ∀g x y,y∈O g x↔y∈aau g x)(hl: ∀g x,(O g x).length=(aau g x).length)
  (cO: ∀g x,g.ed.length≤1000→Den Tryz.prog 62 [.agg (gr g),.int .i64 x] [] (.vs ((O g x).map i1)) [] [])
  (g:Gr) (p:Pol) (h:xl g p=0) (hL:g.ed.length≤1000):Den Tryz.prog 29 [.agg (gr (jq g p.lv)),.vs (p.se.map i1)] [] (.os 0 (eo (jq g p.lv) p.se).length) [.arr 3 1 false ((eo (jq g p.lv) p.se).map i1)] []:=by
 have hG:bk g=true:=by
  by_cases h1:bk g=true
  ·exact h1
  ·exfalso;unfold xl at h;rw[if_pos (by simpa using h1)]at h;omega
 have hP:tt g.sz p=true:=by
  by_cases h1:tt g.sz p=true
  ·exact h1
  ·exfalso;unfold xl at h;rw[if_neg (by simp[hG]),if_pos (by simpa using h1)]at h;omega
 obtain⟨hz,hgone,_⟩:=j7.1 hG
 have hse:0<p.se.length∧mr p.se g.sz=true:=by
  unfold tt at hP
  simp only[Bool.and_eq_true,decide_eq_true_eq]at hP
  exact⟨hP.1,hP.2.1⟩
 have hS:=(kc.1 hse.2).1
 have h0:=hS _ (l9 hse.1)
 have hEd:(jq g p.lv).ed.length≤1000:=Nat.le_trans (List.length_filter_le _ _) hL
 have l1:=ami hse.2 hz.1
 have l2:=ami hgone hz.1
 refine av0 (jq g p.lv) p.se (O (jq g p.lv)) (bbd hG p.lv) hS (by show 0<g.sz;omega) (by show g.sz≤64;omega) (by show big g.gone.length;simp only[big];omega) (by simp only[big];omega) (fun x y=>(hm _ x y).trans azb) (fun x=> ?_) (fun x=>cO _ x hEd)
 rw[hl]
 unfold aau
 rw[List.length_map]
 exact Nat.le_trans (List.length_filter_le _ _) hEd
end Go.Proofs.Am
