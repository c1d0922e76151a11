/- WOne. -/
import Derived.Test.YteakcpfdfglndaaGreatDoorUOne
import Derived.Test.YteakcpfdfglndaaGreatDoorVTwo
set_option linter.unusedSimpArgs false
set_option linter.unusedVariables false
namespace Go.Proofs.Am
open Go Go.RowKit
open Go.Proofs
theorem decG_big{r:Rl}{L:List Stm}{t:Tm}{c:Cs}:ml (et r L t c).1:=by
 unfold et
 split
 ·exact by simp[noC,ml,big]
 ·show ml (yv (va L c (ay r t c).1))
  unfold va
  split
  ·exact al3
  ·exact by simp[yv,noC,ml,big]
theorem an5(l:List Int)(p:Nat):(dq l p).gen.length≤7∧(dq l p).pol.se.length≤2∧(dq l p).pol.ta.length≤2:=by
 refine⟨?_,?_,?_⟩
 ·show(([0,1,2,3,4,5,6]:List Int).take _).length≤7
  rw[List.length_take]
  exact Nat.min_le_right _ _
 ·show(if _ then [0,1]else [0]:List Int).length≤2
  split<;>simp
 ·exact Nat.le_refl 2
theorem anx(l:List Int)(p:Nat):RlB (dq l p):=by
 obtain⟨h0,h1,h2⟩:=an5 l p
 exact⟨by omega,by omega,by omega⟩
theorem baj(l:List Int)(r:Rl)(ep:Int)(s:ChS):bb4 l r ep s=⟨(a9t l ep (chX l ep s).1 (chY l ep s).1 (chS r ep s) ((chY l ep s).2,s.L) (chS r ep s).length).1,
  (a9t l ep (chX l ep s).1 (chY l ep s).1 (chS r ep s) ((chY l ep s).2,s.L) (chS r ep s).length).2,
  (bdl (chX l ep s).1.li).1,a8z s.v ep (chX l ep s).1.li⟩:=rfl
def aly(l:List Int)(p:Nat)(xs:List Int):Int:=el xs (ai l p xs.length).toNat
def ac5(l:List Int)(p:Nat)(r:Rl):Rl×Nat:=
 if ai l p 7=0 then({r with gen:=el [[],[1,1],[-1],[64],[3,2]] (ai l (dgo l p 1) 5).toNat},dgo l p 2)
 else if ai l p 7=1 then({r with seats:=aly l (dgo l p 1) [0,-1,9,10]},dgo l p 2)
 else if ai l p 7=2 then({r with span:=aly l (dgo l p 1) [0,-1,1000000,1000001]},dgo l p 2)
 else if ai l p 7=3 then({r with quota:=aly l (dgo l p 1) [-1,64,65]},dgo l p 2)
 else if ai l p 7=4 then({r with pol:={r.pol with se:=el [[],[64],[1,0]] (ai l (dgo l p 1) 3).toNat}},dgo l p 2)
 else if ai l p 7=5 then({r with pol:={r.pol with ta:=el [[],[1,2],[0],[1001]] (ai l (dgo l p 1) 4).toNat}},dgo l p 2)
 else({r with pol:={r.pol with lv:=aly l (dgo l p 1) [0,4,-1]}},dgo l p 2)
theorem azv{l:List Int}{p:Nat}{r:Rl}(h:RlB r):RlB (ac5 l p r).1:=by
 have hm: ∀(L:List (List Int)) (i:Nat),(∀x∈L,x.length≤2)→(el L i).length≤1000000:=fun L i hL=>by
  by_cases hi:i<L.length
  ·have:=hL _ (aw hi)
   omega
  ·rw[show el L i=default by simp[el,List.getD_eq_getElem?_getD,List.getElem?_eq_none (Nat.le_of_not_lt hi)]]
   exact Nat.zero_le _
 obtain⟨h1,h2,h3⟩:=h
 unfold ac5
 (repeat' split)
 ·exact⟨hm _ _ (by simp),h2,h3⟩
 ·exact⟨h1,h2,h3⟩
 ·exact⟨h1,h2,h3⟩
 ·exact⟨h1,h2,h3⟩
 ·exact⟨h1,hm _ _ (by simp),h3⟩
 ·exact⟨h1,h2,hm _ _ (by simp)⟩
 ·exact⟨h1,h2,h3⟩
set_option maxHeartbeats 1000000 in
set_option maxRecDepth 100000 in
theorem a3n(l:List Int)(p:Nat)(r:Rl)(hl:big l.length)(hp:p≤l.length):Den Tryz.prog 12 [.ptr 1000000 0,.agg (rl r)] [xa l p] (.agg (rl (ac5 l p r).1)) [] [xa l (ac5 l p r).2]:=by
 refine aa Tryz.mixed Tryz.func12 rfl Tryz.call12 Tryz.ntmps12 (congrArg Array.toList Tryz.results12) (by simp) (by kernel_rfl) [] (exts:=[1000000]) rfl rfl ?_
 have hp1:=dx hp 1
 have e0:ady l p=dgo l p 1:=rfl
 have b7:=bi (l:=l) (p:=p) (n:=7) (by omega)
 have cof: ∀xs:List Int,0<xs.length→big xs.length→Den Tryz.prog 13 [.ptr 1000000 0,.vs (xs.map i1)] [xa l (dgo l p 1)] (.int .i64 (aly l (dgo l p 1) xs)) [] [xa l (dgo l p 2)]:=fun xs h0 h1=>qt l (dgo l p 1) xs hl hp1 h0 h1
 rw[bu r]
 by_cases k0:ai l p 7=0
 ·have hR:ac5 l p r=({r with gen:=el [[],[1,1],[-1],[64],[3,2]] (ai l (dgo l p 1) 5).toNat},dgo l p 2):=by unfold ac5;rw[if_pos k0]
  rw[hR,bu]
  have b:=bi (l:=l) (p:=dgo l p 1) (n:=5) (by omega)
  obtain⟨j,hj⟩: ∃j:Nat,ai l (dgo l p 1) 5=(j:Int):=⟨(ai l (dgo l p 1) 5).toNat,by omega⟩
  have cn:=bm l (dgo l p 1) 5 hl hp1 (by omega)
  rw[hj]at b cn ⊢
  have hj5:j=0∨j=1∨j=2∨j=3∨j=4:=by omega
  rcases hj5 with rfl|rfl|rfl|rfl|rfl
  all_goals
   simp only[go_sem]
   refine call (bm l p 7 hl hp (by omega)) [1000000] ?_
   simp only[go_sem,k0,e0]
   refine call cn [1000000] ?_
   simp only[go_sem,bz]
   rfl
 by_cases k1:ai l p 7=1
 ·have hR:ac5 l p r=({r with seats:=aly l (dgo l p 1) [0,-1,9,10]},dgo l p 2):=by unfold ac5;rw[if_neg k0,if_pos k1]
  rw[hR,bu]
  have c:=cof [0,-1,9,10] (by simp) (by simp[big])
  generalize aly l (dgo l p 1) [0,-1,9,10]=v at*
  simp only[go_sem]
  refine call (bm l p 7 hl hp (by omega)) [1000000] ?_
  simp only[go_sem,k1,e0]
  refine call c [1000000] ?_
  simp only[go_sem]
 by_cases k2:ai l p 7=2
 ·have hR:ac5 l p r=({r with span:=aly l (dgo l p 1) [0,-1,1000000,1000001]},dgo l p 2):=by unfold ac5;rw[if_neg k0,if_neg k1,if_pos k2]
  rw[hR,bu]
  have c:=cof [0,-1,1000000,1000001] (by simp) (by simp[big])
  generalize aly l (dgo l p 1) [0,-1,1000000,1000001]=v at*
  simp only[go_sem]
  refine call (bm l p 7 hl hp (by omega)) [1000000] ?_
  simp only[go_sem,k2,e0]
  refine call c [1000000] ?_
  simp only[go_sem]
 by_cases k3:ai l p 7=3
 ·have hR:ac5 l p r=({r with quota:=aly l (dgo l p 1) [-1,64,65]},dgo l p 2):=by unfold ac5;rw[if_neg k0,if_neg k1,if_neg k2,if_pos k3]
  rw[hR,bu]
  have c:=cof [-1,64,65] (by simp) (by simp[big])
  generalize aly l (dgo l p 1) [-1,64,65]=v at*
  simp only[go_sem]
  refine call (bm l p 7 hl hp (by omega)) [1000000] ?_
  simp only[go_sem,k3,e0]
  refine call c [1000000] ?_
  simp only[go_sem]
 by_cases k4:ai l p 7=4
 ·have hR:ac5 l p r=({r with pol:={r.pol with se:=el [[],[64],[1,0]] (ai l (dgo l p 1) 3).toNat}},dgo l p 2):=by unfold ac5;rw[if_neg k0,if_neg k1,if_neg k2,if_neg k3,if_pos k4]
  rw[hR,bu]
  have b:=bi (l:=l) (p:=dgo l p 1) (n:=3) (by omega)
  obtain⟨j,hj⟩: ∃j:Nat,ai l (dgo l p 1) 3=(j:Int):=⟨(ai l (dgo l p 1) 3).toNat,by omega⟩
  have cn:=bm l (dgo l p 1) 3 hl hp1 (by omega)
  rw[hj]at b cn ⊢
  have hj5:j=0∨j=1∨j=2:=by omega
  rcases hj5 with rfl|rfl|rfl
  all_goals
   simp only[go_sem]
   refine call (bm l p 7 hl hp (by omega)) [1000000] ?_
   simp only[go_sem,k4,e0]
   refine call cn [1000000] ?_
   simp only[go_sem,bz]
   rfl
 by_cases k5:ai l p 7=5
 ·have hR:ac5 l p r=({r with pol:={r.pol with ta:=el [[],[1,2],[0],[1001]] (ai l (dgo l p 1) 4).toNat}},dgo l p 2):=by unfold ac5;rw[if_neg k0,if_neg k1,if_neg k2,if_neg k3,if_neg k4,if_pos k5]
  rw[hR,bu]
  have b:=bi (l:=l) (p:=dgo l p 1) (n:=4) (by omega)
  obtain⟨j,hj⟩: ∃j:Nat,ai l (dgo l p 1) 4=(j:Int):=⟨(ai l (dgo l p 1) 4).toNat,by omega⟩
  have cn:=bm l (dgo l p 1) 4 hl hp1 (by omega)
  rw[hj]at b cn ⊢
  have hj5:j=0∨j=1∨j=2∨j=3:=by omega
  rcases hj5 with rfl|rfl|rfl|rfl
  all_goals
   simp only[go_sem]
   refine call (bm l p 7 hl hp (by omega)) [1000000] ?_
   simp only[go_sem,k5,e0]
   refine call cn [1000000] ?_
   simp only[go_sem,bz]
   rfl
 ·have hR:ac5 l p r=({r with pol:={r.pol with lv:=aly l (dgo l p 1) [0,4,-1]}},dgo l p 2):=by unfold ac5;rw[if_neg k0,if_neg k1,if_neg k2,if_neg k3,if_neg k4,if_neg k5]
  rw[hR,bu]
  have c:=cof [0,4,-1] (by simp) (by simp[big])
  generalize aly l (dgo l p 1) [0,4,-1]=v at*
  simp only[go_sem]
  refine call (bm l p 7 hl hp (by omega)) [1000000] ?_
  simp only[go_sem,k0,k1,k2,k3,k4,k5,e0]
  refine call c [1000000] ?_
  simp only[go_sem]
end Go.Proofs.Am
