/- WOne. -/
import Derived.Test.YthidogjdclkoeaaGreatDoorUOne
import Derived.Test.YthidogjdclkoeaaGreatDoorVTwo
set_option maxHeartbeats 1000000
set_option maxRecDepth 100000
set_option linter.unusedSimpArgs false
set_option linter.unusedVariables false
namespace Go.Proofs.Am
open Go Go.RowKit
open Go.Proofs
theorem alw{r:Rl}{L:List Stm}(hr:da r=0): ∀u∈dc r L,aju u:=fun u hu=>by
 obtain⟨h1,_,h3⟩:=aez hr hu;have:=h1.len;refine⟨by simp only[big];omega,?_⟩;rw[<-h3];exact aar
theorem xb{r:Rl}{L:List Stm}: ∀u∈(dd r L).1,aju u:=fun u hu=>by
 by_cases hr:da r=0
 ·rw[aed hr]at hu;exact alw hr u hu
 ·unfold dd at hu;rw[if_pos hr]at hu;simp at hu
theorem av6{r:Rl}{L:List Stm}{e:Int}:aju (atX r L e).1:=by
 have hn:aju noT:=⟨by simp[noT,big],by simp[noT,noC,re,big]⟩;unfold atX;split
 ·exact hn
 split
 ·exact hn
 ·rename_i h;exact xb _ (bz (by omega))
theorem ayc{r:Rl}{L:List Stm}{t:Tm}{c:Cs}:re (yv r L t c).1:=by
 unfold yv;split
 ·exact by simp[noC,re,big]
 ·show re (yh (aa0 L c (bt r t c).1));unfold aa0;split
  ·exact ak8
  ·exact by simp[yh,noC,re,big]
theorem aqn(r:Rl)(t:Tm):stA r [] t=[]:=List.eq_nil_of_length_eq_zero (by
 have:=ajg (seats:=stS r t) (l:=[]) (c:=b9 t.ep);unfold stA;simp only[List.length_nil]at this;omega)
theorem apu{r:Rl}:dc r []=[mb r]:=by
 have h:=(aov (r:=r) (L:=[]) (by rw[aqn];simp)).1;rw[h];unfold bd;rw[aqn];rfl
def r29:Rl:=⟨[0,1],⟨[0],[2],1⟩,2,5,0⟩
theorem a6p:da r29=0:=by decide
theorem jh:Den Tryz.prog 5 [] [] (.bool true) [] []:=by
 refine aa Tryz.func5 rfl Tryz.call5 Tryz.ntmps5 Tryz.results5 (by simp) (by kernel_rfl) [] (exts:=[]) rfl rfl ?_;have c1:=rv r29 [] ⟨by decide,by decide,by decide⟩ (by simp) (by simp);rw[aed a6p,apu,dz]at c1;have h1:(mb r29).bea.length=32:=rd _;have ht:[mb r29].map tm=[[.int .i64 0,.vs [i1 0,i1 1],.str (mb r29).bea,.bool false,.vs [],.vs []]]:=rfl;simp only[ht]at c1;generalize (mb r29).bea=v at*;have h2:(v.length:Int)=32:=by omega
 simp only[go_sem];refine call c1 [] ?_;simp only[go_sem];refine⟨⟨rfl,rfl,rfl,rfl,rfl,rfl,rfl⟩,?_⟩;refine call (ml [0,1] [0,1] (by simp[big]) (by simp[big])) [] ?_;simp only[go_sem,h2]
 done
theorem agn(r:Rl)(L:List Stm)(c:Cs)(t:Tm)(hr:RlB r)(hL:L.length<=900)(hs: ∀s∈L,uv s)(hl:big t.ros.length):Den Tryz.prog 14 [.agg (rl r),.vs (L.map sm),.agg (cs c),.agg (tm t)] [] (.bool true) [] []:=by
 refine aa Tryz.func14 rfl Tryz.call14 Tryz.ntmps14 Tryz.results14 (by simp) (by kernel_rfl) [] (exts:=[]) rfl rfl ?_;have u4:Tryz.prog.underlying 4=some .bool:=by kernel_rfl
 have a1:=rv r L hr hL hs;have a2:=zl r L hr hL hs;have g1:=ri r L;have g2:=xb (r:=r) (L:=L);have a3:=ani (dd r L).1 (dd r L).1 (by simp only[big];omega) (by simp only[big];omega) g2 g2;have a4:=auq (dd r L).1 (dd r L).1 (by simp only[big];omega) (by simp only[big];omega) g2 g2;have a5:=a1o r L c.ep hr hL hs;have a6:=a0q r L c.ep hr hL hs;have a7:=zi r t c hr hl;have a8:=y6 r t c hr hl;have a9:=akg r L t c hr hl hL hs;have a10:=abm r L t c hr hl hL hs;have b1:=av6 (r:=r) (L:=L) (e:=c.ep);have a11:=ae5 (atX r L c.ep).1 (atX r L c.ep).1 b1 b1;have b2:=rb r t c;have a12:=ml (bt r t c).1 (bt r t c).1 (by simp only[big];omega) (by simp only[big];omega);have b3:=ayc (r:=r) (L:=L) (t:=t) (c:=c);have a13:=gp (yv r L t c).1 (yv r L t c).1 b3.1 b3.2 b3.1 b3.2;rw[(j7 _ _).2 rfl]at a13;generalize dd r L=T at*;generalize atX r L c.ep=A at*;generalize bt r t c=S at*;generalize yv r L t c=D at*;obtain⟨T,e1⟩:=T;obtain⟨A,e2⟩:=A;obtain⟨S,e3⟩:=S;obtain⟨x,b,e4⟩:=D;simp only[decide_true]at*;rw[dz]at a1 a2;rw[dz,jd]at a5 a6;rw[dz,jd,dt]at a7 a8;rw[dz,jd,dt,il]at a9 a10;rw[jd]at a11;rw[il]at a13;simp only[go_sem];refine call a1 [] ?_;simp only[go_sem];refine call a2 [] ?_;simp only[go_sem];refine call a3 [] ?_;simp only[go_sem];refine call a4 [] ?_;simp only[go_sem,u4];refine call a5 [] ?_;simp only[go_sem];refine call a6 [] ?_;simp only[go_sem];refine call a7 [] ?_;simp only[go_sem];refine call a8 [] ?_;simp only[go_sem];refine call a9 [] ?_;simp only[go_sem];refine call a10 [] ?_;simp only[go_sem,u4];refine call a11 [] ?_;simp only[go_sem];refine call a12 [] ?_;simp only[go_sem];refine call a13 [] ?_;simp only[go_sem]
 done
theorem anf(l:List Int)(p:Nat):(fy l p).gen.length<=7/\(fy l p).pol.se.length<=2/\(fy l p).pol.ta.length<=2:=by
 refine⟨?_,?_,?_⟩
 ·show(([0,1,2,3,4,5,6]:List Int).take _).length<=7;rw[List.length_take];exact Nat.min_le_right _ _
 ·show(if _ then [0,1]else [0]:List Int).length<=2;split<;>simp
 ·exact Nat.le_refl 2
theorem zq(l:List Int)(p:Nat):RlB (fy l p):=by
 obtain⟨h0,h1,h2⟩:=anf l p;exact⟨by omega,by omega,by omega⟩
theorem a65{l:List Int}{ep:Nat}{r:Rl}{s:ChS}(hr:da r=0)(he:ep<40)(h:ChI l ep s):ofG r s.v s.ros (b9 ep)=(chS r ep s,0):=by
 have hc:fq (b9 (ep:Int))=true:=pg (by omega) (by omega);rw[apm h.v,yp,if_neg (by simp[hr]),if_neg (by simp[h.ros]),if_neg (by simp[hc])];exact if_pos rfl
theorem au4(l:List Int)(r:Rl)(ep:Int)(s:ChS):aqu l r ep s=⟨(adu l ep (chX l ep s).1 (chY l ep s).1 (chS r ep s) ((chY l ep s).2,s.L) (chS r ep s).length).1,
  (adu l ep (chX l ep s).1 (chY l ep s).1 (chS r ep s) ((chY l ep s).2,s.L) (chS r ep s).length).2,
  (ut (chX l ep s).1.li).1,j3 s.v ep (chX l ep s).1.li⟩:=rfl
def ajm(l:List Int)(p:Nat)(xs:List Int):Int:=el xs (aj l p xs.length).toNat
def ab4(l:List Int)(p:Nat)(r:Rl):Rl×Nat:=
 if aj l p 7=0 then({r with gen:=el [[],[1,1],[-1],[64],[3,2]] (aj l (dgo l p 1) 5).toNat},dgo l p 2)
 else if aj l p 7=1 then({r with seats:=ajm l (dgo l p 1) [0,-1,9,10]},dgo l p 2)
 else if aj l p 7=2 then({r with span:=ajm l (dgo l p 1) [0,-1,1000000,1000001]},dgo l p 2)
 else if aj l p 7=3 then({r with quota:=ajm l (dgo l p 1) [-1,64,65]},dgo l p 2)
 else if aj l p 7=4 then({r with pol:={r.pol with se:=el [[],[64],[1,0]] (aj l (dgo l p 1) 3).toNat}},dgo l p 2)
 else if aj l p 7=5 then({r with pol:={r.pol with ta:=el [[],[1,2],[0],[1001]] (aj l (dgo l p 1) 4).toNat}},dgo l p 2)
 else({r with pol:={r.pol with lv:=ajm l (dgo l p 1) [0,4,-1]}},dgo l p 2)
theorem aww{l:List Int}{p:Nat}{r:Rl}(h:RlB r):RlB (ab4 l p r).1:=by
 have hm: ∀(L:List (List Int)) (i:Nat),(∀x∈L,x.length<=2)->(el L i).length<=1000000:=fun L i hL=>by
  by_cases hi:i<L.length
  ·have:=hL _ (bz hi);omega
  ·rw[show el L i=default by simp[el,bq,List.getElem?_eq_none (Nat.le_of_not_lt hi)]];exact Nat.zero_le _
 obtain⟨h1,h2,h3⟩:=h;unfold ab4
 (repeat' split)
 ·exact⟨hm _ _ (by simp),h2,h3⟩
 ·exact⟨h1,h2,h3⟩
 ·exact⟨h1,h2,h3⟩
 ·exact⟨h1,h2,h3⟩
 ·exact⟨h1,hm _ _ (by simp),h3⟩
 ·exact⟨h1,h2,hm _ _ (by simp)⟩
 ·exact⟨h1,h2,h3⟩
theorem ay3(l:List Int)(p:Nat)(r:Rl)(hl:big l.length)(hp:p<=l.length):Den Tryz.prog 12 [.ptr 1000000 0,.agg (rl r)] [q7 l p] (.agg (rl (ab4 l p r).1)) [] [q7 l (ab4 l p r).2]:=by
 refine aa Tryz.func12 rfl Tryz.call12 Tryz.ntmps12 Tryz.results12 (by simp) (by kernel_rfl) [] (exts:=[1000000]) rfl rfl ?_;have hp1:=cy hp 1;have e0:aca l p=dgo l p 1:=rfl;have b7:=bh (l:=l) (p:=p) (n:=7) (by omega);have cof: ∀xs:List Int,0<xs.length->big xs.length->Den Tryz.prog 13 [.ptr 1000000 0,.vs (xs.map i1)] [q7 l (dgo l p 1)] (.int .i64 (ajm l (dgo l p 1) xs)) [] [q7 l (dgo l p 2)]:=fun xs h0 h1=>ph l (dgo l p 1) xs hl hp1 h0 h1;rw[dz r];by_cases k0:aj l p 7=0
 ·have hR:ab4 l p r=({r with gen:=el [[],[1,1],[-1],[64],[3,2]] (aj l (dgo l p 1) 5).toNat},dgo l p 2):=by unfold ab4;rw[if_pos k0]
  rw[hR,dz];have b:=bh (l:=l) (p:=dgo l p 1) (n:=5) (by omega);obtain⟨j,hj⟩: ∃j:Nat,aj l (dgo l p 1) 5=(j:Int):=⟨(aj l (dgo l p 1) 5).toNat,by omega⟩;have cn:=ax l (dgo l p 1) 5 hl hp1 (by omega);rw[hj]at b cn ⊢;have hj5:j=0\/j=1\/j=2\/j=3\/j=4:=by omega
  rcases hj5 with rfl|rfl|rfl|rfl|rfl
  all_goals
   simp only[go_sem];refine call (ax l p 7 hl hp (by omega)) [1000000] ?_;simp only[go_sem,k0,e0];refine call cn [1000000] ?_;simp only[go_sem,bg];rfl
 by_cases k1:aj l p 7=1
 ·have hR:ab4 l p r=({r with seats:=ajm l (dgo l p 1) [0,-1,9,10]},dgo l p 2):=by unfold ab4;rw[if_neg k0,if_pos k1]
  rw[hR,dz];have c:=cof [0,-1,9,10] (by simp) (by simp[big]);generalize ajm l (dgo l p 1) [0,-1,9,10]=v at*;simp only[go_sem];refine call (ax l p 7 hl hp (by omega)) [1000000] ?_;simp only[go_sem,k1,e0];refine call c [1000000] ?_;simp only[go_sem]
 by_cases k2:aj l p 7=2
 ·have hR:ab4 l p r=({r with span:=ajm l (dgo l p 1) [0,-1,1000000,1000001]},dgo l p 2):=by unfold ab4;rw[if_neg k0,if_neg k1,if_pos k2]
  rw[hR,dz];have c:=cof [0,-1,1000000,1000001] (by simp) (by simp[big]);generalize ajm l (dgo l p 1) [0,-1,1000000,1000001]=v at*;simp only[go_sem];refine call (ax l p 7 hl hp (by omega)) [1000000] ?_;simp only[go_sem,k2,e0];refine call c [1000000] ?_;simp only[go_sem]
 by_cases k3:aj l p 7=3
 ·have hR:ab4 l p r=({r with quota:=ajm l (dgo l p 1) [-1,64,65]},dgo l p 2):=by unfold ab4;rw[if_neg k0,if_neg k1,if_neg k2,if_pos k3]
  rw[hR,dz];have c:=cof [-1,64,65] (by simp) (by simp[big]);generalize ajm l (dgo l p 1) [-1,64,65]=v at*;simp only[go_sem];refine call (ax l p 7 hl hp (by omega)) [1000000] ?_;simp only[go_sem,k3,e0];refine call c [1000000] ?_;simp only[go_sem]
 by_cases k4:aj l p 7=4
 ·have hR:ab4 l p r=({r with pol:={r.pol with se:=el [[],[64],[1,0]] (aj l (dgo l p 1) 3).toNat}},dgo l p 2):=by unfold ab4;rw[if_neg k0,if_neg k1,if_neg k2,if_neg k3,if_pos k4]
  rw[hR,dz];have b:=bh (l:=l) (p:=dgo l p 1) (n:=3) (by omega);obtain⟨j,hj⟩: ∃j:Nat,aj l (dgo l p 1) 3=(j:Int):=⟨(aj l (dgo l p 1) 3).toNat,by omega⟩;have cn:=ax l (dgo l p 1) 3 hl hp1 (by omega);rw[hj]at b cn ⊢;have hj5:j=0\/j=1\/j=2:=by omega
  rcases hj5 with rfl|rfl|rfl
  all_goals
   simp only[go_sem];refine call (ax l p 7 hl hp (by omega)) [1000000] ?_;simp only[go_sem,k4,e0];refine call cn [1000000] ?_;simp only[go_sem,bg];rfl
 by_cases k5:aj l p 7=5
 ·have hR:ab4 l p r=({r with pol:={r.pol with ta:=el [[],[1,2],[0],[1001]] (aj l (dgo l p 1) 4).toNat}},dgo l p 2):=by unfold ab4;rw[if_neg k0,if_neg k1,if_neg k2,if_neg k3,if_neg k4,if_pos k5]
  rw[hR,dz];have b:=bh (l:=l) (p:=dgo l p 1) (n:=4) (by omega);obtain⟨j,hj⟩: ∃j:Nat,aj l (dgo l p 1) 4=(j:Int):=⟨(aj l (dgo l p 1) 4).toNat,by omega⟩;have cn:=ax l (dgo l p 1) 4 hl hp1 (by omega);rw[hj]at b cn ⊢;have hj5:j=0\/j=1\/j=2\/j=3:=by omega
  rcases hj5 with rfl|rfl|rfl|rfl
  all_goals
   simp only[go_sem];refine call (ax l p 7 hl hp (by omega)) [1000000] ?_;simp only[go_sem,k5,e0];refine call cn [1000000] ?_;simp only[go_sem,bg];rfl
 ·have hR:ab4 l p r=({r with pol:={r.pol with lv:=ajm l (dgo l p 1) [0,4,-1]}},dgo l p 2):=by unfold ab4;rw[if_neg k0,if_neg k1,if_neg k2,if_neg k3,if_neg k4,if_neg k5]
  rw[hR,dz];have c:=cof [0,4,-1] (by simp) (by simp[big]);generalize ajm l (dgo l p 1) [0,4,-1]=v at*;simp only[go_sem];refine call (ax l p 7 hl hp (by omega)) [1000000] ?_;simp only[go_sem,k0,k1,k2,k3,k4,k5,e0];refine call c [1000000] ?_;simp only[go_sem]
end Go.Proofs.Am
