/- VTwo. -/
import Derived.Test.YteakcpfdfglndaaGreatDoorVOne
set_option maxHeartbeats 1000000
set_option maxRecDepth 100000
set_option linter.unusedSimpArgs false
set_option linter.unusedVariables false
namespace Go.Proofs.Am
open Go Go.RowKit
open Go.Proofs
def ay(r:Rl)(t:Tm)(c:Cs):List Int×Int:=if c.ep≠t.ep then([],46)else ofG r t.bea t.ros c
theorem afv{r:Rl}{t:Tm}{c:Cs}(h:t.bea.length=32):ay r t c=cu r t c:=by
 unfold ay cu
 rw[a40 h]
theorem a5l(r:Rl)(v:List UInt8)(l:List Int)(c:Cs):(ofG r v l c).1.length≤64:=by
 unfold ofG
 split
 ·simp
 ·exact at4 _ _ _ _
theorem aam(r:Rl)(t:Tm)(c:Cs):(ay r t c).1.length≤64:=by
 unfold ay
 split
 ·simp
 ·exact a5l _ _ _ _
def et(r:Rl)(L:List Stm)(t:Tm)(c:Cs):Ct×Bool×Int:=
 if(ay r t c).2≠0 then(noC,false,(ay r t c).2)else(yv (va L c (ay r t c).1),decide ((va L c (ay r t c).1).length=1),ckS c (ay r t c).1)
theorem amw(L:List Stm)(c:Cs)(s:List Int):(va L c s).length≤L.length:=by
 unfold va
 split
 ·exact a3y
 ·simp
structure RlB(r:Rl):Prop where
 g:r.gen.length≤1000000
 s:r.pol.se.length≤1000000
 t:r.pol.ta.length≤1000000
theorem aoi(r:Rl)(t:Tm)(c:Cs)(hr:RlB r)(hl:big t.ros.length):Den Tryz.prog 25 [.agg (rl r),.agg (tm t),.agg (cs c)] [] (.tup [.vs ((ay r t c).1.map i1),.int .i64 (ay r t c).2]) [] []:=by
 refine aa Tryz.mixed Tryz.func25 rfl Tryz.call25 Tryz.ntmps25 (congrArg Array.toList Tryz.results25) (by simp) (by kernel_rfl) [] (exts:=[]) rfl rfl ?_
 have c1:=a7x r t.bea t.ros c (by have:=hr.g;simp only[big];omega) (by have:=hr.s;simp only[big];omega) (by have:=hr.t;simp only[big];omega) hl
 rw[bd,bu]at c1
 have hm:ay r t c=if c.ep≠t.ep then([],46)else ofG r t.bea t.ros c:=rfl
 generalize ay r t c=m at*
 by_cases h:c.ep=t.ep
 ·rw[if_neg (by simpa using h)]at hm
  rw[←hm]at c1
  simp only[go_sem,h]
  rw[h]at c1
  refine call c1 [] ?_
  simp only[go_sem]
 ·rw[if_pos h]at hm
  subst hm
  simp only[go_sem,h,List.map_nil]
theorem ao6(r:Rl)(t:Tm)(c:Cs)(hr:RlB r)(hl:big t.ros.length):Den Tryz.prog 67 [.agg (rl r),.agg (tm t),.agg (cs c)] [] (.tup [.vs ((ay r t c).1.map i1),.int .i64 (ay r t c).2]) [] []:=by
 refine aa Tryz.mixed Tryz.func67 rfl Tryz.call67 Tryz.ntmps67 (congrArg Array.toList Tryz.results67) (by simp) (by kernel_rfl) [] (exts:=[]) rfl rfl ?_
 have c1:=a83 r t.bea t.ros c (by have:=hr.g;simp only[big];omega) (by have:=hr.s;simp only[big];omega) (by have:=hr.t;simp only[big];omega) hl
 rw[bd,bu]at c1
 have hm:ay r t c=if c.ep≠t.ep then([],46)else ofG r t.bea t.ros c:=rfl
 generalize ay r t c=m at*
 by_cases h:c.ep=t.ep
 ·rw[if_neg (by simpa using h)]at hm
  rw[←hm]at c1
  simp only[go_sem,h]
  rw[h]at c1
  refine call c1 [] ?_
  simp only[go_sem]
 ·rw[if_pos h]at hm
  subst hm
  simp only[go_sem,h,List.map_nil]
theorem aa7(r:Rl)(L:List Stm)(t:Tm)(c:Cs)(hr:RlB r)(hl:big t.ros.length)(hL:L.length≤900)(hs: ∀s∈L,gx s):Den Tryz.prog 23 [.agg (rl r),.vs (L.map sm),.agg (tm t),.agg (cs c)] [] (.tup [.agg (ct (et r L t c).1),.bool (et r L t c).2.1,.int .i64 (et r L t c).2.2]) [] []:=by
 refine aa Tryz.mixed Tryz.func23 rfl Tryz.call23 Tryz.ntmps23 (congrArg Array.toList Tryz.results23) (by simp) (by kernel_rfl) [] (exts:=[]) rfl rfl ?_
 have hsl:=aam r t c
 have c1:=aoi r t c hr hl
 have hal:=amw L c (ay r t c).1
 have c2:=ax0 L c (ay r t c).1 hL hs (by simp only[big];omega) (va L c (ay r t c).1) rfl (by simp only[big];omega)
 have hm:et r L t c=if(ay r t c).2≠0 then(noC,false,(ay r t c).2)else(yv (va L c (ay r t c).1),decide ((va L c (ay r t c).1).length=1),ckS c (ay r t c).1):=rfl
 generalize et r L t c=m at*
 generalize ay r t c=S at*
 obtain⟨s,k⟩:=S
 simp only at hm c1 c2
 generalize yv (va L c s)=x at*
 generalize decide ((va L c s).length=1)=b at*
 generalize ckS c s=e at*
 rw[bd,bu,fy]at c1
 rw[bd,gk]at c2
 simp only[go_sem]
 refine call c1 [] ?_
 by_cases h:k=0
 ·rw[if_neg (by simpa using h)]at hm
  subst hm
  simp only[go_sem,h]
  refine call c2 [] ?_
  simp only[go_sem]
 ·rw[if_pos h]at hm
  subst hm
  simp only[go_sem,h,noC,List.map_nil]
theorem ab2(r:Rl)(L:List Stm)(t:Tm)(c:Cs)(hr:RlB r)(hl:big t.ros.length)(hL:L.length≤900)(hs: ∀s∈L,gx s)(hq: ∀y∈am L c,plX y.x):Den Tryz.prog 42 [.agg (rl r),.vs (L.map sm),.agg (tm t),.agg (cs c)] [] (.tup [.agg (ct (et r L t c).1),.bool (et r L t c).2.1,.int .i64 (et r L t c).2.2]) [] []:=by
 refine aa Tryz.mixed Tryz.func42 rfl Tryz.call42 Tryz.ntmps42 (congrArg Array.toList Tryz.results42) (by simp) (by kernel_rfl) [] (exts:=[]) rfl rfl ?_
 have hsl:=aam r t c
 have c1:=ao6 r t c hr hl
 have hal:=amw L c (ay r t c).1
 have c2:=a82 L c (ay r t c).1 hL hs (by omega) (va L c (ay r t c).1) rfl (by simp only[big];omega) hq
 have hm:et r L t c=if(ay r t c).2≠0 then(noC,false,(ay r t c).2)else(yv (va L c (ay r t c).1),decide ((va L c (ay r t c).1).length=1),ckS c (ay r t c).1):=rfl
 generalize et r L t c=m at*
 generalize ay r t c=S at*
 obtain⟨s,k⟩:=S
 simp only at hm c1 c2
 generalize yv (va L c s)=x at*
 generalize decide ((va L c s).length=1)=b at*
 generalize ckS c s=e at*
 rw[bd,bu,fy]at c1
 rw[bd,gk]at c2
 simp only[go_sem]
 refine call c1 [] ?_
 by_cases h:k=0
 ·rw[if_neg (by simpa using h)]at hm
  subst hm
  simp only[go_sem,h]
  refine call c2 [] ?_
  simp only[go_sem]
 ·rw[if_pos h]at hm
  subst hm
  simp only[go_sem,h,noC,List.map_nil]
structure TSt where
 t:Tm
 out:List Tm
 more:Bool
def zN:List Tm→PV
 |[]=> .nils
 |_::_=> .vs []
theorem bf3:zN []= .nils:=rfl
theorem beg(o:Tm)(l:List Tm):zN (o::l)= .vs []:=rfl
structure RSt where
 t:Tm
 out:List Tm
theorem aos(a b:List Int)(ha:big a.length)(hb:big b.length):Den Tryz.prog 90 [.vs (a.map i1),.vs (b.map i1)] [] (.bool (decide (a=b))) [] []:=by
 refine aa Tryz.mixed Tryz.func90 rfl Tryz.call90 Tryz.ntmps90 (congrArg Array.toList Tryz.results90) (by simp) (by kernel_rfl) [] (exts:=[]) rfl rfl ?_
 by_cases h0:a.length=b.length
 rotate_left
 ·have h1: ¬(a.length:Int)=(b.length:Int):=by omega
  have h2: ¬a=b:=fun e=>h0 (by rw[e])
  simp only[go_sem,h1,h2]
 have h00:(a.length:Int)=(b.length:Int):=by omega
 simp only[go_sem,h00]
 refine loop Tryz.mixed 0 (fun i:Nat=>[(0,.vs (a.map i1)),(1,.vs (b.map i1)),(12,.int .i64 a.length),(13,.int .i64 i)]) (fun _=>[]) (fun i=>i≤a.length∧a.take i=b.take i) (fun i=>a.length - i) (by kernel_rfl) ⟨Nat.zero_le _,by simp⟩ ?_ ?_
 ·simp only[go_sem,h00]
 ·rintro i ⟨hi,he⟩
  by_cases hlt:i<a.length
  ·have h1:(i:Int)<(a.length:Int):=by omega
   have hlt2:i<b.length:=by omega
   by_cases z:el a i=el b i
   ·simp only[go_sem,h1,hlt,hlt2,z]
    refine⟨ae (by kernel_rfl),i+1,⟨⟨by omega,by rw[bh hlt,bh hlt2,he,z]⟩,by omega⟩,by rw[ag]<;>omega⟩
   ·have h2: ¬a=b:=fun e=>z (by rw[e])
    simp only[go_sem,h1,hlt,hlt2,z,h2]
    exact ae (by kernel_rfl)
  ·have h1: ¬(i:Int)<(a.length:Int):=by omega
   have h2:a=b:=by
    rw[List.take_of_length_le (by omega),List.take_of_length_le (by omega)]at he
    exact he
   simp only[go_sem,h1]
   rw[decide_eq_true h2]
end Go.Proofs.Am
