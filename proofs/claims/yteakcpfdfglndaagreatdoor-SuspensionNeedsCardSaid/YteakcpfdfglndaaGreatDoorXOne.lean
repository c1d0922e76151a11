/- XOne. -/
import Derived.Test.YteakcpfdfglndaaGreatDoorUFour
import Derived.Test.YteakcpfdfglndaaGreatDoorCNine
import Derived.Test.YteakcpfdfglndaaGreatDoorEOne
set_option maxHeartbeats 1000000
set_option maxRecDepth 100000
set_option linter.unusedSimpArgs false
set_option linter.unusedVariables false
namespace Go.Proofs.Am
open Go Go.RowKit
open Go.Proofs
theorem a5j(c:Cs):a42 c=if m5 c=true then(l8 c,0)else(⟨0,0,0,0⟩,41):=rfl
theorem ana{L:List Stm}{t:Tm}{c:Cs}(h:m5 c=false):qh L t c=false:=by rw[qh,h,Bool.false_and]
theorem av8{au nu ti:Int}{d:Drf}{c:Cs}(h:d.kd≠10):okV c (gh au nu ti d)=false:=by
 have hk:(gh au nu ti d).kd=d.kd:=rfl
 have he:(ofE (gh au nu ti d)).2≠0:=by
  unfold ofE
  split
  ·assumption
  ·rw[if_neg (fun hh=>h (hk ▸ hh.1))]
   simp
 simp[okV,bu,he]
theorem decG_big{r:Rl}{L:List Stm}{t:Tm}{c:Cs}:l4 (fh r L t c).1:=by
 unfold fh
 split
 ·exact by simp[noC,l4,big]
 ·show l4 (yl (ya L c (av r t c).1))
  unfold ya
  split
  ·exact aki
  ·exact by simp[yl,noC,l4,big]
theorem az9{r:Rl}{L:List Stm}{t:Tm}{c:Cs}:l4 (aax r L t c).1:=by
 unfold aax
 split
 ·split
  ·exact by simp[noC,l4,big]
  ·split
   ·unfold aht
    split
    ·exact decG_big
    ·exact by simp[noC,l4,big]
   ·exact decG_big
 ·exact by simp[noC,l4,big]
def plS(s:Stm):Prop:=s.kd=10→s.pins=[]∧s.b.tmod 16≠1
theorem wh{L:List Stm}{c:Cs}(h: ∀s∈L,plS s): ∀y∈al L c,plX y.x:=fun y hy=>by
 obtain⟨s,hs,ho,rfl⟩:=fc.1 hy
 have h1:=(Bool.and_eq_true_iff.1 ho).1
 have h2:(ofE s).2=0:=of_decide_eq_true (Bool.and_eq_true_iff.1 h1).1
 show plX (ofE s).1.x
 unfold ofE at h2 ⊢
 split at h2
 ·rename_i h3
  exact absurd h2 h3
 rename_i h3
 rw[if_neg h3]
 split at h2
 ·rename_i h4
  rw[if_pos h4]
  obtain⟨a1,a2,a3⟩:=h4
  obtain⟨p1,p2⟩:=h s hs a1
  refine⟨p1,?_⟩
  have a4:=(Bool.and_eq_true_iff.1 (Bool.and_eq_true_iff.1 a3).2).2
  unfold abn at a4
  rw[if_neg (show¬(mkV s).c.kd=1 from p2)]at a4
  obtain⟨a5,a6⟩:=of_decide_eq_true a4
  intro n hn
  obtain⟨z,hz⟩:=List.length_eq_one_iff.1 a5
  have hl:s.li=[z]:=hz
  have a6:el s.li 0=0∨el s.li 0=1:=a6
  have hn:n∈s.li:=hn
  rw[hl]at a6 hn
  rw[List.mem_singleton]at hn
  rw[hn]
  exact a6
 ·cases h2
theorem bc3{k nu:Int}{c:Cs}{x:Ct}(hk:c.kd≠1)(hx:x.pi=[]):plS (vt k nu c x):=fun h=>by
 show(dq c x).1.pins=[]∧(dq c x).1.b.tmod 16≠1
 have h:(dq c x).1.kd=10:=h
 unfold dq at h ⊢
 split at h
 ·cases h
 rename_i h1
 rw[if_neg h1]
 split at h
 ·cases h
 rename_i h2
 rw[if_neg h2]
 have h3:dh c=true:=by simpa using h1
 have h4:=of_decide_eq_true h3
 refine⟨hx,?_⟩
 show(c.kd+16*c.ro).tmod 16≠1
 rw[Int.tmod_eq_emod_of_nonneg (by omega)]
 omega
theorem aiu{k nu ti:Int}{d:Drf}(h:d.kd≠10):plS (gh k nu ti d):=fun hk=>absurd hk h
theorem anh(r:Rl)(L:List Stm)(t:Tm)(c:Cs)(hr:RlB r)(hl:big t.ros.length)(hL:L.length≤900)(hs: ∀s∈L,jm s)(hq: ∀y∈al L c,plX y.x):Den Tryz.prog 326 [.agg (cs c),.agg (rl r),.vs (L.map sm),.agg (tm t)] [] (.tup [.agg (ct (fh r L t c).1),.bool (fh r L t c).2.1,.int .i64 (fh r L t c).2.2]) [] []:=by
 refine ac Tryz.mixed Tryz.func326 rfl Tryz.call326 Tryz.ntmps326 (congrArg Array.toList Tryz.results326) (by simp) (by kernel_rfl) [] (exts:=[]) rfl rfl ?_
 have c2:=aa7 r L t c hr hl hL hs hq
 generalize fh r L t c=D at*
 rw[fk,lk,bf,iu]at c2
 simp only[go_sem]
 refine call c2 [] ?_
 simp only[go_sem]
theorem a2h(r:Rl)(L:List Stm)(t:Tm)(c:Cs)(hr:RlB r)(hl:big t.ros.length)(hL:L.length≤900)(hs: ∀s∈L,jm s)(hq: ∀y∈al L (l8 c),plX y.x):Den Tryz.prog 327 [.agg (cs c),.agg (rl r),.vs (L.map sm),.agg (tm t)] [] (.tup [.agg (ct (aht r L t c).1),.bool (aht r L t c).2,.int .i64 0]) [] []:=by
 refine ac Tryz.mixed Tryz.func327 rfl Tryz.call327 Tryz.ntmps327 (congrArg Array.toList Tryz.results327) (by simp) (by kernel_rfl) [] (exts:=[]) rfl rfl ?_
 have c1:=a5r c
 have c2:=ase L t c hl (by simp only[big];omega) hs
 have c3:=aa7 r L t (l8 c) hr hl hL hs hq
 have h1:=a5j c
 have h2:aht r L t c=if qh L t c=true∧(fh r L t (l8 c)).2.2=0 then((fh r L t (l8 c)).1,(fh r L t (l8 c)).2.1)else(noC,false):=rfl
 have h4:=ana (L:=L) (t:=t) (c:=c)
 generalize aht r L t c=m at*
 generalize fh r L t (l8 c)=D at*
 obtain⟨x,b,e⟩:=D
 simp only at c3 h2
 rw[fk,lk,bf,iu]at c3
 rw[lk,bf]at c2
 simp only[go_sem]
 refine call c1 [] ?_
 cases ho:m5 c
 ·rw[ho,if_neg (by simp)]at h1
  rw[if_neg (by simp[h4 ho])]at h2
  rw[h2,h1]
  simp only[go_sem,noC,List.map_nil]
 rw[ho,if_pos rfl]at h1
 rw[h1]
 simp only[go_sem]
 refine call c2 [] ?_
 cases ha:qh L t c
 ·rw[if_neg (by simp[ha])]at h2
  rw[h2]
  simp only[go_sem,noC,List.map_nil]
 simp only[go_sem,l8]
 simp only[l8]at c3
 refine call c3 [] ?_
 by_cases he:e=0
 ·rw[if_pos ⟨ha,he⟩]at h2
  rw[h2]
  simp only[go_sem,he]
 ·rw[if_neg (fun hh=>he hh.2)]at h2
  rw[h2]
  simp only[go_sem,he,noC,List.map_nil]
def ni(r:Rl)(L:List Stm)(t:Tm)(c:Cs):(Ct×Ct)×(Bool×Bool)×Int:=
 if dh c=true∧c.ro=0 then
  if(fh r L t c).2.2≠0 then(((fh r L t c).1,noC),((fh r L t c).2.1,false),(fh r L t c).2.2)
  else(((fh r L t c).1,(aht r L t c).1),((fh r L t c).2.1,(aht r L t c).2),0)
 else((noC,noC),(false,false),41)
theorem ayi(r:Rl)(L:List Stm)(t:Tm)(c:Cs)(hr:RlB r)(hl:big t.ros.length)(hL:L.length≤900)(hs: ∀s∈L,jm s)(hq: ∀y∈al L c,plX y.x)(hq1: ∀y∈al L (l8 c),plX y.x):Den Tryz.prog 89 [.agg (rl r),.vs (L.map sm),.agg (tm t),.agg (cs c)] [] (.tup [.agg [.vs ((ni r L t c).1.1.li.map i1),.vs ((ni r L t c).1.1.pi.map pn),.vs ((ni r L t c).1.2.li.map i1),.vs ((ni r L t c).1.2.pi.map pn)],.agg [.bool (ni r L t c).2.1.1,.bool (ni r L t c).2.1.2],.int .i64 (ni r L t c).2.2]) [] []:=by
 refine ac Tryz.mixed Tryz.func89 rfl Tryz.call89 Tryz.ntmps89 (congrArg Array.toList Tryz.results89) (by simp) (by kernel_rfl) [] (exts:=[]) rfl rfl ?_
 have c1:=vq c
 have c2:=anh r L t c hr hl hL hs hq
 have c3:=a2h r L t c hr hl hL hs hq1
 have hm:ni r L t c=if dh c=true∧c.ro=0 then
  if(fh r L t c).2.2≠0 then(((fh r L t c).1,noC),((fh r L t c).2.1,false),(fh r L t c).2.2)
  else(((fh r L t c).1,(aht r L t c).1),((fh r L t c).2.1,(aht r L t c).2),0)
 else((noC,noC),(false,false),41):=rfl
 generalize ni r L t c=m at*
 generalize fh r L t c=D at*
 generalize aht r L t c=S at*
 obtain⟨x,b,e⟩:=D
 obtain⟨y,i⟩:=S
 simp only at c2 c3 hm
 rw[bf]at c1
 rw[fk,lk,bf,iu]at c2 c3
 simp only[go_sem]
 refine call c1 [] ?_
 by_cases a1:dh c=true
 rotate_left
 ·rw[if_neg (fun h=>a1 h.1)]at hm
  subst hm
  simp only[go_sem,a1,noC,List.map_nil]
  exact aa (by kernel_rfl)
 by_cases a2:c.ro=0
 rotate_left
 ·rw[if_neg (fun h=>a2 h.2)]at hm
  subst hm
  simp only[go_sem,a1,a2,noC,List.map_nil]
  exact aa (by kernel_rfl)
 rw[if_pos ⟨a1,a2⟩]at hm
 rw[a2]at c2 c3
 simp only[go_sem,a1,a2]
 refine loop Tryz.mixed 0 (fun k:Nat=>[(1,.vs (L.map sm)),(4,.ptr 4 0),(6,.ptr 6 0),(8,.ptr 8 0),(9,.ptr 9 0),(10,.int .i64 0),(29,.vs [[.ifc 168 (.agg [.int .i64 c.ep,.int .i64 c.kd,.int .i64 c.su,.int .i64 0])],[.ifc 169 (.agg [.int .i64 c.ep,.int .i64 c.kd,.int .i64 c.su,.int .i64 0])]]),(30,.int .i64 2),(31,.int .i64 k)])
  (fun k=>[(4,.cells (rl r)),(6,.cells (tm t)),(8,.cells (if k=0 then [.nils,.nils,.nils,.nils]else if k=1 then [.vs (x.li.map i1),.vs (x.pi.map pn),.nils,.nils]else [.vs (x.li.map i1),.vs (x.pi.map pn),.vs (y.li.map i1),.vs (y.pi.map pn)])),(9,.cells [.bool (if k=0 then false else b),.bool (if k<2 then false else i)])]) (fun k=>k≤2∧(0<k→e=0)) (fun k=>2 - k) (by kernel_rfl) ⟨by omega,fun h=>by omega⟩ ?_ ?_
 ·simp only[go_sem]
 ·rintro k ⟨hk,he⟩
  have hk3:k=0∨k=1∨k=2:=by omega
  rcases hk3 with rfl|rfl|rfl
  ·simp only[go_sem]
   refine call c2 [] ?_
   by_cases he0:e=0
   ·simp only[go_sem,he0]
    refine⟨1,⟨by omega,by omega⟩,?_⟩
    simp only[go_sem]
    decide+kernel
   ·rw[if_pos he0]at hm
    subst hm
    simp only[go_sem,he0,noC,List.map_nil]
    exact aa (by kernel_rfl)
  ·simp only[go_sem]
   refine call c3 [] ?_
   simp only[go_sem]
   refine⟨2,⟨⟨by omega,fun _=>he (by omega)⟩,by omega⟩,?_⟩
   simp only[go_sem]
   decide+kernel
  ·rw[if_neg (by simpa using he (by omega))]at hm
   subst hm
   simp only[go_sem]
   exact aa (by kernel_rfl)
theorem ayf(r:Rl)(L:List Stm)(t:Tm)(c:Cs)(hr:RlB r)(hl:big t.ros.length)(hL:L.length≤900)(hs: ∀s∈L,jm s)(hq: ∀y∈al L c,plX y.x)(hq1: ∀y∈al L (l8 c),plX y.x):Den Tryz.prog 55 [.agg (rl r),.vs (L.map sm),.agg (tm t),.agg (cs c)] [] (.tup [.agg (ct (aax r L t c).1),.bool (aax r L t c).2.1,.int .i64 (aax r L t c).2.2]) [] []:=by
 refine ac Tryz.mixed Tryz.func55 rfl Tryz.call55 Tryz.ntmps55 (congrArg Array.toList Tryz.results55) (by simp) (by kernel_rfl) [] (exts:=[]) rfl rfl ?_
 have c1:=ayi r L t c hr hl hL hs hq hq1
 have hm:aax r L t c=if(ni r L t c).2.2≠0 then(noC,false,(ni r L t c).2.2)else if(ni r L t c).2.1.2=true then((ni r L t c).1.2,true,0)else((ni r L t c).1.1,(ni r L t c).2.1.1,0):=by
  unfold aax ni
  by_cases h:dh c=true∧c.ro=0
  ·rw[if_pos h,if_pos h]
   by_cases h1:(fh r L t c).2.2≠0
   ·rw[if_pos h1,if_pos h1,if_pos h1]
   ·rw[if_neg h1,if_neg h1]
    rfl
  ·rw[if_neg h,if_neg h,if_pos (by simp)]
 generalize aax r L t c=m at*
 generalize ni r L t c=D at*
 obtain⟨⟨x,y⟩,⟨b,i⟩,e⟩:=D
 simp only at c1 hm
 rw[fk,lk,bf]at c1
 simp only[go_sem]
 refine call c1 [] ?_
 by_cases a3:e=0
 rotate_left
 ·rw[if_pos a3]at hm
  subst hm
  simp only[go_sem,a3,noC,List.map_nil]
 rw[if_neg (by simpa using a3)]at hm
 cases i
 ·rw[if_neg (by simp)]at hm
  subst hm
  simp only[go_sem,a3]
  exact aa (by kernel_rfl)
 ·rw[if_pos rfl]at hm
  subst hm
  simp only[go_sem,a3]
end Go.Proofs.Am
