/- XOne. -/
import Derived.Test.YteakcpfdfglndaaGreatDoorUFour
import Derived.Test.YteakcpfdfglndaaGreatDoorCNine
import Derived.Test.YteakcpfdfglndaaGreatDoorEOne
import Derived.Test.YteakcpfdfglndaaGreatDoorWOne
import Derived.Test.YteakcpfdfglndaaGreatDoorVTwo
import Derived.Test.YteakcpfdfglndaaGreatDoorCThree
import Derived.Test.YteakcpfdfglndaaGreatDoorBThree
set_option maxHeartbeats 1000000
set_option maxRecDepth 100000
set_option linter.unusedSimpArgs false
set_option linter.unusedVariables false
namespace Go.Proofs.Am
open Go Go.RowKit
open Go.Proofs
theorem a7e(c:Cs):Den Tryz.prog 118 [.agg (cs c)] [] (.tup [.agg (cs (ao8 c).1),.int .i64 (ao8 c).2]) [] []:=by
 refine aa Tryz.mixed Tryz.func118 rfl Tryz.call118 Tryz.ntmps118 (congrArg Array.toList Tryz.results118) (by simp) (by kernel_rfl) [] (exts:=[]) rfl rfl ?_
 simp only[go_sem]
 refine call (bbc c) [] ?_
 cases h:ln c
 ·have e1:ao8 c=(⟨0,0,0,0⟩,41):=by rw[ao8,h];rfl
  rw[e1]
  simp only[go_sem]
 ·have e1:ao8 c=({c with ro:=1},0):=by rw[ao8,h];rfl
  rw[e1]
  simp only[go_sem]
theorem asu(c:Cs):ao8 c=if ln c=true then(qr c,0)else(⟨0,0,0,0⟩,41):=rfl
theorem a2e{p:Stm→Bool}{l:List Stm}{i:Nat}(hp: ∀j,j<i→p (el l j)=false)(h:p (el l i)=false): ∀j,j<i+1→p (el l j)=false:=fun j hj=>by
 by_cases hji:j=i
 ·rw[hji];exact h
 ·exact hp j (by omega)
theorem a8w{p:Stm→Bool}{l:List Stm}{i:Nat}(hi:i<l.length)(h:p (el l i)=true):l.any p=true:=List.any_eq_true.2 ⟨_,aw hi,h⟩
theorem avx{p:Stm→Bool}{l:List Stm}(h: ∀j,j<l.length→p (el l j)=false):l.any p=false:=by
 rw[List.any_eq_false]
 intro x hx
 obtain⟨j,hj,rfl⟩:=vv hx
 rw[h j hj]
 simp
theorem ao1(l:List Stm)(t:Tm)(c:Cs)(hl:big t.ros.length)(hb:big l.length)(hs: ∀s∈l,gx s):Den Tryz.prog 119 [.vs (l.map sm),.agg (tm t),.agg (cs c)] [] (.bool (ja l t c)) [] []:=by
 refine aa Tryz.mixed Tryz.func119 rfl Tryz.call119 Tryz.ntmps119 (congrArg Array.toList Tryz.results119) (by simp) (by kernel_rfl) [] (exts:=[]) rfl rfl ?_
 have c1:=bbc c
 rw[bd]at c1
 simp only[go_sem]
 refine call c1 [] ?_
 cases e:ln c
 ·simp only[go_sem,ja,e]
 have hm:ja l t c=l.any (am0 t.ros c):=by rw[ja,e,Bool.true_and]
 rw[hm]
 simp only[go_sem]
 refine loop Tryz.mixed 0 (fun i:Nat=>[(0,.vs (l.map sm)),(4,.ptr 4 0),(5,.ptr 5 0),(7,.int .i64 i)]) (fun i=>[(4,.cells (tm t)),(5,.cells (cs c))]) (fun i=>i≤l.length∧∀j,j<i→am0 t.ros c (el l j)=false) (fun i=>l.length - i) (by kernel_rfl) ?_ ?_ ?_
 ·simp
 ·simp only[go_sem]
 ·rintro i ⟨hi,hp⟩
  by_cases hi':i<l.length
  ·have hlt:(i:Int)<(l.length:Int):=by omega
   have hbs:=hs _ (aw hi')
   have hany:=a8w (p:=am0 t.ros c) hi'
   have nx:=a2e (l:=l) hp
   have k1:=mb (el l i) hbs
   have k2:=fun h:aj (el l i)=0=>mg (el l i) (n8 h)
   have k3:=za t.ros (el l i).au hl
   rw[kz]at k1 k2
   generalize hq:am0 t.ros c (el l i)=q at*
   unfold am0 at hq
   by_cases a0:(el l i).kd=15
   rotate_left
   ·skip
    simp only[go_sem,hlt,hi',a0]
    refine⟨i+1,⟨⟨by omega,nx (by rw[←hq];simp[a0])⟩,by omega⟩,by rw[ag]<;>omega⟩
   by_cases a1:(el l i).a=c.ep
   rotate_left
   ·skip
    simp only[go_sem,hlt,hi',a0,a1]
    refine⟨i+1,⟨⟨by omega,nx (by rw[←hq];simp[a1])⟩,by omega⟩,by rw[ag]<;>omega⟩
   by_cases a2:(el l i).b=c.kd
   rotate_left
   ·skip
    simp only[go_sem,hlt,hi',a0,a1,a2]
    refine⟨i+1,⟨⟨by omega,nx (by rw[←hq];simp[a2])⟩,by omega⟩,by rw[ag]<;>omega⟩
   by_cases a3:(el l i).c=c.su
   rotate_left
   ·skip
    simp only[go_sem,hlt,hi',a0,a1,a2,a3]
    refine⟨i+1,⟨⟨by omega,nx (by rw[←hq];simp[a3])⟩,by omega⟩,by rw[ag]<;>omega⟩
   by_cases a4:((el l i).li.length:Int)=0
   rotate_left
   ·have a4': ¬(el l i).li.length=0:=by omega
    simp only[go_sem,hlt,hi',a0,a1,a2,a3,a4]
    refine⟨i+1,⟨⟨by omega,nx (by rw[←hq];simp[a4'])⟩,by omega⟩,by rw[ag]<;>omega⟩
   have a4':(el l i).li.length=0:=by omega
   by_cases a5:((el l i).pins.length:Int)=0
   rotate_left
   ·have a5': ¬(el l i).pins.length=0:=by omega
    simp only[go_sem,hlt,hi',a0,a1,a2,a3,a4,a5]
    refine⟨i+1,⟨⟨by omega,nx (by rw[←hq];simp[a5'])⟩,by omega⟩,by rw[ag]<;>omega⟩
   have a5':(el l i).pins.length=0:=by omega
   by_cases a6:(el l i).body=[]
   rotate_left
   ·skip
    simp only[go_sem,hlt,hi',a0,a1,a2,a3,a4,a5,a6]
    refine⟨i+1,⟨⟨by omega,nx (by rw[←hq];simp[a6])⟩,by omega⟩,by rw[ag]<;>omega⟩
   simp only[go_sem,hlt,hi',a0,a1,a2,a3,a4,a5,a6]
   refine call k3 [] ?_
   by_cases b1:(el l i).au∈t.ros
   rotate_left
   ·simp only[go_sem,b1]
    refine⟨i+1,⟨⟨by omega,nx (by rw[←hq];simp[b1])⟩,by omega⟩,by rw[ag]<;>omega⟩
   simp only[go_sem,b1]
   refine call k1 [] ?_
   simp only[go_sem]
   refine⟨⟨a0.symm,a1.symm,a2.symm,a3.symm,a6.symm⟩,?_⟩
   by_cases b2:aj (el l i)=0
   rotate_left
   ·simp only[go_sem,b2]
    refine⟨i+1,⟨⟨by omega,nx (by rw[←hq];simp[b2])⟩,by omega⟩,by rw[ag]<;>omega⟩
   simp only[go_sem,b2]
   refine call (k2 b2) [] ?_
   simp only[go_sem]
   refine⟨⟨a0.symm,a1.symm,a2.symm,a3.symm,a6.symm⟩,?_⟩
   by_cases b3:(el l i).sk=(el l i).au∧(el l i).sd=dig (el l i)
   rotate_left
   ·simp only[go_sem,b3]
    refine⟨i+1,⟨⟨by omega,nx (by rw[←hq];simp[b3])⟩,by omega⟩,by rw[ag]<;>omega⟩
   simp only[go_sem,b3]
   have:=hany (by rw[←hq];simp[b1,b2,b3,a0,a1,a2,a3,a4',a5',a6])
   rw[this]
  ·have hf: ¬((i:Int)<(l.length:Int)):=by omega
   have:i=l.length:=by omega
   subst this
   simp only[go_sem,hf]
   rw[avx hp]
theorem ae0{r:Rl}{L:List Stm}{t:Tm}{c:Cs}(h:(et r L t c).2.2≠0):(et r L t c).2.1=false∧(et r L t c).1=noC:=by
 unfold et at h ⊢
 split
 ·exact⟨rfl,rfl⟩
 ·rename_i hs
  rw[if_neg hs]at h
  have:va L c (ay r t c).1=[]:=by
   unfold va
   rw[if_neg h]
  rw[this]
  exact⟨rfl,rfl⟩
theorem a6d{r:Rl}{L:List Stm}{t:Tm}{c:Cs}(ha:ja L t c=true):ul r L t c=((et r L t (qr c)).1,(et r L t (qr c)).2.1&&decide ((et r L t (qr c)).2.2=0)):=by
 unfold ul
 by_cases h:(et r L t (qr c)).2.2=0
 ·rw[if_pos ⟨ha,h⟩,decide_eq_true h,Bool.and_true]
 ·rw[if_neg (fun hh=>h hh.2),(ae0 h).1,(ae0 h).2,Bool.false_and]
theorem a67{r:Rl}{L:List Stm}{t:Tm}{c:Cs}(ha:ja L t c=false):ul r L t c=(noC,false):=by
 unfold ul
 rw[if_neg (by simp[ha])]
theorem zo{L:List Stm}{t:Tm}{c:Cs}(h:ln c=false):ja L t c=false:=by rw[ja,h,Bool.false_and]
theorem azb(r:Rl)(L:List Stm)(t:Tm)(c:Cs)(hr:RlB r)(hl:big t.ros.length)(hL:L.length≤900)(hs: ∀s∈L,gx s):Den Tryz.prog 94 [.agg (rl r),.vs (L.map sm),.agg (tm t),.agg (cs c)] [] (.tup [.agg (ct (ul r L t c).1),.bool (ul r L t c).2]) [] []:=by
 refine aa Tryz.mixed Tryz.func94 rfl Tryz.call94 Tryz.ntmps94 (congrArg Array.toList Tryz.results94) (by simp) (by kernel_rfl) [] (exts:=[]) rfl rfl ?_
 have c1:=a7e c
 have c2:=ao1 L t c hl (by simp only[big];omega) hs
 have c3:=aa7 r L t (qr c) hr hl hL hs
 have h1:=asu c
 have h2:=a6d (r:=r) (L:=L) (t:=t) (c:=c)
 have h3:=a67 (r:=r) (L:=L) (t:=t) (c:=c)
 have h4:=zo (L:=L) (t:=t) (c:=c)
 generalize ul r L t c=m at*
 generalize et r L t (qr c)=D at*
 obtain⟨x,b,e⟩:=D
 simp only at c3 h2
 rw[bu,fy,bd,gk]at c3
 rw[fy,bd]at c2
 simp only[go_sem]
 refine call c1 [] ?_
 cases ho:ln c
 ·rw[ho,if_neg (by simp)]at h1
  rw[h3 (h4 ho),h1]
  simp only[go_sem,noC,List.map_nil]
 rw[ho,if_pos rfl]at h1
 rw[h1]
 simp only[go_sem]
 refine call c2 [] ?_
 cases ha:ja L t c
 ·rw[h3 ha]
  simp only[go_sem,noC,List.map_nil]
 rw[h2 ha]
 simp only[go_sem,qr]
 simp only[qr]at c3
 refine call c3 [] ?_
 cases b
 ·simp only[go_sem]
 ·simp only[go_sem]
theorem a0o(r:Rl)(L:List Stm)(t:Tm)(c:Cs)(hr:RlB r)(hl:big t.ros.length)(hL:L.length≤900)(hs: ∀s∈L,gx s):Den Tryz.prog 62 [.agg (rl r),.vs (L.map sm),.agg (tm t),.agg (cs c)] [] (.tup [.agg (ct (rf r L t c).1),.bool (rf r L t c).2.1,.int .i64 (rf r L t c).2.2]) [] []:=by
 refine aa Tryz.mixed Tryz.func62 rfl Tryz.call62 Tryz.ntmps62 (congrArg Array.toList Tryz.results62) (by simp) (by kernel_rfl) [] (exts:=[]) rfl rfl ?_
 have c1:=j9 c
 have c2:=aa7 r L t c hr hl hL hs
 have c3:=azb r L t c hr hl hL hs
 have hm:rf r L t c=if dl c=true∧c.ro=0 then
  if(et r L t c).2.2≠0 then(noC,false,(et r L t c).2.2)
  else if(ul r L t c).2=true then((ul r L t c).1,true,0)else((et r L t c).1,(et r L t c).2.1,0)
 else(noC,false,41):=rfl
 generalize rf r L t c=m at*
 generalize et r L t c=D at*
 generalize ul r L t c=S at*
 obtain⟨x,b,e⟩:=D
 obtain⟨y,i⟩:=S
 simp only at c2 c3 hm
 rw[bd]at c1
 rw[bu,fy,bd,gk]at c2 c3
 simp only[go_sem]
 refine call c1 [] ?_
 by_cases a1:dl c=true
 rotate_left
 ·rw[if_neg (fun h=>a1 h.1)]at hm
  subst hm
  simp only[go_sem,a1,noC,List.map_nil]
 by_cases a2:c.ro=0
 rotate_left
 ·rw[if_neg (fun h=>a2 h.2)]at hm
  subst hm
  simp only[go_sem,a1,a2,noC,List.map_nil]
 rw[if_pos ⟨a1,a2⟩]at hm
 rw[a2]at c2 c3
 simp only[go_sem,a1,a2]
 refine call c2 [] ?_
 by_cases a3:e=0
 rotate_left
 ·rw[if_pos a3]at hm
  subst hm
  simp only[go_sem,a3,noC,List.map_nil]
 rw[if_neg (by simpa using a3)]at hm
 simp only[go_sem,a3,a2]
 refine call c3 [] ?_
 cases i
 ·rw[if_neg (by simp)]at hm
  subst hm
  simp only[go_sem]
 ·rw[if_pos rfl]at hm
  subst hm
  simp only[go_sem]
theorem at8{au nu ti:Int}{d:Drf}{c:Cs}(h:d.kd≠10):okV c (gn au nu ti d)=false:=by
 have hk:(gn au nu ti d).kd=d.kd:=rfl
 have he:(ofE (gn au nu ti d)).2≠0:=by
  unfold ofE
  split
  ·assumption
  ·rw[if_neg (fun hh=>h (hk ▸ hh.1))]
   simp
 simp[okV,cw,he]
theorem alg{r:Rl}{L:List Stm}{t:Tm}{c:Cs}:ml (rf r L t c).1:=by
 unfold rf
 split
 ·split
  ·exact by simp[noC,ml,big]
  ·split
   ·unfold ul
    split
    ·exact decG_big
    ·exact by simp[noC,ml,big]
   ·exact decG_big
 ·exact by simp[noC,ml,big]
def plS(s:Stm):Prop:=s.kd=10→s.pins=[]∧s.b.tmod 16≠1
theorem ni{L:List Stm}{c:Cs}(h: ∀s∈L,plS s): ∀y∈am L c,plX y.x:=fun y hy=>by
 obtain⟨s,hs,ho,rfl⟩:=fl.1 hy
 have h1:=(Bool.and_eq_true_iff.1 ho).1
 have h2:(ofE s).2=0:=of_decide_eq_true (Bool.and_eq_true_iff.1 h1).1
 show plX (ofE s).1.x
 unfold ofE at h2 ⊢
 split at h2
 ·rename_i h3
  exact absurd h2 h3
 rename_i h3
 rw[if_neg h3]
 split at h2
 ·rename_i h4
  rw[if_pos h4]
  obtain⟨a1,a2,a3⟩:=h4
  obtain⟨p1,p2⟩:=h s hs a1
  refine⟨p1,?_⟩
  have a4:=(Bool.and_eq_true_iff.1 (Bool.and_eq_true_iff.1 a3).2).2
  unfold abu at a4
  rw[if_neg (show¬(mkV s).c.kd=1 from p2)]at a4
  obtain⟨a5,a6⟩:=of_decide_eq_true a4
  intro n hn
  obtain⟨z,hz⟩:=List.length_eq_one_iff.1 a5
  have hl:s.li=[z]:=hz
  have a6:el s.li 0=0∨el s.li 0=1:=a6
  have hn:n∈s.li:=hn
  rw[hl]at a6 hn
  rw[List.mem_singleton]at hn
  rw[hn]
  exact a6
 ·cases h2
theorem bfe{k nu:Int}{c:Cs}{x:Ct}(hk:c.kd≠1)(hx:x.pi=[]):plS (vt k nu c x):=fun h=>by
 show(dz c x).1.pins=[]∧(dz c x).1.b.tmod 16≠1
 have h:(dz c x).1.kd=10:=h
 unfold dz at h ⊢
 split at h
 ·cases h
 rename_i h1
 rw[if_neg h1]
 split at h
 ·cases h
 rename_i h2
 rw[if_neg h2]
 have h3:dl c=true:=by simpa using h1
 have h4:=of_decide_eq_true h3
 refine⟨hx,?_⟩
 show(c.kd+16*c.ro).tmod 16≠1
 rw[Int.tmod_eq_emod_of_nonneg (by omega)]
 omega
theorem ajq{k nu ti:Int}{d:Drf}(h:d.kd≠10):plS (gn k nu ti d):=fun hk=>absurd hk h
theorem ara(r:Rl)(L:List Stm)(t:Tm)(c:Cs)(hr:RlB r)(hl:big t.ros.length)(hL:L.length≤900)(hs: ∀s∈L,gx s)(hq: ∀y∈am L c,plX y.x):Den Tryz.prog 326 [.agg (cs c),.agg (rl r),.vs (L.map sm),.agg (tm t)] [] (.tup [.agg (ct (et r L t c).1),.bool (et r L t c).2.1,.int .i64 (et r L t c).2.2]) [] []:=by
 refine aa Tryz.mixed Tryz.func326 rfl Tryz.call326 Tryz.ntmps326 (congrArg Array.toList Tryz.results326) (by simp) (by kernel_rfl) [] (exts:=[]) rfl rfl ?_
 have c2:=ab2 r L t c hr hl hL hs hq
 generalize et r L t c=D at*
 rw[bu,fy,bd,gk]at c2
 simp only[go_sem]
 refine call c2 [] ?_
 simp only[go_sem]
theorem a1t(r:Rl)(L:List Stm)(t:Tm)(c:Cs)(hr:RlB r)(hl:big t.ros.length)(hL:L.length≤900)(hs: ∀s∈L,gx s)(hq: ∀y∈am L (qr c),plX y.x):Den Tryz.prog 327 [.agg (cs c),.agg (rl r),.vs (L.map sm),.agg (tm t)] [] (.tup [.agg (ct (ul r L t c).1),.bool (ul r L t c).2,.int .i64 0]) [] []:=by
 refine aa Tryz.mixed Tryz.func327 rfl Tryz.call327 Tryz.ntmps327 (congrArg Array.toList Tryz.results327) (by simp) (by kernel_rfl) [] (exts:=[]) rfl rfl ?_
 have c1:=a80 c
 have c2:=av6 L t c hl (by simp only[big];omega) hs
 have c3:=ab2 r L t (qr c) hr hl hL hs hq
 have h1:=asu c
 have h2:ul r L t c=if ja L t c=true∧(et r L t (qr c)).2.2=0 then((et r L t (qr c)).1,(et r L t (qr c)).2.1)else(noC,false):=rfl
 have h4:=zo (L:=L) (t:=t) (c:=c)
 generalize ul r L t c=m at*
 generalize et r L t (qr c)=D at*
 obtain⟨x,b,e⟩:=D
 simp only at c3 h2
 rw[bu,fy,bd,gk]at c3
 rw[fy,bd]at c2
 simp only[go_sem]
 refine call c1 [] ?_
 cases ho:ln c
 ·rw[ho,if_neg (by simp)]at h1
  rw[if_neg (by simp[h4 ho])]at h2
  rw[h2,h1]
  simp only[go_sem,noC,List.map_nil]
 rw[ho,if_pos rfl]at h1
 rw[h1]
 simp only[go_sem]
 refine call c2 [] ?_
 cases ha:ja L t c
 ·rw[if_neg (by simp[ha])]at h2
  rw[h2]
  simp only[go_sem,noC,List.map_nil]
 simp only[go_sem,qr]
 simp only[qr]at c3
 refine call c3 [] ?_
 by_cases he:e=0
 ·rw[if_pos ⟨ha,he⟩]at h2
  rw[h2]
  simp only[go_sem,he]
 ·rw[if_neg (fun hh=>he hh.2)]at h2
  rw[h2]
  simp only[go_sem,he,noC,List.map_nil]
def nj(r:Rl)(L:List Stm)(t:Tm)(c:Cs):(Ct×Ct)×(Bool×Bool)×Int:=
 if dl c=true∧c.ro=0 then
  if(et r L t c).2.2≠0 then(((et r L t c).1,noC),((et r L t c).2.1,false),(et r L t c).2.2)
  else(((et r L t c).1,(ul r L t c).1),((et r L t c).2.1,(ul r L t c).2),0)
 else((noC,noC),(false,false),41)
theorem az9(r:Rl)(L:List Stm)(t:Tm)(c:Cs)(hr:RlB r)(hl:big t.ros.length)(hL:L.length≤900)(hs: ∀s∈L,gx s)(hq: ∀y∈am L c,plX y.x)(hq1: ∀y∈am L (qr c),plX y.x):Den Tryz.prog 89 [.agg (rl r),.vs (L.map sm),.agg (tm t),.agg (cs c)] [] (.tup [.agg [.vs ((nj r L t c).1.1.li.map i1),.vs ((nj r L t c).1.1.pi.map pn),.vs ((nj r L t c).1.2.li.map i1),.vs ((nj r L t c).1.2.pi.map pn)],.agg [.bool (nj r L t c).2.1.1,.bool (nj r L t c).2.1.2],.int .i64 (nj r L t c).2.2]) [] []:=by
 refine aa Tryz.mixed Tryz.func89 rfl Tryz.call89 Tryz.ntmps89 (congrArg Array.toList Tryz.results89) (by simp) (by kernel_rfl) [] (exts:=[]) rfl rfl ?_
 have c1:=w4 c
 have c2:=ara r L t c hr hl hL hs hq
 have c3:=a1t r L t c hr hl hL hs hq1
 have hm:nj r L t c=if dl c=true∧c.ro=0 then
  if(et r L t c).2.2≠0 then(((et r L t c).1,noC),((et r L t c).2.1,false),(et r L t c).2.2)
  else(((et r L t c).1,(ul r L t c).1),((et r L t c).2.1,(ul r L t c).2),0)
 else((noC,noC),(false,false),41):=rfl
 generalize nj r L t c=m at*
 generalize et r L t c=D at*
 generalize ul r L t c=S at*
 obtain⟨x,b,e⟩:=D
 obtain⟨y,i⟩:=S
 simp only at c2 c3 hm
 rw[bd]at c1
 rw[bu,fy,bd,gk]at c2 c3
 simp only[go_sem]
 refine call c1 [] ?_
 by_cases a1:dl c=true
 rotate_left
 ·rw[if_neg (fun h=>a1 h.1)]at hm
  subst hm
  simp only[go_sem,a1,noC,List.map_nil]
  exact ae (by kernel_rfl)
 by_cases a2:c.ro=0
 rotate_left
 ·rw[if_neg (fun h=>a2 h.2)]at hm
  subst hm
  simp only[go_sem,a1,a2,noC,List.map_nil]
  exact ae (by kernel_rfl)
 rw[if_pos ⟨a1,a2⟩]at hm
 rw[a2]at c2 c3
 simp only[go_sem,a1,a2]
 refine loop Tryz.mixed 0 (fun k:Nat=>[(1,.vs (L.map sm)),(4,.ptr 4 0),(6,.ptr 6 0),(8,.ptr 8 0),(9,.ptr 9 0),(10,.int .i64 0),(29,.vs [[.ifc 168 (.agg [.int .i64 c.ep,.int .i64 c.kd,.int .i64 c.su,.int .i64 0])],[.ifc 169 (.agg [.int .i64 c.ep,.int .i64 c.kd,.int .i64 c.su,.int .i64 0])]]),(30,.int .i64 2),(31,.int .i64 k)])
  (fun k=>[(4,.cells (rl r)),(6,.cells (tm t)),(8,.cells (if k=0 then [.nils,.nils,.nils,.nils]else if k=1 then [.vs (x.li.map i1),.vs (x.pi.map pn),.nils,.nils]else [.vs (x.li.map i1),.vs (x.pi.map pn),.vs (y.li.map i1),.vs (y.pi.map pn)])),(9,.cells [.bool (if k=0 then false else b),.bool (if k<2 then false else i)])]) (fun k=>k≤2∧(0<k→e=0)) (fun k=>2 - k) (by kernel_rfl) ⟨by omega,fun h=>by omega⟩ ?_ ?_
 ·simp only[go_sem]
 ·rintro k ⟨hk,he⟩
  have hk3:k=0∨k=1∨k=2:=by omega
  rcases hk3 with rfl|rfl|rfl
  ·simp only[go_sem]
   refine call c2 [] ?_
   by_cases he0:e=0
   ·simp only[go_sem,he0]
    refine⟨1,⟨by omega,by omega⟩,?_⟩
    simp only[go_sem]
    decide+kernel
   ·rw[if_pos he0]at hm
    subst hm
    simp only[go_sem,he0,noC,List.map_nil]
    exact ae (by kernel_rfl)
  ·simp only[go_sem]
   refine call c3 [] ?_
   simp only[go_sem]
   refine⟨2,⟨⟨by omega,fun _=>he (by omega)⟩,by omega⟩,?_⟩
   simp only[go_sem]
   decide+kernel
  ·rw[if_neg (by simpa using he (by omega))]at hm
   subst hm
   simp only[go_sem]
   exact ae (by kernel_rfl)
theorem al7(r:Rl)(L:List Stm)(t:Tm)(c:Cs)(hr:RlB r)(hl:big t.ros.length)(hL:L.length≤900)(hs: ∀s∈L,gx s)(hq: ∀y∈am L c,plX y.x)(hq1: ∀y∈am L (qr c),plX y.x):Den Tryz.prog 55 [.agg (rl r),.vs (L.map sm),.agg (tm t),.agg (cs c)] [] (.tup [.agg (ct (rf r L t c).1),.bool (rf r L t c).2.1,.int .i64 (rf r L t c).2.2]) [] []:=by
 refine aa Tryz.mixed Tryz.func55 rfl Tryz.call55 Tryz.ntmps55 (congrArg Array.toList Tryz.results55) (by simp) (by kernel_rfl) [] (exts:=[]) rfl rfl ?_
 have c1:=az9 r L t c hr hl hL hs hq hq1
 have hm:rf r L t c=if(nj r L t c).2.2≠0 then(noC,false,(nj r L t c).2.2)else if(nj r L t c).2.1.2=true then((nj r L t c).1.2,true,0)else((nj r L t c).1.1,(nj r L t c).2.1.1,0):=by
  unfold rf nj
  by_cases h:dl c=true∧c.ro=0
  ·rw[if_pos h,if_pos h]
   by_cases h1:(et r L t c).2.2≠0
   ·rw[if_pos h1,if_pos h1,if_pos h1]
   ·rw[if_neg h1,if_neg h1]
    rfl
  ·rw[if_neg h,if_neg h,if_pos (by simp)]
 generalize rf r L t c=m at*
 generalize nj r L t c=D at*
 obtain⟨⟨x,y⟩,⟨b,i⟩,e⟩:=D
 simp only at c1 hm
 rw[bu,fy,bd]at c1
 simp only[go_sem]
 refine call c1 [] ?_
 by_cases a3:e=0
 rotate_left
 ·rw[if_pos a3]at hm
  subst hm
  simp only[go_sem,a3,noC,List.map_nil]
 rw[if_neg (by simpa using a3)]at hm
 cases i
 ·rw[if_neg (by simp)]at hm
  subst hm
  simp only[go_sem,a3]
  exact ae (by kernel_rfl)
 ·rw[if_pos rfl]at hm
  subst hm
  simp only[go_sem,a3]
theorem bey{c:Cs}{nu:Int}{x:Ct}{s:List Int}(hk:c.kd≠1)(hx:x.pi=[]): ∀y∈tg c nu x s,plS y∧(uz x→okS y):=fun y hy=>by
 obtain⟨k,_,rfl⟩:=aaf.1 hy
 exact⟨bfe hk hx,fun h=>a49 _ _ _ h⟩
def rfL(r:Rl)(t:Tm)(c:Cs)(x0 x1:Ct):Nat→List Stm
 |0=>[]
 |1=>tg c 0 x0 (ay r t c).1
 |_=>tg c 0 x0 (ay r t c).1++(if(ay r t (qr c)).2=0 then tg (qr c) 1 x1 (ay r t (qr c)).1 else [])
theorem bez(r:Rl)(t:Tm)(c:Cs)(x0 x1:Ct):rfL r t c x0 x1 2=tg c 0 x0 (ay r t c).1++(if(ay r t (qr c)).2=0 then tg (qr c) 1 x1 (ay r t (qr c)).1 else []):=rfl
theorem awb{c:Cs}{n:Int}(hc:dl c=true)(hk:c.kd≠1)(hn:n=0∨n=1):fq c ⟨[n],[]⟩=true:=by
 unfold fq
 rw[hc]
 have h1:aj (arl [])=0:=by decide+kernel
 rw[show(⟨[n],[]⟩:Ct).pi=[] from rfl,h1]
 unfold abu
 rw[if_neg hk]
 rcases hn with rfl|rfl<;>rfl
end Go.Proofs.Am
