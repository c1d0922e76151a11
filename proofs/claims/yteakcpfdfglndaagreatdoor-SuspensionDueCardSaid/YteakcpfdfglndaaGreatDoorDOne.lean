/- DOne. -/
import Derived.Test.YteakcpfdfglndaaGreatDoorD1
import Derived.Test.YteakcpfdfglndaaGreatDoorAmZ3
import Derived.Test.YteakcpfdfglndaaGreatDoorShP
set_option maxHeartbeats 1000000
set_option maxRecDepth 100000
set_option linter.unusedSimpArgs false
set_option linter.unusedVariables false
namespace Go.Proofs.Am
open Go Go.RowKit
open Go.Proofs
theorem y9(a b:List UInt8):Den Tryz.prog 125 [.str a,.str b] [] (.int .i64 (Lib.compareBytes a b)) [] []:=by
 refine wa (enters_of Tryz.func125 (by kernel_rfl) rfl) fun w V vals hL hV hlen hval=> ?_
 obtain⟨v1,v2,rfl⟩: ∃v1 v2,vals=[v1,v2]:=by
  match vals,hlen with
  |[v1,v2],_=>exact⟨v1,v2,rfl⟩
 obtain⟨E1,h1,_⟩:=hval 0 v1 (.str a) rfl rfl
 obtain⟨E2,h2,_⟩:=hval 1 v2 (.str b) rfl rfl
 rw[h1.str_inv,h2.str_inv]
 refine(Any.strings_Compare Tryz.laysCmpStr ⟨a.toArray⟩ ⟨b.toArray⟩ w).mono ?_
 rintro e w' ⟨rfl,rfl⟩
 exact⟨_,rfl,Below.refl _ _,.int _ _⟩
theorem azp(p q:Pn):Den Tryz.prog 204 [.agg (pn p),.agg (pn q)] [] (.int .i64 (ue p q)) [] []:=by
 refine aa Tryz.mixed Tryz.func204 rfl Tryz.call204 Tryz.ntmps204 (congrArg Array.toList Tryz.results204) (by simp) (by kernel_rfl) [] (exts:=[]) rfl rfl ?_
 rw[pn,pn]
 simp only[go_sem]
 refine call (gi p.au q.au) [] ?_
 simp only[go_sem]
 refine call (gi p.he q.he) [] ?_
 simp only[go_sem]
 refine call (y9 p.di q.di) [] ?_
 simp only[go_sem]
 refine call (afs [gk p.au q.au,gk p.he q.he,Lib.compareBytes p.di q.di] (by simp[big])) [] ?_
 simp only[go_sem]
 refine⟨ac (by kernel_rfl),?_⟩
 simp only[orL,ue,or2]
 repeat' split
 all_goals simp_all
theorem apo(a b:List Pn)(ha:big a.length)(hb:big b.length):Den Tryz.prog 203 [.vs (a.map pn),.vs (b.map pn),.fn 204 []] [] (.int .i64 (ot ue a b)) [] []:=by
 refine aa Tryz.mixed Tryz.func203 rfl Tryz.call203 Tryz.ntmps203 (congrArg Array.toList Tryz.results203) (by simp) (by kernel_rfl) [] (exts:=[]) rfl rfl ?_
 have hm:=a2r a.length b.length
 generalize hM:min a.length b.length=M at*
 simp only[Int.ofNat_lt]at hm
 simp only[go_sem,hm]
 refine loop Tryz.mixed 0 (fun i:Nat=>[(0,.vs (a.map pn)),(1,.vs (b.map pn)),(2,.fn 204 []),(13,.int .i64 M),(14,.int .i64 i)]) (fun _=>[]) (fun i=>i≤M∧ot ue a b=ot ue (a.drop i) (b.drop i)) (fun i=>M - i) (by kernel_rfl) ?_ ?_ ?_
 ·exact⟨Nat.zero_le _,rfl⟩
 ·simp only[go_sem]
 ·rintro i ⟨hi,hc⟩
  by_cases hlt:i<M
  ·have h1:(i:Int)<(M:Int):=by omega
   have ia:i<a.length:=by omega
   have ib:i<b.length:=by omega
   rw[pr ue ia ib]at hc
   simp only[go_sem,h1,ia,ib]
   refine call (azp (el a i) (el b i)) [] ?_
   by_cases hz:ue (el a i) (el b i)=0
   ·rw[if_pos hz]at hc
    simp only[go_sem,hz]
    refine⟨ac (by kernel_rfl),i+1,⟨⟨by omega,hc⟩,by omega⟩,?_⟩
    rw[ae]<;>omega
   ·rw[if_neg hz]at hc
    simp only[go_sem,hz]
    exact⟨ac (by kernel_rfl),hc.symm⟩
  ·have h1: ¬(i:Int)<(M:Int):=by omega
   rw[th ue (by omega)]at hc
   simp only[go_sem,h1]
   refine call (gi a.length b.length) [] ?_
   simp only[go_sem]
   exact hc.symm
theorem qz(x y:Ct)(h1:big x.li.length)(h2:big x.pi.length)(h3:big y.li.length)(h4:big y.pi.length):Den Tryz.prog 170 [.agg (ct x),.agg (ct y)] [] (.int .i64 (kz x y)) [] []:=by
 refine aa Tryz.mixed Tryz.func170 rfl Tryz.call170 Tryz.ntmps170 (congrArg Array.toList Tryz.results170) (by simp) (by kernel_rfl) [] (exts:=[]) rfl rfl ?_
 rw[jl,jl]
 simp only[go_sem]
 refine call (amm x.li y.li h1 h3) [] ?_
 simp only[go_sem]
 refine call (apo x.pi y.pi h2 h4) [] ?_
 simp only[go_sem]
 refine call (afs [ot gk x.li y.li,ot ue x.pi y.pi] (by simp[big])) [] ?_
 simp only[go_sem]
 refine⟨ac (by kernel_rfl),?_⟩
 simp only[orL,kz,or2]
 repeat' split
 all_goals simp_all
theorem bp: ∀a b:List UInt8,Op.bytesLess a b=decide (Lib.compareBytes a b<0)
 |[],[]=>by simp[Op.bytesLess,Lib.compareBytes]
 |[],_::_=>by simp[Op.bytesLess,Lib.compareBytes]
 |_::_,[]=>by simp[Op.bytesLess,Lib.compareBytes]
 |a::r,b::s=>by
  have ih:=bp r s
  simp only[Op.bytesLess,Lib.compareBytes]
  by_cases h1:a<b
  ·simp[h1]
  ·by_cases h2:b<a
   ·have:a≠b:=fun e=>by subst e;exact h1 h2
    simp[h1,h2,this]
   ·have:a=b:=UInt8.le_antisymm (UInt8.not_lt.1 h2) (UInt8.not_lt.1 h1)
    subst this
    simp[h1,ih]
theorem fi: ∀a b:List UInt8,Lib.compareBytes a b=0↔a=b
 |[],[]=>by simp[Lib.compareBytes]
 |[],_::_=>by simp[Lib.compareBytes]
 |_::_,[]=>by simp[Lib.compareBytes]
 |a::r,b::s=>by
  have ih:=fi r s
  simp only[Lib.compareBytes]
  by_cases h1:a<b
  ·have:a≠b:=fun e=>by subst e;exact UInt8.lt_irrefl _ h1
   simp[h1,this]
  ·by_cases h2:b<a
   ·have:a≠b:=fun e=>by subst e;exact UInt8.lt_irrefl _ h2
    simp[h1,h2,this]
   ·have:a=b:=UInt8.le_antisymm (UInt8.not_lt.1 h2) (UInt8.not_lt.1 h1)
    subst this
    simp[h1,ih]
theorem gq: ∀a b:List UInt8,Lib.compareBytes a b= -1∨Lib.compareBytes a b=0∨Lib.compareBytes a b=1
 |[],[]=>by simp[Lib.compareBytes]
 |[],_::_=>by simp[Lib.compareBytes]
 |_::_,[]=>by simp[Lib.compareBytes]
 |a::r,b::s=>by
  have ih:=gq r s
  simp only[Lib.compareBytes]
  split
  ·simp
  ·split
   ·simp
   ·exact ih
theorem xi(x y:Ct)(b1:big x.li.length)(b2:big x.pi.length)(b3:big y.li.length)(b4:big y.pi.length):Den Tryz.prog 104 [.agg (ct x),.agg (ct y)] [] (.int .i64 (kz x y)) [] []:=by
 refine aa Tryz.mixed Tryz.func104 rfl Tryz.call104 Tryz.ntmps104 (congrArg Array.toList Tryz.results104) (by simp) (by kernel_rfl) [] (exts:=[]) rfl rfl ?_
 rw[jl,jl]
 obtain⟨a,p⟩:=x
 obtain⟨b,q⟩:=y
 simp only[kz]
 change big a.length at b1
 change big p.length at b2
 change big b.length at b3
 change big q.length at b4
 simp only[go_sem]
 refine loop Tryz.mixed 0 (fun i:Nat=>[(2,.ptr 2 0),(3,.ptr 3 0),(4,.int .i64 0),(5,.int .i64 i)]) (fun _=>[(2,.cells [.vs (a.map i1),.vs (p.map pn)]),(3,.cells [.vs (b.map i1),.vs (q.map pn)])]) (fun i=>(i≤a.length∧i≤b.length)∧ot gk a b=ot gk (a.drop i) (b.drop i)) (fun i=>a.length - i) (by kernel_rfl) ?_ ?_ ?_
 ·exact⟨⟨Nat.zero_le _,Nat.zero_le _⟩,rfl⟩
 ·simp only[go_sem]
 ·rintro i ⟨⟨hia,hib⟩,hc⟩
  by_cases hlt:i<a.length∧i<b.length
  ·obtain⟨l1,l2⟩:=hlt
   have h1:(i:Int)<(a.length:Int):=by omega
   have h2:(i:Int)<(b.length:Int):=by omega
   rw[pr gk l1 l2]at hc
   simp only[go_sem,h1,h2,l1,l2]
   refine call (mz (el a i) (el b i)) [] ?_
   by_cases hz:gk (el a i) (el b i)=0
   ·rw[if_pos hz]at hc
    simp only[go_sem,hz]
    refine⟨ac (by kernel_rfl),i+1,⟨⟨⟨by omega,by omega⟩,hc⟩,by omega⟩,?_⟩
    rw[ae]<;>omega
   ·rw[if_neg hz]at hc
    simp only[go_sem,hz]
    refine⟨ac (by kernel_rfl),?_⟩
    rw[hc,or2,if_neg hz]
  ·rw[th gk (by omega)]at hc
   have hcase:(i<a.length∧¬i<b.length)∨¬i<a.length:=by omega
   rcases hcase with ⟨l1,l2⟩|l1
   case' inl=>
    have h1:(i:Int)<(a.length:Int):=by omega
    have h2: ¬(i:Int)<(b.length:Int):=by omega
    simp only[go_sem,h1,h2]
   case' inr=>
    have h1: ¬(i:Int)<(a.length:Int):=by omega
    simp only[go_sem,h1]
   all_goals
    refine call (mz a.length b.length) [] ?_
    by_cases hz:gk a.length b.length=0
    rotate_left
    ·simp only[go_sem,hz]
     rw[hc,or2,if_neg hz]
    rw[hz]at hc
    simp only[go_sem,hz]
    refine loop Tryz.mixed 0 (fun i:Nat=>[(2,.ptr 2 0),(3,.ptr 3 0),(4,.int .i64 0),(8,.int .i64 i)]) (fun _=>[(2,.cells [.vs (a.map i1),.vs (p.map pn)]),(3,.cells [.vs (b.map i1),.vs (q.map pn)])]) (fun i=>(i≤p.length∧i≤q.length)∧ot ue p q=ot ue (p.drop i) (q.drop i)) (fun i=>p.length - i) (by kernel_rfl) ?_ ?_ ?_
    ·exact⟨⟨Nat.zero_le _,Nat.zero_le _⟩,rfl⟩
    ·simp only[go_sem]
    rintro j ⟨⟨hjp,hjq⟩,hd⟩
    by_cases hlt:j<p.length∧j<q.length
    ·obtain⟨l1,l2⟩:=hlt
     have h1:(j:Int)<(p.length:Int):=by omega
     have h2:(j:Int)<(q.length:Int):=by omega
     rw[pr ue l1 l2]at hd
     generalize hu:el p j=u at hd
     generalize hv:el q j=v at hd
     simp only[go_sem,h1,h2,l1,l2,hu,hv,pn]
     refine⟨ac (by kernel_rfl),?_⟩
     refine call (mz u.au v.au) [] ?_
     by_cases z1:gk u.au v.au=0
     rotate_left
     ·have e1:ue u v=gk u.au v.au:=by simp[ue,or2,z1]
      rw[e1,if_neg z1]at hd
      simp only[go_sem,z1]
      rw[hc,or2,if_pos rfl]
      exact hd.symm
     simp only[go_sem,z1]
     refine call (mz u.he v.he) [] ?_
     by_cases z2:gk u.he v.he=0
     rotate_left
     ·have e1:ue u v=gk u.he v.he:=by simp[ue,or2,z1,z2]
      rw[e1,if_neg z2]at hd
      simp only[go_sem,z2]
      rw[hc,or2,if_pos rfl]
      exact hd.symm
     have e1:ue u v=Lib.compareBytes u.di v.di:=by simp[ue,or2,z1,z2]
     rw[e1]at hd
     by_cases z3:u.di=v.di
     ·have z4:=(fi u.di v.di).2 z3
      rw[if_pos z4]at hd
      simp only[go_sem,z2,z3]
      refine⟨j+1,⟨⟨⟨by omega,by omega⟩,hd⟩,by omega⟩,?_⟩
      rw[ae]<;>omega
     ·have z4:Lib.compareBytes u.di v.di≠0:=fun e=>z3 ((fi u.di v.di).1 e)
      rw[if_neg z4]at hd
      have z5:=bp u.di v.di
      by_cases z6:Lib.compareBytes u.di v.di<0
      ·have z7:Lib.compareBytes u.di v.di= -1:=by rcases gq u.di v.di with h|h|h<;>omega
       simp only[z6,decide_true]at z5
       simp only[go_sem,z2,z3,z5]
       rw[hc,or2,if_pos rfl,hd,z7]
      ·have z7:Lib.compareBytes u.di v.di=1:=by rcases gq u.di v.di with h|h|h<;>omega
       simp only[z6,decide_false]at z5
       simp only[go_sem,z2,z3,z5]
       rw[hc,or2,if_pos rfl,hd,z7]
    ·rw[th ue (by omega)]at hd
     have hcase:(j<p.length∧¬j<q.length)∨¬j<p.length:=by omega
     rcases hcase with ⟨l1,l2⟩|l1
     case' inl=>
      have h1:(j:Int)<(p.length:Int):=by omega
      have h2: ¬(j:Int)<(q.length:Int):=by omega
      simp only[go_sem,h1,h2]
     case' inr=>
      have h1: ¬(j:Int)<(p.length:Int):=by omega
      simp only[go_sem,h1]
     all_goals
      refine call (mz p.length q.length) [] ?_
      simp only[go_sem]
      rw[hc,or2,if_pos rfl]
      exact hd.symm
structure Vt where
 k:Int
 c:Cs
 x:Ct
deriving Inhabited,DecidableEq
def vt7(v:Vt):List PV:=[.int .i64 v.k,.int .i64 v.c.ep,.int .i64 v.c.kd,.int .i64 v.c.su,.int .i64 v.c.ro,.vs (v.x.li.map i1),.vs (v.x.pi.map pn)]
theorem aj5(v:Vt):vt7 v=[.int .i64 v.k,.int .i64 v.c.ep,.int .i64 v.c.kd,.int .i64 v.c.su,.int .i64 v.c.ro,.vs (v.x.li.map i1),.vs (v.x.pi.map pn)]:=(rfl)
attribute [go_sem] aj5
structure Cn where
 x:Ct
 ks:List Int
deriving Inhabited,DecidableEq
def cn3(n:Cn):List PV:=[.vs (n.x.li.map i1),.vs (n.x.pi.map pn),.vs (n.ks.map i1)]
theorem a7m(n:Cn):cn3 n=[.vs (n.x.li.map i1),.vs (n.x.pi.map pn),.vs (n.ks.map i1)]:=(rfl)
attribute [go_sem] a7m
def lw(x:Ct):Prop:=big x.li.length∧big x.pi.length
def anp:List Int→Int→List Int
 |[],n=>[n]
 |a::l,n=>if a<n then a::anp l n else if a=n then a::l else n::a::l
theorem ajz: ∀(l:List Int) (n:Int),(anp l n).length≤l.length+1
 |[],n=>by simp[anp]
 |a::l,n=>by
  have:=ajz l n
  simp only[anp]
  split
  ·simp;omega
  ·split<;>simp
theorem a2x(l:List Pn):l.length≤(l.flatMap pnB).length:=by
 induction l with
 |nil=>simp
 |cons p l ih=>
  simp only[List.flatMap_cons,List.length_append,List.length_cons,pnB,ar]
  omega
theorem aeh(x:Ct)(h:w9 x):Den Tryz.prog 183 [.agg (ct x)] [] (.agg (ct x)) [] []:=by
 refine aa Tryz.mixed Tryz.func183 rfl Tryz.call183 Tryz.ntmps183 (congrArg Array.toList Tryz.results183) (by simp) (by kernel_rfl) [] (exts:=[]) rfl rfl ?_
 have hb:=Nat.le_trans (a2x x.pi) h.2
 have hb2:=h.1
 rw[jl]
 simp only[go_sem]
 (repeat refine And.intro (by first|omega|exact ac (by kernel_rfl)) ?_)
 exact ac (by kernel_rfl)
theorem aw{α:Type} [Inhabited α]{l:List α}{i:Nat}(h:i<l.length):el l i∈l:=by
 simp only[el,List.getD_eq_getElem?_getD,List.getElem?_eq_getElem h,Option.getD_some]
 exact List.getElem_mem _
theorem ah7(a b:Int):gk a b=0↔a=b:=by
 unfold gk
 split
 ·simp;omega
 ·split
  ·simp;omega
  ·simp;omega
theorem as6(a b:Int):or2 a b=0↔a=0∧b=0:=by
 unfold or2
 split
 ·simp_all
 ·simp_all
theorem a4v(p q:Pn):ue p q=0↔p=q:=by
 cases p
 cases q
 simp only[ue,as6,ah7,fi,Pn.mk.injEq]
theorem aa8{α:Type}(f:α→α→Int)(hf: ∀x y,f x y=0↔x=y): ∀a b:List α,ot f a b=0↔a=b
 |[],[]=>by simp[ot]
 |[],_::_=>by simp[ot]
 |_::_,[]=>by simp[ot]
 |x::a,y::b=>by
  have ih:=aa8 f hf a b
  simp only[ot]
  split
  ·rename_i h
   rw[ih]
   simp[(hf x y).1 h]
  ·rename_i h
   have:x≠y:=fun e=>h ((hf x y).2 e)
   simp[h,this]
theorem uw(x y:Ct):kz x y=0↔x=y:=by
 cases x
 cases y
 simp only[kz,as6,aa8 gk ah7,aa8 ue a4v,Ct.mk.injEq]
def twK(v:List Vt)(i:Nat)(out:List Int)(k:Nat):List Int:=
 (List.range k).foldl (fun o k=>if(el v i).k=(el v k).k∧(el v i).x≠(el v k).x then anp o (el v i).k else o) out
theorem bag(v:List Vt)(i:Nat)(out:List Int):twK v i out 0=out:=rfl
def x4:List Cn→Vt→List Cn
 |[],y=>[⟨y.x,[y.k]⟩]
 |n::r,y=>if kz n.x y.x<0 then n::x4 r y else if n.x=y.x then⟨n.x,anp n.ks y.k⟩::r else⟨y.x,[y.k]⟩::n::r
def cnI(seats:List Int)(v:List Vt)(i:Nat):List Cn:=(v.take i).foldl (fun o y=>if y.k∈seats then x4 o y else o) []
def cnR(seats:List Int)(v:List Vt):List Cn:=cnI seats v v.length
theorem akm{seats:List Int}{v:List Vt}{i:Nat}(h:i<v.length):cnI seats v (i+1)=if(el v i).k∈seats then x4 (cnI seats v i) (el v i)else cnI seats v i:=by
 simp only[cnI,az h,List.foldl_append,List.foldl_cons,List.foldl_nil]
theorem alm: ∀(o:List Cn) (y:Vt),(x4 o y).length≤o.length+1
 |[],y=>by simp[x4]
 |n::r,y=>by
  have:=alm r y
  simp only[x4]
  split
  ·simp;omega
  ·split<;>simp
theorem auz{m:Nat}: ∀{o:List Cn} {y:Vt},(∀n∈o,w9 n.x∧n.ks.length≤m)→w9 y.x→∀n∈x4 o y,w9 n.x∧n.ks.length≤m+1
 |[],y,_,hy,n,hn=>by
  simp only[x4,List.mem_singleton]at hn
  subst hn
  exact⟨hy,by simp⟩
 |a::r,y,ho,hy,n,hn=>by
  have ha:=ho a (by simp)
  simp only[x4]at hn
  split at hn
  ·rcases List.mem_cons.1 hn with rfl|h
   ·exact⟨ha.1,by omega⟩
   ·exact auz (fun n hn=>ho n (by simp[hn])) hy n h
  ·split at hn
   ·rcases List.mem_cons.1 hn with rfl|h
    ·exact⟨ha.1,by have:=ajz a.ks y.k;simp only;omega⟩
    ·have:=ho n (by simp[h])
     exact⟨this.1,by omega⟩
   ·rcases List.mem_cons.1 hn with rfl|h
    ·exact⟨hy,by simp⟩
    ·have:=ho n h
     exact⟨this.1,by omega⟩
theorem ats(seats:List Int){v:List Vt}(hx: ∀y∈v,w9 y.x): ∀i,i≤v.length→(cnI seats v i).length≤i∧∀n∈cnI seats v i,w9 n.x∧n.ks.length≤i
 |0,_=>by simp[cnI]
 |i+1,h=>by
  have ih:=ats seats hx i (by omega)
  have hlt:i<v.length:=by omega
  rw[akm hlt]
  split
  ·exact⟨Nat.le_trans (alm _ _) (by omega),auz ih.2 (hx _ (aw hlt))⟩
  ·exact⟨by omega,fun n hn=>⟨(ih.2 n hn).1,by have:=(ih.2 n hn).2;omega⟩⟩
theorem jr{x:Ct}(h:w9 x):lw x:=⟨by have:=h.1;simp only[big];omega,by have:=Nat.le_trans (a2x x.pi) h.2;simp only[big];omega⟩
end Go.Proofs.Am
