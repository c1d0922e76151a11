/- DOne. -/
import Derived.Test.YtloaichcpoboeaaGreatDoorCThree
import Derived.Test.YtloaichcpoboeaaGreatDoorAmZ
import Derived.Test.YtloaichcpoboeaaGreatDoorShP
set_option maxHeartbeats 1000000
set_option maxRecDepth 100000
set_option linter.unusedSimpArgs false
set_option linter.unusedVariables false
namespace Go.Proofs.Am
open Go Go.RowKit
open Go.Proofs
theorem z6(a b:List UInt8):Den Tryz.prog 151 [.str a,.str b] [] (.int .i64 (Lib.compareBytes a b)) [] []:=by
 refine vu (enters_of Tryz.func151 (by kernel_rfl) rfl) fun w V vals hL hV hlen hval=> ?_
 obtain⟨v1,v2,rfl⟩: ∃v1 v2,vals=[v1,v2]:=by
  match vals,hlen with
  |[v1,v2],_=>exact⟨v1,v2,rfl⟩
 obtain⟨E1,h1,_⟩:=hval 0 v1 (.str a) rfl rfl
 obtain⟨E2,h2,_⟩:=hval 1 v2 (.str b) rfl rfl
 rw[h1.str_inv,h2.str_inv]
 refine(Any.strings_Compare Tryz.laysCmpStr ⟨a.toArray⟩ ⟨b.toArray⟩ w).mono ?_
 rintro e w' ⟨rfl,rfl⟩
 exact⟨_,rfl,Below.refl _ _,.int _ _⟩
theorem a09(p q:Pn):Den Tryz.prog 166 [.agg (pn p),.agg (pn q)] [] (.int .i64 (alf p q)) [] []:=by
 refine aa Tryz.mixed Tryz.func166 rfl Tryz.call166 Tryz.ntmps166 (congrArg Array.toList Tryz.results166) (by simp) (by kernel_rfl) [] (exts:=[]) rfl rfl ?_
 rw[pn,pn]
 simp only[go_sem]
 refine call (dp p.au q.au) [] ?_
 simp only[go_sem]
 refine call (dp p.he q.he) [] ?_
 simp only[go_sem]
 refine call (z6 p.di q.di) [] ?_
 simp only[go_sem]
 refine call (uo [fq p.au q.au,fq p.he q.he,Lib.compareBytes p.di q.di] (by simp[big])) [] ?_
 simp only[go_sem]
 refine⟨ag (by kernel_rfl),?_⟩
 simp only[orL,alf,or2]
 repeat' split
 all_goals simp_all
theorem anp(a b:List Pn)(ha:big a.length)(hb:big b.length):Den Tryz.prog 165 [.vs (a.map pn),.vs (b.map pn),.fn 166 []] [] (.int .i64 (qe alf a b)) [] []:=by
 refine aa Tryz.mixed Tryz.func165 rfl Tryz.call165 Tryz.ntmps165 (congrArg Array.toList Tryz.results165) (by simp) (by kernel_rfl) [] (exts:=[]) rfl rfl ?_
 have hm:=a3i a.length b.length
 generalize hM:min a.length b.length=M at*
 simp only[Int.ofNat_lt]at hm
 simp only[go_sem,hm]
 refine loop Tryz.mixed 0 (fun i:Nat=>[(0,.vs (a.map pn)),(1,.vs (b.map pn)),(2,.fn 166 []),(13,.int .i64 M),(14,.int .i64 i)]) (fun _=>[]) (fun i=>i≤M∧qe alf a b=qe alf (a.drop i) (b.drop i)) (fun i=>M - i) (by kernel_rfl) ?_ ?_ ?_
 ·exact⟨Nat.zero_le _,rfl⟩
 ·simp only[go_sem]
 ·rintro i ⟨hi,hc⟩
  by_cases hlt:i<M
  ·have h1:(i:Int)<(M:Int):=by omega
   have ia:i<a.length:=by omega
   have ib:i<b.length:=by omega
   rw[agb alf ia ib]at hc
   simp only[go_sem,h1,ia,ib]
   refine call (a09 (el a i) (el b i)) [] ?_
   by_cases hz:alf (el a i) (el b i)=0
   ·rw[if_pos hz]at hc
    simp only[go_sem,hz]
    refine⟨ag (by kernel_rfl),i+1,⟨⟨by omega,hc⟩,by omega⟩,?_⟩
    rw[ae]<;>omega
   ·rw[if_neg hz]at hc
    simp only[go_sem,hz]
    exact⟨ag (by kernel_rfl),hc.symm⟩
  ·have h1: ¬(i:Int)<(M:Int):=by omega
   rw[aln alf (by omega)]at hc
   simp only[go_sem,h1]
   refine call (dp a.length b.length) [] ?_
   simp only[go_sem]
   exact hc.symm
theorem qn(x y:Ct)(h1:big x.li.length)(h2:big x.pi.length)(h3:big y.li.length)(h4:big y.pi.length):Den Tryz.prog 122 [.agg (ct x),.agg (ct y)] [] (.int .i64 (m8 x y)) [] []:=by
 refine aa Tryz.mixed Tryz.func122 rfl Tryz.call122 Tryz.ntmps122 (congrArg Array.toList Tryz.results122) (by simp) (by kernel_rfl) [] (exts:=[]) rfl rfl ?_
 rw[ac6,ac6]
 simp only[go_sem]
 refine call (ap9 x.li y.li h1 h3) [] ?_
 simp only[go_sem]
 refine call (anp x.pi y.pi h2 h4) [] ?_
 simp only[go_sem]
 refine call (uo [qe fq x.li y.li,qe alf x.pi y.pi] (by simp[big])) [] ?_
 simp only[go_sem]
 refine⟨ag (by kernel_rfl),?_⟩
 simp only[orL,m8,or2]
 repeat' split
 all_goals simp_all
theorem iy: ∀a b:List UInt8,Lib.compareBytes a b=0↔a=b
 |[],[]=>by simp[Lib.compareBytes]
 |[],_::_=>by simp[Lib.compareBytes]
 |_::_,[]=>by simp[Lib.compareBytes]
 |a::r,b::s=>by
  have ih:=iy r s
  simp only[Lib.compareBytes]
  by_cases h1:a<b
  ·have:a≠b:=fun e=>by subst e;exact UInt8.lt_irrefl _ h1
   simp[h1,this]
  ·by_cases h2:b<a
   ·have:a≠b:=fun e=>by subst e;exact UInt8.lt_irrefl _ h2
    simp[h1,h2,this]
   ·have:a=b:=UInt8.le_antisymm (UInt8.not_lt.1 h2) (UInt8.not_lt.1 h1)
    subst this
    simp[h1,ih]
structure Vt where
 k:Int
 c:Cs
 x:Ct
deriving Inhabited,DecidableEq
def vt7(v:Vt):List PV:=[.int .i64 v.k,.int .i64 v.c.ep,.int .i64 v.c.kd,.int .i64 v.c.su,.int .i64 v.c.ro,.vs (v.x.li.map i1),.vs (v.x.pi.map pn)]
theorem alj(v:Vt):vt7 v=[.int .i64 v.k,.int .i64 v.c.ep,.int .i64 v.c.kd,.int .i64 v.c.su,.int .i64 v.c.ro,.vs (v.x.li.map i1),.vs (v.x.pi.map pn)]:=(rfl)
attribute [go_sem] alj
structure Cn where
 x:Ct
 ks:List Int
deriving Inhabited,DecidableEq
def cn3(n:Cn):List PV:=[.vs (n.x.li.map i1),.vs (n.x.pi.map pn),.vs (n.ks.map i1)]
theorem ba2(n:Cn):cn3 n=[.vs (n.x.li.map i1),.vs (n.x.pi.map pn),.vs (n.ks.map i1)]:=(rfl)
attribute [go_sem] ba2
def xg(x:Ct):Prop:=big x.li.length∧big x.pi.length
def ao3:List Int→Int→List Int
 |[],n=>[n]
 |a::l,n=>if a<n then a::ao3 l n else if a=n then a::l else n::a::l
theorem aj6: ∀(l:List Int) (n:Int),(ao3 l n).length≤l.length+1
 |[],n=>by simp[ao3]
 |a::l,n=>by
  have:=aj6 l n
  simp only[ao3]
  split
  ·simp;omega
  ·split<;>simp
theorem a3q(l:List Pn):l.length≤(l.flatMap pnB).length:=by
 induction l with
 |nil=>simp
 |cons p l ih=>
  simp only[List.flatMap_cons,List.length_append,List.length_cons,pnB,aq]
  omega
theorem afu(x:Ct)(h:afo x):Den Tryz.prog 143 [.agg (ct x)] [] (.agg (ct x)) [] []:=by
 refine aa Tryz.mixed Tryz.func143 rfl Tryz.call143 Tryz.ntmps143 (congrArg Array.toList Tryz.results143) (by simp) (by kernel_rfl) [] (exts:=[]) rfl rfl ?_
 have hb:=Nat.le_trans (a3q x.pi) h.2
 have hb2:=h.1
 rw[ac6]
 simp only[go_sem]
 (repeat refine And.intro (by first|omega|exact ag (by kernel_rfl)) ?_)
 exact ag (by kernel_rfl)
theorem bh{α:Type} [Inhabited α]{l:List α}{i:Nat}(h:i<l.length):el l i∈l:=by
 simp only[el,List.getD_eq_getElem?_getD,List.getElem?_eq_getElem h,Option.getD_some]
 exact List.getElem_mem _
theorem ajd(a b:Int):fq a b=0↔a=b:=by
 unfold fq
 split
 ·simp;omega
 ·split
  ·simp;omega
  ·simp;omega
theorem arz(a b:Int):or2 a b=0↔a=0∧b=0:=by
 unfold or2
 split
 ·simp_all
 ·simp_all
theorem a7t(p q:Pn):alf p q=0↔p=q:=by
 cases p
 cases q
 simp only[alf,arz,ajd,iy,Pn.mk.injEq]
theorem aaj{α:Type}(f:α→α→Int)(hf: ∀x y,f x y=0↔x=y): ∀a b:List α,qe f a b=0↔a=b
 |[],[]=>by simp[qe]
 |[],_::_=>by simp[qe]
 |_::_,[]=>by simp[qe]
 |x::a,y::b=>by
  have ih:=aaj f hf a b
  simp only[qe]
  split
  ·rename_i h
   rw[ih]
   simp[(hf x y).1 h]
  ·rename_i h
   have:x≠y:=fun e=>h ((hf x y).2 e)
   simp[h,this]
theorem acx(x y:Ct):m8 x y=0↔x=y:=by
 cases x
 cases y
 simp only[m8,arz,aaj fq ajd,aaj alf a7t,Ct.mk.injEq]
def twK(v:List Vt)(i:Nat)(out:List Int)(k:Nat):List Int:=
 (List.range k).foldl (fun o k=>if(el v i).k=(el v k).k∧(el v i).x≠(el v k).x then ao3 o (el v i).k else o) out
theorem bb3(v:List Vt)(i:Nat)(out:List Int):twK v i out 0=out:=rfl
def xr:List Cn→Vt→List Cn
 |[],y=>[⟨y.x,[y.k]⟩]
 |n::r,y=>if m8 n.x y.x<0 then n::xr r y else if n.x=y.x then⟨n.x,ao3 n.ks y.k⟩::r else⟨y.x,[y.k]⟩::n::r
def cnI(seats:List Int)(v:List Vt)(i:Nat):List Cn:=(v.take i).foldl (fun o y=>if y.k∈seats then xr o y else o) []
def cnR(seats:List Int)(v:List Vt):List Cn:=cnI seats v v.length
theorem al7{seats:List Int}{v:List Vt}{i:Nat}(h:i<v.length):cnI seats v (i+1)=if(el v i).k∈seats then xr (cnI seats v i) (el v i)else cnI seats v i:=by
 simp only[cnI,bm h,List.foldl_append,List.foldl_cons,List.foldl_nil]
theorem amd: ∀(o:List Cn) (y:Vt),(xr o y).length≤o.length+1
 |[],y=>by simp[xr]
 |n::r,y=>by
  have:=amd r y
  simp only[xr]
  split
  ·simp;omega
  ·split<;>simp
theorem at5{m:Nat}: ∀{o:List Cn} {y:Vt},(∀n∈o,afo n.x∧n.ks.length≤m)→afo y.x→∀n∈xr o y,afo n.x∧n.ks.length≤m+1
 |[],y,_,hy,n,hn=>by
  simp only[xr,List.mem_singleton]at hn
  subst hn
  exact⟨hy,by simp⟩
 |a::r,y,ho,hy,n,hn=>by
  have ha:=ho a (by simp)
  simp only[xr]at hn
  split at hn
  ·rcases List.mem_cons.1 hn with rfl|h
   ·exact⟨ha.1,by omega⟩
   ·exact at5 (fun n hn=>ho n (by simp[hn])) hy n h
  ·split at hn
   ·rcases List.mem_cons.1 hn with rfl|h
    ·exact⟨ha.1,by have:=aj6 a.ks y.k;simp only;omega⟩
    ·have:=ho n (by simp[h])
     exact⟨this.1,by omega⟩
   ·rcases List.mem_cons.1 hn with rfl|h
    ·exact⟨hy,by simp⟩
    ·have:=ho n h
     exact⟨this.1,by omega⟩
theorem aq0(seats:List Int){v:List Vt}(hx: ∀y∈v,afo y.x): ∀i,i≤v.length→(cnI seats v i).length≤i∧∀n∈cnI seats v i,afo n.x∧n.ks.length≤i
 |0,_=>by simp[cnI]
 |i+1,h=>by
  have ih:=aq0 seats hx i (by omega)
  have hlt:i<v.length:=by omega
  rw[al7 hlt]
  split
  ·exact⟨Nat.le_trans (amd _ _) (by omega),at5 ih.2 (hx _ (bh hlt))⟩
  ·exact⟨by omega,fun n hn=>⟨(ih.2 n hn).1,by have:=(ih.2 n hn).2;omega⟩⟩
theorem mq{x:Ct}(h:afo x):xg x:=⟨by have:=h.1;simp only[big];omega,by have:=Nat.le_trans (a3q x.pi) h.2;simp only[big];omega⟩
end Go.Proofs.Am
