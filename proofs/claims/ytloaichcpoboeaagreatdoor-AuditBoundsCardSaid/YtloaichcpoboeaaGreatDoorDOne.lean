/- DOne. -/
import Derived.Test.YtloaichcpoboeaaGreatDoorCThree
import Derived.Test.YtloaichcpoboeaaGreatDoorAmZ
import Derived.Test.YtloaichcpoboeaaGreatDoorShP
set_option maxHeartbeats 1000000
set_option maxRecDepth 100000
set_option linter.unusedSimpArgs false
set_option linter.unusedVariables false
namespace Go.Proofs.Am
open Go Go.RowKit
open Go.Proofs
theorem abc(a b:List UInt8):Den Tryz.prog 151 [.str a,.str b] [] (.int .i64 (Lib.compareBytes a b)) [] []:=by
 refine xh (enters_of Tryz.func151 (by kernel_rfl) rfl) fun w V vals hL hV hlen hval=> ?_
 obtain⟨v1,v2,rfl⟩: ∃v1 v2,vals=[v1,v2]:=by
  match vals,hlen with
  |[v1,v2],_=>exact⟨v1,v2,rfl⟩
 obtain⟨E1,h1,_⟩:=hval 0 v1 (.str a) rfl rfl;obtain⟨E2,h2,_⟩:=hval 1 v2 (.str b) rfl rfl;rw[h1.str_inv,h2.str_inv];refine(Any.strings_Compare Tryz.laysCmpStr ⟨a.toArray⟩ ⟨b.toArray⟩ w).mono ?_;rintro e w' ⟨rfl,rfl⟩;exact⟨_,rfl,Below.refl _ _,.int _ _⟩
theorem a71(p q:Pn):Den Tryz.prog 166 [.agg (pn p),.agg (pn q)] [] (.int .i64 (an7 p q)) [] []:=by
 refine aa Tryz.func166 rfl Tryz.call166 Tryz.ntmps166 Tryz.results166 (by simp) (by kernel_rfl) [] (exts:=[]) rfl rfl ?_;rw[pn,pn];simp only[go_sem];refine call (eb p.au q.au) [] ?_;simp only[go_sem];refine call (eb p.he q.he) [] ?_;simp only[go_sem];refine call (abc p.di q.di) [] ?_;simp only[go_sem];refine call (yo [gv p.au q.au,gv p.he q.he,Lib.compareBytes p.di q.di] (by simp[big])) [] ?_;simp only[go_sem];refine⟨ag (by kernel_rfl),?_⟩;simp only[orL,an7,or2]
 repeat' split
 all_goals simp_all
theorem asv(a b:List Pn)(ha:big a.length)(hb:big b.length):Den Tryz.prog 165 [.vs (a.map pn),.vs (b.map pn),.fn 166 []] [] (.int .i64 (tw an7 a b)) [] []:=by
 refine aa Tryz.func165 rfl Tryz.call165 Tryz.ntmps165 Tryz.results165 (by simp) (by kernel_rfl) [] (exts:=[]) rfl rfl ?_;have hm:=bae a.length b.length;generalize hM:min a.length b.length=M at*;simp only[Int.ofNat_lt]at hm;simp only[go_sem,hm];refine loop Tryz.mixed 0 (fun i:Nat=>[(0,.vs (a.map pn)),(1,.vs (b.map pn)),(2,.fn 166 []),(13,.int .i64 M),(14,.int .i64 i)]) (fun _=>[]) (fun i=>i<=M/\tw an7 a b=tw an7 (a.drop i) (b.drop i)) (fun i=>M - i) (by kernel_rfl) ?_ ?_ ?_
 ·exact⟨Nat.zero_le _,rfl⟩
 ·simp only[go_sem]
 ·rintro i ⟨hi,hc⟩;by_cases hlt:i<M
  ·have h1:(i:Int)<(M:Int):=by omega
   have ia:i<a.length:=by omega
   have ib:i<b.length:=by omega
   rw[ag3 an7 ia ib]at hc;simp only[go_sem,h1,ia,ib];refine call (a71 (el a i) (el b i)) [] ?_;by_cases hz:an7 (el a i) (el b i)=0
   ·rw[if_pos hz]at hc;simp only[go_sem,hz];refine⟨ag (by kernel_rfl),i+1,⟨⟨by omega,hc⟩,by omega⟩,?_⟩;rw[ae]<;>omega
   ·rw[if_neg hz]at hc;simp only[go_sem,hz];exact⟨ag (by kernel_rfl),hc.symm⟩
  ·have h1: ¬(i:Int)<(M:Int):=by omega
   rw[ao6 an7 (by omega)]at hc;simp only[go_sem,h1];refine call (eb a.length b.length) [] ?_;simp only[go_sem];exact hc.symm
theorem t6(x y:Ct)(h1:big x.li.length)(h2:big x.pi.length)(h3:big y.li.length)(h4:big y.pi.length):Den Tryz.prog 122 [.agg (ct x),.agg (ct y)] [] (.int .i64 (ot x y)) [] []:=by
 refine aa Tryz.func122 rfl Tryz.call122 Tryz.ntmps122 Tryz.results122 (by simp) (by kernel_rfl) [] (exts:=[]) rfl rfl ?_;rw[ahl,ahl];simp only[go_sem];refine call (atd x.li y.li h1 h3) [] ?_;simp only[go_sem];refine call (asv x.pi y.pi h2 h4) [] ?_;simp only[go_sem];refine call (yo [tw gv x.li y.li,tw an7 x.pi y.pi] (by simp[big])) [] ?_;simp only[go_sem];refine⟨ag (by kernel_rfl),?_⟩;simp only[orL,ot,or2]
 repeat' split
 all_goals simp_all
theorem js: ∀a b:List UInt8,Lib.compareBytes a b=0↔a=b
 |[],[]=>by simp[Lib.compareBytes]
 |[],_::_=>by simp[Lib.compareBytes]
 |_::_,[]=>by simp[Lib.compareBytes]
 |a::r,b::s=>by
  have ih:=js r s;simp only[Lib.compareBytes];by_cases h1:a<b
  ·have:a≠b:=fun e=>by subst e;exact UInt8.lt_irrefl _ h1
   simp[h1,this]
  ·by_cases h2:b<a
   ·have:a≠b:=fun e=>by subst e;exact UInt8.lt_irrefl _ h2
    simp[h1,h2,this]
   ·have:a=b:=UInt8.le_antisymm (UInt8.not_lt.1 h2) (UInt8.not_lt.1 h1);subst this;simp[h1,ih]
structure Vt where
 k:Int
 c:Cs
 x:Ct
deriving Inhabited,DecidableEq
def vt7(v:Vt):List PV:=[.int .i64 v.k,.int .i64 v.c.ep,.int .i64 v.c.kd,.int .i64 v.c.su,.int .i64 v.c.ro,.vs (v.x.li.map i1),.vs (v.x.pi.map pn)]
theorem apj(v:Vt):vt7 v=[.int .i64 v.k,.int .i64 v.c.ep,.int .i64 v.c.kd,.int .i64 v.c.su,.int .i64 v.c.ro,.vs (v.x.li.map i1),.vs (v.x.pi.map pn)]:=(rfl)
attribute [go_sem] apj
structure Cn where
 x:Ct
 ks:List Int
deriving Inhabited,DecidableEq
def cn3(n:Cn):List PV:=[.vs (n.x.li.map i1),.vs (n.x.pi.map pn),.vs (n.ks.map i1)]
theorem bgy(n:Cn):cn3 n=[.vs (n.x.li.map i1),.vs (n.x.pi.map pn),.vs (n.ks.map i1)]:=(rfl)
attribute [go_sem] bgy
def aac(x:Ct):Prop:=big x.li.length/\big x.pi.length
def at6:List Int->Int->List Int
 |[],n=>[n]
 |a::l,n=>if a<n then a::at6 l n else if a=n then a::l else n::a::l
theorem ara: ∀(l:List Int) (n:Int),(at6 l n).length<=l.length+1
 |[],n=>by simp[at6]
 |a::l,n=>by
  have:=ara l n;simp only[at6];split
  ·simp;omega
  ·split<;>simp
theorem a99(l:List Pn):l.length<=(l.flatMap pnB).length:=by
 induction l with
 |nil=>simp
 |cons p l ih=>
  simp only[List.flatMap_cons,List.length_append,List.length_cons,pnB,az];omega
theorem aje(x:Ct)(h:ajv x):Den Tryz.prog 143 [.agg (ct x)] [] (.agg (ct x)) [] []:=by
 refine aa Tryz.func143 rfl Tryz.call143 Tryz.ntmps143 Tryz.results143 (by simp) (by kernel_rfl) [] (exts:=[]) rfl rfl ?_;have hb:=Nat.le_trans (a99 x.pi) h.2;have hb2:=h.1;rw[ahl];simp only[go_sem]
 (repeat refine And.intro (by first|omega|exact ag (by kernel_rfl)) ?_)
 exact ag (by kernel_rfl)
theorem cj{α:Type} [Inhabited α]{l:List α}{i:Nat}(h:i<l.length):el l i∈l:=by
 simp only[el,aw,a8 h,Option.getD_some];exact List.getElem_mem _
theorem ami(a b:Int):gv a b=0↔a=b:=by
 unfold gv;split
 ·simp;omega
 ·split
  ·simp;omega
  ·simp;omega
theorem ay7(a b:Int):or2 a b=0↔a=0/\b=0:=by
 unfold or2;split
 ·simp_all
 ·simp_all
theorem bce(p q:Pn):an7 p q=0↔p=q:=by
 cases p
 cases q
 simp only[an7,ay7,ami,js,Pn.mk.injEq]
theorem afa{α:Type}(f:α->α->Int)(hf: ∀x y,f x y=0↔x=y): ∀a b:List α,tw f a b=0↔a=b
 |[],[]=>by simp[tw]
 |[],_::_=>by simp[tw]
 |_::_,[]=>by simp[tw]
 |x::a,y::b=>by
  have ih:=afa f hf a b;simp only[tw];split
  ·rename_i h;rw[ih];simp[(hf x y).1 h]
  ·rename_i h;have:x≠y:=fun e=>h ((hf x y).2 e);simp[h,this]
theorem ae5(x y:Ct):ot x y=0↔x=y:=by
 cases x
 cases y
 simp only[ot,ay7,afa gv ami,afa an7 bce,Ct.mk.injEq]
def twK(v:List Vt)(i:Nat)(out:List Int)(k:Nat):List Int:=
 (List.range k).foldl (fun o k=>if(el v i).k=(el v k).k/\(el v i).x≠(el v k).x then at6 o (el v i).k else o) out
theorem bi6(v:List Vt)(i:Nat)(out:List Int):twK v i out 0=out:=rfl
def aal:List Cn->Vt->List Cn
 |[],y=>[⟨y.x,[y.k]⟩]
 |n::r,y=>if ot n.x y.x<0 then n::aal r y else if n.x=y.x then⟨n.x,at6 n.ks y.k⟩::r else⟨y.x,[y.k]⟩::n::r
def cnI(seats:List Int)(v:List Vt)(i:Nat):List Cn:=(v.take i).foldl (fun o y=>if y.k∈seats then aal o y else o) []
def cnR(seats:List Int)(v:List Vt):List Cn:=cnI seats v v.length
theorem anx{seats:List Int}{v:List Vt}{i:Nat}(h:i<v.length):cnI seats v (i+1)=if(el v i).k∈seats then aal (cnI seats v i) (el v i)else cnI seats v i:=by
 simp only[cnI,cu h,List.foldl_append,List.foldl_cons,List.foldl_nil]
theorem ao0: ∀(o:List Cn) (y:Vt),(aal o y).length<=o.length+1
 |[],y=>by simp[aal]
 |n::r,y=>by
  have:=ao0 r y;simp only[aal];split
  ·simp;omega
  ·split<;>simp
theorem av1{m:Nat}: ∀{o:List Cn} {y:Vt},(∀n∈o,ajv n.x/\n.ks.length<=m)->ajv y.x->∀n∈aal o y,ajv n.x/\n.ks.length<=m+1
 |[],y,_,hy,n,hn=>by
  simp only[aal,List.mem_singleton]at hn;subst hn
  exact⟨hy,by simp⟩
 |a::r,y,ho,hy,n,hn=>by
  have ha:=ho a (by simp);simp only[aal]at hn;split at hn
  ·rcases List.mem_cons.1 hn with rfl|h
   ·exact⟨ha.1,by omega⟩
   ·exact av1 (fun n hn=>ho n (by simp[hn])) hy n h
  ·split at hn
   ·rcases List.mem_cons.1 hn with rfl|h
    ·exact⟨ha.1,by have:=ara a.ks y.k;simp only;omega⟩
    ·have:=ho n (by simp[h]);exact⟨this.1,by omega⟩
   ·rcases List.mem_cons.1 hn with rfl|h
    ·exact⟨hy,by simp⟩
    ·have:=ho n h;exact⟨this.1,by omega⟩
theorem a1y(seats:List Int){v:List Vt}(hx: ∀y∈v,ajv y.x): ∀i,i<=v.length->(cnI seats v i).length<=i/\∀n∈cnI seats v i,ajv n.x/\n.ks.length<=i
 |0,_=>by simp[cnI]
 |i+1,h=>by
  have ih:=a1y seats hx i (by omega);have hlt:i<v.length:=by omega
  rw[anx hlt];split
  ·exact⟨Nat.le_trans (ao0 _ _) (by omega),av1 ih.2 (hx _ (cj hlt))⟩
  ·exact⟨by omega,fun n hn=>⟨(ih.2 n hn).1,by have:=(ih.2 n hn).2;omega⟩⟩
theorem om{x:Ct}(h:ajv x):aac x:=⟨by have:=h.1;simp only[big];omega,by have:=Nat.le_trans (a99 x.pi) h.2;simp only[big];omega⟩
end Go.Proofs.Am
