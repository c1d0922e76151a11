/- DOne. -/
import Derived.Test.YthidogjdclkoeaaGreatDoorCThree
import Derived.Test.YthidogjdclkoeaaGreatDoorAmZ
import Derived.Test.YthidogjdclkoeaaGreatDoorShP
set_option maxHeartbeats 1000000
set_option maxRecDepth 100000
set_option linter.unusedSimpArgs false
set_option linter.unusedVariables false
namespace Go.Proofs.Am
open Go Go.RowKit
open Go.Proofs
theorem ane(a b:List UInt8):Den Tryz.prog 131 [.str a,.str b] [] (.int .i64 (Lib.compareBytes a b)) [] []:=by
 refine wx (enters_of Tryz.func131 (by kernel_rfl) rfl) fun w V vals hL hV hlen hval=> ?_
 obtain⟨v1,v2,rfl⟩: ∃v1 v2,vals=[v1,v2]:=by
  match vals,hlen with
  |[v1,v2],_=>exact⟨v1,v2,rfl⟩
 obtain⟨E1,h1,_⟩:=hval 0 v1 (.str a) rfl rfl;obtain⟨E2,h2,_⟩:=hval 1 v2 (.str b) rfl rfl;rw[h1.str_inv,h2.str_inv];refine(Any.strings_Compare Tryz.laysCmpStr ⟨a.toArray⟩ ⟨b.toArray⟩ w).mono ?_;rintro e w' ⟨rfl,rfl⟩;exact⟨_,rfl,Below.refl _ _,.int _ _⟩
theorem ayd(p q:Pn):Den Tryz.prog 107 [.agg (pn p),.agg (pn q)] [] (.int .i64 (u9 p q)) [] []:=by
 refine aa Tryz.func107 rfl Tryz.call107 Tryz.ntmps107 Tryz.results107 (by simp) (by kernel_rfl) [] (exts:=[]) rfl rfl ?_;rw[pn,pn];simp only[go_sem];refine call (ng p.au q.au) [] ?_;simp only[go_sem];refine call (ng p.he q.he) [] ?_;simp only[go_sem];refine call (ane p.di q.di) [] ?_;simp only[go_sem];refine call (ap4 [jv p.au q.au,jv p.he q.he,Lib.compareBytes p.di q.di] (by simp[big])) [] ?_;simp only[go_sem];refine⟨ae (by kernel_rfl),?_⟩;simp only[orL,u9,or2]
 repeat' split
 all_goals simp_all
theorem alj(a b:List Pn)(ha:big a.length)(hb:big b.length):Den Tryz.prog 106 [.vs (a.map pn),.vs (b.map pn),.fn 107 []] [] (.int .i64 (n4 u9 a b)) [] []:=by
 refine aa Tryz.func106 rfl Tryz.call106 Tryz.ntmps106 Tryz.results106 (by simp) (by kernel_rfl) [] (exts:=[]) rfl rfl ?_;have hm:=azp a.length b.length;generalize hM:min a.length b.length=M at*;simp only[Int.ofNat_lt]at hm;simp only[go_sem,hm];refine loop Tryz.mixed 0 (fun i:Nat=>[(0,.vs (a.map pn)),(1,.vs (b.map pn)),(2,.fn 107 []),(13,.int .i64 M),(14,.int .i64 i)]) (fun _=>[]) (fun i=>i<=M/\n4 u9 a b=n4 u9 (a.drop i) (b.drop i)) (fun i=>M - i) (by kernel_rfl) ?_ ?_ ?_
 ·exact⟨Nat.zero_le _,rfl⟩
 ·simp only[go_sem]
 ·rintro i ⟨hi,hc⟩;by_cases hlt:i<M
  ·have h1:(i:Int)<(M:Int):=by omega
   have ia:i<a.length:=by omega
   have ib:i<b.length:=by omega
   rw[qh u9 ia ib]at hc;simp only[go_sem,h1,ia,ib];refine call (ayd (el a i) (el b i)) [] ?_;by_cases hz:u9 (el a i) (el b i)=0
   ·rw[if_pos hz]at hc;simp only[go_sem,hz];refine⟨ae (by kernel_rfl),i+1,⟨⟨by omega,hc⟩,by omega⟩,?_⟩;rw[ai]<;>omega
   ·rw[if_neg hz]at hc;simp only[go_sem,hz];exact⟨ae (by kernel_rfl),hc.symm⟩
  ·have h1: ¬(i:Int)<(M:Int):=by omega
   rw[u3 u9 (by omega)]at hc;simp only[go_sem,h1];refine call (ng a.length b.length) [] ?_;simp only[go_sem];exact hc.symm
theorem sa(x y:Ct)(h1:big x.li.length)(h2:big x.pi.length)(h3:big y.li.length)(h4:big y.pi.length):Den Tryz.prog 77 [.agg (ct x),.agg (ct y)] [] (.int .i64 (j2 x y)) [] []:=by
 refine aa Tryz.func77 rfl Tryz.call77 Tryz.ntmps77 Tryz.results77 (by simp) (by kernel_rfl) [] (exts:=[]) rfl rfl ?_;rw[il,il];simp only[go_sem];refine call (alz x.li y.li h1 h3) [] ?_;simp only[go_sem];refine call (alj x.pi y.pi h2 h4) [] ?_;simp only[go_sem];refine call (ap4 [n4 jv x.li y.li,n4 u9 x.pi y.pi] (by simp[big])) [] ?_;simp only[go_sem];refine⟨ae (by kernel_rfl),?_⟩;simp only[orL,j2,or2]
 repeat' split
 all_goals simp_all
theorem pd: ∀a b:List UInt8,Op.bytesLess a b=decide (Lib.compareBytes a b<0)
 |[],[]=>by simp[Op.bytesLess,Lib.compareBytes]
 |[],_::_=>by simp[Op.bytesLess,Lib.compareBytes]
 |_::_,[]=>by simp[Op.bytesLess,Lib.compareBytes]
 |a::r,b::s=>by
  have ih:=pd r s;simp only[Op.bytesLess,Lib.compareBytes];by_cases h1:a<b
  ·simp[h1]
  ·by_cases h2:b<a
   ·have:a≠b:=fun e=>by subst e;exact h1 h2
    simp[h1,h2,this]
   ·have:a=b:=UInt8.le_antisymm (UInt8.not_lt.1 h2) (UInt8.not_lt.1 h1);subst this;simp[h1,ih]
theorem er: ∀a b:List UInt8,Lib.compareBytes a b=0↔a=b
 |[],[]=>by simp[Lib.compareBytes]
 |[],_::_=>by simp[Lib.compareBytes]
 |_::_,[]=>by simp[Lib.compareBytes]
 |a::r,b::s=>by
  have ih:=er r s;simp only[Lib.compareBytes];by_cases h1:a<b
  ·have:a≠b:=fun e=>by subst e;exact UInt8.lt_irrefl _ h1
   simp[h1,this]
  ·by_cases h2:b<a
   ·have:a≠b:=fun e=>by subst e;exact UInt8.lt_irrefl _ h2
    simp[h1,h2,this]
   ·have:a=b:=UInt8.le_antisymm (UInt8.not_lt.1 h2) (UInt8.not_lt.1 h1);subst this;simp[h1,ih]
theorem gv: ∀a b:List UInt8,Lib.compareBytes a b= -1\/Lib.compareBytes a b=0\/Lib.compareBytes a b=1
 |[],[]=>by simp[Lib.compareBytes]
 |[],_::_=>by simp[Lib.compareBytes]
 |_::_,[]=>by simp[Lib.compareBytes]
 |a::r,b::s=>by
  have ih:=gv r s;simp only[Lib.compareBytes];split
  ·simp
  ·split
   ·simp
   ·exact ih
theorem gp(x y:Ct)(b1:big x.li.length)(b2:big x.pi.length)(b3:big y.li.length)(b4:big y.pi.length):Den Tryz.prog 38 [.agg (ct x),.agg (ct y)] [] (.int .i64 (j2 x y)) [] []:=by
 refine aa Tryz.func38 rfl Tryz.call38 Tryz.ntmps38 Tryz.results38 (by simp) (by kernel_rfl) [] (exts:=[]) rfl rfl ?_;rw[il,il];obtain⟨a,p⟩:=x;obtain⟨b,q⟩:=y;simp only[j2];change big a.length at b1;change big p.length at b2;change big b.length at b3;change big q.length at b4;simp only[go_sem];refine loop Tryz.mixed 0 (fun i:Nat=>[(2,.ptr 2 0),(3,.ptr 3 0),(4,.int .i64 0),(5,.int .i64 i)]) (fun _=>[(2,.cells [.vs (a.map i1),.vs (p.map pn)]),(3,.cells [.vs (b.map i1),.vs (q.map pn)])]) (fun i=>(i<=a.length/\i<=b.length)/\n4 jv a b=n4 jv (a.drop i) (b.drop i)) (fun i=>a.length - i) (by kernel_rfl) ?_ ?_ ?_
 ·exact⟨⟨Nat.zero_le _,Nat.zero_le _⟩,rfl⟩
 ·simp only[go_sem]
 ·rintro i ⟨⟨hia,hib⟩,hc⟩;by_cases hlt:i<a.length/\i<b.length
  ·obtain⟨l1,l2⟩:=hlt;have h1:(i:Int)<(a.length:Int):=by omega
   have h2:(i:Int)<(b.length:Int):=by omega
   rw[qh jv l1 l2]at hc;simp only[go_sem,h1,h2,l1,l2];refine call (mn (el a i) (el b i)) [] ?_;by_cases hz:jv (el a i) (el b i)=0
   ·rw[if_pos hz]at hc;simp only[go_sem,hz];refine⟨ae (by kernel_rfl),i+1,⟨⟨⟨by omega,by omega⟩,hc⟩,by omega⟩,?_⟩;rw[ai]<;>omega
   ·rw[if_neg hz]at hc;simp only[go_sem,hz];refine⟨ae (by kernel_rfl),?_⟩;rw[hc,or2,if_neg hz]
  ·rw[u3 jv (by omega)]at hc;have hcase:(i<a.length/\¬i<b.length)\/¬i<a.length:=by omega
   rcases hcase with ⟨l1,l2⟩|l1
   case' inl=>
    have h1:(i:Int)<(a.length:Int):=by omega
    have h2: ¬(i:Int)<(b.length:Int):=by omega
    simp only[go_sem,h1,h2]
   case' inr=>
    have h1: ¬(i:Int)<(a.length:Int):=by omega
    simp only[go_sem,h1]
   all_goals
    refine call (mn a.length b.length) [] ?_;by_cases hz:jv a.length b.length=0
    rotate_left
    ·simp only[go_sem,hz];rw[hc,or2,if_neg hz]
    rw[hz]at hc;simp only[go_sem,hz];refine loop Tryz.mixed 0 (fun i:Nat=>[(2,.ptr 2 0),(3,.ptr 3 0),(4,.int .i64 0),(8,.int .i64 i)]) (fun _=>[(2,.cells [.vs (a.map i1),.vs (p.map pn)]),(3,.cells [.vs (b.map i1),.vs (q.map pn)])]) (fun i=>(i<=p.length/\i<=q.length)/\n4 u9 p q=n4 u9 (p.drop i) (q.drop i)) (fun i=>p.length - i) (by kernel_rfl) ?_ ?_ ?_
    ·exact⟨⟨Nat.zero_le _,Nat.zero_le _⟩,rfl⟩
    ·simp only[go_sem]
    rintro j ⟨⟨hjp,hjq⟩,hd⟩;by_cases hlt:j<p.length/\j<q.length
    ·obtain⟨l1,l2⟩:=hlt;have h1:(j:Int)<(p.length:Int):=by omega
     have h2:(j:Int)<(q.length:Int):=by omega
     rw[qh u9 l1 l2]at hd;generalize hu:el p j=u at hd;generalize hv:el q j=v at hd;simp only[go_sem,h1,h2,l1,l2,hu,hv,pn];refine⟨ae (by kernel_rfl),?_⟩;refine call (mn u.au v.au) [] ?_;by_cases z1:jv u.au v.au=0
     rotate_left
     ·have e1:u9 u v=jv u.au v.au:=by simp[u9,or2,z1]
      rw[e1,if_neg z1]at hd;simp only[go_sem,z1];rw[hc,or2,if_pos rfl];exact hd.symm
     simp only[go_sem,z1];refine call (mn u.he v.he) [] ?_;by_cases z2:jv u.he v.he=0
     rotate_left
     ·have e1:u9 u v=jv u.he v.he:=by simp[u9,or2,z1,z2]
      rw[e1,if_neg z2]at hd;simp only[go_sem,z2];rw[hc,or2,if_pos rfl];exact hd.symm
     have e1:u9 u v=Lib.compareBytes u.di v.di:=by simp[u9,or2,z1,z2]
     rw[e1]at hd;by_cases z3:u.di=v.di
     ·have z4:=(er u.di v.di).2 z3;rw[if_pos z4]at hd;simp only[go_sem,z2,z3];refine⟨j+1,⟨⟨⟨by omega,by omega⟩,hd⟩,by omega⟩,?_⟩;rw[ai]<;>omega
     ·have z4:Lib.compareBytes u.di v.di≠0:=fun e=>z3 ((er u.di v.di).1 e);rw[if_neg z4]at hd;have z5:=pd u.di v.di;by_cases z6:Lib.compareBytes u.di v.di<0
      ·have z7:Lib.compareBytes u.di v.di= -1:=by rcases gv u.di v.di with h|h|h<;>omega
       simp only[z6,decide_true]at z5;simp only[go_sem,z2,z3,z5];rw[hc,or2,if_pos rfl,hd,z7]
      ·have z7:Lib.compareBytes u.di v.di=1:=by rcases gv u.di v.di with h|h|h<;>omega
       simp only[z6,decide_false]at z5;simp only[go_sem,z2,z3,z5];rw[hc,or2,if_pos rfl,hd,z7]
    ·rw[u3 u9 (by omega)]at hd;have hcase:(j<p.length/\¬j<q.length)\/¬j<p.length:=by omega
     rcases hcase with ⟨l1,l2⟩|l1
     case' inl=>
      have h1:(j:Int)<(p.length:Int):=by omega
      have h2: ¬(j:Int)<(q.length:Int):=by omega
      simp only[go_sem,h1,h2]
     case' inr=>
      have h1: ¬(j:Int)<(p.length:Int):=by omega
      simp only[go_sem,h1]
     all_goals
      refine call (mn p.length q.length) [] ?_;simp only[go_sem];rw[hc,or2,if_pos rfl];exact hd.symm
structure Vt where
 k:Int
 c:Cs
 x:Ct
deriving Inhabited,DecidableEq
def vt7(v:Vt):List PV:=[.int .i64 v.k,.int .i64 v.c.ep,.int .i64 v.c.kd,.int .i64 v.c.su,.int .i64 v.c.ro,.vs (v.x.li.map i1),.vs (v.x.pi.map pn)]
theorem a40(v:Vt):vt7 v=[.int .i64 v.k,.int .i64 v.c.ep,.int .i64 v.c.kd,.int .i64 v.c.su,.int .i64 v.c.ro,.vs (v.x.li.map i1),.vs (v.x.pi.map pn)]:=(rfl)
attribute [go_sem] a40
structure Cn where
 x:Ct
 ks:List Int
deriving Inhabited,DecidableEq
def cn3(n:Cn):List PV:=[.vs (n.x.li.map i1),.vs (n.x.pi.map pn),.vs (n.ks.map i1)]
theorem azz(n:Cn):cn3 n=[.vs (n.x.li.map i1),.vs (n.x.pi.map pn),.vs (n.ks.map i1)]:=(rfl)
attribute [go_sem] azz
def re(x:Ct):Prop:=big x.li.length/\big x.pi.length
def yd:List Int->Int->List Int
 |[],n=>[n]
 |a::l,n=>if a<n then a::yd l n else if a=n then a::l else n::a::l
theorem ard: ∀(l:List Int) (n:Int) (k:Nat),k<=l.length->(∀j,j<k->el l j<n)->(k<l.length->¬el l k<n)->
  yd l n=if k<l.length/\el l k=n then l else l.take k++(n::l.drop k)
 |[],n,k,hk,_,_=>by
  have:k=0:=by simpa using hk
  subst this
  simp[yd]
 |a::l,n,0,_,_,h2=>by
  have h:=h2 (by simp);have e0:el (a::l) 0=a:=rfl;rw[e0]at h ⊢;simp only[yd,if_neg h];by_cases he:a=n
  ·simp[he]
  ·simp[he]
 |a::l,n,k+1,hk,h1,h2=>by
  have h0:a<n:=h1 0 (by omega);have ih:=ard l n k (by simpa using hk) (fun j hj=>h1 (j+1) (by omega)) (fun hl=>h2 (by simpa using hl));simp only[yd,if_pos h0,ih];have e1:el (a::l) (k+1)=el l k:=rfl;rw[e1];by_cases hc:k<l.length/\el l k=n
  ·rw[if_pos hc,if_pos ⟨by simp;exact hc.1,hc.2⟩]
  ·rw[if_neg hc,if_neg (fun h=>hc ⟨by simpa using h.1,h.2⟩)];simp
theorem ak0: ∀(l:List Int) (n:Int),(yd l n).length<=l.length+1
 |[],n=>by simp[yd]
 |a::l,n=>by
  have:=ak0 l n;simp only[yd];split
  ·simp;omega
  ·split<;>simp
theorem ata(l:List Pn):l.length<=(l.flatMap pnB).length:=by
 induction l with
 |nil=>simp
 |cons p l ih=>
  simp only[List.flatMap_cons,List.length_append,List.length_cons,pnB,aw];omega
theorem wu(l:List Int)(n:Int)(hl:l.length<=1000000):Den Tryz.prog 127 [.vs (l.map i1),.int .i64 n] [] (.vs ((yd l n).map i1)) [] []:=by
 refine aa Tryz.func127 rfl Tryz.call127 Tryz.ntmps127 Tryz.results127 (by simp) (by kernel_rfl) [] (exts:=[]) rfl rfl ?_;simp only[go_sem];refine loop Tryz.mixed 0 (fun k:Nat=>[(0,.vs (l.map i1)),(1,.int .i64 n),(5,.int .i64 k)]) (fun _=>[]) (fun k=>k<=l.length/\∀j,j<k->el l j<n) (fun k=>l.length - k) (by kernel_rfl) ?_ ?_ ?_
 ·exact⟨Nat.zero_le _,fun j hj=>by omega⟩
 ·simp only[go_sem]
 ·rintro k ⟨hk,hall⟩;by_cases hlt:k<l.length/\el l k<n
  ·obtain⟨l1,l2⟩:=hlt;have h1:(k:Int)<(l.length:Int):=by omega
   simp only[go_sem,h1,l1,l2];refine⟨k+1,⟨⟨by omega,fun j hj=> ?_⟩,by omega⟩,?_⟩
   ·rcases Nat.lt_succ_iff_lt_or_eq.1 hj with h|h
    ·exact hall j h
    ·rw[h];exact l2
   ·rw[ai]<;>omega
  ·have lt:(l.take k).length=k:=by simp;omega
   have ld:((l.take l.length).drop k).length=l.length - k:=by simp
   have hp:=ard l n k hk hall (fun h1 h2=>hlt ⟨h1,h2⟩);by_cases l1:k<l.length
   ·have h1:(k:Int)<(l.length:Int):=by omega
    have l2: ¬el l k<n:=fun h=>hlt ⟨l1,h⟩;by_cases l3:el l k=n
    ·rw[if_pos ⟨l1,l3⟩]at hp;simp only[go_sem,h1,l1,l2,l3];exact⟨fun h=>absurd h (Int.lt_irrefl n),fun _=>by rw[hp]⟩
    ·rw[if_neg (fun h=>l3 h.2)]at hp;simp only[go_sem,h1,l1,l2,l3]
     (repeat refine And.intro (by first|omega|exact ae (by kernel_rfl)) ?_)
     rw[hp];simp;rfl
   ·have h1: ¬(k:Int)<(l.length:Int):=by omega
    rw[if_neg (fun h=>l1 h.1)]at hp;simp only[go_sem,h1,l1]
    (repeat refine And.intro (by first|omega|exact ae (by kernel_rfl)) ?_)
    rw[hp];simp;rfl
theorem aee(x:Ct)(h:pa x):Den Tryz.prog 126 [.agg (ct x)] [] (.agg (ct x)) [] []:=by
 refine aa Tryz.func126 rfl Tryz.call126 Tryz.ntmps126 Tryz.results126 (by simp) (by kernel_rfl) [] (exts:=[]) rfl rfl ?_;have hb:=Nat.le_trans (ata x.pi) h.2;have hb2:=h.1;rw[il];simp only[go_sem]
 (repeat refine And.intro (by first|omega|exact ae (by kernel_rfl)) ?_)
 exact ae (by kernel_rfl)
theorem aey(x:Ct)(h:pa x):Den Tryz.prog 135 [.agg (ct x)] [] (.agg (ct x)) [] []:=by
 refine aa Tryz.func135 rfl Tryz.call135 Tryz.ntmps135 Tryz.results135 (by simp) (by kernel_rfl) [] (exts:=[]) rfl rfl ?_;have hb:=Nat.le_trans (ata x.pi) h.2;have hb2:=h.1;rw[il];simp only[go_sem]
 (repeat refine And.intro (by first|omega|exact ae (by kernel_rfl)) ?_)
 exact ae (by kernel_rfl)
theorem bz{α:Type} [Inhabited α]{l:List α}{i:Nat}(h:i<l.length):el l i∈l:=by
 simp only[el,bq,bf h,Option.getD_some];exact List.getElem_mem _
theorem ahl(a b:Int):jv a b=0↔a=b:=by
 unfold jv;split
 ·simp;omega
 ·split
  ·simp;omega
  ·simp;omega
theorem aug(a b:Int):or2 a b=0↔a=0/\b=0:=by
 unfold or2;split
 ·simp_all
 ·simp_all
theorem a2c(p q:Pn):u9 p q=0↔p=q:=by
 cases p
 cases q
 simp only[u9,aug,ahl,er,Pn.mk.injEq]
theorem ab6{α:Type}(f:α->α->Int)(hf: ∀x y,f x y=0↔x=y): ∀a b:List α,n4 f a b=0↔a=b
 |[],[]=>by simp[n4]
 |[],_::_=>by simp[n4]
 |_::_,[]=>by simp[n4]
 |x::a,y::b=>by
  have ih:=ab6 f hf a b;simp only[n4];split
  ·rename_i h;rw[ih];simp[(hf x y).1 h]
  ·rename_i h;have:x≠y:=fun e=>h ((hf x y).2 e);simp[h,this]
theorem j7(x y:Ct):j2 x y=0↔x=y:=by
 cases x
 cases y
 simp only[j2,aug,ab6 jv ahl,ab6 u9 a2c,Ct.mk.injEq]
def twK(v:List Vt)(i:Nat)(out:List Int)(k:Nat):List Int:=
 (List.range k).foldl (fun o k=>if(el v i).k=(el v k).k/\(el v i).x≠(el v k).x then yd o (el v i).k else o) out
theorem a7w(v:List Vt)(i:Nat)(out:List Int):twK v i out 0=out:=rfl
def nj:List Cn->Vt->List Cn
 |[],y=>[⟨y.x,[y.k]⟩]
 |n::r,y=>if j2 n.x y.x<0 then n::nj r y else if n.x=y.x then⟨n.x,yd n.ks y.k⟩::r else⟨y.x,[y.k]⟩::n::r
def cnI(seats:List Int)(v:List Vt)(i:Nat):List Cn:=(v.take i).foldl (fun o y=>if y.k∈seats then nj o y else o) []
def cnR(seats:List Int)(v:List Vt):List Cn:=cnI seats v v.length
theorem acr{seats:List Int}{v:List Vt}{i:Nat}(h:i<v.length):cnI seats v (i+1)=if(el v i).k∈seats then nj (cnI seats v i) (el v i)else cnI seats v i:=by
 simp only[cnI,c9 h,List.foldl_append,List.foldl_cons,List.foldl_nil]
theorem ai8: ∀(o:List Cn) (y:Vt),(nj o y).length<=o.length+1
 |[],y=>by simp[nj]
 |n::r,y=>by
  have:=ai8 r y;simp only[nj];split
  ·simp;omega
  ·split<;>simp
theorem ag1: ∀(o:List Cn) (y:Vt) (k:Nat),k<=o.length->(∀j,j<k->j2 (el o j).x y.x<0)->(k<o.length->¬j2 (el o k).x y.x<0)->
  nj o y=if k<o.length/\(el o k).x=y.x then o.set k ⟨y.x,yd (el o k).ks y.k⟩else o.take k++(⟨y.x,[y.k]⟩::o.drop k)
 |[],y,k,hk,_,_=>by
  have:k=0:=by simpa using hk
  subst this
  simp[nj]
 |n::r,y,0,_,_,h2=>by
  have h:=h2 (by simp);have e0:el (n::r) 0=n:=rfl;rw[e0]at h ⊢;simp only[nj,if_neg h];by_cases he:n.x=y.x
  ·simp[he]
  ·simp[he]
 |n::r,y,k+1,hk,h1,h2=>by
  have h0:j2 n.x y.x<0:=h1 0 (by omega);have ih:=ag1 r y k (by simpa using hk) (fun j hj=>h1 (j+1) (by omega)) (fun hl=>h2 (by simpa using hl));simp only[nj,if_pos h0,ih];have e1:el (n::r) (k+1)=el r k:=rfl;rw[e1];by_cases hc:k<r.length/\(el r k).x=y.x
  ·rw[if_pos hc,if_pos ⟨by simp;exact hc.1,hc.2⟩];simp
  ·rw[if_neg hc,if_neg (fun h=>hc ⟨by simpa using h.1,h.2⟩)];simp
theorem aun{m:Nat}: ∀{o:List Cn} {y:Vt},(∀n∈o,pa n.x/\n.ks.length<=m)->pa y.x->∀n∈nj o y,pa n.x/\n.ks.length<=m+1
 |[],y,_,hy,n,hn=>by
  simp only[nj,List.mem_singleton]at hn;subst hn
  exact⟨hy,by simp⟩
 |a::r,y,ho,hy,n,hn=>by
  have ha:=ho a (by simp);simp only[nj]at hn;split at hn
  ·rcases List.mem_cons.1 hn with rfl|h
   ·exact⟨ha.1,by omega⟩
   ·exact aun (fun n hn=>ho n (by simp[hn])) hy n h
  ·split at hn
   ·rcases List.mem_cons.1 hn with rfl|h
    ·exact⟨ha.1,by have:=ak0 a.ks y.k;simp only;omega⟩
    ·have:=ho n (by simp[h]);exact⟨this.1,by omega⟩
   ·rcases List.mem_cons.1 hn with rfl|h
    ·exact⟨hy,by simp⟩
    ·have:=ho n h;exact⟨this.1,by omega⟩
theorem adw(seats:List Int){v:List Vt}(hx: ∀y∈v,pa y.x): ∀i,i<=v.length->(cnI seats v i).length<=i/\∀n∈cnI seats v i,pa n.x/\n.ks.length<=i
 |0,_=>by simp[cnI]
 |i+1,h=>by
  have ih:=adw seats hx i (by omega);have hlt:i<v.length:=by omega
  rw[acr hlt];split
  ·exact⟨Nat.le_trans (ai8 _ _) (by omega),aun ih.2 (hx _ (bz hlt))⟩
  ·exact⟨by omega,fun n hn=>⟨(ih.2 n hn).1,by have:=(ih.2 n hn).2;omega⟩⟩
theorem ky{x:Ct}(h:pa x):re x:=⟨by have:=h.1;simp only[big];omega,by have:=Nat.le_trans (ata x.pi) h.2;simp only[big];omega⟩
theorem a2r(seats:List Int)(v:List Vt)(hv:v.length<=900)(hs:big seats.length)(hx: ∀y∈v,pa y.x):Den Tryz.prog 100 [.vs (v.map vt7),.vs (seats.map i1)] [] (.vs ((cnR seats v).map cn3)) [] []:=by
 refine aa Tryz.func100 rfl Tryz.call100 Tryz.ntmps100 Tryz.results100 (by simp) (by kernel_rfl) [] (exts:=[]) rfl rfl ?_;simp only[go_sem];refine dm 5 99 150 3 false ?_ ?_ ?_ (by omega)
 ·refine amy Tryz.mixed 0 (fun i:Nat=>[(0,.vs (v.map vt7)),(1,.vs (seats.map i1)),(5,.os 99 (cnI seats v i).length),(6,.int .i64 i)]) (fun i=>[(99,.arr 150 3 false ((cnI seats v i).map cn3))]) (fun i=>i<=v.length) (fun i=>v.length - i) (by kernel_rfl) (Nat.zero_le _) ?_ ?_
  ·refine Cv.wk ?_;simp only[go_sem];exact⟨rfl,rfl⟩
  ·intro i hi;by_cases hlt:i<v.length
   ·have h1:(i:Int)<(v.length:Int):=by omega
    obtain⟨ol,oh⟩:=adw seats hx i hi;have hsu:=acr (seats:=seats) hlt;have hox:=hx (el v i) (bz hlt);have hbx:=ky hox;simp only[go_sem,h1,hlt];refine call (avy seats (el v i).k hs) [] ?_;by_cases hk:(el v i).k∈seats
    rotate_left
    ·rw[if_neg hk]at hsu;simp only[go_sem,hk];refine⟨i+1,⟨by omega,by omega⟩,Cv.wk ?_⟩;simp only[go_sem,hsu];rw[ai]<;>omega
    rw[if_pos hk]at hsu;generalize hO:cnI seats v i=o at*;simp only[go_sem,hk];refine amy Tryz.mixed 0 (fun k:Nat=>[(0,.vs (v.map vt7)),(1,.vs (seats.map i1)),(5,.os 99 o.length),(6,.int .i64 i),(7,.int .i64 k)]) (fun _=>[(99,.arr 150 3 false (o.map cn3))]) (fun k=>k<=o.length/\∀j,j<k->j2 (el o j).x (el v i).x<0) (fun k=>o.length - k) (by kernel_rfl) ⟨Nat.zero_le _,fun j hj=>by omega⟩ ?_ ?_
    ·refine Cv.wk ?_;simp only[go_sem]
    rintro k ⟨hk1,hk2⟩;by_cases hkl:k<o.length
    ·have h2:(k:Int)<(o.length:Int):=by omega
     have hok:=oh (el o k) (bz hkl);have hbk:=ky hok.1;simp only[go_sem,h2,hkl,hlt];refine call (gp (el o k).x (el v i).x hbk.1 hbk.2 hbx.1 hbx.2) [] ?_;by_cases z1:j2 (el o k).x (el v i).x<0
     ·simp only[go_sem,z1];refine⟨ae (by kernel_rfl),k+1,⟨⟨by omega,fun j hj=> ?_⟩,by omega⟩,Cv.wk ?_⟩
      ·rcases Nat.lt_succ_iff_lt_or_eq.1 hj with h|h
       ·exact hk2 j h
       ·rw[h];exact z1
      ·simp only[go_sem];rw[ai]<;>omega
     have hia:=ag1 o (el v i) k hk1 hk2 (fun _=>z1);have hne: ¬(k:Int)=(o.length:Int):=by omega
     by_cases z2:j2 (el o k).x (el v i).x=0
     ·have z3:=(j7 _ _).1 z2;rw[if_pos ⟨hkl,z3⟩]at hia;simp only[go_sem,z1];refine⟨ae (by kernel_rfl),uj _ _ ?_⟩;simp only[go_sem,hne,hkl,hlt];refine call (gp (el o k).x (el v i).x hbk.1 hbk.2 hbx.1 hbx.2) [] ?_;simp only[go_sem,z2,hkl,hlt];refine⟨ae (by kernel_rfl),?_⟩;refine call (wu (el o k).ks (el v i).k (by omega)) [] ?_;simp only[go_sem,hkl,hlt];refine⟨ae (by kernel_rfl),i+1,⟨by omega,by omega⟩,Cv.wk ?_⟩;simp only[go_sem,hsu,hia];refine⟨⟨by simp,by rw[ai]<;>omega⟩,?_⟩;rw[List.map_set];congr 1;rw[azz,<-z3]
     ·rw[if_neg (fun h=>z2 ((j7 _ _).2 h.2))]at hia;simp only[go_sem,z1];refine⟨ae (by kernel_rfl),?_⟩;refine⟨_,_,Cv.trans (fr':=[(0,.vs (v.map vt7)),(1,.vs (seats.map i1)),(5,.os 99 o.length),(6,.int .i64 i),(7,.int .i64 k)]) (σ':=[(99,.arr 150 3 false (o.map cn3))]) (Cv.wk ?_) (Cv.asL (n:=99) (slot:=5) (e:=150) (sz:=3) (sh:=false) (xs:=o.map cn3) (by simp[look]) (by simp[ah])),?_⟩
      ·simp only[go_sem]
      simp only[go_sem,hne,hkl,hlt];refine call (gp (el o k).x (el v i).x hbk.1 hbk.2 hbx.1 hbx.2) [] ?_;simp only[go_sem,z2,hkl,hlt];refine⟨ae (by kernel_rfl),?_⟩;have lt:(o.take k).length=k:=by simp;omega
      have ld:((o.take o.length).drop k).length=o.length - k:=by simp
      (repeat refine And.intro (by first|omega|exact ae (by kernel_rfl)) ?_)
      refine call (aee (el v i).x hox) [] ?_;simp only[go_sem,lt,ld]
      (repeat refine And.intro (by first|omega|exact ae (by kernel_rfl)) ?_)
      have hz:List.map cn3 (List.take k o)++[[PV.vs (List.map i1 (el v i).x.li),PV.vs (List.map pn (el v i).x.pi),PV.vs []]]++List.map cn3 (List.drop k (List.take o.length o))=(o.take k++⟨(el v i).x,[]⟩::o.drop k).map cn3:=by simp[cn3]
      have hzl:k<(o.take k++(⟨(el v i).x,[]⟩:Cn)::o.drop k).length:=by simp;omega
      have hze:el (o.take k++(⟨(el v i).x,[]⟩:Cn)::o.drop k) k=⟨(el v i).x,[]⟩:=by simp[el,bq,lt]
      have hzs:(o.take k++(⟨(el v i).x,[]⟩:Cn)::o.drop k).set k ⟨(el v i).x,[(el v i).k]⟩=nj o (el v i):=by rw[hia];simp[List.set_append,lt]
      have hzn:(o.take k++(⟨(el v i).x,[]⟩:Cn)::o.drop k).length=k+1+(o.length - k):=by simp;omega
      rw[hz];generalize (o.take k++(⟨(el v i).x,[]⟩:Cn)::o.drop k)=Z at*;rw[<-hzn];have hzr:db (List.map cn3 Z) k=cn3 ⟨(el v i).x,[]⟩:=by rw[pu cn3 Z k hzl,hze]
      rw[hzr];simp only[go_sem,hzl,hlt];refine call (wu [] (el v i).k (by simp)) [] ?_;simp only[go_sem,hzl,hzr]
      have hzm:(List.map cn3 Z).set k [PV.vs (List.map i1 (el v i).x.li),PV.vs (List.map pn (el v i).x.pi),PV.vs (List.map i1 (yd [] (el v i).k))]=List.map cn3 (nj o (el v i)):=by
       rw[<-hzs,List.map_set];rfl
      have hzk:Z.length=(nj o (el v i)).length:=by rw[<-hzs,List.length_set]
      refine⟨ae (by kernel_rfl),i+1,⟨by omega,by omega⟩,Cv.trans (fr':=[(0,.vs (v.map vt7)),(1,.vs (seats.map i1)),(5,.os 60 Z.length),(6,.int .i64 (i+1:Nat))]) (σ':=[(60,.arr 150 3 false ((nj o (el v i)).map cn3))]) (Cv.wk ?_) (Cv.wkR [(60,99)] ?_)⟩
      ·simp only[go_sem,hzm];rw[hze];exact⟨by rw[ai]<;>omega,hzm⟩
      ·simp only[go_sem,hsu,hzk]
    ·have h2: ¬(k:Int)<(o.length:Int):=by omega
     have hko:((k:Int)=(o.length:Int))=True:=by simp;omega
     have hia:=ag1 o (el v i) k hk1 hk2 (fun h=>absurd h hkl);rw[if_neg (fun h=>hkl h.1)]at hia;simp only[go_sem,h2];refine⟨ae (by kernel_rfl),?_⟩;refine⟨_,_,Cv.trans (fr':=[(0,.vs (v.map vt7)),(1,.vs (seats.map i1)),(5,.os 99 o.length),(6,.int .i64 i),(7,.int .i64 k)]) (σ':=[(99,.arr 150 3 false (o.map cn3))]) (Cv.wk ?_) (Cv.asL (n:=99) (slot:=5) (e:=150) (sz:=3) (sh:=false) (xs:=o.map cn3) (by simp[look]) (by simp[ah])),?_⟩
     ·simp only[go_sem]
     simp only[go_sem,h2,hko,hlt];refine⟨ae (by kernel_rfl),?_⟩;have lt:(o.take k).length=k:=by simp;omega
     have ld:((o.take o.length).drop k).length=o.length - k:=by simp
     (repeat refine And.intro (by first|omega|exact ae (by kernel_rfl)) ?_)
     refine call (aee (el v i).x hox) [] ?_;simp only[go_sem,lt,ld]
     (repeat refine And.intro (by first|omega|exact ae (by kernel_rfl)) ?_)
     have hz:List.map cn3 (List.take k o)++[[PV.vs (List.map i1 (el v i).x.li),PV.vs (List.map pn (el v i).x.pi),PV.vs []]]++List.map cn3 (List.drop k (List.take o.length o))=(o.take k++⟨(el v i).x,[]⟩::o.drop k).map cn3:=by simp[cn3]
     have hzl:k<(o.take k++(⟨(el v i).x,[]⟩:Cn)::o.drop k).length:=by simp;omega
     have hze:el (o.take k++(⟨(el v i).x,[]⟩:Cn)::o.drop k) k=⟨(el v i).x,[]⟩:=by simp[el,bq,lt]
     have hzs:(o.take k++(⟨(el v i).x,[]⟩:Cn)::o.drop k).set k ⟨(el v i).x,[(el v i).k]⟩=nj o (el v i):=by rw[hia];simp[List.set_append,lt]
     have hzn:(o.take k++(⟨(el v i).x,[]⟩:Cn)::o.drop k).length=k+1+(o.length - k):=by simp;omega
     rw[hz];generalize (o.take k++(⟨(el v i).x,[]⟩:Cn)::o.drop k)=Z at*;rw[<-hzn];have hzr:db (List.map cn3 Z) k=cn3 ⟨(el v i).x,[]⟩:=by rw[pu cn3 Z k hzl,hze]
     rw[hzr];simp only[go_sem,hzl,hlt];refine call (wu [] (el v i).k (by simp)) [] ?_;simp only[go_sem,hzl,hzr]
     have hzm:(List.map cn3 Z).set k [PV.vs (List.map i1 (el v i).x.li),PV.vs (List.map pn (el v i).x.pi),PV.vs (List.map i1 (yd [] (el v i).k))]=List.map cn3 (nj o (el v i)):=by
      rw[<-hzs,List.map_set];rfl
     have hzk:Z.length=(nj o (el v i)).length:=by rw[<-hzs,List.length_set]
     refine⟨ae (by kernel_rfl),i+1,⟨by omega,by omega⟩,Cv.trans (fr':=[(0,.vs (v.map vt7)),(1,.vs (seats.map i1)),(5,.os 60 Z.length),(6,.int .i64 (i+1:Nat))]) (σ':=[(60,.arr 150 3 false ((nj o (el v i)).map cn3))]) (Cv.wk ?_) (Cv.wkR [(60,99)] ?_)⟩
     ·simp only[go_sem,hzm];rw[hze];exact⟨by rw[ai]<;>omega,hzm⟩
     ·simp only[go_sem,hsu,hzk]
   ·have h1: ¬(i:Int)<(v.length:Int):=by omega
    have:i=v.length:=by omega
    subst this;simp only[go_sem,h1];refine uj _ _ ?_;simp only[go_sem];rfl
 ·simp only[go_sem]
 ·simp only[go_sem]
end Go.Proofs.Am
