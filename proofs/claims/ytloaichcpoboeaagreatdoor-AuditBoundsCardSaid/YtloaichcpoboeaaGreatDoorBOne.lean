/- BOne. -/
import Derived.Test.YtloaichcpoboeaaGreatDoorAmV
import Derived.Test.YtloaichcpoboeaaGreatDoorR1F
import Derived.Laws.Bits64
import Derived.Laws.Bits64b
set_option maxHeartbeats 1000000
set_option maxRecDepth 100000
set_option linter.unusedSimpArgs false
set_option linter.unusedVariables false
namespace Go.Proofs.Am
open Go Go.RowKit
open Go.Proofs
theorem Tryz.mixed:Tryz.prog.follows .mixedOrders=true:=by kernel_rfl
def i1(x:Int):List PV:=[.int .i64 x]
theorem bj5(x:Int):i1 x=[.int .i64 x]:=rfl
attribute [go_sem] bj5
abbrev big(n:Nat):Prop:=n<4611686018427387904
theorem ae{n:Int}(h: -9223372036854775808<=n)(h':n<9223372036854775808):IntKind.i64.wrap n=n:=by rw[IntKind.wrap_i64];omega
theorem ix{l:List Int}{i:Nat}(h:i<l.length):el l i∈l:=by
 simp only[el,aw,a8 h,Option.getD_some];exact List.getElem_mem h
theorem ym{l:List Int}{x:Int}(h:x∈l): ∃i,i<l.length/\el l i=x:=by
 obtain⟨i,h1,h2⟩:=List.getElem_of_mem h;exact⟨i,h1,by simp only[el,aw,a8 h1,Option.getD_some];exact h2⟩
theorem m5{l:List Int}{x:Int}{n:Nat}(hn:l.length<=n)(h: ∀j,j<n->el l j≠x):x∉l:=fun hx=>by
 obtain⟨i,h1,h2⟩:=ym hx;exact h i (by omega) h2
theorem uf(a:Int)(l:List Int)(i:Nat):el (a::l) (i+1)=el l i:=by simp[el]
theorem uv(a:Int)(l:List Int):el (a::l) 0=a:=by simp[el]
theorem a92: ∀{l:List Int} {i:Nat} {k:Int},i<l.length->k=el l i->(∀j,j<i->el l j≠k)->l.idxOf k=i
 |[],_,_,h,_,_=>by simp at h
 |a::l,0,k,_,hk,_=>by rw[hk,uv];simp
 |a::l,i+1,k,h,hk,hn=>by
  have h0:=hn 0 (by omega);rw[uv]at h0;rw[uf]at hk;have:=a92 (l:=l) (i:=i) (k:=k) (by simpa using h) hk fun j hj=>by have:=hn (j+1) (by omega);rwa [uf]at this
  rw[List.idxOf_cons,this];have:(a==k)=false:=by simpa using h0
  simp only[this,cond_false]
theorem beo(l:List Int)(k:Int)(hl:big l.length):Den Tryz.prog 16 [.vs (l.map i1),.int .i64 k] [] (.bool (decide (k∈l))) [] []:=by
 refine aa Tryz.func16 rfl Tryz.call16 Tryz.ntmps16 Tryz.results16 (by simp) (by kernel_rfl) [] (exts:=[]) rfl rfl ?_;simp only[go_sem];refine loop (by kernel_rfl) 0 (fun i:Nat=>[(0,.vs (l.map i1)),(1,.int .i64 k),(5,.int .i64 i)]) (fun _=>[]) (fun i=>i<=l.length/\∀j,j<i->el l j≠k) (fun i=>l.length - i) (by kernel_rfl) ?_ ?_ ?_
 ·simp
 ·simp only[go_sem]
 ·intro i ⟨hi,hn⟩;simp only[go_sem];refine⟨fun h=>⟨by omega,fun e=> ?_,fun e=>⟨i+1,⟨⟨by omega,fun j hj=> ?_⟩,by omega⟩,?_⟩⟩,fun h=> ?_⟩
  ·rw[<-e];simp[ix h]
  ·rcases Nat.lt_succ_iff_lt_or_eq.1 hj with h'|h'
   ·exact hn j h'
   ·rw[h'];exact e
  ·rw[ae]<;>omega
  ·simp[m5 (by omega) hn]
theorem av9(l:List Int)(k:Int)(hl:big l.length):Den Tryz.prog 68 [.vs (l.map i1),.int .i64 k] [] (.int .i64 (if k∈l then(l.idxOf k:Nat)else -1)) [] []:=by
 refine aa Tryz.func68 rfl Tryz.call68 Tryz.ntmps68 Tryz.results68 (by simp) (by kernel_rfl) [] (exts:=[]) rfl rfl ?_;simp only[go_sem];refine loop (by kernel_rfl) 0 (fun i:Nat=>[(0,.vs (l.map i1)),(1,.int .i64 k),(7,.int .i64 l.length),(8,.int .i64 i)]) (fun _=>[]) (fun i=>i<=l.length/\∀j,j<i->el l j≠k) (fun i=>l.length - i) (by kernel_rfl) ?_ ?_ ?_
 ·simp
 ·simp only[go_sem]
 ·intro i ⟨hi,hn⟩;simp only[go_sem];refine⟨fun h=>⟨by omega,fun e=> ?_,fun e=>⟨i+1,⟨⟨by omega,fun j hj=> ?_⟩,by omega⟩,?_⟩⟩,fun h=> ?_⟩
  ·have hm:k∈l:=by rw[e];exact ix h
   rw[if_pos hm];rw[a92 h e hn]
  ·rcases Nat.lt_succ_iff_lt_or_eq.1 hj with h'|h'
   ·exact hn j h'
   ·rw[h'];exact fun h2=>e h2.symm
  ·rw[ae]<;>omega
  ·rw[if_neg (m5 (by omega) hn)]
theorem f9(l:List Int)(k:Int)(hl:big l.length):Den Tryz.prog 32 [.vs (l.map i1),.int .i64 k] [] (.bool (decide (k∈l))) [] []:=by
 refine aa Tryz.func32 rfl Tryz.call32 Tryz.ntmps32 Tryz.results32 (by simp) (by kernel_rfl) [] (exts:=[]) rfl rfl ?_;simp only[go_sem];refine call (av9 l k hl) [] ?_;simp only[go_sem];by_cases h:k∈l
 ·simp[h]
 ·simp[h]
def ban(n m:Int):Int:=if m<1 then 0 else n % m
theorem a0z{n m:Int}(hm:0<m)(h:n.tmod m<0):n.tmod m+m=n % m:=by
 have h1:=Int.lt_tmod_of_pos n (b:=m) hm;have e1:=Int.mul_tdiv_add_tmod n m;have e:n=(n.tmod m+m)+m*(n.tdiv m - 1):=by rw[Int.mul_sub];omega
 conv=>rhs;rw[e]
 rw[Int.add_mul_emod_self_left];exact(Int.emod_eq_of_lt (by omega) (by omega)).symm
theorem atf{n m:Int}(hm:0<m)(h: ¬n.tmod m<0):n.tmod m=n % m:=by
 have h1:=Int.tmod_lt_of_pos n (b:=m) hm;have e1:=Int.mul_tdiv_add_tmod n m;have e:n=n.tmod m+m*(n.tdiv m):=by omega
 conv=>rhs;rw[e]
 rw[Int.add_mul_emod_self_left];exact(Int.emod_eq_of_lt (by omega) (by omega)).symm
theorem bka(n m:Int)(hm:m<9223372036854775808):Den Tryz.prog 52 [.int .i64 n,.int .i64 m] [] (.int .i64 (ban n m)) [] []:=by
 refine aa Tryz.func52 rfl Tryz.call52 Tryz.ntmps52 Tryz.results52 (by simp) (by kernel_rfl) [] (exts:=[]) rfl rfl ?_;simp only[go_sem];refine⟨fun h=> ?_,fun h=>⟨by omega,fun h'=> ?_,fun h'=> ?_⟩⟩
 ·simp[ban,h]
 ·have h2:=Int.lt_tmod_of_pos n (b:=m) (by omega);rw[ae (by omega) (by omega)];simp only[ban,if_neg h];exact a0z (by omega) h'
 ·simp only[ban,if_neg h];exact atf (by omega) h'
def ai(l:List Int)(p:Nat)(n:Int):Int:=if p<l.length then ban (el l p) n else 0
def ob(l:List Int)(p:Nat):Nat:=if p<l.length then p+1 else p
abbrev vp(l:List Int)(p:Nat):Box:= .cells [.vs (l.map i1),.int .i64 p]
theorem bt(l:List Int)(p:Nat)(n:Int)(hl:big l.length)(hp:p<=l.length)(hn:n<9223372036854775808):Den Tryz.prog 22 [.ptr 1000000 0,.int .i64 n] [vp l p] (.int .i64 (ai l p n)) [] [vp l (ob l p)]:=by
 refine aa Tryz.func22 rfl Tryz.call22 Tryz.ntmps22 Tryz.results22 (by simp) (by kernel_rfl) [] (exts:=[1000000]) rfl rfl ?_;simp only[go_sem];refine⟨ag (by kernel_rfl),fun h=> ?_,fun h=> ?_⟩
 ·have: ¬p<l.length:=by omega
  simp[ob,ai,this]
 ·have e1:IntKind.i64.wrap ((p:Int)+1)=(p:Int)+1:=ae (by omega) (by omega);have e2:IntKind.i64.wrap ((p:Int)+1 - 1)=(p:Int):=by rw[ae]<;>omega
  simp only[e1,e2];refine⟨by omega,call (bka (el l (p:Int).toNat) n hn) [] ?_⟩;simp only[go_sem];have hp:p<l.length:=by omega
  refine⟨ag (by kernel_rfl),?_,?_⟩
  ·simp[ob,hp]
  ·simp[ai,hp]
theorem aen{l:List Int}{p:Nat}(h:p<=l.length):ob l p<=l.length:=by unfold ob;split<;>omega
theorem bee{n m:Int}(h:0<m):0<=ban n m/\ban n m<m:=by
 unfold ban;rw[if_neg (by omega)];exact⟨Int.emod_nonneg _ (by omega),Int.emod_lt_of_pos _ h⟩
theorem bi{l:List Int}{p:Nat}{n:Int}(h:0<n):0<=ai l p n/\ai l p n<n:=by
 unfold ai;split
 ·exact bee h
 ·omega
theorem alw(l:List Int)(p:Nat)(n:Int)(hl:big l.length)(hp:p<=l.length)(h0:0<n)(hn:n<9223372036854775808):Den Tryz.prog 23 [.ptr 1000000 0,.int .i64 n] [vp l p] (.bool (decide (ai l p n=n - 1))) [] [vp l (ob l p)]:=by
 refine aa Tryz.func23 rfl Tryz.call23 Tryz.ntmps23 Tryz.results23 (by simp) (by kernel_rfl) [] (exts:=[1000000]) rfl rfl ?_;simp only[go_sem];refine call (bt l p n hl hp hn) [1000000] ?_;simp only[go_sem];rw[ae (by omega) (by omega)]
theorem a90(l:List Int)(p:Nat)(xs:List Int)(hl:big l.length)(hp:p<=l.length)(hx:0<xs.length)(hxb:big xs.length):Den Tryz.prog 25 [.ptr 1000000 0,.vs (xs.map i1)] [vp l p] (.int .i64 (el xs (ai l p xs.length).toNat)) [] [vp l (ob l p)]:=by
 refine aa Tryz.func25 rfl Tryz.call25 Tryz.ntmps25 Tryz.results25 (by simp) (by kernel_rfl) [] (exts:=[1000000]) rfl rfl ?_;simp only[go_sem];refine call (bt l p xs.length hl hp (by omega)) [1000000] ?_;simp only[go_sem];have:=bi (l:=l) (p:=p) (n:=xs.length) (by omega);omega
theorem bgb(l:List Int):Den Tryz.prog 8 [.vs (l.map i1)] [] (.ptr 0 0) [vp l 0] []:=by
 refine aa Tryz.func8 rfl Tryz.call8 Tryz.ntmps8 Tryz.results8 (by simp) (by kernel_rfl) [5] (exts:=[]) rfl rfl ?_;simp only[go_sem]
def qw(l:List Int):Nat->Nat->Nat->List Int
 |0,_,_=>[]
 |n+1,i,p=>(if ai l p 3=0 then [(i:Int)]else [])++qw l n (i+1) (ob l p)
def aey(l:List Int):Nat->Nat->Nat
 |0,p=>p
 |n+1,p=>aey l n (ob l p)
theorem a59(l:List Int)(p:Nat)(n:Nat)(hl:big l.length)(hp:p<=l.length)(hn:n<=1000):Den Tryz.prog 11 [.ptr 1000000 0,.int .i64 n] [vp l p] (.os 0 (qw l n 0 p).length) [.arr 3 1 false ((qw l n 0 p).map i1)] [vp l (aey l n p)]:=by
 refine aa Tryz.func11 rfl Tryz.call11 Tryz.ntmps11 Tryz.results11 (by simp) (by kernel_rfl) [99] (exts:=[1000000]) rfl rfl ?_;simp only[go_sem];refine da 5 99 3 1 false ?_ ?_ ?_ (by omega)
 ·simp only[go_sem]
  refine loop Tryz.mixed (0,p,[]) (fun j:Nat×Nat×List Int=>[(0,.ptr 1000000 0),(1,.int .i64 n),(5,.os 99 j.2.2.length),(6,.int .i64 j.1)]) (fun j=>[(1000000,vp l j.2.1),(99,.arr 3 1 false (j.2.2.map i1))])
   (fun j=>j.1<=n/\j.2.1<=l.length/\qw l n 0 p=j.2.2++qw l (n - j.1) j.1 j.2.1/\aey l n p=aey l (n - j.1) j.2.1/\j.2.2.length<=j.1) (fun j=>n - j.1) (by kernel_rfl) ?_ ?_ ?_
  ·simp[hp]
  ·simp only[go_sem]
  ·rintro⟨i,q,out⟩ ⟨h1,h2,h3,h4,h5⟩;simp only[go_sem];simp only at h1 h2 h3 h4 h5;refine⟨fun h=>call (bt l q 3 hl h2 (by omega)) [1000000] ?_,fun h=> ?_⟩
   ·simp only[go_sem];have e:n - i=(n - (i+1))+1:=by omega
    rw[e]at h3 h4;simp only[qw,aey]at h3 h4;refine⟨fun h'=>⟨by omega,(i+1,ob l q,out++[(i:Int)]),⟨⟨by simp only;omega,aen h2,?_,h4,?_⟩,by simp only;omega⟩,?_⟩,fun h'=>⟨(i+1,ob l q,out),⟨⟨by simp only;omega,aen h2,?_,h4,by simp only;omega⟩,by simp only;omega⟩,?_⟩⟩
    ·simpa [h'] using h3
    ·simp only[List.length_append,List.length_cons,List.length_nil];omega
    ·simp only[go_sem,List.map_append];rw[ae]<;>omega
    ·simpa [h'] using h3
    ·simp only[go_sem];rw[ae]<;>omega
   ·have e:n - i=0:=by omega
    rw[e]at h3 h4;simp only[qw,aey,List.append_nil]at h3 h4;rw[h3,h4];simp only[go_sem]
 ·simp only[go_sem]
 ·simp only[go_sem]
theorem bd6(l:List Int)(p:Nat)(n:Nat)(hl:big l.length)(hp:p<=l.length)(hn:n<=1000):Den Tryz.prog 11 [.ptr 1000000 0,.int .i64 n] [vp l p] (.vs ((qw l n 0 p).map i1)) [] [vp l (aey l n p)]:=
 (a59 l p n hl hp hn).vs (by simp) (by simp only[go_sem]) rfl
theorem aqc(l:List Int): ∀(n p:Nat),p<=l.length->aey l n p<=l.length
 |0,_,h=>h
 |n+1,_,h=>aqc l n _ (aen h)
theorem o9(l:List Int): ∀(n i p:Nat),∀x∈qw l n i p,(i:Int)<=x/\x<i+n
 |0,_,_,x,h=>by simp[qw]at h
 |n+1,i,p,x,h=>by
  simp only[qw,List.mem_append]at h;rcases h with h|h
  ·split at h
   ·simp at h;omega
   ·simp at h
  ·have:=o9 l n (i+1) (ob l p) x h;omega
theorem az7(l:List Int):Den Tryz.prog 6 [.vs (l.map i1)] [] (.bool (decide (l.length<=400))) [] []:=by
 refine aa Tryz.func6 rfl Tryz.call6 Tryz.ntmps6 Tryz.results6 (by simp) (by kernel_rfl) [] (exts:=[]) rfl rfl ?_;simp only[go_sem];simp only[decide_eq_decide];omega
def fc(c:Int->Bool)(n:Nat):List Int:=((List.range n).map fun i:Nat=>(i:Int)).filter c
theorem tq(c:Int->Bool)(n:Nat):fc c (n+1)=fc c n++(if c n then [(n:Int)]else []):=by
 simp only[fc,List.range_succ,List.map_append,List.filter_append,List.map_cons,List.map_nil,List.filter_cons,List.filter_nil]
theorem ny(c:Int->Bool): ∀n,(fc c n).length<=n:=fun n=>by
 have:=List.length_filter_le c ((List.range n).map fun i:Nat=>(i:Int));simpa [fc] using this
theorem qq{c:Int->Bool}{n:Nat}{x:Int}:x∈fc c n↔(0<=x/\x<n)/\c x=true:=by
 simp only[fc,List.mem_filter,List.mem_map,List.mem_range];constructor
 ·rintro⟨⟨i,h1,rfl⟩,h2⟩;exact⟨⟨by omega,by omega⟩,h2⟩
 ·rintro⟨⟨h0,h1⟩,h2⟩;exact⟨⟨x.toNat,by omega,by omega⟩,h2⟩
def bAt(v:Int)(j:Nat):UInt8:=UInt8.ofNat ((v/(2:Int)^j) % 256).toNat
def be8(v:Int):List UInt8:=[bAt v 56,bAt v 48,bAt v 40,bAt v 32,bAt v 24,bAt v 16,bAt v 8,bAt v 0]
theorem ai3(v:Int)(j:Nat):((bAt v j).toNat:Int)=(v/(2:Int)^j) % 256:=by
 have h1:=Int.emod_nonneg (v/(2:Int)^j) (b:=256) (by omega);have h2:=Int.emod_lt_of_pos (v/(2:Int)^j) (b:=256) (by omega);simp only[bAt];rw[UInt8.toNat_ofNat'];omega
theorem aau(v:Int)(j:Nat):IntKind.u8.wrap (v.fdiv ((2:Int)^j))=((bAt v j).toNat:Int):=by
 have h:(0:Int)<=(2:Int)^j:=Int.pow_nonneg (by omega);rw[IntKind.wrap_u8,ai3,Int.fdiv_eq_ediv_of_nonneg _ h]
theorem akm(v:Int)(j:Nat)(hj:j<=56):IntKind.u8.wrap ((IntKind.u64.wrap v).fdiv ((2:Int)^j))=((bAt v j).toNat:Int):=by
 have h:(0:Int)<(2:Int)^j:=Int.pow_pos (by omega);rw[IntKind.wrap_u8,ai3,Int.fdiv_eq_ediv_of_nonneg _ (by omega),IntKind.wrap_u64]
 have e64:(18446744073709551616:Int)=(2:Int)^j*(256*(2:Int)^(56 - j)):=by
  rw[show(256:Int)=2^8 by rfl,<-Int.pow_add,<-Int.pow_add];have:j+(8+(56 - j))=64:=by omega
  rw[this];rfl
 have e1:v=(v % 18446744073709551616)+(2:Int)^j*(256*(2:Int)^(56 - j))*(v/18446744073709551616):=by
  rw[<-e64];have:=Int.emod_add_mul_ediv v 18446744073709551616;omega
 generalize v % 18446744073709551616=r at*;generalize v/18446744073709551616=q at*;rw[e1,Int.mul_assoc,Int.add_mul_ediv_left _ _ (by omega),Int.mul_assoc,Int.add_mul_emod_self_left]
abbrev small(n:Nat):Prop:=n<=1000000000000
theorem avh(bs:List UInt8)(v:Int)(hb:small bs.length):Den Tryz.prog 312 [.os 1000000 bs.length,.int .i64 v] [.arr 5 1 false (bs.map u8)] (.os 1000000 (bs++be8 v).length) [] [.arr 5 1 false ((bs++be8 v).map u8)]:=by
 refine aa Tryz.func312 rfl Tryz.call312 Tryz.ntmps312 Tryz.results312 (by simp) (by kernel_rfl) [] (exts:=[1000000]) rfl rfl ?_;simp only[go_sem];refine loop Tryz.mixed 0 (fun m:Nat=>[(0,.os 1000000 (bs++(be8 v).take m).length),(1,.int .i64 v),(5,.int .i64 (56 - 8*(m:Int)))]) (fun m=>[(1000000,.arr 5 1 false ((bs++(be8 v).take m).map u8))]) (fun m=>m<=8) (fun m=>8 - m) (by kernel_rfl) ?_ ?_ ?_
 ·simp
 ·simp only[go_sem]
 ·intro m hm;have hl:((be8 v).take m).length=m:=by simp[be8];omega
  simp only[go_sem];rw[hl];have e1:m<8->IntKind.u64.wrap (56 - 8*(m:Int))=((56 - 8*m:Nat):Int):=fun h=>by rw[IntKind.wrap_u64];omega
  refine⟨fun h=>⟨by rw[e1]<;>omega,by omega,m+1,⟨by omega,by omega⟩,?_⟩,fun h=> ?_⟩
  ·have e0:(be8 v).take (m+1)=(be8 v).take m++[bAt v (56 - 8*m)]:=by
    have:m=0\/m=1\/m=2\/m=3\/m=4\/m=5\/m=6\/m=7:=by omega
    rcases this with rfl|rfl|rfl|rfl|rfl|rfl|rfl|rfl<;>rfl
   have e1:=e1 (by omega);have e2:min (56 - 8*m) 64=56 - 8*m:=by omega
   simp only[e0,e1,Int.toNat_natCast,e2];rw[akm _ _ (by omega)];simp only[go_sem,List.map_append];refine⟨⟨by omega,?_⟩,?_⟩
   ·rw[ae]<;>omega
   ·simp
  ·have:m=8:=by omega
   subst this;simp[be8]
theorem az(v:Int):(be8 v).length=8:=rfl
theorem avj(bs:List UInt8)(hb:small bs.length):Den Tryz.prog 313 [.vs (bs.map u8)] [] (.os 0 bs.length) [.arr 5 1 false (bs.map u8)] []:=by
 cases bs with
 |nil=>
  refine yw [] fun b=> ?_;refine ak4 Tryz.mixed Tryz.func313 rfl Tryz.call313 Tryz.ntmps313 (congrArg Array.toList Tryz.results313) (by simp) (by kernel_rfl) (exts:=[]) rfl rfl ?_;simp only[go_sem];refine⟨fun h=>aea [(2,99,5,1)] [99] ?_ ?_,fun h=>aea [] [5] ?_ ?_⟩
  ·simp only[go_sem]
  ·simp only[go_sem]
  ·simp only[go_sem]
  ·simp only[go_sem]
 |cons c bs=>
  refine ak4 Tryz.mixed Tryz.func313 rfl Tryz.call313 Tryz.ntmps313 (congrArg Array.toList Tryz.results313) (by simp) (by kernel_rfl) (exts:=[]) rfl rfl ?_;have hb':small (bs.length+1):=by simpa using hb
  simp only[go_sem,Nat.zero_lt_succ,List.mem_map,List.forall_mem_cons];refine⟨?_,by omega,aea [] [5] ?_ ?_⟩
  ·rintro y (rfl|⟨a,_,rfl⟩)<;>rfl
  ·simp only[go_sem]
  ·simp only[go_sem]
theorem afl(bs:List UInt8)(v:Int)(hb:small bs.length):Den Tryz.prog 281 [.vs (bs.map u8),.int .i64 v] [] (.os 0 (bs++be8 v).length) [.arr 5 1 false ((bs++be8 v).map u8)] []:=by
 refine aa Tryz.func281 rfl Tryz.call281 Tryz.ntmps281 Tryz.results281 (by simp) (by kernel_rfl) [6] (exts:=[]) rfl rfl ?_;simp only[go_sem];refine call (avj bs hb) [] ?_;simp only[go_sem];refine call (avh bs v hb) [6] ?_;simp only[go_sem];omega
theorem a1s(bs:List UInt8)(s:List UInt8)(hb:small bs.length)(hs:small s.length):Den Tryz.prog 282 [.vs (bs.map u8),.str s] [] (.os 0 (bs++(be8 s.length++s)).length) [.arr 5 1 false ((bs++(be8 s.length++s)).map u8)] []:=by
 refine aa Tryz.func282 rfl Tryz.call282 Tryz.ntmps282 Tryz.results282 (by simp) (by kernel_rfl) [8] (exts:=[]) rfl rfl ?_;simp only[go_sem];refine call (afl bs s.length hb) [] ?_;simp only[go_sem,az,List.append_assoc,List.map_append];omega
def beL(l:List Int):List UInt8:=l.flatMap be8
theorem dw(l:List Int):(beL l).length=8*l.length:=by
 induction l with
 |nil=>rfl
 |cons a r ih=>simp only[beL,List.flatMap_cons,List.length_append,az,List.length_cons]at*;omega
theorem lg(l m:List Int):beL (l++m)=beL l++beL m:=by simp[beL]
theorem cu{α:Type} [Inhabited α]{l:List α}{i:Nat}(h:i<l.length):l.take (i+1)=l.take i++[el l i]:=by
 simp[el,aw,h,List.take_append_getElem]
theorem ay2(bs:List UInt8)(l:List Int)(hb:bs.length<=1000000000)(hl:l.length<=1000000000):Den Tryz.prog 283 [.vs (bs.map u8),.vs (l.map i1)] [] (.os 0 (bs++(be8 l.length++beL l)).length) [.arr 5 1 false ((bs++(be8 l.length++beL l)).map u8)] []:=by
 refine aa Tryz.func283 rfl Tryz.call283 Tryz.ntmps283 Tryz.results283 (by simp) (by kernel_rfl) [11] (exts:=[]) rfl rfl ?_;simp only[go_sem];refine call (afl bs l.length (by simp only[small];omega)) [] ?_;simp only[go_sem];refine loop Tryz.mixed 0 (fun i:Nat=>[(1,.vs (l.map i1)),(5,.os 11 (bs++(be8 l.length++beL (l.take i))).length),(12,.vs (l.map i1)),(13,.int .i64 l.length),(14,.int .i64 i)]) (fun i=>[(11,.arr 5 1 false ((bs++(be8 l.length++beL (l.take i))).map u8))]) (fun i=>i<=l.length) (fun i=>l.length - i) (by kernel_rfl) ?_ ?_ ?_
 ·simp
 ·simp only[go_sem,List.take_zero,beL,List.flatMap_nil]
 ·intro i hi;have hti:(l.take i).length=i:=by simp;omega
  simp only[go_sem];refine⟨fun h=>⟨by omega,call (avh (bs++(be8 l.length++beL (l.take i))) (el l i) (by simp only[small,List.length_append,az,dw,hti];omega)) [11] ?_⟩,fun h=> ?_⟩
  ·simp only[go_sem];refine⟨?_,i+1,⟨by omega,by omega⟩,?_⟩
   ·omega
   ·rw[cu h,lg];simp only[go_sem,List.map_append,List.append_assoc,beL,List.flatMap_cons,List.flatMap_nil];refine⟨by omega,?_⟩;rw[ae]<;>omega
  ·have:i=l.length:=by omega
   subst this;simp only[go_sem,List.take_length]
theorem w5(bs:List UInt8)(v:Int)(hb:small bs.length):Den Tryz.prog 225 [.vs (bs.map u8),.int .i64 v] [] (.os 0 (bs++be8 v).length) [.arr 5 1 false ((bs++be8 v).map u8)] []:=by
 refine aa Tryz.func225 rfl Tryz.call225 Tryz.ntmps225 Tryz.results225 (by simp) (by kernel_rfl) [8] (exts:=[]) rfl rfl ?_;simp only[go_sem];refine⟨by omega,?_⟩;refine loop Tryz.mixed 0 (fun m:Nat=>[(1,.int .i64 v),(5,.os 8 (bs++(be8 v).take m).length),(6,.int .i64 (7 - (m:Int)))]) (fun m=>[(8,.arr 5 1 false ((bs++(be8 v).take m).map u8))]) (fun m=>m<=8) (fun m=>8 - m) (by kernel_rfl) ?_ ?_ ?_
 ·simp
 ·simp only[go_sem]
 ·intro m hm;have hl:((be8 v).take m).length=m:=by simp[be8];omega
  simp only[go_sem];rw[hl];have e1:m<8->IntKind.u64.wrap (IntKind.i64.wrap (8*(7 - (m:Int))))=((56 - 8*m:Nat):Int):=fun h=>by rw[ae (by omega) (by omega),IntKind.wrap_u64];omega
  refine⟨fun h=>⟨by rw[e1]<;>omega,by omega,m+1,⟨by omega,by omega⟩,?_⟩,fun h=> ?_⟩
  ·have e0:(be8 v).take (m+1)=(be8 v).take m++[bAt v (56 - 8*m)]:=by
    have:m=0\/m=1\/m=2\/m=3\/m=4\/m=5\/m=6\/m=7:=by omega
    rcases this with rfl|rfl|rfl|rfl|rfl|rfl|rfl|rfl<;>rfl
   have e1:=e1 (by omega);have e2:min (56 - 8*m) 64=56 - 8*m:=by omega
   simp only[e0,e1,Int.toNat_natCast,e2];rw[aau];simp only[go_sem,List.map_append];refine⟨⟨by omega,?_⟩,?_⟩
   ·rw[ae]<;>omega
   ·simp
  ·have:m=8:=by omega
   subst this;simp[be8]
theorem a0o(bs:List UInt8)(s:List UInt8)(hb:small bs.length)(hs:small s.length):Den Tryz.prog 224 [.vs (bs.map u8),.str s] [] (.os 0 (bs++(be8 s.length++s)).length) [.arr 5 1 false ((bs++(be8 s.length++s)).map u8)] []:=by
 refine aa Tryz.func224 rfl Tryz.call224 Tryz.ntmps224 Tryz.results224 (by simp) (by kernel_rfl) [8] (exts:=[]) rfl rfl ?_;simp only[go_sem];refine call (w5 bs s.length hb) [] ?_;simp only[go_sem,az,List.append_assoc,List.map_append];omega
theorem a21(bs:List UInt8)(l:List Int)(hb:bs.length<=1000000000)(hl:l.length<=1000000000):Den Tryz.prog 226 [.vs (bs.map u8),.vs (l.map i1)] [] (.vs ((bs++(be8 l.length++beL l)).map u8)) [] []:=by
 refine aa Tryz.func226 rfl Tryz.call226 Tryz.ntmps226 Tryz.results226 (by simp) (by kernel_rfl) [] (exts:=[]) rfl rfl ?_;simp only[go_sem];refine call ((w5 bs l.length (by simp only[small];omega)).vs (by simp) trivial rfl) [] ?_;simp only[go_sem];refine loop Tryz.mixed 0 (fun i:Nat=>[(1,.vs (l.map i1)),(5,.vs ((bs++(be8 l.length++beL (l.take i))).map u8)),(6,.int .i64 i)]) (fun i=>[]) (fun i=>i<=l.length) (fun i=>l.length - i) (by kernel_rfl) ?_ ?_ ?_
 ·simp
 ·simp only[go_sem,List.take_zero,beL,List.flatMap_nil]
 ·intro i hi;have hti:(l.take i).length=i:=by simp;omega
  simp only[go_sem];refine⟨fun h=>⟨by omega,call ((w5 (bs++(be8 l.length++beL (l.take i))) (el l i) (by simp only[small,List.length_append,az,dw,hti];omega)).vs (by simp) trivial rfl) [] ?_⟩,fun h=> ?_⟩
  ·simp only[go_sem];refine⟨i+1,⟨by omega,by omega⟩,?_⟩;rw[cu h,lg];simp only[go_sem,List.map_append,List.append_assoc,beL,List.flatMap_cons,List.flatMap_nil];rw[ae]<;>omega
  ·have:i=l.length:=by omega
   subst this;simp only[go_sem,List.take_length]
def u4(x:Int):List PV:=[.int .u32 x]
theorem bjm(x:Int):u4 x=[.int .u32 x]:=rfl
theorem bfz(l:List Int)(i:Nat)(v:Int):(l.map u4).set i [.int .u32 v]=(l.set i v).map u4:=by rw[List.map_set];rfl
theorem bk8:min 24 32=24:=(rfl)
theorem bla:min 16 32=16:=(rfl)
theorem mn8:min 8 32=8:=(rfl)
theorem mn3:min 3 32=3:=(rfl)
theorem blg:min 10 32=10:=(rfl)
attribute [go_sem] bjm bfz bk8 bla mn8 mn3 blg
def ad(a b:Int):Int:=IntKind.u32.wrap (a+b)
def rot(x:Int)(n:Nat):Int:=bits .or .u32 (x.fdiv (2^n)) (IntKind.u32.wrap (x*2^(32 - n)))
def xo(a b:Int):Int:=bits .xor .u32 a b
def an(a b:Int):Int:=bits .and .u32 a b
def nt(a:Int):Int:=bits .xor .u32 IntKind.u32.max a
def sr(a:Int)(n:Nat):Int:=a.fdiv (2^n)
theorem ik(x:Int)(n:Nat){m:Int}(hm:m=n)(h0:0<n)(hn:n<32):Den Tryz.prog 279 [.int .u32 x,.int .u64 m] [] (.int .u32 (rot x n)) [] []:=by
 refine aa Tryz.func279 rfl Tryz.call279 Tryz.ntmps279 Tryz.results279 (by simp) (by kernel_rfl) [] (exts:=[]) rfl rfl ?_;simp only[go_sem];have e1:IntKind.u64.wrap (32 - m)=((32 - n:Nat):Int):=by rw[IntKind.wrap_u64];omega
 rw[e1,hm];have e2:min n 32=n:=by omega
 have e3:min (32 - n) 32=32 - n:=by omega
 simp only[Int.toNat_natCast,e2,e3,rot];exact⟨by omega,by omega,trivial⟩
def w16(b:List UInt8)(i:Nat):Int:=bits .or .u32 (bits .or .u32 (bits .or .u32 (IntKind.u32.wrap (IntKind.u32.wrap (el b (4*i)).toNat*2^24)) (IntKind.u32.wrap (IntKind.u32.wrap (el b (4*i+1)).toNat*2^16))) (IntKind.u32.wrap (IntKind.u32.wrap (el b (4*i+2)).toNat*2^8))) (IntKind.u32.wrap (el b (4*i+3)).toNat)
def wA(b:List UInt8):Nat->List Int
 |0=>List.replicate 64 0
 |m+1=>(wA b m).set m (w16 b m)
theorem apn(b:List UInt8): ∀m,(wA b m).length=64
 |0=>by simp[wA]
 |m+1=>by simp[wA,apn b m]
def wst(w:List Int)(m:Nat):Int:=
 ad (ad (ad (el w m) (xo (xo (rot (el w (m+1)) 7) (rot (el w (m+1)) 18)) (sr (el w (m+1)) 3))) (el w (m+9))) (xo (xo (rot (el w (m+14)) 17) (rot (el w (m+14)) 19)) (sr (el w (m+14)) 10))
def wB(b:List UInt8):Nat->List Int
 |0=>wA b 16
 |m+1=>(wB b m).set (16+m) (wst (wB b m) m)
theorem az8(b:List UInt8): ∀m,(wB b m).length=64
 |0=>apn b 16
 |m+1=>by simp[wB,az8 b m]
def rx(v:List Int)(k w:Int):Int:=ad (ad (ad (ad (el v 7) (xo (xo (rot (el v 4) 6) (rot (el v 4) 11)) (rot (el v 4) 25))) (xo (an (el v 4) (el v 5)) (an (nt (el v 4)) (el v 6)))) k) w
def rs(v:List Int):Int:=xo (xo (rot (el v 0) 2) (rot (el v 0) 13)) (rot (el v 0) 22)
def rm(v:List Int):Int:=xo (xo (an (el v 0) (el v 1)) (an (el v 0) (el v 2))) (an (el v 1) (el v 2))
def rnd(v:List Int)(k w:Int):List Int:=[ad (ad (rx v k w) (rs v)) (rm v),el v 0,el v 1,el v 2,ad (el v 3) (rx v k w),el v 4,el v 5,el v 6]
def aj9(h k w:List Int):Nat->List Int
 |0=>h
 |m+1=>rnd (aj9 h k w m) (el k m) (el w m)
theorem ac7{h k w:List Int}(hh:h.length=8): ∀m,(aj9 h k w m).length=8
 |0=>hh
 |_+1=>rfl
def fin(v h:List Int):Nat->List Int
 |0=>v
 |m+1=>(fin v h m).set m (ad (el (fin v h m) m) (el h m))
theorem aeo{v h:List Int}(hv:v.length=8): ∀m,(fin v h m).length=8
 |0=>hv
 |m+1=>by simp[fin,aeo hv m]
def a9e(h:List Int)(b:List UInt8)(k:List Int):List Int:=fin (aj9 h k (wB b 48) 64) h 8
theorem a12(h:List Int)(b:List UInt8)(k:List Int)(hh:h.length=8)(hb:b.length=64)(hk:k.length=64):Den Tryz.prog 223 [.vs (h.map u4),.vs (b.map u8),.vs (k.map u4)] [] (.vs ((a9e h b k).map u4)) [] []:=by
 refine aa Tryz.func223 rfl Tryz.call223 Tryz.ntmps223 Tryz.results223 (by simp) (by kernel_rfl) [] (exts:=[]) rfl rfl ?_;simp only[go_sem]
 (repeat refine And.intro (by first|omega|exact ag (by kernel_rfl)) ?_)
 refine loop Tryz.mixed 0 (fun i:Nat=>[(0,.vs (h.map u4)),(1,.vs (b.map u8)),(2,.vs (k.map u4)),(7,.os 19 64),(8,.int .i64 i)]) (fun i=>[(19,.arr 191 1 false ((wA b i).map u4))]) (fun i=>i<=16) (fun i=>16 - i) (by kernel_rfl) ?_ ?_ ?_
 ·simp
 ·simp only[go_sem,wA,List.map_replicate,vd]
 ·intro i hi;have e1:i<16->IntKind.i64.wrap (4*(i:Int))=((4*i:Nat):Int):=fun h=>by rw[ae]<;>omega
  have e2:i<16->IntKind.i64.wrap (((4*i:Nat):Int)+1)=((4*i+1:Nat):Int):=fun h=>by rw[ae]<;>omega
  have e3:i<16->IntKind.i64.wrap (((4*i:Nat):Int)+2)=((4*i+2:Nat):Int):=fun h=>by rw[ae]<;>omega
  have e4:i<16->IntKind.i64.wrap (((4*i:Nat):Int)+3)=((4*i+3:Nat):Int):=fun h=>by rw[ae]<;>omega
  have hw:=apn b i;by_cases hi':i<16
  ·simp only[go_sem,e1 hi',e2 hi',e3 hi',e4 hi',hw,hb];refine⟨fun _=>⟨by omega,by omega,by omega,by omega,by omega,by omega,ag (by kernel_rfl),i+1,⟨by omega,by omega⟩,?_⟩,fun h=>by omega⟩;exact⟨by rw[ae]<;>omega,rfl⟩
  ·have:i=16:=by omega
   have hf: ¬((i:Int)<16):=by omega
   simp only[go_sem,hf];subst this;refine loop Tryz.mixed 0 (fun m:Nat=>[(0,.vs (h.map u4)),(2,.vs (k.map u4)),(7,.os 19 64),(9,.int .i64 ((16+m:Nat):Int))]) (fun m=>[(19,.arr 191 1 false ((wB b m).map u4))]) (fun m=>m<=48) (fun m=>48 - m) (by kernel_rfl) ?_ ?_ ?_
   ·simp
   ·simp only[go_sem,wB]
   ·intro m hm;have hw:=az8 b m;by_cases hm':m<48
    ·have f1:IntKind.i64.wrap (((16+m:Nat):Int) - 15)=((m+1:Nat):Int):=by rw[ae]<;>omega
     have f2:IntKind.i64.wrap (((16+m:Nat):Int) - 2)=((m+14:Nat):Int):=by rw[ae]<;>omega
     have f3:IntKind.i64.wrap (((16+m:Nat):Int) - 16)=((m:Nat):Int):=by rw[ae]<;>omega
     have f4:IntKind.i64.wrap (((16+m:Nat):Int) - 7)=((m+9:Nat):Int):=by rw[ae]<;>omega
     simp only[go_sem,f1,f2,f3,f4,hw];refine⟨fun _=> ?_,fun h=>by omega⟩
     (repeat refine And.intro (by first|omega|exact ag (by kernel_rfl)) ?_)
     refine call (ik (el (wB b m) (m+1)) 7 rfl (by omega) (by omega)) [] ?_;simp only[go_sem,f1,f2,f3,f4,hw]
     (repeat refine And.intro (by first|omega|exact ag (by kernel_rfl)) ?_)
     refine call (ik (el (wB b m) (m+1)) 18 rfl (by omega) (by omega)) [] ?_;simp only[go_sem,f1,f2,f3,f4,hw]
     (repeat refine And.intro (by first|omega|exact ag (by kernel_rfl)) ?_)
     refine call (ik (el (wB b m) (m+14)) 17 rfl (by omega) (by omega)) [] ?_;simp only[go_sem,f1,f2,f3,f4,hw]
     (repeat refine And.intro (by first|omega|exact ag (by kernel_rfl)) ?_)
     refine call (ik (el (wB b m) (m+14)) 19 rfl (by omega) (by omega)) [] ?_;simp only[go_sem,f1,f2,f3,f4,hw]
     (repeat refine And.intro (by first|omega|exact ag (by kernel_rfl)) ?_)
     refine⟨m+1,⟨by omega,by omega⟩,?_⟩;exact⟨by rw[ae]<;>omega,rfl⟩
    ·have hf: ¬(((16+m:Nat):Int)<64):=by omega
     simp only[go_sem,hf];have:m=48:=by omega
     subst this
     (repeat refine And.intro (by first|omega|exact ag (by kernel_rfl)) ?_)
     generalize hW:wB b 48=W at*;refine bke Tryz.mixed 0 (fun j:Nat=>[(0,.vs (h.map u4)),(2,.vs (k.map u4)),(7,.vs (W.map u4)),(12,.os 123 8),(13,.int .i64 j)]) (fun j=>[(123,.arr 191 1 false ((aj9 h k W j).map u4))]) (fun j=>j<=64) (fun j=>64 - j) (by kernel_rfl) [] ?_ ?_ ?_
     ·simp
     ·simp only[go_sem,aj9,hw,hh]
     ·intro j hj;have hv:=ac7 (k:=k) (w:=W) hh j;by_cases hj':j<64
      ·have hR:aj9 h k W (j+1)=rnd (aj9 h k W j) (el k j) (el W j):=rfl;generalize aj9 h k W j=V at*;simp only[go_sem,hv,hw,hk];refine⟨fun _=> ?_,fun h=>by omega⟩
       (repeat refine And.intro (by first|omega|exact ag (by kernel_rfl)) ?_)
       refine call (ik (el V 4) 6 rfl (by omega) (by omega)) [] ?_;simp only[go_sem,hv,hw,hk];refine call (ik (el V 4) 11 rfl (by omega) (by omega)) [] ?_;simp only[go_sem,hv,hw,hk];refine call (ik (el V 4) 25 rfl (by omega) (by omega)) [] ?_;simp only[go_sem,hv,hw,hk]
       (repeat refine And.intro (by first|omega|exact ag (by kernel_rfl)) ?_)
       refine call (ik (el V 0) 2 rfl (by omega) (by omega)) [] ?_;simp only[go_sem,hv,hw,hk];refine call (ik (el V 0) 13 rfl (by omega) (by omega)) [] ?_;simp only[go_sem,hv,hw,hk];refine call (ik (el V 0) 22 rfl (by omega) (by omega)) [] ?_;simp only[go_sem,hv,hw,hk]
       (repeat refine And.intro (by first|omega|exact ag (by kernel_rfl)) ?_)
       refine⟨j+1,[(123,99),(240,123)],⟨by omega,by omega⟩,?_⟩;rw[hR];simp only[go_sem,hv,hw,hk];exact⟨by rw[ae]<;>omega,rfl⟩
      ·have hf: ¬((j:Int)<64):=by omega
       simp only[go_sem,hf];have:j=64:=by omega
       subst this;generalize hV:aj9 h k W 64=V at*;refine loop Tryz.mixed 0 (fun j:Nat=>[(0,.vs (h.map u4)),(12,.os 123 8),(18,.int .i64 j)]) (fun j=>[(123,.arr 191 1 false ((fin V h j).map u4))]) (fun j=>j<=8) (fun j=>8 - j) (by kernel_rfl) ?_ ?_ ?_
       ·simp
       ·simp only[go_sem,fin]
       ·intro j hj;have hfl:=aeo (h:=h) hv j;by_cases hj':j<8
        ·simp only[go_sem,hfl,hh];refine⟨fun _=> ?_,fun h=>by omega⟩
         (repeat refine And.intro (by first|omega|exact ag (by kernel_rfl)) ?_)
         exact⟨j+1,⟨by omega,by omega⟩,by rw[ae]<;>omega,rfl⟩
        ·have hf: ¬((j:Int)<8):=by omega
         simp only[go_sem,hf];have:j=8:=by omega
         subst this;simp only[go_sem,hfl];rw[a9e,hW,hV]
def kK:List Int:=[0x428a2f98,0x71374491,0xb5c0fbcf,0xe9b5dba5,0x3956c25b,0x59f111f1,0x923f82a4,0xab1c5ed5,
 0xd807aa98,0x12835b01,0x243185be,0x550c7dc3,0x72be5d74,0x80deb1fe,0x9bdc06a7,0xc19bf174,
 0xe49b69c1,0xefbe4786,0x0fc19dc6,0x240ca1cc,0x2de92c6f,0x4a7484aa,0x5cb0a9dc,0x76f988da,
 0x983e5152,0xa831c66d,0xb00327c8,0xbf597fc7,0xc6e00bf3,0xd5a79147,0x06ca6351,0x14292967,
 0x27b70a85,0x2e1b2138,0x4d2c6dfc,0x53380d13,0x650a7354,0x766a0abb,0x81c2c92e,0x92722c85,
 0xa2bfe8a1,0xa81a664b,0xc24b8b70,0xc76c51a3,0xd192e819,0xd6990624,0xf40e3585,0x106aa070,
 0x19a4c116,0x1e376c08,0x2748774c,0x34b0bcb5,0x391c0cb3,0x4ed8aa4a,0x5b9cca4f,0x682e6ff3,
 0x748f82ee,0x78a5636f,0x84c87814,0x8cc70208,0x90befffa,0xa4506ceb,0xbef9a3f7,0xc67178f2]
theorem ari:Den Tryz.prog 222 [] [] (.vs (kK.map u4)) [] []:=by
 refine aa Tryz.func222 rfl Tryz.call222 Tryz.ntmps222 Tryz.results222 (by simp) (by kernel_rfl) [] (exts:=[]) rfl rfl ?_;simp only[go_sem];rfl
theorem bi4(n:Nat):((n:Nat):Int).tmod 64=((n % 64:Nat):Int):=rfl
def aaj(n:Nat):Nat:=(119 - n % 64) % 64
theorem yv(n:Nat):(n+1+aaj n) % 64=56:=by unfold aaj;omega
theorem ayi{n z:Nat}(h:z<aaj n):(n+1+z) % 64≠56:=by unfold aaj at h;omega
theorem ane(n:Nat):aaj n<64:=by unfold aaj;omega
def af5(b:List UInt8)(z:Nat):List UInt8:=b++(128::List.replicate z 0)
theorem ae6(b:List UInt8)(z:Nat):(af5 b z).length=b.length+1+z:=by simp[af5];omega
theorem ags(b:List UInt8)(z:Nat):af5 b (z+1)=af5 b z++[0]:=by simp[af5,List.replicate_succ']
def acl(b:List UInt8):List UInt8:=af5 b (aaj b.length)++be8 ((8*b.length:Nat):Int)
theorem ao4(b:List UInt8): ∃q,(acl b).length=64*q/\64*q<=b.length+128:=by
 have:=yv b.length;have:=ane b.length;have hl:(acl b).length=b.length+1+aaj b.length+8:=by simp only[acl,List.length_append,ae6,az]
 exact⟨(b.length+1+aaj b.length+8)/64,by omega,by omega⟩
def h0:List Int:=[0x6a09e667,0xbb67ae85,0x3c6ef372,0xa54ff53a,0x510e527f,0x9b05688c,0x1f83d9ab,0x5be0cd19]
def hs(b:List UInt8):Nat->List Int
 |0=>h0
 |m+1=>a9e (hs b m) (((acl b).take (64*m+64)).drop (64*m)) kK
theorem aoe(b:List UInt8): ∀m,(hs b m).length=8
 |0=>rfl
 |m+1=>aeo (ac7 (aoe b m) 64) 8
def ap6(x:Int):List UInt8:=[bAt x 24,bAt x 16,bAt x 8,bAt x 0]
theorem ae7(l:List Int):(l.flatMap ap6).length=4*l.length:=by
 induction l with
 |nil=>rfl
 |cons a r ih=>simp only[List.flatMap_cons,List.length_append,List.length_cons,ih,ap6,List.length_nil];omega
theorem a97(v:Int):IntKind.u8.wrap v=((bAt v 0).toNat:Int):=by
 rw[<-aau];simp
def sha(b:List UInt8):List UInt8:=(hs b ((acl b).length/64)).flatMap ap6
theorem bfd(b:List UInt8)(hb:b.length<=1000000000):Den Tryz.prog 162 [.vs (b.map u8)] [] (.str (sha b)) [] []:=by
 refine aa Tryz.func162 rfl Tryz.call162 Tryz.ntmps162 Tryz.results162 (by simp) (by kernel_rfl) [] (exts:=[]) rfl rfl ?_;simp only[go_sem]
 (repeat refine And.intro (by first|omega|exact ag (by kernel_rfl)) ?_)
 refine loop Tryz.mixed 0 (fun z:Nat=>[(0,.vs (b.map u8)),(3,.os 11 8),(4,.os 13 (af5 b z).length)]) (fun z=>[(11,.arr 191 1 false (h0.map u4)),(13,.arr 5 1 false ((af5 b z).map u8))]) (fun z=>z<=aaj b.length) (fun z=>aaj b.length - z) (by kernel_rfl) ?_ ?_ ?_
 ·simp
 ·simp only[go_sem];simp[af5,u8,h0,u4]
 ·intro z hz;have hpl:=ae6 b z;have hpn:=ane b.length;by_cases hz':z<aaj b.length
  ·have hc: ¬((((af5 b z).length:Nat):Int).tmod 64=56):=by
    have:=ayi hz';rw[hpl,bi4];omega
   simp only[go_sem,hc];refine⟨by omega,z+1,⟨by omega,by omega⟩,?_⟩;rw[ags];simp only[go_sem,List.map_append];simp[u8]
  ·have hz2:z=aaj b.length:=by omega
   subst hz2
   have hc:(((af5 b (aaj b.length)).length:Nat):Int).tmod 64=56:=by
    have:=yv b.length;rw[hpl,bi4];omega
   simp only[go_sem,hc];generalize hp:af5 b (aaj b.length)=p at*;refine loop Tryz.mixed 0 (fun m:Nat=>[(3,.os 11 8),(4,.os 13 (p++(be8 ((8*b.length:Nat):Int)).take m).length),(5,.int .u64 ((8*b.length:Nat):Int)),(6,.int .i64 (7 - (m:Int)))]) (fun m=>[(11,.arr 191 1 false (h0.map u4)),(13,.arr 5 1 false ((p++(be8 ((8*b.length:Nat):Int)).take m).map u8))]) (fun m=>m<=8) (fun m=>8 - m) (by kernel_rfl) ?_ ?_ ?_
   ·simp
   ·simp only[go_sem,List.take_zero,List.append_nil];simp only[IntKind.wrap_u64];omega
   ·intro m hm;generalize hv:8*b.length=v at*;have hl:((be8 (v:Int)).take m).length=m:=by simp[be8];omega
    have e1:m<8->IntKind.u64.wrap (IntKind.i64.wrap (8*(7 - (m:Int))))=((56 - 8*m:Nat):Int):=fun h=>by rw[ae (by omega) (by omega),IntKind.wrap_u64];omega
    by_cases hm':m<8
    ·have e0:(be8 (v:Int)).take (m+1)=(be8 (v:Int)).take m++[bAt v (56 - 8*m)]:=by
      have:m=0\/m=1\/m=2\/m=3\/m=4\/m=5\/m=6\/m=7:=by omega
      rcases this with rfl|rfl|rfl|rfl|rfl|rfl|rfl|rfl<;>rfl
     have e2:min (56 - 8*m) 64=56 - 8*m:=by omega
     have hc:(0:Int)<=7 - (m:Int):=by omega
     rw[List.length_append,hl];simp only[go_sem,e1 hm',hc,e2,aau,hl];refine⟨by omega,m+1,⟨by omega,by omega⟩,?_⟩;rw[e0];simp only[go_sem,List.map_append,List.append_assoc,hl];rw[ae]<;>omega
    ·have hm2:m=8:=by omega
     subst hm2;have hS:p++(be8 (v:Int)).take 8=acl b:=by rw[acl,hp,hv];rfl
     rw[hS];simp only[go_sem];refine call ari [] ?_;simp only[go_sem];obtain⟨q0,hq0,hq1⟩:=ao4 b;have hkl:kK.length=64:=rfl;refine loop Tryz.mixed 0 (fun q:Nat=>[(3,.vs ((hs b q).map u4)),(4,.vs ((acl b).map u8)),(7,.vs (kK.map u4)),(8,.int .i64 ((64*q:Nat):Int))]) (fun q=>[]) (fun q=>q<=q0) (fun q=>q0 - q) (by kernel_rfl) ?_ ?_ ?_
     ·simp
     ·simp only[go_sem,hs];rfl
     ·intro q hq;have hhl:=aoe b q;by_cases hq':q<q0
      ·have e1:IntKind.i64.wrap (((64*q:Nat):Int)+64)=((64*q+64:Nat):Int):=by rw[ae]<;>omega
       have hcl:((acl b).take (64*q+64)|>.drop (64*q)).length=64:=by simp;omega
       simp only[go_sem,hq0,e1,Int.toNat_natCast];refine⟨fun _=>⟨⟨by omega,by omega,by omega⟩,?_⟩,fun h=>by omega⟩;refine call (a12 (hs b q) _ kK hhl hcl hkl) [] ?_;simp only[go_sem,e1];exact⟨q+1,⟨by omega,by omega⟩,rfl,by omega⟩
      ·have hq2:q=q0:=by omega
       subst hq2;have hf: ¬(((64*q:Nat):Int)<((acl b).length:Int)):=by omega
       simp only[go_sem,hf];have hsha:sha b=(hs b q).flatMap ap6:=by rw[sha,hq0,Nat.mul_div_cancel_left _ (by omega)]
       generalize hV:hs b q=V at*;refine da 9 14 5 1 false ?_ ?_ ?_ (by omega)
       ·refine loop Tryz.mixed 0 (fun j:Nat=>[(3,.vs (V.map u4)),(9,.os 14 ((V.take j).flatMap ap6).length),(10,.int .i64 j)]) (fun j=>[(14,.arr 5 1 false (((V.take j).flatMap ap6).map u8))]) (fun j=>j<=8) (fun j=>8 - j) (by kernel_rfl) ?_ ?_ ?_
        ·simp
        ·simp only[go_sem,List.take_zero,List.flatMap_nil]
        ·intro j hj
         have hjl:((V.take j).flatMap ap6).length=4*j:=by
          rw[ae7];simp;omega
         by_cases hj':j<8
         ·simp only[go_sem,hhl];refine⟨fun _=> ?_,fun h=>by omega⟩
          (repeat refine And.intro (by first|omega|exact ag (by kernel_rfl)) ?_)
          refine⟨j+1,⟨by omega,by omega⟩,?_⟩;rw[cu (by omega),aau,aau,aau,a97];simp only[go_sem,List.flatMap_append,List.map_append,List.flatMap_cons,List.flatMap_nil,ap6];rw[ae]<;>omega
         ·have hj2:j=8:=by omega
          subst hj2;have hV8:V.take 8=V:=by rw[<-hhl,List.take_length]
          rw[hV8,<-hsha];simp only[go_sem];exact⟨_,rfl,rfl⟩
       ·simp only[go_sem]
       ·simp only[go_sem]
end Go.Proofs.Am
