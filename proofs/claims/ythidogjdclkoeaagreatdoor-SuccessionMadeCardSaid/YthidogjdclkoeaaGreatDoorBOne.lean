/- BOne. -/
import Derived.Test.YthidogjdclkoeaaGreatDoorAmV
import Derived.Test.YthidogjdclkoeaaGreatDoorR1F
import Derived.Laws.Bits64
import Derived.Laws.Bits64b
set_option maxHeartbeats 1000000
set_option maxRecDepth 100000
set_option linter.unusedSimpArgs false
set_option linter.unusedVariables false
namespace Go.Proofs.Am
open Go Go.RowKit
open Go.Proofs
theorem Tryz.mixed:Tryz.prog.follows .mixedOrders=true:=by kernel_rfl
def i1(x:Int):List PV:=[.int .i64 x]
theorem aud(x:Int):i1 x=[.int .i64 x]:=rfl
attribute [go_sem] aud
abbrev big(n:Nat):Prop:=n<4611686018427387904
theorem ai{n:Int}(h: -9223372036854775808<=n)(h':n<9223372036854775808):IntKind.i64.wrap n=n:=by rw[IntKind.wrap_i64];omega
theorem gj{l:List Int}{i:Nat}(h:i<l.length):el l i∈l:=by
 simp only[el,bq,bf h,Option.getD_some];exact List.getElem_mem h
theorem w6{l:List Int}{x:Int}(h:x∈l): ∃i,i<l.length/\el l i=x:=by
 obtain⟨i,h1,h2⟩:=List.getElem_of_mem h;exact⟨i,h1,by simp only[el,bq,bf h1,Option.getD_some];exact h2⟩
theorem tw{l:List Int}{x:Int}{n:Nat}(hn:l.length<=n)(h: ∀j,j<n->el l j≠x):x∉l:=fun hx=>by
 obtain⟨i,h1,h2⟩:=w6 hx;exact h i (by omega) h2
theorem sv(a:Int)(l:List Int)(i:Nat):el (a::l) (i+1)=el l i:=by simp[el]
theorem th(a:Int)(l:List Int):el (a::l) 0=a:=by simp[el]
theorem azm: ∀{l:List Int} {i:Nat} {k:Int},i<l.length->k=el l i->(∀j,j<i->el l j≠k)->l.idxOf k=i
 |[],_,_,h,_,_=>by simp at h
 |a::l,0,k,_,hk,_=>by rw[hk,th];simp
 |a::l,i+1,k,h,hk,hn=>by
  have h0:=hn 0 (by omega);rw[th]at h0;rw[sv]at hk;have:=azm (l:=l) (i:=i) (k:=k) (by simpa using h) hk fun j hj=>by have:=hn (j+1) (by omega);rwa [sv]at this
  rw[List.idxOf_cons,this];have:(a==k)=false:=by simpa using h0
  simp only[this,cond_false]
theorem avy(l:List Int)(k:Int)(hl:big l.length):Den Tryz.prog 69 [.vs (l.map i1),.int .i64 k] [] (.bool (decide (k∈l))) [] []:=by
 refine aa Tryz.func69 rfl Tryz.call69 Tryz.ntmps69 Tryz.results69 (by simp) (by kernel_rfl) [] (exts:=[]) rfl rfl ?_;simp only[go_sem];refine loop (by kernel_rfl) 0 (fun i:Nat=>[(0,.vs (l.map i1)),(1,.int .i64 k),(5,.int .i64 i)]) (fun _=>[]) (fun i=>i<=l.length/\∀j,j<i->el l j≠k) (fun i=>l.length - i) (by kernel_rfl) ?_ ?_ ?_
 ·simp
 ·simp only[go_sem]
 ·intro i ⟨hi,hn⟩;simp only[go_sem];refine⟨fun h=>⟨by omega,fun e=> ?_,fun e=>⟨i+1,⟨⟨by omega,fun j hj=> ?_⟩,by omega⟩,?_⟩⟩,fun h=> ?_⟩
  ·rw[<-e];simp[gj h]
  ·rcases Nat.lt_succ_iff_lt_or_eq.1 hj with h'|h'
   ·exact hn j h'
   ·rw[h'];exact e
  ·rw[ai]<;>omega
  ·simp[tw (by omega) hn]
theorem at3(l:List Int)(k:Int)(hl:big l.length):Den Tryz.prog 153 [.vs (l.map i1),.int .i64 k] [] (.int .i64 (if k∈l then(l.idxOf k:Nat)else -1)) [] []:=by
 refine aa Tryz.func153 rfl Tryz.call153 Tryz.ntmps153 Tryz.results153 (by simp) (by kernel_rfl) [] (exts:=[]) rfl rfl ?_;simp only[go_sem];refine loop (by kernel_rfl) 0 (fun i:Nat=>[(0,.vs (l.map i1)),(1,.int .i64 k),(7,.int .i64 l.length),(8,.int .i64 i)]) (fun _=>[]) (fun i=>i<=l.length/\∀j,j<i->el l j≠k) (fun i=>l.length - i) (by kernel_rfl) ?_ ?_ ?_
 ·simp
 ·simp only[go_sem]
 ·intro i ⟨hi,hn⟩;simp only[go_sem];refine⟨fun h=>⟨by omega,fun e=> ?_,fun e=>⟨i+1,⟨⟨by omega,fun j hj=> ?_⟩,by omega⟩,?_⟩⟩,fun h=> ?_⟩
  ·have hm:k∈l:=by rw[e];exact gj h
   rw[if_pos hm];rw[azm h e hn]
  ·rcases Nat.lt_succ_iff_lt_or_eq.1 hj with h'|h'
   ·exact hn j h'
   ·rw[h'];exact fun h2=>e h2.symm
  ·rw[ai]<;>omega
  ·rw[if_neg (tw (by omega) hn)]
theorem aew(l:List Int)(k:Int)(hl:big l.length):Den Tryz.prog 133 [.vs (l.map i1),.int .i64 k] [] (.bool (decide (k∈l))) [] []:=by
 refine aa Tryz.func133 rfl Tryz.call133 Tryz.ntmps133 Tryz.results133 (by simp) (by kernel_rfl) [] (exts:=[]) rfl rfl ?_;simp only[go_sem];refine call (at3 l k hl) [] ?_;simp only[go_sem];by_cases h:k∈l
 ·simp[h]
 ·simp[h]
def azs(n m:Int):Int:=if m<1 then 0 else n % m
theorem auu{n m:Int}(hm:0<m)(h:n.tmod m<0):n.tmod m+m=n % m:=by
 have h1:=Int.lt_tmod_of_pos n (b:=m) hm;have e1:=Int.mul_tdiv_add_tmod n m;have e:n=(n.tmod m+m)+m*(n.tdiv m - 1):=by rw[Int.mul_sub];omega
 conv=>rhs;rw[e]
 rw[Int.add_mul_emod_self_left];exact(Int.emod_eq_of_lt (by omega) (by omega)).symm
theorem alk{n m:Int}(hm:0<m)(h: ¬n.tmod m<0):n.tmod m=n % m:=by
 have h1:=Int.tmod_lt_of_pos n (b:=m) hm;have e1:=Int.mul_tdiv_add_tmod n m;have e:n=n.tmod m+m*(n.tdiv m):=by omega
 conv=>rhs;rw[e]
 rw[Int.add_mul_emod_self_left];exact(Int.emod_eq_of_lt (by omega) (by omega)).symm
theorem a81(n m:Int)(hm:m<9223372036854775808):Den Tryz.prog 28 [.int .i64 n,.int .i64 m] [] (.int .i64 (azs n m)) [] []:=by
 refine aa Tryz.func28 rfl Tryz.call28 Tryz.ntmps28 Tryz.results28 (by simp) (by kernel_rfl) [] (exts:=[]) rfl rfl ?_;simp only[go_sem];refine⟨fun h=> ?_,fun h=>⟨by omega,fun h'=> ?_,fun h'=> ?_⟩⟩
 ·simp[azs,h]
 ·have h2:=Int.lt_tmod_of_pos n (b:=m) (by omega);rw[ai (by omega) (by omega)];simp only[azs,if_neg h];exact auu (by omega) h'
 ·simp only[azs,if_neg h];exact alk (by omega) h'
def aj(l:List Int)(p:Nat)(n:Int):Int:=if p<l.length then azs (el l p) n else 0
def aca(l:List Int)(p:Nat):Nat:=if p<l.length then p+1 else p
abbrev q7(l:List Int)(p:Nat):Box:= .cells [.vs (l.map i1),.int .i64 p]
theorem ax(l:List Int)(p:Nat)(n:Int)(hl:big l.length)(hp:p<=l.length)(hn:n<9223372036854775808):Den Tryz.prog 9 [.ptr 1000000 0,.int .i64 n] [q7 l p] (.int .i64 (aj l p n)) [] [q7 l (aca l p)]:=by
 refine aa Tryz.func9 rfl Tryz.call9 Tryz.ntmps9 Tryz.results9 (by simp) (by kernel_rfl) [] (exts:=[1000000]) rfl rfl ?_;simp only[go_sem];refine⟨ae (by kernel_rfl),fun h=> ?_,fun h=> ?_⟩
 ·have: ¬p<l.length:=by omega
  simp[aca,aj,this]
 ·have e1:IntKind.i64.wrap ((p:Int)+1)=(p:Int)+1:=ai (by omega) (by omega);have e2:IntKind.i64.wrap ((p:Int)+1 - 1)=(p:Int):=by rw[ai]<;>omega
  simp only[e1,e2];refine⟨by omega,call (a81 (el l (p:Int).toNat) n hn) [] ?_⟩;simp only[go_sem];have hp:p<l.length:=by omega
  refine⟨ae (by kernel_rfl),?_,?_⟩
  ·simp[aca,hp]
  ·simp[aj,hp]
theorem a2h{l:List Int}{p:Nat}(h:p<=l.length):aca l p<=l.length:=by unfold aca;split<;>omega
theorem a15{n m:Int}(h:0<m):0<=azs n m/\azs n m<m:=by
 unfold azs;rw[if_neg (by omega)];exact⟨Int.emod_nonneg _ (by omega),Int.emod_lt_of_pos _ h⟩
theorem bh{l:List Int}{p:Nat}{n:Int}(h:0<n):0<=aj l p n/\aj l p n<n:=by
 unfold aj;split
 ·exact a15 h
 ·omega
theorem acq(l:List Int)(p:Nat)(n:Int)(hl:big l.length)(hp:p<=l.length)(h0:0<n)(hn:n<9223372036854775808):Den Tryz.prog 29 [.ptr 1000000 0,.int .i64 n] [q7 l p] (.bool (decide (aj l p n=n - 1))) [] [q7 l (aca l p)]:=by
 refine aa Tryz.func29 rfl Tryz.call29 Tryz.ntmps29 Tryz.results29 (by simp) (by kernel_rfl) [] (exts:=[1000000]) rfl rfl ?_;simp only[go_sem];refine call (ax l p n hl hp hn) [1000000] ?_;simp only[go_sem];rw[ai (by omega) (by omega)]
theorem ph(l:List Int)(p:Nat)(xs:List Int)(hl:big l.length)(hp:p<=l.length)(hx:0<xs.length)(hxb:big xs.length):Den Tryz.prog 13 [.ptr 1000000 0,.vs (xs.map i1)] [q7 l p] (.int .i64 (el xs (aj l p xs.length).toNat)) [] [q7 l (aca l p)]:=by
 refine aa Tryz.func13 rfl Tryz.call13 Tryz.ntmps13 Tryz.results13 (by simp) (by kernel_rfl) [] (exts:=[1000000]) rfl rfl ?_;simp only[go_sem];refine call (ax l p xs.length hl hp (by omega)) [1000000] ?_;simp only[go_sem];have:=bh (l:=l) (p:=p) (n:=xs.length) (by omega);omega
theorem a5i(l:List Int):Den Tryz.prog 17 [.vs (l.map i1)] [] (.ptr 0 0) [q7 l 0] []:=by
 refine aa Tryz.func17 rfl Tryz.call17 Tryz.ntmps17 Tryz.results17 (by simp) (by kernel_rfl) [5] (exts:=[]) rfl rfl ?_;simp only[go_sem]
theorem a78(l:List Int):Den Tryz.prog 6 [.vs (l.map i1)] [] (.ptr 0 0) [q7 l 0] []:=by
 refine aa Tryz.func6 rfl Tryz.call6 Tryz.ntmps6 Tryz.results6 (by simp) (by kernel_rfl) [4] (exts:=[]) rfl rfl ?_;simp only[go_sem];refine call (a5i l) [] ?_;simp only[go_sem]
theorem pp(l:List Int):Den Tryz.prog 4 [.vs (l.map i1)] [] (.bool (decide (l.length<=400))) [] []:=by
 refine aa Tryz.func4 rfl Tryz.call4 Tryz.ntmps4 Tryz.results4 (by simp) (by kernel_rfl) [] (exts:=[]) rfl rfl ?_;simp only[go_sem];simp only[decide_eq_decide];omega
theorem ml(a b:List Int)(ha:big a.length)(hb:big b.length):Den Tryz.prog 16 [.vs (a.map i1),.vs (b.map i1)] [] (.bool (decide (a=b))) [] []:=by
 refine aa Tryz.func16 rfl Tryz.call16 Tryz.ntmps16 Tryz.results16 (by simp) (by kernel_rfl) [] (exts:=[]) rfl rfl ?_;simp only[go_sem];refine⟨fun h=> ?_,fun h=> ?_⟩
 ·have: ¬a=b:=fun e=>h (by rw[e]);simp[this]
 have hlen:a.length=b.length:=by omega
 refine loop Tryz.mixed 0 (fun i:Nat=>[(0,.vs (a.map i1)),(1,.vs (b.map i1)),(5,.int .i64 i)]) (fun _=>[]) (fun i=>i<=a.length/\∀j,j<i->el a j=el b j) (fun i=>a.length - i) (by kernel_rfl) ?_ ?_ ?_
 ·simp
 ·simp only[go_sem]
 ·intro i ⟨hi,hn⟩;simp only[go_sem];refine⟨fun h=>⟨by omega,by omega,ae (by kernel_rfl),fun e=> ?_,fun e=>⟨i+1,⟨⟨by omega,fun j hj=> ?_⟩,by omega⟩,?_⟩⟩,fun h=> ?_⟩
  ·have: ¬a=b:=fun e'=>e (by rw[e']);simp[this]
  ·rcases Nat.lt_succ_iff_lt_or_eq.1 hj with h'|h'
   ·exact hn j h'
   ·rw[h'];exact e
  ·rw[ai]<;>omega
  ·have:a=b:=by
    apply List.ext_getElem hlen;intro j h1 h2;have:=hn j (by omega);simpa [el,bq,h1,h2] using this
   simp[this]
def bm(c:Int->Bool)(n:Nat):List Int:=((List.range n).map fun i:Nat=>(i:Int)).filter c
theorem fu(c:Int->Bool)(n:Nat):bm c (n+1)=bm c n++(if c n then [(n:Int)]else []):=by
 simp only[bm,List.range_succ,List.map_append,List.filter_append,List.map_cons,List.map_nil,List.filter_cons,List.filter_nil]
theorem fi(c:Int->Bool): ∀n,(bm c n).length<=n:=fun n=>by
 have:=List.length_filter_le c ((List.range n).map fun i:Nat=>(i:Int));simpa [bm] using this
theorem qu{c:Int->Bool}{n:Nat}{x:Int}:x∈bm c n↔(0<=x/\x<n)/\c x=true:=by
 simp only[bm,List.mem_filter,List.mem_map,List.mem_range];constructor
 ·rintro⟨⟨i,h1,rfl⟩,h2⟩;exact⟨⟨by omega,by omega⟩,h2⟩
 ·rintro⟨⟨h0,h1⟩,h2⟩;exact⟨⟨x.toNat,by omega,by omega⟩,h2⟩
def bAt(v:Int)(j:Nat):UInt8:=UInt8.ofNat ((v/(2:Int)^j) % 256).toNat
def be8(v:Int):List UInt8:=[bAt v 56,bAt v 48,bAt v 40,bAt v 32,bAt v 24,bAt v 16,bAt v 8,bAt v 0]
theorem afr(v:Int)(j:Nat):((bAt v j).toNat:Int)=(v/(2:Int)^j) % 256:=by
 have h1:=Int.emod_nonneg (v/(2:Int)^j) (b:=256) (by omega);have h2:=Int.emod_lt_of_pos (v/(2:Int)^j) (b:=256) (by omega);simp only[bAt];rw[UInt8.toNat_ofNat'];omega
theorem yn(v:Int)(j:Nat):IntKind.u8.wrap (v.fdiv ((2:Int)^j))=((bAt v j).toNat:Int):=by
 have h:(0:Int)<=(2:Int)^j:=Int.pow_nonneg (by omega);rw[IntKind.wrap_u8,afr,Int.fdiv_eq_ediv_of_nonneg _ h]
theorem aak(v:Int)(j:Nat)(hj:j<=56):IntKind.u8.wrap ((IntKind.u64.wrap v).fdiv ((2:Int)^j))=((bAt v j).toNat:Int):=by
 have h:(0:Int)<(2:Int)^j:=Int.pow_pos (by omega);rw[IntKind.wrap_u8,afr,Int.fdiv_eq_ediv_of_nonneg _ (by omega),IntKind.wrap_u64]
 have e64:(18446744073709551616:Int)=(2:Int)^j*(256*(2:Int)^(56 - j)):=by
  rw[show(256:Int)=2^8 by rfl,<-Int.pow_add,<-Int.pow_add];have:j+(8+(56 - j))=64:=by omega
  rw[this];rfl
 have e1:v=(v % 18446744073709551616)+(2:Int)^j*(256*(2:Int)^(56 - j))*(v/18446744073709551616):=by
  rw[<-e64];have:=Int.emod_add_mul_ediv v 18446744073709551616;omega
 generalize v % 18446744073709551616=r at*;generalize v/18446744073709551616=q at*;rw[e1,Int.mul_assoc,Int.add_mul_ediv_left _ _ (by omega),Int.mul_assoc,Int.add_mul_emod_self_left]
abbrev small(n:Nat):Prop:=n<=1000000000000
theorem aqm(bs:List UInt8)(v:Int)(hb:small bs.length):Den Tryz.prog 242 [.os 1000000 bs.length,.int .i64 v] [.arr 5 1 false (bs.map u8)] (.os 1000000 (bs++be8 v).length) [] [.arr 5 1 false ((bs++be8 v).map u8)]:=by
 refine aa Tryz.func242 rfl Tryz.call242 Tryz.ntmps242 Tryz.results242 (by simp) (by kernel_rfl) [] (exts:=[1000000]) rfl rfl ?_;simp only[go_sem];refine loop Tryz.mixed 0 (fun m:Nat=>[(0,.os 1000000 (bs++(be8 v).take m).length),(1,.int .i64 v),(5,.int .i64 (56 - 8*(m:Int)))]) (fun m=>[(1000000,.arr 5 1 false ((bs++(be8 v).take m).map u8))]) (fun m=>m<=8) (fun m=>8 - m) (by kernel_rfl) ?_ ?_ ?_
 ·simp
 ·simp only[go_sem]
 ·intro m hm;have hl:((be8 v).take m).length=m:=by simp[be8];omega
  simp only[go_sem];rw[hl];have e1:m<8->IntKind.u64.wrap (56 - 8*(m:Int))=((56 - 8*m:Nat):Int):=fun h=>by rw[IntKind.wrap_u64];omega
  refine⟨fun h=>⟨by rw[e1]<;>omega,by omega,m+1,⟨by omega,by omega⟩,?_⟩,fun h=> ?_⟩
  ·have e0:(be8 v).take (m+1)=(be8 v).take m++[bAt v (56 - 8*m)]:=by
    have:m=0\/m=1\/m=2\/m=3\/m=4\/m=5\/m=6\/m=7:=by omega
    rcases this with rfl|rfl|rfl|rfl|rfl|rfl|rfl|rfl<;>rfl
   have e1:=e1 (by omega);have e2:min (56 - 8*m) 64=56 - 8*m:=by omega
   simp only[e0,e1,Int.toNat_natCast,e2];rw[aak _ _ (by omega)];simp only[go_sem,List.map_append];refine⟨⟨by omega,?_⟩,?_⟩
   ·rw[ai]<;>omega
   ·simp
  ·have:m=8:=by omega
   subst this;simp[be8]
theorem aw(v:Int):(be8 v).length=8:=rfl
theorem as8(bs:List UInt8)(hb:small bs.length):Den Tryz.prog 243 [.vs (bs.map u8)] [] (.os 0 bs.length) [.arr 5 1 false (bs.map u8)] []:=by
 cases bs with
 |nil=>
  refine arz [] fun b=> ?_;refine aqk Tryz.mixed Tryz.func243 rfl Tryz.call243 Tryz.ntmps243 (congrArg Array.toList Tryz.results243) (by simp) (by kernel_rfl) (exts:=[]) rfl rfl ?_;simp only[go_sem];refine⟨fun h=>ahc [(2,99,5,1)] [99] ?_ ?_,fun h=>ahc [] [5] ?_ ?_⟩
  ·simp only[go_sem]
  ·simp only[go_sem]
  ·simp only[go_sem]
  ·simp only[go_sem]
 |cons c bs=>
  refine aqk Tryz.mixed Tryz.func243 rfl Tryz.call243 Tryz.ntmps243 (congrArg Array.toList Tryz.results243) (by simp) (by kernel_rfl) (exts:=[]) rfl rfl ?_;have hb':small (bs.length+1):=by simpa using hb
  simp only[go_sem,Nat.zero_lt_succ,List.mem_map,List.forall_mem_cons];refine⟨?_,by omega,ahc [] [5] ?_ ?_⟩
  ·rintro y (rfl|⟨a,_,rfl⟩)<;>rfl
  ·simp only[go_sem]
  ·simp only[go_sem]
theorem abs(bs:List UInt8)(v:Int)(hb:small bs.length):Den Tryz.prog 229 [.vs (bs.map u8),.int .i64 v] [] (.os 0 (bs++be8 v).length) [.arr 5 1 false ((bs++be8 v).map u8)] []:=by
 refine aa Tryz.func229 rfl Tryz.call229 Tryz.ntmps229 Tryz.results229 (by simp) (by kernel_rfl) [6] (exts:=[]) rfl rfl ?_;simp only[go_sem];refine call (as8 bs hb) [] ?_;simp only[go_sem];refine call (aqm bs v hb) [6] ?_;simp only[go_sem];omega
theorem aqy(bs:List UInt8)(s:List UInt8)(hb:small bs.length)(hs:small s.length):Den Tryz.prog 230 [.vs (bs.map u8),.str s] [] (.os 0 (bs++(be8 s.length++s)).length) [.arr 5 1 false ((bs++(be8 s.length++s)).map u8)] []:=by
 refine aa Tryz.func230 rfl Tryz.call230 Tryz.ntmps230 Tryz.results230 (by simp) (by kernel_rfl) [8] (exts:=[]) rfl rfl ?_;simp only[go_sem];refine call (abs bs s.length hb) [] ?_;simp only[go_sem,aw,List.append_assoc,List.map_append];omega
def beL(l:List Int):List UInt8:=l.flatMap be8
theorem dw(l:List Int):(beL l).length=8*l.length:=by
 induction l with
 |nil=>rfl
 |cons a r ih=>simp only[beL,List.flatMap_cons,List.length_append,aw,List.length_cons]at*;omega
theorem i8(l m:List Int):beL (l++m)=beL l++beL m:=by simp[beL]
theorem c9{α:Type} [Inhabited α]{l:List α}{i:Nat}(h:i<l.length):l.take (i+1)=l.take i++[el l i]:=by
 simp[el,bq,h,List.take_append_getElem]
theorem aq1(bs:List UInt8)(l:List Int)(hb:bs.length<=1000000000)(hl:l.length<=1000000000):Den Tryz.prog 231 [.vs (bs.map u8),.vs (l.map i1)] [] (.os 0 (bs++(be8 l.length++beL l)).length) [.arr 5 1 false ((bs++(be8 l.length++beL l)).map u8)] []:=by
 refine aa Tryz.func231 rfl Tryz.call231 Tryz.ntmps231 Tryz.results231 (by simp) (by kernel_rfl) [11] (exts:=[]) rfl rfl ?_;simp only[go_sem];refine call (abs bs l.length (by simp only[small];omega)) [] ?_;simp only[go_sem];refine loop Tryz.mixed 0 (fun i:Nat=>[(1,.vs (l.map i1)),(5,.os 11 (bs++(be8 l.length++beL (l.take i))).length),(12,.vs (l.map i1)),(13,.int .i64 l.length),(14,.int .i64 i)]) (fun i=>[(11,.arr 5 1 false ((bs++(be8 l.length++beL (l.take i))).map u8))]) (fun i=>i<=l.length) (fun i=>l.length - i) (by kernel_rfl) ?_ ?_ ?_
 ·simp
 ·simp only[go_sem,List.take_zero,beL,List.flatMap_nil]
 ·intro i hi;have hti:(l.take i).length=i:=by simp;omega
  simp only[go_sem];refine⟨fun h=>⟨by omega,call (aqm (bs++(be8 l.length++beL (l.take i))) (el l i) (by simp only[small,List.length_append,aw,dw,hti];omega)) [11] ?_⟩,fun h=> ?_⟩
  ·simp only[go_sem];refine⟨?_,i+1,⟨by omega,by omega⟩,?_⟩
   ·omega
   ·rw[c9 h,i8];simp only[go_sem,List.map_append,List.append_assoc,beL,List.flatMap_cons,List.flatMap_nil];refine⟨by omega,?_⟩;rw[ai]<;>omega
  ·have:i=l.length:=by omega
   subst this;simp only[go_sem,List.take_length]
theorem va(bs:List UInt8)(v:Int)(hb:small bs.length):Den Tryz.prog 146 [.vs (bs.map u8),.int .i64 v] [] (.os 0 (bs++be8 v).length) [.arr 5 1 false ((bs++be8 v).map u8)] []:=by
 refine aa Tryz.func146 rfl Tryz.call146 Tryz.ntmps146 Tryz.results146 (by simp) (by kernel_rfl) [8] (exts:=[]) rfl rfl ?_;simp only[go_sem];refine⟨by omega,?_⟩;refine loop Tryz.mixed 0 (fun m:Nat=>[(1,.int .i64 v),(5,.os 8 (bs++(be8 v).take m).length),(6,.int .i64 (7 - (m:Int)))]) (fun m=>[(8,.arr 5 1 false ((bs++(be8 v).take m).map u8))]) (fun m=>m<=8) (fun m=>8 - m) (by kernel_rfl) ?_ ?_ ?_
 ·simp
 ·simp only[go_sem]
 ·intro m hm;have hl:((be8 v).take m).length=m:=by simp[be8];omega
  simp only[go_sem];rw[hl];have e1:m<8->IntKind.u64.wrap (IntKind.i64.wrap (8*(7 - (m:Int))))=((56 - 8*m:Nat):Int):=fun h=>by rw[ai (by omega) (by omega),IntKind.wrap_u64];omega
  refine⟨fun h=>⟨by rw[e1]<;>omega,by omega,m+1,⟨by omega,by omega⟩,?_⟩,fun h=> ?_⟩
  ·have e0:(be8 v).take (m+1)=(be8 v).take m++[bAt v (56 - 8*m)]:=by
    have:m=0\/m=1\/m=2\/m=3\/m=4\/m=5\/m=6\/m=7:=by omega
    rcases this with rfl|rfl|rfl|rfl|rfl|rfl|rfl|rfl<;>rfl
   have e1:=e1 (by omega);have e2:min (56 - 8*m) 64=56 - 8*m:=by omega
   simp only[e0,e1,Int.toNat_natCast,e2];rw[yn];simp only[go_sem,List.map_append];refine⟨⟨by omega,?_⟩,?_⟩
   ·rw[ai]<;>omega
   ·simp
  ·have:m=8:=by omega
   subst this;simp[be8]
theorem at1(bs:List UInt8)(s:List UInt8)(hb:small bs.length)(hs:small s.length):Den Tryz.prog 145 [.vs (bs.map u8),.str s] [] (.os 0 (bs++(be8 s.length++s)).length) [.arr 5 1 false ((bs++(be8 s.length++s)).map u8)] []:=by
 refine aa Tryz.func145 rfl Tryz.call145 Tryz.ntmps145 Tryz.results145 (by simp) (by kernel_rfl) [8] (exts:=[]) rfl rfl ?_;simp only[go_sem];refine call (va bs s.length hb) [] ?_;simp only[go_sem,aw,List.append_assoc,List.map_append];omega
theorem arp(bs:List UInt8)(l:List Int)(hb:bs.length<=1000000000)(hl:l.length<=1000000000):Den Tryz.prog 147 [.vs (bs.map u8),.vs (l.map i1)] [] (.vs ((bs++(be8 l.length++beL l)).map u8)) [] []:=by
 refine aa Tryz.func147 rfl Tryz.call147 Tryz.ntmps147 Tryz.results147 (by simp) (by kernel_rfl) [] (exts:=[]) rfl rfl ?_;simp only[go_sem];refine call ((va bs l.length (by simp only[small];omega)).vs (by simp) trivial rfl) [] ?_;simp only[go_sem];refine loop Tryz.mixed 0 (fun i:Nat=>[(1,.vs (l.map i1)),(5,.vs ((bs++(be8 l.length++beL (l.take i))).map u8)),(6,.int .i64 i)]) (fun i=>[]) (fun i=>i<=l.length) (fun i=>l.length - i) (by kernel_rfl) ?_ ?_ ?_
 ·simp
 ·simp only[go_sem,List.take_zero,beL,List.flatMap_nil]
 ·intro i hi;have hti:(l.take i).length=i:=by simp;omega
  simp only[go_sem];refine⟨fun h=>⟨by omega,call ((va (bs++(be8 l.length++beL (l.take i))) (el l i) (by simp only[small,List.length_append,aw,dw,hti];omega)).vs (by simp) trivial rfl) [] ?_⟩,fun h=> ?_⟩
  ·simp only[go_sem];refine⟨i+1,⟨by omega,by omega⟩,?_⟩;rw[c9 h,i8];simp only[go_sem,List.map_append,List.append_assoc,beL,List.flatMap_cons,List.flatMap_nil];rw[ai]<;>omega
  ·have:i=l.length:=by omega
   subst this;simp only[go_sem,List.take_length]
def u4(x:Int):List PV:=[.int .u32 x]
theorem a8q(x:Int):u4 x=[.int .u32 x]:=rfl
theorem a7a(l:List Int)(i:Nat)(v:Int):(l.map u4).set i [.int .u32 v]=(l.set i v).map u4:=by rw[List.map_set];rfl
theorem a95:min 24 32=24:=(rfl)
theorem a9z:min 16 32=16:=(rfl)
theorem mn8:min 8 32=8:=(rfl)
theorem mn3:min 3 32=3:=(rfl)
theorem a90:min 10 32=10:=(rfl)
attribute [go_sem] a8q a7a a95 a9z mn8 mn3 a90
def ad(a b:Int):Int:=IntKind.u32.wrap (a+b)
def rot(x:Int)(n:Nat):Int:=bits .or .u32 (x.fdiv (2^n)) (IntKind.u32.wrap (x*2^(32 - n)))
def xo(a b:Int):Int:=bits .xor .u32 a b
def an(a b:Int):Int:=bits .and .u32 a b
def nt(a:Int):Int:=bits .xor .u32 IntKind.u32.max a
def sr(a:Int)(n:Nat):Int:=a.fdiv (2^n)
theorem ic(x:Int)(n:Nat){m:Int}(hm:m=n)(h0:0<n)(hn:n<32):Den Tryz.prog 92 [.int .u32 x,.int .u64 m] [] (.int .u32 (rot x n)) [] []:=by
 refine aa Tryz.func92 rfl Tryz.call92 Tryz.ntmps92 Tryz.results92 (by simp) (by kernel_rfl) [] (exts:=[]) rfl rfl ?_;simp only[go_sem];have e1:IntKind.u64.wrap (32 - m)=((32 - n:Nat):Int):=by rw[IntKind.wrap_u64];omega
 rw[e1,hm];have e2:min n 32=n:=by omega
 have e3:min (32 - n) 32=32 - n:=by omega
 simp only[Int.toNat_natCast,e2,e3,rot];exact⟨by omega,by omega,trivial⟩
def w16(b:List UInt8)(i:Nat):Int:=bits .or .u32 (bits .or .u32 (bits .or .u32 (IntKind.u32.wrap (IntKind.u32.wrap (el b (4*i)).toNat*2^24)) (IntKind.u32.wrap (IntKind.u32.wrap (el b (4*i+1)).toNat*2^16))) (IntKind.u32.wrap (IntKind.u32.wrap (el b (4*i+2)).toNat*2^8))) (IntKind.u32.wrap (el b (4*i+3)).toNat)
def wA(b:List UInt8):Nat->List Int
 |0=>List.replicate 64 0
 |m+1=>(wA b m).set m (w16 b m)
theorem aj6(b:List UInt8): ∀m,(wA b m).length=64
 |0=>by simp[wA]
 |m+1=>by simp[wA,aj6 b m]
def wst(w:List Int)(m:Nat):Int:=
 ad (ad (ad (el w m) (xo (xo (rot (el w (m+1)) 7) (rot (el w (m+1)) 18)) (sr (el w (m+1)) 3))) (el w (m+9))) (xo (xo (rot (el w (m+14)) 17) (rot (el w (m+14)) 19)) (sr (el w (m+14)) 10))
def wB(b:List UInt8):Nat->List Int
 |0=>wA b 16
 |m+1=>(wB b m).set (16+m) (wst (wB b m) m)
theorem aqj(b:List UInt8): ∀m,(wB b m).length=64
 |0=>aj6 b 16
 |m+1=>by simp[wB,aqj b m]
def rx(v:List Int)(k w:Int):Int:=ad (ad (ad (ad (el v 7) (xo (xo (rot (el v 4) 6) (rot (el v 4) 11)) (rot (el v 4) 25))) (xo (an (el v 4) (el v 5)) (an (nt (el v 4)) (el v 6)))) k) w
def rs(v:List Int):Int:=xo (xo (rot (el v 0) 2) (rot (el v 0) 13)) (rot (el v 0) 22)
def rm(v:List Int):Int:=xo (xo (an (el v 0) (el v 1)) (an (el v 0) (el v 2))) (an (el v 1) (el v 2))
def rnd(v:List Int)(k w:Int):List Int:=[ad (ad (rx v k w) (rs v)) (rm v),el v 0,el v 1,el v 2,ad (el v 3) (rx v k w),el v 4,el v 5,el v 6]
def ai2(h k w:List Int):Nat->List Int
 |0=>h
 |m+1=>rnd (ai2 h k w m) (el k m) (el w m)
theorem aby{h k w:List Int}(hh:h.length=8): ∀m,(ai2 h k w m).length=8
 |0=>hh
 |_+1=>rfl
def fin(v h:List Int):Nat->List Int
 |0=>v
 |m+1=>(fin v h m).set m (ad (el (fin v h m) m) (el h m))
theorem aaw{v h:List Int}(hv:v.length=8): ∀m,(fin v h m).length=8
 |0=>hv
 |m+1=>by simp[fin,aaw hv m]
def a5l(h:List Int)(b:List UInt8)(k:List Int):List Int:=fin (ai2 h k (wB b 48) 64) h 8
theorem ars(h:List Int)(b:List UInt8)(k:List Int)(hh:h.length=8)(hb:b.length=64)(hk:k.length=64):Den Tryz.prog 68 [.vs (h.map u4),.vs (b.map u8),.vs (k.map u4)] [] (.vs ((a5l h b k).map u4)) [] []:=by
 refine aa Tryz.func68 rfl Tryz.call68 Tryz.ntmps68 Tryz.results68 (by simp) (by kernel_rfl) [] (exts:=[]) rfl rfl ?_;simp only[go_sem]
 (repeat refine And.intro (by first|omega|exact ae (by kernel_rfl)) ?_)
 refine loop Tryz.mixed 0 (fun i:Nat=>[(0,.vs (h.map u4)),(1,.vs (b.map u8)),(2,.vs (k.map u4)),(7,.os 19 64),(8,.int .i64 i)]) (fun i=>[(19,.arr 107 1 false ((wA b i).map u4))]) (fun i=>i<=16) (fun i=>16 - i) (by kernel_rfl) ?_ ?_ ?_
 ·simp
 ·simp only[go_sem,wA,List.map_replicate,agc]
 ·intro i hi;have e1:i<16->IntKind.i64.wrap (4*(i:Int))=((4*i:Nat):Int):=fun h=>by rw[ai]<;>omega
  have e2:i<16->IntKind.i64.wrap (((4*i:Nat):Int)+1)=((4*i+1:Nat):Int):=fun h=>by rw[ai]<;>omega
  have e3:i<16->IntKind.i64.wrap (((4*i:Nat):Int)+2)=((4*i+2:Nat):Int):=fun h=>by rw[ai]<;>omega
  have e4:i<16->IntKind.i64.wrap (((4*i:Nat):Int)+3)=((4*i+3:Nat):Int):=fun h=>by rw[ai]<;>omega
  have hw:=aj6 b i;by_cases hi':i<16
  ·simp only[go_sem,e1 hi',e2 hi',e3 hi',e4 hi',hw,hb];refine⟨fun _=>⟨by omega,by omega,by omega,by omega,by omega,by omega,ae (by kernel_rfl),i+1,⟨by omega,by omega⟩,?_⟩,fun h=>by omega⟩;exact⟨by rw[ai]<;>omega,rfl⟩
  ·have:i=16:=by omega
   have hf: ¬((i:Int)<16):=by omega
   simp only[go_sem,hf];subst this;refine loop Tryz.mixed 0 (fun m:Nat=>[(0,.vs (h.map u4)),(2,.vs (k.map u4)),(7,.os 19 64),(9,.int .i64 ((16+m:Nat):Int))]) (fun m=>[(19,.arr 107 1 false ((wB b m).map u4))]) (fun m=>m<=48) (fun m=>48 - m) (by kernel_rfl) ?_ ?_ ?_
   ·simp
   ·simp only[go_sem,wB]
   ·intro m hm;have hw:=aqj b m;by_cases hm':m<48
    ·have f1:IntKind.i64.wrap (((16+m:Nat):Int) - 15)=((m+1:Nat):Int):=by rw[ai]<;>omega
     have f2:IntKind.i64.wrap (((16+m:Nat):Int) - 2)=((m+14:Nat):Int):=by rw[ai]<;>omega
     have f3:IntKind.i64.wrap (((16+m:Nat):Int) - 16)=((m:Nat):Int):=by rw[ai]<;>omega
     have f4:IntKind.i64.wrap (((16+m:Nat):Int) - 7)=((m+9:Nat):Int):=by rw[ai]<;>omega
     simp only[go_sem,f1,f2,f3,f4,hw];refine⟨fun _=> ?_,fun h=>by omega⟩
     (repeat refine And.intro (by first|omega|exact ae (by kernel_rfl)) ?_)
     refine call (ic (el (wB b m) (m+1)) 7 rfl (by omega) (by omega)) [] ?_;simp only[go_sem,f1,f2,f3,f4,hw]
     (repeat refine And.intro (by first|omega|exact ae (by kernel_rfl)) ?_)
     refine call (ic (el (wB b m) (m+1)) 18 rfl (by omega) (by omega)) [] ?_;simp only[go_sem,f1,f2,f3,f4,hw]
     (repeat refine And.intro (by first|omega|exact ae (by kernel_rfl)) ?_)
     refine call (ic (el (wB b m) (m+14)) 17 rfl (by omega) (by omega)) [] ?_;simp only[go_sem,f1,f2,f3,f4,hw]
     (repeat refine And.intro (by first|omega|exact ae (by kernel_rfl)) ?_)
     refine call (ic (el (wB b m) (m+14)) 19 rfl (by omega) (by omega)) [] ?_;simp only[go_sem,f1,f2,f3,f4,hw]
     (repeat refine And.intro (by first|omega|exact ae (by kernel_rfl)) ?_)
     refine⟨m+1,⟨by omega,by omega⟩,?_⟩;exact⟨by rw[ai]<;>omega,rfl⟩
    ·have hf: ¬(((16+m:Nat):Int)<64):=by omega
     simp only[go_sem,hf];have:m=48:=by omega
     subst this
     (repeat refine And.intro (by first|omega|exact ae (by kernel_rfl)) ?_)
     generalize hW:wB b 48=W at*;refine a4v Tryz.mixed 0 (fun j:Nat=>[(0,.vs (h.map u4)),(2,.vs (k.map u4)),(7,.vs (W.map u4)),(12,.os 123 8),(13,.int .i64 j)]) (fun j=>[(123,.arr 107 1 false ((ai2 h k W j).map u4))]) (fun j=>j<=64) (fun j=>64 - j) (by kernel_rfl) [] ?_ ?_ ?_
     ·simp
     ·simp only[go_sem,ai2,hw,hh]
     ·intro j hj;have hv:=aby (k:=k) (w:=W) hh j;by_cases hj':j<64
      ·have hR:ai2 h k W (j+1)=rnd (ai2 h k W j) (el k j) (el W j):=rfl;generalize ai2 h k W j=V at*;simp only[go_sem,hv,hw,hk];refine⟨fun _=> ?_,fun h=>by omega⟩
       (repeat refine And.intro (by first|omega|exact ae (by kernel_rfl)) ?_)
       refine call (ic (el V 4) 6 rfl (by omega) (by omega)) [] ?_;simp only[go_sem,hv,hw,hk];refine call (ic (el V 4) 11 rfl (by omega) (by omega)) [] ?_;simp only[go_sem,hv,hw,hk];refine call (ic (el V 4) 25 rfl (by omega) (by omega)) [] ?_;simp only[go_sem,hv,hw,hk]
       (repeat refine And.intro (by first|omega|exact ae (by kernel_rfl)) ?_)
       refine call (ic (el V 0) 2 rfl (by omega) (by omega)) [] ?_;simp only[go_sem,hv,hw,hk];refine call (ic (el V 0) 13 rfl (by omega) (by omega)) [] ?_;simp only[go_sem,hv,hw,hk];refine call (ic (el V 0) 22 rfl (by omega) (by omega)) [] ?_;simp only[go_sem,hv,hw,hk]
       (repeat refine And.intro (by first|omega|exact ae (by kernel_rfl)) ?_)
       refine⟨j+1,[(123,99),(240,123)],⟨by omega,by omega⟩,?_⟩;rw[hR];simp only[go_sem,hv,hw,hk];exact⟨by rw[ai]<;>omega,rfl⟩
      ·have hf: ¬((j:Int)<64):=by omega
       simp only[go_sem,hf];have:j=64:=by omega
       subst this;generalize hV:ai2 h k W 64=V at*;refine loop Tryz.mixed 0 (fun j:Nat=>[(0,.vs (h.map u4)),(12,.os 123 8),(18,.int .i64 j)]) (fun j=>[(123,.arr 107 1 false ((fin V h j).map u4))]) (fun j=>j<=8) (fun j=>8 - j) (by kernel_rfl) ?_ ?_ ?_
       ·simp
       ·simp only[go_sem,fin]
       ·intro j hj;have hfl:=aaw (h:=h) hv j;by_cases hj':j<8
        ·simp only[go_sem,hfl,hh];refine⟨fun _=> ?_,fun h=>by omega⟩
         (repeat refine And.intro (by first|omega|exact ae (by kernel_rfl)) ?_)
         exact⟨j+1,⟨by omega,by omega⟩,by rw[ai]<;>omega,rfl⟩
        ·have hf: ¬((j:Int)<8):=by omega
         simp only[go_sem,hf];have:j=8:=by omega
         subst this;simp only[go_sem,hfl];rw[a5l,hW,hV]
def kK:List Int:=[0x428a2f98,0x71374491,0xb5c0fbcf,0xe9b5dba5,0x3956c25b,0x59f111f1,0x923f82a4,0xab1c5ed5,
 0xd807aa98,0x12835b01,0x243185be,0x550c7dc3,0x72be5d74,0x80deb1fe,0x9bdc06a7,0xc19bf174,
 0xe49b69c1,0xefbe4786,0x0fc19dc6,0x240ca1cc,0x2de92c6f,0x4a7484aa,0x5cb0a9dc,0x76f988da,
 0x983e5152,0xa831c66d,0xb00327c8,0xbf597fc7,0xc6e00bf3,0xd5a79147,0x06ca6351,0x14292967,
 0x27b70a85,0x2e1b2138,0x4d2c6dfc,0x53380d13,0x650a7354,0x766a0abb,0x81c2c92e,0x92722c85,
 0xa2bfe8a1,0xa81a664b,0xc24b8b70,0xc76c51a3,0xd192e819,0xd6990624,0xf40e3585,0x106aa070,
 0x19a4c116,0x1e376c08,0x2748774c,0x34b0bcb5,0x391c0cb3,0x4ed8aa4a,0x5b9cca4f,0x682e6ff3,
 0x748f82ee,0x78a5636f,0x84c87814,0x8cc70208,0x90befffa,0xa4506ceb,0xbef9a3f7,0xc67178f2]
theorem amh:Den Tryz.prog 67 [] [] (.vs (kK.map u4)) [] []:=by
 refine aa Tryz.func67 rfl Tryz.call67 Tryz.ntmps67 Tryz.results67 (by simp) (by kernel_rfl) [] (exts:=[]) rfl rfl ?_;simp only[go_sem];rfl
theorem a75(n:Nat):((n:Nat):Int).tmod 64=((n % 64:Nat):Int):=rfl
def yl(n:Nat):Nat:=(119 - n % 64) % 64
theorem wt(n:Nat):(n+1+yl n) % 64=56:=by unfold yl;omega
theorem ats{n z:Nat}(h:z<yl n):(n+1+z) % 64≠56:=by unfold yl at h;omega
theorem ahf(n:Nat):yl n<64:=by unfold yl;omega
def acu(b:List UInt8)(z:Nat):List UInt8:=b++(128::List.replicate z 0)
theorem abv(b:List UInt8)(z:Nat):(acu b z).length=b.length+1+z:=by simp[acu];omega
theorem aeb(b:List UInt8)(z:Nat):acu b (z+1)=acu b z++[0]:=by simp[acu,List.replicate_succ']
def agb(b:List UInt8):List UInt8:=acu b (yl b.length)++be8 ((8*b.length:Nat):Int)
theorem ajh(b:List UInt8): ∃q,(agb b).length=64*q/\64*q<=b.length+128:=by
 have:=wt b.length;have:=ahf b.length;have hl:(agb b).length=b.length+1+yl b.length+8:=by simp only[agb,List.length_append,abv,aw]
 exact⟨(b.length+1+yl b.length+8)/64,by omega,by omega⟩
def h0:List Int:=[0x6a09e667,0xbb67ae85,0x3c6ef372,0xa54ff53a,0x510e527f,0x9b05688c,0x1f83d9ab,0x5be0cd19]
def hs(b:List UInt8):Nat->List Int
 |0=>h0
 |m+1=>a5l (hs b m) (((agb b).take (64*m+64)).drop (64*m)) kK
theorem aj1(b:List UInt8): ∀m,(hs b m).length=8
 |0=>rfl
 |m+1=>aaw (aby (aj1 b m) 64) 8
def alv(x:Int):List UInt8:=[bAt x 24,bAt x 16,bAt x 8,bAt x 0]
theorem abo(l:List Int):(l.flatMap alv).length=4*l.length:=by
 induction l with
 |nil=>rfl
 |cons a r ih=>simp only[List.flatMap_cons,List.length_append,List.length_cons,ih,alv,List.length_nil];omega
theorem apk(v:Int):IntKind.u8.wrap v=((bAt v 0).toNat:Int):=by
 rw[<-yn];simp
def sha(b:List UInt8):List UInt8:=(hs b ((agb b).length/64)).flatMap alv
theorem aav(b:List UInt8)(hb:b.length<=1000000000):Den Tryz.prog 44 [.vs (b.map u8)] [] (.str (sha b)) [] []:=by
 refine aa Tryz.func44 rfl Tryz.call44 Tryz.ntmps44 Tryz.results44 (by simp) (by kernel_rfl) [] (exts:=[]) rfl rfl ?_;simp only[go_sem]
 (repeat refine And.intro (by first|omega|exact ae (by kernel_rfl)) ?_)
 refine loop Tryz.mixed 0 (fun z:Nat=>[(0,.vs (b.map u8)),(3,.os 11 8),(4,.os 13 (acu b z).length)]) (fun z=>[(11,.arr 107 1 false (h0.map u4)),(13,.arr 5 1 false ((acu b z).map u8))]) (fun z=>z<=yl b.length) (fun z=>yl b.length - z) (by kernel_rfl) ?_ ?_ ?_
 ·simp
 ·simp only[go_sem];simp[acu,u8,h0,u4]
 ·intro z hz;have hpl:=abv b z;have hpn:=ahf b.length;by_cases hz':z<yl b.length
  ·have hc: ¬((((acu b z).length:Nat):Int).tmod 64=56):=by
    have:=ats hz';rw[hpl,a75];omega
   simp only[go_sem,hc];refine⟨by omega,z+1,⟨by omega,by omega⟩,?_⟩;rw[aeb];simp only[go_sem,List.map_append];simp[u8]
  ·have hz2:z=yl b.length:=by omega
   subst hz2
   have hc:(((acu b (yl b.length)).length:Nat):Int).tmod 64=56:=by
    have:=wt b.length;rw[hpl,a75];omega
   simp only[go_sem,hc];generalize hp:acu b (yl b.length)=p at*;refine loop Tryz.mixed 0 (fun m:Nat=>[(3,.os 11 8),(4,.os 13 (p++(be8 ((8*b.length:Nat):Int)).take m).length),(5,.int .u64 ((8*b.length:Nat):Int)),(6,.int .i64 (7 - (m:Int)))]) (fun m=>[(11,.arr 107 1 false (h0.map u4)),(13,.arr 5 1 false ((p++(be8 ((8*b.length:Nat):Int)).take m).map u8))]) (fun m=>m<=8) (fun m=>8 - m) (by kernel_rfl) ?_ ?_ ?_
   ·simp
   ·simp only[go_sem,List.take_zero,List.append_nil];simp only[IntKind.wrap_u64];omega
   ·intro m hm;generalize hv:8*b.length=v at*;have hl:((be8 (v:Int)).take m).length=m:=by simp[be8];omega
    have e1:m<8->IntKind.u64.wrap (IntKind.i64.wrap (8*(7 - (m:Int))))=((56 - 8*m:Nat):Int):=fun h=>by rw[ai (by omega) (by omega),IntKind.wrap_u64];omega
    by_cases hm':m<8
    ·have e0:(be8 (v:Int)).take (m+1)=(be8 (v:Int)).take m++[bAt v (56 - 8*m)]:=by
      have:m=0\/m=1\/m=2\/m=3\/m=4\/m=5\/m=6\/m=7:=by omega
      rcases this with rfl|rfl|rfl|rfl|rfl|rfl|rfl|rfl<;>rfl
     have e2:min (56 - 8*m) 64=56 - 8*m:=by omega
     have hc:(0:Int)<=7 - (m:Int):=by omega
     rw[List.length_append,hl];simp only[go_sem,e1 hm',hc,e2,yn,hl];refine⟨by omega,m+1,⟨by omega,by omega⟩,?_⟩;rw[e0];simp only[go_sem,List.map_append,List.append_assoc,hl];rw[ai]<;>omega
    ·have hm2:m=8:=by omega
     subst hm2;have hS:p++(be8 (v:Int)).take 8=agb b:=by rw[agb,hp,hv];rfl
     rw[hS];simp only[go_sem];refine call amh [] ?_;simp only[go_sem];obtain⟨q0,hq0,hq1⟩:=ajh b;have hkl:kK.length=64:=rfl;refine loop Tryz.mixed 0 (fun q:Nat=>[(3,.vs ((hs b q).map u4)),(4,.vs ((agb b).map u8)),(7,.vs (kK.map u4)),(8,.int .i64 ((64*q:Nat):Int))]) (fun q=>[]) (fun q=>q<=q0) (fun q=>q0 - q) (by kernel_rfl) ?_ ?_ ?_
     ·simp
     ·simp only[go_sem,hs];rfl
     ·intro q hq;have hhl:=aj1 b q;by_cases hq':q<q0
      ·have e1:IntKind.i64.wrap (((64*q:Nat):Int)+64)=((64*q+64:Nat):Int):=by rw[ai]<;>omega
       have hcl:((agb b).take (64*q+64)|>.drop (64*q)).length=64:=by simp;omega
       simp only[go_sem,hq0,e1,Int.toNat_natCast];refine⟨fun _=>⟨⟨by omega,by omega,by omega⟩,?_⟩,fun h=>by omega⟩;refine call (ars (hs b q) _ kK hhl hcl hkl) [] ?_;simp only[go_sem,e1];exact⟨q+1,⟨by omega,by omega⟩,rfl,by omega⟩
      ·have hq2:q=q0:=by omega
       subst hq2;have hf: ¬(((64*q:Nat):Int)<((agb b).length:Int)):=by omega
       simp only[go_sem,hf];have hsha:sha b=(hs b q).flatMap alv:=by rw[sha,hq0,Nat.mul_div_cancel_left _ (by omega)]
       generalize hV:hs b q=V at*;refine dm 9 14 5 1 false ?_ ?_ ?_ (by omega)
       ·refine loop Tryz.mixed 0 (fun j:Nat=>[(3,.vs (V.map u4)),(9,.os 14 ((V.take j).flatMap alv).length),(10,.int .i64 j)]) (fun j=>[(14,.arr 5 1 false (((V.take j).flatMap alv).map u8))]) (fun j=>j<=8) (fun j=>8 - j) (by kernel_rfl) ?_ ?_ ?_
        ·simp
        ·simp only[go_sem,List.take_zero,List.flatMap_nil]
        ·intro j hj
         have hjl:((V.take j).flatMap alv).length=4*j:=by
          rw[abo];simp;omega
         by_cases hj':j<8
         ·simp only[go_sem,hhl];refine⟨fun _=> ?_,fun h=>by omega⟩
          (repeat refine And.intro (by first|omega|exact ae (by kernel_rfl)) ?_)
          refine⟨j+1,⟨by omega,by omega⟩,?_⟩;rw[c9 (by omega),yn,yn,yn,apk];simp only[go_sem,List.flatMap_append,List.map_append,List.flatMap_cons,List.flatMap_nil,alv];rw[ai]<;>omega
         ·have hj2:j=8:=by omega
          subst hj2;have hV8:V.take 8=V:=by rw[<-hhl,List.take_length]
          rw[hV8,<-hsha];simp only[go_sem];exact⟨_,rfl,rfl⟩
       ·simp only[go_sem]
       ·simp only[go_sem]
end Go.Proofs.Am
