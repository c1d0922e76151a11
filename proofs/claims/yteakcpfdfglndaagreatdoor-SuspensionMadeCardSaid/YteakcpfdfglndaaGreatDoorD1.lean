/- D1. -/
import Derived.Test.YteakcpfdfglndaaGreatDoorCThree
import Derived.Shelf.Small.Strs
set_option maxHeartbeats 1000000
set_option maxRecDepth 100000
set_option linter.unusedSimpArgs false
set_option linter.unusedVariables false
namespace Go.Proofs.Am
open Go Go.RowKit
open Go.Proofs
def gr(a b:Int):Int:=if a<b then -1 else if b<a then 1 else 0
def pt{α:Type}(f:α→α→Int):List α→List α→Int
 |[],[]=>0
 |[],_::_=> -1
 |_::_,[]=>1
 |x::xs,y::ys=>if f x y=0 then pt f xs ys else f x y
def or2(a b:Int):Int:=if a=0 then b else a
def orL:List Int→Int
 |[]=>0
 |x::r=>if x=0 then orL r else x
def u5(p q:Pn):Int:=or2 (gr p.au q.au) (or2 (gr p.he q.he) (Lib.compareBytes p.di q.di))
def jx(x y:Ct):Int:=or2 (pt gr x.li y.li) (pt u5 x.pi y.pi)
theorem qa{α:Type} [Inhabited α](f:α→α→Int){a b:List α}{i:Nat}(ha:i<a.length)(hb:i<b.length):
  pt f (a.drop i) (b.drop i)=if f (el a i) (el b i)=0 then pt f (a.drop (i+1)) (b.drop (i+1))else f (el a i) (el b i):=by
 have e1:a.drop i=el a i::a.drop (i+1):=by
  rw[List.drop_eq_getElem_cons ha];simp[el,List.getD_eq_getElem?_getD,List.getElem?_eq_getElem ha]
 have e2:b.drop i=el b i::b.drop (i+1):=by
  rw[List.drop_eq_getElem_cons hb];simp[el,List.getD_eq_getElem?_getD,List.getElem?_eq_getElem hb]
 rw[e1,e2]
 rfl
theorem u6{α:Type}(f:α→α→Int){a b:List α}{i:Nat}(hi:i=min a.length b.length):pt f (a.drop i) (b.drop i)=gr a.length b.length:=by
 by_cases h1:a.length<b.length
 ·have:a.drop i=[]:=by rw[List.drop_eq_nil_iff];omega
  rw[this,gr,if_pos (by omega)]
  cases hd:b.drop i with
  |nil=>have:=List.drop_eq_nil_iff.1 hd;omega
  |cons y r=>rfl
 ·have hb:b.drop i=[]:=by rw[List.drop_eq_nil_iff];omega
  rw[hb,gr,if_neg (by omega)]
  by_cases h2:b.length<a.length
  ·rw[if_pos (by omega)]
   cases hd:a.drop i with
   |nil=>have:=List.drop_eq_nil_iff.1 hd;omega
   |cons y r=>rfl
  ·have:a.drop i=[]:=by rw[List.drop_eq_nil_iff];omega
   rw[this,if_neg (by omega)]
   rfl
theorem a5a(a b:Nat):(if(b:Int)<(a:Int)then(b:Int)else(a:Int))=((min a b:Nat):Int):=by
 split<;>omega
theorem atb(a:Int):Den Tryz.prog 161 [.int .i64 a] [] (.bool false) [] []:=by
 refine aa Tryz.mixed Tryz.func161 rfl Tryz.call161 Tryz.ntmps161 (congrArg Array.toList Tryz.results161) (by simp) (by kernel_rfl) [] (exts:=[]) rfl rfl ?_
 simp only[go_sem]
theorem gj(a b:Int):Den Tryz.prog 124 [.int .i64 a,.int .i64 b] [] (.int .i64 (gr a b)) [] []:=by
 refine aa Tryz.mixed Tryz.func124 rfl Tryz.call124 Tryz.ntmps124 (congrArg Array.toList Tryz.results124) (by simp) (by kernel_rfl) [] (exts:=[]) rfl rfl ?_
 simp only[go_sem]
 refine call (atb a) [] ?_
 simp only[go_sem]
 refine call (atb b) [] ?_
 by_cases h1:a<b
 ·simp only[go_sem,h1]
  rw[gr,if_pos h1]
 ·by_cases h2:b<a
  ·simp only[go_sem,h1,h2]
   rw[gr,if_neg h1,if_pos h2]
  ·simp only[go_sem,h1,h2]
   rw[gr,if_neg h1,if_neg h2]
theorem np(a b:Int):Den Tryz.prog 141 [.int .i64 a,.int .i64 b] [] (.int .i64 (gr a b)) [] []:=by
 refine aa Tryz.mixed Tryz.func141 rfl Tryz.call141 Tryz.ntmps141 (congrArg Array.toList Tryz.results141) (by simp) (by kernel_rfl) [] (exts:=[]) rfl rfl ?_
 by_cases h1:a<b
 ·simp only[go_sem,h1]
  rw[gr,if_pos h1]
 ·by_cases h2:b<a
  ·simp only[go_sem,h1,h2]
   rw[gr,if_neg h1,if_pos h2]
  ·simp only[go_sem,h1,h2]
   rw[gr,if_neg h1,if_neg h2]
theorem a1d{l:List Int}{i:Nat}(h:i<l.length):orL (l.drop i)=if el l i=0 then orL (l.drop (i+1))else el l i:=by
 have e1:l.drop i=el l i::l.drop (i+1):=by
  rw[List.drop_eq_getElem_cons h];simp[el,List.getD_eq_getElem?_getD,List.getElem?_eq_getElem h]
 rw[e1]
 rfl
theorem ag6(l:List Int)(hl:big l.length):Den Tryz.prog 123 [.vs (l.map i1)] [] (.int .i64 (orL l)) [] []:=by
 refine aa Tryz.mixed Tryz.func123 rfl Tryz.call123 Tryz.ntmps123 (congrArg Array.toList Tryz.results123) (by simp) (by kernel_rfl) [] (exts:=[]) rfl rfl ?_
 simp only[go_sem]
 refine loop Tryz.mixed 0 (fun i:Nat=>[(3,.int .i64 0),(6,.vs (l.map i1)),(7,.int .i64 l.length),(8,.int .i64 i)]) (fun _=>[]) (fun i=>i≤l.length∧orL l=orL (l.drop i)) (fun i=>l.length - i) (by kernel_rfl) ?_ ?_ ?_
 ·exact⟨Nat.zero_le _,rfl⟩
 ·simp only[go_sem]
 ·rintro i ⟨hi,hc⟩
  by_cases hlt:i<l.length
  ·have h1:(i:Int)<(l.length:Int):=by omega
   rw[a1d hlt]at hc
   by_cases hz:el l i=0
   ·rw[if_pos hz]at hc
    simp only[go_sem,h1,hlt,hz]
    refine⟨i+1,⟨⟨by omega,hc⟩,by omega⟩,?_⟩
    rw[ag]<;>omega
   ·rw[if_neg hz]at hc
    simp only[go_sem,h1,hlt,hz]
    exact hc.symm
  ·have h1: ¬(i:Int)<(l.length:Int):=by omega
   have hd:l.drop i=[]:=by rw[List.drop_eq_nil_iff];omega
   rw[hd]at hc
   simp only[go_sem,h1]
   exact hc.symm
theorem an0(a b:List Int)(ha:big a.length)(hb:big b.length):Den Tryz.prog 202 [.vs (a.map i1),.vs (b.map i1),.fn 124 []] [] (.int .i64 (pt gr a b)) [] []:=by
 refine aa Tryz.mixed Tryz.func202 rfl Tryz.call202 Tryz.ntmps202 (congrArg Array.toList Tryz.results202) (by simp) (by kernel_rfl) [] (exts:=[]) rfl rfl ?_
 have hm:=a5a a.length b.length
 generalize hM:min a.length b.length=M at*
 simp only[Int.ofNat_lt]at hm
 simp only[go_sem,hm]
 refine loop Tryz.mixed 0 (fun i:Nat=>[(0,.vs (a.map i1)),(1,.vs (b.map i1)),(2,.fn 124 []),(13,.int .i64 M),(14,.int .i64 i)]) (fun _=>[]) (fun i=>i≤M∧pt gr a b=pt gr (a.drop i) (b.drop i)) (fun i=>M - i) (by kernel_rfl) ?_ ?_ ?_
 ·exact⟨Nat.zero_le _,rfl⟩
 ·simp only[go_sem]
 ·rintro i ⟨hi,hc⟩
  by_cases hlt:i<M
  ·have h1:(i:Int)<(M:Int):=by omega
   have ia:i<a.length:=by omega
   have ib:i<b.length:=by omega
   rw[qa gr ia ib]at hc
   simp only[go_sem,h1,ia,ib]
   refine call (gj (el a i) (el b i)) [] ?_
   by_cases hz:gr (el a i) (el b i)=0
   ·rw[if_pos hz]at hc
    simp only[go_sem,hz]
    refine⟨ae (by kernel_rfl),i+1,⟨⟨by omega,hc⟩,by omega⟩,?_⟩
    rw[ag]<;>omega
   ·rw[if_neg hz]at hc
    simp only[go_sem,hz]
    exact⟨ae (by kernel_rfl),hc.symm⟩
  ·have h1: ¬(i:Int)<(M:Int):=by omega
   rw[u6 gr (by omega)]at hc
   simp only[go_sem,h1]
   refine call (gj a.length b.length) [] ?_
   simp only[go_sem]
   exact hc.symm
end Go.Proofs.Am
