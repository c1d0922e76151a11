/- PTwo. -/
import Derived.Test.YteakcpfdfglndaaGreatDoorPOne
import Derived.Test.YteakcpfdfglndaaGreatDoorCThree
import Derived.Test.YteakcpfdfglndaaGreatDoorMSix
import Derived.Test.YteakcpfdfglndaaGreatDoorBOne
set_option maxHeartbeats 1000000
set_option maxRecDepth 100000
set_option linter.unusedSimpArgs false
set_option linter.unusedVariables false
namespace Go.Proofs.Am
open Go Go.RowKit
open Go.Proofs
def rgI(L:List Stm)(i:Nat):List Stm:=(L.take i).filter dc
theorem az1{L:List Stm}{i:Nat}(h:i<L.length):rgI L (i+1)=rgI L i++(if dc (el L i)=true then [el L i]else []):=by
 unfold rgI
 rw[bh h,List.filter_append]
 congr 1
 simp only[List.filter_cons,List.filter_nil]
theorem aw9(L:List Stm)(i:Nat):(rgI L i).length≤L.length:=by
 unfold rgI
 refine Nat.le_trans (List.length_filter_le _ _) ?_
 rw[List.length_take];omega
theorem a8y(L:List Stm):rgI L L.length=L.filter dc:=by rw[rgI,List.take_length]
theorem an2(L:List Stm)(hl:L.length≤1000000)(hs: ∀s∈L,gx s):Den Tryz.prog 69 [.vs (L.map sm)] [] (.vs ((L.filter dc).map sm)) [] []:=by
 refine aa Tryz.mixed Tryz.func69 rfl Tryz.call69 Tryz.ntmps69 (congrArg Array.toList Tryz.results69) (by simp) (by kernel_rfl) [] (exts:=[]) rfl rfl ?_
 simp only[go_sem]
 refine br 3 99 60 13 false ?_ ?_ ?_ (by omega)
 ·refine loop Tryz.mixed 0 (fun i:Nat=>[(0,.vs (L.map sm)),(3,.os 99 (rgI L i).length),(4,.int .i64 i)]) (fun i=>[(99,.arr 60 13 false ((rgI L i).map sm))]) (fun i=>i≤L.length) (fun i=>L.length - i) (by kernel_rfl) (Nat.zero_le _) ?_ ?_
  ·simp only[go_sem]
   exact⟨rfl,rfl⟩
  ·intro i hi
   by_cases hlt:i<L.length
   ·have h1:(i:Int)<(L.length:Int):=by omega
    have hsu:=az1 hlt
    have hln:=aw9 L i
    have hbs:=hs _ (aw hlt)
    have c1:=mb (el L i) hbs
    have c2:=fun h:aj (el L i)=0=>mg (el L i) (n8 h)
    rw[kz]at c1 c2
    have no:dc (el L i)=false→rgI L (i+1)=rgI L i:=fun hh=>by rw[hsu,hh,if_neg (by simp),List.append_nil]
    simp only[go_sem,h1,hlt]
    refine call c1 [] ?_
    by_cases k2:aj (el L i)=0
    rotate_left
    ·have n0:=no (by simp[dc,k2])
     simp only[go_sem,k2,h1,hlt]
     refine⟨i+1,⟨by omega,by omega⟩,?_⟩
     rw[n0]
     exact⟨⟨rfl,by rw[ag]<;>omega⟩,rfl⟩
    simp only[go_sem,k2,h1,hlt]
    refine call (c2 k2) [] ?_
    by_cases k3:(el L i).sk=(el L i).au∧(el L i).sd=dig (el L i)
    rotate_left
    ·have n0:=no (by simp[dc,k3])
     simp only[go_sem,k3,k2,h1,hlt]
     refine⟨i+1,⟨by omega,by omega⟩,?_⟩
     rw[n0]
     exact⟨⟨rfl,by rw[ag]<;>omega⟩,rfl⟩
    have y0:rgI L (i+1)=rgI L i++[el L i]:=by rw[hsu,if_pos (by simp[dc,k2,k3])]
    simp only[go_sem,k3,k2,h1,hlt]
    refine⟨by omega,i+1,⟨by omega,by omega⟩,?_⟩
    rw[y0]
    exact⟨⟨by simp,by rw[ag]<;>omega⟩,by simp[kz,k3]⟩
   ·have h1: ¬(i:Int)<(L.length:Int):=by omega
    have:i=L.length:=by omega
    subst this
    have hln:=aw9 L L.length
    rw[a8y]at*
    simp only[go_sem,h1]
    done
 ·simp only[go_sem]
 ·simp only[go_sem]
def sf(a:Int)(s t:Stm):Bool:=decide (s.au=a)&&(decide (t.au=a)&&(decide (s.nu=t.nu)&&decide (Lib.compareBytes s.sd t.sd<0)))
def bao(s t x y:Stm):Bool:=decide (s.nu<x.nu∨s.nu=x.nu∧(Lib.compareBytes s.sd x.sd<0∨s.sd=x.sd∧Lib.compareBytes t.sd y.sd<0))
def ahs(a:Int)(o:Option (Stm×Stm))(s t:Stm):Option (Stm×Stm):=
 if sf a s t=true then(match o with|none=>some (s,t)|some (x,y)=>if bao s t x y=true then some (s,t)else some (x,y))else o
def frI(a:Int)(W:List Stm)(s:Stm)(o:Option (Stm×Stm)):Nat→Option (Stm×Stm)
 |0=>o
 |j+1=>ahs a (frI a W s o j) s (el W j)
def frO(a:Int)(W:List Stm):Nat→Option (Stm×Stm)
 |0=>none
 |i+1=>frI a W (el W i) (frO a W i) W.length
def aov:Option (Stm×Stm)→List PV
 |none=> .int .i64 0::(ai8 none++ai8 none)
 |some p=>pf (1,p.1,p.2)
theorem aad:aov none=[.int .i64 0,.int .i64 0,.int .i64 0,.str [],.int .i64 0,.int .i64 0,.int .i64 0,.int .i64 0,.int .i64 0,.nils,.nils,.str [],.int .i64 0,.str [],.int .i64 0,.int .i64 0,.str [],.int .i64 0,.int .i64 0,.int .i64 0,.int .i64 0,.int .i64 0,.nils,.nils,.str [],.int .i64 0,.str []]:=rfl
theorem cz(s t:Stm):aov (some (s,t))=pf (1,s,t):=rfl
theorem d8(d:List Nat)(o:Option (Stm×Stm)):aht d (aov o)=true:=by cases o<;>rfl
theorem aw5(o:Option (Stm×Stm)):(aov o).length=27:=by cases o<;>rfl
theorem apk{a:Int}{o:Option (Stm×Stm)}{s t:Stm}:(ahs a o s t).isSome=(o.isSome||sf a s t):=by
 unfold ahs
 cases sf a s t
 ·simp
 ·cases o with
  |none=>rfl
  |some p=>
   simp only[if_true]
   split<;>simp
theorem a1o{a:Int}{o:Option (Stm×Stm)}{s t:Stm}(h: ∀p,o=some p→p.1.au=a): ∀p,ahs a o s t=some p→p.1.au=a:=fun p hp=>by
 unfold ahs at hp
 split at hp
 rotate_left
 ·exact h p hp
 rename_i hk
 have h1:s.au=a:=of_decide_eq_true (Bool.and_eq_true_iff.1 hk).1
 split at hp
 ·cases hp;exact h1
 ·rename_i x y
  split at hp
  ·cases hp;exact h1
  ·exact h p hp
theorem alx{a:Int}{W:List Stm}{s:Stm}{o:Option (Stm×Stm)}: ∀j,j≤W.length→(frI a W s o j).isSome=(o.isSome||(W.take j).any (sf a s))
 |0,_=>by simp[frI]
 |j+1,h=>by
  rw[frI,apk,alx j (by omega),bh (by omega),List.any_append]
  simp[Bool.or_assoc]
theorem a4g{a:Int}{W:List Stm}{s:Stm}{o:Option (Stm×Stm)}(h: ∀p,o=some p→p.1.au=a): ∀j,∀p,frI a W s o j=some p→p.1.au=a
 |0=>h
 |j+1=>a1o (a4g h j)
theorem amr{a:Int}{W:List Stm}: ∀i,i≤W.length→(frO a W i).isSome=(W.take i).any fun s=>W.any (sf a s)
 |0,_=>by simp[frO]
 |i+1,h=>by
  rw[frO,alx _ (Nat.le_refl _),amr i (by omega),bh (by omega),List.any_append,List.take_length]
  simp
theorem a4e{a:Int}{W:List Stm}: ∀i,∀p,frO a W i=some p→p.1.au=a
 |0=>fun p hp=>by cases hp
 |i+1=>a4g (a4e i) _
theorem an7(W:List Stm)(a:Int)(hl:W.length≤1000000):
  Den Tryz.prog 70 [.vs (W.map sm),.int .i64 a] [] (.tup [.agg (pf (match frO a W W.length with|none=>(0,noS,noS)|some p=>(1,p.1,p.2))),.bool (frO a W W.length).isSome]) [] []:=by
 refine aa Tryz.mixed Tryz.func70 rfl Tryz.call70 Tryz.ntmps70 (congrArg Array.toList Tryz.results70) (by simp) (by kernel_rfl) [] (exts:=[]) rfl rfl ?_
 simp only[go_sem]
 refine loop Tryz.mixed 0 (fun i:Nat=>[(0,.vs (W.map sm)),(1,.int .i64 a),(4,.ptr 4 0),(6,.ptr 6 0),(7,.bool (frO a W i).isSome),(8,.int .i64 i)]) (fun i=>[(4,.cells [.int .i64 0,.int .i64 0,.int .i64 0,.str [],.int .i64 0,.int .i64 0,.int .i64 0,.int .i64 0,.int .i64 0,.nils,.nils,.str [],.int .i64 0,.str [],.int .i64 0,.int .i64 0,.str [],.int .i64 0,.int .i64 0,.int .i64 0,.int .i64 0,.int .i64 0,.nils,.nils,.str [],.int .i64 0,.str []]),(6,.cells (aov (frO a W i)))]) (fun i=>i≤W.length) (fun i=>W.length - i) (by kernel_rfl) (Nat.zero_le _) ?_ ?_
 ·have e0:frO a W 0=none:=rfl
  simp only[go_sem,e0,aad,Option.isSome_none]
 ·intro i hi
  by_cases hlt:i<W.length
  ·have h1:(i:Int)<(W.length:Int):=by omega
   have hst:frO a W (i+1)=frI a W (el W i) (frO a W i) W.length:=rfl
   have hI0:frI a W (el W i) (frO a W i) 0=frO a W i:=rfl
   have hIs: ∀j:Nat,frI a W (el W i) (frO a W i) (j+1)=ahs a (frI a W (el W i) (frO a W i) j) (el W i) (el W j):=fun j=>rfl
   generalize frI a W (el W i) (frO a W i)=I at*
   simp only[go_sem,h1]
   refine loop Tryz.mixed 0 (fun j:Nat=>[(0,.vs (W.map sm)),(1,.int .i64 a),(4,.ptr 4 0),(6,.ptr 6 0),(7,.bool (I j).isSome),(8,.int .i64 i),(9,.int .i64 j)]) (fun j=>[(4,.cells [.int .i64 0,.int .i64 0,.int .i64 0,.str [],.int .i64 0,.int .i64 0,.int .i64 0,.int .i64 0,.int .i64 0,.nils,.nils,.str [],.int .i64 0,.str [],.int .i64 0,.int .i64 0,.str [],.int .i64 0,.int .i64 0,.int .i64 0,.int .i64 0,.int .i64 0,.nils,.nils,.str [],.int .i64 0,.str []]),(6,.cells (aov (I j)))]) (fun j=>j≤W.length) (fun j=>W.length - j) (by kernel_rfl) (Nat.zero_le _) ?_ ?_
   ·rw[hI0]
    simp only[go_sem,d8]
   ·intro j hj
    by_cases hjlt:j<W.length
    ·have h2:(j:Int)<(W.length:Int):=by omega
     have hsu:=hIs j
     generalize I j=o at*
     have skip:sf a (el W i) (el W j)=false→I (j+1)=o:=fun h=>by rw[hsu];unfold ahs;rw[h,if_neg (by simp)]
     have hqe:sf a (el W i) (el W j)=(decide ((el W i).au=a)&&(decide ((el W j).au=a)&&(decide ((el W i).nu=(el W j).nu)&&decide (Lib.compareBytes (el W i).sd (el W j).sd<0)))):=rfl
     by_cases a1:(el W i).au=a
     rotate_left
     ·have hq:sf a (el W i) (el W j)=false:=by rw[hqe,decide_eq_false a1];rfl
      simp only[go_sem,h2,hjlt,hlt,a1]
      refine⟨ae (by kernel_rfl),j+1,⟨by omega,by omega⟩,?_⟩
      rw[skip hq]
      simp only[go_sem,d8]
      rw[ag]<;>omega
     have t1:=eq_true a1
     by_cases a2:(el W j).au=a
     rotate_left
     ·have hq:sf a (el W i) (el W j)=false:=by rw[hqe,decide_eq_false a2,Bool.false_and,Bool.and_false]
      simp only[go_sem,h2,hjlt,hlt,t1,a2]
      refine⟨ae (by kernel_rfl),j+1,⟨by omega,by omega⟩,?_⟩
      rw[skip hq]
      simp only[go_sem,d8]
      rw[ag]<;>omega
     have t2:=eq_true a2
     by_cases a3:(el W i).nu=(el W j).nu
     rotate_left
     ·have hq:sf a (el W i) (el W j)=false:=by rw[hqe,decide_eq_false a3,Bool.false_and,Bool.and_false,Bool.and_false]
      simp only[go_sem,h2,hjlt,hlt,t1,t2,a3]
      refine⟨ae (by kernel_rfl),j+1,⟨by omega,by omega⟩,?_⟩
      rw[skip hq]
      simp only[go_sem,d8]
      rw[ag]<;>omega
     have t3:=eq_true a3
     by_cases a4:Lib.compareBytes (el W i).sd (el W j).sd<0
     rotate_left
     ·have hq:sf a (el W i) (el W j)=false:=by rw[hqe,decide_eq_false a4,Bool.and_false,Bool.and_false,Bool.and_false]
      have b4:Op.bytesLess (el W i).sd (el W j).sd=false:=by rw[cl,decide_eq_false a4]
      simp only[go_sem,h2,hjlt,hlt,t1,t2,t3,b4]
      refine⟨ae (by kernel_rfl),j+1,⟨by omega,by omega⟩,?_⟩
      rw[skip hq]
      simp only[go_sem,d8]
      rw[ag]<;>omega
     have b4:Op.bytesLess (el W i).sd (el W j).sd=true:=by rw[cl,decide_eq_true a4]
     have hq:sf a (el W i) (el W j)=true:=by rw[hqe,decide_eq_true a1,decide_eq_true a2,decide_eq_true a3,decide_eq_true a4];rfl
     unfold ahs at hsu
     rw[hq,if_pos rfl]at hsu
     cases o with
     |none=>
      simp only at hsu
      simp only[go_sem,h2,hjlt,hlt,t1,t2,t3,b4,Option.isSome_none]
      refine⟨ae (by kernel_rfl),by rw[aw5];exact Nat.le_refl _,j+1,⟨by omega,by omega⟩,?_⟩
      rw[hsu]
      simp only[go_sem,Option.isSome_some,d8,cz]
      refine⟨?_,rfl⟩
      rw[ag]<;>omega
     |some p=>
      obtain⟨x,y⟩:=p
      simp only at hsu
      have hle:bao (el W i) (el W j) x y=decide ((el W i).nu<x.nu∨(el W i).nu=x.nu∧(Lib.compareBytes (el W i).sd x.sd<0∨(el W i).sd=x.sd∧Lib.compareBytes (el W j).sd y.sd<0)):=rfl
      by_cases d1:(el W i).nu<x.nu
      ·rw[hle,decide_eq_true (.inl d1),if_pos rfl]at hsu
       simp only[go_sem,h2,hjlt,hlt,t1,t2,t3,b4,Option.isSome_some,cz,d1]
       refine⟨ae (by kernel_rfl),j+1,⟨by omega,by omega⟩,?_⟩
       rw[hsu]
       simp only[go_sem,Option.isSome_some,d8,cz]
       rw[ag]<;>omega
      by_cases d2:(el W i).nu=x.nu
      rotate_left
      ·rw[hle,decide_eq_false (fun h=>by rcases h with h|h;exact d1 h;exact d2 h.1),if_neg (by simp)]at hsu
       simp only[go_sem,h2,hjlt,hlt,t1,t2,t3,b4,Option.isSome_some,cz,d1,d2]
       refine⟨ae (by kernel_rfl),j+1,⟨by omega,by omega⟩,?_⟩
       rw[hsu]
       simp only[go_sem,Option.isSome_some,d8,cz]
       rw[ag]<;>omega
      have t5:=eq_true d2
      by_cases d3:Lib.compareBytes (el W i).sd x.sd<0
      ·rw[hle,decide_eq_true (.inr ⟨d2,.inl d3⟩),if_pos rfl]at hsu
       have b5:Op.bytesLess (el W i).sd x.sd=true:=by rw[cl,decide_eq_true d3]
       simp only[go_sem,h2,hjlt,hlt,t1,t2,t3,b4,Option.isSome_some,cz,d1,t5,b5,Int.lt_irrefl]
       refine⟨ae (by kernel_rfl),j+1,⟨by omega,by omega⟩,?_⟩
       rw[hsu]
       simp only[go_sem,Option.isSome_some,d8,cz]
       rw[ag]<;>omega
      have b5:Op.bytesLess (el W i).sd x.sd=false:=by rw[cl,decide_eq_false d3]
      by_cases d4:(el W i).sd=x.sd
      rotate_left
      ·rw[hle,decide_eq_false (fun h=>by rcases h with h|⟨_,h|h⟩;exact d1 h;exact d3 h;exact d4 h.1),if_neg (by simp)]at hsu
       simp only[go_sem,h2,hjlt,hlt,t1,t2,t3,b4,Option.isSome_some,cz,d1,t5,b5,d4,Int.lt_irrefl]
       refine⟨ae (by kernel_rfl),j+1,⟨by omega,by omega⟩,?_⟩
       rw[hsu]
       simp only[go_sem,Option.isSome_some,d8,cz]
       rw[ag]<;>omega
      have t6:=eq_true d4
      by_cases d5:Lib.compareBytes (el W j).sd y.sd<0
      ·rw[hle,decide_eq_true (.inr ⟨d2,.inr ⟨d4,d5⟩⟩),if_pos rfl]at hsu
       have b6:Op.bytesLess (el W j).sd y.sd=true:=by rw[cl,decide_eq_true d5]
       have b7:Op.bytesLess x.sd x.sd=false:=by rw[←d4]at b5 ⊢;exact b5
       simp only[go_sem,h2,hjlt,hlt,t1,t2,t3,b4,Option.isSome_some,cz,d1,t5,b5,b6,b7,t6,Int.lt_irrefl]
       refine⟨ae (by kernel_rfl),j+1,⟨by omega,by omega⟩,?_⟩
       rw[hsu]
       simp only[go_sem,Option.isSome_some,d8,cz]
       rw[ag]<;>omega
      ·rw[hle,decide_eq_false (fun h=>by rcases h with h|⟨_,h|h⟩;exact d1 h;exact d3 h;exact d5 h.2),if_neg (by simp)]at hsu
       have b6:Op.bytesLess (el W j).sd y.sd=false:=by rw[cl,decide_eq_false d5]
       have b7:Op.bytesLess x.sd x.sd=false:=by rw[←d4]at b5 ⊢;exact b5
       simp only[go_sem,h2,hjlt,hlt,t1,t2,t3,b4,Option.isSome_some,cz,d1,t5,b5,b6,b7,t6,Int.lt_irrefl]
       refine⟨ae (by kernel_rfl),j+1,⟨by omega,by omega⟩,?_⟩
       rw[hsu]
       simp only[go_sem,Option.isSome_some,d8,cz]
       rw[ag]<;>omega
    ·have h2: ¬(j:Int)<(W.length:Int):=by omega
     have:j=W.length:=by omega
     subst this
     simp only[go_sem,h2]
     refine⟨i+1,⟨by omega,by omega⟩,?_⟩
     rw[hst]
     simp only[go_sem,d8]
     rw[ag]<;>omega
  ·have h1: ¬(i:Int)<(W.length:Int):=by omega
   have:i=W.length:=by omega
   subst this
   cases frO a W W.length with
   |none=>
    simp only[go_sem,h1,aad,Option.isSome_none,noS,List.map_nil]
    done
   |some p=>
    obtain⟨x,y⟩:=p
    simp only[go_sem,h1,cz,Option.isSome_some]
    done
def ac4(R:List Stm)(a:Int)(i:Nat):List Stm:=(R.take i).filter fun s=>decide (s.au=a)
def ua(R:List Stm)(a:Int):List Stm:=R.filter fun s=>decide (s.au=a)
theorem apj{R:List Stm}{a:Int}{i:Nat}(h:i<R.length):ac4 R a (i+1)=ac4 R a i++(if decide ((el R i).au=a)=true then [el R i]else []):=by
 unfold ac4
 rw[bh h,List.filter_append]
 congr 1
 simp only[List.filter_cons,List.filter_nil]
theorem ayh(R:List Stm)(a:Int)(i:Nat):(ac4 R a i).length≤R.length:=by
 unfold ac4
 refine Nat.le_trans (List.length_filter_le _ _) ?_
 rw[List.length_take];omega
theorem asj(R:List Stm)(a:Int):ac4 R a R.length=ua R a:=by rw[ac4,List.take_length];rfl
def dbR(M:List Stm)(a:Int)(c:Cs):List (Int×Stm×Stm):=
 if 1<(am M c).length then [(2,(o9 M a c (el (am M c) 0).x).getD noS,(o9 M a c (el (am M c) 1).x).getD noS)]else []
def fkR(M:List Stm)(a:Int):List (Int×Stm×Stm):=match frO a M M.length with|none=>[]|some p=>[(1,p.1,p.2)]
def faR(M:List Stm)(K:List Cs)(a:Int):List (Int×Stm×Stm):=if M.length<2 then []else fkR M a++K.flatMap (dbR M a)
def arf(L:List Stm)(n:Nat):List (Int×Stm×Stm):=(List.range n).flatMap fun a:Nat=>faR (ua (L.filter dc) a) (f9 (L.filter dc)) a
theorem aem(L:List Stm):arf L 0=[]:=rfl
theorem agv(L:List Stm)(i:Nat):arf L (i+1)=arf L i++faR (ua (L.filter dc) i) (f9 (L.filter dc)) i:=by
 unfold arf
 rw[List.range_succ,List.flatMap_append]
 simp
theorem aiy(M:List Stm)(a:Int)(K:List Cs): ∀i,((K.take i).flatMap (dbR M a)).length≤i
 |0=>by simp
 |i+1=>by
  have ih:=aiy M a K i
  by_cases h:i<K.length
  ·rw[bh h,List.flatMap_append,List.length_append]
   have:(dbR M a (el K i)).length≤1:=by
    unfold dbR
    split<;>simp
   simp only[List.flatMap_cons,List.flatMap_nil,List.append_nil]
   omega
  ·rw[List.take_of_length_le (by omega)]
   rw[List.take_of_length_le (by omega)]at ih
   omega
theorem au1(M:List Stm)(a:Int):(fkR M a).length≤1:=by
 unfold fkR
 split<;>simp
theorem a8u(M:List Stm)(K:List Cs)(a:Int):(faR M K a).length≤1+K.length:=by
 have h1:=au1 M a
 have h2:=aiy M a K K.length
 rw[List.take_length]at h2
 unfold faR
 split
 ·simp
 ·rw[List.length_append];omega
theorem ac7(L:List Stm): ∀i,(arf L i).length≤i*(1+L.length)
 |0=>by simp[aem]
 |i+1=>by
  have h1:=ac7 L i
  have h2:=a8u (ua (L.filter dc) i) (f9 (L.filter dc)) i
  have h3:=oz (L.filter dc)
  have h4:(L.filter dc).length≤L.length:=List.length_filter_le _ _
  rw[agv,List.length_append,Nat.add_mul,Nat.one_mul]
  omega
theorem aoe(L:List Stm)(hl:L.length≤900)(hs: ∀s∈L,gx s):Den Tryz.prog 44 [.vs (L.map sm)] [] (.vs ((arf L 64).map pf)) [] []:=by
 refine aa Tryz.mixed Tryz.func44 rfl Tryz.call44 Tryz.ntmps44 (congrArg Array.toList Tryz.results44) (by simp) (by kernel_rfl) [] (exts:=[]) rfl rfl ?_
 have c1:=an2 L (by omega) hs
 have hRl:(L.filter dc).length≤L.length:=List.length_filter_le _ _
 have hRs: ∀s∈L.filter dc,gx s:=fun s h=>hs s ((List.mem_filter.1 h).1)
 have c2:=s4 (L.filter dc) (by omega) hRs
 rw[←ala]at c2
 have hKl:=oz (L.filter dc)
 have h0:=aem L
 have hsu:=agv L
 have hxl:=ac7 L
 generalize arf L=F at*
 generalize L.filter dc=R at*
 generalize f9 R=K at*
 simp only[go_sem]
 refine call c1 [] ?_
 simp only[go_sem]
 refine call c2 [] ?_
 simp only[go_sem]
 refine br 5 99 87 27 false ?_ ?_ ?_ (by omega)
 ·refine loop Tryz.mixed 0 (fun i:Nat=>[(3,.vs (R.map sm)),(4,.vs (K.map cs)),(5,.os 99 (F i).length),(6,.int .i64 i)]) (fun i=>[(99,.arr 87 27 false ((F i).map pf))]) (fun i=>i≤64) (fun i=>64 - i) (by kernel_rfl) (Nat.zero_le _) ?_ ?_
  ·rw[h0]
   simp only[go_sem,List.map_nil,List.length_nil]
  ·intro i hi
   by_cases hlt:i<64
   ·have h1:(i:Int)<64:=by omega
    have hsu:=hsu i
    have hxl:=hxl i
    have hmul:i*(1+L.length)≤64*901:=Nat.mul_le_mul (by omega) (by omega)
    have hms:=fun(j:Nat) (h:j<R.length)=>apj (a:=(i:Int)) h
    have hml:=ayh R (i:Int)
    have hma:=asj R (i:Int)
    have hm0:ac4 R (i:Int) 0=[]:=rfl
    have hMs: ∀s∈ua R (i:Int),gx s:=fun s h=>hRs s ((List.mem_filter.1 h).1)
    generalize F i=o at*
    generalize ac4 R (i:Int)=Mi at*
    simp only[go_sem,h1]
    refine br 7 98 60 13 false ?_ ?_ ?_ (by omega)
    ·refine loop Tryz.mixed 0 (fun j:Nat=>[(3,.vs (R.map sm)),(4,.vs (K.map cs)),(5,.os 99 o.length),(6,.int .i64 i),(7,.os 98 (Mi j).length),(8,.int .i64 j)]) (fun j=>[(99,.arr 87 27 false (o.map pf)),(98,.arr 60 13 false ((Mi j).map sm))]) (fun j=>j≤R.length) (fun j=>R.length - j) (by kernel_rfl) (Nat.zero_le _) ?_ ?_
     ·rw[hm0]
      simp only[go_sem,List.map_nil,List.length_nil]
     ·intro j hj
      by_cases hjlt:j<R.length
      ·have h2:(j:Int)<(R.length:Int):=by omega
       have hms:=hms j hjlt
       have hml:=hml j
       generalize Mi j=m at*
       by_cases a1:(el R j).au=(i:Int)
       ·rw[decide_eq_true a1,if_pos rfl]at hms
        have t1:=eq_true a1
        simp only[go_sem,h2,hjlt,t1]
        refine⟨by omega,j+1,⟨by omega,by omega⟩,?_⟩
        rw[hms]
        exact⟨⟨by simp,by rw[ag]<;>omega⟩,by simp[kz]⟩
       ·rw[decide_eq_false a1,if_neg (by simp),List.append_nil]at hms
        simp only[go_sem,h2,hjlt,a1]
        refine⟨j+1,⟨by omega,by omega⟩,?_⟩
        rw[hms]
        exact⟨⟨rfl,by rw[ag]<;>omega⟩,rfl⟩
      ·have h2: ¬(j:Int)<(R.length:Int):=by omega
       have:j=R.length:=by omega
       subst this
       have hml:=hml R.length
       rw[hma]at*
       have hfa:faR (ua R (i:Int)) K (i:Int)=if(ua R (i:Int)).length<2 then []else fkR (ua R (i:Int)) (i:Int)++K.flatMap (dbR (ua R (i:Int)) (i:Int)):=rfl
       generalize ua R (i:Int)=M at*
       by_cases h3:(M.length:Int)<2
       ·rw[if_pos (by omega)]at hfa
        rw[hfa,List.append_nil]at hsu
        simp only[go_sem,h2,h3]
        refine⟨i+1,⟨by omega,by omega⟩,?_⟩
        rw[hsu]
        exact⟨⟨rfl,by rw[ag]<;>omega⟩,rfl⟩
       ·rw[if_neg (by omega)]at hfa
        rw[hfa]at hsu
        have c3:=an7 M (i:Int) (by omega)
        have hfk:fkR M (i:Int)=match frO (i:Int) M M.length with|none=>[]|some p=>[(1,p.1,p.2)]:=rfl
        have hf1:=au1 M (i:Int)
        obtain⟨f2,hf2⟩: ∃f2,f2=fkR M (i:Int):=⟨_,rfl⟩
        rw[←hf2]at hsu hf1 hfk
        obtain⟨D,hD⟩: ∃D:Nat→List (Int×Stm×Stm),D=fun m=>o++(f2++(K.take m).flatMap (dbR M (i:Int))):=⟨_,rfl⟩
        have hD0:D 0=o++f2:=by rw[hD];simp
        have hDs: ∀m,m<K.length→D (m+1)=D m++dbR M (i:Int) (el K m):=fun m hm=>by
         rw[hD]
         show o++(f2++(K.take (m+1)).flatMap _)=o++(f2++(K.take m).flatMap _)++_
         rw[bh hm,List.flatMap_append]
         simp
        have hDl: ∀m,(D m).length≤o.length+1+m:=fun m=>by
         have:=aiy M (i:Int) K m
         rw[hD]
         show(o++(f2++(K.take m).flatMap _)).length≤_
         rw[List.length_append,List.length_append]
         omega
        have hDe:F (i+1)=D K.length:=by rw[hsu,hD];show _=o++(f2++(K.take K.length).flatMap _);rw[List.take_length]
        clear hD hf2 hf1 hfa hsu
        generalize frO (i:Int) M M.length=fo at*
        cases fo
        case' none=>
         dsimp only at hfk c3
         subst hfk
         rw[List.append_nil]at hD0
         simp only[Option.isSome_none]at c3
         rw[aew]at c3
         simp only[go_sem,h2,h3]
         refine call c3 [] ?_
         simp only[go_sem]
        case' some p=>
         obtain⟨x,y⟩:=p
         dsimp only at hfk c3
         subst hfk
         simp only[Option.isSome_some]at c3
         rw[aew]at c3
         simp only[go_sem,h2,h3]
         refine call c3 [] ?_
         simp only[go_sem]
         refine⟨by omega,?_⟩
        all_goals
         refine loop Tryz.mixed 0 (fun m:Nat=>[(3,.vs (R.map sm)),(4,.vs (K.map cs)),(5,.os 99 (D m).length),(6,.int .i64 i),(7,.vs (M.map sm)),(11,.int .i64 m)]) (fun m=>[(99,.arr 87 27 false ((D m).map pf))]) (fun m=>m≤K.length) (fun m=>K.length - m) (by kernel_rfl) (Nat.zero_le _) ?_ ?_
         ·rw[hD0]
          first
           |(simp only[go_sem];done)
           |(simp only[go_sem];simp[aew];done)
         ·intro m hm
          by_cases hmlt:m<K.length
          ·have g1:(m:Int)<(K.length:Int):=by omega
           have hds:=hDs m hmlt
           have hdl:=hDl m
           have cv:=sv M (el K m) (by omega) hMs
           have hvx:=aco (l:=M) (c:=el K m) M.length (Nat.le_refl _)
           rw[←abz]at cv hvx
           have hdb:dbR M (i:Int) (el K m)=if 1<(am M (el K m)).length then [(2,(o9 M (i:Int) (el K m) (el (am M (el K m)) 0).x).getD noS,(o9 M (i:Int) (el K m) (el (am M (el K m)) 1).x).getD noS)]else []:=rfl
           rw[bd]at cv
           generalize am M (el K m)=V at*
           generalize D m=d at*
           simp only[go_sem,g1,hmlt]
           refine call cv [] ?_
           by_cases g2:(V.length:Int)<2
           ·rw[if_neg (by omega)]at hdb
            rw[hdb,List.append_nil]at hds
            simp only[go_sem,g2]
            refine⟨m+1,⟨by omega,by omega⟩,?_⟩
            rw[hds]
            exact⟨⟨rfl,by rw[ag]<;>omega⟩,rfl⟩
           ·rw[if_pos (by omega)]at hdb
            rw[hdb]at hds
            have v0:0<V.length:=by omega
            have v1:1<V.length:=by omega
            have v0i:(0:Int)<(V.length:Int):=by omega
            have v1i:(1:Int)<(V.length:Int):=by omega
            have l0:=af5 M (i:Int) (el K m) (el V 0).x (by omega) hMs (hvx.2 _ (aw v0))
            have l1:=af5 M (i:Int) (el K m) (el V 1).x (by omega) hMs (hvx.2 _ (aw v1))
            rw[bd,gk]at l0 l1
            generalize o9 M (i:Int) (el K m) (el V 0).x=q0 at*
            generalize o9 M (i:Int) (el K m) (el V 1).x=q1 at*
            generalize q0.getD noS=x0 at*
            generalize q1.getD noS=x1 at*
            rw[kz]at l0 l1
            simp only[go_sem,g2,v0,v1,v0i,v1i,g1,hmlt]
            refine call l0 [] ?_
            simp only[go_sem,v0,v1,v0i,v1i,g1,hmlt]
            refine⟨ae (by kernel_rfl),call l1 [] ?_⟩
            simp only[go_sem]
            refine⟨ae (by kernel_rfl),by omega,m+1,⟨by omega,by omega⟩,?_⟩
            rw[hds]
            exact⟨⟨by simp,by rw[ag]<;>omega⟩,by simp[aew]⟩
          ·have g1: ¬(m:Int)<(K.length:Int):=by omega
           have:m=K.length:=by omega
           subst this
           simp only[go_sem,g1]
           refine⟨i+1,⟨by omega,by omega⟩,?_⟩
           rw[hDe]
           exact⟨⟨rfl,by rw[ag]<;>omega⟩,rfl⟩
    ·simp only[go_sem]
    ·simp only[go_sem]
   ·have h1: ¬(i:Int)<64:=by omega
    have:i=64:=by omega
    subst this
    simp only[go_sem,h1]
 ·simp only[go_sem]
 ·simp only[go_sem]
theorem aa8(p:Int×Stm×Stm):Den Tryz.prog 45 [.agg (pf p)] [] (.int .i64 p.2.1.au) [] []:=by
 refine aa Tryz.mixed Tryz.func45 rfl Tryz.call45 Tryz.ntmps45 (congrArg Array.toList Tryz.results45) (by simp) (by kernel_rfl) [] (exts:=[]) rfl rfl ?_
 simp only[go_sem]
def we(L:List Stm):List Int:=dh (fun k=>decide (k∈(arf L 64).map fun p=>p.2.1.au)) 64
theorem af3(L:List Stm)(hl:L.length≤900)(hs: ∀s∈L,gx s):Den Tryz.prog 22 [.vs (L.map sm)] [] (.vs ((we L).map i1)) [] []:=by
 refine aa Tryz.mixed Tryz.func22 rfl Tryz.call22 Tryz.ntmps22 (congrArg Array.toList Tryz.results22) (by simp) (by kernel_rfl) [] (exts:=[]) rfl rfl ?_
 have c1:=aoe L hl hs
 have hxl:=ac7 L 64
 have hmul:64*(1+L.length)≤64*901:=Nat.mul_le_mul (by omega) (by omega)
 have hg:we L=dh (fun k=>decide (k∈(arf L 64).map fun p=>p.2.1.au)) 64:=rfl
 rw[hg]
 generalize arf L 64=F at*
 obtain⟨I,hI⟩: ∃I:Nat→List Int,I=fun i=>(F.take i).map fun p=>p.2.1.au:=⟨_,rfl⟩
 have hI0:I 0=[]:=by rw[hI];rfl
 have hsu: ∀i,i<F.length→I (i+1)=I i++[(el F i).2.1.au]:=fun i hi=>by
  rw[hI]
  show(F.take (i+1)).map _=_
  rw[bh hi,List.map_append,List.map_singleton]
 have hln: ∀i,(I i).length≤F.length:=fun i=>by rw[hI];show((F.take i).map _).length≤_;rw[List.length_map,List.length_take];omega
 have hIl:F.map (fun p=>p.2.1.au)=I F.length:=by rw[hI];show _=(F.take F.length).map _;rw[List.take_length]
 rw[hIl]
 clear hI hIl hg
 simp only[go_sem]
 refine call c1 [] ?_
 simp only[go_sem]
 refine br 4 99 3 1 false ?_ ?_ ?_ (by omega)
 ·refine loop Tryz.mixed 0 (fun i:Nat=>[(3,.vs (F.map pf)),(4,.os 99 (I i).length),(5,.int .i64 i)]) (fun i=>[(99,.arr 3 1 false ((I i).map i1))]) (fun i=>i≤F.length) (fun i=>F.length - i) (by kernel_rfl) (Nat.zero_le _) ?_ ?_
  ·rw[hI0]
   simp only[go_sem,List.map_nil,List.length_nil]
  ·intro i hi
   by_cases hlt:i<F.length
   ·have h1:(i:Int)<(F.length:Int):=by omega
    have hsu:=hsu i hlt
    have hln:=hln i
    have ca:=aa8 (el F i)
    rw[aew]at ca
    generalize I i=o at*
    simp only[go_sem,h1,hlt]
    refine call ca [] ?_
    simp only[go_sem]
    refine⟨by omega,i+1,⟨by omega,by omega⟩,?_⟩
    rw[hsu]
    exact⟨⟨by simp,by rw[ag]<;>omega⟩,by simp[i1]⟩
   ·have h1: ¬(i:Int)<(F.length:Int):=by omega
    have:i=F.length:=by omega
    subst this
    have hln:=hln F.length
    generalize I F.length=o at*
    have cj:=a6x o [] (by simp only[big];omega) (by simp[big])
    have hk:dh (fun k=>decide (k∈o)||decide (k∈([]:List Int))) 64=dh (fun k=>decide (k∈o)) 64:=by simp
    rw[hk]at cj
    simp only[go_sem,h1]
    refine call cj [] ?_
    simp only[go_sem]
    done
 ·simp only[go_sem]
 ·simp only[go_sem]
theorem av2{l:List Stm}{k:Int}{c:Cs}{x:Ct}: ∀i,i≤l.length→∀t,leI l k c x i=some t→ahx c x k t=true
 |0,_,t,h=>by cases h
 |i+1,hi,t,h=>by
  have ih:=av2 (l:=l) (k:=k) (c:=c) (x:=x) i (by omega)
  rw[acx (by omega)]at h
  split at h
  rotate_left
  ·exact ih t h
  rename_i hk
  cases ho:leI l k c x i with
  |none=>
   rw[ho]at h
   cases h
   exact hk
  |some u=>
   rw[ho]at h
   simp only at h
   split at h
   ·cases h;exact hk
   ·cases h;exact ih _ ho
theorem ani{l:List Stm}{k:Int}{c:Cs}{x:Ct}: ∀i,i≤l.length→∀j,j<i→ahx c x k (el l j)=true→(leI l k c x i).isSome=true
 |0,_,j,hj,_=>by omega
 |i+1,hi,j,hj,h=>by
  rw[acx (by omega)]
  by_cases hji:j=i
  ·subst hji
   rw[if_pos h]
   cases leI l k c x j with
   |none=>rfl
   |some u=>
    simp only
    split<;>rfl
  ·have ih:=ani (l:=l) (k:=k) (c:=c) (x:=x) i (by omega) j (by omega) h
   split
   ·cases ho:leI l k c x i with
    |none=>rfl
    |some u=>
     simp only
     split<;>rfl
   ·exact ih
theorem azs{M:List Stm}{a:Int}{c:Cs}{x:Ct}{s:Stm}(hs:s∈M)(h:ahx c x a s=true):((o9 M a c x).getD noS).au=a:=by
 obtain⟨j,hj,rfl⟩:=vv hs
 have h1:=ani M.length (Nat.le_refl _) j hj h
 rw[aja]at h1
 obtain⟨t,ht⟩:=Option.isSome_iff_exists.1 h1
 rw[ht,Option.getD_some]
 rw[←aja]at ht
 have h2:=av2 M.length (Nat.le_refl _) t ht
 unfold ahx at h2
 simp only[Bool.and_eq_true,decide_eq_true_eq]at h2
 exact h2.1.2
theorem aea(L:List Stm)(a:Int):ua (L.filter dc) a=jy L a:=by
 unfold ua jy
 rw[List.filter_filter]
theorem a5b{M:List Stm}{a:Int}: ∀p∈fkR M a,p.2.1.au=a:=fun p hp=>by
 unfold fkR at hp
 split at hp
 ·simp at hp
 ·rename_i q hq
  rw[List.mem_singleton]at hp
  rw[hp]
  exact a4e _ q hq
theorem bda{L:List Stm}{a:Int}{c:Cs}: ∀p∈dbR (jy L a) a c,p.2.1.au=a:=fun p hp=>by
 unfold dbR at hp
 split at hp
 rotate_left
 ·simp at hp
 rename_i hl
 rw[List.mem_singleton]at hp
 rw[hp]
 obtain⟨s,h1,h2,h3⟩:=fl.1 (aw (show 0<(am (jy L a) c).length by omega))
 refine azs h1 ?_
 unfold ahx
 rw[h2,decide_eq_true (eg.1 h1).2.1,←h3,decide_eq_true rfl]
 rfl
theorem avf{x y:List UInt8}(h:x≠y):Lib.compareBytes x y<0∨Lib.compareBytes y x<0:=by
 have h1:=to_bytes.eq x y
 have h2:=to_bytes.flip y x
 have h3: ¬Lib.compareBytes x y=0:=fun e=>h (h1.1 e)
 omega
theorem a4j{L:List Stm}{a:Int}(h:CF L):fkR (jy L a) a≠[]↔gB L a=true:=by
 have h1:fkR (jy L a) a≠[]↔(frO a (jy L a) (jy L a).length).isSome=true:=by
  unfold fkR
  cases frO a (jy L a) (jy L a).length<;>simp
 rw[h1,amr _ (Nat.le_refl _),List.take_length,w8]
 simp only[List.any_eq_true,sf,Bool.and_eq_true,decide_eq_true_eq]
 constructor
 ·rintro⟨s,s1,t,t1,_,_,hn,hd⟩
  refine⟨s,s1,t,t1,hn,fun e=> ?_⟩
  subst e
  exact to_bytes.irr _ hd
 ·rintro⟨s,s1,t,t1,hn,hne⟩
  have hd:s.sd≠t.sd:=fun e=>hne (h.own s1 t1 hn e)
  have ax:=(eg.1 s1).2.1
  have at':=(eg.1 t1).2.1
  rcases avf hd with h2|h2
  ·exact⟨s,s1,t,t1,ax,at',hn,h2⟩
  ·exact⟨t,t1,s,s1,at',ax,hn.symm,h2⟩
theorem bar{L:List Stm}{a:Int}{c:Cs}(hu:UNI L)(h:dbR (jy L a) a c≠[]):gB L a=true:=by
 unfold dbR at h
 split at h
 rotate_left
 ·exact absurd rfl h
 rename_i hl
 have hss:=(uq (jy L a) c).1
 have hlt:=List.pairwise_iff_getElem.1 hss 0 1 (by omega) hl (by omega)
 obtain⟨s0,s1,s2,s3⟩:=fl.1 (List.getElem_mem (show 0<(am (jy L a) c).length by omega))
 obtain⟨t0,t1,t2,t3⟩:=fl.1 (List.getElem_mem hl)
 obtain⟨a1,a2,_⟩:=eg.1 s1
 obtain⟨b1,b2,_⟩:=eg.1 t1
 refine w8.2 ⟨s0,s1,t0,t1,hu c s0 a1 t0 b1 s2 t2 (a2.trans b2.symm),fun he=> ?_⟩
 subst he
 rw[←s3,←t3]at hlt
 have:=(a9p c).irr (cw s0).1
 rw[this]at hlt
 cases hlt
theorem azp{L:List Stm}(h:CF L)(hu:UNI L):we L=dh (gB L) 64:=by
 unfold we dh
 refine List.filter_congr fun k hk=> ?_
 obtain⟨a,ha,rfl⟩:=List.mem_map.1 hk
 have ha:=List.mem_range.1 ha
 rw[Bool.eq_iff_iff,decide_eq_true_iff]
 constructor
 ·intro h1
  obtain⟨p,hp,hpa⟩:=List.mem_map.1 h1
  unfold arf at hp
  obtain⟨b,hb,hp⟩:=List.mem_flatMap.1 hp
  rw[aea]at hp
  unfold faR at hp
  split at hp
  ·simp at hp
  rcases List.mem_append.1 hp with hp|hp
  ·rw[←hpa,a5b p hp]
   exact(a4j h).1 (List.ne_nil_of_mem hp)
  ·obtain⟨c,_,hp⟩:=List.mem_flatMap.1 hp
   rw[←hpa,bda p hp]
   exact bar hu (List.ne_nil_of_mem hp)
 ·intro h1
  have h2:=(a4j h).2 h1
  obtain⟨p,hp⟩:=List.exists_mem_of_ne_nil _ h2
  refine List.mem_map.2 ⟨p,?_,a5b p hp⟩
  unfold arf
  refine List.mem_flatMap.2 ⟨a,List.mem_range.2 ha,?_⟩
  rw[aea]
  unfold faR
  obtain⟨s,s1,t,t1,_,hne⟩:=w8.1 h1
  have hl: ¬(jy L (a:Int)).length<2:=by
   match hM:jy L (a:Int),s1,t1 with
   |[],m1,_=>simp at m1
   |[x],m1,m2=>simp at m1 m2;exact absurd (m1.trans m2.symm) hne
   |_::_::_,_,_=>simp
  rw[if_neg hl]
  exact List.mem_append.2 (.inl hp)
end Go.Proofs.Am
