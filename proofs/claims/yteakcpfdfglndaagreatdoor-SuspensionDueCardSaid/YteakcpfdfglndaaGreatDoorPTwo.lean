/- PTwo. -/
import Derived.Test.YteakcpfdfglndaaGreatDoorPOne
import Derived.Test.YteakcpfdfglndaaGreatDoorCThree
import Derived.Test.YteakcpfdfglndaaGreatDoorMSix
import Derived.Test.YteakcpfdfglndaaGreatDoorBOne
import Derived.Test.YteakcpfdfglndaaGreatDoorXTwo
set_option maxHeartbeats 1000000
set_option maxRecDepth 1000000
set_option linter.unusedSimpArgs false
set_option linter.unusedVariables false
namespace Go.Proofs.Am
open Go Go.RowKit
open Go.Proofs
def rgI(L:List Stm)(i:Nat):List Stm:=(L.take i).filter cl
theorem a0t{L:List Stm}{i:Nat}(h:i<L.length):rgI L (i+1)=rgI L i++(if cl (el L i)=true then [el L i]else []):=by
 unfold rgI
 rw[az h,List.filter_append]
 congr 1
 simp only[List.filter_cons,List.filter_nil]
theorem av5(L:List Stm)(i:Nat):(rgI L i).length≤L.length:=by
 unfold rgI
 refine Nat.le_trans (List.length_filter_le _ _) ?_
 rw[List.length_take];omega
theorem a6s(L:List Stm):rgI L L.length=L.filter cl:=by rw[rgI,List.take_length]
theorem anv(L:List Stm)(hl:L.length≤1000000)(hs: ∀s∈L,jv s):Den Tryz.prog 69 [.vs (L.map sm)] [] (.vs ((L.filter cl).map sm)) [] []:=by
 refine aa Tryz.mixed Tryz.func69 rfl Tryz.call69 Tryz.ntmps69 (congrArg Array.toList Tryz.results69) (by simp) (by kernel_rfl) [] (exts:=[]) rfl rfl ?_
 simp only[go_sem]
 refine dp 3 99 60 13 false ?_ ?_ ?_ (by omega)
 ·refine loop Tryz.mixed 0 (fun i:Nat=>[(0,.vs (L.map sm)),(3,.os 99 (rgI L i).length),(4,.int .i64 i)]) (fun i=>[(99,.arr 60 13 false ((rgI L i).map sm))]) (fun i=>i≤L.length) (fun i=>L.length - i) (by kernel_rfl) (Nat.zero_le _) ?_ ?_
  ·simp only[go_sem]
   exact⟨rfl,rfl⟩
  ·intro i hi
   by_cases hlt:i<L.length
   ·have h1:(i:Int)<(L.length:Int):=by omega
    have hsu:=a0t hlt
    have hln:=av5 L i
    have hbs:=hs _ (aw hlt)
    have c1:=ol (el L i) hbs
    have c2:=fun h:ah (el L i)=0=>og (el L i) (pw h)
    rw[kn]at c1 c2
    have no:cl (el L i)=false→rgI L (i+1)=rgI L i:=fun hh=>by rw[hsu,hh,if_neg (by simp),List.append_nil]
    simp only[go_sem,h1,hlt]
    refine call c1 [] ?_
    by_cases k2:ah (el L i)=0
    rotate_left
    ·have n0:=no (by simp[cl,k2])
     simp only[go_sem,k2,h1,hlt]
     refine⟨i+1,⟨by omega,by omega⟩,?_⟩
     rw[n0]
     exact⟨⟨rfl,by rw[ae]<;>omega⟩,rfl⟩
    simp only[go_sem,k2,h1,hlt]
    refine call (c2 k2) [] ?_
    by_cases k3:(el L i).sk=(el L i).au∧(el L i).sd=dig (el L i)
    rotate_left
    ·have n0:=no (by simp[cl,k3])
     simp only[go_sem,k3,k2,h1,hlt]
     refine⟨i+1,⟨by omega,by omega⟩,?_⟩
     rw[n0]
     exact⟨⟨rfl,by rw[ae]<;>omega⟩,rfl⟩
    have y0:rgI L (i+1)=rgI L i++[el L i]:=by rw[hsu,if_pos (by simp[cl,k2,k3])]
    simp only[go_sem,k3,k2,h1,hlt]
    refine⟨by omega,i+1,⟨by omega,by omega⟩,?_⟩
    rw[y0]
    exact⟨⟨by simp,by rw[ae]<;>omega⟩,by simp[kn,k3]⟩
   ·have h1: ¬(i:Int)<(L.length:Int):=by omega
    have:i=L.length:=by omega
    subst this
    have hln:=av5 L L.length
    rw[a6s]at*
    simp only[go_sem,h1]
    done
 ·simp only[go_sem]
 ·simp only[go_sem]
def qh(a:Int)(s t:Stm):Bool:=decide (s.au=a)&&(decide (t.au=a)&&(decide (s.nu=t.nu)&&decide (Lib.compareBytes s.sd t.sd<0)))
def a7s(s t x y:Stm):Bool:=decide (s.nu<x.nu∨s.nu=x.nu∧(Lib.compareBytes s.sd x.sd<0∨s.sd=x.sd∧Lib.compareBytes t.sd y.sd<0))
def ae8(a:Int)(o:Option (Stm×Stm))(s t:Stm):Option (Stm×Stm):=
 if qh a s t=true then(match o with|none=>some (s,t)|some (x,y)=>if a7s s t x y=true then some (s,t)else some (x,y))else o
def frI(a:Int)(W:List Stm)(s:Stm)(o:Option (Stm×Stm)):Nat→Option (Stm×Stm)
 |0=>o
 |j+1=>ae8 a (frI a W s o j) s (el W j)
def frO(a:Int)(W:List Stm):Nat→Option (Stm×Stm)
 |0=>none
 |i+1=>frI a W (el W i) (frO a W i) W.length
def apd:Option (Stm×Stm)→List PV
 |none=> .int .i64 0::(ah0 none++ah0 none)
 |some p=>pf (1,p.1,p.2)
theorem zn:apd none=[.int .i64 0,.int .i64 0,.int .i64 0,.str [],.int .i64 0,.int .i64 0,.int .i64 0,.int .i64 0,.int .i64 0,.nils,.nils,.str [],.int .i64 0,.str [],.int .i64 0,.int .i64 0,.str [],.int .i64 0,.int .i64 0,.int .i64 0,.int .i64 0,.int .i64 0,.nils,.nils,.str [],.int .i64 0,.str []]:=rfl
theorem bu(s t:Stm):apd (some (s,t))=pf (1,s,t):=rfl
theorem ec(d:List Nat)(o:Option (Stm×Stm)):adl d (apd o)=true:=by cases o<;>rfl
theorem arl(o:Option (Stm×Stm)):(apd o).length=27:=by cases o<;>rfl
theorem al4{a:Int}{o:Option (Stm×Stm)}{s t:Stm}:(ae8 a o s t).isSome=(o.isSome||qh a s t):=by
 unfold ae8
 cases qh a s t
 ·simp
 ·cases o with
  |none=>rfl
  |some p=>
   simp only[if_true]
   split<;>simp
theorem axt{a:Int}{o:Option (Stm×Stm)}{s t:Stm}(h: ∀p,o=some p→p.1.au=a): ∀p,ae8 a o s t=some p→p.1.au=a:=fun p hp=>by
 unfold ae8 at hp
 split at hp
 rotate_left
 ·exact h p hp
 rename_i hk
 have h1:s.au=a:=of_decide_eq_true (Bool.and_eq_true_iff.1 hk).1
 split at hp
 ·cases hp;exact h1
 ·rename_i x y
  split at hp
  ·cases hp;exact h1
  ·exact h p hp
theorem aku{a:Int}{W:List Stm}{s:Stm}{o:Option (Stm×Stm)}: ∀j,j≤W.length→(frI a W s o j).isSome=(o.isSome||(W.take j).any (qh a s))
 |0,_=>by simp[frI]
 |j+1,h=>by
  rw[frI,al4,aku j (by omega),az (by omega),List.any_append]
  simp[Bool.or_assoc]
theorem a16{a:Int}{W:List Stm}{s:Stm}{o:Option (Stm×Stm)}(h: ∀p,o=some p→p.1.au=a): ∀j,∀p,frI a W s o j=some p→p.1.au=a
 |0=>h
 |j+1=>axt (a16 h j)
theorem alj{a:Int}{W:List Stm}: ∀i,i≤W.length→(frO a W i).isSome=(W.take i).any fun s=>W.any (qh a s)
 |0,_=>by simp[frO]
 |i+1,h=>by
  rw[frO,aku _ (Nat.le_refl _),alj i (by omega),az (by omega),List.any_append,List.take_length]
  simp
theorem a2z{a:Int}{W:List Stm}: ∀i,∀p,frO a W i=some p→p.1.au=a
 |0=>fun p hp=>by cases hp
 |i+1=>a16 (a2z i) _
theorem apg(W:List Stm)(a:Int)(hl:W.length≤1000000):
  Den Tryz.prog 70 [.vs (W.map sm),.int .i64 a] [] (.tup [.agg (pf (match frO a W W.length with|none=>(0,noS,noS)|some p=>(1,p.1,p.2))),.bool (frO a W W.length).isSome]) [] []:=by
 refine aa Tryz.mixed Tryz.func70 rfl Tryz.call70 Tryz.ntmps70 (congrArg Array.toList Tryz.results70) (by simp) (by kernel_rfl) [] (exts:=[]) rfl rfl ?_
 simp only[go_sem]
 refine loop Tryz.mixed 0 (fun i:Nat=>[(0,.vs (W.map sm)),(1,.int .i64 a),(4,.ptr 4 0),(6,.ptr 6 0),(7,.bool (frO a W i).isSome),(8,.int .i64 i)]) (fun i=>[(4,.cells [.int .i64 0,.int .i64 0,.int .i64 0,.str [],.int .i64 0,.int .i64 0,.int .i64 0,.int .i64 0,.int .i64 0,.nils,.nils,.str [],.int .i64 0,.str [],.int .i64 0,.int .i64 0,.str [],.int .i64 0,.int .i64 0,.int .i64 0,.int .i64 0,.int .i64 0,.nils,.nils,.str [],.int .i64 0,.str []]),(6,.cells (apd (frO a W i)))]) (fun i=>i≤W.length) (fun i=>W.length - i) (by kernel_rfl) (Nat.zero_le _) ?_ ?_
 ·have e0:frO a W 0=none:=rfl
  simp only[go_sem,e0,zn,Option.isSome_none]
 ·intro i hi
  by_cases hlt:i<W.length
  ·have h1:(i:Int)<(W.length:Int):=by omega
   have hst:frO a W (i+1)=frI a W (el W i) (frO a W i) W.length:=rfl
   have hI0:frI a W (el W i) (frO a W i) 0=frO a W i:=rfl
   have hIs: ∀j:Nat,frI a W (el W i) (frO a W i) (j+1)=ae8 a (frI a W (el W i) (frO a W i) j) (el W i) (el W j):=fun j=>rfl
   generalize frI a W (el W i) (frO a W i)=I at*
   simp only[go_sem,h1]
   refine loop Tryz.mixed 0 (fun j:Nat=>[(0,.vs (W.map sm)),(1,.int .i64 a),(4,.ptr 4 0),(6,.ptr 6 0),(7,.bool (I j).isSome),(8,.int .i64 i),(9,.int .i64 j)]) (fun j=>[(4,.cells [.int .i64 0,.int .i64 0,.int .i64 0,.str [],.int .i64 0,.int .i64 0,.int .i64 0,.int .i64 0,.int .i64 0,.nils,.nils,.str [],.int .i64 0,.str [],.int .i64 0,.int .i64 0,.str [],.int .i64 0,.int .i64 0,.int .i64 0,.int .i64 0,.int .i64 0,.nils,.nils,.str [],.int .i64 0,.str []]),(6,.cells (apd (I j)))]) (fun j=>j≤W.length) (fun j=>W.length - j) (by kernel_rfl) (Nat.zero_le _) ?_ ?_
   ·rw[hI0]
    simp only[go_sem,ec]
   ·intro j hj
    by_cases hjlt:j<W.length
    ·have h2:(j:Int)<(W.length:Int):=by omega
     have hsu:=hIs j
     generalize I j=o at*
     have skip:qh a (el W i) (el W j)=false→I (j+1)=o:=fun h=>by rw[hsu];unfold ae8;rw[h,if_neg (by simp)]
     have hqe:qh a (el W i) (el W j)=(decide ((el W i).au=a)&&(decide ((el W j).au=a)&&(decide ((el W i).nu=(el W j).nu)&&decide (Lib.compareBytes (el W i).sd (el W j).sd<0)))):=rfl
     by_cases a1:(el W i).au=a
     rotate_left
     ·have hq:qh a (el W i) (el W j)=false:=by rw[hqe,decide_eq_false a1];rfl
      simp only[go_sem,h2,hjlt,hlt,a1]
      refine⟨ac (by kernel_rfl),j+1,⟨by omega,by omega⟩,?_⟩
      rw[skip hq]
      simp only[go_sem,ec]
      rw[ae]<;>omega
     have t1:=eq_true a1
     by_cases a2:(el W j).au=a
     rotate_left
     ·have hq:qh a (el W i) (el W j)=false:=by rw[hqe,decide_eq_false a2,Bool.false_and,Bool.and_false]
      simp only[go_sem,h2,hjlt,hlt,t1,a2]
      refine⟨ac (by kernel_rfl),j+1,⟨by omega,by omega⟩,?_⟩
      rw[skip hq]
      simp only[go_sem,ec]
      rw[ae]<;>omega
     have t2:=eq_true a2
     by_cases a3:(el W i).nu=(el W j).nu
     rotate_left
     ·have hq:qh a (el W i) (el W j)=false:=by rw[hqe,decide_eq_false a3,Bool.false_and,Bool.and_false,Bool.and_false]
      simp only[go_sem,h2,hjlt,hlt,t1,t2,a3]
      refine⟨ac (by kernel_rfl),j+1,⟨by omega,by omega⟩,?_⟩
      rw[skip hq]
      simp only[go_sem,ec]
      rw[ae]<;>omega
     have t3:=eq_true a3
     by_cases a4:Lib.compareBytes (el W i).sd (el W j).sd<0
     rotate_left
     ·have hq:qh a (el W i) (el W j)=false:=by rw[hqe,decide_eq_false a4,Bool.and_false,Bool.and_false,Bool.and_false]
      have b4:Op.bytesLess (el W i).sd (el W j).sd=false:=by rw[bp,decide_eq_false a4]
      simp only[go_sem,h2,hjlt,hlt,t1,t2,t3,b4]
      refine⟨ac (by kernel_rfl),j+1,⟨by omega,by omega⟩,?_⟩
      rw[skip hq]
      simp only[go_sem,ec]
      rw[ae]<;>omega
     have b4:Op.bytesLess (el W i).sd (el W j).sd=true:=by rw[bp,decide_eq_true a4]
     have hq:qh a (el W i) (el W j)=true:=by rw[hqe,decide_eq_true a1,decide_eq_true a2,decide_eq_true a3,decide_eq_true a4];rfl
     unfold ae8 at hsu
     rw[hq,if_pos rfl]at hsu
     cases o with
     |none=>
      simp only at hsu
      simp only[go_sem,h2,hjlt,hlt,t1,t2,t3,b4,Option.isSome_none]
      refine⟨ac (by kernel_rfl),by rw[arl];exact Nat.le_refl _,j+1,⟨by omega,by omega⟩,?_⟩
      rw[hsu]
      simp only[go_sem,Option.isSome_some,ec,bu]
      refine⟨?_,rfl⟩
      rw[ae]<;>omega
     |some p=>
      obtain⟨x,y⟩:=p
      simp only at hsu
      have hle:a7s (el W i) (el W j) x y=decide ((el W i).nu<x.nu∨(el W i).nu=x.nu∧(Lib.compareBytes (el W i).sd x.sd<0∨(el W i).sd=x.sd∧Lib.compareBytes (el W j).sd y.sd<0)):=rfl
      by_cases d1:(el W i).nu<x.nu
      ·rw[hle,decide_eq_true (.inl d1),if_pos rfl]at hsu
       simp only[go_sem,h2,hjlt,hlt,t1,t2,t3,b4,Option.isSome_some,bu,d1]
       refine⟨ac (by kernel_rfl),j+1,⟨by omega,by omega⟩,?_⟩
       rw[hsu]
       simp only[go_sem,Option.isSome_some,ec,bu]
       rw[ae]<;>omega
      by_cases d2:(el W i).nu=x.nu
      rotate_left
      ·rw[hle,decide_eq_false (fun h=>by rcases h with h|h;exact d1 h;exact d2 h.1),if_neg (by simp)]at hsu
       simp only[go_sem,h2,hjlt,hlt,t1,t2,t3,b4,Option.isSome_some,bu,d1,d2]
       refine⟨ac (by kernel_rfl),j+1,⟨by omega,by omega⟩,?_⟩
       rw[hsu]
       simp only[go_sem,Option.isSome_some,ec,bu]
       rw[ae]<;>omega
      have t5:=eq_true d2
      by_cases d3:Lib.compareBytes (el W i).sd x.sd<0
      ·rw[hle,decide_eq_true (.inr ⟨d2,.inl d3⟩),if_pos rfl]at hsu
       have b5:Op.bytesLess (el W i).sd x.sd=true:=by rw[bp,decide_eq_true d3]
       simp only[go_sem,h2,hjlt,hlt,t1,t2,t3,b4,Option.isSome_some,bu,d1,t5,b5,Int.lt_irrefl]
       refine⟨ac (by kernel_rfl),j+1,⟨by omega,by omega⟩,?_⟩
       rw[hsu]
       simp only[go_sem,Option.isSome_some,ec,bu]
       rw[ae]<;>omega
      have b5:Op.bytesLess (el W i).sd x.sd=false:=by rw[bp,decide_eq_false d3]
      by_cases d4:(el W i).sd=x.sd
      rotate_left
      ·rw[hle,decide_eq_false (fun h=>by rcases h with h|⟨_,h|h⟩;exact d1 h;exact d3 h;exact d4 h.1),if_neg (by simp)]at hsu
       simp only[go_sem,h2,hjlt,hlt,t1,t2,t3,b4,Option.isSome_some,bu,d1,t5,b5,d4,Int.lt_irrefl]
       refine⟨ac (by kernel_rfl),j+1,⟨by omega,by omega⟩,?_⟩
       rw[hsu]
       simp only[go_sem,Option.isSome_some,ec,bu]
       rw[ae]<;>omega
      have t6:=eq_true d4
      by_cases d5:Lib.compareBytes (el W j).sd y.sd<0
      ·rw[hle,decide_eq_true (.inr ⟨d2,.inr ⟨d4,d5⟩⟩),if_pos rfl]at hsu
       have b6:Op.bytesLess (el W j).sd y.sd=true:=by rw[bp,decide_eq_true d5]
       have b7:Op.bytesLess x.sd x.sd=false:=by rw[←d4]at b5 ⊢;exact b5
       simp only[go_sem,h2,hjlt,hlt,t1,t2,t3,b4,Option.isSome_some,bu,d1,t5,b5,b6,b7,t6,Int.lt_irrefl]
       refine⟨ac (by kernel_rfl),j+1,⟨by omega,by omega⟩,?_⟩
       rw[hsu]
       simp only[go_sem,Option.isSome_some,ec,bu]
       rw[ae]<;>omega
      ·rw[hle,decide_eq_false (fun h=>by rcases h with h|⟨_,h|h⟩;exact d1 h;exact d3 h;exact d5 h.2),if_neg (by simp)]at hsu
       have b6:Op.bytesLess (el W j).sd y.sd=false:=by rw[bp,decide_eq_false d5]
       have b7:Op.bytesLess x.sd x.sd=false:=by rw[←d4]at b5 ⊢;exact b5
       simp only[go_sem,h2,hjlt,hlt,t1,t2,t3,b4,Option.isSome_some,bu,d1,t5,b5,b6,b7,t6,Int.lt_irrefl]
       refine⟨ac (by kernel_rfl),j+1,⟨by omega,by omega⟩,?_⟩
       rw[hsu]
       simp only[go_sem,Option.isSome_some,ec,bu]
       rw[ae]<;>omega
    ·have h2: ¬(j:Int)<(W.length:Int):=by omega
     have:j=W.length:=by omega
     subst this
     simp only[go_sem,h2]
     refine⟨i+1,⟨by omega,by omega⟩,?_⟩
     rw[hst]
     simp only[go_sem,ec]
     rw[ae]<;>omega
  ·have h1: ¬(i:Int)<(W.length:Int):=by omega
   have:i=W.length:=by omega
   subst this
   cases frO a W W.length with
   |none=>
    simp only[go_sem,h1,zn,Option.isSome_none,noS,List.map_nil]
    done
   |some p=>
    obtain⟨x,y⟩:=p
    simp only[go_sem,h1,bu,Option.isSome_some]
    done
def ach(R:List Stm)(a:Int)(i:Nat):List Stm:=(R.take i).filter fun s=>decide (s.au=a)
def s7(R:List Stm)(a:Int):List Stm:=R.filter fun s=>decide (s.au=a)
theorem anh{R:List Stm}{a:Int}{i:Nat}(h:i<R.length):ach R a (i+1)=ach R a i++(if decide ((el R i).au=a)=true then [el R i]else []):=by
 unfold ach
 rw[az h,List.filter_append]
 congr 1
 simp only[List.filter_cons,List.filter_nil]
theorem aq4(R:List Stm)(a:Int)(i:Nat):(ach R a i).length≤R.length:=by
 unfold ach
 refine Nat.le_trans (List.length_filter_le _ _) ?_
 rw[List.length_take];omega
theorem aqn(R:List Stm)(a:Int):ach R a R.length=s7 R a:=by rw[ach,List.take_length];rfl
def dbR(M:List Stm)(a:Int)(c:Cs):List (Int×Stm×Stm):=
 if 1<(al M c).length then [(2,(oa M a c (el (al M c) 0).x).getD noS,(oa M a c (el (al M c) 1).x).getD noS)]else []
def fkR(M:List Stm)(a:Int):List (Int×Stm×Stm):=match frO a M M.length with|none=>[]|some p=>[(1,p.1,p.2)]
def faR(M:List Stm)(K:List Cs)(a:Int):List (Int×Stm×Stm):=if M.length<2 then []else fkR M a++K.flatMap (dbR M a)
def apv(L:List Stm)(n:Nat):List (Int×Stm×Stm):=(List.range n).flatMap fun a:Nat=>faR (s7 (L.filter cl) a) (fy (L.filter cl)) a
theorem adb(L:List Stm):apv L 0=[]:=rfl
theorem aga(L:List Stm)(i:Nat):apv L (i+1)=apv L i++faR (s7 (L.filter cl) i) (fy (L.filter cl)) i:=by
 unfold apv
 rw[List.range_succ,List.flatMap_append]
 simp
theorem aii(M:List Stm)(a:Int)(K:List Cs): ∀i,((K.take i).flatMap (dbR M a)).length≤i
 |0=>by simp
 |i+1=>by
  have ih:=aii M a K i
  by_cases h:i<K.length
  ·rw[az h,List.flatMap_append,List.length_append]
   have:(dbR M a (el K i)).length≤1:=by
    unfold dbR
    split<;>simp
   simp only[List.flatMap_cons,List.flatMap_nil,List.append_nil]
   omega
  ·rw[List.take_of_length_le (by omega)]
   rw[List.take_of_length_le (by omega)]at ih
   omega
theorem au7(M:List Stm)(a:Int):(fkR M a).length≤1:=by
 unfold fkR
 split<;>simp
theorem a58(M:List Stm)(K:List Cs)(a:Int):(faR M K a).length≤1+K.length:=by
 have h1:=au7 M a
 have h2:=aii M a K K.length
 rw[List.take_length]at h2
 unfold faR
 split
 ·simp
 ·rw[List.length_append];omega
theorem aa1(L:List Stm): ∀i,(apv L i).length≤i*(1+L.length)
 |0=>by simp[adb]
 |i+1=>by
  have h1:=aa1 L i
  have h2:=a58 (s7 (L.filter cl) i) (fy (L.filter cl)) i
  have h3:=ne (L.filter cl)
  have h4:(L.filter cl).length≤L.length:=List.length_filter_le _ _
  rw[aga,List.length_append,Nat.add_mul,Nat.one_mul]
  omega
theorem an2(L:List Stm)(hl:L.length≤900)(hs: ∀s∈L,jv s):Den Tryz.prog 44 [.vs (L.map sm)] [] (.vs ((apv L 64).map pf)) [] []:=by
 refine aa Tryz.mixed Tryz.func44 rfl Tryz.call44 Tryz.ntmps44 (congrArg Array.toList Tryz.results44) (by simp) (by kernel_rfl) [] (exts:=[]) rfl rfl ?_
 have c1:=anv L (by omega) hs
 have hRl:(L.filter cl).length≤L.length:=List.length_filter_le _ _
 have hRs: ∀s∈L.filter cl,jv s:=fun s h=>hs s ((List.mem_filter.1 h).1)
 have c2:=af8 (L.filter cl) (by omega) hRs
 rw[←a0p]at c2
 have hKl:=ne (L.filter cl)
 have h0:=adb L
 have hsu:=aga L
 have hxl:=aa1 L
 generalize apv L=F at*
 generalize L.filter cl=R at*
 generalize fy R=K at*
 simp only[go_sem]
 refine call c1 [] ?_
 simp only[go_sem]
 refine call c2 [] ?_
 simp only[go_sem]
 refine dp 5 99 87 27 false ?_ ?_ ?_ (by omega)
 ·refine loop Tryz.mixed 0 (fun i:Nat=>[(3,.vs (R.map sm)),(4,.vs (K.map cs)),(5,.os 99 (F i).length),(6,.int .i64 i)]) (fun i=>[(99,.arr 87 27 false ((F i).map pf))]) (fun i=>i≤64) (fun i=>64 - i) (by kernel_rfl) (Nat.zero_le _) ?_ ?_
  ·rw[h0]
   simp only[go_sem,List.map_nil,List.length_nil]
  ·intro i hi
   by_cases hlt:i<64
   ·have h1:(i:Int)<64:=by omega
    have hsu:=hsu i
    have hxl:=hxl i
    have hmul:i*(1+L.length)≤64*901:=Nat.mul_le_mul (by omega) (by omega)
    have hms:=fun(j:Nat) (h:j<R.length)=>anh (a:=(i:Int)) h
    have hml:=aq4 R (i:Int)
    have hma:=aqn R (i:Int)
    have hm0:ach R (i:Int) 0=[]:=rfl
    have hMs: ∀s∈s7 R (i:Int),jv s:=fun s h=>hRs s ((List.mem_filter.1 h).1)
    generalize F i=o at*
    generalize ach R (i:Int)=Mi at*
    simp only[go_sem,h1]
    refine dp 7 98 60 13 false ?_ ?_ ?_ (by omega)
    ·refine loop Tryz.mixed 0 (fun j:Nat=>[(3,.vs (R.map sm)),(4,.vs (K.map cs)),(5,.os 99 o.length),(6,.int .i64 i),(7,.os 98 (Mi j).length),(8,.int .i64 j)]) (fun j=>[(99,.arr 87 27 false (o.map pf)),(98,.arr 60 13 false ((Mi j).map sm))]) (fun j=>j≤R.length) (fun j=>R.length - j) (by kernel_rfl) (Nat.zero_le _) ?_ ?_
     ·rw[hm0]
      simp only[go_sem,List.map_nil,List.length_nil]
     ·intro j hj
      by_cases hjlt:j<R.length
      ·have h2:(j:Int)<(R.length:Int):=by omega
       have hms:=hms j hjlt
       have hml:=hml j
       generalize Mi j=m at*
       by_cases a1:(el R j).au=(i:Int)
       ·rw[decide_eq_true a1,if_pos rfl]at hms
        have t1:=eq_true a1
        simp only[go_sem,h2,hjlt,t1]
        refine⟨by omega,j+1,⟨by omega,by omega⟩,?_⟩
        rw[hms]
        exact⟨⟨by simp,by rw[ae]<;>omega⟩,by simp[kn]⟩
       ·rw[decide_eq_false a1,if_neg (by simp),List.append_nil]at hms
        simp only[go_sem,h2,hjlt,a1]
        refine⟨j+1,⟨by omega,by omega⟩,?_⟩
        rw[hms]
        exact⟨⟨rfl,by rw[ae]<;>omega⟩,rfl⟩
      ·have h2: ¬(j:Int)<(R.length:Int):=by omega
       have:j=R.length:=by omega
       subst this
       have hml:=hml R.length
       rw[hma]at*
       have hfa:faR (s7 R (i:Int)) K (i:Int)=if(s7 R (i:Int)).length<2 then []else fkR (s7 R (i:Int)) (i:Int)++K.flatMap (dbR (s7 R (i:Int)) (i:Int)):=rfl
       generalize s7 R (i:Int)=M at*
       by_cases h3:(M.length:Int)<2
       ·rw[if_pos (by omega)]at hfa
        rw[hfa,List.append_nil]at hsu
        simp only[go_sem,h2,h3]
        refine⟨i+1,⟨by omega,by omega⟩,?_⟩
        rw[hsu]
        exact⟨⟨rfl,by rw[ae]<;>omega⟩,rfl⟩
       ·rw[if_neg (by omega)]at hfa
        rw[hfa]at hsu
        have c3:=apg M (i:Int) (by omega)
        have hfk:fkR M (i:Int)=match frO (i:Int) M M.length with|none=>[]|some p=>[(1,p.1,p.2)]:=rfl
        have hf1:=au7 M (i:Int)
        obtain⟨f2,hf2⟩: ∃f2,f2=fkR M (i:Int):=⟨_,rfl⟩
        rw[←hf2]at hsu hf1 hfk
        obtain⟨D,hD⟩: ∃D:Nat→List (Int×Stm×Stm),D=fun m=>o++(f2++(K.take m).flatMap (dbR M (i:Int))):=⟨_,rfl⟩
        have hD0:D 0=o++f2:=by rw[hD];simp
        have hDs: ∀m,m<K.length→D (m+1)=D m++dbR M (i:Int) (el K m):=fun m hm=>by
         rw[hD]
         show o++(f2++(K.take (m+1)).flatMap _)=o++(f2++(K.take m).flatMap _)++_
         rw[az hm,List.flatMap_append]
         simp
        have hDl: ∀m,(D m).length≤o.length+1+m:=fun m=>by
         have:=aii M (i:Int) K m
         rw[hD]
         show(o++(f2++(K.take m).flatMap _)).length≤_
         rw[List.length_append,List.length_append]
         omega
        have hDe:F (i+1)=D K.length:=by rw[hsu,hD];show _=o++(f2++(K.take K.length).flatMap _);rw[List.take_length]
        clear hD hf2 hf1 hfa hsu
        generalize frO (i:Int) M M.length=fo at*
        cases fo
        case' none=>
         dsimp only at hfk c3
         subst hfk
         rw[List.append_nil]at hD0
         simp only[Option.isSome_none]at c3
         rw[adm]at c3
         simp only[go_sem,h2,h3]
         refine call c3 [] ?_
         simp only[go_sem]
        case' some p=>
         obtain⟨x,y⟩:=p
         dsimp only at hfk c3
         subst hfk
         simp only[Option.isSome_some]at c3
         rw[adm]at c3
         simp only[go_sem,h2,h3]
         refine call c3 [] ?_
         simp only[go_sem]
         refine⟨by omega,?_⟩
        all_goals
         refine loop Tryz.mixed 0 (fun m:Nat=>[(3,.vs (R.map sm)),(4,.vs (K.map cs)),(5,.os 99 (D m).length),(6,.int .i64 i),(7,.vs (M.map sm)),(11,.int .i64 m)]) (fun m=>[(99,.arr 87 27 false ((D m).map pf))]) (fun m=>m≤K.length) (fun m=>K.length - m) (by kernel_rfl) (Nat.zero_le _) ?_ ?_
         ·rw[hD0]
          first
           |(simp only[go_sem];done)
           |(simp only[go_sem];simp[adm];done)
         ·intro m hm
          by_cases hmlt:m<K.length
          ·have g1:(m:Int)<(K.length:Int):=by omega
           have hds:=hDs m hmlt
           have hdl:=hDl m
           have cv:=afp M (el K m) (by omega) hMs
           have hvx:=z8 (l:=M) (c:=el K m) M.length (Nat.le_refl _)
           rw[←al1]at cv hvx
           have hdb:dbR M (i:Int) (el K m)=if 1<(al M (el K m)).length then [(2,(oa M (i:Int) (el K m) (el (al M (el K m)) 0).x).getD noS,(oa M (i:Int) (el K m) (el (al M (el K m)) 1).x).getD noS)]else []:=rfl
           rw[bg]at cv
           generalize al M (el K m)=V at*
           generalize D m=d at*
           simp only[go_sem,g1,hmlt]
           refine call cv [] ?_
           by_cases g2:(V.length:Int)<2
           ·rw[if_neg (by omega)]at hdb
            rw[hdb,List.append_nil]at hds
            simp only[go_sem,g2]
            refine⟨m+1,⟨by omega,by omega⟩,?_⟩
            rw[hds]
            exact⟨⟨rfl,by rw[ae]<;>omega⟩,rfl⟩
           ·rw[if_pos (by omega)]at hdb
            rw[hdb]at hds
            have v0:0<V.length:=by omega
            have v1:1<V.length:=by omega
            have v0i:(0:Int)<(V.length:Int):=by omega
            have v1i:(1:Int)<(V.length:Int):=by omega
            have l0:=adk M (i:Int) (el K m) (el V 0).x (by omega) hMs (hvx.2 _ (aw v0))
            have l1:=adk M (i:Int) (el K m) (el V 1).x (by omega) hMs (hvx.2 _ (aw v1))
            rw[bg,jl]at l0 l1
            generalize oa M (i:Int) (el K m) (el V 0).x=q0 at*
            generalize oa M (i:Int) (el K m) (el V 1).x=q1 at*
            generalize q0.getD noS=x0 at*
            generalize q1.getD noS=x1 at*
            rw[kn]at l0 l1
            simp only[go_sem,g2,v0,v1,v0i,v1i,g1,hmlt]
            refine call l0 [] ?_
            simp only[go_sem,v0,v1,v0i,v1i,g1,hmlt]
            refine⟨ac (by kernel_rfl),call l1 [] ?_⟩
            simp only[go_sem]
            refine⟨ac (by kernel_rfl),by omega,m+1,⟨by omega,by omega⟩,?_⟩
            rw[hds]
            exact⟨⟨by simp,by rw[ae]<;>omega⟩,by simp[adm]⟩
          ·have g1: ¬(m:Int)<(K.length:Int):=by omega
           have:m=K.length:=by omega
           subst this
           simp only[go_sem,g1]
           refine⟨i+1,⟨by omega,by omega⟩,?_⟩
           rw[hDe]
           exact⟨⟨rfl,by rw[ae]<;>omega⟩,rfl⟩
    ·simp only[go_sem]
    ·simp only[go_sem]
   ·have h1: ¬(i:Int)<64:=by omega
    have:i=64:=by omega
    subst this
    simp only[go_sem,h1]
 ·simp only[go_sem]
 ·simp only[go_sem]
theorem abc(p:Int×Stm×Stm):Den Tryz.prog 45 [.agg (pf p)] [] (.int .i64 p.2.1.au) [] []:=by
 refine aa Tryz.mixed Tryz.func45 rfl Tryz.call45 Tryz.ntmps45 (congrArg Array.toList Tryz.results45) (by simp) (by kernel_rfl) [] (exts:=[]) rfl rfl ?_
 simp only[go_sem]
def asl(L:List Stm):List Int:=dl (fun k=>decide (k∈(apv L 64).map fun p=>p.2.1.au)) 64
theorem agc(L:List Stm)(hl:L.length≤900)(hs: ∀s∈L,jv s):Den Tryz.prog 22 [.vs (L.map sm)] [] (.vs ((asl L).map i1)) [] []:=by
 refine aa Tryz.mixed Tryz.func22 rfl Tryz.call22 Tryz.ntmps22 (congrArg Array.toList Tryz.results22) (by simp) (by kernel_rfl) [] (exts:=[]) rfl rfl ?_
 have c1:=an2 L hl hs
 have hxl:=aa1 L 64
 have hmul:64*(1+L.length)≤64*901:=Nat.mul_le_mul (by omega) (by omega)
 have hg:asl L=dl (fun k=>decide (k∈(apv L 64).map fun p=>p.2.1.au)) 64:=rfl
 rw[hg]
 generalize apv L 64=F at*
 obtain⟨I,hI⟩: ∃I:Nat→List Int,I=fun i=>(F.take i).map fun p=>p.2.1.au:=⟨_,rfl⟩
 have hI0:I 0=[]:=by rw[hI];rfl
 have hsu: ∀i,i<F.length→I (i+1)=I i++[(el F i).2.1.au]:=fun i hi=>by
  rw[hI]
  show(F.take (i+1)).map _=_
  rw[az hi,List.map_append,List.map_singleton]
 have hln: ∀i,(I i).length≤F.length:=fun i=>by rw[hI];show((F.take i).map _).length≤_;rw[List.length_map,List.length_take];omega
 have hIl:F.map (fun p=>p.2.1.au)=I F.length:=by rw[hI];show _=(F.take F.length).map _;rw[List.take_length]
 rw[hIl]
 clear hI hIl hg
 simp only[go_sem]
 refine call c1 [] ?_
 simp only[go_sem]
 refine dp 4 99 3 1 false ?_ ?_ ?_ (by omega)
 ·refine loop Tryz.mixed 0 (fun i:Nat=>[(3,.vs (F.map pf)),(4,.os 99 (I i).length),(5,.int .i64 i)]) (fun i=>[(99,.arr 3 1 false ((I i).map i1))]) (fun i=>i≤F.length) (fun i=>F.length - i) (by kernel_rfl) (Nat.zero_le _) ?_ ?_
  ·rw[hI0]
   simp only[go_sem,List.map_nil,List.length_nil]
  ·intro i hi
   by_cases hlt:i<F.length
   ·have h1:(i:Int)<(F.length:Int):=by omega
    have hsu:=hsu i hlt
    have hln:=hln i
    have ca:=abc (el F i)
    rw[adm]at ca
    generalize I i=o at*
    simp only[go_sem,h1,hlt]
    refine call ca [] ?_
    simp only[go_sem]
    refine⟨by omega,i+1,⟨by omega,by omega⟩,?_⟩
    rw[hsu]
    exact⟨⟨by simp,by rw[ae]<;>omega⟩,by simp[i1]⟩
   ·have h1: ¬(i:Int)<(F.length:Int):=by omega
    have:i=F.length:=by omega
    subst this
    have hln:=hln F.length
    generalize I F.length=o at*
    have cj:=a6t o [] (by simp only[big];omega) (by simp[big])
    have hk:dl (fun k=>decide (k∈o)||decide (k∈([]:List Int))) 64=dl (fun k=>decide (k∈o)) 64:=by simp
    rw[hk]at cj
    simp only[go_sem,h1]
    refine call cj [] ?_
    simp only[go_sem]
    done
 ·simp only[go_sem]
 ·simp only[go_sem]
theorem aq9{l:List Stm}{k:Int}{c:Cs}{x:Ct}: ∀i,i≤l.length→∀t,leI l k c x i=some t→agn c x k t=true
 |0,_,t,h=>by cases h
 |i+1,hi,t,h=>by
  have ih:=aq9 (l:=l) (k:=k) (c:=c) (x:=x) i (by omega)
  rw[aar (by omega)]at h
  split at h
  rotate_left
  ·exact ih t h
  rename_i hk
  cases ho:leI l k c x i with
  |none=>
   rw[ho]at h
   cases h
   exact hk
  |some u=>
   rw[ho]at h
   simp only at h
   split at h
   ·cases h;exact hk
   ·cases h;exact ih _ ho
theorem ako{l:List Stm}{k:Int}{c:Cs}{x:Ct}: ∀i,i≤l.length→∀j,j<i→agn c x k (el l j)=true→(leI l k c x i).isSome=true
 |0,_,j,hj,_=>by omega
 |i+1,hi,j,hj,h=>by
  rw[aar (by omega)]
  by_cases hji:j=i
  ·subst hji
   rw[if_pos h]
   cases leI l k c x j with
   |none=>rfl
   |some u=>
    simp only
    split<;>rfl
  ·have ih:=ako (l:=l) (k:=k) (c:=c) (x:=x) i (by omega) j (by omega) h
   split
   ·cases ho:leI l k c x i with
    |none=>rfl
    |some u=>
     simp only
     split<;>rfl
   ·exact ih
theorem a06{M:List Stm}{a:Int}{c:Cs}{x:Ct}{s:Stm}(hs:s∈M)(h:agn c x a s=true):((oa M a c x).getD noS).au=a:=by
 obtain⟨j,hj,rfl⟩:=zy hs
 have h1:=ako M.length (Nat.le_refl _) j hj h
 rw[ah3]at h1
 obtain⟨t,ht⟩:=Option.isSome_iff_exists.1 h1
 rw[ht,Option.getD_some]
 rw[←ah3]at ht
 have h2:=aq9 M.length (Nat.le_refl _) t ht
 unfold agn at h2
 simp only[Bool.and_eq_true,decide_eq_true_eq]at h2
 exact h2.1.2
theorem ae6(L:List Stm)(a:Int):s7 (L.filter cl) a=jt L a:=by
 unfold s7 jt
 rw[List.filter_filter]
theorem a2s{M:List Stm}{a:Int}: ∀p∈fkR M a,p.2.1.au=a:=fun p hp=>by
 unfold fkR at hp
 split at hp
 ·simp at hp
 ·rename_i q hq
  rw[List.mem_singleton]at hp
  rw[hp]
  exact a2z _ q hq
theorem a8d{L:List Stm}{a:Int}{c:Cs}: ∀p∈dbR (jt L a) a c,p.2.1.au=a:=fun p hp=>by
 unfold dbR at hp
 split at hp
 rotate_left
 ·simp at hp
 rename_i hl
 rw[List.mem_singleton]at hp
 rw[hp]
 obtain⟨s,h1,h2,h3⟩:=bo.1 (aw (show 0<(al (jt L a) c).length by omega))
 refine a06 h1 ?_
 unfold agn
 rw[h2,decide_eq_true (br.1 h1).2.1,←h3,decide_eq_true rfl]
 rfl
theorem aqk{x y:List UInt8}(h:x≠y):Lib.compareBytes x y<0∨Lib.compareBytes y x<0:=by
 have h1:=to_bytes.eq x y
 have h2:=to_bytes.flip y x
 have h3: ¬Lib.compareBytes x y=0:=fun e=>h (h1.1 e)
 omega
theorem a2o{L:List Stm}{a:Int}(h:CF L):fkR (jt L a) a≠[]↔gB L a=true:=by
 have h1:fkR (jt L a) a≠[]↔(frO a (jt L a) (jt L a).length).isSome=true:=by
  unfold fkR
  cases frO a (jt L a) (jt L a).length<;>simp
 rw[h1,alj _ (Nat.le_refl _),List.take_length,ri]
 simp only[List.any_eq_true,qh,Bool.and_eq_true,decide_eq_true_eq]
 constructor
 ·rintro⟨s,s1,t,t1,_,_,hn,hd⟩
  refine⟨s,s1,t,t1,hn,fun e=> ?_⟩
  subst e
  exact to_bytes.irr _ hd
 ·rintro⟨s,s1,t,t1,hn,hne⟩
  have hd:s.sd≠t.sd:=fun e=>hne (h.own s1 t1 hn e)
  have ax:=(br.1 s1).2.1
  have at':=(br.1 t1).2.1
  rcases aqk hd with h2|h2
  ·exact⟨s,s1,t,t1,ax,at',hn,h2⟩
  ·exact⟨t,t1,s,s1,at',ax,hn.symm,h2⟩
theorem a8n{L:List Stm}{a:Int}{c:Cs}(hu:UNI L)(h:dbR (jt L a) a c≠[]):gB L a=true:=by
 unfold dbR at h
 split at h
 rotate_left
 ·exact absurd rfl h
 rename_i hl
 have hss:=(js (jt L a) c).1
 have hlt:=List.pairwise_iff_getElem.1 hss 0 1 (by omega) hl (by omega)
 obtain⟨s0,s1,s2,s3⟩:=bo.1 (List.getElem_mem (show 0<(al (jt L a) c).length by omega))
 obtain⟨t0,t1,t2,t3⟩:=bo.1 (List.getElem_mem hl)
 obtain⟨a1,a2,_⟩:=br.1 s1
 obtain⟨b1,b2,_⟩:=br.1 t1
 refine ri.2 ⟨s0,s1,t0,t1,hu c s0 a1 t0 b1 s2 t2 (a2.trans b2.symm),fun he=> ?_⟩
 subst he
 rw[←s3,←t3]at hlt
 have:=(a2f c).irr (bh s0).1
 rw[this]at hlt
 cases hlt
theorem aza{L:List Stm}(h:CF L)(hu:UNI L):asl L=dl (gB L) 64:=by
 unfold asl dl
 refine List.filter_congr fun k hk=> ?_
 obtain⟨a,ha,rfl⟩:=List.mem_map.1 hk
 have ha:=List.mem_range.1 ha
 rw[Bool.eq_iff_iff,decide_eq_true_iff]
 constructor
 ·intro h1
  obtain⟨p,hp,hpa⟩:=List.mem_map.1 h1
  unfold apv at hp
  obtain⟨b,hb,hp⟩:=List.mem_flatMap.1 hp
  rw[ae6]at hp
  unfold faR at hp
  split at hp
  ·simp at hp
  rcases List.mem_append.1 hp with hp|hp
  ·rw[←hpa,a2s p hp]
   exact(a2o h).1 (List.ne_nil_of_mem hp)
  ·obtain⟨c,_,hp⟩:=List.mem_flatMap.1 hp
   rw[←hpa,a8d p hp]
   exact a8n hu (List.ne_nil_of_mem hp)
 ·intro h1
  have h2:=(a2o h).2 h1
  obtain⟨p,hp⟩:=List.exists_mem_of_ne_nil _ h2
  refine List.mem_map.2 ⟨p,?_,a2s p hp⟩
  unfold apv
  refine List.mem_flatMap.2 ⟨a,List.mem_range.2 ha,?_⟩
  rw[ae6]
  unfold faR
  obtain⟨s,s1,t,t1,_,hne⟩:=ri.1 h1
  have hl: ¬(jt L (a:Int)).length<2:=by
   match hM:jt L (a:Int),s1,t1 with
   |[],m1,_=>simp at m1
   |[x],m1,m2=>simp at m1 m2;exact absurd (m1.trans m2.symm) hne
   |_::_::_,_,_=>simp
  rw[if_neg hl]
  exact List.mem_append.2 (.inl hp)
theorem azc:dig (dm 0 30 0 d7)≠dig (dm 0 30 1 d7):=by
 unfold dig
 rw[l6,l6]
 decide+kernel
theorem az2:dig (dm 1 30 0 d7)≠dig (dm 1 30 1 d7):=by
 unfold dig
 rw[l6,l6]
 decide+kernel
theorem a1j:dig (dm 2 30 0 d7)≠dig (dm 2 30 1 d7):=by
 unfold dig
 rw[l6,l6]
 decide+kernel
theorem a1k:dig (dm 3 30 0 d7)≠dig (dm 3 30 1 d7):=by
 unfold dig
 rw[l6,l6]
 decide+kernel
theorem axy:dig (dm 4 30 0 d7)≠dig (dm 4 30 1 d7):=by
 unfold dig
 rw[l6,l6]
 decide+kernel
theorem a0v:dig (dm 5 30 0 d7)≠dig (dm 5 30 1 d7):=by
 unfold dig
 rw[l6,l6]
 decide+kernel
theorem ays:dig (dm 6 30 0 d7)≠dig (dm 6 30 1 d7):=by
 unfold dig
 rw[l6,l6]
 decide+kernel
theorem ayy:dig (dm 20 3 0 d7)≠dig (dm 20 3 1 d7):=by
 unfold dig
 rw[l6,l6]
 decide+kernel
theorem a9f{a:Int}(h:0≤a∧a<7):(dm a 30 0 d7).sd≠(dm a 30 1 d7).sd:=by
 have h1:a=0∨a=1∨a=2∨a=3∨a=4∨a=5∨a=6:=by omega
 rw[rg,rg]
 rcases h1 with rfl|rfl|rfl|rfl|rfl|rfl|rfl
 ·exact azc
 ·exact az2
 ·exact a1j
 ·exact a1k
 ·exact axy
 ·exact a0v
 ·exact ays
theorem a87:(dm 20 3 0 d7).sd≠(dm 20 3 1 d7).sd:=by
 rw[rg,rg]
 exact ayy
def agq(a:Int):List Stm:=[dm a 30 0 d7,dm a 30 1 d7,dm 20 3 0 d7,dm 20 3 1 d7]
def n4(a:Int)(C:Cs)(x:Ct)(s:List Int):List Stm:=agq a++da C 1 x s
theorem ic{a:Int}{C:Cs}{x:Ct}{s:List Int}{y:Stm}:y∈n4 a C x s↔(y=dm a 30 0 d7∨y=dm a 30 1 d7∨y=dm 20 3 0 d7∨y=dm 20 3 1 d7)∨∃k∈s,vt k 1 C x=y:=by
 unfold n4 agq da
 simp only[List.mem_append,List.mem_cons,List.not_mem_nil,or_false,List.mem_map]
theorem bbb(k nu:Int)(C:Cs)(x:Ct):(vt k nu C x).nu=nu∧(vt k nu C x).au=k:=⟨rfl,rfl⟩
theorem a4w{A0 A1 B0 B1:Stm}{f:Int→Stm}{s:List Int}(a0:A0.nu=30)(a1:A1.nu=30)(b0:B0.nu=3)(b1:B1.nu=3)(f0: ∀k,(f k).nu=1)(f1: ∀k,(f k).au=k)(dA:A0.sd≠A1.sd)(dB:B0.sd≠B1.sd){y z:Stm}
  (hy:(y=A0∨y=A1∨y=B0∨y=B1)∨∃k∈s,f k=y) (hz:(z=A0∨z=A1∨z=B0∨z=B1)∨∃k∈s,f k=z) (hau:y.au=z.au) (hnu:y.nu=z.nu) (hd:y.sd=z.sd):y=z:=by
 rcases hy with (rfl|rfl|rfl|rfl)|⟨k,_,rfl⟩<;>rcases hz with (rfl|rfl|rfl|rfl)|⟨m,_,rfl⟩
 all_goals first
  |rfl
  |exact absurd hd dA
  |exact absurd hd.symm dA
  |exact absurd hd dB
  |exact absurd hd.symm dB
  |(rw[f1,f1]at hau;rw[hau];done)
  |(have h1:=f0 0;simp only[a0,a1,b0,b1,f0]at hnu;omega)
theorem ab1{a:Int}(ha:0≤a∧a<7)(C:Cs)(x:Ct)(s:List Int):CF (n4 a C x s):=fun y hy z hz _ _ hau hnu hd=>
 a4w (f:=fun k=>vt k 1 C x) rfl rfl rfl rfl (fun _=>rfl) (fun _=>rfl) (a9f ha) a87 (ic.1 hy) (ic.1 hz) hau hnu hd
theorem adx(au nu ti:Int)(c:Cs):okV c (dm au nu ti d7)=false:=a1z (by show(11:Int)≠10;omega)
theorem arz{a:Int}{C:Cs}{x:Ct}{s:List Int}{c:Cs}{y:Stm}(hy:y∈n4 a C x s)(h:okV c y=true):y.nu=1:=by
 rcases ic.1 hy with (rfl|rfl|rfl|rfl)|⟨k,_,rfl⟩
 ·rw[adx]at h;cases h
 ·rw[adx]at h;cases h
 ·rw[adx]at h;cases h
 ·rw[adx]at h;cases h
 ·exact(bbb _ _ _ _).1
theorem akk(a:Int)(C:Cs)(x:Ct)(s:List Int):UNI (n4 a C x s):=fun c y hy z hz h1 h2 _=>by
 rw[arz hy h1,arz hz h2]
theorem a42{A0 A1 B0 B1:Stm}{f:Int→Stm}{s:List Int}(a0:A0.nu=30)(a1:A1.nu=30)(b0:B0.nu=3)(b1:B1.nu=3)(f0: ∀k,(f k).nu=1)(f1: ∀k,(f k).au=k){y z:Stm}
  (hy:(y=A0∨y=A1∨y=B0∨y=B1)∨∃k∈s,f k=y) (hz:(z=A0∨z=A1∨z=B0∨z=B1)∨∃k∈s,f k=z) (hau:y.au=z.au) (hnu:y.nu=z.nu) (hne:y≠z):(y=A0∨y=A1∨y=B0∨y=B1):=by
 rcases hy with hy|⟨k,_,rfl⟩
 ·exact hy
 ·rcases hz with (rfl|rfl|rfl|rfl)|⟨m,_,rfl⟩
  ·rw[f0,a0]at hnu;omega
  ·rw[f0,a1]at hnu;omega
  ·rw[f0,b0]at hnu;omega
  ·rw[f0,b1]at hnu;omega
  ·rw[f1,f1]at hau;exact absurd (by rw[hau]) hne
theorem vv(au nu ti:Int)(d:Drf):(dm au nu ti d).au=au:=rfl
theorem a36{a:Int}(ha:0≤a∧a<7)(C:Cs)(x:Ct)(s:List Int)(k:Int):gB (n4 a C x s) k=decide (k=a∨k=20):=by
 rw[Bool.eq_iff_iff,ri,decide_eq_true_iff]
 constructor
 ·rintro⟨y,hy,z,hz,hnu,hne⟩
  obtain⟨y1,y2,_⟩:=br.1 hy
  obtain⟨z1,z2,_⟩:=br.1 hz
  have h:=a42 (f:=fun k=>vt k 1 C x) rfl rfl rfl rfl (fun _=>rfl) (fun _=>rfl) (ic.1 y1) (ic.1 z1) (y2.trans z2.symm) hnu hne
  rcases h with h|h|h|h<;>rw[h,vv]at y2
  ·exact .inl y2.symm
  ·exact .inl y2.symm
  ·exact .inr y2.symm
  ·exact .inr y2.symm
 ·have hti: ∀u v:Int,dm u v 0 d7≠dm u v 1 d7:=fun u v h=>absurd (congrArg Stm.ti h) (by show¬(0:Int)=1;omega)
  have hin:inB a 0 63=true:=by
   unfold inB
   simp
   omega
  rintro(rfl|rfl)
  ·exact⟨_,br.2 ⟨ic.2 (.inl (.inl rfl)),vv _ _ _ _,ka _ 30 0 hin rfl rfl⟩,_,br.2 ⟨ic.2 (.inl (.inr (.inl rfl))),vv _ _ _ _,ka _ 30 1 hin rfl rfl⟩,rfl,hti _ _⟩
  ·exact⟨_,br.2 ⟨ic.2 (.inl (.inr (.inr (.inl rfl)))),vv _ _ _ _,ka 20 3 0 rfl rfl rfl⟩,_,br.2 ⟨ic.2 (.inl (.inr (.inr (.inr rfl)))),vv _ _ _ _,ka 20 3 1 rfl rfl rfl⟩,rfl,hti _ _⟩
theorem afr{a:Int}(ha:0≤a∧a<7)(C:Cs)(x:Ct)(s:List Int):amw (n4 a C x s)=[a,20]∧asl (n4 a C x s)=[a,20]:=by
 have hk:dl (gB (n4 a C x s)) 64=[a,20]:=by
  have:gB (n4 a C x s)=fun k=>decide (k=a∨k=20):=funext (a36 ha C x s)
  rw[this]
  have h1:a=0∨a=1∨a=2∨a=3∨a=4∨a=5∨a=6:=by omega
  rcases h1 with rfl|rfl|rfl|rfl|rfl|rfl|rfl<;>decide
 exact⟨(avu (ab1 ha C x s) (akk a C x s)).trans hk,(aza (ab1 ha C x s) (akk a C x s)).trans hk⟩
theorem aig{a:Int}: ∀s∈agq a,∀d,okV d s=false:=fun s hs d=>by
 simp only[agq,List.mem_cons,List.not_mem_nil,or_false]at hs
 rcases hs with rfl|rfl|rfl|rfl<;>exact adx _ _ _ _
theorem aki{r:Rl}{t:Tm}{c:Cs}{x:Ct}{a:Int}(hr:du r=0)(ht:OkT t)(ho:ky c=true)(he:c.ep=t.ep)(h0:cz c x=true):
  gh r (n4 a c x (am r t c).1) t c=(x,true,0):=by
 obtain⟨hc,hro,_⟩:=o7.1 ho
 have hs0:=jg hr ht hc he hro
 have hck0:ckS c (am r t c).1=0:=by
  rcases un (L:=[]) hr ht hc he with ⟨_,s2,_⟩|⟨s1,_⟩
  ·exact s2
  ·rw[hs0]at s1;cases s1
 rcases un (L:=n4 a c x (am r t c).1) hr ht hc he with ⟨_,_,s3⟩|⟨s1,_⟩
 ·rw[s3,azw (E:=agq a) (nu:=1) hck0 (by omega) h0 (fun s=>by unfold n4;simp only[List.mem_append];exact or_comm) fun s hs=>aig s hs c]
  rfl
 ·rw[hs0]at s1;cases s1
theorem acw{t:Tm}{c:Cs}{x:Ct}{a:Int}{S:List Int}:lu (n4 a c x S) t c=false:=by
 have hk: ∀s∈n4 a c x S,s.kd≠15:=fun s hs=>by
  rcases ic.1 hs with (rfl|rfl|rfl|rfl)|⟨k,_,rfl⟩
  ·show(11:Int)≠15;omega
  ·show(11:Int)≠15;omega
  ·show(11:Int)≠15;omega
  ·show(11:Int)≠15;omega
  ·show(dx c x).1.kd≠15
   unfold dx
   (repeat' split)<;>simp[noD]
 have h:(n4 a c x S).any (atz t.ros c)=false:=by
  rw[List.any_eq_false]
  intro s hs
  unfold atz
  simp[hk s hs]
 unfold lu
 rw[h,Bool.and_false]
theorem azy{r:Rl}{t:Tm}{c:Cs}{x:Ct}{a:Int}(hr:du r=0)(ht:OkT t)(ho:ky c=true)(he:c.ep=t.ep)(h0:cz c x=true):
  ya r (n4 a c x (am r t c).1) t c=(x,true,0):=by
 obtain⟨hc,hro,_⟩:=o7.1 ho
 rw[(ag3 hc hro acw).2,aki hr ht ho he h0]
 rfl
theorem at1{r:Rl}{t:Tm}{c:Cs}{x:Ct}{a:Int}(hr:du r=0)(ht:OkT t)(ho:ky c=true)(he:c.ep=t.ep)(h0:cz c x=true)(k:Int):
  nz r (n4 a c x (am r t c).1) t c.kd k=(decide (k=c.su)&&decide (x.li=[1])):=by
 obtain⟨hc,hro,hkd⟩:=o7.1 ho
 by_cases hk:k=c.su
 ·subst hk
  have hcc:jp t c.kd c.su=c:=by
   cases c
   simp only[jp]at*
   rw[he,hro]
  unfold nz
  rw[hcc,azy hr ht ho he h0]
  simp
 ·have hs0:=jg hr ht hc he hro
  have hck0:ckS c (am r t c).1=0:=by
   rcases un (L:=[]) hr ht hc he with ⟨_,s2,_⟩|⟨s1,_⟩
   ·exact s2
   ·rw[hs0]at s1;cases s1
  have hn:ail (n4 a c x (am r t c).1) (jp t c.kd k)=false:=by
   unfold ail
   rw[List.any_eq_false]
   intro d hd hx
   obtain⟨s,hs,v1,v2⟩:=qq.1 hd
   have hv:okV d s=true:=by rw[okV,v1,v2];simp
   unfold n4 at hs
   rcases List.mem_append.1 hs with hs|hs
   ·rw[aig s hs d]at hv;cases hv
   ·have h1:=(afq (d:=d) (EndP.of hck0) (by omega) h0 hs).2.1 hv
    subst h1
    simp only[Bool.and_eq_true,decide_eq_true_eq,jp]at hx
    exact hk (of_decide_eq_true hx.2.2).symm
  have h2:=aej (r:=r) hn
  unfold nz
  rw[h2]
  simp[hk]
theorem yh{l:List Int}{k:Int}{p:Int→Bool}(hn:l.Nodup)(hk:k∈l)(hp: ∀x∈l,p x=decide (x=k)):l.filter p=[k]:=by
 have h1:l.filter p=l.filter (· ==k):=List.filter_congr fun x hx=>by rw[hp x hx];rfl
 have h2:l.filter (· ==k)=List.replicate (l.count k) k:=List.filter_beq k
 have h3:=hn.count (a:=k)
 rw[if_pos hk]at h3
 rw[h1,h2,h3]
 rfl
theorem afg{t:Tm}(ht:OkT t):t.ros.Nodup:=(i8 ht.ros).1.imp fun h=>by omega
theorem arf{r:Rl}{t:Tm}{c:Cs}{x:Ct}{a:Int}(hr:du r=0)(ht:OkT t)(ho:ky c=true)(he:c.ep=t.ep)(h0:cz c x=true)(hk:c.kd=3)(hs:c.su∈t.ros):
  la r (n4 a c x (am r t c).1) t=if decide (x.li=[1])=true then [c.su]else []:=by
 have hb:=fun k=>at1 (a:=a) hr ht ho he h0 k
 rw[hk]at hb
 unfold la
 by_cases hx:x.li=[1]
 ·rw[if_pos (by simp[hx])]
  exact yh (afg ht) hs fun k _=>by rw[hb k];simp[hx]
 ·rw[if_neg (by simp[hx]),List.filter_eq_nil_iff]
  intro k _
  rw[hb k]
  simp[hx]
theorem arv{r:Rl}{t:Tm}{a:Int}(ht:OkT t)(ha:a∈t.ros)(h20:(20:Int)∉t.ros):a21 r (agq a) t [a,20]=[a]:=by
 unfold a21
 refine yh (afg ht) ha fun k hk=> ?_
 have hd:(gh r (agq a) t (jp t 3 k)).2.1=false:=pt fun s hs=>aig s hs _
 have hk2:k≠20:=fun h=>h20 (h ▸ hk)
 rw[hd]
 simp[hk2]
theorem av0{r:Rl}{t:Tm}{c:Cs}{x:Ct}{a:Int}(hr:du r=0)(ht:OkT t)(ho:ky c=true)(he:c.ep=t.ep)(h0:cz c x=true)(hc:jp t 3 a=c)(h20:(20:Int)∉t.ros):
  a21 r (n4 a c x (am r t c).1) t [a,20]=[]:=by
 unfold a21
 rw[List.filter_eq_nil_iff]
 intro k hk
 have hk2:k≠20:=fun h=>h20 (h ▸ hk)
 by_cases hka:k=a
 ·subst hka
  rw[hc,aki hr ht ho he h0]
  simp
 ·simp[hka,hk2]
theorem ayj(a:Int)(C:Cs)(x:Ct):n4 a C x []=agq a:=by
 unfold n4 da
 rw[List.map_nil,List.append_nil]
theorem a6o(a:Int): ∀s∈agq a,plS s∧jv s:=fun s hs=>by
 simp only[agq,List.mem_cons,List.not_mem_nil,or_false]at hs
 rcases hs with rfl|rfl|rfl|rfl<;>exact⟨avk (by show(11:Int)≠10;omega),(awf _ _ _).big⟩
theorem aka(a:Int):(agq a).map sm=[sm (dm a 30 0 d7),sm (dm a 30 1 d7),sm (dm 20 3 0 d7),sm (dm 20 3 1 d7)]:=rfl
theorem aws(a:Int):(agq a).length=4:=rfl
theorem au6(l:List Int)(vo:Bool):Den Tryz.prog 6 [.vs (l.map i1),.bool vo] [] (.bool true) [] []:=by
 refine aa Tryz.mixed Tryz.func6 rfl Tryz.call6 Tryz.ntmps6 (congrArg Array.toList Tryz.results6) (by simp) (by kernel_rfl) [] (exts:=[]) rfl rfl ?_
 by_cases h400:l.length≤400
 rotate_left
 ·have hd:decide (l.length≤400)=false:=decide_eq_false h400
  simp only[go_sem]
  refine call (aef l) [] ?_
  simp only[go_sem,hd]
  refine call vk [] ?_
  simp only[go_sem]
 have hd:decide (l.length≤400)=true:=decide_eq_true h400
 have hl:big l.length:=by simp only[big];omega
 have c1:=at5 l 0 hl (Nat.zero_le _)
 have hB:RlB (dd l 0):=amc l 0
 have hr:=uq l 0
 have hT:=a20 (l:=l) (p:=0)
 have hTl:=avz (l:=l) (p:=0)
 have hTe:(ctT l 0).ep=0:=rfl
 have hT7: ∀k∈(ctT l 0).ros,0≤k∧k<7:=fun k hk=>by
  have:=List.mem_of_mem_take hk
  simp only[List.mem_cons,List.not_mem_nil,or_false]at this
  omega
 have hq:(ctF l 0).1≤l.length:=atd (Nat.zero_le _) _
 generalize dd l 0=R at*
 generalize ctT l 0=T at*
 generalize ctF l 0=F at*
 obtain⟨q,L⟩:=F
 dsimp only at c1 hq
 have hq1:=eb hq 1
 have e0:afi l q=dgo l q 1:=rfl
 obtain⟨z,hz⟩: ∃z:Nat,aj l q (T.ros.length:Int)=(z:Int):=⟨(aj l q (T.ros.length:Int)).toNat,by have:=cw (l:=l) (p:=q) (n:=(T.ros.length:Int)) (by omega);omega⟩
 have hzl:z<T.ros.length:=by have:=cw (l:=l) (p:=q) (n:=(T.ros.length:Int)) (by omega);omega
 have hsm:=aw hzl
 have hs7:=hT7 _ hsm
 have h20:(20:Int)∉T.ros:=fun h=>by have:=hT7 _ h;omega
 rw[fk,kb]at c1
 simp only[go_sem]
 refine call (aef l) [] ?_
 simp only[go_sem,hd]
 refine call (bar l) [] ?_
 simp only[go_sem]
 refine call c1 [27] ?_
 simp only[go_sem]
 refine call (eu l q T.ros.length hl hq (by omega)) [27] ?_
 rw[hz]
 simp only[go_sem,hzl,e0]
 refine⟨ac (by kernel_rfl),?_⟩
 generalize el T.ros z=su at*
 obtain⟨C,hC⟩: ∃C:Cs,C=⟨0,3,su,0⟩:=⟨_,rfl⟩
 obtain⟨nn,hnn⟩: ∃nn:Int,nn=if vo=true then 1 else 0:=⟨_,rfl⟩
 have hn01:0≤nn∧nn≤1:=by rw[hnn];split<;>omega
 have hcv:dq C=true:=by rw[hC];exact lp ⟨by show(0:Int)≤0;omega,by show(0:Int)<40;omega,by show 0≤su;omega,by show su<64;omega,by show(0:Int)≤0;omega,by show(0:Int)≤1;omega,.inr (.inr rfl)⟩
 have hO:ky C=true:=o7.2 ⟨hcv,by rw[hC],by rw[hC];show(3:Int)≠1;omega⟩
 have hE:C.ep=T.ep:=by rw[hC,hTe]
 have hK:jp T 3 su=C:=by rw[hC];unfold jp;rw[hTe]
 have hbT:big T.ros.length:=by simp only[big];omega
 have k0:C.kd≠1:=by rw[hC];show(3:Int)≠1;omega
 have k3:C.kd=3:=by rw[hC]
 have ksu:C.su=su:=by rw[hC]
 obtain⟨x,hx⟩: ∃x:Ct,x=⟨[nn],[]⟩:=⟨_,rfl⟩
 have r0:cz C x=true:=by rw[hx];exact a5g hcv k0 (by omega)
 have o0:w9 x:=by rw[hx];exact⟨by simp,by simp⟩
 have hxp:x.pi=[]:=by rw[hx]
 have hx1:decide (x.li=[1])=vo:=by rw[hx,hnn];cases vo<;>decide
 have p0: ∀s:List Int,∀y∈da C 1 x s,plS y∧jv y:=fun s y hy=>⟨(a8y k0 hxp y hy).1,((a8y k0 hxp y hy).2 o0).big⟩
 have d0:=apa R T C hB hbT
 have l0:=yj R T C
 have z0:=jg hr hT hcv hE (by rw[hC])
 have cv0:=fun au=>ajl au 1 C x o0
 have g1:=afr hs7 C x []
 have cf1:=ab1 hs7 C x []
 rw[ayj]at g1 cf1
 have g2:=afr hs7 C x (am R T C).1
 have cf2:=ab1 hs7 C x (am R T C).1
 have hAok:=a6o su
 have hAl:=aws su
 have hDok: ∀s∈n4 su C x (am R T C).1,plS s∧jv s:=fun s hs=>by
  unfold n4 at hs
  rcases List.mem_append.1 hs with h|h
  ·exact hAok s h
  ·exact p0 _ s h
 have hDl:(n4 su C x (am R T C).1).length≤900:=by
  unfold n4
  rw[List.length_append,zm,hAl]
  omega
 have cG1:=qv (agq su) (by omega) (fun s hs=>(hAok s hs).2) cf1
 rw[g1.1]at cG1
 have cD1:=ah2 R (agq su) T hr hT hB (by omega) (fun s hs=>(hAok s hs).2) (fun s hs=>(hAok s hs).1) [su,20] (by simp) cG1
 rw[arv hT hsm h20]at cD1
 have cG2:=qv (n4 su C x (am R T C).1) hDl (fun s hs=>(hDok s hs).2) cf2
 rw[g2.1]at cG2
 have cD2:=ah2 R (n4 su C x (am R T C).1) T hr hT hB hDl (fun s hs=>(hDok s hs).2) (fun s hs=>(hDok s hs).1) [su,20] (by simp) cG2
 rw[av0 hr hT hO hE r0 hK h20]at cD2
 have cS2:=pp R (n4 su C x (am R T C).1) T hr hT hB hDl (fun s hs=>(hDok s hs).2) (fun s hs=>(hDok s hs).1)
 rw[arf hr hT hO hE r0 k3 (by rw[ksu];exact hsm),hx1,ksu]at cS2
 have cR2:=agc (n4 su C x (am R T C).1) hDl (fun s hs=>(hDok s hs).2)
 rw[g2.2]at cR2
 have hDL: ∀s,n4 su C x s=agq su++da C 1 x s:=fun s=>rfl
 have ca0:=jo su 30 0 d7 (by simp[d7]) rfl
 have ca1:=jo su 30 1 d7 (by simp[d7]) rfl
 have ca2:=jo 20 3 0 d7 (by simp[d7]) rfl
 have ca3:=jo 20 3 1 d7 (by simp[d7]) rfl
 obtain⟨Q,hQ⟩: ∃Q:List Stm,Q=agq su:=⟨_,rfl⟩
 have hQm:Q.map sm=[sm (dm su 30 0 d7),sm (dm su 30 1 d7),sm (dm 20 3 0 d7),sm (dm 20 3 1 d7)]:=by rw[hQ];exact aka su
 have hQl:Q.length=4:=by rw[hQ];exact hAl
 rw[aka]at cD1
 simp only[hDL,←hQ]at cD2 cS2 cR2
 clear hQ hAl hAok cf1 cf2 g1 g2 cG1 cG2 hDL hDok hDl
 generalize dm su 30 0 d7=A0 at*
 generalize dm su 30 1 d7=A1 at*
 generalize dm 20 3 0 d7=A2 at*
 generalize dm 20 3 1 d7=A3 at*
 simp only[kn]at ca0 ca1 ca2 ca3 cD1 hQm
 rw[amx]at ca0 ca1 ca2 ca3
 generalize hS0:am R T C=S0 at*
 obtain⟨s0,f0⟩:=S0
 dsimp only at d0 l0 z0 cD2 cS2 cR2
 subst z0
 have hc0:cs C=[.int .i64 0,.int .i64 3,.int .i64 su,.int .i64 0]:=by rw[hC];rfl
 have hx0:ct x=[.vs [i1 nn],.vs []]:=by rw[hx];rfl
 have hsa:da C 1 x []=[]:=rfl
 rw[fk,kb,hc0]at d0
 rw[fk,kb]at cD1 cD2 cS2
 simp only[hc0,hx0]at cv0
 have ch:=amp (if vo=true then [su]else []) su (by cases vo<;>simp[big])
 have cm:=r7 [su] [su] (by simp[big]) (by simp[big])
 have u4:Tryz.prog.underlying 4=some .bool:=by kernel_rfl
 refine call ca0 [] ?_
 simp only[go_sem]
 refine⟨⟨rfl,rfl,rfl,rfl,rfl,rfl⟩,call ca1 [] ?_⟩
 simp only[go_sem]
 refine⟨⟨rfl,rfl,rfl,rfl,rfl,rfl⟩,call ca2 [] ?_⟩
 simp only[go_sem]
 refine⟨⟨rfl,rfl,rfl,rfl,rfl,rfl⟩,call ca3 [] ?_⟩
 simp only[go_sem]
 refine⟨⟨rfl,rfl,rfl,rfl,rfl,rfl⟩,call cD1 [] ?_⟩
 simp only[go_sem]
 refine call d0 [] ?_
 cases vo
 case' false=>
  obtain⟨bq,hbq⟩: ∃b,b=false:=⟨_,rfl⟩
  obtain⟨nq,hnq⟩: ∃n:Int,n=0:=⟨_,rfl⟩
  have hnn0:nn=0:=hnn
  subst hnn0
  have hch:decide (su∈(if false=true then [su]else []:List Int))=false:=by simp
  simp only[go_sem]
 case' true=>
  obtain⟨bq,hbq⟩: ∃b,b=true:=⟨_,rfl⟩
  obtain⟨nq,hnq⟩: ∃n:Int,n=1:=⟨_,rfl⟩
  have hnn0:nn=1:=hnn
  subst hnn0
  have hch:decide (su∈(if true=true then [su]else []:List Int))=true:=by simp
  simp only[go_sem]
 all_goals
  refine loop Tryz.mixed (0:Nat) (fun m:Nat=>[(1,.bool bq),(6,.ptr 6 0),(7,.ptr 7 0),(9,.int .i64 su),(10,.os 53 (Q++da C 1 x (s0.take m)).length),(11,.vs ([su].map i1)),(12,.int .i64 0),(13,.ptr 13 0),(14,.vs (s0.map i1)),(15,.int .i64 0),(16,.int .i64 nq),(17,.int .i64 m)]) (fun m=>[(6,.cells (rl R)),(7,.cells (tm T)),(13,.cells [.int .i64 0,.int .i64 3,.int .i64 su,.int .i64 0]),(53,.arr 60 13 true ((Q++da C 1 x (s0.take m)).map sm))]) (fun m=>m≤s0.length) (fun m=>s0.length - m) (by kernel_rfl) (Nat.zero_le _) ?_ ?_
  ·subst hbq hnq
   have e1:da C 1 x (s0.take 0)=[]:=rfl
   rw[e1,List.append_nil,hQm,hQl]
   simp only[go_sem,List.map_cons,List.map_nil]
   done
  ·intro m hm
   subst hbq hnq
   by_cases hm':m<s0.length
   ·have hlt:(m:Int)<(s0.length:Int):=by omega
    have hsu2:=agw (c:=C) (nu:=1) (x:=x) hm'
    have hln:(Q++da C 1 x (s0.take m)).length≤68:=by rw[List.length_append,zm,List.length_take];omega
    have cv:=cv0 (el s0 m)
    have ho:Q++da C 1 x (s0.take (m+1))=(Q++da C 1 x (s0.take m))++[vt (el s0 m) 1 C x]:=by rw[hsu2,List.append_assoc]
    generalize vt (el s0 m) 1 C x=v at*
    generalize Q++da C 1 x (s0.take m)=o at*
    have w1:IntKind.i64.wrap 1=1:=by decide+kernel
    simp only[go_sem,hlt,hm',w1]
    refine call cv [] ?_
    simp only[go_sem]
    refine⟨by omega,ac (by kernel_rfl),m+1,⟨by omega,by omega⟩,?_⟩
    have h9:=congrArg List.length ho
    simp only[List.length_append,List.length_cons,List.length_nil]at h9
    rw[ho]
    exact⟨⟨by omega,by rw[ae]<;>omega⟩,by rw[List.map_append];rfl⟩
   ·have hlt: ¬(m:Int)<(s0.length:Int):=by omega
    have:m=s0.length:=by omega
    subst this
    rw[List.take_length]
    simp only[go_sem,hlt]
    refine call cD2 [] ?_
    simp only[go_sem]
    refine call cS2 [] ?_
    simp only[go_sem,u4]
    refine call cm [] ?_
    simp only[go_sem,u4]
    refine call ch [] ?_
    simp only[go_sem,u4,hch]
    refine call cR2 [] ?_
    simp only[go_sem]
    refine call vk [] ?_
    simp only[go_sem]
    done
end Go.Proofs.Am
