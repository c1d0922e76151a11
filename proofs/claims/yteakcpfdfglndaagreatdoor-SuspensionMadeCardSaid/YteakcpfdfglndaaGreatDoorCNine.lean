/- CNine. -/
import Derived.Test.YteakcpfdfglndaaGreatDoorCThree
import Derived.Test.YteakcpfdfglndaaGreatDoorDThree
set_option maxHeartbeats 1000000
set_option maxRecDepth 100000
set_option linter.unusedSimpArgs false
set_option linter.unusedVariables false
namespace Go.Proofs.Am
open Go Go.RowKit
open Go.Proofs
def ari(p:Stm→Bool)(l:List Stm):Int:=match l.findIdx? p with|some i=>(i:Int)|none=> -1
theorem elG(l:List Stm)(i:Nat)(h:i<l.length):el l i=l[i]:=by simp[el,List.getD_eq_getElem?_getD,h]
theorem ath{p:Stm→Bool}{l:List Stm}{i:Nat}(hi:i<l.length)(h:p (el l i)=true)(hb: ∀j,j<i→p (el l j)=false):ari p l=i:=by
 have:l.findIdx? p=some i:=by
  rw[List.findIdx?_eq_some_iff_getElem]
  refine⟨hi,by rw[←elG];exact h,fun j hj=> ?_⟩
  have:=hb j hj
  rw[elG l j (by omega)]at this
  simp[this]
 rw[ari,this]
theorem aex{p:Stm→Bool}{l:List Stm}(hb: ∀j,j<l.length→p (el l j)=false):ari p l= -1:=by
 have:l.findIdx? p=none:=by
  rw[List.findIdx?_eq_none_iff]
  intro x hx
  obtain⟨j,hj,rfl⟩:=List.getElem_of_mem hx
  have:=hb j hj
  rw[elG l j hj]at this
  exact this
 rw[ari,this]
theorem a0g(p:Stm→Bool)(l:List Stm):decide (0≤ari p l)=l.any p:=by
 cases h:l.any p with
 |false=>
  have:l.findIdx? p=none:=by
   rw[List.findIdx?_eq_none_iff]
   intro x hx
   rw[List.any_eq_false]at h
   simpa using h x hx
  rw[ari,this];rfl
 |true=>
  cases hf:l.findIdx? p with
  |none=>
   rw[List.findIdx?_eq_none_iff]at hf
   rw[List.any_eq_true]at h
   obtain⟨x,hx,hp⟩:=h
   rw[hf x hx]at hp
   cases hp
  |some i=>rw[ari,hf];simp
def am0(ros:List Int)(c:Cs)(s:Stm):Bool:=
 decide (aj s=0)&&(decide (s.sk=s.au∧s.sd=dig s)&&(decide (s.kd=15)&&(decide (s.au∈ros)&&(decide (s.a=c.ep)&&(decide (s.b=c.kd)&&(decide (s.c=c.su)&&(decide (s.li.length=0)&&(decide (s.pins.length=0)&&decide (s.body=[])))))))))
theorem apb(t:Tm)(c:Cs)(s:Stm)(hs:gx s)(hl:big t.ros.length):Den Tryz.prog 332 [.agg (sm s),.ptr 1000000 0,.ptr 1000001 0] [.cells (tm t),.cells (cs c)] (.bool (am0 t.ros c s)) [] [.cells (tm t),.cells (cs c)]:=by
 refine aa Tryz.mixed Tryz.func332 rfl Tryz.call332 Tryz.ntmps332 (congrArg Array.toList Tryz.results332) (by simp) (by kernel_rfl) [] (exts:=[1000000,1000001]) rfl rfl ?_
 have c1:=ow s hs
 have c2:=fun h:aj s=0=>rp s (n8 h)
 have c3:=bgi t.ros s.au hl
 rw[kz]at c1 c2
 generalize hm:am0 t.ros c s=m
 simp only[go_sem]
 refine call c1 [] ?_
 by_cases e1:aj s=0
 rotate_left
 ·simp only[go_sem,e1]
  rw[←hm,am0,decide_eq_false e1];rfl
 rw[am0,decide_eq_true e1,Bool.true_and]at hm
 simp only[go_sem,e1]
 refine call (c2 e1) [] ?_
 cases e2:decide (s.sk=s.au∧s.sd=dig s)
 ·rw[e2,Bool.false_and]at hm
  simp only[go_sem]
  exact hm
 rw[e2,Bool.true_and]at hm
 by_cases e3:s.kd=15
 rotate_left
 ·rw[decide_eq_false e3,Bool.false_and]at hm
  simp only[go_sem,e3]
  exact hm
 rw[decide_eq_true e3,Bool.true_and]at hm
 simp only[go_sem,e3]
 refine call c3 [] ?_
 cases e4:decide (s.au∈t.ros)
 ·rw[e4,Bool.false_and]at hm
  simp only[go_sem]
  exact hm
 rw[e4,Bool.true_and]at hm
 by_cases e5:s.a=c.ep
 rotate_left
 ·have e5': ¬s.a=c.ep:=by omega
  rw[decide_eq_false e5,Bool.false_and]at hm
  simp only[go_sem,e5']
  exact hm
 have e5':s.a=c.ep:=by omega
 rw[decide_eq_true e5,Bool.true_and]at hm
 by_cases e6:s.b=c.kd
 rotate_left
 ·have e6': ¬s.b=c.kd:=by omega
  rw[decide_eq_false e6,Bool.false_and]at hm
  simp only[go_sem,e5',e6']
  exact hm
 have e6':s.b=c.kd:=by omega
 rw[decide_eq_true e6,Bool.true_and]at hm
 by_cases e7:s.c=c.su
 rotate_left
 ·have e7': ¬s.c=c.su:=by omega
  rw[decide_eq_false e7,Bool.false_and]at hm
  simp only[go_sem,e5',e6',e7']
  exact hm
 have e7':s.c=c.su:=by omega
 rw[decide_eq_true e7,Bool.true_and]at hm
 by_cases e8:s.li.length=0
 rotate_left
 ·have e8': ¬(s.li.length:Int)=0:=by omega
  rw[decide_eq_false e8,Bool.false_and]at hm
  simp only[go_sem,e5',e6',e7',e8']
  exact hm
 have e8':(s.li.length:Int)=0:=by omega
 rw[decide_eq_true e8,Bool.true_and]at hm
 by_cases e9:s.pins.length=0
 rotate_left
 ·have e9': ¬(s.pins.length:Int)=0:=by omega
  rw[decide_eq_false e9,Bool.false_and]at hm
  simp only[go_sem,e5',e6',e7',e8',e9']
  exact hm
 have e9':(s.pins.length:Int)=0:=by omega
 rw[decide_eq_true e9,Bool.true_and]at hm
 simp only[go_sem,e5',e6',e7',e8',e9']
 exact hm
theorem a27(t:Tm)(c:Cs)(hl:big t.ros.length)(l:List Stm)(hb:big l.length)(hs: ∀s∈l,gx s):Den Tryz.prog 174 [.vs (l.map sm),.fn 332 [.ptr 1000000 0,.ptr 1000001 0]] [.cells (tm t),.cells (cs c)] (.int .i64 (ari (am0 t.ros c) l)) [] [.cells (tm t),.cells (cs c)]:=by
 refine aa Tryz.mixed Tryz.func174 rfl Tryz.call174 Tryz.ntmps174 (congrArg Array.toList Tryz.results174) (by simp) (by kernel_rfl) [] (exts:=[1000000,1000001]) rfl rfl ?_
 simp only[go_sem]
 refine loop Tryz.mixed 0 (fun i:Nat=>[(0,.vs (l.map sm)),(1,.fn 332 [.ptr 1000000 0,.ptr 1000001 0]),(7,.int .i64 l.length),(8,.int .i64 i)]) (fun i=>[(1000000,.cells (tm t)),(1000001,.cells (cs c))]) (fun i=>i≤l.length∧∀j,j<i→am0 t.ros c (el l j)=false) (fun i=>l.length - i) (by kernel_rfl) ?_ ?_ ?_
 ·simp
 ·simp only[go_sem]
 ·rintro i ⟨hi,hp⟩
  by_cases hi':i<l.length
  ·have hlt:(i:Int)<(l.length:Int):=by omega
   have hok:gx (el l i):=by rw[elG l i hi'];exact hs _ (List.getElem_mem hi')
   have cD:=apb t c (el l i) hok hl
   rw[kz,fy,bd]at cD
   simp only[go_sem,hlt,hi']
   refine call cD [1000000,1000001] ?_
   cases e:am0 t.ros c (el l i)
   ·simp only[go_sem]
    refine⟨i+1,⟨⟨by omega,fun j hj=> ?_⟩,by omega⟩,by rw[ag]<;>omega⟩
    by_cases hji:j=i
    ·rw[hji];exact e
    ·exact hp j (by omega)
   ·simp only[go_sem]
    rw[ath hi' e hp]
  ·have hf: ¬((i:Int)<(l.length:Int)):=by omega
   have:i=l.length:=by omega
   subst this
   simp only[go_sem,hf]
   rw[aex hp]
theorem auq(t:Tm)(c:Cs)(hl:big t.ros.length)(l:List Stm)(hb:big l.length)(hs: ∀s∈l,gx s):Den Tryz.prog 331 [.vs (l.map sm),.fn 332 [.ptr 1000000 0,.ptr 1000001 0]] [.cells (tm t),.cells (cs c)] (.bool (l.any (am0 t.ros c))) [] [.cells (tm t),.cells (cs c)]:=by
 refine aa Tryz.mixed Tryz.func331 rfl Tryz.call331 Tryz.ntmps331 (congrArg Array.toList Tryz.results331) (by simp) (by kernel_rfl) [] (exts:=[1000000,1000001]) rfl rfl ?_
 simp only[go_sem]
 have cD:=a27 t c hl l hb hs
 rw[fy,bd]at cD
 refine call cD [1000000,1000001] ?_
 simp only[go_sem]
 exact a0g _ l
def ja(l:List Stm)(t:Tm)(c:Cs):Bool:=ln c&&l.any (am0 t.ros c)
theorem av6(l:List Stm)(t:Tm)(c:Cs)(hl:big t.ros.length)(hb:big l.length)(hs: ∀s∈l,gx s):Den Tryz.prog 329 [.vs (l.map sm),.agg (tm t),.agg (cs c)] [] (.bool (ja l t c)) [] []:=by
 refine aa Tryz.mixed Tryz.func329 rfl Tryz.call329 Tryz.ntmps329 (congrArg Array.toList Tryz.results329) (by simp) (by kernel_rfl) [] (exts:=[]) rfl rfl ?_
 have c1:=bbk c
 have cD:=auq t c hl l hb hs
 rw[fy,bd]at cD
 rw[bd]at c1
 simp only[go_sem]
 refine call c1 [] ?_
 cases e:ln c
 ·simp only[go_sem,ja,e]
 ·simp only[go_sem,ja,e]
  refine call cD [4,5] ?_
  simp only[go_sem,ja,e]
  done
theorem a0e(k nu ti:Int)(d:Drf)(hd:a99 d):okS (gn k nu ti d):=by
 obtain⟨h1,h2⟩:=hd
 have hxp:=nf d.pins
 have hp:(if 0<nu then List.replicate 32 (0:UInt8)else []).length≤32:=by split<;>simp
 show okS (nw _)
 simp only[nw,okS,stB,qj,ww,hdB,List.length_append,db,aq,er,l5,List.length_cons,List.length_nil]
 omega
theorem a4l(c:Cs):a99 (apD c):=⟨by simp[apD],by simp[apD]⟩
theorem avr(l:List Int)(p:Nat):(dq l p).gen.length≤7∧(dq l p).pol.se.length≤2∧(dq l p).pol.ta.length≤2:=by
 refine⟨?_,?_,?_⟩
 ·show(([0,1,2,3,4,5,6]:List Int).take _).length≤7
  rw[List.length_take]
  exact Nat.min_le_right _ _
 ·show(if _ then [0,1]else [0]:List Int).length≤2
  split<;>simp
 ·exact Nat.le_refl 2
end Go.Proofs.Am
