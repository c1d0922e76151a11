/- MSix. -/
import Derived.Test.YteakcpfdfglndaaGreatDoorMOne
set_option linter.unusedSimpArgs false
set_option linter.unusedVariables false
namespace Go.Proofs.Am
open Go Go.RowKit
open Go.Proofs
def leI(l:List Stm)(k:Int)(c:Cs)(x:Ct)(i:Nat):Option Stm:=bfb a3r ((l.take i).filter (ahx c x k))
theorem acx{l:List Stm}{k:Int}{c:Cs}{x:Ct}{i:Nat}(h:i<l.length):leI l k c x (i+1)=if ahx c x k (el l i)=true then(match leI l k c x i with|none=>some (el l i)|some t=>if a3r (el l i) t=true then some (el l i)else some t)else leI l k c x i:=by
 simp only[leI,bfb,bh h,List.filter_append,List.foldl_append,List.filter_cons,List.filter_nil]
 split
 ·simp only[List.foldl_cons,List.foldl_nil]
  generalize List.foldl _ _ _=z
  cases z<;>rfl
 ·rfl
theorem aja{l:List Stm}{k:Int}{c:Cs}{x:Ct}:leI l k c x l.length=o9 l k c x:=by rw[leI,List.take_length];rfl
def noS:Stm:=⟨0,0,[],0,0,0,0,0,[],[],[],0,[]⟩
def ai8:Option Stm→List PV
 |none=>[.int .i64 0,.int .i64 0,.str [],.int .i64 0,.int .i64 0,.int .i64 0,.int .i64 0,.int .i64 0,.nils,.nils,.str [],.int .i64 0,.str []]
 |some s=>sm s
theorem zn:ai8 none=[.int .i64 0,.int .i64 0,.str [],.int .i64 0,.int .i64 0,.int .i64 0,.int .i64 0,.int .i64 0,.nils,.nils,.str [],.int .i64 0,.str []]:=rfl
theorem ej(s:Stm):ai8 (some s)=sm s:=rfl
theorem iq(d:List Nat)(o:Option Stm):aht d (ai8 o)=true:=by cases o<;>rfl
theorem a29(o:Option Stm):(ai8 o).length=13:=by cases o<;>rfl
theorem a5w{c:Cs}{x:Ct}{k:Int}{s:Stm}:ahx c x k s=(decide ((ofE s).2=0)&&(decide (s.sk=s.au∧s.sd=dig s)&&(decide (s.au=k)&&(bx (ofE s).1.c c&&decide ((ofE s).1.x=x))))):=by
 unfold ahx
 rw[bav]
 have e1:(cw s).1.x=(ofE s).1.x:=rfl
 have e2:decide ((ofE s).1.c=c)=bx (ofE s).1.c c:=rfl
 rw[e1,e2]
 cases decide ((ofE s).2=0)<;>cases decide (s.sk=s.au∧s.sd=dig s)<;>cases decide (s.au=k)<;>cases bx (ofE s).1.c c<;>rfl
set_option maxHeartbeats 1000000 in
set_option maxRecDepth 100000 in
theorem af5(l:List Stm)(k:Int)(c:Cs)(x:Ct)(hl:l.length≤900)(hs: ∀s∈l,gx s)(hx:ml x):
  Den Tryz.prog 72 [.vs (l.map sm),.int .i64 k,.agg (cs c),.agg (ct x)] [] (.tup [.agg (sm ((o9 l k c x).getD noS)),.bool (o9 l k c x).isSome]) [] []:=by
 refine aa Tryz.mixed Tryz.func72 rfl Tryz.call72 Tryz.ntmps72 (congrArg Array.toList Tryz.results72) (by simp) (by kernel_rfl) [] (exts:=[]) rfl rfl ?_
 rw[←aja]
 simp only[go_sem,bd,gk]
 refine loop Tryz.mixed 0 (fun i:Nat=>[(0,.vs (l.map sm)),(1,.int .i64 k),(6,.ptr 6 0),(7,.ptr 7 0),(8,.ptr 8 0),(10,.ptr 10 0),(11,.bool (leI l k c x i).isSome),(12,.int .i64 i)]) (fun i=>[(6,.cells [.int .i64 c.ep,.int .i64 c.kd,.int .i64 c.su,.int .i64 c.ro]),(7,.cells [.vs (x.li.map i1),.vs (x.pi.map pn)]),(8,.cells [.int .i64 0,.int .i64 0,.str [],.int .i64 0,.int .i64 0,.int .i64 0,.int .i64 0,.int .i64 0,.nils,.nils,.str [],.int .i64 0,.str []]),(10,.cells (ai8 (leI l k c x i)))]) (fun i=>i≤l.length) (fun i=>l.length - i) (by kernel_rfl) (Nat.zero_le _) ?_ ?_
 ·have e0:leI l k c x 0=none:=rfl
  simp only[go_sem,e0,zn,Option.isSome_none]
 ·intro i hi
  by_cases hlt:i<l.length
  ·have h1:(i:Int)<(l.length:Int):=by omega
   have hsu:=acx (k:=k) (c:=c) (x:=x) hlt
   have cv:=ato (el l i) (hs _ (aw hlt))
   have cs':=fun h=>mg (el l i) (ai9 h)
   have hk:=fun h=>bfm (s:=el l i) h
   have hby:ml (ofE (el l i)).1.x:=io (qh (s:=el l i))
   have co:=ji (ofE (el l i)).1.x x hby.1 hby.2 hx.1 hx.2
   have hq:=a5w (c:=c) (x:=x) (k:=k) (s:=el l i)
   rw[←a1b]at hq
   rw[kz]at cv cs'
   generalize leI l k c x i=o at*
   generalize ofE (el l i)=ve at*
   obtain⟨w,e⟩:=ve
   simp only at hq hby co cv cs' hk
   generalize hb2:decide ((el l i).sk=(el l i).au∧(el l i).sd=dig (el l i))=b2 at*
   have skip:ahx c x k (el l i)=false→leI l k c x (i+1)=o:=fun h=>by rw[hsu,h,if_neg (by simp)]
   simp only[go_sem,h1,hlt]
   refine call cv [] ?_
   by_cases z1:e=0
   rotate_left
   ·rw[decide_eq_false z1,Bool.false_and]at hq
    simp only[go_sem,z1]
    refine⟨i+1,⟨by omega,by omega⟩,?_⟩
    rw[skip hq]
    simp only[go_sem,iq]
    rw[ag]<;>omega
   subst z1
   have hk:=hk rfl
   simp only[go_sem,hlt]
   refine call (cs' rfl) [] ?_
   cases b2
   ·have hq:ahx c x k (el l i)=false:=hq
    simp only[go_sem]
    refine⟨i+1,⟨by omega,by omega⟩,?_⟩
    rw[skip hq]
    simp only[go_sem,iq]
    rw[ag]<;>omega
   by_cases ha:(el l i).au=k
   rotate_left
   ·rw[decide_eq_false ha]at hq
    have hq:ahx c x k (el l i)=false:=hq
    simp only[go_sem,hk,ha]
    refine⟨i+1,⟨by omega,by omega⟩,?_⟩
    rw[skip hq]
    simp only[go_sem,iq]
    rw[ag]<;>omega
   rw[decide_eq_true ha]at hq
   cases hsc:bx w.c c
   ·rw[hsc]at hq
    have hq:ahx c x k (el l i)=false:=hq
    simp only[go_sem,hk,ha,x5,hsc]
    refine⟨i+1,⟨by omega,by omega⟩,?_⟩
    rw[skip hq]
    simp only[go_sem,iq]
    rw[ag]<;>omega
   rw[hsc]at hq
   simp only[go_sem,hk,ha,x5,hsc]
   refine call co [] ?_
   by_cases z:jx w.x x=0
   rotate_left
   ·rw[decide_eq_false z]at hq
    have hq:ahx c x k (el l i)=false:=hq
    simp only[go_sem,z]
    refine⟨i+1,⟨by omega,by omega⟩,?_⟩
    rw[skip hq]
    simp only[go_sem,iq]
    rw[ag]<;>omega
   rw[decide_eq_true z]at hq
   have hq:ahx c x k (el l i)=true:=hq
   rw[hq,if_pos rfl]at hsu
   cases o with
   |none=>
    simp only at hsu
    simp only[go_sem,z,hlt,Option.isSome_none]
    refine⟨ae (by kernel_rfl),by rw[a29];exact Nat.le_refl _,i+1,⟨by omega,by omega⟩,?_⟩
    rw[hsu]
    simp only[go_sem,Option.isSome_some,iq,ej]
    refine⟨?_,rfl⟩
    rw[ag]<;>omega
   |some t=>
    simp only at hsu
    have hle:a3r (el l i) t=decide ((el l i).nu<t.nu∨(el l i).nu=t.nu∧Lib.compareBytes (el l i).sd t.sd<0):=rfl
    by_cases d1:(el l i).nu<t.nu
    ·rw[hle,decide_eq_true (.inl d1),if_pos rfl]at hsu
     simp only[go_sem,z,hlt,Option.isSome_some,ej,d1]
     refine⟨ae (by kernel_rfl),i+1,⟨by omega,by omega⟩,?_⟩
     rw[hsu]
     simp only[go_sem,Option.isSome_some,iq,ej]
     rw[ag]<;>omega
    by_cases d2:(el l i).nu=t.nu
    rotate_left
    ·rw[hle,decide_eq_false (fun h=>by rcases h with h|h;exact d1 h;exact d2 h.1),if_neg (by simp)]at hsu
     simp only[go_sem,z,hlt,Option.isSome_some,ej,d1,d2]
     refine⟨ae (by kernel_rfl),i+1,⟨by omega,by omega⟩,?_⟩
     rw[hsu]
     simp only[go_sem,Option.isSome_some,iq,ej]
     rw[ag]<;>omega
    by_cases d3:Lib.compareBytes (el l i).sd t.sd<0
    ·rw[hle,decide_eq_true (.inr ⟨d2,d3⟩),if_pos rfl]at hsu
     have d4:Op.bytesLess (el l i).sd t.sd=true:=by rw[cl,decide_eq_true d3]
     simp only[go_sem,z,hlt,Option.isSome_some,ej,d1,d2,d4,Int.lt_irrefl]
     refine⟨ae (by kernel_rfl),i+1,⟨by omega,by omega⟩,?_⟩
     rw[hsu]
     simp only[go_sem,Option.isSome_some,iq,ej]
     rw[ag]<;>omega
    ·rw[hle,decide_eq_false (fun h=>by rcases h with h|h;exact d1 h;exact d3 h.2),if_neg (by simp)]at hsu
     have d4:Op.bytesLess (el l i).sd t.sd=false:=by rw[cl,decide_eq_false d3]
     simp only[go_sem,z,hlt,Option.isSome_some,ej,d1,d2,d4,Int.lt_irrefl]
     refine⟨ae (by kernel_rfl),i+1,⟨by omega,by omega⟩,?_⟩
     rw[hsu]
     simp only[go_sem,Option.isSome_some,iq,ej]
     rw[ag]<;>omega
  ·have h1: ¬(i:Int)<(l.length:Int):=by omega
   have:i=l.length:=by omega
   subst this
   cases leI l k c x l.length with
   |none=>
    simp only[go_sem,h1,zn,Option.isSome_none,Option.getD_none,noS,List.map_nil]
   |some t=>
    simp only[go_sem,h1,ej,Option.isSome_some,Option.getD_some]
end Go.Proofs.Am
