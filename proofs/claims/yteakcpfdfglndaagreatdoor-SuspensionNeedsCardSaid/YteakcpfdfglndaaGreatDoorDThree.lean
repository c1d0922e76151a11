/- DThree. -/
import Derived.Test.YteakcpfdfglndaaGreatDoorDOne
set_option maxHeartbeats 1000000
set_option maxRecDepth 100000
set_option linter.unusedSimpArgs false
set_option linter.unusedVariables false
namespace Go.Proofs.Am
open Go Go.RowKit
open Go.Proofs
theorem aqx(l:List Pn)(h:(l.flatMap pnB).length≤100000000):Den Tryz.prog 243 [.vs (l.map pn)] [] (.bool (decide (ah (aqb l)=0))) [] []:=by
 refine ac Tryz.mixed Tryz.func243 rfl Tryz.call243 Tryz.ntmps243 (congrArg Array.toList Tryz.results243) (by simp) (by kernel_rfl) [] (exts:=[]) rfl rfl ?_
 have c2:=auw (aqb l) (arp (x:=⟨[],l⟩) ⟨by simp,h⟩)
 rw[show sm (aqb l)=[.int .i64 0,.int .i64 0,.str [],.int .i64 0,.int .i64 10,.int .i64 0,.int .i64 0,.int .i64 0,.vs [],.vs (l.map pn),.str [],.int .i64 0,.str []] from rfl]at c2
 simp only[go_sem]
 refine call c2 [] ?_
 simp only[go_sem]
def a8c(kd:Int):Int:=if kd=1 then 4294967295 else 1
def cnt(kd:Int):Int:=if kd=1 then 2 else 1
def ako(kd:Int)(l:List Int):Bool:=l.all fun n=>decide (0≤n∧n≤a8c kd)
theorem aho(kd:Int)(l:List Int):(ako kd l&&decide ((l.length:Int)=cnt kd))=abn kd l:=by
 rw[Bool.eq_iff_iff]
 unfold ako abn a8c cnt
 by_cases hk:kd=1
 ·simp only[hk,if_true]
  match l with
  |[]=>simp
  |[a]=>simp
  |[a,b]=>simp[el];omega
  |a::b::c::r=>simp;intros;omega
 ·simp only[hk,if_false]
  match l with
  |[]=>simp
  |[a]=>simp[el];omega
  |a::b::r=>simp;intros;omega
theorem p3{l:List Int}{p:Int→Bool}{n:Int}(hn:n∈l)(h:p n=false):l.all p=false:=by
 rw[List.all_eq_false]
 exact⟨n,hn,by simp[h]⟩
theorem apr(c:Cs)(x:Ct)(hx:ue x):Den Tryz.prog 206 [.agg (cs c),.agg (ct x)] [] (.bool (fg c x)) [] []:=by
 refine ac Tryz.mixed Tryz.func206 rfl Tryz.call206 Tryz.ntmps206 (congrArg Array.toList Tryz.results206) (by simp) (by kernel_rfl) [] (exts:=[]) rfl rfl ?_
 have c1:=vq c
 rw[bf]at c1
 have hb:=hx.1
 simp only[go_sem]
 refine call c1 [] ?_
 cases a1:dh c
 ·simp only[go_sem]
  simp[fg,a1]
 simp only[go_sem]
 refine call (aqx x.pi hx.2) [] ?_
 by_cases a2:ah (aqb x.pi)=0
 rotate_left
 ·simp only[go_sem,a2]
  simp[fg,a1,a2]
 have hm:fg c x=(ako c.kd x.li&&decide ((x.li.length:Int)=cnt c.kd)):=by rw[aho];simp[fg,a1,a2]
 rw[hm]
 have hmc:(c.kd=1∧a8c c.kd=4294967295∧cnt c.kd=2)∨(¬c.kd=1∧a8c c.kd=1∧cnt c.kd=1):=by
  unfold a8c cnt
  by_cases h:c.kd=1<;>simp[h]
 have hrb:ako c.kd x.li=x.li.all fun n=>decide (0≤n∧n≤a8c c.kd):=rfl
 rw[hrb]
 clear hrb hm
 rcases hmc with ⟨k1,k2,k3⟩|⟨k1,k2,k3⟩
 ·rw[k2,k3]
  simp only[go_sem,a2,k1]
  refine loop Tryz.mixed 0 (fun i:Nat=>[(3,.ptr 3 0),(5,.int .i64 2),(6,.int .i64 4294967295),(22,.vs (x.li.map i1)),(23,.int .i64 x.li.length),(24,.int .i64 i)]) (fun _=>[(3,.cells [.vs (x.li.map i1),.vs (x.pi.map pn)])]) (fun i=>i≤x.li.length∧∀j,j<i→0≤el x.li j∧el x.li j≤4294967295) (fun i=>x.li.length - i) (by kernel_rfl) ⟨Nat.zero_le _,fun j hj=>by omega⟩ ?_ ?_
  ·simp only[go_sem]
  rintro i ⟨hi,hall⟩
  by_cases hlt:i<x.li.length
  ·have h1:(i:Int)<(x.li.length:Int):=by omega
   by_cases g1:el x.li i<0
   ·simp only[go_sem,h1,hlt,g1]
    rw[p3 (ar hlt) (by simp;omega)]
    rfl
   by_cases g2:el x.li i≤4294967295
   rotate_left
   ·have g3:4294967295<el x.li i:=by omega
    simp only[go_sem,h1,hlt,g1,g3]
    rw[p3 (ar hlt) (by simp;omega)]
    rfl
   have g3: ¬4294967295<el x.li i:=by omega
   simp only[go_sem,h1,hlt,g1,g3]
   refine⟨i+1,⟨⟨by omega,fun j hj=> ?_⟩,by omega⟩,?_⟩
   ·rcases Nat.lt_succ_iff_lt_or_eq.1 hj with h|h
    ·exact hall j h
    ·rw[h];omega
   ·rw[ae]<;>omega
  ·have h1: ¬(i:Int)<(x.li.length:Int):=by omega
   have hal:(x.li.all fun n=>decide (0≤n∧n≤4294967295))=true:=by
    rw[List.all_eq_true]
    intro n hn
    obtain⟨j,hj,rfl⟩:=List.mem_iff_getElem.1 hn
    have:=hall j (by omega)
    simp only[el,List.getD_eq_getElem?_getD,List.getElem?_eq_getElem hj,Option.getD_some]at this
    simpa using this
   simp only[go_sem,h1]
   rw[hal]
   simp
 ·rw[k2,k3]
  simp only[go_sem,a2,k1]
  refine loop Tryz.mixed 0 (fun i:Nat=>[(3,.ptr 3 0),(5,.int .i64 1),(6,.int .i64 1),(22,.vs (x.li.map i1)),(23,.int .i64 x.li.length),(24,.int .i64 i)]) (fun _=>[(3,.cells [.vs (x.li.map i1),.vs (x.pi.map pn)])]) (fun i=>i≤x.li.length∧∀j,j<i→0≤el x.li j∧el x.li j≤1) (fun i=>x.li.length - i) (by kernel_rfl) ⟨Nat.zero_le _,fun j hj=>by omega⟩ ?_ ?_
  ·simp only[go_sem]
  rintro i ⟨hi,hall⟩
  by_cases hlt:i<x.li.length
  ·have h1:(i:Int)<(x.li.length:Int):=by omega
   by_cases g1:el x.li i<0
   ·simp only[go_sem,h1,hlt,g1]
    rw[p3 (ar hlt) (by simp;omega)]
    rfl
   by_cases g2:el x.li i≤1
   rotate_left
   ·have g3:1<el x.li i:=by omega
    simp only[go_sem,h1,hlt,g1,g3]
    rw[p3 (ar hlt) (by simp;omega)]
    rfl
   have g3: ¬1<el x.li i:=by omega
   simp only[go_sem,h1,hlt,g1,g3]
   refine⟨i+1,⟨⟨by omega,fun j hj=> ?_⟩,by omega⟩,?_⟩
   ·rcases Nat.lt_succ_iff_lt_or_eq.1 hj with h|h
    ·exact hall j h
    ·rw[h];omega
   ·rw[ae]<;>omega
  ·have h1: ¬(i:Int)<(x.li.length:Int):=by omega
   have hal:(x.li.all fun n=>decide (0≤n∧n≤1))=true:=by
    rw[List.all_eq_true]
    intro n hn
    obtain⟨j,hj,rfl⟩:=List.mem_iff_getElem.1 hn
    have:=hall j (by omega)
    simp only[el,List.getD_eq_getElem?_getD,List.getElem?_eq_getElem hj,Option.getD_some]at this
    simpa using this
   simp only[go_sem,h1]
   rw[hal]
   simp
def noV:Vt:=⟨0,⟨0,0,0,0⟩,⟨[],[]⟩⟩
def mkV(s:Stm):Vt:=⟨s.au,⟨s.a,s.b.tmod 16,s.c,s.b.tdiv 16⟩,⟨s.li,s.pins⟩⟩
def ofE(s:Stm):Vt×Int:=if ah s≠0 then(noV,ah s)else if s.kd=10∧s.body=[]∧fg (mkV s).c (mkV s).x=true then(mkV s,0)else(noV,42)
theorem ja{s:Stm}(hc:ah s=0):s.li.length≤64∧s.pins.length≤64∧jn s.pins=true∧gm s.b=true:=by
 unfold ah at hc
 repeat' split at hc
 all_goals (try (omega;done))
 rename_i h1 h2 h3 h4 h5 h6
 refine⟨?_,?_,?_,?_⟩
 ·simp at h5;omega
 ·simp at h5;omega
 ·cases h:jn s.pins
  ·simp[h]at h6
  ·rfl
 ·cases h:gm s.b
  ·simp[h]at h4
  ·rfl
theorem afo{s:Stm}(hc:ah s=0):ue ⟨s.li,s.pins⟩:=by
 obtain⟨h1,h2,h3,_⟩:=ja hc
 refine⟨by simp only;omega,?_⟩
 have hp:=of_decide_eq_true h3
 have hd: ∀p∈s.pins,(pnB p).length≤56:=fun p hp'=>by
  obtain⟨i,hi,rfl⟩:=List.mem_iff_getElem.1 hp'
  have:=hp i hi
  simp only[lw,el,List.getD_eq_getElem?_getD,List.getElem?_eq_getElem hi,Option.getD_some,Bool.and_eq_true,decide_eq_true_eq]at this
  have h4:=this.2
  simp only[pnB,List.length_append,ap,ei]
  omega
 have hl: ∀l:List Pn,(∀p∈l,(pnB p).length≤56)→(l.flatMap pnB).length≤56*l.length:=fun l=>by
  induction l with
  |nil=>simp
  |cons p l ih=>
   intro h
   have a1:=h p (by simp)
   have a2:=ih fun q hq=>h q (by simp[hq])
   simp only[List.flatMap_cons,List.length_append,List.length_cons]
   omega
 have:=hl s.pins hd
 simp only
 omega
theorem pt{s:Stm}(hc:ah s=0):okS s:=by
 have h1:=afo hc
 have h2:s.prev.length≤32∧s.body.length≤4096∧s.li.length≤64∧s.pins.length≤64:=by
  unfold ah at hc
  repeat' split at hc
  all_goals (try (omega;done))
  rename_i h1 h2 h3 h4 h5 h6
  have h7:s.prev.length≤32:=by
   simp only[Bool.or_eq_true,Bool.and_eq_true,decide_eq_true_eq,not_or,Bool.not_eq_true,inB,Bool.not_eq_true',decide_eq_false_iff_not,Classical.not_not,not_and]at h4 h6
   have h8:=h4.1.1.1.1.1
   by_cases h0:s.nu=0
   ·have:=h6.1.1.1 h0
    rw[this];simp
   ·have:=h6.1.1.2 (by omega)
    omega
  simp at h5
  exact⟨h7,by omega,by omega,by omega⟩
 have h3:=h1.2
 simp only at h3
 simp only[okS,stB,qa,wn,hdB,List.length_append,cr,ap,ei,l5,List.length_cons,List.length_nil]
 omega
theorem av7(s:Stm)(hs:jm s):Den Tryz.prog 176 [.agg (sm s)] [] (.tup [.agg (vt7 (ofE s).1),.int .i64 (ofE s).2]) [] []:=by
 refine ac Tryz.mixed Tryz.func176 rfl Tryz.call176 Tryz.ntmps176 (congrArg Array.toList Tryz.results176) (by simp) (by kernel_rfl) [] (exts:=[]) rfl rfl ?_
 have c2:=n8 s hs
 generalize hr:ofE s=r
 rw[sm]at c2 ⊢
 simp only[go_sem]
 refine call c2 [] ?_
 by_cases z1:ah s=0
 rotate_left
 ·have:r=(noV,ah s):=by rw[←hr,ofE,if_pos z1]
  subst this
  simp only[go_sem,z1,noV]
 have hx:=afo z1
 have c3:=adl ⟨s.li,s.pins⟩ hx
 rw[iu]at c3
 simp only at c3
 have c4:=apr (mkV s).c (mkV s).x hx
 rw[bf,iu]at c4
 simp only[mkV]at c4
 have hz: ¬ah s≠0:=fun h=>h z1
 have hw:IntKind.i64.wrap (s.b.tdiv 16)=s.b.tdiv 16:=by
  have h4:=(ja z1).2.2.2
  simp only[gm,inB,Bool.and_eq_true,decide_eq_true_eq]at h4
  have h5:s.b.tdiv 16=s.b/16:=Int.tdiv_eq_ediv_of_nonneg (by omega)
  rw[ae]<;>omega
 simp only[go_sem,z1]
 refine call c3 [] ?_
 by_cases k1:s.kd=10
 rotate_left
 ·have:r=(noV,42):=by rw[←hr,ofE,if_neg hz,if_neg (fun h=>k1 h.1)]
  subst this
  simp only[go_sem,k1,noV]
  exact aa (by kernel_rfl)
 by_cases k2:s.body=[]
 rotate_left
 ·have:r=(noV,42):=by rw[←hr,ofE,if_neg hz,if_neg (fun h=>k2 h.2.1)]
  subst this
  simp only[go_sem,k1,k2,noV]
  exact aa (by kernel_rfl)
 simp only[go_sem,k1,k2]
 refine⟨aa (by kernel_rfl),?_⟩
 refine call c4 [] ?_
 by_cases k3:fg (mkV s).c (mkV s).x=true
 ·have:r=(mkV s,0):=by rw[←hr,ofE,if_neg hz,if_pos ⟨k1,k2,k3⟩]
  subst this
  simp only[mkV]at k3
  simp only[go_sem,k3,mkV,hw]
 ·have:r=(noV,42):=by rw[←hr,ofE,if_neg hz,if_neg (fun h=>k3 h.2.2)]
  subst this
  simp only[mkV,Bool.not_eq_true]at k3
  simp only[go_sem,k3,noV,hw]
def bu(s:Stm):Vt×Bool:=((ofE s).1,decide ((ofE s).2=0)&&decide (s.sk=s.au∧s.sd=dig s))
theorem aio{s:Stm}(h:(ofE s).2=0):okS s:=by
 refine pt ?_
 unfold ofE at h
 split at h
 ·rename_i h1
  exact absurd h h1
 ·rename_i h1
  exact Classical.not_not.1 h1
theorem adv(s:Stm)(hs:jm s):Den Tryz.prog 165 [.agg (sm s)] [] (.tup [.agg (vt7 (bu s).1),.bool (bu s).2]) [] []:=by
 refine ac Tryz.mixed Tryz.func165 rfl Tryz.call165 Tryz.ntmps165 (congrArg Array.toList Tryz.results165) (by simp) (by kernel_rfl) [] (exts:=[]) rfl rfl ?_
 have c1:=av7 s hs
 have c2:=fun h:(ofE s).2=0=>qv s (aio h)
 generalize hr:bu s=r
 rw[sm]at c1 c2 ⊢
 simp only[go_sem]
 refine call c1 [] ?_
 by_cases k1:(ofE s).2=0
 ·simp only[go_sem,k1]
  refine call (c2 k1) [] ?_
  simp only[go_sem]
  refine⟨aa (by kernel_rfl),?_⟩
  rw[←hr]
  exact⟨⟨rfl,rfl,rfl,rfl,rfl,rfl,rfl⟩,by simp[bu,k1]⟩
 ·simp only[go_sem,k1]
  refine⟨aa (by kernel_rfl),?_⟩
  rw[←hr]
  exact⟨⟨rfl,rfl,rfl,rfl,rfl,rfl,rfl⟩,by simp[bu,k1]⟩
def pg(a b:Vt):Int:=or2 (gi a.k b.k) (jq a.x b.x)
theorem akw(a b:Vt)(ha:l4 a.x)(hb:l4 b.x):Den Tryz.prog 169 [.agg (vt7 a),.agg (vt7 b)] [] (.int .i64 (pg a b)) [] []:=by
 refine ac Tryz.mixed Tryz.func169 rfl Tryz.call169 Tryz.ntmps169 (congrArg Array.toList Tryz.results169) (by simp) (by kernel_rfl) [] (exts:=[]) rfl rfl ?_
 simp only[go_sem]
 refine call (f9 a.k b.k) [] ?_
 simp only[go_sem]
 refine call (qt a.x b.x ha.1 ha.2 hb.1 hb.2) [] ?_
 simp only[go_sem]
 refine call (ade [gi a.k b.k,jq a.x b.x] (by simp[big])) [] ?_
 simp only[go_sem]
 refine⟨aa (by kernel_rfl),?_⟩
 simp only[orL,pg,or2]
 repeat' split
 all_goals simp_all
theorem ah8(a b:Vt)(ha:l4 a.x)(hb:l4 b.x):Den Tryz.prog 173 [.agg (vt7 a),.agg (vt7 b),.ptr 1000000 0] [.cells [.fn 169 []]] (.bool (decide (pg a b=0))) [] [.cells [.fn 169 []]]:=by
 refine ac Tryz.mixed Tryz.func173 rfl Tryz.call173 Tryz.ntmps173 (congrArg Array.toList Tryz.results173) (by simp) (by kernel_rfl) [] (exts:=[1000000]) rfl rfl ?_
 simp only[go_sem]
 refine call (akw a b ha hb) [] ?_
 simp only[go_sem]
theorem agq(l:List Vt)(hl:big l.length)(hb: ∀a∈l,l4 a.x)(hd: ∀i,0<i→i<l.length→pg (el l i) (el l (i - 1))≠0):
  Den Tryz.prog 172 [.os 1000000 l.length,.fn 173 [.ptr 1000001 0]] [.arr 116 7 false (l.map vt7),.cells [.fn 169 []]] (.os 1000000 l.length) [] [.arr 116 7 false (l.map vt7),.cells [.fn 169 []]]:=by
 refine ac Tryz.mixed Tryz.func172 rfl Tryz.call172 Tryz.ntmps172 (congrArg Array.toList Tryz.results172) (by simp) (by kernel_rfl) [] (exts:=[1000000,1000001]) rfl rfl ?_
 by_cases h2:(l.length:Int)<2
 ·simp only[go_sem,h2]
 simp only[go_sem,h2]
 refine loop Tryz.mixed 1 (fun i:Nat=>[(0,.os 1000000 l.length),(1,.fn 173 [.ptr 1000001 0]),(5,.int .i64 i)]) (fun _=>[(1000000,.arr 116 7 false (l.map vt7)),(1000001,.cells [.fn 169 []])]) (fun i=>1≤i∧i≤l.length) (fun i=>l.length - i) (by kernel_rfl) ⟨Nat.le_refl _,by omega⟩ ?_ ?_
 ·simp only[go_sem]
 ·rintro i ⟨hi0,hi⟩
  by_cases hlt:i<l.length
  ·have h1:(i:Int)<(l.length:Int):=by omega
   obtain⟨j,rfl⟩: ∃j,i=j+1:=⟨i - 1,by omega⟩
   have hw:IntKind.i64.wrap (((j+1:Nat):Int) - 1)=(j:Int):=by rw[ae]<;>omega
   have hj:j<l.length:=by omega
   simp only[go_sem,h1,hlt,hw,hj]
   have hne:=hd (j+1) (by omega) hlt
   rw[Nat.add_sub_cancel]at hne
   refine call (ah8 (el l (j+1)) (el l j) (hb _ (ar hlt)) (hb _ (ar hj))) [1000001] ?_
   simp only[go_sem,hne]
   refine⟨aa (by kernel_rfl),j+1+1,⟨⟨by omega,by omega⟩,by omega⟩,?_⟩
   rw[ae]<;>omega
  ·have h1: ¬(i:Int)<(l.length:Int):=by omega
   simp only[go_sem,h1]
def okV(c:Cs)(s:Stm):Bool:=(bu s).2&&decide ((bu s).1.c=c)
def xw(l:List Stm)(c:Cs)(i:Nat):List Vt:=((l.take i).filter (okV c)).map fun s=>(bu s).1
theorem agx{l:List Stm}{c:Cs}{i:Nat}(h:i<l.length):xw l c (i+1)=xw l c i++if okV c (el l i)then [(bu (el l i)).1]else []:=by
 simp only[xw,bd h,List.filter_append,List.map_append,List.filter_cons,List.filter_nil]
 split<;>rfl
theorem akj(l:List Stm)(c:Cs)(i:Nat):(xw l c i).length≤l.length:=by
 simp only[xw,List.length_map]
 refine Nat.le_trans (List.length_filter_le _ _) ?_
 simp;omega
theorem ql{s:Stm}:ue (bu s).1.x:=by
 have h0:ue noV.x:=⟨by simp[noV],by simp[noV]⟩
 simp only[bu,ofE]
 split
 ·exact h0
 ·rename_i h
  split
  ·exact afo (by simpa using h)
  ·exact h0
end Go.Proofs.Am
