/- DThree. -/
import Derived.Test.YteakcpfdfglndaaGreatDoorDOne
set_option maxHeartbeats 1000000
set_option maxRecDepth 100000
set_option linter.unusedSimpArgs false
set_option linter.unusedVariables false
namespace Go.Proofs.Am
open Go Go.RowKit
open Go.Proofs
theorem ayb(l:List Pn)(h:(l.flatMap pnB).length≤100000000):Den Tryz.prog 243 [.vs (l.map pn)] [] (.bool (decide (aj (arl l)=0))) [] []:=by
 refine aa Tryz.mixed Tryz.func243 rfl Tryz.call243 Tryz.ntmps243 (congrArg Array.toList Tryz.results243) (by simp) (by kernel_rfl) [] (exts:=[]) rfl rfl ?_
 have c2:=axr (arl l) (auh (x:=⟨[],l⟩) ⟨by simp,h⟩)
 rw[show sm (arl l)=[.int .i64 0,.int .i64 0,.str [],.int .i64 0,.int .i64 10,.int .i64 0,.int .i64 0,.int .i64 0,.vs [],.vs (l.map pn),.str [],.int .i64 0,.str []] from rfl]at c2
 simp only[go_sem]
 refine call c2 [] ?_
 simp only[go_sem]
def a9o(kd:Int):Int:=if kd=1 then 4294967295 else 1
def cnt(kd:Int):Int:=if kd=1 then 2 else 1
def ak2(kd:Int)(l:List Int):Bool:=l.all fun n=>decide (0≤n∧n≤a9o kd)
theorem aif(kd:Int)(l:List Int):(ak2 kd l&&decide ((l.length:Int)=cnt kd))=abu kd l:=by
 rw[Bool.eq_iff_iff]
 unfold ak2 abu a9o cnt
 by_cases hk:kd=1
 ·simp only[hk,if_true]
  match l with
  |[]=>simp
  |[a]=>simp
  |[a,b]=>simp[el];omega
  |a::b::c::r=>simp;intros;omega
 ·simp only[hk,if_false]
  match l with
  |[]=>simp
  |[a]=>simp[el];omega
  |a::b::r=>simp;intros;omega
theorem p8{l:List Int}{p:Int→Bool}{n:Int}(hn:n∈l)(h:p n=false):l.all p=false:=by
 rw[List.all_eq_false]
 exact⟨n,hn,by simp[h]⟩
theorem aon(c:Cs)(x:Ct)(hx:uz x):Den Tryz.prog 206 [.agg (cs c),.agg (ct x)] [] (.bool (fq c x)) [] []:=by
 refine aa Tryz.mixed Tryz.func206 rfl Tryz.call206 Tryz.ntmps206 (congrArg Array.toList Tryz.results206) (by simp) (by kernel_rfl) [] (exts:=[]) rfl rfl ?_
 have c1:=w4 c
 rw[bd]at c1
 have hb:=hx.1
 simp only[go_sem]
 refine call c1 [] ?_
 cases a1:dl c
 ·simp only[go_sem]
  simp[fq,a1]
 simp only[go_sem]
 refine call (ayb x.pi hx.2) [] ?_
 by_cases a2:aj (arl x.pi)=0
 rotate_left
 ·simp only[go_sem,a2]
  simp[fq,a1,a2]
 have hm:fq c x=(ak2 c.kd x.li&&decide ((x.li.length:Int)=cnt c.kd)):=by rw[aif];simp[fq,a1,a2]
 rw[hm]
 have hmc:(c.kd=1∧a9o c.kd=4294967295∧cnt c.kd=2)∨(¬c.kd=1∧a9o c.kd=1∧cnt c.kd=1):=by
  unfold a9o cnt
  by_cases h:c.kd=1<;>simp[h]
 have hrb:ak2 c.kd x.li=x.li.all fun n=>decide (0≤n∧n≤a9o c.kd):=rfl
 rw[hrb]
 clear hrb hm
 rcases hmc with ⟨k1,k2,k3⟩|⟨k1,k2,k3⟩
 ·rw[k2,k3]
  simp only[go_sem,a2,k1]
  refine loop Tryz.mixed 0 (fun i:Nat=>[(3,.ptr 3 0),(5,.int .i64 2),(6,.int .i64 4294967295),(22,.vs (x.li.map i1)),(23,.int .i64 x.li.length),(24,.int .i64 i)]) (fun _=>[(3,.cells [.vs (x.li.map i1),.vs (x.pi.map pn)])]) (fun i=>i≤x.li.length∧∀j,j<i→0≤el x.li j∧el x.li j≤4294967295) (fun i=>x.li.length - i) (by kernel_rfl) ⟨Nat.zero_le _,fun j hj=>by omega⟩ ?_ ?_
  ·simp only[go_sem]
  rintro i ⟨hi,hall⟩
  by_cases hlt:i<x.li.length
  ·have h1:(i:Int)<(x.li.length:Int):=by omega
   by_cases g1:el x.li i<0
   ·simp only[go_sem,h1,hlt,g1]
    rw[p8 (aw hlt) (by simp;omega)]
    rfl
   by_cases g2:el x.li i≤4294967295
   rotate_left
   ·have g3:4294967295<el x.li i:=by omega
    simp only[go_sem,h1,hlt,g1,g3]
    rw[p8 (aw hlt) (by simp;omega)]
    rfl
   have g3: ¬4294967295<el x.li i:=by omega
   simp only[go_sem,h1,hlt,g1,g3]
   refine⟨i+1,⟨⟨by omega,fun j hj=> ?_⟩,by omega⟩,?_⟩
   ·rcases Nat.lt_succ_iff_lt_or_eq.1 hj with h|h
    ·exact hall j h
    ·rw[h];omega
   ·rw[ag]<;>omega
  ·have h1: ¬(i:Int)<(x.li.length:Int):=by omega
   have hal:(x.li.all fun n=>decide (0≤n∧n≤4294967295))=true:=by
    rw[List.all_eq_true]
    intro n hn
    obtain⟨j,hj,rfl⟩:=List.mem_iff_getElem.1 hn
    have:=hall j (by omega)
    simp only[el,List.getD_eq_getElem?_getD,List.getElem?_eq_getElem hj,Option.getD_some]at this
    simpa using this
   simp only[go_sem,h1]
   rw[hal]
   simp
 ·rw[k2,k3]
  simp only[go_sem,a2,k1]
  refine loop Tryz.mixed 0 (fun i:Nat=>[(3,.ptr 3 0),(5,.int .i64 1),(6,.int .i64 1),(22,.vs (x.li.map i1)),(23,.int .i64 x.li.length),(24,.int .i64 i)]) (fun _=>[(3,.cells [.vs (x.li.map i1),.vs (x.pi.map pn)])]) (fun i=>i≤x.li.length∧∀j,j<i→0≤el x.li j∧el x.li j≤1) (fun i=>x.li.length - i) (by kernel_rfl) ⟨Nat.zero_le _,fun j hj=>by omega⟩ ?_ ?_
  ·simp only[go_sem]
  rintro i ⟨hi,hall⟩
  by_cases hlt:i<x.li.length
  ·have h1:(i:Int)<(x.li.length:Int):=by omega
   by_cases g1:el x.li i<0
   ·simp only[go_sem,h1,hlt,g1]
    rw[p8 (aw hlt) (by simp;omega)]
    rfl
   by_cases g2:el x.li i≤1
   rotate_left
   ·have g3:1<el x.li i:=by omega
    simp only[go_sem,h1,hlt,g1,g3]
    rw[p8 (aw hlt) (by simp;omega)]
    rfl
   have g3: ¬1<el x.li i:=by omega
   simp only[go_sem,h1,hlt,g1,g3]
   refine⟨i+1,⟨⟨by omega,fun j hj=> ?_⟩,by omega⟩,?_⟩
   ·rcases Nat.lt_succ_iff_lt_or_eq.1 hj with h|h
    ·exact hall j h
    ·rw[h];omega
   ·rw[ag]<;>omega
  ·have h1: ¬(i:Int)<(x.li.length:Int):=by omega
   have hal:(x.li.all fun n=>decide (0≤n∧n≤1))=true:=by
    rw[List.all_eq_true]
    intro n hn
    obtain⟨j,hj,rfl⟩:=List.mem_iff_getElem.1 hn
    have:=hall j (by omega)
    simp only[el,List.getD_eq_getElem?_getD,List.getElem?_eq_getElem hj,Option.getD_some]at this
    simpa using this
   simp only[go_sem,h1]
   rw[hal]
   simp
def noV:Vt:=⟨0,⟨0,0,0,0⟩,⟨[],[]⟩⟩
def mkV(s:Stm):Vt:=⟨s.au,⟨s.a,s.b.tmod 16,s.c,s.b.tdiv 16⟩,⟨s.li,s.pins⟩⟩
def ofE(s:Stm):Vt×Int:=if aj s≠0 then(noV,aj s)else if s.kd=10∧s.body=[]∧fq (mkV s).c (mkV s).x=true then(mkV s,0)else(noV,42)
theorem jk{s:Stm}(hc:aj s=0):s.li.length≤64∧s.pins.length≤64∧jv s.pins=true∧gw s.b=true:=by
 unfold aj at hc
 repeat' split at hc
 all_goals (try (omega;done))
 rename_i h1 h2 h3 h4 h5 h6
 refine⟨?_,?_,?_,?_⟩
 ·simp at h5;omega
 ·simp at h5;omega
 ·cases h:jv s.pins
  ·simp[h]at h6
  ·rfl
 ·cases h:gw s.b
  ·simp[h]at h4
  ·rfl
theorem aet{s:Stm}(hc:aj s=0):uz ⟨s.li,s.pins⟩:=by
 obtain⟨h1,h2,h3,_⟩:=jk hc
 refine⟨by simp only;omega,?_⟩
 have hp:=of_decide_eq_true h3
 have hd: ∀p∈s.pins,(pnB p).length≤56:=fun p hp'=>by
  obtain⟨i,hi,rfl⟩:=List.mem_iff_getElem.1 hp'
  have:=hp i hi
  simp only[me,el,List.getD_eq_getElem?_getD,List.getElem?_eq_getElem hi,Option.getD_some,Bool.and_eq_true,decide_eq_true_eq]at this
  have h4:=this.2
  simp only[pnB,List.length_append,aq,er]
  omega
 have hl: ∀l:List Pn,(∀p∈l,(pnB p).length≤56)→(l.flatMap pnB).length≤56*l.length:=fun l=>by
  induction l with
  |nil=>simp
  |cons p l ih=>
   intro h
   have a1:=h p (by simp)
   have a2:=ih fun q hq=>h q (by simp[hq])
   simp only[List.flatMap_cons,List.length_append,List.length_cons]
   omega
 have:=hl s.pins hd
 simp only
 omega
theorem n8{s:Stm}(hc:aj s=0):okS s:=by
 have h1:=aet hc
 have h2:s.prev.length≤32∧s.body.length≤4096∧s.li.length≤64∧s.pins.length≤64:=by
  unfold aj at hc
  repeat' split at hc
  all_goals (try (omega;done))
  rename_i h1 h2 h3 h4 h5 h6
  have h7:s.prev.length≤32:=by
   simp only[Bool.or_eq_true,Bool.and_eq_true,decide_eq_true_eq,not_or,Bool.not_eq_true,inB,Bool.not_eq_true',decide_eq_false_iff_not,Classical.not_not,not_and]at h4 h6
   have h8:=h4.1.1.1.1.1
   by_cases h0:s.nu=0
   ·have:=h6.1.1.1 h0
    rw[this];simp
   ·have:=h6.1.1.2 (by omega)
    omega
  simp at h5
  exact⟨h7,by omega,by omega,by omega⟩
 have h3:=h1.2
 simp only at h3
 simp only[okS,stB,qj,ww,hdB,List.length_append,db,aq,er,l5,List.length_cons,List.length_nil]
 omega
theorem avd(s:Stm)(hs:gx s):Den Tryz.prog 176 [.agg (sm s)] [] (.tup [.agg (vt7 (ofE s).1),.int .i64 (ofE s).2]) [] []:=by
 refine aa Tryz.mixed Tryz.func176 rfl Tryz.call176 Tryz.ntmps176 (congrArg Array.toList Tryz.results176) (by simp) (by kernel_rfl) [] (exts:=[]) rfl rfl ?_
 have c2:=ow s hs
 generalize hr:ofE s=r
 rw[sm]at c2 ⊢
 simp only[go_sem]
 refine call c2 [] ?_
 by_cases z1:aj s=0
 rotate_left
 ·have:r=(noV,aj s):=by rw[←hr,ofE,if_pos z1]
  subst this
  simp only[go_sem,z1,noV]
 have hx:=aet z1
 have c3:=agm ⟨s.li,s.pins⟩ hx
 rw[gk]at c3
 simp only at c3
 have c4:=aon (mkV s).c (mkV s).x hx
 rw[bd,gk]at c4
 simp only[mkV]at c4
 have hz: ¬aj s≠0:=fun h=>h z1
 have hw:IntKind.i64.wrap (s.b.tdiv 16)=s.b.tdiv 16:=by
  have h4:=(jk z1).2.2.2
  simp only[gw,inB,Bool.and_eq_true,decide_eq_true_eq]at h4
  have h5:s.b.tdiv 16=s.b/16:=Int.tdiv_eq_ediv_of_nonneg (by omega)
  rw[ag]<;>omega
 simp only[go_sem,z1]
 refine call c3 [] ?_
 by_cases k1:s.kd=10
 rotate_left
 ·have:r=(noV,42):=by rw[←hr,ofE,if_neg hz,if_neg (fun h=>k1 h.1)]
  subst this
  simp only[go_sem,k1,noV]
  exact ae (by kernel_rfl)
 by_cases k2:s.body=[]
 rotate_left
 ·have:r=(noV,42):=by rw[←hr,ofE,if_neg hz,if_neg (fun h=>k2 h.2.1)]
  subst this
  simp only[go_sem,k1,k2,noV]
  exact ae (by kernel_rfl)
 simp only[go_sem,k1,k2]
 refine⟨ae (by kernel_rfl),?_⟩
 refine call c4 [] ?_
 by_cases k3:fq (mkV s).c (mkV s).x=true
 ·have:r=(mkV s,0):=by rw[←hr,ofE,if_neg hz,if_pos ⟨k1,k2,k3⟩]
  subst this
  simp only[mkV]at k3
  simp only[go_sem,k3,mkV,hw]
 ·have:r=(noV,42):=by rw[←hr,ofE,if_neg hz,if_neg (fun h=>k3 h.2.2)]
  subst this
  simp only[mkV,Bool.not_eq_true]at k3
  simp only[go_sem,k3,noV,hw]
def cw(s:Stm):Vt×Bool:=((ofE s).1,decide ((ofE s).2=0)&&decide (s.sk=s.au∧s.sd=dig s))
theorem ai9{s:Stm}(h:(ofE s).2=0):okS s:=by
 refine n8 ?_
 unfold ofE at h
 split at h
 ·rename_i h1
  exact absurd h h1
 ·rename_i h1
  exact Classical.not_not.1 h1
theorem aeb(s:Stm)(hs:gx s):Den Tryz.prog 165 [.agg (sm s)] [] (.tup [.agg (vt7 (cw s).1),.bool (cw s).2]) [] []:=by
 refine aa Tryz.mixed Tryz.func165 rfl Tryz.call165 Tryz.ntmps165 (congrArg Array.toList Tryz.results165) (by simp) (by kernel_rfl) [] (exts:=[]) rfl rfl ?_
 have c1:=avd s hs
 have c2:=fun h:(ofE s).2=0=>rp s (ai9 h)
 generalize hr:cw s=r
 rw[sm]at c1 c2 ⊢
 simp only[go_sem]
 refine call c1 [] ?_
 by_cases k1:(ofE s).2=0
 ·simp only[go_sem,k1]
  refine call (c2 k1) [] ?_
  simp only[go_sem]
  refine⟨ae (by kernel_rfl),?_⟩
  rw[←hr]
  exact⟨⟨rfl,rfl,rfl,rfl,rfl,rfl,rfl⟩,by simp[cw,k1]⟩
 ·simp only[go_sem,k1]
  refine⟨ae (by kernel_rfl),?_⟩
  rw[←hr]
  exact⟨⟨rfl,rfl,rfl,rfl,rfl,rfl,rfl⟩,by simp[cw,k1]⟩
def pw(a b:Vt):Int:=or2 (gr a.k b.k) (jx a.x b.x)
theorem am5(a b:Vt)(ha:ml a.x)(hb:ml b.x):Den Tryz.prog 169 [.agg (vt7 a),.agg (vt7 b)] [] (.int .i64 (pw a b)) [] []:=by
 refine aa Tryz.mixed Tryz.func169 rfl Tryz.call169 Tryz.ntmps169 (congrArg Array.toList Tryz.results169) (by simp) (by kernel_rfl) [] (exts:=[]) rfl rfl ?_
 simp only[go_sem]
 refine call (gj a.k b.k) [] ?_
 simp only[go_sem]
 refine call (rk a.x b.x ha.1 ha.2 hb.1 hb.2) [] ?_
 simp only[go_sem]
 refine call (ag6 [gr a.k b.k,jx a.x b.x] (by simp[big])) [] ?_
 simp only[go_sem]
 refine⟨ae (by kernel_rfl),?_⟩
 simp only[orL,pw,or2]
 repeat' split
 all_goals simp_all
theorem aj3(a b:Vt)(ha:ml a.x)(hb:ml b.x):Den Tryz.prog 173 [.agg (vt7 a),.agg (vt7 b),.ptr 1000000 0] [.cells [.fn 169 []]] (.bool (decide (pw a b=0))) [] [.cells [.fn 169 []]]:=by
 refine aa Tryz.mixed Tryz.func173 rfl Tryz.call173 Tryz.ntmps173 (congrArg Array.toList Tryz.results173) (by simp) (by kernel_rfl) [] (exts:=[1000000]) rfl rfl ?_
 simp only[go_sem]
 refine call (am5 a b ha hb) [] ?_
 simp only[go_sem]
theorem ag2(l:List Vt)(hl:big l.length)(hb: ∀a∈l,ml a.x)(hd: ∀i,0<i→i<l.length→pw (el l i) (el l (i - 1))≠0):
  Den Tryz.prog 172 [.os 1000000 l.length,.fn 173 [.ptr 1000001 0]] [.arr 116 7 false (l.map vt7),.cells [.fn 169 []]] (.os 1000000 l.length) [] [.arr 116 7 false (l.map vt7),.cells [.fn 169 []]]:=by
 refine aa Tryz.mixed Tryz.func172 rfl Tryz.call172 Tryz.ntmps172 (congrArg Array.toList Tryz.results172) (by simp) (by kernel_rfl) [] (exts:=[1000000,1000001]) rfl rfl ?_
 by_cases h2:(l.length:Int)<2
 ·simp only[go_sem,h2]
 simp only[go_sem,h2]
 refine loop Tryz.mixed 1 (fun i:Nat=>[(0,.os 1000000 l.length),(1,.fn 173 [.ptr 1000001 0]),(5,.int .i64 i)]) (fun _=>[(1000000,.arr 116 7 false (l.map vt7)),(1000001,.cells [.fn 169 []])]) (fun i=>1≤i∧i≤l.length) (fun i=>l.length - i) (by kernel_rfl) ⟨Nat.le_refl _,by omega⟩ ?_ ?_
 ·simp only[go_sem]
 ·rintro i ⟨hi0,hi⟩
  by_cases hlt:i<l.length
  ·have h1:(i:Int)<(l.length:Int):=by omega
   obtain⟨j,rfl⟩: ∃j,i=j+1:=⟨i - 1,by omega⟩
   have hw:IntKind.i64.wrap (((j+1:Nat):Int) - 1)=(j:Int):=by rw[ag]<;>omega
   have hj:j<l.length:=by omega
   simp only[go_sem,h1,hlt,hw,hj]
   have hne:=hd (j+1) (by omega) hlt
   rw[Nat.add_sub_cancel]at hne
   refine call (aj3 (el l (j+1)) (el l j) (hb _ (aw hlt)) (hb _ (aw hj))) [1000001] ?_
   simp only[go_sem,hne]
   refine⟨ae (by kernel_rfl),j+1+1,⟨⟨by omega,by omega⟩,by omega⟩,?_⟩
   rw[ag]<;>omega
  ·have h1: ¬(i:Int)<(l.length:Int):=by omega
   simp only[go_sem,h1]
def okV(c:Cs)(s:Stm):Bool:=(cw s).2&&decide ((cw s).1.c=c)
def vn(l:List Stm)(c:Cs)(i:Nat):List Vt:=((l.take i).filter (okV c)).map fun s=>(cw s).1
theorem af9{l:List Stm}{c:Cs}{i:Nat}(h:i<l.length):vn l c (i+1)=vn l c i++if okV c (el l i)then [(cw (el l i)).1]else []:=by
 simp only[vn,bh h,List.filter_append,List.map_append,List.filter_cons,List.filter_nil]
 split<;>rfl
theorem ami(l:List Stm)(c:Cs)(i:Nat):(vn l c i).length≤l.length:=by
 simp only[vn,List.length_map]
 refine Nat.le_trans (List.length_filter_le _ _) ?_
 simp;omega
theorem qh{s:Stm}:uz (cw s).1.x:=by
 have h0:uz noV.x:=⟨by simp[noV],by simp[noV]⟩
 simp only[cw,ofE]
 split
 ·exact h0
 ·rename_i h
  split
  ·exact aet (by simpa using h)
  ·exact h0
end Go.Proofs.Am
