/- DThree. -/
import Derived.Test.YtloaichcpoboeaaGreatDoorDOne
set_option maxHeartbeats 1000000
set_option maxRecDepth 100000
set_option linter.unusedSimpArgs false
set_option linter.unusedVariables false
namespace Go.Proofs.Am
open Go Go.RowKit
open Go.Proofs
theorem aw9(l:List Pn)(h:(l.flatMap pnB).length<=100000000):Den Tryz.prog 245 [.vs (l.map pn)] [] (.bool (decide (am (bbg l)=0))) [] []:=by
 refine aa Tryz.func245 rfl Tryz.call245 Tryz.ntmps245 Tryz.results245 (by simp) (by kernel_rfl) [] (exts:=[]) rfl rfl ?_;have c2:=agc (bbg l) (bca (x:=⟨[],l⟩) ⟨by simp,h⟩);rw[show sm (bbg l)=[.int .i64 0,.int .i64 0,.str [],.int .i64 0,.int .i64 10,.int .i64 0,.int .i64 0,.int .i64 0,.vs [],.vs (l.map pn),.str [],.int .i64 0,.str []] from rfl]at c2;simp only[go_sem];refine call c2 [] ?_;simp only[go_sem]
def bfj(kd:Int):Int:=if kd=1 then 4294967295 else 1
def cnt(kd:Int):Int:=if kd=1 then 2 else 1
def aof(kd:Int)(l:List Int):Bool:=l.all fun n=>decide (0<=n/\n<=bfj kd)
theorem amb(kd:Int)(l:List Int):(aof kd l&&decide ((l.length:Int)=cnt kd))=bcp kd l:=by
 rw[Bool.eq_iff_iff];unfold aof bcp bfj cnt;by_cases hk:kd=1
 ·simp only[hk,if_true]
  match l with
  |[]=>simp
  |[a]=>simp
  |[a,b]=>simp[el];omega
  |a::b::c::r=>simp;intros;omega
 ·simp only[hk,if_false]
  match l with
  |[]=>simp
  |[a]=>simp[el];omega
  |a::b::r=>simp;intros;omega
theorem p9{l:List Int}{p:Int->Bool}{n:Int}(hn:n∈l)(h:p n=false):l.all p=false:=by
 rw[List.all_eq_false];exact⟨n,hn,by simp[h]⟩
theorem ats(c:Cs)(x:Ct)(hx:ajv x):Den Tryz.prog 195 [.agg (cs c),.agg (ct x)] [] (.bool (o4 c x)) [] []:=by
 refine aa Tryz.func195 rfl Tryz.call195 Tryz.ntmps195 Tryz.results195 (by simp) (by kernel_rfl) [] (exts:=[]) rfl rfl ?_;have c1:=ans c;rw[ki]at c1;have hb:=hx.1;simp only[go_sem];refine call c1 [] ?_
 cases a1:l6 c
 ·simp only[go_sem];simp[o4,a1]
 simp only[go_sem];refine call (aw9 x.pi hx.2) [] ?_;by_cases a2:am (bbg x.pi)=0
 rotate_left
 ·simp only[go_sem,a2];simp[o4,a1,a2]
 have hm:o4 c x=(aof c.kd x.li&&decide ((x.li.length:Int)=cnt c.kd)):=by rw[amb];simp[o4,a1,a2]
 rw[hm]
 have hmc:(c.kd=1/\bfj c.kd=4294967295/\cnt c.kd=2)\/(¬c.kd=1/\bfj c.kd=1/\cnt c.kd=1):=by
  unfold bfj cnt;by_cases h:c.kd=1<;>simp[h]
 have hrb:aof c.kd x.li=x.li.all fun n=>decide (0<=n/\n<=bfj c.kd):=rfl;rw[hrb];clear hrb hm;rcases hmc with ⟨k1,k2,k3⟩|⟨k1,k2,k3⟩
 ·rw[k2,k3];simp only[go_sem,a2,k1];refine loop Tryz.mixed 0 (fun i:Nat=>[(3,.ptr 3 0),(5,.int .i64 2),(6,.int .i64 4294967295),(22,.vs (x.li.map i1)),(23,.int .i64 x.li.length),(24,.int .i64 i)]) (fun _=>[(3,.cells [.vs (x.li.map i1),.vs (x.pi.map pn)])]) (fun i=>i<=x.li.length/\∀j,j<i->0<=el x.li j/\el x.li j<=4294967295) (fun i=>x.li.length - i) (by kernel_rfl) ⟨Nat.zero_le _,fun j hj=>by omega⟩ ?_ ?_
  ·simp only[go_sem]
  rintro i ⟨hi,hall⟩;by_cases hlt:i<x.li.length
  ·have h1:(i:Int)<(x.li.length:Int):=by omega
   by_cases g1:el x.li i<0
   ·simp only[go_sem,h1,hlt,g1];rw[p9 (cj hlt) (by simp;omega)];rfl
   by_cases g2:el x.li i<=4294967295
   rotate_left
   ·have g3:4294967295<el x.li i:=by omega
    simp only[go_sem,h1,hlt,g1,g3];rw[p9 (cj hlt) (by simp;omega)];rfl
   have g3: ¬4294967295<el x.li i:=by omega
   simp only[go_sem,h1,hlt,g1,g3];refine⟨i+1,⟨⟨by omega,fun j hj=> ?_⟩,by omega⟩,?_⟩
   ·rcases Nat.lt_succ_iff_lt_or_eq.1 hj with h|h
    ·exact hall j h
    ·rw[h];omega
   ·rw[ae]<;>omega
  ·have h1: ¬(i:Int)<(x.li.length:Int):=by omega
   have hal:(x.li.all fun n=>decide (0<=n/\n<=4294967295))=true:=by
    rw[List.all_eq_true];intro n hn;obtain⟨j,hj,rfl⟩:=List.mem_iff_getElem.1 hn;have:=hall j (by omega);simp only[el,aw,a8 hj,Option.getD_some]at this;simpa using this
   simp only[go_sem,h1];rw[hal];simp
 ·rw[k2,k3];simp only[go_sem,a2,k1];refine loop Tryz.mixed 0 (fun i:Nat=>[(3,.ptr 3 0),(5,.int .i64 1),(6,.int .i64 1),(22,.vs (x.li.map i1)),(23,.int .i64 x.li.length),(24,.int .i64 i)]) (fun _=>[(3,.cells [.vs (x.li.map i1),.vs (x.pi.map pn)])]) (fun i=>i<=x.li.length/\∀j,j<i->0<=el x.li j/\el x.li j<=1) (fun i=>x.li.length - i) (by kernel_rfl) ⟨Nat.zero_le _,fun j hj=>by omega⟩ ?_ ?_
  ·simp only[go_sem]
  rintro i ⟨hi,hall⟩;by_cases hlt:i<x.li.length
  ·have h1:(i:Int)<(x.li.length:Int):=by omega
   by_cases g1:el x.li i<0
   ·simp only[go_sem,h1,hlt,g1];rw[p9 (cj hlt) (by simp;omega)];rfl
   by_cases g2:el x.li i<=1
   rotate_left
   ·have g3:1<el x.li i:=by omega
    simp only[go_sem,h1,hlt,g1,g3];rw[p9 (cj hlt) (by simp;omega)];rfl
   have g3: ¬1<el x.li i:=by omega
   simp only[go_sem,h1,hlt,g1,g3];refine⟨i+1,⟨⟨by omega,fun j hj=> ?_⟩,by omega⟩,?_⟩
   ·rcases Nat.lt_succ_iff_lt_or_eq.1 hj with h|h
    ·exact hall j h
    ·rw[h];omega
   ·rw[ae]<;>omega
  ·have h1: ¬(i:Int)<(x.li.length:Int):=by omega
   have hal:(x.li.all fun n=>decide (0<=n/\n<=1))=true:=by
    rw[List.all_eq_true];intro n hn;obtain⟨j,hj,rfl⟩:=List.mem_iff_getElem.1 hn;have:=hall j (by omega);simp only[el,aw,a8 hj,Option.getD_some]at this;simpa using this
   simp only[go_sem,h1];rw[hal];simp
def noV:Vt:=⟨0,⟨0,0,0,0⟩,⟨[],[]⟩⟩
def mkV(s:Stm):Vt:=⟨s.au,⟨s.a,s.b.tmod 16,s.c,s.b.tdiv 16⟩,⟨s.li,s.pins⟩⟩
def ofE(s:Stm):Vt×Int:=if am s≠0 then(noV,am s)else if s.kd=10/\s.body=[]/\o4 (mkV s).c (mkV s).x=true then(mkV s,0)else(noV,42)
theorem pe{s:Stm}(hc:am s=0):s.li.length<=64/\s.pins.length<=64/\ku s.pins=true/\jo s.b=true:=by
 unfold am at hc
 repeat' split at hc
 all_goals (try (omega;done))
 rename_i h1 h2 h3 h4 h5 h6;refine⟨?_,?_,?_,?_⟩
 ·simp at h5;omega
 ·simp at h5;omega
 ·cases h:ku s.pins
  ·simp[h]at h6
  ·rfl
 ·cases h:jo s.b
  ·simp[h]at h4
  ·rfl
theorem aqe{s:Stm}(hc:am s=0):ajv ⟨s.li,s.pins⟩:=by
 obtain⟨h1,h2,h3,_⟩:=pe hc;refine⟨by simp only;omega,?_⟩;have hp:=of_decide_eq_true h3
 have hd: ∀p∈s.pins,(pnB p).length<=56:=fun p hp'=>by
  obtain⟨i,hi,rfl⟩:=List.mem_iff_getElem.1 hp';have:=hp i hi;simp only[lw,el,aw,a8 hi,Option.getD_some,Bool.and_eq_true,decide_eq_true_eq]at this;have h4:=this.2;simp only[pnB,List.length_append,az,gh];omega
 have hl: ∀l:List Pn,(∀p∈l,(pnB p).length<=56)->(l.flatMap pnB).length<=56*l.length:=fun l=>by
  induction l with
  |nil=>simp
  |cons p l ih=>
   intro h;have a1:=h p (by simp);have a2:=ih fun q hq=>h q (by simp[hq]);simp only[List.flatMap_cons,List.length_append,List.length_cons];omega
 have:=hl s.pins hd;simp only;omega
theorem aiy{s:Stm}(hc:am s=0):okS s:=by
 have h1:=aqe hc
 have h2:s.prev.length<=32/\s.body.length<=4096/\s.li.length<=64/\s.pins.length<=64:=by
  unfold am at hc
  repeat' split at hc
  all_goals (try (omega;done))
  rename_i h1 h2 h3 h4 h5 h6
  have h7:s.prev.length<=32:=by
   simp only[Bool.or_eq_true,Bool.and_eq_true,decide_eq_true_eq,not_or,Bool.not_eq_true,inB,Bool.not_eq_true',decide_eq_false_iff_not,Classical.not_not,not_and]at h4 h6;have h8:=h4.1.1.1.1.1;by_cases h0:s.nu=0
   ·have:=h6.1.1.1 h0;rw[this];simp
   ·have:=h6.1.1.2 (by omega);omega
  simp at h5;exact⟨h7,by omega,by omega,by omega⟩
 have h3:=h1.2;simp only at h3;simp only[okS,stB,uu,acp,hdB,List.length_append,dw,az,gh,l5,List.length_cons,List.length_nil];omega
theorem awm(s:Stm)(hs:adv s):Den Tryz.prog 135 [.agg (sm s)] [] (.tup [.agg (vt7 (ofE s).1),.int .i64 (ofE s).2]) [] []:=by
 refine aa Tryz.func135 rfl Tryz.call135 Tryz.ntmps135 Tryz.results135 (by simp) (by kernel_rfl) [] (exts:=[]) rfl rfl ?_;have c2:=sx s hs;generalize hr:ofE s=r;rw[sm]at c2 ⊢;simp only[go_sem];refine call c2 [] ?_;by_cases z1:am s=0
 rotate_left
 ·have:r=(noV,am s):=by rw[<-hr,ofE,if_pos z1]
  subst this;simp only[go_sem,z1,noV]
 have hx:=aqe z1;have c3:=aje ⟨s.li,s.pins⟩ hx;rw[ahl]at c3;simp only at c3;have c4:=ats (mkV s).c (mkV s).x hx;rw[ki,ahl]at c4;simp only[mkV]at c4;have hz: ¬am s≠0:=fun h=>h z1
 have hw:IntKind.i64.wrap (s.b.tdiv 16)=s.b.tdiv 16:=by
  have h4:=(pe z1).2.2.2;simp only[jo,inB,Bool.and_eq_true,decide_eq_true_eq]at h4;have h5:s.b.tdiv 16=s.b/16:=Int.tdiv_eq_ediv_of_nonneg (by omega);rw[ae]<;>omega
 simp only[go_sem,z1];refine call c3 [] ?_;by_cases k1:s.kd=10
 rotate_left
 ·have:r=(noV,42):=by rw[<-hr,ofE,if_neg hz,if_neg (fun h=>k1 h.1)]
  subst this;simp only[go_sem,k1,noV];exact ag (by kernel_rfl)
 by_cases k2:s.body=[]
 rotate_left
 ·have:r=(noV,42):=by rw[<-hr,ofE,if_neg hz,if_neg (fun h=>k2 h.2.1)]
  subst this;simp only[go_sem,k1,k2,noV];exact ag (by kernel_rfl)
 simp only[go_sem,k1,k2];refine⟨ag (by kernel_rfl),?_⟩;refine call c4 [] ?_;by_cases k3:o4 (mkV s).c (mkV s).x=true
 ·have:r=(mkV s,0):=by rw[<-hr,ofE,if_neg hz,if_pos ⟨k1,k2,k3⟩]
  subst this;simp only[mkV]at k3;simp only[go_sem,k3,mkV,hw]
 ·have:r=(noV,42):=by rw[<-hr,ofE,if_neg hz,if_neg (fun h=>k3 h.2.2)]
  subst this;simp only[mkV,Bool.not_eq_true]at k3;simp only[go_sem,k3,noV,hw]
def ej(s:Stm):Vt×Bool:=((ofE s).1,decide ((ofE s).2=0)&&decide (s.sk=s.au/\s.sd=dig s))
theorem ba8{s:Stm}(h:(ofE s).2=0):okS s:=by
 refine aiy ?_;unfold ofE at h;split at h
 ·rename_i h1;exact absurd h h1
 ·rename_i h1;exact Classical.not_not.1 h1
theorem ag8(s:Stm)(hs:adv s):Den Tryz.prog 102 [.agg (sm s)] [] (.tup [.agg (vt7 (ej s).1),.bool (ej s).2]) [] []:=by
 refine aa Tryz.func102 rfl Tryz.call102 Tryz.ntmps102 Tryz.results102 (by simp) (by kernel_rfl) [] (exts:=[]) rfl rfl ?_;have c1:=awm s hs;have c2:=fun h:(ofE s).2=0=>tb s (ba8 h);generalize hr:ej s=r;rw[sm]at c1 c2 ⊢;simp only[go_sem];refine call c1 [] ?_;by_cases k1:(ofE s).2=0
 ·simp only[go_sem,k1];refine call (c2 k1) [] ?_;simp only[go_sem];refine⟨ag (by kernel_rfl),?_⟩;rw[<-hr];exact⟨⟨rfl,rfl,rfl,rfl,rfl,rfl,rfl⟩,by simp[ej,k1]⟩
 ·simp only[go_sem,k1];refine⟨ag (by kernel_rfl),?_⟩;rw[<-hr];exact⟨⟨rfl,rfl,rfl,rfl,rfl,rfl,rfl⟩,by simp[ej,k1]⟩
def aag(a b:Vt):Int:=or2 (gv a.k b.k) (ot a.x b.x)
theorem aod(a b:Vt)(ha:aac a.x)(hb:aac b.x):Den Tryz.prog 146 [.agg (vt7 a),.agg (vt7 b)] [] (.int .i64 (aag a b)) [] []:=by
 refine aa Tryz.func146 rfl Tryz.call146 Tryz.ntmps146 Tryz.results146 (by simp) (by kernel_rfl) [] (exts:=[]) rfl rfl ?_;simp only[go_sem];refine call (eb a.k b.k) [] ?_;simp only[go_sem];refine call (t6 a.x b.x ha.1 ha.2 hb.1 hb.2) [] ?_;simp only[go_sem];refine call (yo [gv a.k b.k,ot a.x b.x] (by simp[big])) [] ?_;simp only[go_sem];refine⟨ag (by kernel_rfl),?_⟩;simp only[orL,aag,or2]
 repeat' split
 all_goals simp_all
theorem ali(a b:Vt)(ha:aac a.x)(hb:aac b.x):Den Tryz.prog 149 [.agg (vt7 a),.agg (vt7 b),.ptr 1000000 0] [.cells [.fn 146 []]] (.bool (decide (aag a b=0))) [] [.cells [.fn 146 []]]:=by
 refine aa Tryz.func149 rfl Tryz.call149 Tryz.ntmps149 Tryz.results149 (by simp) (by kernel_rfl) [] (exts:=[1000000]) rfl rfl ?_;simp only[go_sem];refine call (aod a b ha hb) [] ?_;simp only[go_sem]
theorem aja(l:List Vt)(hl:big l.length)(hb: ∀a∈l,aac a.x)(hd: ∀i,0<i->i<l.length->aag (el l i) (el l (i - 1))≠0):
  Den Tryz.prog 148 [.os 1000000 l.length,.fn 149 [.ptr 1000001 0]] [.arr 166 7 false (l.map vt7),.cells [.fn 146 []]] (.os 1000000 l.length) [] [.arr 166 7 false (l.map vt7),.cells [.fn 146 []]]:=by
 refine aa Tryz.func148 rfl Tryz.call148 Tryz.ntmps148 Tryz.results148 (by simp) (by kernel_rfl) [] (exts:=[1000000,1000001]) rfl rfl ?_;by_cases h2:(l.length:Int)<2
 ·simp only[go_sem,h2]
 simp only[go_sem,h2];refine loop Tryz.mixed 1 (fun i:Nat=>[(0,.os 1000000 l.length),(1,.fn 149 [.ptr 1000001 0]),(5,.int .i64 i)]) (fun _=>[(1000000,.arr 166 7 false (l.map vt7)),(1000001,.cells [.fn 146 []])]) (fun i=>1<=i/\i<=l.length) (fun i=>l.length - i) (by kernel_rfl) ⟨Nat.le_refl _,by omega⟩ ?_ ?_
 ·simp only[go_sem]
 ·rintro i ⟨hi0,hi⟩;by_cases hlt:i<l.length
  ·have h1:(i:Int)<(l.length:Int):=by omega
   obtain⟨j,rfl⟩: ∃j,i=j+1:=⟨i - 1,by omega⟩;have hw:IntKind.i64.wrap (((j+1:Nat):Int) - 1)=(j:Int):=by rw[ae]<;>omega
   have hj:j<l.length:=by omega
   simp only[go_sem,h1,hlt,hw,hj];have hne:=hd (j+1) (by omega) hlt;rw[Nat.add_sub_cancel]at hne;refine call (ali (el l (j+1)) (el l j) (hb _ (cj hlt)) (hb _ (cj hj))) [1000001] ?_;simp only[go_sem,hne];refine⟨ag (by kernel_rfl),j+1+1,⟨⟨by omega,by omega⟩,by omega⟩,?_⟩;rw[ae]<;>omega
  ·have h1: ¬(i:Int)<(l.length:Int):=by omega
   simp only[go_sem,h1]
def okV(c:Cs)(s:Stm):Bool:=(ej s).2&&decide ((ej s).1.c=c)
def yi(l:List Stm)(c:Cs)(i:Nat):List Vt:=((l.take i).filter (okV c)).map fun s=>(ej s).1
theorem ag0{l:List Stm}{c:Cs}{i:Nat}(h:i<l.length):yi l c (i+1)=yi l c i++if okV c (el l i)then [(ej (el l i)).1]else []:=by
 simp only[yi,cu h,List.filter_append,List.map_append,List.filter_cons,List.filter_nil];split<;>rfl
theorem ap2(l:List Stm)(c:Cs)(i:Nat):(yi l c i).length<=l.length:=by
 simp only[yi,List.length_map];refine Nat.le_trans (List.length_filter_le _ _) ?_;simp;omega
theorem adk{s:Stm}:ajv (ej s).1.x:=by
 have h0:ajv noV.x:=⟨by simp[noV],by simp[noV]⟩;simp only[ej,ofE];split
 ·exact h0
 ·rename_i h;split
  ·exact aqe (by simpa using h)
  ·exact h0
end Go.Proofs.Am
