/- DThree. -/
import Derived.Test.YthidogjdclkoeaaGreatDoorDOne
set_option maxHeartbeats 1000000
set_option maxRecDepth 100000
set_option linter.unusedSimpArgs false
set_option linter.unusedVariables false
namespace Go.Proofs.Am
open Go Go.RowKit
open Go.Proofs
theorem apc(l:List Pn)(h:(l.flatMap pnB).length<=100000000):Den Tryz.prog 216 [.vs (l.map pn)] [] (.bool (decide (am (adb l)=0))) [] []:=by
 refine aa Tryz.func216 rfl Tryz.call216 Tryz.ntmps216 Tryz.results216 (by simp) (by kernel_rfl) [] (exts:=[]) rfl rfl ?_;have c2:=aqs (adb l) (auj (x:=⟨[],l⟩) ⟨by simp,h⟩);rw[show sm (adb l)=[.int .i64 0,.int .i64 0,.str [],.int .i64 0,.int .i64 10,.int .i64 0,.int .i64 0,.int .i64 0,.vs [],.vs (l.map pn),.str [],.int .i64 0,.str []] from rfl]at c2;simp only[go_sem];refine call c2 [] ?_;simp only[go_sem]
def a4h(kd:Int):Int:=if kd=1 then 4294967295 else 1
def cnt(kd:Int):Int:=if kd=1 then 2 else 1
def ak5(kd:Int)(l:List Int):Bool:=l.all fun n=>decide (0<=n/\n<=a4h kd)
theorem ahx(kd:Int)(l:List Int):(ak5 kd l&&decide ((l.length:Int)=cnt kd))=abi kd l:=by
 rw[Bool.eq_iff_iff];unfold ak5 abi a4h cnt;by_cases hk:kd=1
 ·simp only[hk,if_true]
  match l with
  |[]=>simp
  |[a]=>simp
  |[a,b]=>simp[el];omega
  |a::b::c::r=>simp;intros;omega
 ·simp only[hk,if_false]
  match l with
  |[]=>simp
  |[a]=>simp[el];omega
  |a::b::r=>simp;intros;omega
theorem pw{l:List Int}{p:Int->Bool}{n:Int}(hn:n∈l)(h:p n=false):l.all p=false:=by
 rw[List.all_eq_false];exact⟨n,hn,by simp[h]⟩
theorem am5(c:Cs)(x:Ct)(hx:pa x):Den Tryz.prog 190 [.agg (cs c),.agg (ct x)] [] (.bool (et c x)) [] []:=by
 refine aa Tryz.func190 rfl Tryz.call190 Tryz.ntmps190 Tryz.results190 (by simp) (by kernel_rfl) [] (exts:=[]) rfl rfl ?_;have c1:=aib c;rw[dt]at c1;have hb:=hx.1;simp only[go_sem];refine call c1 [] ?_
 cases a1:fq c
 ·simp only[go_sem];simp[et,a1]
 simp only[go_sem];refine call (apc x.pi hx.2) [] ?_;by_cases a2:am (adb x.pi)=0
 rotate_left
 ·simp only[go_sem,a2];simp[et,a1,a2]
 have hm:et c x=(ak5 c.kd x.li&&decide ((x.li.length:Int)=cnt c.kd)):=by rw[ahx];simp[et,a1,a2]
 rw[hm]
 have hmc:(c.kd=1/\a4h c.kd=4294967295/\cnt c.kd=2)\/(¬c.kd=1/\a4h c.kd=1/\cnt c.kd=1):=by
  unfold a4h cnt;by_cases h:c.kd=1<;>simp[h]
 have hrb:ak5 c.kd x.li=x.li.all fun n=>decide (0<=n/\n<=a4h c.kd):=rfl;rw[hrb];clear hrb hm;rcases hmc with ⟨k1,k2,k3⟩|⟨k1,k2,k3⟩
 ·rw[k2,k3];simp only[go_sem,a2,k1];refine loop Tryz.mixed 0 (fun i:Nat=>[(3,.ptr 3 0),(5,.int .i64 2),(6,.int .i64 4294967295),(22,.vs (x.li.map i1)),(23,.int .i64 x.li.length),(24,.int .i64 i)]) (fun _=>[(3,.cells [.vs (x.li.map i1),.vs (x.pi.map pn)])]) (fun i=>i<=x.li.length/\∀j,j<i->0<=el x.li j/\el x.li j<=4294967295) (fun i=>x.li.length - i) (by kernel_rfl) ⟨Nat.zero_le _,fun j hj=>by omega⟩ ?_ ?_
  ·simp only[go_sem]
  rintro i ⟨hi,hall⟩;by_cases hlt:i<x.li.length
  ·have h1:(i:Int)<(x.li.length:Int):=by omega
   by_cases g1:el x.li i<0
   ·simp only[go_sem,h1,hlt,g1];rw[pw (bz hlt) (by simp;omega)];rfl
   by_cases g2:el x.li i<=4294967295
   rotate_left
   ·have g3:4294967295<el x.li i:=by omega
    simp only[go_sem,h1,hlt,g1,g3];rw[pw (bz hlt) (by simp;omega)];rfl
   have g3: ¬4294967295<el x.li i:=by omega
   simp only[go_sem,h1,hlt,g1,g3];refine⟨i+1,⟨⟨by omega,fun j hj=> ?_⟩,by omega⟩,?_⟩
   ·rcases Nat.lt_succ_iff_lt_or_eq.1 hj with h|h
    ·exact hall j h
    ·rw[h];omega
   ·rw[ai]<;>omega
  ·have h1: ¬(i:Int)<(x.li.length:Int):=by omega
   have hal:(x.li.all fun n=>decide (0<=n/\n<=4294967295))=true:=by
    rw[List.all_eq_true];intro n hn;obtain⟨j,hj,rfl⟩:=List.mem_iff_getElem.1 hn;have:=hall j (by omega);simp only[el,bq,bf hj,Option.getD_some]at this;simpa using this
   simp only[go_sem,h1];rw[hal];simp
 ·rw[k2,k3];simp only[go_sem,a2,k1];refine loop Tryz.mixed 0 (fun i:Nat=>[(3,.ptr 3 0),(5,.int .i64 1),(6,.int .i64 1),(22,.vs (x.li.map i1)),(23,.int .i64 x.li.length),(24,.int .i64 i)]) (fun _=>[(3,.cells [.vs (x.li.map i1),.vs (x.pi.map pn)])]) (fun i=>i<=x.li.length/\∀j,j<i->0<=el x.li j/\el x.li j<=1) (fun i=>x.li.length - i) (by kernel_rfl) ⟨Nat.zero_le _,fun j hj=>by omega⟩ ?_ ?_
  ·simp only[go_sem]
  rintro i ⟨hi,hall⟩;by_cases hlt:i<x.li.length
  ·have h1:(i:Int)<(x.li.length:Int):=by omega
   by_cases g1:el x.li i<0
   ·simp only[go_sem,h1,hlt,g1];rw[pw (bz hlt) (by simp;omega)];rfl
   by_cases g2:el x.li i<=1
   rotate_left
   ·have g3:1<el x.li i:=by omega
    simp only[go_sem,h1,hlt,g1,g3];rw[pw (bz hlt) (by simp;omega)];rfl
   have g3: ¬1<el x.li i:=by omega
   simp only[go_sem,h1,hlt,g1,g3];refine⟨i+1,⟨⟨by omega,fun j hj=> ?_⟩,by omega⟩,?_⟩
   ·rcases Nat.lt_succ_iff_lt_or_eq.1 hj with h|h
    ·exact hall j h
    ·rw[h];omega
   ·rw[ai]<;>omega
  ·have h1: ¬(i:Int)<(x.li.length:Int):=by omega
   have hal:(x.li.all fun n=>decide (0<=n/\n<=1))=true:=by
    rw[List.all_eq_true];intro n hn;obtain⟨j,hj,rfl⟩:=List.mem_iff_getElem.1 hn;have:=hall j (by omega);simp only[el,bq,bf hj,Option.getD_some]at this;simpa using this
   simp only[go_sem,h1];rw[hal];simp
def noV:Vt:=⟨0,⟨0,0,0,0⟩,⟨[],[]⟩⟩
def mkV(s:Stm):Vt:=⟨s.au,⟨s.a,s.b.tmod 16,s.c,s.b.tdiv 16⟩,⟨s.li,s.pins⟩⟩
def ofE(s:Stm):Vt×Int:=if am s≠0 then(noV,am s)else if s.kd=10/\s.body=[]/\et (mkV s).c (mkV s).x=true then(mkV s,0)else(noV,42)
theorem lg{s:Stm}(hc:am s=0):s.li.length<=64/\s.pins.length<=64/\j1 s.pins=true/\ja s.b=true:=by
 unfold am at hc
 repeat' split at hc
 all_goals (try (omega;done))
 rename_i h1 h2 h3 h4 h5 h6;refine⟨?_,?_,?_,?_⟩
 ·simp at h5;omega
 ·simp at h5;omega
 ·cases h:j1 s.pins
  ·simp[h]at h6
  ·rfl
 ·cases h:ja s.b
  ·simp[h]at h4
  ·rfl
theorem adv{s:Stm}(hc:am s=0):pa ⟨s.li,s.pins⟩:=by
 obtain⟨h1,h2,h3,_⟩:=lg hc;refine⟨by simp only;omega,?_⟩;have hp:=of_decide_eq_true h3
 have hd: ∀p∈s.pins,(pnB p).length<=56:=fun p hp'=>by
  obtain⟨i,hi,rfl⟩:=List.mem_iff_getElem.1 hp';have:=hp i hi;simp only[lh,el,bq,bf hi,Option.getD_some,Bool.and_eq_true,decide_eq_true_eq]at this;have h4:=this.2;simp only[pnB,List.length_append,aw,fe];omega
 have hl: ∀l:List Pn,(∀p∈l,(pnB p).length<=56)->(l.flatMap pnB).length<=56*l.length:=fun l=>by
  induction l with
  |nil=>simp
  |cons p l ih=>
   intro h;have a1:=h p (by simp);have a2:=ih fun q hq=>h q (by simp[hq]);simp only[List.flatMap_cons,List.length_append,List.length_cons];omega
 have:=hl s.pins hd;simp only;omega
theorem auw{s:Stm}(hc:am s=0):okS s:=by
 have h1:=adv hc
 have h2:s.prev.length<=32/\s.body.length<=4096/\s.li.length<=64/\s.pins.length<=64:=by
  unfold am at hc
  repeat' split at hc
  all_goals (try (omega;done))
  rename_i h1 h2 h3 h4 h5 h6
  have h7:s.prev.length<=32:=by
   simp only[Bool.or_eq_true,Bool.and_eq_true,decide_eq_true_eq,not_or,Bool.not_eq_true,inB,Bool.not_eq_true',decide_eq_false_iff_not,Classical.not_not,not_and]at h4 h6;have h8:=h4.1.1.1.1.1;by_cases h0:s.nu=0
   ·have:=h6.1.1.1 h0;rw[this];simp
   ·have:=h6.1.1.2 (by omega);omega
  simp at h5;exact⟨h7,by omega,by omega,by omega⟩
 have h3:=h1.2;simp only at h3;simp only[okS,stB,ui,aan,hdB,List.length_append,dw,aw,fe,l5,List.length_cons,List.length_nil];omega
theorem a3b(s:Stm)(hs:uv s):Den Tryz.prog 161 [.agg (sm s)] [] (.tup [.agg (vt7 (ofE s).1),.int .i64 (ofE s).2]) [] []:=by
 refine aa Tryz.func161 rfl Tryz.call161 Tryz.ntmps161 Tryz.results161 (by simp) (by kernel_rfl) [] (exts:=[]) rfl rfl ?_;have c2:=aae s hs;generalize hr:ofE s=r;rw[sm]at c2 ⊢;simp only[go_sem];refine call c2 [] ?_;by_cases z1:am s=0
 rotate_left
 ·have:r=(noV,am s):=by rw[<-hr,ofE,if_pos z1]
  subst this;simp only[go_sem,z1,noV]
 have hx:=adv z1;have c3:=aey ⟨s.li,s.pins⟩ hx;rw[il]at c3;simp only at c3;have c4:=am5 (mkV s).c (mkV s).x hx;rw[dt,il]at c4;simp only[mkV]at c4;have hz: ¬am s≠0:=fun h=>h z1
 have hw:IntKind.i64.wrap (s.b.tdiv 16)=s.b.tdiv 16:=by
  have h4:=(lg z1).2.2.2;simp only[ja,inB,Bool.and_eq_true,decide_eq_true_eq]at h4;have h5:s.b.tdiv 16=s.b/16:=Int.tdiv_eq_ediv_of_nonneg (by omega);rw[ai]<;>omega
 simp only[go_sem,z1];refine call c3 [] ?_;by_cases k1:s.kd=10
 rotate_left
 ·have:r=(noV,42):=by rw[<-hr,ofE,if_neg hz,if_neg (fun h=>k1 h.1)]
  subst this;simp only[go_sem,k1,noV];exact ae (by kernel_rfl)
 by_cases k2:s.body=[]
 rotate_left
 ·have:r=(noV,42):=by rw[<-hr,ofE,if_neg hz,if_neg (fun h=>k2 h.2.1)]
  subst this;simp only[go_sem,k1,k2,noV];exact ae (by kernel_rfl)
 simp only[go_sem,k1,k2];refine⟨ae (by kernel_rfl),?_⟩;refine call c4 [] ?_;by_cases k3:et (mkV s).c (mkV s).x=true
 ·have:r=(mkV s,0):=by rw[<-hr,ofE,if_neg hz,if_pos ⟨k1,k2,k3⟩]
  subst this;simp only[mkV]at k3;simp only[go_sem,k3,mkV,hw]
 ·have:r=(noV,42):=by rw[<-hr,ofE,if_neg hz,if_neg (fun h=>k3 h.2.2)]
  subst this;simp only[mkV,Bool.not_eq_true]at k3;simp only[go_sem,k3,noV,hw]
def ez(s:Stm):Vt×Bool:=((ofE s).1,decide ((ofE s).2=0)&&decide (s.sk=s.au/\s.sd=dig s))
theorem arj{s:Stm}(h:(ofE s).2=0):okS s:=by
 refine auw ?_;unfold ofE at h;split at h
 ·rename_i h1;exact absurd h h1
 ·rename_i h1;exact Classical.not_not.1 h1
theorem ap0(s:Stm)(hs:uv s):Den Tryz.prog 140 [.agg (sm s)] [] (.tup [.agg (vt7 (ez s).1),.bool (ez s).2]) [] []:=by
 refine aa Tryz.func140 rfl Tryz.call140 Tryz.ntmps140 Tryz.results140 (by simp) (by kernel_rfl) [] (exts:=[]) rfl rfl ?_;have c1:=a3b s hs;have c2:=fun h:(ofE s).2=0=>aox s (arj h);generalize hr:ez s=r;rw[sm]at c1 c2 ⊢;simp only[go_sem];refine call c1 [] ?_;by_cases k1:(ofE s).2=0
 ·simp only[go_sem,k1];refine call (c2 k1) [] ?_;simp only[go_sem];refine⟨ae (by kernel_rfl),?_⟩;rw[<-hr];exact⟨⟨rfl,rfl,rfl,rfl,rfl,rfl,rfl⟩,by simp[ez,k1]⟩
 ·simp only[go_sem,k1];refine⟨ae (by kernel_rfl),?_⟩;rw[<-hr];exact⟨⟨rfl,rfl,rfl,rfl,rfl,rfl,rfl⟩,by simp[ez,k1]⟩
def o9(a b:Vt):Int:=or2 (jv a.k b.k) (j2 a.x b.x)
theorem ajo(a b:Vt)(ha:re a.x)(hb:re b.x):Den Tryz.prog 141 [.agg (vt7 a),.agg (vt7 b)] [] (.int .i64 (o9 a b)) [] []:=by
 refine aa Tryz.func141 rfl Tryz.call141 Tryz.ntmps141 Tryz.results141 (by simp) (by kernel_rfl) [] (exts:=[]) rfl rfl ?_;simp only[go_sem];refine call (ng a.k b.k) [] ?_;simp only[go_sem];refine call (sa a.x b.x ha.1 ha.2 hb.1 hb.2) [] ?_;simp only[go_sem];refine call (ap4 [jv a.k b.k,j2 a.x b.x] (by simp[big])) [] ?_;simp only[go_sem];refine⟨ae (by kernel_rfl),?_⟩;simp only[orL,o9,or2]
 repeat' split
 all_goals simp_all
theorem ah2(a b:Vt)(ha:re a.x)(hb:re b.x):Den Tryz.prog 144 [.agg (vt7 a),.agg (vt7 b),.ptr 1000000 0] [.cells [.fn 141 []]] (.bool (decide (o9 a b=0))) [] [.cells [.fn 141 []]]:=by
 refine aa Tryz.func144 rfl Tryz.call144 Tryz.ntmps144 Tryz.results144 (by simp) (by kernel_rfl) [] (exts:=[1000000]) rfl rfl ?_;simp only[go_sem];refine call (ajo a b ha hb) [] ?_;simp only[go_sem]
theorem adn(l:List Vt)(hl:big l.length)(hb: ∀a∈l,re a.x)(hd: ∀i,0<i->i<l.length->o9 (el l i) (el l (i - 1))≠0):
  Den Tryz.prog 143 [.os 1000000 l.length,.fn 144 [.ptr 1000001 0]] [.arr 164 7 false (l.map vt7),.cells [.fn 141 []]] (.os 1000000 l.length) [] [.arr 164 7 false (l.map vt7),.cells [.fn 141 []]]:=by
 refine aa Tryz.func143 rfl Tryz.call143 Tryz.ntmps143 Tryz.results143 (by simp) (by kernel_rfl) [] (exts:=[1000000,1000001]) rfl rfl ?_;by_cases h2:(l.length:Int)<2
 ·simp only[go_sem,h2]
 simp only[go_sem,h2];refine loop Tryz.mixed 1 (fun i:Nat=>[(0,.os 1000000 l.length),(1,.fn 144 [.ptr 1000001 0]),(5,.int .i64 i)]) (fun _=>[(1000000,.arr 164 7 false (l.map vt7)),(1000001,.cells [.fn 141 []])]) (fun i=>1<=i/\i<=l.length) (fun i=>l.length - i) (by kernel_rfl) ⟨Nat.le_refl _,by omega⟩ ?_ ?_
 ·simp only[go_sem]
 ·rintro i ⟨hi0,hi⟩;by_cases hlt:i<l.length
  ·have h1:(i:Int)<(l.length:Int):=by omega
   obtain⟨j,rfl⟩: ∃j,i=j+1:=⟨i - 1,by omega⟩;have hw:IntKind.i64.wrap (((j+1:Nat):Int) - 1)=(j:Int):=by rw[ai]<;>omega
   have hj:j<l.length:=by omega
   simp only[go_sem,h1,hlt,hw,hj];have hne:=hd (j+1) (by omega) hlt;rw[Nat.add_sub_cancel]at hne;refine call (ah2 (el l (j+1)) (el l j) (hb _ (bz hlt)) (hb _ (bz hj))) [1000001] ?_;simp only[go_sem,hne];refine⟨ae (by kernel_rfl),j+1+1,⟨⟨by omega,by omega⟩,by omega⟩,?_⟩;rw[ai]<;>omega
  ·have h1: ¬(i:Int)<(l.length:Int):=by omega
   simp only[go_sem,h1]
def okV(c:Cs)(s:Stm):Bool:=(ez s).2&&decide ((ez s).1.c=c)
def vi(l:List Stm)(c:Cs)(i:Nat):List Vt:=((l.take i).filter (okV c)).map fun s=>(ez s).1
theorem ady{l:List Stm}{c:Cs}{i:Nat}(h:i<l.length):vi l c (i+1)=vi l c i++if okV c (el l i)then [(ez (el l i)).1]else []:=by
 simp only[vi,c9 h,List.filter_append,List.map_append,List.filter_cons,List.filter_nil];split<;>rfl
theorem aka(l:List Stm)(c:Cs)(i:Nat):(vi l c i).length<=l.length:=by
 simp only[vi,List.length_map];refine Nat.le_trans (List.length_filter_le _ _) ?_;simp;omega
theorem ab3{s:Stm}:pa (ez s).1.x:=by
 have h0:pa noV.x:=⟨by simp[noV],by simp[noV]⟩;simp only[ez,ofE];split
 ·exact h0
 ·rename_i h;split
  ·exact adv (by simpa using h)
  ·exact h0
end Go.Proofs.Am
