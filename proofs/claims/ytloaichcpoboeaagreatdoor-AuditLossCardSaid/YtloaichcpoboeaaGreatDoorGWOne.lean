/- GWOne. -/
import Derived.Test.YtloaichcpoboeaaGreatDoorGAOne
import Derived.Test.YtloaichcpoboeaaGreatDoorCOne
import Derived.Test.YtloaichcpoboeaaGreatDoorBTwo
import Derived.Test.YtloaichcpoboeaaGreatDoorCThree
import Derived.Test.YtloaichcpoboeaaGreatDoorEOne
import Derived.Test.YtloaichcpoboeaaGreatDoorZOne
import Derived.Test.YtloaichcpoboeaaGreatDoorBOne
set_option maxHeartbeats 1000000
set_option maxRecDepth 100000
set_option linter.unusedSimpArgs false
set_option linter.unusedVariables false
namespace Go.Proofs.Am
open Go Go.RowKit
open Go.Proofs
theorem lc{α:Type} [Inhabited α]{l:List α}{i:Nat}(h:i<l.length):el l i∈l:=by
 rw[el,List.getD_eq_getElem?_getD,List.getElem?_eq_getElem h]
 exact List.getElem_mem h
def edr(e:Ed):List PV:=[.int .i64 e.fr,.int .i64 e.to,.int .i64 e.lv]
theorem ik(e:Ed):edr e=[.int .i64 e.fr,.int .i64 e.to,.int .i64 e.lv]:=(rfl)
def gr(g:Gr):List PV:=[.int .i64 g.sz,.vs (g.ed.map edr),.vs (g.gone.map i1)]
theorem f9(g:Gr):gr g=[.int .i64 g.sz,.vs (g.ed.map edr),.vs (g.gone.map i1)]:=(rfl)
attribute [go_sem] ik f9
def m6(a b:Ed):Bool:=decide (a.fr<b.fr∨a.fr=b.fr∧a.to<b.to)
def atf(g:Gr)(i:Nat):Bool:=decide ((0≤(el g.ed i).fr∧(el g.ed i).fr<g.sz)∧(0≤(el g.ed i).to∧(el g.ed i).to<g.sz)∧(el g.ed i).fr≠(el g.ed i).to∧(1≤(el g.ed i).lv∧(el g.ed i).lv≤3)∧(0<i→m6 (el g.ed (i - 1)) (el g.ed i)=true)∧(el g.ed i).fr∉g.gone∧(el g.ed i).to∉g.gone)
def bg(g:Gr):Bool:=decide (0≤g.sz∧g.sz≤64∧g.ed.length≤500)&&(kx g.gone g.sz&&x6 (atf g) g.ed.length)
def jz(n:Int)(p:Pol):Bool:=decide (0<p.se.length)&&(kx p.se n&&(decide (1≤p.ta.length∧p.ta.length≤8∧1≤p.lv∧p.lv≤3)&&x6 (io p.ta) p.ta.length))
def qe(g:Gr)(p:Pol):Int:=if bg g=false then 14 else if jz g.sz p=false then 15 else 0
def gn(g:Gr)(lv:Int):Gr:=⟨g.sz,g.ed.filter fun e=>decide (lv≤e.lv),g.gone⟩
def acd(g:Gr)(k:Int):List Int:=(g.ed.filter fun e=>decide (e.fr=k)).map (·.to)
def ape(K:List Int)(n:Int):Bool:=kx K n&&decide (K.length≤16)
def ma(g:Gr)(p:Pol)(K:List Int):Int×Int:=if qe g p≠0 then(0,qe g p)else if ape K g.sz=false then(0,4)else(ap5 (dv (gn g p.lv) p.se) g.gone p.ta K,0)
theorem t7{p:Nat→Bool}{n:Nat}:x6 p n=true↔∀i,i<n→p i=true:=by unfold x6;simp
theorem iw{g:Gr}:bg g=true↔(0≤g.sz∧g.sz≤64∧g.ed.length≤500)∧kx g.gone g.sz=true∧∀i,i<g.ed.length→atf g i=true:=by
 unfold bg
 rw[Bool.and_eq_true,Bool.and_eq_true,decide_eq_true_iff,t7]
theorem acg{g:Gr}{i:Nat}:atf g i=true↔(0≤(el g.ed i).fr∧(el g.ed i).fr<g.sz)∧(0≤(el g.ed i).to∧(el g.ed i).to<g.sz)∧(el g.ed i).fr≠(el g.ed i).to∧(1≤(el g.ed i).lv∧(el g.ed i).lv≤3)∧(0<i→m6 (el g.ed (i - 1)) (el g.ed i)=true)∧(el g.ed i).fr∉g.gone∧(el g.ed i).to∉g.gone:=decide_eq_true_iff
theorem a3v{g:Gr}(h:bg g=true)(lv:Int):OkE (gn g lv):=by
 obtain⟨⟨h0,_,_⟩,_,h3⟩:=iw.1 h
 refine⟨h0,fun e he=> ?_⟩
 have he:=(List.mem_filter.1 he).1
 obtain⟨i,hi,rfl⟩:=List.mem_iff_getElem.1 he
 have:=acg.1 (h3 i hi)
 have e1:el g.ed i=g.ed[i]:=by simp[el,List.getD_eq_getElem?_getD,hi]
 rw[e1]at this
 exact⟨this.1,this.2.1⟩
theorem kv{l:List Int}{n:Int}:kx l n=true↔(∀x∈l,0≤x∧x<n)∧l.Pairwise (· < ·):=by
 unfold kx
 rw[t7]
 constructor
 ·intro h
  have hk: ∀i,(hi:i<l.length)→0≤l[i]∧l[i]<n∧(0<i→el l (i - 1)<l[i]):=fun i hi=>by
   have:=of_decide_eq_true (h i hi)
   have e1:el l i=l[i]:=by simp[el,List.getD_eq_getElem?_getD,hi]
   rwa [e1]at this
  refine⟨fun x hx=> ?_,?_⟩
  ·obtain⟨i,hi,rfl⟩:=List.mem_iff_getElem.1 hx
   have:=hk i hi
   omega
  ·rw[List.pairwise_iff_getElem]
   have key: ∀(d i:Nat) (h1:i<l.length) (h2:i+d+1<l.length),l[i]<l[i+d+1]:=fun d=>by
    induction d with
    |zero=>
     intro i h1 h2
     have:=(hk (i+1) h2).2.2 (by omega)
     have e1:el l (i+1 - 1)=l[i]:=by simp[el,List.getD_eq_getElem?_getD,h1]
     rw[e1]at this
     exact this
    |succ d ih=>
     intro i h1 h2
     have a:=ih i h1 (by omega)
     have:=(hk (i+(d+1)+1) h2).2.2 (by omega)
     have e1:el l (i+(d+1)+1 - 1)=l[i+d+1]:=by
      have:i+(d+1)+1 - 1=i+d+1:=by omega
      rw[this]
      have h3:i+d+1<l.length:=by omega
      simp[el,List.getD_eq_getElem?_getD,h3]
     rw[e1]at this
     omega
   intro i j hi hj hij
   obtain⟨d,rfl⟩: ∃d,j=i+d+1:=⟨j - i - 1,by omega⟩
   exact key d i hi hj
 ·rintro⟨h1,h2⟩ i hi
  refine decide_eq_true ?_
  have e1:el l i=l[i]:=by simp[el,List.getD_eq_getElem?_getD,hi]
  rw[e1]
  have:=h1 _ (List.getElem_mem hi)
  refine⟨this.1,this.2,fun h0=> ?_⟩
  have h3:i - 1<l.length:=by omega
  have e2:el l (i - 1)=l[i - 1]:=by simp[el,List.getD_eq_getElem?_getD,h3]
  rw[e2]
  exact List.pairwise_iff_getElem.1 h2 (i - 1) i h3 hi (by omega)
theorem akr(l:List Int)(n m:Int)(hm:m=n - 1)(hl:big l.length):Den Tryz.prog 56 [.vs (l.map i1),.int .i64 0,.int .i64 m] [] (.bool (kx l n)) [] []:=by
 refine aa Tryz.mixed Tryz.func56 rfl Tryz.call56 Tryz.ntmps56 (congrArg Array.toList Tryz.results56) (by simp) (by kernel_rfl) [] (exts:=[]) rfl rfl ?_
 generalize hq:kx l n=q
 have hbad:kx l n=false→q=false:=fun h=>by rw[←hq];exact h
 have hgood:kx l n=true→q=true:=fun h=>by rw[←hq];exact h
 simp only[go_sem]
 refine loop Tryz.mixed 0 (fun i:Nat=>[(0,.vs (l.map i1)),(1,.int .i64 0),(2,.int .i64 m),(9,.vs (l.map i1)),(10,.int .i64 l.length),(11,.int .i64 i)]) (fun i=>[]) (fun i=>i≤l.length∧∀j,j<i→et n l j=true) (fun i=>l.length - i) (by kernel_rfl) ?_ ?_ ?_
 ·simp
 ·simp only[go_sem]
 ·rintro i ⟨hi,hp⟩
  by_cases hi':i<l.length
  ·have hlt:(i:Int)<(l.length:Int):=by omega
   by_cases a1:el l i<0
   ·have hq:et n l i=false:=decide_eq_false (by omega)
    simp only[go_sem,hlt,hi',a1]
    exact(hbad (dw hi' hq)).symm
   by_cases a2:m<el l i
   ·have hq:et n l i=false:=decide_eq_false (by omega)
    simp only[go_sem,hlt,hi',a1,a2]
    exact(hbad (dw hi' hq)).symm
   by_cases a3:0<i
   ·have a3':(0:Int)<(i:Int):=by omega
    have e1:IntKind.i64.wrap ((i:Int) - 1)=((i - 1:Nat):Int):=by rw[ae]<;>omega
    have e2:i - 1<l.length:=by omega
    by_cases a4:el l i≤el l (i - 1)
    ·have hq:et n l i=false:=decide_eq_false (by omega)
     simp only[go_sem,hlt,hi',a1,a2,a3',e1,e2,a4]
     exact(hbad (dw hi' hq)).symm
    ·have hq:et n l i=true:=decide_eq_true (by omega)
     simp only[go_sem,hlt,hi',a1,a2,a3',e1,e2,a4]
     exact⟨i+1,⟨⟨by omega,az hp hq⟩,by omega⟩,by rw[ae]<;>omega⟩
   ·have a3': ¬(0:Int)<(i:Int):=by omega
    have hq:et n l i=true:=decide_eq_true (by omega)
    simp only[go_sem,hlt,hi',a1,a2,a3']
    exact⟨i+1,⟨⟨by omega,az hp hq⟩,by omega⟩,by rw[ae]<;>omega⟩
  ·have hf: ¬((i:Int)<(l.length:Int)):=by omega
   have:i=l.length:=by omega
   subst this
   simp only[go_sem,hf]
   exact(hgood (lg hp)).symm
theorem a1c(p:Pol)(d:Int):Den Tryz.prog 37 [.agg (pl p),.int .i64 d] [] (.int .i64 (zo p.ta d)) [] []:=by
 refine aa Tryz.mixed Tryz.func37 rfl Tryz.call37 Tryz.ntmps37 (congrArg Array.toList Tryz.results37) (by simp) (by kernel_rfl) [] (exts:=[]) rfl rfl ?_
 by_cases h0:d<0
 ·have e:zo p.ta d=0:=if_pos h0
  simp only[go_sem,h0,e]
 by_cases h1:d<(p.ta.length:Int)
 ·have e:zo p.ta d=el p.ta d.toNat:=by unfold zo;rw[if_neg h0,if_pos h1]
  have h2:0≤d:=by omega
  have h3:d.toNat<p.ta.length:=by omega
  simp only[go_sem,h0,h1,h2,h3,e]
 ·have e:zo p.ta d=1:=by unfold zo;rw[if_neg h0,if_neg h1]
  simp only[go_sem,h0,h1,e]
theorem auw(p:Pol)(d:Int):Den Tryz.prog 33 [.agg (pl p),.int .i64 d] [] (.int .i64 (zo p.ta d)) [] []:=by
 refine aa Tryz.mixed Tryz.func33 rfl Tryz.call33 Tryz.ntmps33 (congrArg Array.toList Tryz.results33) (by simp) (by kernel_rfl) [] (exts:=[]) rfl rfl ?_
 by_cases h0:d<0
 ·have e:zo p.ta d=0:=if_pos h0
  simp only[go_sem,h0,e]
 by_cases h1:d<(p.ta.length:Int)
 ·have e:zo p.ta d=el p.ta d.toNat:=by unfold zo;rw[if_neg h0,if_pos h1]
  have h2:0≤d:=by omega
  have h3:d.toNat<p.ta.length:=by omega
  simp only[go_sem,h0,h1,h2,h3,e]
 ·have e:zo p.ta d=1:=by unfold zo;rw[if_neg h0,if_neg h1]
  simp only[go_sem,h0,h1,e]
theorem agi(l:List Int)(k:Int)(hl:big l.length):Den Tryz.prog 44 [.vs (l.map i1),.int .i64 k] [] (.bool (decide (k∈l))) [] []:=by
 refine aa Tryz.mixed Tryz.func44 rfl Tryz.call44 Tryz.ntmps44 (congrArg Array.toList Tryz.results44) (by simp) (by kernel_rfl) [] (exts:=[]) rfl rfl ?_
 simp only[go_sem]
 refine loop (by kernel_rfl) 0 (fun i:Nat=>[(0,.vs (l.map i1)),(1,.int .i64 k),(5,.int .i64 i)]) (fun _=>[]) (fun i=>i≤l.length∧∀j,j<i→el l j≠k) (fun i=>l.length - i) (by kernel_rfl) ?_ ?_ ?_
 ·simp
 ·simp only[go_sem]
 ·intro i ⟨hi,hn⟩
  simp only[go_sem]
  refine⟨fun h=>⟨by omega,fun e=> ?_,fun e=>⟨i+1,⟨⟨by omega,fun j hj=> ?_⟩,by omega⟩,?_⟩⟩,fun h=> ?_⟩
  ·rw[←e];simp[gx h]
  ·rcases Nat.lt_succ_iff_lt_or_eq.1 hj with h'|h'
   ·exact hn j h'
   ·rw[h'];exact e
  ·rw[ae]<;>omega
  ·simp[lz (by omega) hn]
theorem a9w(a b:Ed):Den Tryz.prog 43 [.agg (edr a),.agg (edr b)] [] (.bool (m6 a b)) [] []:=by
 refine aa Tryz.mixed Tryz.func43 rfl Tryz.call43 Tryz.ntmps43 (congrArg Array.toList Tryz.results43) (by simp) (by kernel_rfl) [] (exts:=[]) rfl rfl ?_
 by_cases h1:a.fr<b.fr
 ·have e:m6 a b=true:=decide_eq_true (.inl h1)
  simp only[go_sem,h1,e]
 by_cases h2:a.fr=b.fr
 ·by_cases h3:a.to<b.to
  ·have e:m6 a b=true:=decide_eq_true (.inr ⟨h2,h3⟩)
   have h4: ¬b.fr<b.fr:=by omega
   simp only[go_sem,h1,h2,h3,h4,e]
  ·have e:m6 a b=false:=decide_eq_false (by omega)
   have h4: ¬b.fr<b.fr:=by omega
   simp only[go_sem,h1,h2,h3,h4,e]
 ·have e:m6 a b=false:=decide_eq_false (by omega)
  simp only[go_sem,h1,h2,e]
theorem ah6(g:Gr)(h1:big g.ed.length)(h2:big g.gone.length):Den Tryz.prog 17 [.agg (gr g)] [] (.int .i64 (if bg g=true then 0 else 14)) [] []:=by
 refine aa Tryz.mixed Tryz.func17 rfl Tryz.call17 Tryz.ntmps17 (congrArg Array.toList Tryz.results17) (by simp) (by kernel_rfl) [] (exts:=[]) rfl rfl ?_
 generalize hm:(if bg g=true then(0:Int)else 14)=m
 have no:bg g=false→m=14:=fun h=>by rw[←hm,h];rfl
 have yes:bg g=true→m=0:=fun h=>by rw[←hm,h];rfl
 clear hm
 by_cases a1:g.sz<0
 ·have hq:=no (by unfold bg;rw[decide_eq_false (by omega)];rfl)
  simp only[go_sem,a1,hq]
 by_cases a2:64<g.sz
 ·have hq:=no (by unfold bg;rw[decide_eq_false (by omega)];rfl)
  simp only[go_sem,a1,a2,hq]
 by_cases a3:(500:Int)<(g.ed.length:Int)
 ·have hq:=no (by unfold bg;rw[decide_eq_false (by omega)];rfl)
  simp only[go_sem,a1,a2,a3,hq]
 simp only[go_sem,a1,a2,a3]
 refine call (a9s g.gone g.sz h2) [] ?_
 cases a4:kx g.gone g.sz
 ·have hq:=no (by unfold bg;rw[a4];simp)
  simp only[go_sem,hq]
 have hq:bg g=x6 (atf g) g.ed.length:=by unfold bg;rw[a4,decide_eq_true (by omega)];rfl
 rw[hq]at no yes
 simp only[go_sem]
 refine loop Tryz.mixed 0 (fun i:Nat=>[(1,.ptr 1 0),(3,.int .i64 i)]) (fun i=>[(1,.cells (gr g))]) (fun i=>i≤g.ed.length∧∀j,j<i→atf g j=true) (fun i=>g.ed.length - i) (by kernel_rfl) ?_ ?_ ?_
 ·simp
 ·simp only[go_sem]
 ·rintro i ⟨hi,hp⟩
  by_cases hi':i<g.ed.length
  rotate_left
  ·have hf: ¬((i:Int)<(g.ed.length:Int)):=by omega
   have:i=g.ed.length:=by omega
   subst this
   have hq:=yes (lg hp)
   simp only[go_sem,hf,hq]
  have hlt:(i:Int)<(g.ed.length:Int):=by omega
  have bad:atf g i=false→m=14:=fun h=>no (dw hi' h)
  by_cases b1:(el g.ed i).fr<0
  ·have hq:=bad (decide_eq_false (by omega))
   simp only[go_sem,hlt,hi',b1,hq]
  by_cases b2:g.sz≤(el g.ed i).fr
  ·have hq:=bad (decide_eq_false (by omega))
   simp only[go_sem,hlt,hi',b1,b2,hq]
  by_cases b3:(el g.ed i).to<0
  ·have hq:=bad (decide_eq_false (by omega))
   simp only[go_sem,hlt,hi',b1,b2,b3,hq]
  by_cases b4:g.sz≤(el g.ed i).to
  ·have hq:=bad (decide_eq_false (by omega))
   simp only[go_sem,hlt,hi',b1,b2,b3,b4,hq]
  by_cases b5:(el g.ed i).fr=(el g.ed i).to
  ·have hq:=bad (decide_eq_false fun h=>h.2.2.1 b5)
   have b1': ¬(el g.ed i).to<0:=b3
   have b2': ¬g.sz≤(el g.ed i).to:=b4
   simp only[go_sem,hlt,hi',b1,b2,b3,b4,b5,hq]
  by_cases b6:(el g.ed i).lv<1
  ·have hq:=bad (decide_eq_false (by omega))
   simp only[go_sem,hlt,hi',b1,b2,b3,b4,b5,b6,hq]
  by_cases b7:3<(el g.ed i).lv
  ·have hq:=bad (decide_eq_false (by omega))
   simp only[go_sem,hlt,hi',b1,b2,b3,b4,b5,b6,b7,hq]
  have cF:=agi g.gone (el g.ed i).fr h2
  have cT:=agi g.gone (el g.ed i).to h2
  have fin:(0<i→m6 (el g.ed (i - 1)) (el g.ed i)=true)→(el g.ed i).fr∉g.gone→(el g.ed i).to∉g.gone→atf g i=true:=fun q1 q2 q3=>decide_eq_true ⟨⟨by omega,by omega⟩,⟨by omega,by omega⟩,b5,⟨by omega,by omega⟩,q1,q2,q3⟩
  by_cases b8:0<i
  ·have b8':(0:Int)<(i:Int):=by omega
   have e1:IntKind.i64.wrap ((i:Int) - 1)=((i - 1:Nat):Int):=by rw[ae]<;>omega
   have e2:i - 1<g.ed.length:=by omega
   have cB:=a9w (el g.ed (i - 1)) (el g.ed i)
   rw[ik,ik]at cB
   simp only[go_sem,hlt,hi',b1,b2,b3,b4,b5,b6,b7,b8',e1,e2]
   refine call cB [] ?_
   cases b9:m6 (el g.ed (i - 1)) (el g.ed i)
   ·have hq:=bad (decide_eq_false fun h=>by have:=h.2.2.2.2.1 b8;rw[b9]at this;cases this)
    simp only[go_sem,hq]
    exact ag (by kernel_rfl)
   simp only[go_sem]
   refine call cF [] ?_
   by_cases c1:(el g.ed i).fr∈g.gone
   ·have hq:=bad (decide_eq_false fun h=>h.2.2.2.2.2.1 c1)
    simp only[go_sem,c1,hq]
    exact ag (by kernel_rfl)
   simp only[go_sem,c1]
   refine call cT [] ?_
   by_cases c2:(el g.ed i).to∈g.gone
   ·have hq:=bad (decide_eq_false fun h=>h.2.2.2.2.2.2 c2)
    simp only[go_sem,c2,hq]
    exact ag (by kernel_rfl)
   simp only[go_sem,c2]
   exact⟨ag (by kernel_rfl),i+1,⟨⟨by omega,az hp (fin (fun _=>b9) c1 c2)⟩,by omega⟩,by rw[ae]<;>omega⟩
  ·have b8': ¬(0:Int)<(i:Int):=by omega
   simp only[go_sem,hlt,hi',b1,b2,b3,b4,b5,b6,b7,b8']
   refine call cF [] ?_
   by_cases c1:(el g.ed i).fr∈g.gone
   ·have hq:=bad (decide_eq_false fun h=>h.2.2.2.2.2.1 c1)
    simp only[go_sem,c1,hq]
    exact ag (by kernel_rfl)
   simp only[go_sem,c1]
   refine call cT [] ?_
   by_cases c2:(el g.ed i).to∈g.gone
   ·have hq:=bad (decide_eq_false fun h=>h.2.2.2.2.2.2 c2)
    simp only[go_sem,c2,hq]
    exact ag (by kernel_rfl)
   simp only[go_sem,c2]
   exact⟨ag (by kernel_rfl),i+1,⟨⟨by omega,az hp (fin (fun h=>absurd h b8) c1 c2)⟩,by omega⟩,by rw[ae]<;>omega⟩
def bcd(a b:Ed):Int:=orL [fu a.fr b.fr,fu a.to b.to]
theorem a1u(a b:Ed):Den Tryz.prog 86 [.agg (edr a),.agg (edr b)] [] (.int .i64 (bcd a b)) [] []:=by
 refine aa Tryz.mixed Tryz.func86 rfl Tryz.call86 Tryz.ntmps86 (congrArg Array.toList Tryz.results86) (by simp) (by kernel_rfl) [] (exts:=[]) rfl rfl ?_
 have co:=um [fu a.fr b.fr,fu a.to b.to] (by simp[big])
 simp only[go_sem]
 refine call (dp a.fr b.fr) [] ?_
 simp only[go_sem]
 refine call (dp a.to b.to) [] ?_
 simp only[go_sem]
 refine call co [] ?_
 simp only[go_sem]
 exact⟨ag (by kernel_rfl),rfl⟩
theorem am6(a b:Ed):0≤bcd a b↔m6 a b=false:=by
 unfold bcd fu m6
 rw[decide_eq_false_iff_not]
 simp only[orL]
 split<;>split<;>(try split)<;>(try split)<;>(try split)<;>omega
def bb0(g:Gr)(e:Ed):Bool:=decide ((0≤e.fr∧e.fr<g.sz)∧(0≤e.to∧e.to<g.sz)∧e.fr≠e.to∧e.fr∉g.gone∧e.to∉g.gone)
theorem a3f(g:Gr)(e:Ed)(hs:0≤g.sz∧g.sz≤64)(h2:big g.gone.length):Den Tryz.prog 85 [.agg (gr g),.agg (edr e)] [] (.bool (bb0 g e)) [] []:=by
 refine aa Tryz.mixed Tryz.func85 rfl Tryz.call85 Tryz.ntmps85 (congrArg Array.toList Tryz.results85) (by simp) (by kernel_rfl) [] (exts:=[]) rfl rfl ?_
 have w:IntKind.i64.wrap (g.sz - 1)=g.sz - 1:=by rw[ae]<;>omega
 generalize hm:bb0 g e=m
 have no:bb0 g e=false→m=false:=fun h=>by rw[←hm,h]
 have yes:bb0 g e=true→m=true:=fun h=>by rw[←hm,h]
 clear hm
 simp only[go_sem,w]
 refine call (dc e.fr 0 (g.sz - 1)) [] ?_
 cases a1:inB e.fr 0 (g.sz - 1)
 ·have a1:=of_decide_eq_false a1
  have hq:=no (decide_eq_false (by omega))
  simp only[go_sem,hq]
 have a1:=of_decide_eq_true a1
 simp only[go_sem,w]
 refine call (dc e.to 0 (g.sz - 1)) [] ?_
 cases a2:inB e.to 0 (g.sz - 1)
 ·have a2:=of_decide_eq_false a2
  have hq:=no (decide_eq_false (by omega))
  simp only[go_sem,hq]
 have a2:=of_decide_eq_true a2
 by_cases a3:e.fr=e.to
 ·have hq:=no (decide_eq_false fun h=>h.2.2.1 a3)
  simp only[go_sem,a3,hq]
 simp only[go_sem,a3]
 refine call (fb g.gone e.fr h2) [] ?_
 by_cases a4:e.fr∈g.gone
 ·have hq:=no (decide_eq_false fun h=>h.2.2.2.1 a4)
  simp only[go_sem,a4,hq]
 simp only[go_sem,a4]
 refine call (fb g.gone e.to h2) [] ?_
 by_cases a5:e.to∈g.gone
 ·have hq:=no (decide_eq_false fun h=>h.2.2.2.2 a5)
  simp only[go_sem,a5,hq]
 have hq:=yes (decide_eq_true ⟨⟨by omega,by omega⟩,⟨by omega,by omega⟩,a3,a4,a5⟩)
 simp only[go_sem,a5,hq]
theorem apf(g:Gr)(h1:big g.ed.length)(h2:big g.gone.length):Den Tryz.prog 55 [.agg (gr g)] [] (.int .i64 (if bg g=true then 0 else 14)) [] []:=by
 refine aa Tryz.mixed Tryz.func55 rfl Tryz.call55 Tryz.ntmps55 (congrArg Array.toList Tryz.results55) (by simp) (by kernel_rfl) [] (exts:=[]) rfl rfl ?_
 generalize hm:(if bg g=true then(0:Int)else 14)=m
 have no:bg g=false→m=14:=fun h=>by rw[←hm,h];rfl
 have yes:bg g=true→m=0:=fun h=>by rw[←hm,h];rfl
 clear hm
 simp only[go_sem]
 refine call (dc g.sz 0 64) [] ?_
 cases a1:inB g.sz 0 64
 ·have a1:=of_decide_eq_false a1
  have hq:=no (by unfold bg;rw[decide_eq_false (by omega)];rfl)
  simp only[go_sem,hq]
 have a1:=of_decide_eq_true a1
 have w:IntKind.i64.wrap (g.sz - 1)=g.sz - 1:=by rw[ae]<;>omega
 by_cases a3:(500:Int)<(g.ed.length:Int)
 ·have hq:=no (by unfold bg;rw[decide_eq_false (by omega)];rfl)
  simp only[go_sem,a3,hq]
 simp only[go_sem,a3,w]
 refine call (akr g.gone g.sz (g.sz - 1) rfl h2) [] ?_
 cases a4:kx g.gone g.sz
 ·have hq:=no (by unfold bg;rw[a4];simp)
  simp only[go_sem,hq]
 have hq:bg g=x6 (atf g) g.ed.length:=by unfold bg;rw[a4,decide_eq_true (by omega)];rfl
 rw[hq]at no yes
 simp only[go_sem]
 refine loop Tryz.mixed 0 (fun i:Nat=>[(1,.ptr 1 0),(25,.vs (g.ed.map edr)),(26,.int .i64 g.ed.length),(27,.int .i64 i)]) (fun i=>[(1,.cells (gr g))]) (fun i=>i≤g.ed.length∧∀j,j<i→atf g j=true) (fun i=>g.ed.length - i) (by kernel_rfl) ?_ ?_ ?_
 ·simp
 ·simp only[go_sem]
 ·rintro i ⟨hi,hp⟩
  by_cases hi':i<g.ed.length
  rotate_left
  ·have hf: ¬((i:Int)<(g.ed.length:Int)):=by omega
   have:i=g.ed.length:=by omega
   subst this
   have hq:=yes (lg hp)
   simp only[go_sem,hf,hq]
  have hlt:(i:Int)<(g.ed.length:Int):=by omega
  have bad:atf g i=false→m=14:=fun h=>no (dw hi' h)
  have cf:=a3f g (el g.ed i) (by omega) h2
  rw[f9,ik]at cf
  simp only[go_sem,hlt,hi']
  refine call cf [] ?_
  cases b1:bb0 g (el g.ed i)
  ·have hq:=bad (decide_eq_false fun h=>by
    have:=of_decide_eq_false b1
    exact this ⟨h.1,h.2.1,h.2.2.1,h.2.2.2.2.2⟩)
   simp only[go_sem,hq]
   exact ag (by kernel_rfl)
  have b1:=of_decide_eq_true b1
  simp only[go_sem]
  refine call (dc (el g.ed i).lv 1 3) [] ?_
  cases b2:inB (el g.ed i).lv 1 3
  ·have b2:=of_decide_eq_false b2
   have hq:=bad (decide_eq_false fun h=>by have:=h.2.2.2.1;omega)
   simp only[go_sem,hq]
   exact ag (by kernel_rfl)
  have b2:=of_decide_eq_true b2
  have fin:(0<i→m6 (el g.ed (i - 1)) (el g.ed i)=true)→atf g i=true:=fun q1=>decide_eq_true ⟨b1.1,b1.2.1,b1.2.2.1,by omega,q1,b1.2.2.2⟩
  by_cases b8:0<i
  ·have b8':(0:Int)<(i:Int):=by omega
   have e1:IntKind.i64.wrap ((i:Int) - 1)=((i - 1:Nat):Int):=by rw[ae]<;>omega
   have e2:i - 1<g.ed.length:=by omega
   have cB:=a1u (el g.ed (i - 1)) (el g.ed i)
   rw[ik,ik]at cB
   simp only[go_sem,b8',e1,e2]
   refine call cB [] ?_
   by_cases b9:0≤bcd (el g.ed (i - 1)) (el g.ed i)
   ·have hq:=bad (decide_eq_false fun h=>by have:=h.2.2.2.2.1 b8;rw[(am6 _ _).1 b9]at this;cases this)
    simp only[go_sem,b9,hq]
    exact ag (by kernel_rfl)
   ·have b9':m6 (el g.ed (i - 1)) (el g.ed i)=true:=by
     cases hb:m6 (el g.ed (i - 1)) (el g.ed i)with
     |true=>rfl
     |false=>exact absurd ((am6 _ _).2 hb) b9
    simp only[go_sem,b9]
    exact⟨ag (by kernel_rfl),i+1,⟨⟨by omega,az hp (fin fun _=>b9')⟩,by omega⟩,by rw[ae]<;>omega⟩
  ·have b8': ¬(0:Int)<(i:Int):=by omega
   simp only[go_sem,b8']
   exact⟨ag (by kernel_rfl),i+1,⟨⟨by omega,az hp (fin fun h=>absurd h b8)⟩,by omega⟩,by rw[ae]<;>omega⟩
theorem aij(g:Gr)(p:Pol)(h1:big p.se.length)(h2:big p.ta.length):Den Tryz.prog 69 [.agg (gr g),.agg (pl p)] [] (.bool (jz g.sz p)) [] []:=by
 refine aa Tryz.mixed Tryz.func69 rfl Tryz.call69 Tryz.ntmps69 (congrArg Array.toList Tryz.results69) (by simp) (by kernel_rfl) [] (exts:=[]) rfl rfl ?_
 generalize hm:jz g.sz p=m
 by_cases a1:p.se.length=0
 ·have hq:jz g.sz p=false:=by rw[jz,decide_eq_false (by omega)];rfl
  have a1':(p.se.length:Int)=0:=by omega
  rw[hq]at hm
  simp only[go_sem,a1']
  exact hm
 have a1': ¬(p.se.length:Int)=0:=by omega
 simp only[go_sem,a1']
 refine call (a9s p.se g.sz h1) [] ?_
 cases a2:kx p.se g.sz
 ·have hq:jz g.sz p=false:=by rw[jz,a2];simp
  rw[hq]at hm
  simp only[go_sem]
  exact hm
 by_cases a3:(p.ta.length:Int)<1
 ·have hq:jz g.sz p=false:=by rw[jz,decide_eq_false (p:=1≤p.ta.length∧p.ta.length≤8∧1≤p.lv∧p.lv≤3) (by omega)];simp
  rw[hq]at hm
  simp only[go_sem,a3]
  exact hm
 by_cases a4:(8:Int)<(p.ta.length:Int)
 ·have hq:jz g.sz p=false:=by rw[jz,decide_eq_false (p:=1≤p.ta.length∧p.ta.length≤8∧1≤p.lv∧p.lv≤3) (by omega)];simp
  rw[hq]at hm
  simp only[go_sem,a3,a4]
  exact hm
 by_cases a5:p.lv<1
 ·have hq:jz g.sz p=false:=by rw[jz,decide_eq_false (p:=1≤p.ta.length∧p.ta.length≤8∧1≤p.lv∧p.lv≤3) (by omega)];simp
  rw[hq]at hm
  simp only[go_sem,a3,a4,a5]
  exact hm
 by_cases a6:3<p.lv
 ·have hq:jz g.sz p=false:=by rw[jz,decide_eq_false (p:=1≤p.ta.length∧p.ta.length≤8∧1≤p.lv∧p.lv≤3) (by omega)];simp
  rw[hq]at hm
  simp only[go_sem,a3,a4,a5,a6]
  exact hm
 have hq:jz g.sz p=x6 (io p.ta) p.ta.length:=by rw[jz,decide_eq_true (p:=1≤p.ta.length∧p.ta.length≤8∧1≤p.lv∧p.lv≤3) (by omega),decide_eq_true (by omega),a2];rfl
 rw[hq]at hm
 have hbad:x6 (io p.ta) p.ta.length=false→m=false:=fun h=>by rw[←hm];exact h
 have hgood:x6 (io p.ta) p.ta.length=true→m=true:=fun h=>by rw[←hm];exact h
 simp only[go_sem,a3,a4,a5,a6]
 refine loop Tryz.mixed 0 (fun i:Nat=>[(3,.ptr 3 0),(5,.int .i64 i)]) (fun i=>[(3,.cells (pl p))]) (fun i=>i≤p.ta.length∧∀j,j<i→io p.ta j=true) (fun i=>p.ta.length - i) (by kernel_rfl) ?_ ?_ ?_
 ·simp
 ·simp only[go_sem]
 ·rintro i ⟨hi,hp⟩
  by_cases hi':i<p.ta.length
  ·have hlt:(i:Int)<(p.ta.length:Int):=by omega
   by_cases b1:el p.ta i<1
   ·have hq:io p.ta i=false:=decide_eq_false (by omega)
    simp only[go_sem,hlt,hi',b1]
    exact⟨ag (by kernel_rfl),(hbad (dw hi' hq)).symm⟩
   by_cases b2:1000<el p.ta i
   ·have hq:io p.ta i=false:=decide_eq_false (by omega)
    simp only[go_sem,hlt,hi',b1,b2]
    exact⟨ag (by kernel_rfl),(hbad (dw hi' hq)).symm⟩
   by_cases b3:0<i
   ·have b3':(0:Int)<(i:Int):=by omega
    have e1:IntKind.i64.wrap ((i:Int) - 1)=((i - 1:Nat):Int):=by rw[ae]<;>omega
    have e2:i - 1<p.ta.length:=by omega
    by_cases b4:el p.ta (i - 1)<el p.ta i
    ·have hq:io p.ta i=false:=decide_eq_false (by omega)
     simp only[go_sem,hlt,hi',b1,b2,b3',e1,e2,b4]
     exact⟨ag (by kernel_rfl),(hbad (dw hi' hq)).symm⟩
    ·have hq:io p.ta i=true:=decide_eq_true (by omega)
     simp only[go_sem,hlt,hi',b1,b2,b3',e1,e2,b4]
     exact⟨ag (by kernel_rfl),i+1,⟨⟨by omega,az hp hq⟩,by omega⟩,by rw[ae]<;>omega⟩
   ·have b3': ¬(0:Int)<(i:Int):=by omega
    have hq:io p.ta i=true:=decide_eq_true (by omega)
    simp only[go_sem,hlt,hi',b1,b2,b3']
    exact⟨ag (by kernel_rfl),i+1,⟨⟨by omega,az hp hq⟩,by omega⟩,by rw[ae]<;>omega⟩
  ·have hf: ¬((i:Int)<(p.ta.length:Int)):=by omega
   have:i=p.ta.length:=by omega
   subst this
   simp only[go_sem,hf]
   exact(hgood (lg hp)).symm
theorem a8h(g:Gr)(p:Pol)(g1:big g.ed.length)(g2:big g.gone.length)(h1:big p.se.length)(h2:big p.ta.length):Den Tryz.prog 34 [.agg (gr g),.agg (pl p)] [] (.int .i64 (qe g p)) [] []:=by
 refine aa Tryz.mixed Tryz.func34 rfl Tryz.call34 Tryz.ntmps34 (congrArg Array.toList Tryz.results34) (by simp) (by kernel_rfl) [] (exts:=[]) rfl rfl ?_
 have cg:=ah6 g g1 g2
 have cp:=aij g p h1 h2
 rw[f9]at cg cp
 rw[o9]at cp
 generalize hm:qe g p=m
 unfold qe at hm
 cases a1:bg g
 ·rw[if_pos a1]at hm
  rw[a1]at cg
  simp only[go_sem]
  refine call cg [] ?_
  simp only[go_sem,←hm]
 rw[if_neg (by simp[a1])]at hm
 rw[a1]at cg
 simp only[go_sem]
 refine call cg [] ?_
 simp only[go_sem]
 refine call cp [] ?_
 cases a2:jz g.sz p
 ·rw[if_pos a2]at hm
  simp only[go_sem,←hm]
 ·rw[if_neg (by simp[a2])]at hm
  simp only[go_sem,←hm]
theorem ayn(g:Gr)(p:Pol)(g1:big g.ed.length)(g2:big g.gone.length)(h1:big p.se.length)(h2:big p.ta.length):Den Tryz.prog 27 [.agg (gr g),.agg (pl p)] [] (.int .i64 (qe g p)) [] []:=by
 refine aa Tryz.mixed Tryz.func27 rfl Tryz.call27 Tryz.ntmps27 (congrArg Array.toList Tryz.results27) (by simp) (by kernel_rfl) [] (exts:=[]) rfl rfl ?_
 have cg:=apf g g1 g2
 by_cases g0:bg g=true
 rotate_left
 ·have g0:bg g=false:=by simpa using g0
  have e:qe g p=14:=if_pos g0
  rw[g0]at cg
  simp only[go_sem]
  refine call cg [] ?_
  simp only[go_sem,e]
 rw[g0]at cg
 obtain⟨⟨hz0,hz1,_⟩,_,_⟩:=iw.1 g0
 generalize hm:qe g p=m
 have no:jz g.sz p=false→m=15:=fun h=>by rw[←hm];unfold qe;rw[if_neg (by simp[g0]),if_pos h]
 have yes:jz g.sz p=true→m=0:=fun h=>by rw[←hm];unfold qe;rw[if_neg (by simp[g0]),if_neg (by simp[h])]
 clear hm
 have w:IntKind.i64.wrap (g.sz - 1)=g.sz - 1:=by rw[ae]<;>omega
 simp only[go_sem]
 refine call cg [] ?_
 by_cases a1:p.se.length=0
 ·have hq:=no (by rw[jz,decide_eq_false (by omega)];rfl)
  have a1':(p.se.length:Int)=0:=by omega
  simp only[go_sem,a1']
  exact hq.symm
 have a1': ¬(p.se.length:Int)=0:=by omega
 simp only[go_sem,a1',w]
 refine call (akr p.se g.sz (g.sz - 1) rfl h1) [] ?_
 cases a2:kx p.se g.sz
 ·have hq:=no (by rw[jz,a2];simp)
  simp only[go_sem]
  exact hq.symm
 simp only[go_sem]
 refine call (dc p.ta.length 1 8) [] ?_
 cases a3:inB p.ta.length 1 8
 ·have a3:=of_decide_eq_false a3
  have hq:=no (by rw[jz,decide_eq_false (p:=1≤p.ta.length∧p.ta.length≤8∧1≤p.lv∧p.lv≤3) (by omega)];simp)
  simp only[go_sem]
  exact hq.symm
 have a3:=of_decide_eq_true a3
 simp only[go_sem]
 refine call (dc p.lv 1 3) [] ?_
 cases a4:inB p.lv 1 3
 ·have a4:=of_decide_eq_false a4
  have hq:=no (by rw[jz,decide_eq_false (p:=1≤p.ta.length∧p.ta.length≤8∧1≤p.lv∧p.lv≤3) (by omega)];simp)
  simp only[go_sem]
  exact hq.symm
 have a4:=of_decide_eq_true a4
 have hq:jz g.sz p=x6 (io p.ta) p.ta.length:=by rw[jz,decide_eq_true (p:=1≤p.ta.length∧p.ta.length≤8∧1≤p.lv∧p.lv≤3) (by omega),decide_eq_true (by omega),a2];rfl
 rw[hq]at no yes
 simp only[go_sem]
 refine loop Tryz.mixed 0 (fun i:Nat=>[(3,.ptr 3 0),(40,.vs (p.ta.map i1)),(41,.int .i64 p.ta.length),(42,.int .i64 i)]) (fun i=>[(3,.cells (pl p))]) (fun i=>i≤p.ta.length∧∀j,j<i→io p.ta j=true) (fun i=>p.ta.length - i) (by kernel_rfl) ?_ ?_ ?_
 ·simp
 ·simp only[go_sem]
 ·rintro i ⟨hi,hp⟩
  by_cases hi':i<p.ta.length
  ·have hlt:(i:Int)<(p.ta.length:Int):=by omega
   simp only[go_sem,hlt,hi']
   refine call (dc (el p.ta i) 1 1000) [] ?_
   cases b1:inB (el p.ta i) 1 1000
   ·have b1:=of_decide_eq_false b1
    have hq:io p.ta i=false:=decide_eq_false (by omega)
    simp only[go_sem]
    exact(no (dw hi' hq)).symm
   have b1:=of_decide_eq_true b1
   by_cases b3:0<i
   ·have b3':(0:Int)<(i:Int):=by omega
    have e1:IntKind.i64.wrap ((i:Int) - 1)=((i - 1:Nat):Int):=by rw[ae]<;>omega
    have e2:i - 1<p.ta.length:=by omega
    by_cases b4:el p.ta (i - 1)<el p.ta i
    ·have hq:io p.ta i=false:=decide_eq_false (by omega)
     simp only[go_sem,b3',e1,e2,b4]
     exact(no (dw hi' hq)).symm
    ·have hq:io p.ta i=true:=decide_eq_true (by omega)
     simp only[go_sem,b3',e1,e2,b4]
     exact⟨i+1,⟨⟨by omega,az hp hq⟩,by omega⟩,by rw[ae]<;>omega⟩
   ·have b3': ¬(0:Int)<(i:Int):=by omega
    have hq:io p.ta i=true:=decide_eq_true (by omega)
    simp only[go_sem,b3']
    exact⟨i+1,⟨⟨by omega,az hp hq⟩,by omega⟩,by rw[ae]<;>omega⟩
  ·have hf: ¬((i:Int)<(p.ta.length:Int)):=by omega
   have:i=p.ta.length:=by omega
   subst this
   simp only[go_sem,hf]
   exact(yes (lg hp)).symm
def inQ{α:Type}(q:α→Bool)(l:List α)(i:Nat):List α:=(l.take i).filter q
theorem pw{α:Type} [Inhabited α]{q:α→Bool}{l:List α}{i:Nat}(h:i<l.length):inQ q l (i+1)=inQ q l i++if q (el l i)=true then [el l i]else []:=by
 simp only[inQ,bm h,List.filter_append,List.filter_cons,List.filter_nil]
theorem ahb{α:Type}(q:α→Bool)(l:List α)(i:Nat):(inQ q l i).length≤i:=by
 refine Nat.le_trans (List.length_filter_le _ _) ?_
 rw[List.length_take];omega
theorem avr{α:Type} [Inhabited α]{q:α→Bool}{l:List α}{i:Nat}(h: ∀j,j<i→q (el l j)=true)(hi:i≤l.length):inQ q l i=l.take i:=by
 unfold inQ
 rw[List.filter_eq_self]
 intro k hk
 obtain⟨j,hj,e⟩:=List.mem_iff_getElem.1 hk
 have hj':j<i:=by simp at hj;omega
 rw[List.getElem_take]at e
 have e2:el l j=l[j]:=by simp[el,List.getD_eq_getElem?_getD,show j<l.length by omega]
 rw[←e,←e2]
 exact h j hj'
theorem a3q{α:Type} [Inhabited α](q:α→Bool)(l:List α):(∀k∈l,q k=true)∨∃k0,k0<l.length∧q (el l k0)=false∧∀j,j<k0→q (el l j)=true:=by
 have main: ∀n,n≤l.length→(∀j,j<n→q (el l j)=true)∨∃k0,k0<l.length∧q (el l k0)=false∧∀j,j<k0→q (el l j)=true:=fun n=>by
  induction n with
  |zero=>intro _;exact .inl fun j hj=>by omega
  |succ n ih=>
   intro hn
   rcases ih (by omega)with h|h
   ·cases hm:q (el l n)
    ·exact .inr ⟨n,by omega,hm,h⟩
    ·refine .inl fun j hj=> ?_
     rcases Nat.lt_succ_iff_lt_or_eq.1 hj with h1|rfl
     ·exact h j h1
     ·exact hm
   ·exact .inr h
 rcases main l.length (Nat.le_refl _)with h|h
 ·refine .inl fun k hk=> ?_
  obtain⟨i,hi,rfl⟩:=afx hk
  exact h i hi
 ·exact .inr h
def kj(D:List Int)(x:Int):Bool:=decide (0≤x∧x≤(D.length:Int) - 1)&& !decide (0≤el D x.toNat)
theorem ab9(x:Int)(D:List Int)(hD:D.length≤64):Den Tryz.prog 64 [.int .i64 x,.ptr 1000000 0] [.cells [.os 1000001 D.length],.arr 3 1 false (D.map i1)] (.bool (!kj D x)) [] [.cells [.os 1000001 D.length],.arr 3 1 false (D.map i1)]:=by
 refine qx Tryz.mixed Tryz.func64 rfl Tryz.call64 Tryz.ntmps64 (congrArg Array.toList Tryz.results64) (by simp) (by kernel_rfl) [] [] 1000000 1000001 [] (exts:=[1000000,1000001]) rfl rfl rfl rfl ?_
 have w:IntKind.i64.wrap ((D.length:Int) - 1)=(D.length:Int) - 1:=by rw[ae]<;>omega
 have ci:=dc x 0 ((D.length:Int) - 1)
 unfold kj
 simp only[go_sem,w]
 refine call ci [] ?_
 cases a1:inB x 0 ((D.length:Int) - 1)
 ·have a1':=of_decide_eq_false a1
  have e:decide (0≤x∧x≤(D.length:Int) - 1)=false:=decide_eq_false (by omega)
  simp only[go_sem,e]
  done
 ·have a1':=of_decide_eq_true a1
  have e:decide (0≤x∧x≤(D.length:Int) - 1)=true:=decide_eq_true (by omega)
  have h1:0≤x:=by omega
  have h2:x<(D.length:Int):=by omega
  have h3:x.toNat<D.length:=by omega
  simp only[go_sem,e,h1,h2,h3]
  rw[decide_eq_true a1'.2]
  simp
def lvB(lv:Int)(e:Ed):Bool:=decide (lv≤e.lv)
theorem aaz(e:Ed)(lv:Int):Den Tryz.prog 67 [.agg (edr e),.ptr 1000000 0] [.cells [.int .i64 lv]] (.bool (!lvB lv e)) [] [.cells [.int .i64 lv]]:=by
 refine aa Tryz.mixed Tryz.func67 rfl Tryz.call67 Tryz.ntmps67 (congrArg Array.toList Tryz.results67) (by simp) (by kernel_rfl) [] (exts:=[1000000]) rfl rfl ?_
 have h:(!lvB lv e)=decide (e.lv<lv):=by
  unfold lvB
  by_cases h:lv≤e.lv
  ·rw[decide_eq_true h,decide_eq_false (by omega)];rfl
  ·rw[decide_eq_false h,decide_eq_true (by omega)];rfl
 rw[h]
 simp only[go_sem]
def zJ:List PV:=[.int .i64 0]
theorem bc5:zJ=[PV.int .i64 0].map aab:=(rfl)
def zE:List PV:=[.int .i64 0,.int .i64 0,.int .i64 0]
theorem bcy:zE=[PV.int .i64 0,PV.int .i64 0,PV.int .i64 0].map aab:=(rfl)
theorem akb(l D:List Int)(hl:big l.length)(hD:D.length≤64)(h: ∀k∈l,kj D k=true):
  Den Tryz.prog 89 [.os 1000000 l.length,.fn 64 [.ptr 1000001 0]] [.arr 3 1 false (l.map i1),.cells [.os 1000002 D.length],.arr 3 1 false (D.map i1)] (.int .i64 (-1)) [] [.arr 3 1 false (l.map i1),.cells [.os 1000002 D.length],.arr 3 1 false (D.map i1)]:=by
 refine qx Tryz.mixed Tryz.func89 rfl Tryz.call89 Tryz.ntmps89 (congrArg Array.toList Tryz.results89) (by simp) (by kernel_rfl) [] [1000000] 1000001 1000002 [.arr 3 1 false (l.map i1)] (exts:=[1000000,1000001,1000002]) rfl rfl rfl rfl ?_
 simp only[go_sem]
 refine loop Tryz.mixed 0 (fun i:Nat=>[(0,.os 1000000 l.length),(1,.fn 64 [.ptr 1000001 0]),(7,.int .i64 l.length),(8,.int .i64 i)]) (fun _=>[(1000000,.arr 3 1 false (l.map i1)),(1000001,.cells [.os 1000002 D.length]),(1000002,.arr 3 1 false (D.map i1))]) (fun i=>i≤l.length) (fun i=>l.length - i) (by kernel_rfl) (Nat.zero_le _) ?_ ?_
 ·simp only[go_sem]
 ·intro i hi
  by_cases hlt:i<l.length
  ·have h1:(i:Int)<(l.length:Int):=by omega
   have c1:=ab9 (el l i) D hD
   rw[h _ (lc hlt)]at c1
   simp only[go_sem,h1,hlt]
   refine adq c1 [] [] [] 1000001 1000002 [1000001,1000002] rfl rfl rfl ?_
   simp only[go_sem]
   exact⟨i+1,⟨by omega,by omega⟩,by rw[ae]<;>omega⟩
  ·have h1: ¬(i:Int)<(l.length:Int):=by omega
   simp only[go_sem,h1]
theorem ajo(l D:List Int)(hl:big l.length)(hD:D.length≤64){k0:Nat}(h0:k0<l.length)(h1:kj D (el l k0)=false)(h: ∀j,j<k0→kj D (el l j)=true):
  Den Tryz.prog 89 [.os 1000000 l.length,.fn 64 [.ptr 1000001 0]] [.arr 3 1 false (l.map i1),.cells [.os 1000002 D.length],.arr 3 1 false (D.map i1)] (.int .i64 k0) [] [.arr 3 1 false (l.map i1),.cells [.os 1000002 D.length],.arr 3 1 false (D.map i1)]:=by
 refine qx Tryz.mixed Tryz.func89 rfl Tryz.call89 Tryz.ntmps89 (congrArg Array.toList Tryz.results89) (by simp) (by kernel_rfl) [] [1000000] 1000001 1000002 [.arr 3 1 false (l.map i1)] (exts:=[1000000,1000001,1000002]) rfl rfl rfl rfl ?_
 simp only[go_sem]
 refine loop Tryz.mixed 0 (fun i:Nat=>[(0,.os 1000000 l.length),(1,.fn 64 [.ptr 1000001 0]),(7,.int .i64 l.length),(8,.int .i64 i)]) (fun _=>[(1000000,.arr 3 1 false (l.map i1)),(1000001,.cells [.os 1000002 D.length]),(1000002,.arr 3 1 false (D.map i1))]) (fun i=>i≤k0) (fun i=>l.length - i) (by kernel_rfl) (Nat.zero_le _) ?_ ?_
 ·simp only[go_sem]
 ·intro i hi
  have hlt:i<l.length:=by omega
  have g1:(i:Int)<(l.length:Int):=by omega
  have c1:=ab9 (el l i) D hD
  by_cases hk:i<k0
  ·rw[h _ hk]at c1
   simp only[go_sem,g1,hlt]
   refine adq c1 [] [] [] 1000001 1000002 [1000001,1000002] rfl rfl rfl ?_
   simp only[go_sem]
   exact⟨i+1,⟨by omega,by omega⟩,by rw[ae]<;>omega⟩
  ·obtain rfl:i=k0:=by omega
   rw[h1]at c1
   simp only[go_sem,g1,hlt]
   refine adq c1 [] [] [] 1000001 1000002 [1000001,1000002] rfl rfl rfl ?_
   simp only[go_sem]
theorem aen(l D:List Int)(hl:big l.length)(hD:D.length≤64){k0:Nat}(h0:k0<l.length)(h1:kj D (el l k0)=false)(h: ∀j,j<k0→kj D (el l j)=true):
  Den Tryz.prog 63 [.os 1000000 l.length,.fn 64 [.ptr 1000001 0]] [.arr 3 1 false (l.map i1),.cells [.os 1000002 D.length],.arr 3 1 false (D.map i1)] (.vs ((inQ (kj D) l l.length).map i1)) [] [.arr 3 1 true ((inQ (kj D) l l.length).map i1++List.replicate (l.length - (inQ (kj D) l l.length).length) zJ),.cells [.os 1000002 D.length],.arr 3 1 false (D.map i1)]:=by
 refine qx Tryz.mixed Tryz.func63 rfl Tryz.call63 Tryz.ntmps63 (congrArg Array.toList Tryz.results63) (by simp) (by kernel_rfl) [] [1000000] 1000001 1000002 [.arr 3 1 true ((inQ (kj D) l l.length).map i1++List.replicate (l.length - (inQ (kj D) l l.length).length) zJ)] (exts:=[1000000,1000001,1000002]) rfl rfl rfl rfl ?_
 have ci:=ajo l D hl hD h0 h1 h
 have hm1: ¬(k0:Int)= -1:=by omega
 have hw0:IntKind.i64.wrap ((k0:Int)+1)=((k0+1:Nat):Int):=by rw[ae]<;>omega
 have hk0:inQ (kj D) l (k0+1)=l.take k0:=by
  rw[pw h0,h1,if_neg (by simp),List.append_nil,avr h (by omega)]
 have hk1:(l.take k0).length=k0:=by rw[List.length_take];omega
 simp only[go_sem]
 refine adq ci [.arr 3 1 false (l.map i1)] [.arr 3 1 false (l.map i1)] [1000000] 1000001 1000002 [1000000,1000001,1000002] rfl rfl rfl ?_
 simp only[go_sem,hm1,hw0]
 refine⟨⟨rfl,Nat.le_refl _⟩,?_⟩
 refine qq Tryz.mixed (k0+1,l) (fun s:Nat×List Int=>[(0,.os 1000000 l.length),(1,.fn 64 [.ptr 1000001 0]),(5,.int .i64 (inQ (kj D) l s.1).length),(6,.int .i64 s.1)]) (fun s=>[(1000000,.arh 3 1 (s.2.map i1)),(1000001,.cells [.os 1000002 D.length]),(1000002,.arr 3 1 false (D.map i1))])
  (fun s=>k0<s.1∧s.1≤l.length∧s.2.length=l.length∧(inQ (kj D) l s.1).length<s.1∧s.2.take (inQ (kj D) l s.1).length=inQ (kj D) l s.1∧∀a,(inQ (kj D) l s.1).length≤a→el s.2 a=el l a) (fun s=>l.length - s.1) (by kernel_rfl) ⟨Nat.lt_succ_self _,h0,rfl,by rw[hk0,hk1];exact Nat.lt_succ_self _,by rw[hk0,hk1],fun a _=>rfl⟩ ?_ ?_
 ·refine Cv.trans (Cv.opn (n:=1000000) (by rfl)) (Cv.wk ?_)
  have hin:=aw [1000000,1000001,1000002] i1 (fun _=>rfl) l
  simp only[go_sem,hin,hk0,hk1]
 ·rintro⟨j,L⟩ ⟨j1,j2,j3,j4,j5,j6⟩
  simp only at j1 j2 j3 j4 j5 j6
  simp only
  by_cases hlt:j<l.length
  ·have g1:(j:Int)<(l.length:Int):=by omega
   have hsu:=pw (q:=kj D) hlt
   have e1:el L j=el l j:=j6 _ (by omega)
   have g2:j<L.length:=by omega
   have c1:=ab9 (el l j) D hD
   generalize inQ (kj D) l j=o at*
   cases hd:kj D (el l j)with
   |false=>
    rw[hd,if_neg (by simp),List.append_nil]at hsu
    rw[hd]at c1
    simp only[go_sem,g1,g2,hlt,j3,e1]
    refine adq c1 [] [] [] 1000001 1000002 [1000001,1000002] rfl rfl rfl ?_
    simp only[go_sem]
    refine⟨(j+1,L),⟨⟨by simp only;omega,by simp only;omega,j3,?_,?_,?_⟩,by simp only;omega⟩,Cv.wk ?_⟩
    ·show(inQ (kj D) l (j+1)).length<_
     rw[hsu];simp only;omega
    ·show L.take (inQ (kj D) l (j+1)).length=inQ (kj D) l (j+1)
     rw[hsu];exact j5
    ·intro a ha
     have ha':(inQ (kj D) l (j+1)).length≤a:=ha
     rw[hsu]at ha'
     exact j6 a ha'
    ·have hin:=aw [1000000,1000001,1000002] i1 (fun _=>rfl) L
     simp only[go_sem,hsu,hin]
     rw[ae]<;>omega
   |true=>
    rw[hd,if_pos rfl]at hsu
    rw[hd]at c1
    have g8:o.length<l.length:=by omega
    have g9:o.length<L.length:=by omega
    simp only[go_sem,g1,g2,g8,g9,hlt,j3,e1]
    refine adq c1 [] [] [] 1000001 1000002 [1000001,1000002] rfl rfl rfl ?_
    simp only[go_sem,g1,g2,g8,g9,hlt,j3,e1]
    refine⟨(j+1,L.set o.length (el l j)),⟨⟨by simp only;omega,by simp only;omega,by simp only[List.length_set];exact j3,?_,?_,?_⟩,by simp only;omega⟩,Cv.wk ?_⟩
    ·show(inQ (kj D) l (j+1)).length<_
     rw[hsu,List.length_append,List.length_singleton];simp only;omega
    ·show(L.set o.length (el l j)).take (inQ (kj D) l (j+1)).length=inQ (kj D) l (j+1)
     rw[hsu];exact pj (by omega) j5
    ·intro a ha
     have ha':(inQ (kj D) l (j+1)).length≤a:=ha
     rw[hsu,List.length_append,List.length_singleton]at ha'
     show el (L.set o.length _) a=_
     rw[ad7 (by omega)]
     exact j6 a (by omega)
    ·have hin:=aw [1000000,1000001,1000002] i1 (fun _=>rfl) (L.set o.length (el l j))
     have hset:(L.map i1).set o.length [PV.int .i64 (el l j)]=(L.set o.length (el l j)).map i1:=by rw[List.map_set];rfl
     have hol:(o++[el l j]).length=o.length+1:=by simp
     simp only[go_sem,hsu,hset,hin,hol]
     exact⟨by rw[ae]<;>omega,by rw[ae]<;>omega⟩
  ·have hend:j=l.length:=by omega
   subst hend
   generalize hO:inQ (kj D) l l.length=o at*
   have g2: ¬(l.length:Int)<(l.length:Int):=by omega
   have g3:(o.length:Int)≤(l.length:Int):=by omega
   have htk:(L.map i1).take o.length=o.map i1:=by rw[←List.map_take,j5]
   have hpu: ∀σ,iu σ (o.map i1++List.replicate (l.length - o.length) zJ)=some (o.map i1++List.replicate (l.length - o.length) zJ,[]):=fun σ=>kz fun x hx=>by
    rcases List.mem_append.1 hx with hx|hx
    ·obtain⟨c,_,rfl⟩:=List.mem_map.1 hx
     rfl
    ·rw[List.eq_of_mem_replicate hx]
     rfl
   have g5:(o.map i1++List.replicate (l.length - o.length) zJ).length=l.length:=by simp;omega
   have g6:(o.map i1++List.replicate (l.length - o.length) zJ).take o.length=o.map i1:=by simp
   have g7:o.length<l.length:=by omega
   have g8:o.length≤l.length:=by omega
   simp only[go_sem,g2,j3]
   refine ku _ _ ?_
   simp only[go_sem,g2,g3,j3,htk,g7,g8,←bc5,hpu,g5,g6]
theorem aeo(l D:List Int)(hl:big l.length)(hD:D.length≤64)(h: ∀k∈l,kj D k=true):
  Den Tryz.prog 63 [.os 1000000 l.length,.fn 64 [.ptr 1000001 0]] [.arr 3 1 false (l.map i1),.cells [.os 1000002 D.length],.arr 3 1 false (D.map i1)] (.os 1000000 l.length) [] [.arr 3 1 false (l.map i1),.cells [.os 1000002 D.length],.arr 3 1 false (D.map i1)]:=by
 refine qx Tryz.mixed Tryz.func63 rfl Tryz.call63 Tryz.ntmps63 (congrArg Array.toList Tryz.results63) (by simp) (by kernel_rfl) [] [1000000] 1000001 1000002 [.arr 3 1 false (l.map i1)] (exts:=[1000000,1000001,1000002]) rfl rfl rfl rfl ?_
 have ci:=akb l D hl hD h
 simp only[go_sem]
 refine adq ci [.arr 3 1 false (l.map i1)] [.arr 3 1 false (l.map i1)] [1000000] 1000001 1000002 [1000000,1000001,1000002] rfl rfl rfl ?_
 simp only[go_sem]
 exact⟨rfl,Nat.le_refl _⟩
theorem ah4(l D:List Int)(hl:big l.length)(hD:D.length≤64):
  ∃new,new.length=l.length∧Den Tryz.prog 63 [.os 1000000 l.length,.fn 64 [.ptr 1000001 0]] [.arr 3 1 false (l.map i1),.cells [.os 1000002 D.length],.arr 3 1 false (D.map i1)] (.vs ((l.filter (kj D)).map i1)) [] [.arr 3 1 true new,.cells [.os 1000002 D.length],.arr 3 1 false (D.map i1)]:=by
 have e:inQ (kj D) l l.length=l.filter (kj D):=by rw[inQ,List.take_length]
 rcases a3q (kj D) l with h|⟨k0,h0,h1,h2⟩
 ·have e2:(l.filter (kj D))=l:=List.filter_eq_self.2 fun k hk=>h k hk
  rw[e2]
  exact⟨_,by simp,(aeo l D hl hD h).vsE (by simp)⟩
 ·rw[←e]
  exact⟨_,by have:=ahb (kj D) l l.length;simp;omega,aen l D hl hD h0 h1 h2⟩
theorem ah9(l:List Ed)(lv:Int)(hl:big l.length)(h: ∀k∈l,lvB lv k=true):
  Den Tryz.prog 92 [.os 1000000 l.length,.fn 67 [.ptr 1000001 0]] [.arr 36 3 false (l.map edr),.cells [.int .i64 lv]] (.int .i64 (-1)) [] [.arr 36 3 false (l.map edr),.cells [.int .i64 lv]]:=by
 refine aa Tryz.mixed Tryz.func92 rfl Tryz.call92 Tryz.ntmps92 (congrArg Array.toList Tryz.results92) (by simp) (by kernel_rfl) [] (exts:=[1000000,1000001]) rfl rfl ?_
 simp only[go_sem]
 refine loop Tryz.mixed 0 (fun i:Nat=>[(0,.os 1000000 l.length),(1,.fn 67 [.ptr 1000001 0]),(7,.int .i64 l.length),(8,.int .i64 i)]) (fun _=>[(1000000,.arr 36 3 false (l.map edr)),(1000001,.cells [.int .i64 lv])]) (fun i=>i≤l.length) (fun i=>l.length - i) (by kernel_rfl) (Nat.zero_le _) ?_ ?_
 ·simp only[go_sem]
 ·intro i hi
  by_cases hlt:i<l.length
  ·have h1:(i:Int)<(l.length:Int):=by omega
   have c1:=aaz (el l i) lv
   rw[ik]at c1
   rw[h _ (lc hlt)]at c1
   simp only[go_sem,h1,hlt]
   refine call c1 [1000001] ?_
   simp only[go_sem]
   exact⟨i+1,⟨by omega,by omega⟩,by rw[ae]<;>omega⟩
  ·have h1: ¬(i:Int)<(l.length:Int):=by omega
   simp only[go_sem,h1]
theorem ah1(l:List Ed)(lv:Int)(hl:big l.length){k0:Nat}(h0:k0<l.length)(h1:lvB lv (el l k0)=false)(h: ∀j,j<k0→lvB lv (el l j)=true):
  Den Tryz.prog 92 [.os 1000000 l.length,.fn 67 [.ptr 1000001 0]] [.arr 36 3 false (l.map edr),.cells [.int .i64 lv]] (.int .i64 k0) [] [.arr 36 3 false (l.map edr),.cells [.int .i64 lv]]:=by
 refine aa Tryz.mixed Tryz.func92 rfl Tryz.call92 Tryz.ntmps92 (congrArg Array.toList Tryz.results92) (by simp) (by kernel_rfl) [] (exts:=[1000000,1000001]) rfl rfl ?_
 simp only[go_sem]
 refine loop Tryz.mixed 0 (fun i:Nat=>[(0,.os 1000000 l.length),(1,.fn 67 [.ptr 1000001 0]),(7,.int .i64 l.length),(8,.int .i64 i)]) (fun _=>[(1000000,.arr 36 3 false (l.map edr)),(1000001,.cells [.int .i64 lv])]) (fun i=>i≤k0) (fun i=>l.length - i) (by kernel_rfl) (Nat.zero_le _) ?_ ?_
 ·simp only[go_sem]
 ·intro i hi
  have hlt:i<l.length:=by omega
  have g1:(i:Int)<(l.length:Int):=by omega
  have c1:=aaz (el l i) lv
  rw[ik]at c1
  by_cases hk:i<k0
  ·rw[h _ hk]at c1
   simp only[go_sem,g1,hlt]
   refine call c1 [1000001] ?_
   simp only[go_sem]
   exact⟨i+1,⟨by omega,by omega⟩,by rw[ae]<;>omega⟩
  ·obtain rfl:i=k0:=by omega
   rw[h1]at c1
   simp only[go_sem,g1,hlt]
   refine call c1 [1000001] ?_
   simp only[go_sem]
theorem adl(l:List Ed)(lv:Int)(hl:big l.length){k0:Nat}(h0:k0<l.length)(h1:lvB lv (el l k0)=false)(h: ∀j,j<k0→lvB lv (el l j)=true):
  Den Tryz.prog 66 [.os 1000000 l.length,.fn 67 [.ptr 1000001 0]] [.arr 36 3 false (l.map edr),.cells [.int .i64 lv]] (.vs ((inQ (lvB lv) l l.length).map edr)) [] [.arr 36 3 true ((inQ (lvB lv) l l.length).map edr++List.replicate (l.length - (inQ (lvB lv) l l.length).length) zE),.cells [.int .i64 lv]]:=by
 refine aa Tryz.mixed Tryz.func66 rfl Tryz.call66 Tryz.ntmps66 (congrArg Array.toList Tryz.results66) (by simp) (by kernel_rfl) [] (exts:=[1000000,1000001]) rfl rfl ?_
 have ci:=ah1 l lv hl h0 h1 h
 have hm1: ¬(k0:Int)= -1:=by omega
 have hw0:IntKind.i64.wrap ((k0:Int)+1)=((k0+1:Nat):Int):=by rw[ae]<;>omega
 have hk0:inQ (lvB lv) l (k0+1)=l.take k0:=by
  rw[pw h0,h1,if_neg (by simp),List.append_nil,avr h (by omega)]
 have hk1:(l.take k0).length=k0:=by rw[List.length_take];omega
 simp only[go_sem]
 refine call ci [1000000,1000001] ?_
 simp only[go_sem,hm1,hw0]
 refine⟨Nat.le_refl _,?_⟩
 refine qq Tryz.mixed (k0+1,l) (fun s:Nat×List Ed=>[(0,.os 1000000 l.length),(1,.fn 67 [.ptr 1000001 0]),(5,.int .i64 (inQ (lvB lv) l s.1).length),(6,.int .i64 s.1)]) (fun s=>[(1000000,.arh 36 3 (s.2.map edr)),(1000001,.cells [.int .i64 lv])])
  (fun s=>k0<s.1∧s.1≤l.length∧s.2.length=l.length∧(inQ (lvB lv) l s.1).length<s.1∧s.2.take (inQ (lvB lv) l s.1).length=inQ (lvB lv) l s.1∧∀a,(inQ (lvB lv) l s.1).length≤a→el s.2 a=el l a) (fun s=>l.length - s.1) (by kernel_rfl) ⟨Nat.lt_succ_self _,h0,rfl,by rw[hk0,hk1];exact Nat.lt_succ_self _,by rw[hk0,hk1],fun a _=>rfl⟩ ?_ ?_
 ·refine Cv.trans (Cv.opn (n:=1000000) (by rfl)) (Cv.wk ?_)
  have hin:=aw [1000000,1000001] edr (fun _=>rfl) l
  simp only[go_sem,hin,hk0,hk1]
 ·rintro⟨j,L⟩ ⟨j1,j2,j3,j4,j5,j6⟩
  simp only at j1 j2 j3 j4 j5 j6
  simp only
  by_cases hlt:j<l.length
  ·have g1:(j:Int)<(l.length:Int):=by omega
   have hsu:=pw (q:=lvB lv) hlt
   have e1:el L j=el l j:=j6 _ (by omega)
   have g2:j<L.length:=by omega
   have c1:=aaz (el l j) lv
   rw[ik]at c1
   generalize inQ (lvB lv) l j=o at*
   cases hd:lvB lv (el l j)with
   |false=>
    rw[hd,if_neg (by simp),List.append_nil]at hsu
    rw[hd]at c1
    simp only[go_sem,g1,g2,hlt,j3,e1]
    refine call c1 [1000001] ?_
    simp only[go_sem]
    refine⟨(j+1,L),⟨⟨by simp only;omega,by simp only;omega,j3,?_,?_,?_⟩,by simp only;omega⟩,Cv.wk ?_⟩
    ·show(inQ (lvB lv) l (j+1)).length<_
     rw[hsu];simp only;omega
    ·show L.take (inQ (lvB lv) l (j+1)).length=inQ (lvB lv) l (j+1)
     rw[hsu];exact j5
    ·intro a ha
     have ha':(inQ (lvB lv) l (j+1)).length≤a:=ha
     rw[hsu]at ha'
     exact j6 a ha'
    ·have hin:=aw [1000000,1000001] edr (fun _=>rfl) L
     simp only[go_sem,hsu,hin]
     rw[ae]<;>omega
   |true=>
    rw[hd,if_pos rfl]at hsu
    rw[hd]at c1
    have g8:o.length<l.length:=by omega
    have g9:o.length<L.length:=by omega
    simp only[go_sem,g1,g2,g8,g9,hlt,j3,e1]
    refine call c1 [1000001] ?_
    simp only[go_sem,g1,g2,g8,g9,hlt,j3,e1]
    refine⟨(j+1,L.set o.length (el l j)),⟨⟨by simp only;omega,by simp only;omega,by simp only[List.length_set];exact j3,?_,?_,?_⟩,by simp only;omega⟩,Cv.wk ?_⟩
    ·show(inQ (lvB lv) l (j+1)).length<_
     rw[hsu,List.length_append,List.length_singleton];simp only;omega
    ·show(L.set o.length (el l j)).take (inQ (lvB lv) l (j+1)).length=inQ (lvB lv) l (j+1)
     rw[hsu];exact pj (by omega) j5
    ·intro a ha
     have ha':(inQ (lvB lv) l (j+1)).length≤a:=ha
     rw[hsu,List.length_append,List.length_singleton]at ha'
     show el (L.set o.length _) a=_
     rw[ad7 (by omega)]
     exact j6 a (by omega)
    ·have hin:=aw [1000000,1000001] edr (fun _=>rfl) (L.set o.length (el l j))
     have hset:(L.map edr).set o.length [PV.int .i64 (el l j).fr,PV.int .i64 (el l j).to,PV.int .i64 (el l j).lv]=(L.set o.length (el l j)).map edr:=by rw[List.map_set];rfl
     have hol:(o++[el l j]).length=o.length+1:=by simp
     simp only[go_sem,hsu,hset,hin,hol]
     exact⟨by rw[ae]<;>omega,by rw[ae]<;>omega⟩
  ·have hend:j=l.length:=by omega
   subst hend
   generalize hO:inQ (lvB lv) l l.length=o at*
   have g2: ¬(l.length:Int)<(l.length:Int):=by omega
   have g3:(o.length:Int)≤(l.length:Int):=by omega
   have htk:(L.map edr).take o.length=o.map edr:=by rw[←List.map_take,j5]
   have hpu: ∀σ,iu σ (o.map edr++List.replicate (l.length - o.length) zE)=some (o.map edr++List.replicate (l.length - o.length) zE,[]):=fun σ=>kz fun x hx=>by
    rcases List.mem_append.1 hx with hx|hx
    ·obtain⟨c,_,rfl⟩:=List.mem_map.1 hx
     rfl
    ·rw[List.eq_of_mem_replicate hx]
     rfl
   have g5:(o.map edr++List.replicate (l.length - o.length) zE).length=l.length:=by simp;omega
   have g6:(o.map edr++List.replicate (l.length - o.length) zE).take o.length=o.map edr:=by simp
   have g7:o.length<l.length:=by omega
   have g8:o.length≤l.length:=by omega
   simp only[go_sem,g2,j3]
   refine ku _ _ ?_
   simp only[go_sem,g2,g3,j3,htk,g7,g8,←bcy,hpu,g5,g6]
theorem aey(l:List Ed)(lv:Int)(hl:big l.length)(h: ∀k∈l,lvB lv k=true):
  Den Tryz.prog 66 [.os 1000000 l.length,.fn 67 [.ptr 1000001 0]] [.arr 36 3 false (l.map edr),.cells [.int .i64 lv]] (.os 1000000 l.length) [] [.arr 36 3 false (l.map edr),.cells [.int .i64 lv]]:=by
 refine aa Tryz.mixed Tryz.func66 rfl Tryz.call66 Tryz.ntmps66 (congrArg Array.toList Tryz.results66) (by simp) (by kernel_rfl) [] (exts:=[1000000,1000001]) rfl rfl ?_
 have ci:=ah9 l lv hl h
 simp only[go_sem]
 refine call ci [1000000,1000001] ?_
 simp only[go_sem]
 exact Nat.le_refl _
theorem ahw(l:List Ed)(lv:Int)(hl:big l.length):
  ∃new,new.length=l.length∧Den Tryz.prog 66 [.os 1000000 l.length,.fn 67 [.ptr 1000001 0]] [.arr 36 3 false (l.map edr),.cells [.int .i64 lv]] (.vs ((l.filter (lvB lv)).map edr)) [] [.arr 36 3 true new,.cells [.int .i64 lv]]:=by
 have e:inQ (lvB lv) l l.length=l.filter (lvB lv):=by rw[inQ,List.take_length]
 rcases a3q (lvB lv) l with h|⟨k0,h0,h1,h2⟩
 ·have e2:(l.filter (lvB lv))=l:=List.filter_eq_self.2 fun k hk=>h k hk
  rw[e2]
  exact⟨_,by simp,(aey l lv hl h).vsE (by simp)⟩
 ·rw[←e]
  exact⟨_,by have:=ahb (lvB lv) l l.length;simp;omega,adl l lv hl h0 h1 h2⟩
theorem aqr(l:List Ed)(h0:0<l.length)(hl:l.length≤1000000):Den Tryz.prog 90 [.vs (l.map edr)] [] (.os 0 l.length) [.arr 36 3 false (l.map edr)] []:=by
 refine aa Tryz.mixed Tryz.func90 rfl Tryz.call90 Tryz.ntmps90 (congrArg Array.toList Tryz.results90) (by simp) (by kernel_rfl) [5] (exts:=[]) rfl rfl ?_
 simp only[go_sem,h0]
 omega
theorem ahy(b:Bool):Den Tryz.prog 90 [.sn b] [] (.vs []) [] []:=by
 refine aa Tryz.mixed Tryz.func90 rfl Tryz.call90 Tryz.ntmps90 (congrArg Array.toList Tryz.results90) (by simp) (by kernel_rfl) [] (exts:=[]) rfl rfl ?_
 cases b
 ·simp only[go_sem]
 ·simp only[go_sem]
theorem ait(b:Bool):Den Tryz.prog 91 [.sn b] [] (.vs []) [] []:=by
 refine aa Tryz.mixed Tryz.func91 rfl Tryz.call91 Tryz.ntmps91 (congrArg Array.toList Tryz.results91) (by simp) (by kernel_rfl) [] (exts:=[]) rfl rfl ?_
 cases b
 ·simp only[go_sem]
 ·simp only[go_sem]
theorem ap0(l:List Int)(h0:0<l.length)(hl:l.length≤1000000):Den Tryz.prog 91 [.vs (l.map i1)] [] (.vs (l.map i1)) [] []:=by
 refine aa Tryz.mixed Tryz.func91 rfl Tryz.call91 Tryz.ntmps91 (congrArg Array.toList Tryz.results91) (by simp) (by kernel_rfl) [] (exts:=[]) rfl rfl ?_
 simp only[go_sem,h0]
 omega
theorem zr(l:List Int)(hl:l.length≤1000000):Den Tryz.prog 91 [.vs (l.map i1)] [] (.vs (l.map i1)) [] []:=by
 cases l with
 |nil=>exact ul [] fun b=>ait b
 |cons a l=>exact ap0 _ (by simp) hl
theorem aqq(g:Gr)(h0:0<g.ed.length)(h1:g.ed.length≤1000)(h2:g.gone.length≤1000):Den Tryz.prog 65 [.agg (gr g)] [] (.ago [.int .i64 g.sz,.os 0 g.ed.length,.vs (g.gone.map i1)]) [.arr 36 3 false (g.ed.map edr)] []:=by
 refine aa Tryz.mixed Tryz.func65 rfl Tryz.call65 Tryz.ntmps65 (congrArg Array.toList Tryz.results65) (by simp) (by kernel_rfl) [7] (exts:=[]) rfl rfl ?_
 simp only[go_sem]
 refine call (aqr g.ed h0 (by omega)) [] ?_
 simp only[go_sem]
 refine call (zr g.gone (by omega)) [] ?_
 simp only[go_sem]
 exact ag (by kernel_rfl)
theorem aj9(sz:Int)(gone:List Int)(h2:gone.length≤1000):Den Tryz.prog 65 [.agg [.int .i64 sz,.vs [],.vs (gone.map i1)]] [] (.agg [.int .i64 sz,.vs [],.vs (gone.map i1)]) [] []:=by
 refine aa Tryz.mixed Tryz.func65 rfl Tryz.call65 Tryz.ntmps65 (congrArg Array.toList Tryz.results65) (by simp) (by kernel_rfl) [] (exts:=[]) rfl rfl ?_
 have c0:Den Tryz.prog 90 [.vs []] [] (.vs []) [] []:=ul [] fun b=>ahy b
 simp only[go_sem]
 refine call c0 [] ?_
 simp only[go_sem]
 refine call (zr gone (by omega)) [] ?_
 simp only[go_sem]
 exact ag (by kernel_rfl)
theorem ahs(lv:Int)(f:List PV):Den Tryz.prog 92 [.vs [],.fn 67 [.ptr 1000000 0]] [.cells [.int .i64 lv]] (.int .i64 (-1)) [] [.cells [.int .i64 lv]]:=by
 refine aa Tryz.mixed Tryz.func92 rfl Tryz.call92 Tryz.ntmps92 (congrArg Array.toList Tryz.results92) (by simp) (by kernel_rfl) [] (exts:=[1000000]) rfl rfl ?_
 simp only[go_sem]
 refine loop Tryz.mixed 0 (fun i:Nat=>[(7,.int .i64 0),(8,.int .i64 0)]) (fun _=>[(1000000,.cells [.int .i64 lv])]) (fun _=>True) (fun i=>0) (by kernel_rfl) trivial ?_ ?_
 ·simp only[go_sem]
 ·intro i _
  simp only[go_sem]
theorem aed(lv:Int):Den Tryz.prog 66 [.vs [],.fn 67 [.ptr 1000000 0]] [.cells [.int .i64 lv]] (.vs []) [] [.cells [.int .i64 lv]]:=by
 refine aa Tryz.mixed Tryz.func66 rfl Tryz.call66 Tryz.ntmps66 (congrArg Array.toList Tryz.results66) (by simp) (by kernel_rfl) [] (exts:=[1000000]) rfl rfl ?_
 simp only[go_sem]
 refine call (ahs lv []) [1000000] ?_
 simp only[go_sem]
theorem a4p(g:Gr)(lv:Int)(h1:g.ed.length≤1000)(h2:g.gone.length≤1000):Den Tryz.prog 30 [.agg (gr g),.int .i64 lv] [] (.agg (gr (gn g lv))) [] []:=by
 refine aa Tryz.mixed Tryz.func30 rfl Tryz.call30 Tryz.ntmps30 (congrArg Array.toList Tryz.results30) (by simp) (by kernel_rfl) [] (exts:=[]) rfl rfl ?_
 by_cases h0:0<g.ed.length
 ·have c1:=aqq g h0 h1 h2
  obtain⟨new,hn,c2⟩:=ahw g.ed lv (by simp only[big];omega)
  have e:g.ed.filter (lvB lv)=(gn g lv).ed:=rfl
  rw[e]at c2
  have e2:(gn g lv).sz=g.sz:=rfl
  have e3:(gn g lv).gone=g.gone:=rfl
  rw[f9]at c1
  generalize hE:(gn g lv).ed=E at*
  simp only[go_sem]
  refine call c1 [] ?_
  simp only[go_sem]
  refine call c2 [7,3] ?_
  simp only[go_sem,e2,e3,hE]
  omega
 ·have e:g.ed=[]:=List.eq_nil_of_length_eq_zero (by omega)
  have e1:(gn g lv).ed=[]:=by unfold gn;rw[e];rfl
  have e2:(gn g lv).sz=g.sz:=rfl
  have e3:(gn g lv).gone=g.gone:=rfl
  have c1:=aj9 g.sz g.gone h2
  simp only[go_sem,e]
  refine call c1 [] ?_
  simp only[go_sem]
  refine call (aed lv) [3] ?_
  simp only[go_sem,e1,e2,e3]
theorem y3(g:Gr)(h1:g.ed.length≤1000)(h2:g.gone.length≤1000):Den Tryz.prog 54 [.agg (gr g)] [] (.agg (gr g)) [] []:=by
 refine aa Tryz.mixed Tryz.func54 rfl Tryz.call54 Tryz.ntmps54 (congrArg Array.toList Tryz.results54) (by simp) (by kernel_rfl) [] (exts:=[]) rfl rfl ?_
 simp only[go_sem]
 exact⟨by omega,by omega,ag (by kernel_rfl)⟩
end Go.Proofs.Am
