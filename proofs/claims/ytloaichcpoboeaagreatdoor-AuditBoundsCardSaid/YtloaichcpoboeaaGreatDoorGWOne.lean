/- GWOne. -/
import Derived.Test.YtloaichcpoboeaaGreatDoorGAOne
import Derived.Test.YtloaichcpoboeaaGreatDoorCOne
import Derived.Test.YtloaichcpoboeaaGreatDoorBTwo
import Derived.Test.YtloaichcpoboeaaGreatDoorCThree
import Derived.Test.YtloaichcpoboeaaGreatDoorEOne
import Derived.Test.YtloaichcpoboeaaGreatDoorZOne
import Derived.Test.YtloaichcpoboeaaGreatDoorBOne
set_option maxHeartbeats 1000000
set_option maxRecDepth 100000
set_option linter.unusedSimpArgs false
set_option linter.unusedVariables false
namespace Go.Proofs.Am
open Go Go.RowKit
open Go.Proofs
theorem dl{α:Type} [Inhabited α]{l:List α}{i:Nat}(h:i<l.length):el l i∈l:=by
 rw[el,aw,a8 h];exact List.getElem_mem h
def edr(e:Ed):List PV:=[.int .i64 e.fr,.int .i64 e.to,.int .i64 e.lv]
theorem kz(e:Ed):edr e=[.int .i64 e.fr,.int .i64 e.to,.int .i64 e.lv]:=(rfl)
def gr(g:Gr):List PV:=[.int .i64 g.sz,.vs (g.ed.map edr),.vs (g.gone.map i1)]
theorem dv(g:Gr):gr g=[.int .i64 g.sz,.vs (g.ed.map edr),.vs (g.gone.map i1)]:=(rfl)
attribute [go_sem] kz dv
def oy(a b:Ed):Bool:=decide (a.fr<b.fr\/a.fr=b.fr/\a.to<b.to)
def a1i(g:Gr)(i:Nat):Bool:=decide ((0<=(el g.ed i).fr/\(el g.ed i).fr<g.sz)/\(0<=(el g.ed i).to/\(el g.ed i).to<g.sz)/\(el g.ed i).fr≠(el g.ed i).to/\(1<=(el g.ed i).lv/\(el g.ed i).lv<=3)/\(0<i->oy (el g.ed (i - 1)) (el g.ed i)=true)/\(el g.ed i).fr∉g.gone/\(el g.ed i).to∉g.gone)
def bh(g:Gr):Bool:=decide (0<=g.sz/\g.sz<=64/\g.ed.length<=500)&&(kr g.gone g.sz&&aaf (a1i g) g.ed.length)
def i9(n:Int)(p:Pol):Bool:=decide (0<p.se.length)&&(kr p.se n&&(decide (1<=p.ta.length/\p.ta.length<=8/\1<=p.lv/\p.lv<=3)&&aaf (jc p.ta) p.ta.length))
def qr(g:Gr)(p:Pol):Int:=if bh g=false then 14 else if i9 g.sz p=false then 15 else 0
def bz(g:Gr)(lv:Int):Gr:=⟨g.sz,g.ed.filter fun e=>decide (lv<=e.lv),g.gone⟩
def ae8(g:Gr)(k:Int):List Int:=(g.ed.filter fun e=>decide (e.fr=k)).map (·.to)
def a15(K:List Int)(n:Int):Bool:=kr K n&&decide (K.length<=16)
def alv(g:Gr)(p:Pol)(K:List Int):Int×Int:=if qr g p≠0 then(0,qr g p)else if a15 K g.sz=false then(0,4)else(yy (bg (bz g p.lv) p.se) g.gone p.ta K,0)
theorem qk{p:Nat->Bool}{n:Nat}:aaf p n=true↔∀i,i<n->p i=true:=by unfold aaf;simp
theorem ig{g:Gr}:bh g=true↔(0<=g.sz/\g.sz<=64/\g.ed.length<=500)/\kr g.gone g.sz=true/\∀i,i<g.ed.length->a1i g i=true:=by
 unfold bh;rw[Bool.and_eq_true,Bool.and_eq_true,decide_eq_true_iff,qk]
theorem adc{g:Gr}{i:Nat}:a1i g i=true↔(0<=(el g.ed i).fr/\(el g.ed i).fr<g.sz)/\(0<=(el g.ed i).to/\(el g.ed i).to<g.sz)/\(el g.ed i).fr≠(el g.ed i).to/\(1<=(el g.ed i).lv/\(el g.ed i).lv<=3)/\(0<i->oy (el g.ed (i - 1)) (el g.ed i)=true)/\(el g.ed i).fr∉g.gone/\(el g.ed i).to∉g.gone:=decide_eq_true_iff
theorem apl{g:Gr}(h:bh g=true)(lv:Int):OkE (bz g lv):=by
 obtain⟨⟨h0,_,_⟩,_,h3⟩:=ig.1 h;refine⟨h0,fun e he=> ?_⟩;have he:=(List.mem_filter.1 he).1;obtain⟨i,hi,rfl⟩:=List.mem_iff_getElem.1 he;have:=adc.1 (h3 i hi);have e1:el g.ed i=g.ed[i]:=by simp[el,aw,hi]
 rw[e1]at this;exact⟨this.1,this.2.1⟩
theorem c7{l:List Int}{n:Int}:kr l n=true↔(∀x∈l,0<=x/\x<n)/\l.Pairwise (· < ·):=by
 unfold kr;rw[qk];constructor
 ·intro h
  have hk: ∀i,(hi:i<l.length)->0<=l[i]/\l[i]<n/\(0<i->el l (i - 1)<l[i]):=fun i hi=>by
   have:=of_decide_eq_true (h i hi);have e1:el l i=l[i]:=by simp[el,aw,hi]
   rwa [e1]at this
  refine⟨fun x hx=> ?_,?_⟩
  ·obtain⟨i,hi,rfl⟩:=List.mem_iff_getElem.1 hx;have:=hk i hi;omega
  ·rw[List.pairwise_iff_getElem]
   have key: ∀(d i:Nat) (h1:i<l.length) (h2:i+d+1<l.length),l[i]<l[i+d+1]:=fun d=>by
    induction d with
    |zero=>
     intro i h1 h2;have:=(hk (i+1) h2).2.2 (by omega);have e1:el l (i+1 - 1)=l[i]:=by simp[el,aw,h1]
     rw[e1]at this
     exact this
    |succ d ih=>
     intro i h1 h2;have a:=ih i h1 (by omega);have:=(hk (i+(d+1)+1) h2).2.2 (by omega)
     have e1:el l (i+(d+1)+1 - 1)=l[i+d+1]:=by
      have:i+(d+1)+1 - 1=i+d+1:=by omega
      rw[this];have h3:i+d+1<l.length:=by omega
      simp[el,aw,h3]
     rw[e1]at this;omega
   intro i j hi hj hij;obtain⟨d,rfl⟩: ∃d,j=i+d+1:=⟨j - i - 1,by omega⟩;exact key d i hi hj
 ·rintro⟨h1,h2⟩ i hi;refine decide_eq_true ?_;have e1:el l i=l[i]:=by simp[el,aw,hi]
  rw[e1];have:=h1 _ (List.getElem_mem hi);refine⟨this.1,this.2,fun h0=> ?_⟩;have h3:i - 1<l.length:=by omega
  have e2:el l (i - 1)=l[i - 1]:=by simp[el,aw,h3]
  rw[e2];exact List.pairwise_iff_getElem.1 h2 (i - 1) i h3 hi (by omega)
theorem adp{n:Int}{p:Pol}(h:i9 n p=true):OkTa p.ta:=by
 unfold i9 at h;simp only[Bool.and_eq_true,decide_eq_true_eq]at h;obtain⟨_,_,h1,h2⟩:=h;have h2:=qk.1 h2;have hk: ∀i,i<p.ta.length->1<=el p.ta i/\el p.ta i<=1000/\(0<i->el p.ta i<=el p.ta (i - 1)):=fun i hi=>of_decide_eq_true (h2 i hi);refine⟨by omega,fun c hc=> ?_,fun i j hij hj=> ?_⟩
 ·obtain⟨i,hi,rfl⟩:=List.mem_iff_getElem.1 hc;have:=(hk i hi).1;have e1:el p.ta i=p.ta[i]:=by simp[el,aw,hi]
  rwa [e1]at this
 ·induction hij with
  |refl=>omega
  | @step m hm ih=>
   have a:=ih (by omega);have b:=(hk (m+1) hj).2.2 (by omega);rw[Nat.add_sub_cancel]at b;show el p.ta (m+1)<=_;omega
theorem aqu(l:List Int)(n m:Int)(hm:m=n - 1)(hl:big l.length):Den Tryz.prog 56 [.vs (l.map i1),.int .i64 0,.int .i64 m] [] (.bool (kr l n)) [] []:=by
 refine aa Tryz.func56 rfl Tryz.call56 Tryz.ntmps56 Tryz.results56 (by simp) (by kernel_rfl) [] (exts:=[]) rfl rfl ?_;generalize hq:kr l n=q;have hbad:kr l n=false->q=false:=fun h=>by rw[<-hq];exact h
 have hgood:kr l n=true->q=true:=fun h=>by rw[<-hq];exact h
 simp only[go_sem];refine loop Tryz.mixed 0 (fun i:Nat=>[(0,.vs (l.map i1)),(1,.int .i64 0),(2,.int .i64 m),(9,.vs (l.map i1)),(10,.int .i64 l.length),(11,.int .i64 i)]) (fun i=>[]) (fun i=>i<=l.length/\∀j,j<i->iq n l j=true) (fun i=>l.length - i) (by kernel_rfl) ?_ ?_ ?_
 ·simp
 ·simp only[go_sem]
 ·rintro i ⟨hi,hp⟩;by_cases hi':i<l.length
  ·have hlt:(i:Int)<(l.length:Int):=by omega
   by_cases a1:el l i<0
   ·have hq:iq n l i=false:=decide_eq_false (by omega);simp only[go_sem,hlt,hi',a1];exact(hbad (fe hi' hq)).symm
   by_cases a2:m<el l i
   ·have hq:iq n l i=false:=decide_eq_false (by omega);simp only[go_sem,hlt,hi',a1,a2];exact(hbad (fe hi' hq)).symm
   by_cases a3:0<i
   ·have a3':(0:Int)<(i:Int):=by omega
    have e1:IntKind.i64.wrap ((i:Int) - 1)=((i - 1:Nat):Int):=by rw[ae]<;>omega
    have e2:i - 1<l.length:=by omega
    by_cases a4:el l i<=el l (i - 1)
    ·have hq:iq n l i=false:=decide_eq_false (by omega);simp only[go_sem,hlt,hi',a1,a2,a3',e1,e2,a4];exact(hbad (fe hi' hq)).symm
    ·have hq:iq n l i=true:=decide_eq_true (by omega);simp only[go_sem,hlt,hi',a1,a2,a3',e1,e2,a4];exact⟨i+1,⟨⟨by omega,br hp hq⟩,by omega⟩,by rw[ae]<;>omega⟩
   ·have a3': ¬(0:Int)<(i:Int):=by omega
    have hq:iq n l i=true:=decide_eq_true (by omega);simp only[go_sem,hlt,hi',a1,a2,a3'];exact⟨i+1,⟨⟨by omega,br hp hq⟩,by omega⟩,by rw[ae]<;>omega⟩
  ·have hf: ¬((i:Int)<(l.length:Int)):=by omega
   have:i=l.length:=by omega
   subst this;simp only[go_sem,hf];exact(hgood (ng hp)).symm
theorem a4f(p:Pol)(d:Int):Den Tryz.prog 37 [.agg (pl p),.int .i64 d] [] (.int .i64 (kw p.ta d)) [] []:=by
 refine aa Tryz.func37 rfl Tryz.call37 Tryz.ntmps37 Tryz.results37 (by simp) (by kernel_rfl) [] (exts:=[]) rfl rfl ?_;by_cases h0:d<0
 ·have e:kw p.ta d=0:=if_pos h0;simp only[go_sem,h0,e]
 by_cases h1:d<(p.ta.length:Int)
 ·have e:kw p.ta d=el p.ta d.toNat:=by unfold kw;rw[if_neg h0,if_pos h1]
  have h2:0<=d:=by omega
  have h3:d.toNat<p.ta.length:=by omega
  simp only[go_sem,h0,h1,h2,h3,e]
 ·have e:kw p.ta d=1:=by unfold kw;rw[if_neg h0,if_neg h1]
  simp only[go_sem,h0,h1,e]
theorem a2z(p:Pol)(d:Int):Den Tryz.prog 33 [.agg (pl p),.int .i64 d] [] (.int .i64 (kw p.ta d)) [] []:=by
 refine aa Tryz.func33 rfl Tryz.call33 Tryz.ntmps33 Tryz.results33 (by simp) (by kernel_rfl) [] (exts:=[]) rfl rfl ?_;by_cases h0:d<0
 ·have e:kw p.ta d=0:=if_pos h0;simp only[go_sem,h0,e]
 by_cases h1:d<(p.ta.length:Int)
 ·have e:kw p.ta d=el p.ta d.toNat:=by unfold kw;rw[if_neg h0,if_pos h1]
  have h2:0<=d:=by omega
  have h3:d.toNat<p.ta.length:=by omega
  simp only[go_sem,h0,h1,h2,h3,e]
 ·have e:kw p.ta d=1:=by unfold kw;rw[if_neg h0,if_neg h1]
  simp only[go_sem,h0,h1,e]
theorem aif(l:List Int)(k:Int)(hl:big l.length):Den Tryz.prog 44 [.vs (l.map i1),.int .i64 k] [] (.bool (decide (k∈l))) [] []:=by
 refine aa Tryz.func44 rfl Tryz.call44 Tryz.ntmps44 Tryz.results44 (by simp) (by kernel_rfl) [] (exts:=[]) rfl rfl ?_;simp only[go_sem];refine loop (by kernel_rfl) 0 (fun i:Nat=>[(0,.vs (l.map i1)),(1,.int .i64 k),(5,.int .i64 i)]) (fun _=>[]) (fun i=>i<=l.length/\∀j,j<i->el l j≠k) (fun i=>l.length - i) (by kernel_rfl) ?_ ?_ ?_
 ·simp
 ·simp only[go_sem]
 ·intro i ⟨hi,hn⟩;simp only[go_sem];refine⟨fun h=>⟨by omega,fun e=> ?_,fun e=>⟨i+1,⟨⟨by omega,fun j hj=> ?_⟩,by omega⟩,?_⟩⟩,fun h=> ?_⟩
  ·rw[<-e];simp[ix h]
  ·rcases Nat.lt_succ_iff_lt_or_eq.1 hj with h'|h'
   ·exact hn j h'
   ·rw[h'];exact e
  ·rw[ae]<;>omega
  ·simp[m5 (by omega) hn]
theorem bf9(a b:Ed):Den Tryz.prog 43 [.agg (edr a),.agg (edr b)] [] (.bool (oy a b)) [] []:=by
 refine aa Tryz.func43 rfl Tryz.call43 Tryz.ntmps43 Tryz.results43 (by simp) (by kernel_rfl) [] (exts:=[]) rfl rfl ?_;by_cases h1:a.fr<b.fr
 ·have e:oy a b=true:=decide_eq_true (.inl h1);simp only[go_sem,h1,e]
 by_cases h2:a.fr=b.fr
 ·by_cases h3:a.to<b.to
  ·have e:oy a b=true:=decide_eq_true (.inr ⟨h2,h3⟩);have h4: ¬b.fr<b.fr:=by omega
   simp only[go_sem,h1,h2,h3,h4,e]
  ·have e:oy a b=false:=decide_eq_false (by omega);have h4: ¬b.fr<b.fr:=by omega
   simp only[go_sem,h1,h2,h3,h4,e]
 ·have e:oy a b=false:=decide_eq_false (by omega);simp only[go_sem,h1,h2,e]
theorem ac5(g:Gr)(h1:big g.ed.length)(h2:big g.gone.length):Den Tryz.prog 17 [.agg (gr g)] [] (.int .i64 (if bh g=true then 0 else 14)) [] []:=by
 refine aa Tryz.func17 rfl Tryz.call17 Tryz.ntmps17 Tryz.results17 (by simp) (by kernel_rfl) [] (exts:=[]) rfl rfl ?_;generalize hm:(if bh g=true then(0:Int)else 14)=m;have no:bh g=false->m=14:=fun h=>by rw[<-hm,h];rfl
 have yes:bh g=true->m=0:=fun h=>by rw[<-hm,h];rfl
 clear hm;by_cases a1:g.sz<0
 ·have hq:=no (by unfold bh;rw[decide_eq_false (by omega)];rfl);simp only[go_sem,a1,hq]
 by_cases a2:64<g.sz
 ·have hq:=no (by unfold bh;rw[decide_eq_false (by omega)];rfl);simp only[go_sem,a1,a2,hq]
 by_cases a3:(500:Int)<(g.ed.length:Int)
 ·have hq:=no (by unfold bh;rw[decide_eq_false (by omega)];rfl);simp only[go_sem,a1,a2,a3,hq]
 simp only[go_sem,a1,a2,a3];refine call (bdt g.gone g.sz h2) [] ?_
 cases a4:kr g.gone g.sz
 ·have hq:=no (by unfold bh;rw[a4];simp);simp only[go_sem,hq]
 have hq:bh g=aaf (a1i g) g.ed.length:=by unfold bh;rw[a4,decide_eq_true (by omega)];rfl
 rw[hq]at no yes;simp only[go_sem];refine loop Tryz.mixed 0 (fun i:Nat=>[(1,.ptr 1 0),(3,.int .i64 i)]) (fun i=>[(1,.cells (gr g))]) (fun i=>i<=g.ed.length/\∀j,j<i->a1i g j=true) (fun i=>g.ed.length - i) (by kernel_rfl) ?_ ?_ ?_
 ·simp
 ·simp only[go_sem]
 ·rintro i ⟨hi,hp⟩;by_cases hi':i<g.ed.length
  rotate_left
  ·have hf: ¬((i:Int)<(g.ed.length:Int)):=by omega
   have:i=g.ed.length:=by omega
   subst this;have hq:=yes (ng hp);simp only[go_sem,hf,hq]
  have hlt:(i:Int)<(g.ed.length:Int):=by omega
  have bad:a1i g i=false->m=14:=fun h=>no (fe hi' h);by_cases b1:(el g.ed i).fr<0
  ·have hq:=bad (decide_eq_false (by omega));simp only[go_sem,hlt,hi',b1,hq]
  by_cases b2:g.sz<=(el g.ed i).fr
  ·have hq:=bad (decide_eq_false (by omega));simp only[go_sem,hlt,hi',b1,b2,hq]
  by_cases b3:(el g.ed i).to<0
  ·have hq:=bad (decide_eq_false (by omega));simp only[go_sem,hlt,hi',b1,b2,b3,hq]
  by_cases b4:g.sz<=(el g.ed i).to
  ·have hq:=bad (decide_eq_false (by omega));simp only[go_sem,hlt,hi',b1,b2,b3,b4,hq]
  by_cases b5:(el g.ed i).fr=(el g.ed i).to
  ·have hq:=bad (decide_eq_false fun h=>h.2.2.1 b5);have b1': ¬(el g.ed i).to<0:=b3;have b2': ¬g.sz<=(el g.ed i).to:=b4;simp only[go_sem,hlt,hi',b1,b2,b3,b4,b5,hq]
  by_cases b6:(el g.ed i).lv<1
  ·have hq:=bad (decide_eq_false (by omega));simp only[go_sem,hlt,hi',b1,b2,b3,b4,b5,b6,hq]
  by_cases b7:3<(el g.ed i).lv
  ·have hq:=bad (decide_eq_false (by omega));simp only[go_sem,hlt,hi',b1,b2,b3,b4,b5,b6,b7,hq]
  have cF:=aif g.gone (el g.ed i).fr h2;have cT:=aif g.gone (el g.ed i).to h2;have fin:(0<i->oy (el g.ed (i - 1)) (el g.ed i)=true)->(el g.ed i).fr∉g.gone->(el g.ed i).to∉g.gone->a1i g i=true:=fun q1 q2 q3=>decide_eq_true ⟨⟨by omega,by omega⟩,⟨by omega,by omega⟩,b5,⟨by omega,by omega⟩,q1,q2,q3⟩;by_cases b8:0<i
  ·have b8':(0:Int)<(i:Int):=by omega
   have e1:IntKind.i64.wrap ((i:Int) - 1)=((i - 1:Nat):Int):=by rw[ae]<;>omega
   have e2:i - 1<g.ed.length:=by omega
   have cB:=bf9 (el g.ed (i - 1)) (el g.ed i);rw[kz,kz]at cB;simp only[go_sem,hlt,hi',b1,b2,b3,b4,b5,b6,b7,b8',e1,e2];refine call cB [] ?_
   cases b9:oy (el g.ed (i - 1)) (el g.ed i)
   ·have hq:=bad (decide_eq_false fun h=>by have:=h.2.2.2.2.1 b8;rw[b9]at this;cases this);simp only[go_sem,hq];exact ag (by kernel_rfl)
   simp only[go_sem];refine call cF [] ?_;by_cases c1:(el g.ed i).fr∈g.gone
   ·have hq:=bad (decide_eq_false fun h=>h.2.2.2.2.2.1 c1);simp only[go_sem,c1,hq];exact ag (by kernel_rfl)
   simp only[go_sem,c1];refine call cT [] ?_;by_cases c2:(el g.ed i).to∈g.gone
   ·have hq:=bad (decide_eq_false fun h=>h.2.2.2.2.2.2 c2);simp only[go_sem,c2,hq];exact ag (by kernel_rfl)
   simp only[go_sem,c2];exact⟨ag (by kernel_rfl),i+1,⟨⟨by omega,br hp (fin (fun _=>b9) c1 c2)⟩,by omega⟩,by rw[ae]<;>omega⟩
  ·have b8': ¬(0:Int)<(i:Int):=by omega
   simp only[go_sem,hlt,hi',b1,b2,b3,b4,b5,b6,b7,b8'];refine call cF [] ?_;by_cases c1:(el g.ed i).fr∈g.gone
   ·have hq:=bad (decide_eq_false fun h=>h.2.2.2.2.2.1 c1);simp only[go_sem,c1,hq];exact ag (by kernel_rfl)
   simp only[go_sem,c1];refine call cT [] ?_;by_cases c2:(el g.ed i).to∈g.gone
   ·have hq:=bad (decide_eq_false fun h=>h.2.2.2.2.2.2 c2);simp only[go_sem,c2,hq];exact ag (by kernel_rfl)
   simp only[go_sem,c2];exact⟨ag (by kernel_rfl),i+1,⟨⟨by omega,br hp (fin (fun h=>absurd h b8) c1 c2)⟩,by omega⟩,by rw[ae]<;>omega⟩
def bi2(a b:Ed):Int:=orL [gv a.fr b.fr,gv a.to b.to]
theorem a6q(a b:Ed):Den Tryz.prog 86 [.agg (edr a),.agg (edr b)] [] (.int .i64 (bi2 a b)) [] []:=by
 refine aa Tryz.func86 rfl Tryz.call86 Tryz.ntmps86 Tryz.results86 (by simp) (by kernel_rfl) [] (exts:=[]) rfl rfl ?_;have co:=yo [gv a.fr b.fr,gv a.to b.to] (by simp[big]);simp only[go_sem];refine call (eb a.fr b.fr) [] ?_;simp only[go_sem];refine call (eb a.to b.to) [] ?_;simp only[go_sem];refine call co [] ?_;simp only[go_sem];exact⟨ag (by kernel_rfl),rfl⟩
theorem aq2(a b:Ed):0<=bi2 a b↔oy a b=false:=by
 unfold bi2 gv oy;rw[decide_eq_false_iff_not];simp only[orL];split<;>split<;>(try split)<;>(try split)<;>(try split)<;>omega
def bgd(g:Gr)(e:Ed):Bool:=decide ((0<=e.fr/\e.fr<g.sz)/\(0<=e.to/\e.to<g.sz)/\e.fr≠e.to/\e.fr∉g.gone/\e.to∉g.gone)
theorem a4c(g:Gr)(e:Ed)(hs:0<=g.sz/\g.sz<=64)(h2:big g.gone.length):Den Tryz.prog 85 [.agg (gr g),.agg (edr e)] [] (.bool (bgd g e)) [] []:=by
 refine aa Tryz.func85 rfl Tryz.call85 Tryz.ntmps85 Tryz.results85 (by simp) (by kernel_rfl) [] (exts:=[]) rfl rfl ?_;have w:IntKind.i64.wrap (g.sz - 1)=g.sz - 1:=by rw[ae]<;>omega
 generalize hm:bgd g e=m;have no:bgd g e=false->m=false:=fun h=>by rw[<-hm,h]
 have yes:bgd g e=true->m=true:=fun h=>by rw[<-hm,h]
 clear hm;simp only[go_sem,w];refine call (d5 e.fr 0 (g.sz - 1)) [] ?_
 cases a1:inB e.fr 0 (g.sz - 1)
 ·have a1:=of_decide_eq_false a1;have hq:=no (decide_eq_false (by omega));simp only[go_sem,hq]
 have a1:=of_decide_eq_true a1;simp only[go_sem,w];refine call (d5 e.to 0 (g.sz - 1)) [] ?_
 cases a2:inB e.to 0 (g.sz - 1)
 ·have a2:=of_decide_eq_false a2;have hq:=no (decide_eq_false (by omega));simp only[go_sem,hq]
 have a2:=of_decide_eq_true a2;by_cases a3:e.fr=e.to
 ·have hq:=no (decide_eq_false fun h=>h.2.2.1 a3);simp only[go_sem,a3,hq]
 simp only[go_sem,a3];refine call (f9 g.gone e.fr h2) [] ?_;by_cases a4:e.fr∈g.gone
 ·have hq:=no (decide_eq_false fun h=>h.2.2.2.1 a4);simp only[go_sem,a4,hq]
 simp only[go_sem,a4];refine call (f9 g.gone e.to h2) [] ?_;by_cases a5:e.to∈g.gone
 ·have hq:=no (decide_eq_false fun h=>h.2.2.2.2 a5);simp only[go_sem,a5,hq]
 have hq:=yes (decide_eq_true ⟨⟨by omega,by omega⟩,⟨by omega,by omega⟩,a3,a4,a5⟩);simp only[go_sem,a5,hq]
theorem aup(g:Gr)(h1:big g.ed.length)(h2:big g.gone.length):Den Tryz.prog 55 [.agg (gr g)] [] (.int .i64 (if bh g=true then 0 else 14)) [] []:=by
 refine aa Tryz.func55 rfl Tryz.call55 Tryz.ntmps55 Tryz.results55 (by simp) (by kernel_rfl) [] (exts:=[]) rfl rfl ?_;generalize hm:(if bh g=true then(0:Int)else 14)=m;have no:bh g=false->m=14:=fun h=>by rw[<-hm,h];rfl
 have yes:bh g=true->m=0:=fun h=>by rw[<-hm,h];rfl
 clear hm;simp only[go_sem];refine call (d5 g.sz 0 64) [] ?_
 cases a1:inB g.sz 0 64
 ·have a1:=of_decide_eq_false a1;have hq:=no (by unfold bh;rw[decide_eq_false (by omega)];rfl);simp only[go_sem,hq]
 have a1:=of_decide_eq_true a1;have w:IntKind.i64.wrap (g.sz - 1)=g.sz - 1:=by rw[ae]<;>omega
 by_cases a3:(500:Int)<(g.ed.length:Int)
 ·have hq:=no (by unfold bh;rw[decide_eq_false (by omega)];rfl);simp only[go_sem,a3,hq]
 simp only[go_sem,a3,w];refine call (aqu g.gone g.sz (g.sz - 1) rfl h2) [] ?_
 cases a4:kr g.gone g.sz
 ·have hq:=no (by unfold bh;rw[a4];simp);simp only[go_sem,hq]
 have hq:bh g=aaf (a1i g) g.ed.length:=by unfold bh;rw[a4,decide_eq_true (by omega)];rfl
 rw[hq]at no yes;simp only[go_sem];refine loop Tryz.mixed 0 (fun i:Nat=>[(1,.ptr 1 0),(25,.vs (g.ed.map edr)),(26,.int .i64 g.ed.length),(27,.int .i64 i)]) (fun i=>[(1,.cells (gr g))]) (fun i=>i<=g.ed.length/\∀j,j<i->a1i g j=true) (fun i=>g.ed.length - i) (by kernel_rfl) ?_ ?_ ?_
 ·simp
 ·simp only[go_sem]
 ·rintro i ⟨hi,hp⟩;by_cases hi':i<g.ed.length
  rotate_left
  ·have hf: ¬((i:Int)<(g.ed.length:Int)):=by omega
   have:i=g.ed.length:=by omega
   subst this;have hq:=yes (ng hp);simp only[go_sem,hf,hq]
  have hlt:(i:Int)<(g.ed.length:Int):=by omega
  have bad:a1i g i=false->m=14:=fun h=>no (fe hi' h);have cf:=a4c g (el g.ed i) (by omega) h2;rw[dv,kz]at cf;simp only[go_sem,hlt,hi'];refine call cf [] ?_
  cases b1:bgd g (el g.ed i)
  ·have hq:=bad (decide_eq_false fun h=>by
    have:=of_decide_eq_false b1;exact this ⟨h.1,h.2.1,h.2.2.1,h.2.2.2.2.2⟩)
   simp only[go_sem,hq];exact ag (by kernel_rfl)
  have b1:=of_decide_eq_true b1;simp only[go_sem];refine call (d5 (el g.ed i).lv 1 3) [] ?_
  cases b2:inB (el g.ed i).lv 1 3
  ·have b2:=of_decide_eq_false b2;have hq:=bad (decide_eq_false fun h=>by have:=h.2.2.2.1;omega);simp only[go_sem,hq];exact ag (by kernel_rfl)
  have b2:=of_decide_eq_true b2;have fin:(0<i->oy (el g.ed (i - 1)) (el g.ed i)=true)->a1i g i=true:=fun q1=>decide_eq_true ⟨b1.1,b1.2.1,b1.2.2.1,by omega,q1,b1.2.2.2⟩;by_cases b8:0<i
  ·have b8':(0:Int)<(i:Int):=by omega
   have e1:IntKind.i64.wrap ((i:Int) - 1)=((i - 1:Nat):Int):=by rw[ae]<;>omega
   have e2:i - 1<g.ed.length:=by omega
   have cB:=a6q (el g.ed (i - 1)) (el g.ed i);rw[kz,kz]at cB;simp only[go_sem,b8',e1,e2];refine call cB [] ?_;by_cases b9:0<=bi2 (el g.ed (i - 1)) (el g.ed i)
   ·have hq:=bad (decide_eq_false fun h=>by have:=h.2.2.2.2.1 b8;rw[(aq2 _ _).1 b9]at this;cases this);simp only[go_sem,b9,hq];exact ag (by kernel_rfl)
   ·have b9':oy (el g.ed (i - 1)) (el g.ed i)=true:=by
     cases hb:oy (el g.ed (i - 1)) (el g.ed i)with
     |true=>rfl
     |false=>exact absurd ((aq2 _ _).2 hb) b9
    simp only[go_sem,b9];exact⟨ag (by kernel_rfl),i+1,⟨⟨by omega,br hp (fin fun _=>b9')⟩,by omega⟩,by rw[ae]<;>omega⟩
  ·have b8': ¬(0:Int)<(i:Int):=by omega
   simp only[go_sem,b8'];exact⟨ag (by kernel_rfl),i+1,⟨⟨by omega,br hp (fin fun h=>absurd h b8)⟩,by omega⟩,by rw[ae]<;>omega⟩
theorem aln(g:Gr)(p:Pol)(h1:big p.se.length)(h2:big p.ta.length):Den Tryz.prog 69 [.agg (gr g),.agg (pl p)] [] (.bool (i9 g.sz p)) [] []:=by
 refine aa Tryz.func69 rfl Tryz.call69 Tryz.ntmps69 Tryz.results69 (by simp) (by kernel_rfl) [] (exts:=[]) rfl rfl ?_;generalize hm:i9 g.sz p=m;by_cases a1:p.se.length=0
 ·have hq:i9 g.sz p=false:=by rw[i9,decide_eq_false (by omega)];rfl
  have a1':(p.se.length:Int)=0:=by omega
  rw[hq]at hm;simp only[go_sem,a1'];exact hm
 have a1': ¬(p.se.length:Int)=0:=by omega
 simp only[go_sem,a1'];refine call (bdt p.se g.sz h1) [] ?_
 cases a2:kr p.se g.sz
 ·have hq:i9 g.sz p=false:=by rw[i9,a2];simp
  rw[hq]at hm;simp only[go_sem];exact hm
 by_cases a3:(p.ta.length:Int)<1
 ·have hq:i9 g.sz p=false:=by rw[i9,decide_eq_false (p:=1<=p.ta.length/\p.ta.length<=8/\1<=p.lv/\p.lv<=3) (by omega)];simp
  rw[hq]at hm;simp only[go_sem,a3];exact hm
 by_cases a4:(8:Int)<(p.ta.length:Int)
 ·have hq:i9 g.sz p=false:=by rw[i9,decide_eq_false (p:=1<=p.ta.length/\p.ta.length<=8/\1<=p.lv/\p.lv<=3) (by omega)];simp
  rw[hq]at hm;simp only[go_sem,a3,a4];exact hm
 by_cases a5:p.lv<1
 ·have hq:i9 g.sz p=false:=by rw[i9,decide_eq_false (p:=1<=p.ta.length/\p.ta.length<=8/\1<=p.lv/\p.lv<=3) (by omega)];simp
  rw[hq]at hm;simp only[go_sem,a3,a4,a5];exact hm
 by_cases a6:3<p.lv
 ·have hq:i9 g.sz p=false:=by rw[i9,decide_eq_false (p:=1<=p.ta.length/\p.ta.length<=8/\1<=p.lv/\p.lv<=3) (by omega)];simp
  rw[hq]at hm;simp only[go_sem,a3,a4,a5,a6];exact hm
 have hq:i9 g.sz p=aaf (jc p.ta) p.ta.length:=by rw[i9,decide_eq_true (p:=1<=p.ta.length/\p.ta.length<=8/\1<=p.lv/\p.lv<=3) (by omega),decide_eq_true (by omega),a2];rfl
 rw[hq]at hm;have hbad:aaf (jc p.ta) p.ta.length=false->m=false:=fun h=>by rw[<-hm];exact h
 have hgood:aaf (jc p.ta) p.ta.length=true->m=true:=fun h=>by rw[<-hm];exact h
 simp only[go_sem,a3,a4,a5,a6];refine loop Tryz.mixed 0 (fun i:Nat=>[(3,.ptr 3 0),(5,.int .i64 i)]) (fun i=>[(3,.cells (pl p))]) (fun i=>i<=p.ta.length/\∀j,j<i->jc p.ta j=true) (fun i=>p.ta.length - i) (by kernel_rfl) ?_ ?_ ?_
 ·simp
 ·simp only[go_sem]
 ·rintro i ⟨hi,hp⟩;by_cases hi':i<p.ta.length
  ·have hlt:(i:Int)<(p.ta.length:Int):=by omega
   by_cases b1:el p.ta i<1
   ·have hq:jc p.ta i=false:=decide_eq_false (by omega);simp only[go_sem,hlt,hi',b1];exact⟨ag (by kernel_rfl),(hbad (fe hi' hq)).symm⟩
   by_cases b2:1000<el p.ta i
   ·have hq:jc p.ta i=false:=decide_eq_false (by omega);simp only[go_sem,hlt,hi',b1,b2];exact⟨ag (by kernel_rfl),(hbad (fe hi' hq)).symm⟩
   by_cases b3:0<i
   ·have b3':(0:Int)<(i:Int):=by omega
    have e1:IntKind.i64.wrap ((i:Int) - 1)=((i - 1:Nat):Int):=by rw[ae]<;>omega
    have e2:i - 1<p.ta.length:=by omega
    by_cases b4:el p.ta (i - 1)<el p.ta i
    ·have hq:jc p.ta i=false:=decide_eq_false (by omega);simp only[go_sem,hlt,hi',b1,b2,b3',e1,e2,b4];exact⟨ag (by kernel_rfl),(hbad (fe hi' hq)).symm⟩
    ·have hq:jc p.ta i=true:=decide_eq_true (by omega);simp only[go_sem,hlt,hi',b1,b2,b3',e1,e2,b4];exact⟨ag (by kernel_rfl),i+1,⟨⟨by omega,br hp hq⟩,by omega⟩,by rw[ae]<;>omega⟩
   ·have b3': ¬(0:Int)<(i:Int):=by omega
    have hq:jc p.ta i=true:=decide_eq_true (by omega);simp only[go_sem,hlt,hi',b1,b2,b3'];exact⟨ag (by kernel_rfl),i+1,⟨⟨by omega,br hp hq⟩,by omega⟩,by rw[ae]<;>omega⟩
  ·have hf: ¬((i:Int)<(p.ta.length:Int)):=by omega
   have:i=p.ta.length:=by omega
   subst this;simp only[go_sem,hf];exact(hgood (ng hp)).symm
theorem a2v(g:Gr)(p:Pol)(g1:big g.ed.length)(g2:big g.gone.length)(h1:big p.se.length)(h2:big p.ta.length):Den Tryz.prog 34 [.agg (gr g),.agg (pl p)] [] (.int .i64 (qr g p)) [] []:=by
 refine aa Tryz.func34 rfl Tryz.call34 Tryz.ntmps34 Tryz.results34 (by simp) (by kernel_rfl) [] (exts:=[]) rfl rfl ?_;have cg:=ac5 g g1 g2;have cp:=aln g p h1 h2;rw[dv]at cg cp;rw[mt]at cp;generalize hm:qr g p=m;unfold qr at hm
 cases a1:bh g
 ·rw[if_pos a1]at hm;rw[a1]at cg;simp only[go_sem];refine call cg [] ?_;simp only[go_sem,<-hm]
 rw[if_neg (by simp[a1])]at hm;rw[a1]at cg;simp only[go_sem];refine call cg [] ?_;simp only[go_sem];refine call cp [] ?_
 cases a2:i9 g.sz p
 ·rw[if_pos a2]at hm;simp only[go_sem,<-hm]
 ·rw[if_neg (by simp[a2])]at hm;simp only[go_sem,<-hm]
theorem a5y(g:Gr)(p:Pol)(g1:big g.ed.length)(g2:big g.gone.length)(h1:big p.se.length)(h2:big p.ta.length):Den Tryz.prog 27 [.agg (gr g),.agg (pl p)] [] (.int .i64 (qr g p)) [] []:=by
 refine aa Tryz.func27 rfl Tryz.call27 Tryz.ntmps27 Tryz.results27 (by simp) (by kernel_rfl) [] (exts:=[]) rfl rfl ?_;have cg:=aup g g1 g2;by_cases g0:bh g=true
 rotate_left
 ·have g0:bh g=false:=by simpa using g0
  have e:qr g p=14:=if_pos g0;rw[g0]at cg;simp only[go_sem];refine call cg [] ?_;simp only[go_sem,e]
 rw[g0]at cg;obtain⟨⟨hz0,hz1,_⟩,_,_⟩:=ig.1 g0;generalize hm:qr g p=m;have no:i9 g.sz p=false->m=15:=fun h=>by rw[<-hm];unfold qr;rw[if_neg (by simp[g0]),if_pos h]
 have yes:i9 g.sz p=true->m=0:=fun h=>by rw[<-hm];unfold qr;rw[if_neg (by simp[g0]),if_neg (by simp[h])]
 clear hm;have w:IntKind.i64.wrap (g.sz - 1)=g.sz - 1:=by rw[ae]<;>omega
 simp only[go_sem];refine call cg [] ?_;by_cases a1:p.se.length=0
 ·have hq:=no (by rw[i9,decide_eq_false (by omega)];rfl);have a1':(p.se.length:Int)=0:=by omega
  simp only[go_sem,a1'];exact hq.symm
 have a1': ¬(p.se.length:Int)=0:=by omega
 simp only[go_sem,a1',w];refine call (aqu p.se g.sz (g.sz - 1) rfl h1) [] ?_
 cases a2:kr p.se g.sz
 ·have hq:=no (by rw[i9,a2];simp);simp only[go_sem];exact hq.symm
 simp only[go_sem];refine call (d5 p.ta.length 1 8) [] ?_
 cases a3:inB p.ta.length 1 8
 ·have a3:=of_decide_eq_false a3;have hq:=no (by rw[i9,decide_eq_false (p:=1<=p.ta.length/\p.ta.length<=8/\1<=p.lv/\p.lv<=3) (by omega)];simp);simp only[go_sem];exact hq.symm
 have a3:=of_decide_eq_true a3;simp only[go_sem];refine call (d5 p.lv 1 3) [] ?_
 cases a4:inB p.lv 1 3
 ·have a4:=of_decide_eq_false a4;have hq:=no (by rw[i9,decide_eq_false (p:=1<=p.ta.length/\p.ta.length<=8/\1<=p.lv/\p.lv<=3) (by omega)];simp);simp only[go_sem];exact hq.symm
 have a4:=of_decide_eq_true a4;have hq:i9 g.sz p=aaf (jc p.ta) p.ta.length:=by rw[i9,decide_eq_true (p:=1<=p.ta.length/\p.ta.length<=8/\1<=p.lv/\p.lv<=3) (by omega),decide_eq_true (by omega),a2];rfl
 rw[hq]at no yes;simp only[go_sem];refine loop Tryz.mixed 0 (fun i:Nat=>[(3,.ptr 3 0),(40,.vs (p.ta.map i1)),(41,.int .i64 p.ta.length),(42,.int .i64 i)]) (fun i=>[(3,.cells (pl p))]) (fun i=>i<=p.ta.length/\∀j,j<i->jc p.ta j=true) (fun i=>p.ta.length - i) (by kernel_rfl) ?_ ?_ ?_
 ·simp
 ·simp only[go_sem]
 ·rintro i ⟨hi,hp⟩;by_cases hi':i<p.ta.length
  ·have hlt:(i:Int)<(p.ta.length:Int):=by omega
   simp only[go_sem,hlt,hi'];refine call (d5 (el p.ta i) 1 1000) [] ?_
   cases b1:inB (el p.ta i) 1 1000
   ·have b1:=of_decide_eq_false b1;have hq:jc p.ta i=false:=decide_eq_false (by omega);simp only[go_sem];exact(no (fe hi' hq)).symm
   have b1:=of_decide_eq_true b1;by_cases b3:0<i
   ·have b3':(0:Int)<(i:Int):=by omega
    have e1:IntKind.i64.wrap ((i:Int) - 1)=((i - 1:Nat):Int):=by rw[ae]<;>omega
    have e2:i - 1<p.ta.length:=by omega
    by_cases b4:el p.ta (i - 1)<el p.ta i
    ·have hq:jc p.ta i=false:=decide_eq_false (by omega);simp only[go_sem,b3',e1,e2,b4];exact(no (fe hi' hq)).symm
    ·have hq:jc p.ta i=true:=decide_eq_true (by omega);simp only[go_sem,b3',e1,e2,b4];exact⟨i+1,⟨⟨by omega,br hp hq⟩,by omega⟩,by rw[ae]<;>omega⟩
   ·have b3': ¬(0:Int)<(i:Int):=by omega
    have hq:jc p.ta i=true:=decide_eq_true (by omega);simp only[go_sem,b3'];exact⟨i+1,⟨⟨by omega,br hp hq⟩,by omega⟩,by rw[ae]<;>omega⟩
  ·have hf: ¬((i:Int)<(p.ta.length:Int)):=by omega
   have:i=p.ta.length:=by omega
   subst this;simp only[go_sem,hf];exact(yes (ng hp)).symm
def inQ{α:Type}(q:α->Bool)(l:List α)(i:Nat):List α:=(l.take i).filter q
theorem og{α:Type} [Inhabited α]{q:α->Bool}{l:List α}{i:Nat}(h:i<l.length):inQ q l (i+1)=inQ q l i++if q (el l i)=true then [el l i]else []:=by
 simp only[inQ,cu h,List.filter_append,List.filter_cons,List.filter_nil]
theorem ac2{α:Type}(q:α->Bool)(l:List α)(i:Nat):(inQ q l i).length<=i:=by
 refine Nat.le_trans (List.length_filter_le _ _) ?_;rw[List.length_take];omega
theorem avo{α:Type} [Inhabited α]{q:α->Bool}{l:List α}{i:Nat}(h: ∀j,j<i->q (el l j)=true)(hi:i<=l.length):inQ q l i=l.take i:=by
 unfold inQ;rw[List.filter_eq_self];intro k hk;obtain⟨j,hj,e⟩:=List.mem_iff_getElem.1 hk;have hj':j<i:=by simp at hj;omega
 rw[List.getElem_take]at e;have e2:el l j=l[j]:=by simp[el,aw,show j<l.length by omega]
 rw[<-e,<-e2];exact h j hj'
theorem a9q{α:Type} [Inhabited α](q:α->Bool)(l:List α):(∀k∈l,q k=true)\/∃k0,k0<l.length/\q (el l k0)=false/\∀j,j<k0->q (el l j)=true:=by
 have main: ∀n,n<=l.length->(∀j,j<n->q (el l j)=true)\/∃k0,k0<l.length/\q (el l k0)=false/\∀j,j<k0->q (el l j)=true:=fun n=>by
  induction n with
  |zero=>intro _;exact .inl fun j hj=>by omega
  |succ n ih=>
   intro hn;rcases ih (by omega)with h|h
   ·cases hm:q (el l n)
    ·exact .inr ⟨n,by omega,hm,h⟩
    ·refine .inl fun j hj=> ?_;rcases Nat.lt_succ_iff_lt_or_eq.1 hj with h1|rfl
     ·exact h j h1
     ·exact hm
   ·exact .inr h
 rcases main l.length (Nat.le_refl _)with h|h
 ·refine .inl fun k hk=> ?_;obtain⟨i,hi,rfl⟩:=ahe hk;exact h i hi
 ·exact .inr h
def lr(D:List Int)(x:Int):Bool:=decide (0<=x/\x<=(D.length:Int) - 1)&& !decide (0<=el D x.toNat)
theorem afd(x:Int)(D:List Int)(hD:D.length<=64):Den Tryz.prog 64 [.int .i64 x,.ptr 1000000 0] [.cells [.os 1000001 D.length],.arr 3 1 false (D.map i1)] (.bool (!lr D x)) [] [.cells [.os 1000001 D.length],.arr 3 1 false (D.map i1)]:=by
 refine s8 Tryz.mixed Tryz.func64 rfl Tryz.call64 Tryz.ntmps64 (congrArg Array.toList Tryz.results64) (by simp) (by kernel_rfl) [] [] 1000000 1000001 [] (exts:=[1000000,1000001]) rfl rfl rfl rfl ?_;have w:IntKind.i64.wrap ((D.length:Int) - 1)=(D.length:Int) - 1:=by rw[ae]<;>omega
 have ci:=d5 x 0 ((D.length:Int) - 1);unfold lr;simp only[go_sem,w];refine call ci [] ?_
 cases a1:inB x 0 ((D.length:Int) - 1)
 ·have a1':=of_decide_eq_false a1;have e:decide (0<=x/\x<=(D.length:Int) - 1)=false:=decide_eq_false (by omega);simp only[go_sem,e]
  done
 ·have a1':=of_decide_eq_true a1;have e:decide (0<=x/\x<=(D.length:Int) - 1)=true:=decide_eq_true (by omega);have h1:0<=x:=by omega
  have h2:x<(D.length:Int):=by omega
  have h3:x.toNat<D.length:=by omega
  simp only[go_sem,e,h1,h2,h3];rw[decide_eq_true a1'.2];simp
def lvB(lv:Int)(e:Ed):Bool:=decide (lv<=e.lv)
theorem ael(e:Ed)(lv:Int):Den Tryz.prog 67 [.agg (edr e),.ptr 1000000 0] [.cells [.int .i64 lv]] (.bool (!lvB lv e)) [] [.cells [.int .i64 lv]]:=by
 refine aa Tryz.func67 rfl Tryz.call67 Tryz.ntmps67 Tryz.results67 (by simp) (by kernel_rfl) [] (exts:=[1000000]) rfl rfl ?_
 have h:(!lvB lv e)=decide (e.lv<lv):=by
  unfold lvB;by_cases h:lv<=e.lv
  ·rw[decide_eq_true h,decide_eq_false (by omega)];rfl
  ·rw[decide_eq_false h,decide_eq_true (by omega)];rfl
 rw[h];simp only[go_sem]
def zJ:List PV:=[.int .i64 0]
theorem bks:zJ=[PV.int .i64 0].map vd:=(rfl)
def zE:List PV:=[.int .i64 0,.int .i64 0,.int .i64 0]
theorem bj3:zE=[PV.int .i64 0,PV.int .i64 0,PV.int .i64 0].map vd:=(rfl)
theorem anb(l D:List Int)(hl:big l.length)(hD:D.length<=64)(h: ∀k∈l,lr D k=true):
  Den Tryz.prog 89 [.os 1000000 l.length,.fn 64 [.ptr 1000001 0]] [.arr 3 1 false (l.map i1),.cells [.os 1000002 D.length],.arr 3 1 false (D.map i1)] (.int .i64 (-1)) [] [.arr 3 1 false (l.map i1),.cells [.os 1000002 D.length],.arr 3 1 false (D.map i1)]:=by
 refine s8 Tryz.mixed Tryz.func89 rfl Tryz.call89 Tryz.ntmps89 (congrArg Array.toList Tryz.results89) (by simp) (by kernel_rfl) [] [1000000] 1000001 1000002 [.arr 3 1 false (l.map i1)] (exts:=[1000000,1000001,1000002]) rfl rfl rfl rfl ?_;simp only[go_sem];refine loop Tryz.mixed 0 (fun i:Nat=>[(0,.os 1000000 l.length),(1,.fn 64 [.ptr 1000001 0]),(7,.int .i64 l.length),(8,.int .i64 i)]) (fun _=>[(1000000,.arr 3 1 false (l.map i1)),(1000001,.cells [.os 1000002 D.length]),(1000002,.arr 3 1 false (D.map i1))]) (fun i=>i<=l.length) (fun i=>l.length - i) (by kernel_rfl) (Nat.zero_le _) ?_ ?_
 ·simp only[go_sem]
 ·intro i hi;by_cases hlt:i<l.length
  ·have h1:(i:Int)<(l.length:Int):=by omega
   have c1:=afd (el l i) D hD;rw[h _ (dl hlt)]at c1;simp only[go_sem,h1,hlt];refine aii c1 [] [] [] 1000001 1000002 [1000001,1000002] rfl rfl rfl ?_;simp only[go_sem];exact⟨i+1,⟨by omega,by omega⟩,by rw[ae]<;>omega⟩
  ·have h1: ¬(i:Int)<(l.length:Int):=by omega
   simp only[go_sem,h1]
theorem ano(l D:List Int)(hl:big l.length)(hD:D.length<=64){k0:Nat}(h0:k0<l.length)(h1:lr D (el l k0)=false)(h: ∀j,j<k0->lr D (el l j)=true):
  Den Tryz.prog 89 [.os 1000000 l.length,.fn 64 [.ptr 1000001 0]] [.arr 3 1 false (l.map i1),.cells [.os 1000002 D.length],.arr 3 1 false (D.map i1)] (.int .i64 k0) [] [.arr 3 1 false (l.map i1),.cells [.os 1000002 D.length],.arr 3 1 false (D.map i1)]:=by
 refine s8 Tryz.mixed Tryz.func89 rfl Tryz.call89 Tryz.ntmps89 (congrArg Array.toList Tryz.results89) (by simp) (by kernel_rfl) [] [1000000] 1000001 1000002 [.arr 3 1 false (l.map i1)] (exts:=[1000000,1000001,1000002]) rfl rfl rfl rfl ?_;simp only[go_sem];refine loop Tryz.mixed 0 (fun i:Nat=>[(0,.os 1000000 l.length),(1,.fn 64 [.ptr 1000001 0]),(7,.int .i64 l.length),(8,.int .i64 i)]) (fun _=>[(1000000,.arr 3 1 false (l.map i1)),(1000001,.cells [.os 1000002 D.length]),(1000002,.arr 3 1 false (D.map i1))]) (fun i=>i<=k0) (fun i=>l.length - i) (by kernel_rfl) (Nat.zero_le _) ?_ ?_
 ·simp only[go_sem]
 ·intro i hi;have hlt:i<l.length:=by omega
  have g1:(i:Int)<(l.length:Int):=by omega
  have c1:=afd (el l i) D hD;by_cases hk:i<k0
  ·rw[h _ hk]at c1;simp only[go_sem,g1,hlt];refine aii c1 [] [] [] 1000001 1000002 [1000001,1000002] rfl rfl rfl ?_;simp only[go_sem];exact⟨i+1,⟨by omega,by omega⟩,by rw[ae]<;>omega⟩
  ·obtain rfl:i=k0:=by omega
   rw[h1]at c1;simp only[go_sem,g1,hlt];refine aii c1 [] [] [] 1000001 1000002 [1000001,1000002] rfl rfl rfl ?_;simp only[go_sem]
theorem ahz(l D:List Int)(hl:big l.length)(hD:D.length<=64){k0:Nat}(h0:k0<l.length)(h1:lr D (el l k0)=false)(h: ∀j,j<k0->lr D (el l j)=true):
  Den Tryz.prog 63 [.os 1000000 l.length,.fn 64 [.ptr 1000001 0]] [.arr 3 1 false (l.map i1),.cells [.os 1000002 D.length],.arr 3 1 false (D.map i1)] (.vs ((inQ (lr D) l l.length).map i1)) [] [.arr 3 1 true ((inQ (lr D) l l.length).map i1++List.replicate (l.length - (inQ (lr D) l l.length).length) zJ),.cells [.os 1000002 D.length],.arr 3 1 false (D.map i1)]:=by
 refine s8 Tryz.mixed Tryz.func63 rfl Tryz.call63 Tryz.ntmps63 (congrArg Array.toList Tryz.results63) (by simp) (by kernel_rfl) [] [1000000] 1000001 1000002 [.arr 3 1 true ((inQ (lr D) l l.length).map i1++List.replicate (l.length - (inQ (lr D) l l.length).length) zJ)] (exts:=[1000000,1000001,1000002]) rfl rfl rfl rfl ?_;have ci:=ano l D hl hD h0 h1 h;have hm1: ¬(k0:Int)= -1:=by omega
 have hw0:IntKind.i64.wrap ((k0:Int)+1)=((k0+1:Nat):Int):=by rw[ae]<;>omega
 have hk0:inQ (lr D) l (k0+1)=l.take k0:=by
  rw[og h0,h1,if_neg (by simp),List.append_nil,avo h (by omega)]
 have hk1:(l.take k0).length=k0:=by rw[List.length_take];omega
 simp only[go_sem];refine aii ci [.arr 3 1 false (l.map i1)] [.arr 3 1 false (l.map i1)] [1000000] 1000001 1000002 [1000000,1000001,1000002] rfl rfl rfl ?_;simp only[go_sem,hm1,hw0];refine⟨⟨rfl,Nat.le_refl _⟩,?_⟩
 refine r5 Tryz.mixed (k0+1,l) (fun s:Nat×List Int=>[(0,.os 1000000 l.length),(1,.fn 64 [.ptr 1000001 0]),(5,.int .i64 (inQ (lr D) l s.1).length),(6,.int .i64 s.1)]) (fun s=>[(1000000,.arh 3 1 (s.2.map i1)),(1000001,.cells [.os 1000002 D.length]),(1000002,.arr 3 1 false (D.map i1))])
  (fun s=>k0<s.1/\s.1<=l.length/\s.2.length=l.length/\(inQ (lr D) l s.1).length<s.1/\s.2.take (inQ (lr D) l s.1).length=inQ (lr D) l s.1/\∀a,(inQ (lr D) l s.1).length<=a->el s.2 a=el l a) (fun s=>l.length - s.1) (by kernel_rfl) ⟨Nat.lt_succ_self _,h0,rfl,by rw[hk0,hk1];exact Nat.lt_succ_self _,by rw[hk0,hk1],fun a _=>rfl⟩ ?_ ?_
 ·refine Cv.trans (Cv.opn (n:=1000000) (by rfl)) (Cv.wk ?_);have hin:=bd [1000000,1000001,1000002] i1 (fun _=>rfl) l;simp only[go_sem,hin,hk0,hk1]
 ·rintro⟨j,L⟩ ⟨j1,j2,j3,j4,j5,j6⟩;simp only at j1 j2 j3 j4 j5 j6;simp only;by_cases hlt:j<l.length
  ·have g1:(j:Int)<(l.length:Int):=by omega
   have hsu:=og (q:=lr D) hlt;have e1:el L j=el l j:=j6 _ (by omega);have g2:j<L.length:=by omega
   have c1:=afd (el l j) D hD;generalize inQ (lr D) l j=o at*
   cases hd:lr D (el l j)with
   |false=>
    rw[hd,if_neg (by simp),List.append_nil]at hsu;rw[hd]at c1;simp only[go_sem,g1,g2,hlt,j3,e1];refine aii c1 [] [] [] 1000001 1000002 [1000001,1000002] rfl rfl rfl ?_;simp only[go_sem];refine⟨(j+1,L),⟨⟨by simp only;omega,by simp only;omega,j3,?_,?_,?_⟩,by simp only;omega⟩,Cv.wk ?_⟩
    ·show(inQ (lr D) l (j+1)).length<_;rw[hsu];simp only;omega
    ·show L.take (inQ (lr D) l (j+1)).length=inQ (lr D) l (j+1);rw[hsu];exact j5
    ·intro a ha;have ha':(inQ (lr D) l (j+1)).length<=a:=ha;rw[hsu]at ha';exact j6 a ha'
    ·have hin:=bd [1000000,1000001,1000002] i1 (fun _=>rfl) L;simp only[go_sem,hsu,hin]
     rw[ae]<;>omega
   |true=>
    rw[hd,if_pos rfl]at hsu;rw[hd]at c1;have g8:o.length<l.length:=by omega
    have g9:o.length<L.length:=by omega
    simp only[go_sem,g1,g2,g8,g9,hlt,j3,e1];refine aii c1 [] [] [] 1000001 1000002 [1000001,1000002] rfl rfl rfl ?_;simp only[go_sem,g1,g2,g8,g9,hlt,j3,e1];refine⟨(j+1,L.set o.length (el l j)),⟨⟨by simp only;omega,by simp only;omega,by simp only[List.length_set];exact j3,?_,?_,?_⟩,by simp only;omega⟩,Cv.wk ?_⟩
    ·show(inQ (lr D) l (j+1)).length<_;rw[hsu,List.length_append,List.length_singleton];simp only;omega
    ·show(L.set o.length (el l j)).take (inQ (lr D) l (j+1)).length=inQ (lr D) l (j+1);rw[hsu];exact qe (by omega) j5
    ·intro a ha;have ha':(inQ (lr D) l (j+1)).length<=a:=ha;rw[hsu,List.length_append,List.length_singleton]at ha';show el (L.set o.length _) a=_;rw[aij (by omega)];exact j6 a (by omega)
    ·have hin:=bd [1000000,1000001,1000002] i1 (fun _=>rfl) (L.set o.length (el l j));have hset:(L.map i1).set o.length [PV.int .i64 (el l j)]=(L.set o.length (el l j)).map i1:=by rw[List.map_set];rfl
     have hol:(o++[el l j]).length=o.length+1:=by simp
     simp only[go_sem,hsu,hset,hin,hol];exact⟨by rw[ae]<;>omega,by rw[ae]<;>omega⟩
  ·have hend:j=l.length:=by omega
   subst hend;generalize hO:inQ (lr D) l l.length=o at*;have g2: ¬(l.length:Int)<(l.length:Int):=by omega
   have g3:(o.length:Int)<=(l.length:Int):=by omega
   have htk:(L.map i1).take o.length=o.map i1:=by rw[<-List.map_take,j5]
   have hpu: ∀σ,jl σ (o.map i1++List.replicate (l.length - o.length) zJ)=some (o.map i1++List.replicate (l.length - o.length) zJ,[]):=fun σ=>lp fun x hx=>by
    rcases List.mem_append.1 hx with hx|hx
    ·obtain⟨c,_,rfl⟩:=List.mem_map.1 hx;rfl
    ·rw[List.eq_of_mem_replicate hx];rfl
   have g5:(o.map i1++List.replicate (l.length - o.length) zJ).length=l.length:=by simp;omega
   have g6:(o.map i1++List.replicate (l.length - o.length) zJ).take o.length=o.map i1:=by simp
   have g7:o.length<l.length:=by omega
   have g8:o.length<=l.length:=by omega
   simp only[go_sem,g2,j3];refine md _ _ ?_;simp only[go_sem,g2,g3,j3,htk,g7,g8,<-bks,hpu,g5,g6]
theorem aj2(l D:List Int)(hl:big l.length)(hD:D.length<=64)(h: ∀k∈l,lr D k=true):
  Den Tryz.prog 63 [.os 1000000 l.length,.fn 64 [.ptr 1000001 0]] [.arr 3 1 false (l.map i1),.cells [.os 1000002 D.length],.arr 3 1 false (D.map i1)] (.os 1000000 l.length) [] [.arr 3 1 false (l.map i1),.cells [.os 1000002 D.length],.arr 3 1 false (D.map i1)]:=by
 refine s8 Tryz.mixed Tryz.func63 rfl Tryz.call63 Tryz.ntmps63 (congrArg Array.toList Tryz.results63) (by simp) (by kernel_rfl) [] [1000000] 1000001 1000002 [.arr 3 1 false (l.map i1)] (exts:=[1000000,1000001,1000002]) rfl rfl rfl rfl ?_;have ci:=anb l D hl hD h;simp only[go_sem];refine aii ci [.arr 3 1 false (l.map i1)] [.arr 3 1 false (l.map i1)] [1000000] 1000001 1000002 [1000000,1000001,1000002] rfl rfl rfl ?_;simp only[go_sem];exact⟨rfl,Nat.le_refl _⟩
theorem ale(l D:List Int)(hl:big l.length)(hD:D.length<=64):
  ∃new,new.length=l.length/\Den Tryz.prog 63 [.os 1000000 l.length,.fn 64 [.ptr 1000001 0]] [.arr 3 1 false (l.map i1),.cells [.os 1000002 D.length],.arr 3 1 false (D.map i1)] (.vs ((l.filter (lr D)).map i1)) [] [.arr 3 1 true new,.cells [.os 1000002 D.length],.arr 3 1 false (D.map i1)]:=by
 have e:inQ (lr D) l l.length=l.filter (lr D):=by rw[inQ,List.take_length]
 rcases a9q (lr D) l with h|⟨k0,h0,h1,h2⟩
 ·have e2:(l.filter (lr D))=l:=List.filter_eq_self.2 fun k hk=>h k hk;rw[e2];exact⟨_,by simp,(aj2 l D hl hD h).vsE (by simp)⟩
 ·rw[<-e];exact⟨_,by have:=ac2 (lr D) l l.length;simp;omega,ahz l D hl hD h0 h1 h2⟩
theorem aks(l:List Ed)(lv:Int)(hl:big l.length)(h: ∀k∈l,lvB lv k=true):
  Den Tryz.prog 92 [.os 1000000 l.length,.fn 67 [.ptr 1000001 0]] [.arr 36 3 false (l.map edr),.cells [.int .i64 lv]] (.int .i64 (-1)) [] [.arr 36 3 false (l.map edr),.cells [.int .i64 lv]]:=by
 refine aa Tryz.func92 rfl Tryz.call92 Tryz.ntmps92 Tryz.results92 (by simp) (by kernel_rfl) [] (exts:=[1000000,1000001]) rfl rfl ?_;simp only[go_sem];refine loop Tryz.mixed 0 (fun i:Nat=>[(0,.os 1000000 l.length),(1,.fn 67 [.ptr 1000001 0]),(7,.int .i64 l.length),(8,.int .i64 i)]) (fun _=>[(1000000,.arr 36 3 false (l.map edr)),(1000001,.cells [.int .i64 lv])]) (fun i=>i<=l.length) (fun i=>l.length - i) (by kernel_rfl) (Nat.zero_le _) ?_ ?_
 ·simp only[go_sem]
 ·intro i hi;by_cases hlt:i<l.length
  ·have h1:(i:Int)<(l.length:Int):=by omega
   have c1:=ael (el l i) lv;rw[kz]at c1;rw[h _ (dl hlt)]at c1;simp only[go_sem,h1,hlt];refine call c1 [1000001] ?_;simp only[go_sem];exact⟨i+1,⟨by omega,by omega⟩,by rw[ae]<;>omega⟩
  ·have h1: ¬(i:Int)<(l.length:Int):=by omega
   simp only[go_sem,h1]
theorem am2(l:List Ed)(lv:Int)(hl:big l.length){k0:Nat}(h0:k0<l.length)(h1:lvB lv (el l k0)=false)(h: ∀j,j<k0->lvB lv (el l j)=true):
  Den Tryz.prog 92 [.os 1000000 l.length,.fn 67 [.ptr 1000001 0]] [.arr 36 3 false (l.map edr),.cells [.int .i64 lv]] (.int .i64 k0) [] [.arr 36 3 false (l.map edr),.cells [.int .i64 lv]]:=by
 refine aa Tryz.func92 rfl Tryz.call92 Tryz.ntmps92 Tryz.results92 (by simp) (by kernel_rfl) [] (exts:=[1000000,1000001]) rfl rfl ?_;simp only[go_sem];refine loop Tryz.mixed 0 (fun i:Nat=>[(0,.os 1000000 l.length),(1,.fn 67 [.ptr 1000001 0]),(7,.int .i64 l.length),(8,.int .i64 i)]) (fun _=>[(1000000,.arr 36 3 false (l.map edr)),(1000001,.cells [.int .i64 lv])]) (fun i=>i<=k0) (fun i=>l.length - i) (by kernel_rfl) (Nat.zero_le _) ?_ ?_
 ·simp only[go_sem]
 ·intro i hi;have hlt:i<l.length:=by omega
  have g1:(i:Int)<(l.length:Int):=by omega
  have c1:=ael (el l i) lv;rw[kz]at c1;by_cases hk:i<k0
  ·rw[h _ hk]at c1;simp only[go_sem,g1,hlt];refine call c1 [1000001] ?_;simp only[go_sem];exact⟨i+1,⟨by omega,by omega⟩,by rw[ae]<;>omega⟩
  ·obtain rfl:i=k0:=by omega
   rw[h1]at c1;simp only[go_sem,g1,hlt];refine call c1 [1000001] ?_;simp only[go_sem]
theorem ajo(l:List Ed)(lv:Int)(hl:big l.length){k0:Nat}(h0:k0<l.length)(h1:lvB lv (el l k0)=false)(h: ∀j,j<k0->lvB lv (el l j)=true):
  Den Tryz.prog 66 [.os 1000000 l.length,.fn 67 [.ptr 1000001 0]] [.arr 36 3 false (l.map edr),.cells [.int .i64 lv]] (.vs ((inQ (lvB lv) l l.length).map edr)) [] [.arr 36 3 true ((inQ (lvB lv) l l.length).map edr++List.replicate (l.length - (inQ (lvB lv) l l.length).length) zE),.cells [.int .i64 lv]]:=by
 refine aa Tryz.func66 rfl Tryz.call66 Tryz.ntmps66 Tryz.results66 (by simp) (by kernel_rfl) [] (exts:=[1000000,1000001]) rfl rfl ?_;have ci:=am2 l lv hl h0 h1 h;have hm1: ¬(k0:Int)= -1:=by omega
 have hw0:IntKind.i64.wrap ((k0:Int)+1)=((k0+1:Nat):Int):=by rw[ae]<;>omega
 have hk0:inQ (lvB lv) l (k0+1)=l.take k0:=by
  rw[og h0,h1,if_neg (by simp),List.append_nil,avo h (by omega)]
 have hk1:(l.take k0).length=k0:=by rw[List.length_take];omega
 simp only[go_sem];refine call ci [1000000,1000001] ?_;simp only[go_sem,hm1,hw0];refine⟨Nat.le_refl _,?_⟩
 refine r5 Tryz.mixed (k0+1,l) (fun s:Nat×List Ed=>[(0,.os 1000000 l.length),(1,.fn 67 [.ptr 1000001 0]),(5,.int .i64 (inQ (lvB lv) l s.1).length),(6,.int .i64 s.1)]) (fun s=>[(1000000,.arh 36 3 (s.2.map edr)),(1000001,.cells [.int .i64 lv])])
  (fun s=>k0<s.1/\s.1<=l.length/\s.2.length=l.length/\(inQ (lvB lv) l s.1).length<s.1/\s.2.take (inQ (lvB lv) l s.1).length=inQ (lvB lv) l s.1/\∀a,(inQ (lvB lv) l s.1).length<=a->el s.2 a=el l a) (fun s=>l.length - s.1) (by kernel_rfl) ⟨Nat.lt_succ_self _,h0,rfl,by rw[hk0,hk1];exact Nat.lt_succ_self _,by rw[hk0,hk1],fun a _=>rfl⟩ ?_ ?_
 ·refine Cv.trans (Cv.opn (n:=1000000) (by rfl)) (Cv.wk ?_);have hin:=bd [1000000,1000001] edr (fun _=>rfl) l;simp only[go_sem,hin,hk0,hk1]
 ·rintro⟨j,L⟩ ⟨j1,j2,j3,j4,j5,j6⟩;simp only at j1 j2 j3 j4 j5 j6;simp only;by_cases hlt:j<l.length
  ·have g1:(j:Int)<(l.length:Int):=by omega
   have hsu:=og (q:=lvB lv) hlt;have e1:el L j=el l j:=j6 _ (by omega);have g2:j<L.length:=by omega
   have c1:=ael (el l j) lv;rw[kz]at c1;generalize inQ (lvB lv) l j=o at*
   cases hd:lvB lv (el l j)with
   |false=>
    rw[hd,if_neg (by simp),List.append_nil]at hsu;rw[hd]at c1;simp only[go_sem,g1,g2,hlt,j3,e1];refine call c1 [1000001] ?_;simp only[go_sem];refine⟨(j+1,L),⟨⟨by simp only;omega,by simp only;omega,j3,?_,?_,?_⟩,by simp only;omega⟩,Cv.wk ?_⟩
    ·show(inQ (lvB lv) l (j+1)).length<_;rw[hsu];simp only;omega
    ·show L.take (inQ (lvB lv) l (j+1)).length=inQ (lvB lv) l (j+1);rw[hsu];exact j5
    ·intro a ha;have ha':(inQ (lvB lv) l (j+1)).length<=a:=ha;rw[hsu]at ha';exact j6 a ha'
    ·have hin:=bd [1000000,1000001] edr (fun _=>rfl) L;simp only[go_sem,hsu,hin]
     rw[ae]<;>omega
   |true=>
    rw[hd,if_pos rfl]at hsu;rw[hd]at c1;have g8:o.length<l.length:=by omega
    have g9:o.length<L.length:=by omega
    simp only[go_sem,g1,g2,g8,g9,hlt,j3,e1];refine call c1 [1000001] ?_;simp only[go_sem,g1,g2,g8,g9,hlt,j3,e1];refine⟨(j+1,L.set o.length (el l j)),⟨⟨by simp only;omega,by simp only;omega,by simp only[List.length_set];exact j3,?_,?_,?_⟩,by simp only;omega⟩,Cv.wk ?_⟩
    ·show(inQ (lvB lv) l (j+1)).length<_;rw[hsu,List.length_append,List.length_singleton];simp only;omega
    ·show(L.set o.length (el l j)).take (inQ (lvB lv) l (j+1)).length=inQ (lvB lv) l (j+1);rw[hsu];exact qe (by omega) j5
    ·intro a ha;have ha':(inQ (lvB lv) l (j+1)).length<=a:=ha;rw[hsu,List.length_append,List.length_singleton]at ha';show el (L.set o.length _) a=_;rw[aij (by omega)];exact j6 a (by omega)
    ·have hin:=bd [1000000,1000001] edr (fun _=>rfl) (L.set o.length (el l j));have hset:(L.map edr).set o.length [PV.int .i64 (el l j).fr,PV.int .i64 (el l j).to,PV.int .i64 (el l j).lv]=(L.set o.length (el l j)).map edr:=by rw[List.map_set];rfl
     have hol:(o++[el l j]).length=o.length+1:=by simp
     simp only[go_sem,hsu,hset,hin,hol];exact⟨by rw[ae]<;>omega,by rw[ae]<;>omega⟩
  ·have hend:j=l.length:=by omega
   subst hend;generalize hO:inQ (lvB lv) l l.length=o at*;have g2: ¬(l.length:Int)<(l.length:Int):=by omega
   have g3:(o.length:Int)<=(l.length:Int):=by omega
   have htk:(L.map edr).take o.length=o.map edr:=by rw[<-List.map_take,j5]
   have hpu: ∀σ,jl σ (o.map edr++List.replicate (l.length - o.length) zE)=some (o.map edr++List.replicate (l.length - o.length) zE,[]):=fun σ=>lp fun x hx=>by
    rcases List.mem_append.1 hx with hx|hx
    ·obtain⟨c,_,rfl⟩:=List.mem_map.1 hx;rfl
    ·rw[List.eq_of_mem_replicate hx];rfl
   have g5:(o.map edr++List.replicate (l.length - o.length) zE).length=l.length:=by simp;omega
   have g6:(o.map edr++List.replicate (l.length - o.length) zE).take o.length=o.map edr:=by simp
   have g7:o.length<l.length:=by omega
   have g8:o.length<=l.length:=by omega
   simp only[go_sem,g2,j3];refine md _ _ ?_;simp only[go_sem,g2,g3,j3,htk,g7,g8,<-bj3,hpu,g5,g6]
theorem aju(l:List Ed)(lv:Int)(hl:big l.length)(h: ∀k∈l,lvB lv k=true):
  Den Tryz.prog 66 [.os 1000000 l.length,.fn 67 [.ptr 1000001 0]] [.arr 36 3 false (l.map edr),.cells [.int .i64 lv]] (.os 1000000 l.length) [] [.arr 36 3 false (l.map edr),.cells [.int .i64 lv]]:=by
 refine aa Tryz.func66 rfl Tryz.call66 Tryz.ntmps66 Tryz.results66 (by simp) (by kernel_rfl) [] (exts:=[1000000,1000001]) rfl rfl ?_;have ci:=aks l lv hl h;simp only[go_sem];refine call ci [1000000,1000001] ?_;simp only[go_sem];exact Nat.le_refl _
theorem alj(l:List Ed)(lv:Int)(hl:big l.length):
  ∃new,new.length=l.length/\Den Tryz.prog 66 [.os 1000000 l.length,.fn 67 [.ptr 1000001 0]] [.arr 36 3 false (l.map edr),.cells [.int .i64 lv]] (.vs ((l.filter (lvB lv)).map edr)) [] [.arr 36 3 true new,.cells [.int .i64 lv]]:=by
 have e:inQ (lvB lv) l l.length=l.filter (lvB lv):=by rw[inQ,List.take_length]
 rcases a9q (lvB lv) l with h|⟨k0,h0,h1,h2⟩
 ·have e2:(l.filter (lvB lv))=l:=List.filter_eq_self.2 fun k hk=>h k hk;rw[e2];exact⟨_,by simp,(aju l lv hl h).vsE (by simp)⟩
 ·rw[<-e];exact⟨_,by have:=ac2 (lvB lv) l l.length;simp;omega,ajo l lv hl h0 h1 h2⟩
theorem aus(l:List Ed)(h0:0<l.length)(hl:l.length<=1000000):Den Tryz.prog 90 [.vs (l.map edr)] [] (.os 0 l.length) [.arr 36 3 false (l.map edr)] []:=by
 refine aa Tryz.func90 rfl Tryz.call90 Tryz.ntmps90 Tryz.results90 (by simp) (by kernel_rfl) [5] (exts:=[]) rfl rfl ?_;simp only[go_sem,h0];omega
theorem am7(b:Bool):Den Tryz.prog 90 [.sn b] [] (.vs []) [] []:=by
 refine aa Tryz.func90 rfl Tryz.call90 Tryz.ntmps90 Tryz.results90 (by simp) (by kernel_rfl) [] (exts:=[]) rfl rfl ?_
 cases b
 ·simp only[go_sem]
 ·simp only[go_sem]
theorem ak9(b:Bool):Den Tryz.prog 91 [.sn b] [] (.vs []) [] []:=by
 refine aa Tryz.func91 rfl Tryz.call91 Tryz.ntmps91 Tryz.results91 (by simp) (by kernel_rfl) [] (exts:=[]) rfl rfl ?_
 cases b
 ·simp only[go_sem]
 ·simp only[go_sem]
theorem aux(l:List Int)(h0:0<l.length)(hl:l.length<=1000000):Den Tryz.prog 91 [.vs (l.map i1)] [] (.vs (l.map i1)) [] []:=by
 refine aa Tryz.func91 rfl Tryz.call91 Tryz.ntmps91 Tryz.results91 (by simp) (by kernel_rfl) [] (exts:=[]) rfl rfl ?_;simp only[go_sem,h0];omega
theorem aco(l:List Int)(hl:l.length<=1000000):Den Tryz.prog 91 [.vs (l.map i1)] [] (.vs (l.map i1)) [] []:=by
 cases l with
 |nil=>exact yw [] fun b=>ak9 b
 |cons a l=>exact aux _ (by simp) hl
theorem asd(g:Gr)(h0:0<g.ed.length)(h1:g.ed.length<=1000)(h2:g.gone.length<=1000):Den Tryz.prog 65 [.agg (gr g)] [] (.ago [.int .i64 g.sz,.os 0 g.ed.length,.vs (g.gone.map i1)]) [.arr 36 3 false (g.ed.map edr)] []:=by
 refine aa Tryz.func65 rfl Tryz.call65 Tryz.ntmps65 Tryz.results65 (by simp) (by kernel_rfl) [7] (exts:=[]) rfl rfl ?_;simp only[go_sem];refine call (aus g.ed h0 (by omega)) [] ?_;simp only[go_sem];refine call (aco g.gone (by omega)) [] ?_;simp only[go_sem];exact ag (by kernel_rfl)
theorem ant(sz:Int)(gone:List Int)(h2:gone.length<=1000):Den Tryz.prog 65 [.agg [.int .i64 sz,.vs [],.vs (gone.map i1)]] [] (.agg [.int .i64 sz,.vs [],.vs (gone.map i1)]) [] []:=by
 refine aa Tryz.func65 rfl Tryz.call65 Tryz.ntmps65 Tryz.results65 (by simp) (by kernel_rfl) [] (exts:=[]) rfl rfl ?_;have c0:Den Tryz.prog 90 [.vs []] [] (.vs []) [] []:=yw [] fun b=>am7 b;simp only[go_sem];refine call c0 [] ?_;simp only[go_sem];refine call (aco gone (by omega)) [] ?_;simp only[go_sem];exact ag (by kernel_rfl)
theorem akn(lv:Int)(f:List PV):Den Tryz.prog 92 [.vs [],.fn 67 [.ptr 1000000 0]] [.cells [.int .i64 lv]] (.int .i64 (-1)) [] [.cells [.int .i64 lv]]:=by
 refine aa Tryz.func92 rfl Tryz.call92 Tryz.ntmps92 Tryz.results92 (by simp) (by kernel_rfl) [] (exts:=[1000000]) rfl rfl ?_;simp only[go_sem];refine loop Tryz.mixed 0 (fun i:Nat=>[(7,.int .i64 0),(8,.int .i64 0)]) (fun _=>[(1000000,.cells [.int .i64 lv])]) (fun _=>True) (fun i=>0) (by kernel_rfl) trivial ?_ ?_
 ·simp only[go_sem]
 ·intro i _;simp only[go_sem]
theorem ah3(lv:Int):Den Tryz.prog 66 [.vs [],.fn 67 [.ptr 1000000 0]] [.cells [.int .i64 lv]] (.vs []) [] [.cells [.int .i64 lv]]:=by
 refine aa Tryz.func66 rfl Tryz.call66 Tryz.ntmps66 Tryz.results66 (by simp) (by kernel_rfl) [] (exts:=[1000000]) rfl rfl ?_;simp only[go_sem];refine call (akn lv []) [1000000] ?_;simp only[go_sem]
theorem beu(g:Gr)(lv:Int)(h1:g.ed.length<=1000)(h2:g.gone.length<=1000):Den Tryz.prog 30 [.agg (gr g),.int .i64 lv] [] (.agg (gr (bz g lv))) [] []:=by
 refine aa Tryz.func30 rfl Tryz.call30 Tryz.ntmps30 Tryz.results30 (by simp) (by kernel_rfl) [] (exts:=[]) rfl rfl ?_;by_cases h0:0<g.ed.length
 ·have c1:=asd g h0 h1 h2;obtain⟨new,hn,c2⟩:=alj g.ed lv (by simp only[big];omega);have e:g.ed.filter (lvB lv)=(bz g lv).ed:=rfl;rw[e]at c2;have e2:(bz g lv).sz=g.sz:=rfl;have e3:(bz g lv).gone=g.gone:=rfl;rw[dv]at c1;generalize hE:(bz g lv).ed=E at*;simp only[go_sem];refine call c1 [] ?_;simp only[go_sem];refine call c2 [7,3] ?_;simp only[go_sem,e2,e3,hE];omega
 ·have e:g.ed=[]:=List.eq_nil_of_length_eq_zero (by omega);have e1:(bz g lv).ed=[]:=by unfold bz;rw[e];rfl
  have e2:(bz g lv).sz=g.sz:=rfl;have e3:(bz g lv).gone=g.gone:=rfl;have c1:=ant g.sz g.gone h2;simp only[go_sem,e];refine call c1 [] ?_;simp only[go_sem];refine call (ah3 lv) [3] ?_;simp only[go_sem,e1,e2,e3]
theorem ace(g:Gr)(h1:g.ed.length<=1000)(h2:g.gone.length<=1000):Den Tryz.prog 54 [.agg (gr g)] [] (.agg (gr g)) [] []:=by
 refine aa Tryz.func54 rfl Tryz.call54 Tryz.ntmps54 Tryz.results54 (by simp) (by kernel_rfl) [] (exts:=[]) rfl rfl ?_;simp only[go_sem];exact⟨by omega,by omega,ag (by kernel_rfl)⟩
end Go.Proofs.Am
