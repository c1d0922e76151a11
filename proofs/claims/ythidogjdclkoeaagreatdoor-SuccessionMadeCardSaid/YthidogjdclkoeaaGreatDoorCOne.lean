/- COne. -/
import Derived.Test.YthidogjdclkoeaaGreatDoorBTwo
set_option maxHeartbeats 1000000
set_option maxRecDepth 100000
set_option linter.unusedSimpArgs false
set_option linter.unusedVariables false
namespace Go.Proofs.Am
open Go Go.RowKit
open Go.Proofs
structure Cs where
 ep:Int
 kd:Int
 su:Int
 ro:Int
deriving Inhabited,DecidableEq
def cs(c:Cs):List PV:=[.int .i64 c.ep,.int .i64 c.kd,.int .i64 c.su,.int .i64 c.ro]
theorem dt(c:Cs):cs c=[.int .i64 c.ep,.int .i64 c.kd,.int .i64 c.su,.int .i64 c.ro]:=(rfl)
attribute [go_sem] dt
def fq(c:Cs):Bool:=decide (0<=c.ep/\c.ep<40/\0<=c.su/\c.su<64/\0<=c.ro/\c.ro<=1/\(c.kd=1/\c.su=0/\c.ro=0\/c.kd=2\/c.kd=3))
theorem ei{c:Cs}(h: ¬(0<=c.ep/\c.ep<40/\0<=c.su/\c.su<64/\0<=c.ro/\c.ro<=1/\(c.kd=1/\c.su=0/\c.ro=0\/c.kd=2\/c.kd=3))):fq c=false:=decide_eq_false h
theorem om{c:Cs}(h:0<=c.ep/\c.ep<40/\0<=c.su/\c.su<64/\0<=c.ro/\c.ro<=1/\(c.kd=1/\c.su=0/\c.ro=0\/c.kd=2\/c.kd=3)):fq c=true:=decide_eq_true h
theorem my(c:Cs):Den Tryz.prog 46 [.agg (cs c)] [] (.bool (fq c)) [] []:=by
 refine aa Tryz.func46 rfl Tryz.call46 Tryz.ntmps46 Tryz.results46 (by simp) (by kernel_rfl) [] (exts:=[]) rfl rfl ?_;by_cases h0:c.ep<0
 ·rw[ei (c:=c) (by omega)];simp only[go_sem,h0]
 by_cases h1:40<=c.ep
 ·rw[ei (c:=c) (by omega)];simp only[go_sem,h0,h1]
 by_cases h2:c.su<0
 ·rw[ei (c:=c) (by omega)];simp only[go_sem,h0,h1,h2]
 by_cases h3:64<=c.su
 ·rw[ei (c:=c) (by omega)];simp only[go_sem,h0,h1,h2,h3]
 by_cases h4:c.ro<0
 ·rw[ei (c:=c) (by omega)];simp only[go_sem,h0,h1,h2,h3,h4]
 by_cases h5:1<c.ro
 ·rw[ei (c:=c) (by omega)];simp only[go_sem,h0,h1,h2,h3,h4,h5]
 by_cases k1:c.kd=1
 ·by_cases k2:c.su=0
  ·by_cases k3:c.ro=0
   ·rw[om (c:=c) (by omega)];simp only[go_sem,h0,h1,h2,h3,h4,h5,k1,k2,k3]
   ·rw[ei (c:=c) (by omega)];simp only[go_sem,h0,h1,h2,h3,h4,h5,k1,k2,k3]
  ·rw[ei (c:=c) (by omega)];simp only[go_sem,h0,h1,h2,h3,h4,h5,k1,k2]
 by_cases k2:c.kd=2
 ·rw[om (c:=c) (by omega)];simp only[go_sem,h0,h1,h2,h3,h4,h5,k1,k2]
 by_cases k3:c.kd=3
 ·rw[om (c:=c) (by omega)];simp only[go_sem,h0,h1,h2,h3,h4,h5,k1,k2,k3]
 rw[ei (c:=c) (by omega)];simp only[go_sem,h0,h1,h2,h3,h4,h5,k1,k2,k3]
theorem aib(c:Cs):Den Tryz.prog 78 [.agg (cs c)] [] (.bool (fq c)) [] []:=by
 refine aa Tryz.func78 rfl Tryz.call78 Tryz.ntmps78 Tryz.results78 (by simp) (by kernel_rfl) [] (exts:=[]) rfl rfl ?_;by_cases h0:c.ep<0
 ·rw[ei (c:=c) (by omega)];simp only[go_sem,h0]
 by_cases h1:40<=c.ep
 ·rw[ei (c:=c) (by omega)];simp only[go_sem,h0,h1]
 by_cases h2:c.su<0
 ·rw[ei (c:=c) (by omega)];simp only[go_sem,h0,h1,h2]
 by_cases h3:64<=c.su
 ·rw[ei (c:=c) (by omega)];simp only[go_sem,h0,h1,h2,h3]
 by_cases h4:c.ro<0
 ·rw[ei (c:=c) (by omega)];simp only[go_sem,h0,h1,h2,h3,h4]
 by_cases h5:1<c.ro
 ·rw[ei (c:=c) (by omega)];simp only[go_sem,h0,h1,h2,h3,h4,h5]
 by_cases k1:c.kd=1
 ·by_cases k2:c.su=0
  ·by_cases k3:c.ro=0
   ·rw[om (c:=c) (by omega)];simp only[go_sem,h0,h1,h2,h3,h4,h5,k1,k2,k3]
   ·rw[ei (c:=c) (by omega)];simp only[go_sem,h0,h1,h2,h3,h4,h5,k1,k2,k3]
  ·rw[ei (c:=c) (by omega)];simp only[go_sem,h0,h1,h2,h3,h4,h5,k1,k2]
 by_cases k2:c.kd=2
 ·rw[om (c:=c) (by omega)];simp only[go_sem,h0,h1,h2,h3,h4,h5,k1,k2]
 by_cases k3:c.kd=3
 ·rw[om (c:=c) (by omega)];simp only[go_sem,h0,h1,h2,h3,h4,h5,k1,k2,k3]
 rw[ei (c:=c) (by omega)];simp only[go_sem,h0,h1,h2,h3,h4,h5,k1,k2,k3]
def noD:Drf:=⟨0,0,0,0,[],[]⟩
def ah9(p:Nat->Bool)(n:Nat):Bool:=decide (∀i,i<n->p i=true)
theorem s4{p:Nat->Bool}{n:Nat}(h: ∀i,i<n->p i=true):ah9 p n=true:=decide_eq_true h
theorem gn{p:Nat->Bool}{n i:Nat}(hi:i<n)(h:p i=false):ah9 p n=false:=decide_eq_false fun h'=>by rw[h' i hi]at h;cases h
theorem d6{p:Nat->Bool}{i:Nat}(h: ∀j,j<i->p j=true)(hq:p i=true): ∀j,j<i+1->p j=true:=fun j hj=>by
 by_cases hji:j=i
 ·rw[hji];exact hq
 ·exact h j (by omega)
def ko(n:Int)(l:List Int)(i:Nat):Bool:=decide (0<=el l i/\el l i<n/\(0<i->el l (i - 1)<el l i))
def aac(l:List Int)(n:Int):Bool:=ah9 (ko n l) l.length
def j8(l:List Int):Bool:=decide (0<l.length/\l.length<=64)&&aac l 64
theorem a7b(l:List Int)(n:Int)(hl:big l.length):Den Tryz.prog 96 [.vs (l.map i1),.int .i64 n] [] (.bool (aac l n)) [] []:=by
 refine aa Tryz.func96 rfl Tryz.call96 Tryz.ntmps96 Tryz.results96 (by simp) (by kernel_rfl) [] (exts:=[]) rfl rfl ?_;generalize hm:aac l n=m;have hbad:aac l n=false->m=false:=fun h=>by rw[<-hm];exact h
 have hgood:aac l n=true->m=true:=fun h=>by rw[<-hm];exact h
 simp only[go_sem];refine loop Tryz.mixed 0 (fun i:Nat=>[(0,.vs (l.map i1)),(1,.int .i64 n),(5,.int .i64 i)]) (fun i=>[]) (fun i=>i<=l.length/\∀j,j<i->ko n l j=true) (fun i=>l.length - i) (by kernel_rfl) ?_ ?_ ?_
 ·simp
 ·simp only[go_sem]
 ·rintro i ⟨hi,hp⟩;by_cases hi':i<l.length
  ·have hlt:(i:Int)<(l.length:Int):=by omega
   by_cases a1:el l i<0
   ·have hq:ko n l i=false:=decide_eq_false (by omega);simp only[go_sem,hlt,hi',a1];exact⟨ae (by kernel_rfl),(hbad (gn hi' hq)).symm⟩
   by_cases a2:n<=el l i
   ·have hq:ko n l i=false:=decide_eq_false (by omega);simp only[go_sem,hlt,hi',a1,a2];exact⟨ae (by kernel_rfl),(hbad (gn hi' hq)).symm⟩
   by_cases a3:0<i
   ·have a3':(0:Int)<(i:Int):=by omega
    have e1:IntKind.i64.wrap ((i:Int) - 1)=((i - 1:Nat):Int):=by rw[ai]<;>omega
    have e2:i - 1<l.length:=by omega
    by_cases a4:el l i<=el l (i - 1)
    ·have hq:ko n l i=false:=decide_eq_false (by omega);simp only[go_sem,hlt,hi',a1,a2,a3',e1,e2,a4];exact⟨ae (by kernel_rfl),(hbad (gn hi' hq)).symm⟩
    ·have hq:ko n l i=true:=decide_eq_true (by omega);simp only[go_sem,hlt,hi',a1,a2,a3',e1,e2,a4];exact⟨ae (by kernel_rfl),i+1,⟨⟨by omega,d6 hp hq⟩,by omega⟩,by rw[ai]<;>omega⟩
   ·have a3': ¬(0:Int)<(i:Int):=by omega
    have hq:ko n l i=true:=decide_eq_true (by omega);simp only[go_sem,hlt,hi',a1,a2,a3'];exact⟨ae (by kernel_rfl),i+1,⟨⟨by omega,d6 hp hq⟩,by omega⟩,by rw[ai]<;>omega⟩
  ·have hf: ¬((i:Int)<(l.length:Int)):=by omega
   have:i=l.length:=by omega
   subst this;simp only[go_sem,hf];exact(hgood (s4 hp)).symm
theorem awj(l:List Int)(hl:big l.length):Den Tryz.prog 45 [.vs (l.map i1)] [] (.bool (j8 l)) [] []:=by
 refine aa Tryz.func45 rfl Tryz.call45 Tryz.ntmps45 Tryz.results45 (by simp) (by kernel_rfl) [] (exts:=[]) rfl rfl ?_;by_cases h1:l.length=0
 ·have hr:j8 l=false:=by simp[j8,h1]
  rw[hr];have h1':(l.length:Int)=0:=by omega
  simp only[go_sem,h1']
 by_cases h2:(64:Int)<(l.length:Int)
 ·have hr:j8 l=false:=by rw[j8,decide_eq_false (by omega)];rfl
  rw[hr];have h1': ¬(l.length:Int)=0:=by omega
  simp only[go_sem,h1',h2]
 have h1': ¬(l.length:Int)=0:=by omega
 have hrv:j8 l=aac l 64:=by rw[j8,decide_eq_true (by omega)];rfl
 rw[hrv];generalize hm:aac l 64=m;have hbad:aac l 64=false->m=false:=fun h=>by rw[<-hm];exact h
 have hgood:aac l 64=true->m=true:=fun h=>by rw[<-hm];exact h
 simp only[go_sem,h1',h2];refine loop Tryz.mixed 0 (fun i:Nat=>[(0,.vs (l.map i1)),(3,.int .i64 i)]) (fun i=>[]) (fun i=>i<=l.length/\∀j,j<i->ko 64 l j=true) (fun i=>l.length - i) (by kernel_rfl) ?_ ?_ ?_
 ·simp
 ·simp only[go_sem]
 ·rintro i ⟨hi,hp⟩;by_cases hi':i<l.length
  ·have hlt:(i:Int)<(l.length:Int):=by omega
   by_cases a1:el l i<0
   ·have hq:ko 64 l i=false:=decide_eq_false (by omega);simp only[go_sem,hlt,hi',a1];exact⟨ae (by kernel_rfl),(hbad (gn hi' hq)).symm⟩
   by_cases a2:64<=el l i
   ·have hq:ko 64 l i=false:=decide_eq_false (by omega);simp only[go_sem,hlt,hi',a1,a2];exact⟨ae (by kernel_rfl),(hbad (gn hi' hq)).symm⟩
   by_cases a3:0<i
   ·have a3':(0:Int)<(i:Int):=by omega
    have e1:IntKind.i64.wrap ((i:Int) - 1)=((i - 1:Nat):Int):=by rw[ai]<;>omega
    have e2:i - 1<l.length:=by omega
    by_cases a4:el l i<=el l (i - 1)
    ·have hq:ko 64 l i=false:=decide_eq_false (by omega);simp only[go_sem,hlt,hi',a1,a2,a3',e1,e2,a4];exact⟨ae (by kernel_rfl),(hbad (gn hi' hq)).symm⟩
    ·have hq:ko 64 l i=true:=decide_eq_true (by omega);simp only[go_sem,hlt,hi',a1,a2,a3',e1,e2,a4];exact⟨ae (by kernel_rfl),i+1,⟨⟨by omega,d6 hp hq⟩,by omega⟩,by rw[ai]<;>omega⟩
   ·have a3': ¬(0:Int)<(i:Int):=by omega
    have hq:ko 64 l i=true:=decide_eq_true (by omega);simp only[go_sem,hlt,hi',a1,a2,a3'];exact⟨ae (by kernel_rfl),i+1,⟨⟨by omega,d6 hp hq⟩,by omega⟩,by rw[ai]<;>omega⟩
  ·have hf: ¬((i:Int)<(l.length:Int)):=by omega
   have:i=l.length:=by omega
   subst this;simp only[go_sem,hf];exact(hgood (s4 hp)).symm
structure Pol where
 se:List Int
 ta:List Int
 lv:Int
deriving Inhabited,DecidableEq
structure Rl where
 gen:List Int
 pol:Pol
 seats:Int
 span:Int
 quota:Int
deriving Inhabited,DecidableEq
def pl(p:Pol):List PV:=[.vs (p.se.map i1),.vs (p.ta.map i1),.int .i64 p.lv]
theorem a6f(p:Pol):pl p=[.vs (p.se.map i1),.vs (p.ta.map i1),.int .i64 p.lv]:=(rfl)
def rl(r:Rl):List PV:=[.vs (r.gen.map i1),.vs (r.pol.se.map i1),.vs (r.pol.ta.map i1),.int .i64 r.pol.lv,.int .i64 r.seats,.int .i64 r.span,.int .i64 r.quota]
theorem dz(r:Rl):rl r=[.vs (r.gen.map i1),.vs (r.pol.se.map i1),.vs (r.pol.ta.map i1),.int .i64 r.pol.lv,.int .i64 r.seats,.int .i64 r.span,.int .i64 r.quota]:=(rfl)
attribute [go_sem] a6f dz
def ni(ta:List Int)(i:Nat):Bool:=decide (1<=el ta i/\el ta i<=1000/\(0<i->el ta i<=el ta (i - 1)))
def m6(p:Pol):Bool:=decide (0<p.se.length)&&(aac p.se 64&&(decide (1<=p.ta.length/\p.ta.length<=8/\1<=p.lv/\p.lv<=3)&&ah9 (ni p.ta) p.ta.length))
theorem a69:Den Tryz.prog 73 [.agg [.int .i64 64,.vs [],.vs []]] [] (.int .i64 0) [] []:=by
 refine aa Tryz.func73 rfl Tryz.call73 Tryz.ntmps73 Tryz.results73 (by simp) (by kernel_rfl) [] (exts:=[]) rfl rfl ?_;simp only[go_sem];refine call (a7b [] 64 (by simp[big])) [] ?_;have hs:aac [] 64=true:=rfl;rw[hs];simp only[go_sem];refine loop Tryz.mixed 0 (fun _:Nat=>[(1,.ptr 1 0),(3,.int .i64 0)]) (fun _=>[(1,.cells [.int .i64 64,.vs [],.vs []])]) (fun _=>True) (fun _=>0) (by kernel_rfl) ?_ ?_ ?_
 ·trivial
 ·simp only[go_sem]
 ·rintro i _;simp only[go_sem]
theorem avl(p:Pol)(h1:big p.se.length)(h2:big p.ta.length):Den Tryz.prog 74 [.agg [.int .i64 64,.vs [],.vs []],.agg (pl p)] [] (.bool (m6 p)) [] []:=by
 refine aa Tryz.func74 rfl Tryz.call74 Tryz.ntmps74 Tryz.results74 (by simp) (by kernel_rfl) [] (exts:=[]) rfl rfl ?_;generalize hm:m6 p=m;by_cases a1:p.se.length=0
 ·have hq:m6 p=false:=by rw[m6,decide_eq_false (by omega)];rfl
  have a1':(p.se.length:Int)=0:=by omega
  rw[hq]at hm;simp only[go_sem,a1'];exact hm
 have a1': ¬(p.se.length:Int)=0:=by omega
 simp only[go_sem,a1'];refine call (a7b p.se 64 h1) [] ?_
 cases a2:aac p.se 64
 ·have hq:m6 p=false:=by rw[m6,a2];simp
  rw[hq]at hm;simp only[go_sem];exact hm
 by_cases a3:(p.ta.length:Int)<1
 ·have hq:m6 p=false:=by rw[m6,decide_eq_false (p:=1<=p.ta.length/\p.ta.length<=8/\1<=p.lv/\p.lv<=3) (by omega)];simp
  rw[hq]at hm;simp only[go_sem,a3];exact hm
 by_cases a4:(8:Int)<(p.ta.length:Int)
 ·have hq:m6 p=false:=by rw[m6,decide_eq_false (p:=1<=p.ta.length/\p.ta.length<=8/\1<=p.lv/\p.lv<=3) (by omega)];simp
  rw[hq]at hm;simp only[go_sem,a3,a4];exact hm
 by_cases a5:p.lv<1
 ·have hq:m6 p=false:=by rw[m6,decide_eq_false (p:=1<=p.ta.length/\p.ta.length<=8/\1<=p.lv/\p.lv<=3) (by omega)];simp
  rw[hq]at hm;simp only[go_sem,a3,a4,a5];exact hm
 by_cases a6:3<p.lv
 ·have hq:m6 p=false:=by rw[m6,decide_eq_false (p:=1<=p.ta.length/\p.ta.length<=8/\1<=p.lv/\p.lv<=3) (by omega)];simp
  rw[hq]at hm;simp only[go_sem,a3,a4,a5,a6];exact hm
 have hq:m6 p=ah9 (ni p.ta) p.ta.length:=by rw[m6,decide_eq_true (p:=1<=p.ta.length/\p.ta.length<=8/\1<=p.lv/\p.lv<=3) (by omega),decide_eq_true (by omega),a2];rfl
 rw[hq]at hm;have hbad:ah9 (ni p.ta) p.ta.length=false->m=false:=fun h=>by rw[<-hm];exact h
 have hgood:ah9 (ni p.ta) p.ta.length=true->m=true:=fun h=>by rw[<-hm];exact h
 simp only[go_sem,a3,a4,a5,a6];refine loop Tryz.mixed 0 (fun i:Nat=>[(3,.ptr 3 0),(5,.int .i64 i)]) (fun i=>[(3,.cells (pl p))]) (fun i=>i<=p.ta.length/\∀j,j<i->ni p.ta j=true) (fun i=>p.ta.length - i) (by kernel_rfl) ?_ ?_ ?_
 ·simp
 ·simp only[go_sem]
 ·rintro i ⟨hi,hp⟩;by_cases hi':i<p.ta.length
  ·have hlt:(i:Int)<(p.ta.length:Int):=by omega
   by_cases b1:el p.ta i<1
   ·have hq:ni p.ta i=false:=decide_eq_false (by omega);simp only[go_sem,hlt,hi',b1];exact⟨ae (by kernel_rfl),(hbad (gn hi' hq)).symm⟩
   by_cases b2:1000<el p.ta i
   ·have hq:ni p.ta i=false:=decide_eq_false (by omega);simp only[go_sem,hlt,hi',b1,b2];exact⟨ae (by kernel_rfl),(hbad (gn hi' hq)).symm⟩
   by_cases b3:0<i
   ·have b3':(0:Int)<(i:Int):=by omega
    have e1:IntKind.i64.wrap ((i:Int) - 1)=((i - 1:Nat):Int):=by rw[ai]<;>omega
    have e2:i - 1<p.ta.length:=by omega
    by_cases b4:el p.ta (i - 1)<el p.ta i
    ·have hq:ni p.ta i=false:=decide_eq_false (by omega);simp only[go_sem,hlt,hi',b1,b2,b3',e1,e2,b4];exact⟨ae (by kernel_rfl),(hbad (gn hi' hq)).symm⟩
    ·have hq:ni p.ta i=true:=decide_eq_true (by omega);simp only[go_sem,hlt,hi',b1,b2,b3',e1,e2,b4];exact⟨ae (by kernel_rfl),i+1,⟨⟨by omega,d6 hp hq⟩,by omega⟩,by rw[ai]<;>omega⟩
   ·have b3': ¬(0:Int)<(i:Int):=by omega
    have hq:ni p.ta i=true:=decide_eq_true (by omega);simp only[go_sem,hlt,hi',b1,b2,b3'];exact⟨ae (by kernel_rfl),i+1,⟨⟨by omega,d6 hp hq⟩,by omega⟩,by rw[ai]<;>omega⟩
  ·have hf: ¬((i:Int)<(p.ta.length:Int)):=by omega
   have:i=p.ta.length:=by omega
   subst this;simp only[go_sem,hf];exact(hgood (s4 hp)).symm
theorem axw(p:Pol)(h1:big p.se.length)(h2:big p.ta.length):Den Tryz.prog 54 [.agg [.int .i64 64,.vs [],.vs []],.agg (pl p)] [] (.int .i64 (if m6 p then 0 else 15)) [] []:=by
 refine aa Tryz.func54 rfl Tryz.call54 Tryz.ntmps54 Tryz.results54 (by simp) (by kernel_rfl) [] (exts:=[]) rfl rfl ?_;simp only[go_sem];refine call a69 [] ?_;simp only[go_sem];refine call (avl p h1 h2) [] ?_
 cases m6 p
 ·simp only[go_sem]
 ·simp only[go_sem]
def da(r:Rl):Int:=if j8 r.gen=false then 43 else if m6 r.pol=false then 15 else if(1<=r.seats/\r.seats<=9/\1<=r.span/\r.span<=1000000/\0<=r.quota/\r.quota<=64)then 0 else 40
theorem qt(r:Rl)(h0:big r.gen.length)(h1:big r.pol.se.length)(h2:big r.pol.ta.length):Den Tryz.prog 26 [.agg (rl r)] [] (.int .i64 (da r)) [] []:=by
 refine aa Tryz.func26 rfl Tryz.call26 Tryz.ntmps26 Tryz.results26 (by simp) (by kernel_rfl) [] (exts:=[]) rfl rfl ?_;generalize hm:da r=m;simp only[go_sem];refine call (awj r.gen h0) [] ?_
 cases a1:j8 r.gen
 ·rw[da,if_pos a1]at hm;simp only[go_sem];exact hm
 rw[da,if_neg (by simp[a1])]at hm;simp only[go_sem];refine call (axw r.pol h1 h2) [] ?_
 cases a2:m6 r.pol
 ·rw[if_pos a2]at hm;simp only[go_sem];exact hm
 rw[if_neg (by simp[a2])]at hm;by_cases c1:r.seats<1
 ·rw[if_neg (by omega)]at hm;simp only[go_sem,c1];exact hm
 by_cases c2:9<r.seats
 ·rw[if_neg (by omega)]at hm;simp only[go_sem,c1,c2];exact hm
 by_cases c3:r.span<1
 ·rw[if_neg (by omega)]at hm;simp only[go_sem,c1,c2,c3];exact hm
 by_cases c4:1000000<r.span
 ·rw[if_neg (by omega)]at hm;simp only[go_sem,c1,c2,c3,c4];exact hm
 by_cases c5:r.quota<0
 ·rw[if_neg (by omega)]at hm;simp only[go_sem,c1,c2,c3,c4,c5];exact hm
 by_cases c6:64<r.quota
 ·rw[if_neg (by omega)]at hm;simp only[go_sem,c1,c2,c3,c4,c5,c6];exact hm
 rw[if_pos (by omega)]at hm;simp only[go_sem,c1,c2,c3,c4,c5,c6];exact hm
def ej(l:List Int)(p p1 p2 q q1 q2 q3 q4:Nat):Rl:=
 ⟨([0,1,2,3,4,5,6]:List Int).take (2+aj l q 5).toNat,
  ⟨if aj l q4 3=2 then [0,1]else [0],
  [1+el ([4,8,2]:List Int) (aj l q1 3).toNat,if 1+el ([2,1,0]:List Int) (aj l q2 3).toNat<1+el ([4,8,2]:List Int) (aj l q1 3).toNat then 1+el ([2,1,0]:List Int) (aj l q2 3).toNat else 1+el ([4,8,2]:List Int) (aj l q1 3).toNat],
  el [1,1,2] (aj l q3 3).toNat⟩,
  el [3,1,4,5,2] (aj l p 5).toNat,el [10,20,5,1] (aj l p1 4).toNat,el [1,2,0,5] (aj l p2 4).toNat⟩
def dgo(l:List Int)(p:Nat):Nat->Nat
 |0=>p
 |n+1=>aca l (dgo l p n)
theorem cy{l:List Int}{p:Nat}(hp:p<=l.length): ∀n,dgo l p n<=l.length
 |0=>hp
 |n+1=>a2h (cy hp n)
theorem bg(l:List Int)(p n:Nat):aca l (dgo l p n)=dgo l p (n+1):=(rfl)
def fy(l:List Int)(p:Nat):Rl:=ej l p (dgo l p 1) (dgo l p 2) (dgo l p 3) (dgo l p 4) (dgo l p 5) (dgo l p 6) (dgo l p 7)
theorem als(l:List Int)(p p1 p2 q q1 q2 q3 q4:Nat):da (ej l p p1 p2 q q1 q2 q3 q4)=0:=by
 have h1:=bh (l:=l) (p:=p) (n:=5) (by omega);have h2:=bh (l:=l) (p:=p1) (n:=4) (by omega);have h3:=bh (l:=l) (p:=p2) (n:=4) (by omega);have h4:=bh (l:=l) (p:=q) (n:=5) (by omega);have h5:=bh (l:=l) (p:=q1) (n:=3) (by omega);have h6:=bh (l:=l) (p:=q2) (n:=3) (by omega);have h7:=bh (l:=l) (p:=q3) (n:=3) (by omega);have h8:=bh (l:=l) (p:=q4) (n:=3) (by omega)
 have a1:j8 (ej l p p1 p2 q q1 q2 q3 q4).gen=true:=by
  show j8 (([0,1,2,3,4,5,6]:List Int).take (2+aj l q 5).toNat)=true;have:aj l q 5=0\/aj l q 5=1\/aj l q 5=2\/aj l q 5=3\/aj l q 5=4:=by omega
  rcases this with h|h|h|h|h<;>rw[h]<;>decide
 have a2:m6 (ej l p p1 p2 q q1 q2 q3 q4).pol=true:=by
  show m6 ⟨if aj l q4 3=2 then [0,1]else [0],_,_⟩=true;have c5:aj l q1 3=0\/aj l q1 3=1\/aj l q1 3=2:=by omega
  have c6:aj l q2 3=0\/aj l q2 3=1\/aj l q2 3=2:=by omega
  have c7:aj l q3 3=0\/aj l q3 3=1\/aj l q3 3=2:=by omega
  by_cases c8:aj l q4 3=2
  ·rw[if_pos c8];rcases c5 with h|h|h<;>rcases c6 with h'|h'|h'<;>rcases c7 with h''|h''|h''<;>rw[h,h',h'']<;>decide
  ·rw[if_neg c8];rcases c5 with h|h|h<;>rcases c6 with h'|h'|h'<;>rcases c7 with h''|h''|h''<;>rw[h,h',h'']<;>decide
 have a3:1<=(ej l p p1 p2 q q1 q2 q3 q4).seats/\(ej l p p1 p2 q q1 q2 q3 q4).seats<=9/\1<=(ej l p p1 p2 q q1 q2 q3 q4).span/\(ej l p p1 p2 q q1 q2 q3 q4).span<=1000000/\0<=(ej l p p1 p2 q q1 q2 q3 q4).quota/\(ej l p p1 p2 q q1 q2 q3 q4).quota<=64:=by
  show 1<=el [3,1,4,5,2] (aj l p 5).toNat/\el [3,1,4,5,2] (aj l p 5).toNat<=9/\1<=el [10,20,5,1] (aj l p1 4).toNat/\el [10,20,5,1] (aj l p1 4).toNat<=1000000/\0<=el [1,2,0,5] (aj l p2 4).toNat/\el [1,2,0,5] (aj l p2 4).toNat<=64;have c1:aj l p 5=0\/aj l p 5=1\/aj l p 5=2\/aj l p 5=3\/aj l p 5=4:=by omega
  have c2:aj l p1 4=0\/aj l p1 4=1\/aj l p1 4=2\/aj l p1 4=3:=by omega
  have c3:aj l p2 4=0\/aj l p2 4=1\/aj l p2 4=2\/aj l p2 4=3:=by omega
  refine⟨?_,?_,?_,?_,?_,?_⟩
  ·rcases c1 with h|h|h|h|h<;>rw[h]<;>decide
  ·rcases c1 with h|h|h|h|h<;>rw[h]<;>decide
  ·rcases c2 with h|h|h|h<;>rw[h]<;>decide
  ·rcases c2 with h|h|h|h<;>rw[h]<;>decide
  ·rcases c3 with h|h|h|h<;>rw[h]<;>decide
  ·rcases c3 with h|h|h|h<;>rw[h]<;>decide
 rw[da,if_neg (by simp[a1]),if_neg (by simp[a2]),if_pos a3]
theorem mt(l:List Int)(p:Nat):da (fy l p)=0:=als _ _ _ _ _ _ _ _ _
theorem a5u{l:List Int}{a b:Int}(h0:a<=0/\0<=b)(h: ∀x∈l,a<=x/\x<=b)(i:Nat):a<=el l i/\el l i<=b:=by
 by_cases hi:i<l.length
 ·exact h _ (gj hi)
 ·have:el l i=0:=by simp[el,bq,List.getElem?_eq_none (by omega:l.length<=i)]
  rw[this];exact h0
theorem anz(l:List Int)(p:Nat)(hl:big l.length)(hp:p<=l.length):Den Tryz.prog 18 [.ptr 1000000 0] [q7 l p] (.agg (rl (fy l p))) [] [q7 l (dgo l p 8)]:=by
 refine aa Tryz.func18 rfl Tryz.call18 Tryz.ntmps18 Tryz.results18 (by simp) (by kernel_rfl) [] (exts:=[1000000]) rfl rfl ?_;have hp1:=cy hp 1;have hp2:=cy hp 2;have hp3:=cy hp 3;have hp4:=cy hp 4;have hp5:=cy hp 5;have hp6:=cy hp 6;have hp7:=cy hp 7;generalize hm:fy l p=m;have hm:ej l p (dgo l p 1) (dgo l p 2) (dgo l p 3) (dgo l p 4) (dgo l p 5) (dgo l p 6) (dgo l p 7)=m:=hm;have e0:aca l p=dgo l p 1:=rfl;simp only[go_sem];refine call (ph l p [3,1,4,5,2] hl hp (by simp) (by simp[big])) [1000000] ?_;simp only[go_sem,e0];refine call (ph l (dgo l p 1) [10,20,5,1] hl hp1 (by simp) (by simp[big])) [1000000] ?_;simp only[go_sem,bg];refine call (ph l (dgo l p 2) [1,2,0,5] hl hp2 (by simp) (by simp[big])) [1000000] ?_;simp only[go_sem,bg];refine call (ax l (dgo l p 3) 5 hl hp3 (by omega)) [1000000] ?_;have hn:=bh (l:=l) (p:=dgo l p 3) (n:=5) (by omega);have e1:IntKind.i64.wrap (2+aj l (dgo l p 3) 5)=2+aj l (dgo l p 3) 5:=by rw[ai]<;>omega
 simp only[go_sem,e1,bg];refine⟨⟨by omega,by omega⟩,?_⟩;refine call (ph l (dgo l p 4) [4,8,2] hl hp4 (by simp) (by simp[big])) [1000000] ?_;simp only[go_sem,bg];refine call (ph l (dgo l p 5) [2,1,0] hl hp5 (by simp) (by simp[big])) [1000000] ?_;simp only[go_sem,bg];refine call (ph l (dgo l p 6) [1,1,2] hl hp6 (by simp) (by simp[big])) [1000000] ?_;simp only[go_sem,bg];refine call (acq l (dgo l p 7) 3 hl hp7 (by omega) (by omega)) [1000000] ?_
 have w1:IntKind.i64.wrap (1+el [4,8,2] (aj l (dgo l p 4) 3).toNat)=1+el [4,8,2] (aj l (dgo l p 4) 3).toNat:=by
  have:=a5u (l:=[4,8,2]) (a:=0) (b:=8) (by omega) (by simp) (aj l (dgo l p 4) 3).toNat;rw[ai]<;>omega
 have w2:IntKind.i64.wrap (1+el [2,1,0] (aj l (dgo l p 5) 3).toNat)=1+el [2,1,0] (aj l (dgo l p 5) 3).toNat:=by
  have:=a5u (l:=[2,1,0]) (a:=0) (b:=8) (by omega) (by simp) (aj l (dgo l p 5) 3).toNat;rw[ai]<;>omega
 have htk: ∀k:Nat,List.take k [[PV.int IntKind.i64 0],[PV.int IntKind.i64 1],[PV.int IntKind.i64 2],[PV.int IntKind.i64 3],[PV.int IntKind.i64 4],[PV.int IntKind.i64 5],[PV.int IntKind.i64 6]]=List.map i1 (([0,1,2,3,4,5,6]:List Int).take k):=fun k=>by
  rw[List.map_take];rfl
 cases h:decide (aj l (dgo l p 7) 3=3 - 1)
 ·have hc: ¬aj l (dgo l p 7) 3=2:=of_decide_eq_false h;simp only[go_sem,bg,w1,w2];refine⟨ae (by kernel_rfl),by decide,?_⟩;subst hm;refine⟨htk _,?_,?_,rfl,rfl,rfl,rfl⟩
  ·simp only[ej,if_neg hc];rfl
  ·by_cases hx:(1:Int)+el ([2,1,0]:List Int) (aj l (dgo l p 5) 3).toNat<1+el ([4,8,2]:List Int) (aj l (dgo l p 4) 3).toNat
   ·simp only[ej,if_pos hx,List.map_cons,List.map_nil,aud]
   ·simp only[ej,if_neg hx,List.map_cons,List.map_nil,aud]
 ·have hc:aj l (dgo l p 7) 3=2:=of_decide_eq_true h;simp only[go_sem,bg,w1,w2];refine⟨ae (by kernel_rfl),by decide,?_⟩;subst hm;refine⟨htk _,?_,?_,rfl,rfl,rfl,rfl⟩
  ·simp only[ej,if_pos hc];rfl
  ·by_cases hx:(1:Int)+el ([2,1,0]:List Int) (aj l (dgo l p 5) 3).toNat<1+el ([4,8,2]:List Int) (aj l (dgo l p 4) 3).toNat
   ·simp only[ej,if_pos hx,List.map_cons,List.map_nil,aud]
   ·simp only[ej,if_neg hx,List.map_cons,List.map_nil,aud]
def a1n(l:List Int)(p:Nat):List UInt8:=[bAt (aj l p 4) 0]++(List.replicate 30 0++[bAt (aj l (dgo l p 1) 256) 0])
theorem ake(l:List Int)(p:Nat):(a1n l p).length=32:=rfl
theorem aom(l:List Int)(p:Nat)(hl:big l.length)(hp:p<=l.length):Den Tryz.prog 50 [.ptr 1000000 0] [q7 l p] (.str (a1n l p)) [] [q7 l (dgo l p 2)]:=by
 refine aa Tryz.func50 rfl Tryz.call50 Tryz.ntmps50 Tryz.results50 (by simp) (by kernel_rfl) [] (exts:=[1000000]) rfl rfl ?_;have hp1:=cy hp 1;have e0:aca l p=dgo l p 1:=rfl;simp only[go_sem];refine call (ax l p 4 hl hp (by omega)) [1000000] ?_;simp only[go_sem,e0];refine call (ax l (dgo l p 1) 256 hl hp1 (by omega)) [1000000] ?_;simp only[go_sem,bg,apk];exact⟨⟨rfl,by show(31:Int)<32;omega⟩,rfl,rfl,a1n l p,rfl,rfl⟩
theorem mz(bs:List UInt8)(v:Int)(hb:small bs.length):Den Tryz.prog 53 [.os 1000000 bs.length,.int .i64 v] [.arr 5 1 false (bs.map u8)] (.os 1000000 (bs++be8 v).length) [] [.arr 5 1 false ((bs++be8 v).map u8)]:=by
 refine aa Tryz.func53 rfl Tryz.call53 Tryz.ntmps53 Tryz.results53 (by simp) (by kernel_rfl) [] (exts:=[1000000]) rfl rfl ?_;simp only[go_sem];refine loop Tryz.mixed 0 (fun m:Nat=>[(5,.int .u64 (IntKind.u64.wrap v)),(0,.os 1000000 (bs++(be8 v).take m).length),(6,.int .i64 (7 - (m:Int)))]) (fun m=>[(1000000,.arr 5 1 false ((bs++(be8 v).take m).map u8))]) (fun m=>m<=8) (fun m=>8 - m) (by kernel_rfl) ?_ ?_ ?_
 ·simp
 ·simp only[go_sem,List.take_zero,List.append_nil]
 ·intro m hm;have hl:((be8 v).take m).length=m:=by simp[be8];omega
  by_cases h:m<8
  ·have e1:IntKind.u64.wrap (IntKind.i64.wrap (8*(7 - (m:Int))))=((56 - 8*m:Nat):Int):=by rw[ai (by omega) (by omega),IntKind.wrap_u64];omega
   have e0:(be8 v).take (m+1)=(be8 v).take m++[bAt v (56 - 8*m)]:=by
    have:m=0\/m=1\/m=2\/m=3\/m=4\/m=5\/m=6\/m=7:=by omega
    rcases this with rfl|rfl|rfl|rfl|rfl|rfl|rfl|rfl<;>rfl
   have e2:min (56 - 8*m) 64=56 - 8*m:=by omega
   have hc:(0:Int)<=7 - (m:Int):=by omega
   simp only[go_sem,hc,e1,e2,aak v (56 - 8*m) (by omega),hl]
   (repeat refine And.intro (by first|omega|exact ae (by kernel_rfl)) ?_)
   refine⟨m+1,⟨by omega,by omega⟩,?_⟩;rw[e0];simp only[go_sem,List.map_append,List.append_assoc,hl];rw[ai]<;>omega
  ·have hm2:m=8:=by omega
   subst hm2;have h8:(be8 v).take 8=be8 v:=rfl;have hc: ¬(0:Int)<=7 - ((8:Nat):Int):=by omega
   rw[h8];simp only[go_sem,hc]
def lsB(l:List Int):List UInt8:=be8 l.length++beL l
theorem gu(l:List Int):(lsB l).length=8*l.length+8:=by simp only[lsB,List.length_append,aw,dw];omega
theorem m5(bs:List UInt8)(l:List Int)(hb:bs.length<=1000000000)(hl:l.length<=1000000000):Den Tryz.prog 43 [.os 1000000 bs.length,.vs (l.map i1)] [.arr 5 1 false (bs.map u8)] (.os 1000000 (bs++lsB l).length) [] [.arr 5 1 false ((bs++lsB l).map u8)]:=by
 refine aa Tryz.func43 rfl Tryz.call43 Tryz.ntmps43 Tryz.results43 (by simp) (by kernel_rfl) [] (exts:=[1000000]) rfl rfl ?_;simp only[go_sem];refine call (mz bs l.length (by simp only[small];omega)) [1000000] ?_;simp only[go_sem];refine⟨by omega,?_⟩;refine loop Tryz.mixed 0 (fun i:Nat=>[(1,.vs (l.map i1)),(0,.os 1000000 (bs++(be8 l.length++beL (l.take i))).length),(5,.int .i64 i)]) (fun i=>[(1000000,.arr 5 1 false ((bs++(be8 l.length++beL (l.take i))).map u8))]) (fun i=>i<=l.length) (fun i=>l.length - i) (by kernel_rfl) ?_ ?_ ?_
 ·simp
 ·simp only[go_sem,List.take_zero,beL,List.flatMap_nil,List.append_nil]
 ·intro i hi;have hti:(l.take i).length=i:=by simp;omega
  simp only[go_sem];refine⟨fun h=>⟨by omega,call (mz (bs++(be8 l.length++beL (l.take i))) (el l i) (by simp only[small,List.length_append,aw,dw,hti];omega)) [1000000] ?_⟩,fun h=> ?_⟩
  ·simp only[go_sem];refine⟨by omega,i+1,⟨by omega,by omega⟩,?_⟩;rw[c9 h,i8];simp only[go_sem,List.map_append,List.append_assoc,beL,List.flatMap_cons,List.flatMap_nil];refine⟨by omega,?_⟩;rw[ai]<;>omega
  ·have:i=l.length:=by omega
   subst this;simp only[go_sem,List.take_length,lsB]
def b0(r:Rl):List UInt8:=(((([116,114,117,115,116,102,108,111,119]:List UInt8)++lsB r.gen)++lsB r.pol.se)++lsB r.pol.ta)++lsB [r.pol.lv,r.seats,r.span,r.quota]
def zo(r:Rl):List UInt8:=sha (b0 r)
theorem ag9{r:Rl}(h:da r=0):j8 r.gen=true/\m6 r.pol=true/\(1<=r.seats/\r.seats<=9/\1<=r.span/\r.span<=1000000/\0<=r.quota/\r.quota<=64):=by
 unfold da at h;split at h
 ·omega
 split at h
 ·omega
 split at h
 ·rename_i a b c;exact⟨by simpa using a,by simpa using b,c⟩
 ·omega
theorem vj(r:Rl)(hr:da r=0)(h0:r.gen.length<=1000000)(h1:r.pol.se.length<=1000000)(h2:r.pol.ta.length<=1000000):Den Tryz.prog 19 [.agg (rl r)] [] (.tup [.str (zo r),.int .i64 0]) [] []:=by
 refine aa Tryz.func19 rfl Tryz.call19 Tryz.ntmps19 Tryz.results19 (by simp) (by kernel_rfl) [] (exts:=[]) rfl rfl ?_;have c0:=qt r (by simp only[big];omega) (by simp only[big];omega) (by simp only[big];omega);rw[hr,dz]at c0;simp only[go_sem];refine call c0 [] ?_;simp only[go_sem];refine call (m5 [116,114,117,115,116,102,108,111,119] r.gen (by simp) (by omega)) [11] ?_;simp only[go_sem];refine call (m5 ([116,114,117,115,116,102,108,111,119]++lsB r.gen) r.pol.se (by simp only[List.length_append,gu,List.length_cons,List.length_nil];omega) (by omega)) [11] ?_;simp only[go_sem];refine⟨by omega,call (m5 (([116,114,117,115,116,102,108,111,119]++lsB r.gen)++lsB r.pol.se) r.pol.ta (by simp only[List.length_append,gu,List.length_cons,List.length_nil];omega) (by omega)) [11] ?_⟩;simp only[go_sem];refine⟨by omega,call (m5 ((([116,114,117,115,116,102,108,111,119]++lsB r.gen)++lsB r.pol.se)++lsB r.pol.ta) [r.pol.lv,r.seats,r.span,r.quota] (by simp only[List.length_append,gu,List.length_cons,List.length_nil];omega) (by simp)) [11] ?_⟩;simp only[go_sem];refine⟨by omega,call (aav (b0 r) (by simp only[b0,List.length_append,gu,List.length_cons,List.length_nil];omega)) [] ?_⟩;simp only[go_sem];refine⟨?_,rfl⟩;simp only[b0,List.map_append,List.append_assoc];rfl
def ac4(s:List UInt8):Int:=bits .or .i64 (bits .or .i64 (bits .or .i64 (IntKind.i64.wrap (IntKind.i64.wrap ((s.getD 0 0).toNat:Int)*2^min 24 64)) (IntKind.i64.wrap (IntKind.i64.wrap ((s.getD 1 0).toNat:Int)*2^min 16 64))) (IntKind.i64.wrap (IntKind.i64.wrap ((s.getD 2 0).toNat:Int)*2^min 8 64))) (IntKind.i64.wrap ((s.getD 3 0).toNat:Int))
def ayn(v:List UInt8)(tag:List Int)(i:Nat):Int:=ac4 (sha ((v++lsB tag)++be8 i))
def rz(v:List UInt8)(tag:List Int):Nat->List Int
 |0=>[]
 |n+1=>rz v tag n++[ayn v tag n]
theorem jz(v:List UInt8)(tag:List Int): ∀n,(rz v tag n).length=n
 |0=>rfl
 |n+1=>by simp[rz,jz v tag n]
theorem rd(b:List UInt8):(sha b).length=32:=by rw[sha,abo,aj1]
theorem wi(v:List UInt8)(tag:List Int)(n:Nat)(hv:v.length=32)(ht:tag.length<=64)(hn:n<=64):Den Tryz.prog 47 [.str v,.vs (tag.map i1),.int .i64 n] [] (.tup [.vs ((rz v tag n).map i1),.int .i64 0]) [] []:=by
 refine aa Tryz.func47 rfl Tryz.call47 Tryz.ntmps47 Tryz.results47 (by simp) (by kernel_rfl) [] (exts:=[]) rfl rfl ?_;have g1:(v.length:Int)=32:=by omega
 have g2: ¬(64:Int)<(tag.length:Int):=by omega
 have g3: ¬(n:Int)<0:=by omega
 have g4: ¬(64:Int)<(n:Int):=by omega
 simp only[go_sem,g1,g2,g3,g4];refine dm 8 99 3 1 false ?_ ?_ ?_ (by omega)
 ·refine loop Tryz.mixed 0 (fun i:Nat=>[(0,.str v),(1,.vs (tag.map i1)),(2,.int .i64 n),(8,.os 99 (rz v tag i).length),(9,.int .i64 i)]) (fun i=>[(99,.arr 3 1 false ((rz v tag i).map i1))]) (fun i=>i<=n) (fun i=>n - i) (by kernel_rfl) ?_ ?_ ?_
  ·simp
  ·simp only[go_sem,rz,List.map_nil,List.length_nil]
  ·intro i hi;have hnl:=jz v tag i;by_cases h:i<n
   ·have hlt:(i:Int)<(n:Int):=by omega
    simp only[go_sem,hlt];refine⟨by omega,call (m5 v tag (by omega) (by omega)) [28] ?_⟩;simp only[go_sem];refine⟨by omega,call (mz (v++lsB tag) i (by simp only[small,List.length_append,gu];omega)) [28] ?_⟩;simp only[go_sem];refine⟨by omega,call (aav ((v++lsB tag)++be8 i) (by simp only[List.length_append,gu,aw];omega)) [] ?_⟩;have hs:=rd ((v++lsB tag)++be8 i);have hna:ayn v tag i=ac4 (sha ((v++lsB tag)++be8 i)):=rfl;generalize hS:sha ((v++lsB tag)++be8 i)=S at*;simp only[go_sem,hs]
    (repeat refine And.intro (by first|omega|exact ae (by kernel_rfl)) ?_)
    refine⟨i+1,⟨by omega,by omega⟩,?_⟩;rw[rz,hna,ac4];simp only[go_sem,List.map_append];rw[ai]<;>omega
   ·have hm2:i=n:=by omega
    subst hm2;have hc: ¬(i:Int)<(i:Int):=by omega
    simp only[go_sem,hc]
 ·simp only[go_sem]
 ·simp only[go_sem]
theorem adx(a b:List Int)(ha:big a.length)(hb:big b.length):Den Tryz.prog 48 [.vs (a.map i1),.vs (b.map i1)] [] (.vs ((bm (fun k=>decide (k∈a)&& !decide (k∈b)) 64).map i1)) [] []:=by
 refine aa Tryz.func48 rfl Tryz.call48 Tryz.ntmps48 Tryz.results48 (by simp) (by kernel_rfl) [] (exts:=[]) rfl rfl ?_;simp only[go_sem];generalize hc:(fun k=>decide (k∈a)&& !decide (k∈b))=c;have hc': ∀k,c k=(decide (k∈a)&& !decide (k∈b)):=fun k=>by rw[<-hc]
 refine dm 5 99 3 1 false ?_ ?_ ?_ (by omega)
 ·simp only[go_sem];refine loop Tryz.mixed 0 (fun i:Nat=>[(0,.vs (a.map i1)),(1,.vs (b.map i1)),(5,.os 99 (bm c i).length),(6,.int .i64 i)]) (fun i=>[(99,.arr 3 1 false ((bm c i).map i1))]) (fun i=>i<=64) (fun i=>64 - i) (by kernel_rfl) ?_ ?_ ?_
  ·simp
  ·simp only[bm,List.range_zero,List.map_nil,List.filter_nil];simp only[go_sem]
  ·intro i hi;have hl:=fi c i;have hs:=fu c i;rw[hc']at hs;have fin: ∀t:Bool,(decide ((i:Int)∈a)&& !decide ((i:Int)∈b))=t->bm c (i+1)=bm c i++(if t then [(i:Int)]else []):=fun t ht=>by rw[hs,ht]
   by_cases hi':i<64
   ·have hlt:(i:Int)<64:=by omega
    simp only[go_sem,hlt];refine call (avy a i ha) [] ?_;by_cases h1:(i:Int)∈a
    ·simp only[go_sem,h1];refine call (avy b i hb) [] ?_;by_cases h2:(i:Int)∈b
     ·have:=fin false (by simp[h2]);simp only[go_sem,h2];refine⟨i+1,⟨by omega,by omega⟩,?_⟩;simp only[go_sem,this,List.map_append,List.length_append];rw[ai]<;>omega
     ·have:=fin true (by simp[h1,h2]);simp only[go_sem,h2];refine⟨by omega,i+1,⟨by omega,by omega⟩,?_⟩;simp only[go_sem,this,List.map_append,List.length_append];rw[ai]<;>omega
    ·have:=fin false (by simp[h1]);simp only[go_sem,h1];refine⟨i+1,⟨by omega,by omega⟩,?_⟩;simp only[go_sem,this,List.map_append,List.length_append];rw[ai]<;>omega
   ·have:i=64:=by omega
    have hf: ¬((i:Int)<64):=by omega
    simp only[go_sem,hf];subst this;rfl
 ·simp only[go_sem]
 ·simp only[go_sem]
theorem wq(a b:Nat)(ha:a<9223372036854775808)(hb:b<9223372036854775808):bits .or .i64 (a:Int) (b:Int)=((a|||b:Nat):Int):=by
 have hx:a|||b<2^63:=Nat.or_lt_two_pow (by omega) (by omega)
 have h1:(BitVec.ofInt 64 (a:Int)).toNat=a:=by
  rw[BitVec.ofInt_natCast,BitVec.toNat_ofNat];exact Nat.mod_eq_of_lt (by omega)
 have h2:(BitVec.ofInt 64 (b:Int)).toNat=b:=by
  rw[BitVec.ofInt_natCast,BitVec.toNat_ofNat];exact Nat.mod_eq_of_lt (by omega)
 show IntKind.i64.wrap ((BitVec.ofInt 64 (a:Int)|||BitVec.ofInt 64 (b:Int)).toNat:Int)=_;rw[BitVec.toNat_or,h1,h2,IntKind.wrap_i64];omega
theorem axy(s:List UInt8):0<=ac4 s:=by
 have hb: ∀k,(s.getD k 0).toNat<256:=fun k=>(s.getD k 0).toNat_lt;have w: ∀k,IntKind.i64.wrap ((s.getD k 0).toNat:Int)=((s.getD k 0).toNat:Int):=fun k=>ai (by omega) (by have:=hb k;omega);unfold ac4;rw[w,w,w,w];have b0:=hb 0;have b1:=hb 1;have b2:=hb 2;have b3:=hb 3;generalize (s.getD 0 0).toNat=x0 at*;generalize (s.getD 1 0).toNat=x1 at*;generalize (s.getD 2 0).toNat=x2 at*;generalize (s.getD 3 0).toNat=x3 at*
 have e0:IntKind.i64.wrap ((x0:Int)*2^min 24 64)=((x0*16777216:Nat):Int):=by
  have:(2:Int)^min 24 64=16777216:=by rfl
  rw[this,ai]<;>omega
 have e1:IntKind.i64.wrap ((x1:Int)*2^min 16 64)=((x1*65536:Nat):Int):=by
  have:(2:Int)^min 16 64=65536:=by rfl
  rw[this,ai]<;>omega
 have e2:IntKind.i64.wrap ((x2:Int)*2^min 8 64)=((x2*256:Nat):Int):=by
  have:(2:Int)^min 8 64=256:=by rfl
  rw[this,ai]<;>omega
 rw[e0,e1,e2,wq _ _ (by omega) (by omega)];have l1:x0*16777216|||x1*65536<2^32:=Nat.or_lt_two_pow (by omega) (by omega);rw[wq _ _ (by omega) (by omega)];have l2:(x0*16777216|||x1*65536)|||x2*256<2^32:=Nat.or_lt_two_pow (by omega) (by omega);rw[wq _ _ (by omega) (by omega)];omega
theorem av3(v:List UInt8)(tag:List Int)(i:Nat):0<=ayn v tag i:=axy _
theorem og(v:List UInt8)(tag:List Int): ∀n,∀x∈rz v tag n,0<=x
 |0,x,h=>by simp[rz]at h
 |n+1,x,h=>by
  rw[rz,List.mem_append]at h;rcases h with h|h
  ·exact og v tag n x h
  ·rw[List.mem_singleton]at h;rw[h];exact av3 _ _ _
def mf(v s:Int):Bool:=decide (1<=s/\s<=9/\0<=v/\v<=s/\3*s<4*v)
theorem alq(v s:Int):Den Tryz.prog 102 [.int .i64 v,.int .i64 s] [] (.bool (mf v s)) [] []:=by
 refine aa Tryz.func102 rfl Tryz.call102 Tryz.ntmps102 Tryz.results102 (by simp) (by kernel_rfl) [] (exts:=[]) rfl rfl ?_;by_cases h1:1<=s
 ·by_cases h2:s<=9
  ·by_cases h3:0<=v
   ·by_cases h4:v<=s
    ·have e1:IntKind.i64.wrap (4*v)=4*v:=by rw[ai]<;>omega
     have e2:IntKind.i64.wrap (3*s)=3*s:=by rw[ai]<;>omega
     simp only[go_sem,h1,h2,h3,h4,e1,e2];simp[mf,h1,h2,h3,h4]
    ·have:mf v s=false:=decide_eq_false (by omega);simp only[go_sem,h1,h2,h3,h4,this]
   ·have:mf v s=false:=decide_eq_false (by omega);simp only[go_sem,h1,h2,h3,this]
  ·have:mf v s=false:=decide_eq_false (by omega);simp only[go_sem,h1,h2,this]
 ·have:mf v s=false:=decide_eq_false (by omega);simp only[go_sem,h1,this]
theorem elg{l:List Int}{i:Nat}(h:i<l.length):el l i=l[i]:=by
 simp only[el,bq,bf h,Option.getD_some]
theorem a24{l:List Int}{n:Int}(hp:l.Pairwise (· < ·))(hb: ∀x∈l,0<=x/\x<n):aac l n=true:=
 s4 fun i hi=>decide_eq_true (by
  have h1:=hb _ (gj hi);refine⟨h1.1,h1.2,fun h0=> ?_⟩;have:=List.pairwise_iff_getElem.1 hp (i - 1) i (by omega) hi (by omega)
  rwa [elg (by omega),elg hi])
theorem a0o{l:List Int}{n:Int}(h:aac l n=true):l.Pairwise (· < ·)/\∀x∈l,0<=x/\x<n:=by
 have h': ∀i,i<l.length->ko n l i=true:=of_decide_eq_true h;have ok: ∀i,i<l.length->(0<=el l i/\el l i<n/\(0<i->el l (i - 1)<el l i)):=fun i hi=>of_decide_eq_true (h' i hi);refine⟨List.pairwise_iff_getElem.2 ?_,fun x hx=> ?_⟩
 ·have key: ∀d i,i+(d+1)<l.length->el l i<el l (i+(d+1)):=by
   intro d
   induction d with
   |zero=>intro i hi;exact(ok (i+1) hi).2.2 (by omega)
   |succ d ih=>
    intro i hi;have h1:=ih i (by omega);have h2:=(ok (i+(d+1+1)) hi).2.2 (by omega);exact Int.lt_trans h1 h2
  intro i j hi hj hij;have:=key (j - i - 1) i (by omega);rw[elg hi]at this;have e:i+(j - i - 1+1)=j:=by omega
  rw[e,elg hj]at this;exact this
 ·obtain⟨i,hi,rfl⟩:=w6 hx;exact⟨(ok i hi).1,(ok i hi).2.1⟩
theorem ar6{l:List Int}(hp:l.Pairwise (· < ·))(hb: ∀x∈l,0<=x/\x<64)(h0:l≠[])(h1:l.length<=64):j8 l=true:=by
 have:0<l.length:=by cases l with|nil=>exact absurd rfl h0|cons=>simp
 rw[j8,decide_eq_true (by omega),a24 hp hb];rfl
theorem kz{l:List Int}(h:j8 l=true):l.Pairwise (· < ·)/\(∀x∈l,0<=x/\x<64)/\l≠[]/\l.length<=64:=by
 rw[j8,Bool.and_eq_true]at h;have h1:=of_decide_eq_true h.1;have h2:=a0o h.2;exact⟨h2.1,h2.2,fun e=>by rw[e]at h1;simp at h1,h1.2⟩
theorem aa1(c:Int->Bool)(n:Nat):(bm c n).Pairwise (· < ·):=by
 unfold bm;refine List.Pairwise.filter _ ?_;rw[List.pairwise_map];exact List.pairwise_lt_range.imp fun h=>by omega
theorem pj{c:Int->Bool}(h:bm c 64≠[]):j8 (bm c 64)=true:=
 ar6 (aa1 c 64) (fun x hx=>by have:=(qu.1 hx).1;omega) h (fi c 64)
def bp(l nu:List Int):Nat->List Int×List Int
 |0=>([],l)
 |i+1=>
  ((bp l nu i).1++[el (bp l nu i).2 ((el nu i).tmod (bp l nu i).2.length).toNat],
   (bp l nu i).2.take ((el nu i).tmod (bp l nu i).2.length).toNat++(bp l nu i).2.drop (((el nu i).tmod (bp l nu i).2.length).toNat+1))
theorem abl{a:Int}{n:Nat}(ha:0<=a)(hn:0<n):0<=a.tmod n/\a.tmod n<n:=⟨Int.tmod_nonneg _ ha,Int.tmod_lt_of_pos _ (by omega)⟩
theorem pz{l nu:List Int}(hn: ∀x∈nu,0<=x): ∀i,i<=l.length->(bp l nu i).1.length=i/\(bp l nu i).2.length=l.length - i
 |0,_=>⟨rfl,rfl⟩
 |i+1,hi=>by
  have ih:=pz (l:=l) hn i (by omega)
  have h0:0<=el nu i:=by
   by_cases h:i<nu.length
   ·exact hn _ (gj h)
   ·have:el nu i=0:=by simp[el,bq,List.getElem?_eq_none (by omega:nu.length<=i)]
    omega
  have hb:=abl (n:=(bp l nu i).2.length) h0 (by omega);simp only[bp,List.length_append,List.length_cons,List.length_nil,List.length_take,List.length_drop];omega
theorem wl{l nu:List Int}(hn: ∀x∈nu,0<=x): ∀i,i<=l.length->List.Perm ((bp l nu i).1++(bp l nu i).2) l
 |0,_=>by simp[bp]
 |i+1,hi=>by
  have ih:=wl (l:=l) hn i (by omega);have hl:=pz (l:=l) hn i (by omega)
  have h0:0<=el nu i:=by
   by_cases h:i<nu.length
   ·exact hn _ (gj h)
   ·have:el nu i=0:=by simp[el,bq,List.getElem?_eq_none (by omega:nu.length<=i)]
    omega
  have hb:=abl (n:=(bp l nu i).2.length) h0 (by omega);refine List.Perm.trans ?_ ih;simp only[bp];generalize hk:((el nu i).tmod (bp l nu i).2.length).toNat=k;generalize (bp l nu i).1=o at*;generalize (bp l nu i).2=f at*;have hkl:k<f.length:=by omega
  rw[List.append_assoc];refine List.Perm.append_left o ?_
  have hf:f=f.take k++(el f k::f.drop (k+1)):=by
   have:=c9 hkl
   conv=>lhs;rw[<-List.take_append_drop (k+1) f]
   rw[this];simp
  (conv=>rhs;rw[hf])
  rw[List.singleton_append];exact List.perm_middle.symm
theorem ax7{l nu:List Int}(hn: ∀x∈nu,0<=x){i:Nat}(hi:i<=l.length){x:Int}(hx:x∈(bp l nu i).1):x∈l:=
 (wl hn i hi).mem_iff.1 (List.mem_append_left _ hx)
theorem alo{l nu:List Int}(hn: ∀x∈nu,0<=x){i:Nat}(hi:i<=l.length)(hl:l.Nodup):(bp l nu i).1.Nodup:=
 (List.nodup_append.1 ((wl hn i hi).nodup_iff.2 hl)).1
theorem ajn(l nu:List Int)(s:Int)(hr:j8 l=true)(h1:1<=s)(h9:s<=9)(hs:9<=nu.length)(hnb:big nu.length)(hn: ∀x∈nu,0<=x):Den Tryz.prog 49 [.vs (l.map i1),.vs (nu.map i1),.int .i64 s] [] (.tup [.vs ((bp l nu (min s.toNat l.length)).1.map i1),.int .i64 0]) [] []:=by
 refine aa Tryz.func49 rfl Tryz.call49 Tryz.ntmps49 Tryz.results49 (by simp) (by kernel_rfl) [] (exts:=[]) rfl rfl ?_;obtain⟨_,_,hne,hl64⟩:=kz hr;simp only[go_sem];refine call (awj l (by simp only[big];omega)) [] ?_;rw[hr];have g1: ¬s<1:=by omega
 have g2: ¬9<s:=by omega
 generalize hm:min s.toNat l.length=m;have g0:(if(l.length:Int)<s then(l.length:Int)else s)=(m:Int):=by split<;>omega
 have g3: ¬(nu.length:Int)<(m:Int):=by omega
 simp only[go_sem,g0,g1,g2,g3];refine⟨by omega,?_⟩;refine dm 10 99 3 1 false ?_ ?_ ?_ (by omega)
 ·refine loop Tryz.mixed 0 (fun i:Nat=>[(1,.vs (nu.map i1)),(8,.int .i64 m),(9,.vs ((bp l nu i).2.map i1)),(10,.os 99 (bp l nu i).1.length),(11,.int .i64 i)]) (fun i=>[(99,.arr 3 1 false ((bp l nu i).1.map i1))]) (fun i=>i<=m) (fun i=>m - i) (by kernel_rfl) ?_ ?_ ?_
  ·simp
  ·simp only[go_sem,bp,List.map_nil,List.length_nil]
  ·intro i hi;obtain⟨hl1,hl2⟩:=pz (l:=l) hn i (by omega);by_cases h:i<m
   ·have hlt:(i:Int)<(m:Int):=by omega
    have hin:i<nu.length:=by omega
    have h0:0<=el nu i:=hn _ (gj hin);have g5: ¬el nu i<0:=by omega
    have hd1:(bp l nu (i+1)).1=(bp l nu i).1++[el (bp l nu i).2 ((el nu i).tmod (bp l nu i).2.length).toNat]:=rfl;have hd2:(bp l nu (i+1)).2=(bp l nu i).2.take ((el nu i).tmod (bp l nu i).2.length).toNat++(bp l nu i).2.drop (((el nu i).tmod (bp l nu i).2.length).toNat+1):=rfl;have hb:=abl (n:=(bp l nu i).2.length) h0 (by omega);generalize (bp l nu i).1=o at*;generalize (bp l nu i).2=f at*;obtain⟨k,hk⟩: ∃k:Nat,(el nu i).tmod f.length=(k:Int):=⟨((el nu i).tmod f.length).toNat,by omega⟩;rw[hk]at hb hd1 hd2;have e1:IntKind.i64.wrap ((k:Int)+1)=((k+1:Nat):Int):=by rw[ai]<;>omega
    have hfn: ¬(f.length:Int)=0:=by omega
    simp only[go_sem,hlt,hin,g5,hk,hfn,e1];have t1:(List.take k f).length<=64:=by rw[List.length_take];omega
    have t2:(List.drop (k+1) (List.take f.length f)).length<=64:=by rw[List.length_drop,List.length_take];omega
    refine⟨by omega,by omega,⟨by omega,by omega⟩,by omega,⟨by omega,by omega,by omega⟩,by omega,ae (by kernel_rfl),i+1,⟨by omega,by omega⟩,⟨?_,?_,?_⟩,?_⟩
    ·rw[hd2,List.map_append,List.take_length];rfl
    ·rw[hd1,List.length_append];rfl
    ·rw[ai]<;>omega
    ·rw[hd1,List.map_append];rfl
   ·have hm2:i=m:=by omega
    subst hm2;have hc: ¬(i:Int)<(i:Int):=by omega
    simp only[go_sem,hc]
 ·simp only[go_sem]
 ·simp only[go_sem]
def dx(l prev:List Int):List Int:=bm (fun k=>decide (k∈l)&& !decide (k∈prev)) 64
def vd(c:Cs)(j:Int):List Int:=[c.ep,c.kd,c.su,j]
def nq(r:Rl)(v:List UInt8)(l:List Int)(c:Cs)(j:Int)(prev:List Int):List Int:=
 (bp (dx l prev) (rz v (vd c j) 9) (min r.seats.toNat (dx l prev).length)).1
def ofR(r:Rl)(v:List UInt8)(l:List Int)(c:Cs):List Int×Int:=
 if da r≠0 then([],da r)else if j8 l=false then([],43)else if fq c=false then([],41)
 else if c.ro=0 then(nq r v l c 0 [],0)
 else if dx l (nq r v l c 0 [])=[]then([],44)
 else(nq r v l c 1 (nq r v l c 0 []),0)
theorem qa{l prev:List Int}{x:Int}:x∈dx l prev↔(0<=x/\x<64)/\x∈l/\x∉prev:=by
 rw[dx,qu];simp
theorem adr{l:List Int}(h:j8 l=true):dx l []≠[]:=by
 obtain⟨_,hb,hne,_⟩:=kz h
 cases l with
 |nil=>exact absurd rfl hne
 |cons a t=>
  have:a∈dx (a::t) []:=qa.2 ⟨hb a (by simp),by simp,by simp⟩;intro e;rw[e]at this;simp at this
theorem xw(l prev:List Int):(dx l prev).length<=64:=fi _ 64
theorem qf{r:Rl}{v:List UInt8}{l:List Int}{c:Cs}{j:Int}{prev:List Int}:(nq r v l c j prev).length=min r.seats.toNat (dx l prev).length:=
 (pz (l:=dx l prev) (og _ _ 9) _ (by omega)).1
theorem akv{r:Rl}{v:List UInt8}{l:List Int}{c:Cs}{j:Int}{prev:List Int}{x:Int}(h:x∈nq r v l c j prev):x∈dx l prev:=
 ax7 (og _ _ 9) (by omega) h
theorem aow{r:Rl}{v:List UInt8}{l:List Int}{c:Cs}{j:Int}{prev:List Int}:(nq r v l c j prev).Nodup:=
 alo (og _ _ 9) (by omega) ((aa1 _ _).imp fun h=>by omega)
theorem yp(r:Rl)(v:List UInt8)(l:List Int)(c:Cs):ofR r v l c=(if da r≠0 then([],da r)else if j8 l=false then([],43)else if fq c=false then([],41)
 else if c.ro=0 then(nq r v l c 0 [],0)
 else if dx l (nq r v l c 0 [])=[]then([],44)
 else(nq r v l c 1 (nq r v l c 0 []),0)):=rfl
theorem a2o(r:Rl)(v:List UInt8)(l:List Int)(c:Cs)(h0:big r.gen.length)(h1:big r.pol.se.length)(h2:big r.pol.ta.length)(hl:big l.length)(hv:j8 l=true->v.length=32):Den Tryz.prog 21 [.agg (rl r),.str v,.vs (l.map i1),.agg (cs c)] [] (.tup [.vs ((ofR r v l c).1.map i1),.int .i64 (ofR r v l c).2]) [] []:=by
 refine aa Tryz.func21 rfl Tryz.call21 Tryz.ntmps21 Tryz.results21 (by simp) (by kernel_rfl) [] (exts:=[]) rfl rfl ?_;have hQ:=yp r v l c;generalize hm:ofR r v l c=m at*;have c0:=qt r h0 h1 h2;rw[dz]at c0;simp only[go_sem];refine call c0 [] ?_;by_cases a1:da r=0
 rotate_left
 ·rw[if_pos a1]at hQ;subst hQ;simp only[go_sem,a1,List.map_nil]
 rw[if_neg (by simpa using a1)]at hQ;simp only[go_sem,a1];refine call (awj l hl) [] ?_
 cases a2:j8 l
 ·rw[if_pos a2]at hQ;subst hQ;simp only[go_sem,List.map_nil]
 rw[if_neg (by simp[a2])]at hQ;have c2:=my c;rw[dt]at c2;simp only[go_sem];refine call c2 [] ?_
 cases a3:fq c
 ·rw[if_pos a3]at hQ;subst hQ;simp only[go_sem,List.map_nil]
 rw[if_neg (by simp[a3])]at hQ;have hc:=of_decide_eq_true a3;obtain⟨_,_,hne,hl64⟩:=kz a2;have hv:=hv a2;have hS:=(ag9 a1).2.2;simp only[go_sem];refine loop Tryz.mixed 0 (fun i:Nat=>[(1,.str v),(2,.vs (l.map i1)),(4,.ptr 4 0),(7,.ptr 7 0),(11,.vs ((match i with|0=>[]|1=>nq r v l c 0 []|_=>nq r v l c 1 (nq r v l c 0 [])).map i1)),(12,.int .i64 i)]) (fun i=>[(4,.cells (rl r)),(7,.cells (cs c))]) (fun i=>(i=0\/i=1\/(i=2/\c.ro=1/\dx l (nq r v l c 0 [])≠[]))) (fun i=>2 - i) (by kernel_rfl) ?_ ?_ ?_
 ·simp
 ·simp only[go_sem,List.map_nil]
 ·rintro i hi;by_cases i0:i=0
  ·subst i0;have g1:(0:Int)<=c.ro:=by omega
   simp only[go_sem,g1];refine call (wi v (vd c 0) 9 hv (by simp[vd]) (by omega)) [] ?_;simp only[go_sem];refine⟨rfl,call (adx l [] hl (by simp[big])) [] ?_⟩;have hw:bm (fun k=>decide (k∈l)&& !decide (k∈([]:List Int))) 64=dx l []:=rfl;rw[hw];have hne:=adr a2;have hrv:j8 (dx l [])=true:=pj hne;have hrl:0<(dx l []).length:=by cases h:dx l []with|nil=>exact absurd h hne|cons=>simp
   have hol:(nq r v l c 0 [])=(bp (dx l []) (rz v (vd c 0) 9) (min r.seats.toNat (dx l []).length)).1:=rfl;have hnl:=jz v (vd c 0) 9;have hnn:=og v (vd c 0) 9;generalize hWW:dx l []=W at*;generalize rz v (vd c 0) 9=N at*;have g2: ¬(W.length:Int)=0:=by omega
   simp only[go_sem,g2];refine call (ajn W N r.seats hrv (by omega) (by omega) (by omega) (by simp only[big];omega) hnn) [] ?_;rw[<-hol];simp only[go_sem];exact⟨1,⟨by simp,by omega⟩,rfl,by rw[ai]<;>omega⟩
  by_cases i1':i=1
  ·subst i1';have hal:=qf (r:=r) (v:=v) (l:=l) (c:=c) (j:=0) (prev:=[]);have har:=xw l [];generalize ha:nq r v l c 0 []=a at*;by_cases hro:c.ro=0
   ·have g1: ¬(1:Int)<=c.ro:=by omega
    rw[if_pos hro]at hQ;subst hQ;simp only[go_sem,g1]
   rw[if_neg hro]at hQ;have g1:(1:Int)<=c.ro:=by omega
   simp only[go_sem,g1];refine call (wi v (vd c 1) 9 hv (by simp[vd]) (by omega)) [] ?_;simp only[go_sem];refine⟨rfl,call (adx l a hl (by simp only[big];omega)) [] ?_⟩;have hw:bm (fun k=>decide (k∈l)&& !decide (k∈(a:List Int))) 64=dx l a:=rfl;rw[hw];by_cases hne:dx l a=[]
   ·rw[if_pos hne]at hQ;subst hQ;have g2:((dx l a).length:Int)=0:=by rw[hne];rfl
    simp only[go_sem,g2,List.map_nil]
    done
   rw[if_neg hne]at hQ;have hne0:=hne;have hrv:j8 (dx l a)=true:=pj hne;have hrl:0<(dx l a).length:=by cases h:dx l a with|nil=>exact absurd h hne|cons=>simp
   have hol:(nq r v l c 1 a)=(bp (dx l a) (rz v (vd c 1) 9) (min r.seats.toNat (dx l a).length)).1:=rfl;have hnl:=jz v (vd c 1) 9;have hnn:=og v (vd c 1) 9;generalize hWW:dx l a=W at*;generalize rz v (vd c 1) 9=N at*;have g2: ¬(W.length:Int)=0:=by omega
   simp only[go_sem,g2];refine call (ajn W N r.seats hrv (by omega) (by omega) (by omega) (by simp only[big];omega) hnn) [] ?_;rw[<-hol];simp only[go_sem];exact⟨2,⟨.inr (.inr ⟨rfl,by omega,hne0⟩),by omega⟩,rfl,by rw[ai]<;>omega⟩
  ·have i2:i=2/\c.ro=1/\dx l (nq r v l c 0 [])≠[]:=by
    rcases hi with h|h|h
    ·exact absurd h i0
    ·exact absurd h i1'
    ·exact h
   obtain⟨i2,hro,hne⟩:=i2;subst i2;have g1: ¬(2:Int)<=c.ro:=by omega
   rw[if_neg (by omega),if_neg hne]at hQ;subst hQ;simp only[go_sem,g1]
end Go.Proofs.Am
