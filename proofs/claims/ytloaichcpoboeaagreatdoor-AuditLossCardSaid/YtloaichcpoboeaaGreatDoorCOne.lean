/- COne. -/
import Derived.Test.YtloaichcpoboeaaGreatDoorBTwo
set_option maxHeartbeats 1000000
set_option maxRecDepth 100000
set_option linter.unusedSimpArgs false
set_option linter.unusedVariables false
namespace Go.Proofs.Am
open Go Go.RowKit
open Go.Proofs
structure Cs where
 ep:Int
 kd:Int
 su:Int
 ro:Int
deriving Inhabited,DecidableEq
def cs(c:Cs):List PV:=[.int .i64 c.ep,.int .i64 c.kd,.int .i64 c.su,.int .i64 c.ro]
theorem jp(c:Cs):cs c=[.int .i64 c.ep,.int .i64 c.kd,.int .i64 c.su,.int .i64 c.ro]:=(rfl)
attribute [go_sem] jp
def kn(c:Cs):Bool:=decide (0≤c.ep∧c.ep<40∧0≤c.su∧c.su<64∧0≤c.ro∧c.ro≤1∧(c.kd=1∧c.su=0∧c.ro=0∨c.kd=2∨c.kd=3))
theorem kw{c:Cs}(h: ¬(0≤c.ep∧c.ep<40∧0≤c.su∧c.su<64∧0≤c.ro∧c.ro≤1∧(c.kd=1∧c.su=0∧c.ro=0∨c.kd=2∨c.kd=3))):kn c=false:=decide_eq_false h
theorem ac2{c:Cs}(h:0≤c.ep∧c.ep<40∧0≤c.su∧c.su<64∧0≤c.ro∧c.ro≤1∧(c.kd=1∧c.su=0∧c.ro=0∨c.kd=2∨c.kd=3)):kn c=true:=decide_eq_true h
theorem ahk(c:Cs):Den Tryz.prog 138 [.agg (cs c)] [] (.bool (kn c)) [] []:=by
 refine aa Tryz.mixed Tryz.func138 rfl Tryz.call138 Tryz.ntmps138 (congrArg Array.toList Tryz.results138) (by simp) (by kernel_rfl) [] (exts:=[]) rfl rfl ?_
 by_cases h0:c.ep<0
 ·rw[kw (c:=c) (by omega)]
  simp only[go_sem,h0]
 by_cases h1:40≤c.ep
 ·rw[kw (c:=c) (by omega)]
  simp only[go_sem,h0,h1]
 by_cases h2:c.su<0
 ·rw[kw (c:=c) (by omega)]
  simp only[go_sem,h0,h1,h2]
 by_cases h3:64≤c.su
 ·rw[kw (c:=c) (by omega)]
  simp only[go_sem,h0,h1,h2,h3]
 by_cases h4:c.ro<0
 ·rw[kw (c:=c) (by omega)]
  simp only[go_sem,h0,h1,h2,h3,h4]
 by_cases h5:1<c.ro
 ·rw[kw (c:=c) (by omega)]
  simp only[go_sem,h0,h1,h2,h3,h4,h5]
 by_cases k1:c.kd=1
 ·by_cases k2:c.su=0
  ·by_cases k3:c.ro=0
   ·rw[ac2 (c:=c) (by omega)]
    simp only[go_sem,h0,h1,h2,h3,h4,h5,k1,k2,k3]
   ·rw[kw (c:=c) (by omega)]
    simp only[go_sem,h0,h1,h2,h3,h4,h5,k1,k2,k3]
  ·rw[kw (c:=c) (by omega)]
   simp only[go_sem,h0,h1,h2,h3,h4,h5,k1,k2]
 by_cases k2:c.kd=2
 ·rw[ac2 (c:=c) (by omega)]
  simp only[go_sem,h0,h1,h2,h3,h4,h5,k1,k2]
 by_cases k3:c.kd=3
 ·rw[ac2 (c:=c) (by omega)]
  simp only[go_sem,h0,h1,h2,h3,h4,h5,k1,k2,k3]
 rw[kw (c:=c) (by omega)]
 simp only[go_sem,h0,h1,h2,h3,h4,h5,k1,k2,k3]
def noD:Drf:=⟨0,0,0,0,[],[]⟩
def x6(p:Nat→Bool)(n:Nat):Bool:=decide (∀i,i<n→p i=true)
theorem lg{p:Nat→Bool}{n:Nat}(h: ∀i,i<n→p i=true):x6 p n=true:=decide_eq_true h
theorem dw{p:Nat→Bool}{n i:Nat}(hi:i<n)(h:p i=false):x6 p n=false:=decide_eq_false fun h'=>by rw[h' i hi]at h;cases h
theorem az{p:Nat→Bool}{i:Nat}(h: ∀j,j<i→p j=true)(hq:p i=true): ∀j,j<i+1→p j=true:=fun j hj=>by
 by_cases hji:j=i
 ·rw[hji];exact hq
 ·exact h j (by omega)
def et(n:Int)(l:List Int)(i:Nat):Bool:=decide (0≤el l i∧el l i<n∧(0<i→el l (i - 1)<el l i))
def kx(l:List Int)(n:Int):Bool:=x6 (et n l) l.length
def tu(l:List Int):Bool:=decide (0<l.length∧l.length≤64)&&kx l 64
theorem a9s(l:List Int)(n:Int)(hl:big l.length):Den Tryz.prog 42 [.vs (l.map i1),.int .i64 n] [] (.bool (kx l n)) [] []:=by
 refine aa Tryz.mixed Tryz.func42 rfl Tryz.call42 Tryz.ntmps42 (congrArg Array.toList Tryz.results42) (by simp) (by kernel_rfl) [] (exts:=[]) rfl rfl ?_
 generalize hm:kx l n=m
 have hbad:kx l n=false→m=false:=fun h=>by rw[←hm];exact h
 have hgood:kx l n=true→m=true:=fun h=>by rw[←hm];exact h
 simp only[go_sem]
 refine loop Tryz.mixed 0 (fun i:Nat=>[(0,.vs (l.map i1)),(1,.int .i64 n),(5,.int .i64 i)]) (fun i=>[]) (fun i=>i≤l.length∧∀j,j<i→et n l j=true) (fun i=>l.length - i) (by kernel_rfl) ?_ ?_ ?_
 ·simp
 ·simp only[go_sem]
 ·rintro i ⟨hi,hp⟩
  by_cases hi':i<l.length
  ·have hlt:(i:Int)<(l.length:Int):=by omega
   by_cases a1:el l i<0
   ·have hq:et n l i=false:=decide_eq_false (by omega)
    simp only[go_sem,hlt,hi',a1]
    exact⟨ag (by kernel_rfl),(hbad (dw hi' hq)).symm⟩
   by_cases a2:n≤el l i
   ·have hq:et n l i=false:=decide_eq_false (by omega)
    simp only[go_sem,hlt,hi',a1,a2]
    exact⟨ag (by kernel_rfl),(hbad (dw hi' hq)).symm⟩
   by_cases a3:0<i
   ·have a3':(0:Int)<(i:Int):=by omega
    have e1:IntKind.i64.wrap ((i:Int) - 1)=((i - 1:Nat):Int):=by rw[ae]<;>omega
    have e2:i - 1<l.length:=by omega
    by_cases a4:el l i≤el l (i - 1)
    ·have hq:et n l i=false:=decide_eq_false (by omega)
     simp only[go_sem,hlt,hi',a1,a2,a3',e1,e2,a4]
     exact⟨ag (by kernel_rfl),(hbad (dw hi' hq)).symm⟩
    ·have hq:et n l i=true:=decide_eq_true (by omega)
     simp only[go_sem,hlt,hi',a1,a2,a3',e1,e2,a4]
     exact⟨ag (by kernel_rfl),i+1,⟨⟨by omega,az hp hq⟩,by omega⟩,by rw[ae]<;>omega⟩
   ·have a3': ¬(0:Int)<(i:Int):=by omega
    have hq:et n l i=true:=decide_eq_true (by omega)
    simp only[go_sem,hlt,hi',a1,a2,a3']
    exact⟨ag (by kernel_rfl),i+1,⟨⟨by omega,az hp hq⟩,by omega⟩,by rw[ae]<;>omega⟩
  ·have hf: ¬((i:Int)<(l.length:Int)):=by omega
   have:i=l.length:=by omega
   subst this
   simp only[go_sem,hf]
   exact(hgood (lg hp)).symm
structure Pol where
 se:List Int
 ta:List Int
 lv:Int
deriving Inhabited,DecidableEq
structure Rl where
 gen:List Int
 pol:Pol
 seats:Int
 span:Int
 quota:Int
deriving Inhabited,DecidableEq
def pl(p:Pol):List PV:=[.vs (p.se.map i1),.vs (p.ta.map i1),.int .i64 p.lv]
theorem o9(p:Pol):pl p=[.vs (p.se.map i1),.vs (p.ta.map i1),.int .i64 p.lv]:=(rfl)
def rl(r:Rl):List PV:=[.vs (r.gen.map i1),.vs (r.pol.se.map i1),.vs (r.pol.ta.map i1),.int .i64 r.pol.lv,.int .i64 r.seats,.int .i64 r.span,.int .i64 r.quota]
theorem oa(r:Rl):rl r=[.vs (r.gen.map i1),.vs (r.pol.se.map i1),.vs (r.pol.ta.map i1),.int .i64 r.pol.lv,.int .i64 r.seats,.int .i64 r.span,.int .i64 r.quota]:=(rfl)
attribute [go_sem] o9 oa
def io(ta:List Int)(i:Nat):Bool:=decide (1≤el ta i∧el ta i≤1000∧(0<i→el ta i≤el ta (i - 1)))
def anp(p:Pol):Bool:=decide (0<p.se.length)&&(kx p.se 64&&(decide (1≤p.ta.length∧p.ta.length≤8∧1≤p.lv∧p.lv≤3)&&x6 (io p.ta) p.ta.length))
def fi(r:Rl):Int:=if tu r.gen=false then 43 else if anp r.pol=false then 15 else if(1≤r.seats∧r.seats≤9∧1≤r.span∧r.span≤1000000∧0≤r.quota∧r.quota≤64)then 0 else 40
def dgo(l:List Int)(p:Nat):Nat→Nat
 |0=>p
 |n+1=>p8 l (dgo l p n)
theorem ee{l:List Int}{p:Nat}(hp:p≤l.length): ∀n,dgo l p n≤l.length
 |0=>hp
 |n+1=>aji (ee hp n)
def bem(l:List Int)(p:Nat):List UInt8:=[bAt (am l p 4) 0]++(List.replicate 30 0++[bAt (am l (dgo l p 1) 256) 0])
theorem bb4(l:List Int)(p:Nat):(bem l p).length=32:=rfl
def lsB(l:List Int):List UInt8:=be8 l.length++beL l
theorem qv(l:List Int):(lsB l).length=8*l.length+8:=by simp only[lsB,List.length_append,aq,c7];omega
def b0(r:Rl):List UInt8:=(((([116,114,117,115,116,102,108,111,119]:List UInt8)++lsB r.gen)++lsB r.pol.se)++lsB r.pol.ta)++lsB [r.pol.lv,r.seats,r.span,r.quota]
def avz(r:Rl):List UInt8:=sha (b0 r)
theorem azo{r:Rl}(h:fi r=0):tu r.gen=true∧anp r.pol=true∧(1≤r.seats∧r.seats≤9∧1≤r.span∧r.span≤1000000∧0≤r.quota∧r.quota≤64):=by
 unfold fi at h
 split at h
 ·omega
 split at h
 ·omega
 split at h
 ·rename_i a b c
  exact⟨by simpa using a,by simpa using b,c⟩
 ·omega
def aqd(s:List UInt8):Int:=bits .or .i64 (bits .or .i64 (bits .or .i64 (IntKind.i64.wrap (IntKind.i64.wrap ((s.getD 0 0).toNat:Int)*2^min 24 64)) (IntKind.i64.wrap (IntKind.i64.wrap ((s.getD 1 0).toNat:Int)*2^min 16 64))) (IntKind.i64.wrap (IntKind.i64.wrap ((s.getD 2 0).toNat:Int)*2^min 8 64))) (IntKind.i64.wrap ((s.getD 3 0).toNat:Int))
def a68(v:List UInt8)(tag:List Int)(i:Nat):Int:=aqd (sha ((v++lsB tag)++be8 i))
def ac8(v:List UInt8)(tag:List Int):Nat→List Int
 |0=>[]
 |n+1=>ac8 v tag n++[a68 v tag n]
theorem p5(v:List UInt8)(tag:List Int): ∀n,(ac8 v tag n).length=n
 |0=>rfl
 |n+1=>by simp[ac8,p5 v tag n]
theorem aik(b:List UInt8):(sha b).length=32:=by rw[sha,aal,ald]
theorem uw(a b:Nat)(ha:a<9223372036854775808)(hb:b<9223372036854775808):bits .or .i64 (a:Int) (b:Int)=((a|||b:Nat):Int):=by
 have hx:a|||b<2^63:=Nat.or_lt_two_pow (by omega) (by omega)
 have h1:(BitVec.ofInt 64 (a:Int)).toNat=a:=by
  rw[BitVec.ofInt_natCast,BitVec.toNat_ofNat];exact Nat.mod_eq_of_lt (by omega)
 have h2:(BitVec.ofInt 64 (b:Int)).toNat=b:=by
  rw[BitVec.ofInt_natCast,BitVec.toNat_ofNat];exact Nat.mod_eq_of_lt (by omega)
 show IntKind.i64.wrap ((BitVec.ofInt 64 (a:Int)|||BitVec.ofInt 64 (b:Int)).toNat:Int)=_
 rw[BitVec.toNat_or,h1,h2,IntKind.wrap_i64]
 omega
theorem azw(s:List UInt8):0≤aqd s:=by
 have hb: ∀k,(s.getD k 0).toNat<256:=fun k=>(s.getD k 0).toNat_lt
 have w: ∀k,IntKind.i64.wrap ((s.getD k 0).toNat:Int)=((s.getD k 0).toNat:Int):=fun k=>ae (by omega) (by have:=hb k;omega)
 unfold aqd
 rw[w,w,w,w]
 have b0:=hb 0
 have b1:=hb 1
 have b2:=hb 2
 have b3:=hb 3
 generalize (s.getD 0 0).toNat=x0 at*
 generalize (s.getD 1 0).toNat=x1 at*
 generalize (s.getD 2 0).toNat=x2 at*
 generalize (s.getD 3 0).toNat=x3 at*
 have e0:IntKind.i64.wrap ((x0:Int)*2^min 24 64)=((x0*16777216:Nat):Int):=by
  have:(2:Int)^min 24 64=16777216:=by rfl
  rw[this,ae]<;>omega
 have e1:IntKind.i64.wrap ((x1:Int)*2^min 16 64)=((x1*65536:Nat):Int):=by
  have:(2:Int)^min 16 64=65536:=by rfl
  rw[this,ae]<;>omega
 have e2:IntKind.i64.wrap ((x2:Int)*2^min 8 64)=((x2*256:Nat):Int):=by
  have:(2:Int)^min 8 64=256:=by rfl
  rw[this,ae]<;>omega
 rw[e0,e1,e2,uw _ _ (by omega) (by omega)]
 have l1:x0*16777216|||x1*65536<2^32:=Nat.or_lt_two_pow (by omega) (by omega)
 rw[uw _ _ (by omega) (by omega)]
 have l2:(x0*16777216|||x1*65536)|||x2*256<2^32:=Nat.or_lt_two_pow (by omega) (by omega)
 rw[uw _ _ (by omega) (by omega)]
 omega
theorem a1w(v:List UInt8)(tag:List Int)(i:Nat):0≤a68 v tag i:=azw _
theorem u7(v:List UInt8)(tag:List Int): ∀n,∀x∈ac8 v tag n,0≤x
 |0,x,h=>by simp[ac8]at h
 |n+1,x,h=>by
  rw[ac8,List.mem_append]at h
  rcases h with h|h
  ·exact u7 v tag n x h
  ·rw[List.mem_singleton]at h;rw[h];exact a1w _ _ _
theorem elg{l:List Int}{i:Nat}(h:i<l.length):el l i=l[i]:=by
 simp only[el,List.getD_eq_getElem?_getD,List.getElem?_eq_getElem h,Option.getD_some]
theorem a8e{l:List Int}{n:Int}(hp:l.Pairwise (· < ·))(hb: ∀x∈l,0≤x∧x<n):kx l n=true:=
 lg fun i hi=>decide_eq_true (by
  have h1:=hb _ (gx hi)
  refine⟨h1.1,h1.2,fun h0=> ?_⟩
  have:=List.pairwise_iff_getElem.1 hp (i - 1) i (by omega) hi (by omega)
  rwa [elg (by omega),elg hi])
theorem a7p{l:List Int}{n:Int}(h:kx l n=true):l.Pairwise (· < ·)∧∀x∈l,0≤x∧x<n:=by
 have h': ∀i,i<l.length→et n l i=true:=of_decide_eq_true h
 have ok: ∀i,i<l.length→(0≤el l i∧el l i<n∧(0<i→el l (i - 1)<el l i)):=fun i hi=>of_decide_eq_true (h' i hi)
 refine⟨List.pairwise_iff_getElem.2 ?_,fun x hx=> ?_⟩
 ·have key: ∀d i,i+(d+1)<l.length→el l i<el l (i+(d+1)):=by
   intro d
   induction d with
   |zero=>intro i hi;exact(ok (i+1) hi).2.2 (by omega)
   |succ d ih=>
    intro i hi
    have h1:=ih i (by omega)
    have h2:=(ok (i+(d+1+1)) hi).2.2 (by omega)
    exact Int.lt_trans h1 h2
  intro i j hi hj hij
  have:=key (j - i - 1) i (by omega)
  rw[elg hi]at this
  have e:i+(j - i - 1+1)=j:=by omega
  rw[e,elg hj]at this
  exact this
 ·obtain⟨i,hi,rfl⟩:=ur hx
  exact⟨(ok i hi).1,(ok i hi).2.1⟩
theorem ax0{l:List Int}(hp:l.Pairwise (· < ·))(hb: ∀x∈l,0≤x∧x<64)(h0:l≠[])(h1:l.length≤64):tu l=true:=by
 have:0<l.length:=by cases l with|nil=>exact absurd rfl h0|cons=>simp
 rw[tu,decide_eq_true (by omega),a8e hp hb];rfl
theorem qt{l:List Int}(h:tu l=true):l.Pairwise (· < ·)∧(∀x∈l,0≤x∧x<64)∧l≠[]∧l.length≤64:=by
 rw[tu,Bool.and_eq_true]at h
 have h1:=of_decide_eq_true h.1
 have h2:=a7p h.2
 exact⟨h2.1,h2.2,fun e=>by rw[e]at h1;simp at h1,h1.2⟩
theorem aav(c:Int→Bool)(n:Nat):(eh c n).Pairwise (· < ·):=by
 unfold eh
 refine List.Pairwise.filter _ ?_
 rw[List.pairwise_map]
 exact List.pairwise_lt_range.imp fun h=>by omega
theorem ag2{c:Int→Bool}(h:eh c 64≠[]):tu (eh c 64)=true:=
 ax0 (aav c 64) (fun x hx=>by have:=(pd.1 hx).1;omega) h (l8 c 64)
def cw(l nu:List Int):Nat→List Int×List Int
 |0=>([],l)
 |i+1=>
  ((cw l nu i).1++[el (cw l nu i).2 ((el nu i).tmod (cw l nu i).2.length).toNat],
   (cw l nu i).2.take ((el nu i).tmod (cw l nu i).2.length).toNat++(cw l nu i).2.drop (((el nu i).tmod (cw l nu i).2.length).toNat+1))
theorem ajg{a:Int}{n:Nat}(ha:0≤a)(hn:0<n):0≤a.tmod n∧a.tmod n<n:=⟨Int.tmod_nonneg _ ha,Int.tmod_lt_of_pos _ (by omega)⟩
theorem ub{l nu:List Int}(hn: ∀x∈nu,0≤x): ∀i,i≤l.length→(cw l nu i).1.length=i∧(cw l nu i).2.length=l.length - i
 |0,_=>⟨rfl,rfl⟩
 |i+1,hi=>by
  have ih:=ub (l:=l) hn i (by omega)
  have h0:0≤el nu i:=by
   by_cases h:i<nu.length
   ·exact hn _ (gx h)
   ·have:el nu i=0:=by simp[el,List.getD_eq_getElem?_getD,List.getElem?_eq_none (by omega:nu.length≤i)]
    omega
  have hb:=ajg (n:=(cw l nu i).2.length) h0 (by omega)
  simp only[cw,List.length_append,List.length_cons,List.length_nil,List.length_take,List.length_drop]
  omega
theorem v6{l nu:List Int}(hn: ∀x∈nu,0≤x): ∀i,i≤l.length→List.Perm ((cw l nu i).1++(cw l nu i).2) l
 |0,_=>by simp[cw]
 |i+1,hi=>by
  have ih:=v6 (l:=l) hn i (by omega)
  have hl:=ub (l:=l) hn i (by omega)
  have h0:0≤el nu i:=by
   by_cases h:i<nu.length
   ·exact hn _ (gx h)
   ·have:el nu i=0:=by simp[el,List.getD_eq_getElem?_getD,List.getElem?_eq_none (by omega:nu.length≤i)]
    omega
  have hb:=ajg (n:=(cw l nu i).2.length) h0 (by omega)
  refine List.Perm.trans ?_ ih
  simp only[cw]
  generalize hk:((el nu i).tmod (cw l nu i).2.length).toNat=k
  generalize (cw l nu i).1=o at*
  generalize (cw l nu i).2=f at*
  have hkl:k<f.length:=by omega
  rw[List.append_assoc]
  refine List.Perm.append_left o ?_
  have hf:f=f.take k++(el f k::f.drop (k+1)):=by
   have:=bm hkl
   conv=>lhs;rw[←List.take_append_drop (k+1) f]
   rw[this];simp
  (conv=>rhs;rw[hf])
  rw[List.singleton_append]
  exact List.perm_middle.symm
theorem azt{l nu:List Int}(hn: ∀x∈nu,0≤x){i:Nat}(hi:i≤l.length){x:Int}(hx:x∈(cw l nu i).1):x∈l:=
 (v6 hn i hi).mem_iff.1 (List.mem_append_left _ hx)
theorem aoj{l nu:List Int}(hn: ∀x∈nu,0≤x){i:Nat}(hi:i≤l.length)(hl:l.Nodup):(cw l nu i).1.Nodup:=
 (List.nodup_append.1 ((v6 hn i hi).nodup_iff.2 hl)).1
def ig(l prev:List Int):List Int:=eh (fun k=>decide (k∈l)&& !decide (k∈prev)) 64
def ax8(c:Cs)(j:Int):List Int:=[c.ep,c.kd,c.su,j]
def wb(r:Rl)(v:List UInt8)(l:List Int)(c:Cs)(j:Int)(prev:List Int):List Int:=
 (cw (ig l prev) (ac8 v (ax8 c j) 9) (min r.seats.toNat (ig l prev).length)).1
def ofR(r:Rl)(v:List UInt8)(l:List Int)(c:Cs):List Int×Int:=
 if fi r≠0 then([],fi r)else if tu l=false then([],43)else if kn c=false then([],41)
 else if c.ro=0 then(wb r v l c 0 [],0)
 else if ig l (wb r v l c 0 [])=[]then([],44)
 else(wb r v l c 1 (wb r v l c 0 []),0)
theorem vy{l prev:List Int}{x:Int}:x∈ig l prev↔(0≤x∧x<64)∧x∈l∧x∉prev:=by
 rw[ig,pd]
 simp
theorem ar5{l:List Int}(h:tu l=true):ig l []≠[]:=by
 obtain⟨_,hb,hne,_⟩:=qt h
 cases l with
 |nil=>exact absurd rfl hne
 |cons a t=>
  have:a∈ig (a::t) []:=vy.2 ⟨hb a (by simp),by simp,by simp⟩
  intro e
  rw[e]at this
  simp at this
theorem ae1(l prev:List Int):(ig l prev).length≤64:=l8 _ 64
theorem ab1{r:Rl}{v:List UInt8}{l:List Int}{c:Cs}{j:Int}{prev:List Int}:(wb r v l c j prev).length=min r.seats.toNat (ig l prev).length:=
 (ub (l:=ig l prev) (u7 _ _ 9) _ (by omega)).1
theorem ayy{r:Rl}{v:List UInt8}{l:List Int}{c:Cs}{j:Int}{prev:List Int}{x:Int}(h:x∈wb r v l c j prev):x∈ig l prev:=
 azt (u7 _ _ 9) (by omega) h
theorem anh{r:Rl}{v:List UInt8}{l:List Int}{c:Cs}{j:Int}{prev:List Int}:(wb r v l c j prev).Nodup:=
 aoj (u7 _ _ 9) (by omega) ((aav _ _).imp fun h=>by omega)
theorem aw9(r:Rl)(v:List UInt8)(l:List Int)(c:Cs):ofR r v l c=(if fi r≠0 then([],fi r)else if tu l=false then([],43)else if kn c=false then([],41)
 else if c.ro=0 then(wb r v l c 0 [],0)
 else if ig l (wb r v l c 0 [])=[]then([],44)
 else(wb r v l c 1 (wb r v l c 0 []),0)):=rfl
end Go.Proofs.Am
