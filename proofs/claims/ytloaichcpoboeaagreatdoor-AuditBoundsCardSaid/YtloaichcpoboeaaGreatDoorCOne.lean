/- COne. -/
import Derived.Test.YtloaichcpoboeaaGreatDoorBTwo
set_option maxHeartbeats 1000000
set_option maxRecDepth 100000
set_option linter.unusedSimpArgs false
set_option linter.unusedVariables false
namespace Go.Proofs.Am
open Go Go.RowKit
open Go.Proofs
structure Cs where
 ep:Int
 kd:Int
 su:Int
 ro:Int
deriving Inhabited,DecidableEq
def cs(c:Cs):List PV:=[.int .i64 c.ep,.int .i64 c.kd,.int .i64 c.su,.int .i64 c.ro]
theorem ki(c:Cs):cs c=[.int .i64 c.ep,.int .i64 c.kd,.int .i64 c.su,.int .i64 c.ro]:=(rfl)
attribute [go_sem] ki
def l6(c:Cs):Bool:=decide (0<=c.ep/\c.ep<40/\0<=c.su/\c.su<64/\0<=c.ro/\c.ro<=1/\(c.kd=1/\c.su=0/\c.ro=0\/c.kd=2\/c.kd=3))
theorem mf{c:Cs}(h: ¬(0<=c.ep/\c.ep<40/\0<=c.su/\c.su<64/\0<=c.ro/\c.ro<=1/\(c.kd=1/\c.su=0/\c.ro=0\/c.kd=2\/c.kd=3))):l6 c=false:=decide_eq_false h
theorem ady{c:Cs}(h:0<=c.ep/\c.ep<40/\0<=c.su/\c.su<64/\0<=c.ro/\c.ro<=1/\(c.kd=1/\c.su=0/\c.ro=0\/c.kd=2\/c.kd=3)):l6 c=true:=decide_eq_true h
theorem ans(c:Cs):Den Tryz.prog 138 [.agg (cs c)] [] (.bool (l6 c)) [] []:=by
 refine aa Tryz.func138 rfl Tryz.call138 Tryz.ntmps138 Tryz.results138 (by simp) (by kernel_rfl) [] (exts:=[]) rfl rfl ?_;by_cases h0:c.ep<0
 ·rw[mf (c:=c) (by omega)];simp only[go_sem,h0]
 by_cases h1:40<=c.ep
 ·rw[mf (c:=c) (by omega)];simp only[go_sem,h0,h1]
 by_cases h2:c.su<0
 ·rw[mf (c:=c) (by omega)];simp only[go_sem,h0,h1,h2]
 by_cases h3:64<=c.su
 ·rw[mf (c:=c) (by omega)];simp only[go_sem,h0,h1,h2,h3]
 by_cases h4:c.ro<0
 ·rw[mf (c:=c) (by omega)];simp only[go_sem,h0,h1,h2,h3,h4]
 by_cases h5:1<c.ro
 ·rw[mf (c:=c) (by omega)];simp only[go_sem,h0,h1,h2,h3,h4,h5]
 by_cases k1:c.kd=1
 ·by_cases k2:c.su=0
  ·by_cases k3:c.ro=0
   ·rw[ady (c:=c) (by omega)];simp only[go_sem,h0,h1,h2,h3,h4,h5,k1,k2,k3]
   ·rw[mf (c:=c) (by omega)];simp only[go_sem,h0,h1,h2,h3,h4,h5,k1,k2,k3]
  ·rw[mf (c:=c) (by omega)];simp only[go_sem,h0,h1,h2,h3,h4,h5,k1,k2]
 by_cases k2:c.kd=2
 ·rw[ady (c:=c) (by omega)];simp only[go_sem,h0,h1,h2,h3,h4,h5,k1,k2]
 by_cases k3:c.kd=3
 ·rw[ady (c:=c) (by omega)];simp only[go_sem,h0,h1,h2,h3,h4,h5,k1,k2,k3]
 rw[mf (c:=c) (by omega)];simp only[go_sem,h0,h1,h2,h3,h4,h5,k1,k2,k3]
def noD:Drf:=⟨0,0,0,0,[],[]⟩
def aaf(p:Nat->Bool)(n:Nat):Bool:=decide (∀i,i<n->p i=true)
theorem ng{p:Nat->Bool}{n:Nat}(h: ∀i,i<n->p i=true):aaf p n=true:=decide_eq_true h
theorem fe{p:Nat->Bool}{n i:Nat}(hi:i<n)(h:p i=false):aaf p n=false:=decide_eq_false fun h'=>by rw[h' i hi]at h;cases h
theorem br{p:Nat->Bool}{i:Nat}(h: ∀j,j<i->p j=true)(hq:p i=true): ∀j,j<i+1->p j=true:=fun j hj=>by
 by_cases hji:j=i
 ·rw[hji];exact hq
 ·exact h j (by omega)
def iq(n:Int)(l:List Int)(i:Nat):Bool:=decide (0<=el l i/\el l i<n/\(0<i->el l (i - 1)<el l i))
def kr(l:List Int)(n:Int):Bool:=aaf (iq n l) l.length
def vy(l:List Int):Bool:=decide (0<l.length/\l.length<=64)&&kr l 64
theorem bdt(l:List Int)(n:Int)(hl:big l.length):Den Tryz.prog 42 [.vs (l.map i1),.int .i64 n] [] (.bool (kr l n)) [] []:=by
 refine aa Tryz.func42 rfl Tryz.call42 Tryz.ntmps42 Tryz.results42 (by simp) (by kernel_rfl) [] (exts:=[]) rfl rfl ?_;generalize hm:kr l n=m;have hbad:kr l n=false->m=false:=fun h=>by rw[<-hm];exact h
 have hgood:kr l n=true->m=true:=fun h=>by rw[<-hm];exact h
 simp only[go_sem];refine loop Tryz.mixed 0 (fun i:Nat=>[(0,.vs (l.map i1)),(1,.int .i64 n),(5,.int .i64 i)]) (fun i=>[]) (fun i=>i<=l.length/\∀j,j<i->iq n l j=true) (fun i=>l.length - i) (by kernel_rfl) ?_ ?_ ?_
 ·simp
 ·simp only[go_sem]
 ·rintro i ⟨hi,hp⟩;by_cases hi':i<l.length
  ·have hlt:(i:Int)<(l.length:Int):=by omega
   by_cases a1:el l i<0
   ·have hq:iq n l i=false:=decide_eq_false (by omega);simp only[go_sem,hlt,hi',a1];exact⟨ag (by kernel_rfl),(hbad (fe hi' hq)).symm⟩
   by_cases a2:n<=el l i
   ·have hq:iq n l i=false:=decide_eq_false (by omega);simp only[go_sem,hlt,hi',a1,a2];exact⟨ag (by kernel_rfl),(hbad (fe hi' hq)).symm⟩
   by_cases a3:0<i
   ·have a3':(0:Int)<(i:Int):=by omega
    have e1:IntKind.i64.wrap ((i:Int) - 1)=((i - 1:Nat):Int):=by rw[ae]<;>omega
    have e2:i - 1<l.length:=by omega
    by_cases a4:el l i<=el l (i - 1)
    ·have hq:iq n l i=false:=decide_eq_false (by omega);simp only[go_sem,hlt,hi',a1,a2,a3',e1,e2,a4];exact⟨ag (by kernel_rfl),(hbad (fe hi' hq)).symm⟩
    ·have hq:iq n l i=true:=decide_eq_true (by omega);simp only[go_sem,hlt,hi',a1,a2,a3',e1,e2,a4];exact⟨ag (by kernel_rfl),i+1,⟨⟨by omega,br hp hq⟩,by omega⟩,by rw[ae]<;>omega⟩
   ·have a3': ¬(0:Int)<(i:Int):=by omega
    have hq:iq n l i=true:=decide_eq_true (by omega);simp only[go_sem,hlt,hi',a1,a2,a3'];exact⟨ag (by kernel_rfl),i+1,⟨⟨by omega,br hp hq⟩,by omega⟩,by rw[ae]<;>omega⟩
  ·have hf: ¬((i:Int)<(l.length:Int)):=by omega
   have:i=l.length:=by omega
   subst this;simp only[go_sem,hf];exact(hgood (ng hp)).symm
structure Pol where
 se:List Int
 ta:List Int
 lv:Int
deriving Inhabited,DecidableEq
structure Rl where
 gen:List Int
 pol:Pol
 seats:Int
 span:Int
 quota:Int
deriving Inhabited,DecidableEq
def pl(p:Pol):List PV:=[.vs (p.se.map i1),.vs (p.ta.map i1),.int .i64 p.lv]
theorem mt(p:Pol):pl p=[.vs (p.se.map i1),.vs (p.ta.map i1),.int .i64 p.lv]:=(rfl)
def rl(r:Rl):List PV:=[.vs (r.gen.map i1),.vs (r.pol.se.map i1),.vs (r.pol.ta.map i1),.int .i64 r.pol.lv,.int .i64 r.seats,.int .i64 r.span,.int .i64 r.quota]
theorem p5(r:Rl):rl r=[.vs (r.gen.map i1),.vs (r.pol.se.map i1),.vs (r.pol.ta.map i1),.int .i64 r.pol.lv,.int .i64 r.seats,.int .i64 r.span,.int .i64 r.quota]:=(rfl)
attribute [go_sem] mt p5
def jc(ta:List Int)(i:Nat):Bool:=decide (1<=el ta i/\el ta i<=1000/\(0<i->el ta i<=el ta (i - 1)))
def atb(p:Pol):Bool:=decide (0<p.se.length)&&(kr p.se 64&&(decide (1<=p.ta.length/\p.ta.length<=8/\1<=p.lv/\p.lv<=3)&&aaf (jc p.ta) p.ta.length))
def gq(r:Rl):Int:=if vy r.gen=false then 43 else if atb r.pol=false then 15 else if(1<=r.seats/\r.seats<=9/\1<=r.span/\r.span<=1000000/\0<=r.quota/\r.quota<=64)then 0 else 40
def dgo(l:List Int)(p:Nat):Nat->Nat
 |0=>p
 |n+1=>ob l (dgo l p n)
theorem dm{l:List Int}{p:Nat}(hp:p<=l.length): ∀n,dgo l p n<=l.length
 |0=>hp
 |n+1=>aen (dm hp n)
def bli(l:List Int)(p:Nat):List UInt8:=[bAt (ai l p 4) 0]++(List.replicate 30 0++[bAt (ai l (dgo l p 1) 256) 0])
theorem biy(l:List Int)(p:Nat):(bli l p).length=32:=rfl
def lsB(l:List Int):List UInt8:=be8 l.length++beL l
theorem sa(l:List Int):(lsB l).length=8*l.length+8:=by simp only[lsB,List.length_append,az,dw];omega
def b0(r:Rl):List UInt8:=(((([116,114,117,115,116,102,108,111,119]:List UInt8)++lsB r.gen)++lsB r.pol.se)++lsB r.pol.ta)++lsB [r.pol.lv,r.seats,r.span,r.quota]
def aws(r:Rl):List UInt8:=sha (b0 r)
theorem a7s{r:Rl}(h:gq r=0):vy r.gen=true/\atb r.pol=true/\(1<=r.seats/\r.seats<=9/\1<=r.span/\r.span<=1000000/\0<=r.quota/\r.quota<=64):=by
 unfold gq at h;split at h
 ·omega
 split at h
 ·omega
 split at h
 ·rename_i a b c;exact⟨by simpa using a,by simpa using b,c⟩
 ·omega
def arm(s:List UInt8):Int:=bits .or .i64 (bits .or .i64 (bits .or .i64 (IntKind.i64.wrap (IntKind.i64.wrap ((s.getD 0 0).toNat:Int)*2^min 24 64)) (IntKind.i64.wrap (IntKind.i64.wrap ((s.getD 1 0).toNat:Int)*2^min 16 64))) (IntKind.i64.wrap (IntKind.i64.wrap ((s.getD 2 0).toNat:Int)*2^min 8 64))) (IntKind.i64.wrap ((s.getD 3 0).toNat:Int))
def bcy(v:List UInt8)(tag:List Int)(i:Nat):Int:=arm (sha ((v++lsB tag)++be8 i))
def af4(v:List UInt8)(tag:List Int):Nat->List Int
 |0=>[]
 |n+1=>af4 v tag n++[bcy v tag n]
theorem rj(v:List UInt8)(tag:List Int): ∀n,(af4 v tag n).length=n
 |0=>rfl
 |n+1=>by simp[af4,rj v tag n]
theorem amc(b:List UInt8):(sha b).length=32:=by rw[sha,ae7,aoe]
theorem y5(a b:Nat)(ha:a<9223372036854775808)(hb:b<9223372036854775808):bits .or .i64 (a:Int) (b:Int)=((a|||b:Nat):Int):=by
 have hx:a|||b<2^63:=Nat.or_lt_two_pow (by omega) (by omega)
 have h1:(BitVec.ofInt 64 (a:Int)).toNat=a:=by
  rw[BitVec.ofInt_natCast,BitVec.toNat_ofNat];exact Nat.mod_eq_of_lt (by omega)
 have h2:(BitVec.ofInt 64 (b:Int)).toNat=b:=by
  rw[BitVec.ofInt_natCast,BitVec.toNat_ofNat];exact Nat.mod_eq_of_lt (by omega)
 show IntKind.i64.wrap ((BitVec.ofInt 64 (a:Int)|||BitVec.ofInt 64 (b:Int)).toNat:Int)=_;rw[BitVec.toNat_or,h1,h2,IntKind.wrap_i64];omega
theorem a3n(s:List UInt8):0<=arm s:=by
 have hb: ∀k,(s.getD k 0).toNat<256:=fun k=>(s.getD k 0).toNat_lt;have w: ∀k,IntKind.i64.wrap ((s.getD k 0).toNat:Int)=((s.getD k 0).toNat:Int):=fun k=>ae (by omega) (by have:=hb k;omega);unfold arm;rw[w,w,w,w];have b0:=hb 0;have b1:=hb 1;have b2:=hb 2;have b3:=hb 3;generalize (s.getD 0 0).toNat=x0 at*;generalize (s.getD 1 0).toNat=x1 at*;generalize (s.getD 2 0).toNat=x2 at*;generalize (s.getD 3 0).toNat=x3 at*
 have e0:IntKind.i64.wrap ((x0:Int)*2^min 24 64)=((x0*16777216:Nat):Int):=by
  have:(2:Int)^min 24 64=16777216:=by rfl
  rw[this,ae]<;>omega
 have e1:IntKind.i64.wrap ((x1:Int)*2^min 16 64)=((x1*65536:Nat):Int):=by
  have:(2:Int)^min 16 64=65536:=by rfl
  rw[this,ae]<;>omega
 have e2:IntKind.i64.wrap ((x2:Int)*2^min 8 64)=((x2*256:Nat):Int):=by
  have:(2:Int)^min 8 64=256:=by rfl
  rw[this,ae]<;>omega
 rw[e0,e1,e2,y5 _ _ (by omega) (by omega)];have l1:x0*16777216|||x1*65536<2^32:=Nat.or_lt_two_pow (by omega) (by omega);rw[y5 _ _ (by omega) (by omega)];have l2:(x0*16777216|||x1*65536)|||x2*256<2^32:=Nat.or_lt_two_pow (by omega) (by omega);rw[y5 _ _ (by omega) (by omega)];omega
theorem a6s(v:List UInt8)(tag:List Int)(i:Nat):0<=bcy v tag i:=a3n _
theorem w6(v:List UInt8)(tag:List Int): ∀n,∀x∈af4 v tag n,0<=x
 |0,x,h=>by simp[af4]at h
 |n+1,x,h=>by
  rw[af4,List.mem_append]at h;rcases h with h|h
  ·exact w6 v tag n x h
  ·rw[List.mem_singleton]at h;rw[h];exact a6s _ _ _
theorem elg{l:List Int}{i:Nat}(h:i<l.length):el l i=l[i]:=by
 simp only[el,aw,a8 h,Option.getD_some]
theorem bbl{l:List Int}{n:Int}(hp:l.Pairwise (· < ·))(hb: ∀x∈l,0<=x/\x<n):kr l n=true:=
 ng fun i hi=>decide_eq_true (by
  have h1:=hb _ (ix hi);refine⟨h1.1,h1.2,fun h0=> ?_⟩;have:=List.pairwise_iff_getElem.1 hp (i - 1) i (by omega) hi (by omega)
  rwa [elg (by omega),elg hi])
theorem baw{l:List Int}{n:Int}(h:kr l n=true):l.Pairwise (· < ·)/\∀x∈l,0<=x/\x<n:=by
 have h': ∀i,i<l.length->iq n l i=true:=of_decide_eq_true h;have ok: ∀i,i<l.length->(0<=el l i/\el l i<n/\(0<i->el l (i - 1)<el l i)):=fun i hi=>of_decide_eq_true (h' i hi);refine⟨List.pairwise_iff_getElem.2 ?_,fun x hx=> ?_⟩
 ·have key: ∀d i,i+(d+1)<l.length->el l i<el l (i+(d+1)):=by
   intro d
   induction d with
   |zero=>intro i hi;exact(ok (i+1) hi).2.2 (by omega)
   |succ d ih=>
    intro i hi;have h1:=ih i (by omega);have h2:=(ok (i+(d+1+1)) hi).2.2 (by omega);exact Int.lt_trans h1 h2
  intro i j hi hj hij;have:=key (j - i - 1) i (by omega);rw[elg hi]at this;have e:i+(j - i - 1+1)=j:=by omega
  rw[e,elg hj]at this;exact this
 ·obtain⟨i,hi,rfl⟩:=ym hx;exact⟨(ok i hi).1,(ok i hi).2.1⟩
theorem avy{l:List Int}(hp:l.Pairwise (· < ·))(hb: ∀x∈l,0<=x/\x<64)(h0:l≠[])(h1:l.length<=64):vy l=true:=by
 have:0<l.length:=by cases l with|nil=>exact absurd rfl h0|cons=>simp
 rw[vy,decide_eq_true (by omega),bbl hp hb];rfl
theorem tu{l:List Int}(h:vy l=true):l.Pairwise (· < ·)/\(∀x∈l,0<=x/\x<64)/\l≠[]/\l.length<=64:=by
 rw[vy,Bool.and_eq_true]at h;have h1:=of_decide_eq_true h.1;have h2:=baw h.2;exact⟨h2.1,h2.2,fun e=>by rw[e]at h1;simp at h1,h1.2⟩
theorem af1(c:Int->Bool)(n:Nat):(fc c n).Pairwise (· < ·):=by
 unfold fc;refine List.Pairwise.filter _ ?_;rw[List.pairwise_map];exact List.pairwise_lt_range.imp fun h=>by omega
theorem ajd{c:Int->Bool}(h:fc c 64≠[]):vy (fc c 64)=true:=
 avy (af1 c 64) (fun x hx=>by have:=(qq.1 hx).1;omega) h (ny c 64)
def dt(l nu:List Int):Nat->List Int×List Int
 |0=>([],l)
 |i+1=>
  ((dt l nu i).1++[el (dt l nu i).2 ((el nu i).tmod (dt l nu i).2.length).toNat],
   (dt l nu i).2.take ((el nu i).tmod (dt l nu i).2.length).toNat++(dt l nu i).2.drop (((el nu i).tmod (dt l nu i).2.length).toNat+1))
theorem ana{a:Int}{n:Nat}(ha:0<=a)(hn:0<n):0<=a.tmod n/\a.tmod n<n:=⟨Int.tmod_nonneg _ ha,Int.tmod_lt_of_pos _ (by omega)⟩
theorem vz{l nu:List Int}(hn: ∀x∈nu,0<=x): ∀i,i<=l.length->(dt l nu i).1.length=i/\(dt l nu i).2.length=l.length - i
 |0,_=>⟨rfl,rfl⟩
 |i+1,hi=>by
  have ih:=vz (l:=l) hn i (by omega)
  have h0:0<=el nu i:=by
   by_cases h:i<nu.length
   ·exact hn _ (ix h)
   ·have:el nu i=0:=by simp[el,aw,List.getElem?_eq_none (by omega:nu.length<=i)]
    omega
  have hb:=ana (n:=(dt l nu i).2.length) h0 (by omega);simp only[dt,List.length_append,List.length_cons,List.length_nil,List.length_take,List.length_drop];omega
theorem xj{l nu:List Int}(hn: ∀x∈nu,0<=x): ∀i,i<=l.length->List.Perm ((dt l nu i).1++(dt l nu i).2) l
 |0,_=>by simp[dt]
 |i+1,hi=>by
  have ih:=xj (l:=l) hn i (by omega);have hl:=vz (l:=l) hn i (by omega)
  have h0:0<=el nu i:=by
   by_cases h:i<nu.length
   ·exact hn _ (ix h)
   ·have:el nu i=0:=by simp[el,aw,List.getElem?_eq_none (by omega:nu.length<=i)]
    omega
  have hb:=ana (n:=(dt l nu i).2.length) h0 (by omega);refine List.Perm.trans ?_ ih;simp only[dt];generalize hk:((el nu i).tmod (dt l nu i).2.length).toNat=k;generalize (dt l nu i).1=o at*;generalize (dt l nu i).2=f at*;have hkl:k<f.length:=by omega
  rw[List.append_assoc];refine List.Perm.append_left o ?_
  have hf:f=f.take k++(el f k::f.drop (k+1)):=by
   have:=cu hkl
   conv=>lhs;rw[<-List.take_append_drop (k+1) f]
   rw[this];simp
  (conv=>rhs;rw[hf])
  rw[List.singleton_append];exact List.perm_middle.symm
theorem a8h{l nu:List Int}(hn: ∀x∈nu,0<=x){i:Nat}(hi:i<=l.length){x:Int}(hx:x∈(dt l nu i).1):x∈l:=
 (xj hn i hi).mem_iff.1 (List.mem_append_left _ hx)
theorem asr{l nu:List Int}(hn: ∀x∈nu,0<=x){i:Nat}(hi:i<=l.length)(hl:l.Nodup):(dt l nu i).1.Nodup:=
 (List.nodup_append.1 ((xj hn i hi).nodup_iff.2 hl)).1
def i8(l prev:List Int):List Int:=fc (fun k=>decide (k∈l)&& !decide (k∈prev)) 64
def a3c(c:Cs)(j:Int):List Int:=[c.ep,c.kd,c.su,j]
def xr(r:Rl)(v:List UInt8)(l:List Int)(c:Cs)(j:Int)(prev:List Int):List Int:=
 (dt (i8 l prev) (af4 v (a3c c j) 9) (min r.seats.toNat (i8 l prev).length)).1
def ofR(r:Rl)(v:List UInt8)(l:List Int)(c:Cs):List Int×Int:=
 if gq r≠0 then([],gq r)else if vy l=false then([],43)else if l6 c=false then([],41)
 else if c.ro=0 then(xr r v l c 0 [],0)
 else if i8 l (xr r v l c 0 [])=[]then([],44)
 else(xr r v l c 1 (xr r v l c 0 []),0)
theorem yn{l prev:List Int}{x:Int}:x∈i8 l prev↔(0<=x/\x<64)/\x∈l/\x∉prev:=by
 rw[i8,qq];simp
theorem a1m{l:List Int}(h:vy l=true):i8 l []≠[]:=by
 obtain⟨_,hb,hne,_⟩:=tu h
 cases l with
 |nil=>exact absurd rfl hne
 |cons a t=>
  have:a∈i8 (a::t) []:=yn.2 ⟨hb a (by simp),by simp,by simp⟩;intro e;rw[e]at this;simp at this
theorem ajx(l prev:List Int):(i8 l prev).length<=64:=ny _ 64
theorem ae9{r:Rl}{v:List UInt8}{l:List Int}{c:Cs}{j:Int}{prev:List Int}:(xr r v l c j prev).length=min r.seats.toNat (i8 l prev).length:=
 (vz (l:=i8 l prev) (w6 _ _ 9) _ (by omega)).1
theorem a8g{r:Rl}{v:List UInt8}{l:List Int}{c:Cs}{j:Int}{prev:List Int}{x:Int}(h:x∈xr r v l c j prev):x∈i8 l prev:=
 a8h (w6 _ _ 9) (by omega) h
theorem aua{r:Rl}{v:List UInt8}{l:List Int}{c:Cs}{j:Int}{prev:List Int}:(xr r v l c j prev).Nodup:=
 asr (w6 _ _ 9) (by omega) ((af1 _ _).imp fun h=>by omega)
theorem avm(r:Rl)(v:List UInt8)(l:List Int)(c:Cs):ofR r v l c=(if gq r≠0 then([],gq r)else if vy l=false then([],43)else if l6 c=false then([],41)
 else if c.ro=0 then(xr r v l c 0 [],0)
 else if i8 l (xr r v l c 0 [])=[]then([],44)
 else(xr r v l c 1 (xr r v l c 0 []),0)):=rfl
end Go.Proofs.Am
