/- EOne. -/
import Derived.Test.YteakcpfdfglndaaGreatDoorCThree
import Derived.Test.YteakcpfdfglndaaGreatDoorDThree
import Derived.Test.YteakcpfdfglndaaGreatDoorETwo
import Derived.Test.YteakcpfdfglndaaGreatDoorDSix
import Derived.Test.YteakcpfdfglndaaGreatDoorDEight
import Derived.Test.YteakcpfdfglndaaGreatDoorLOne
set_option maxHeartbeats 1000000
set_option maxRecDepth 100000
set_option linter.unusedSimpArgs false
set_option linter.unusedVariables false
namespace Go.Proofs.Am
open Go Go.RowKit
open Go.Proofs
def akv(l:List Stm)(n:Int):List Stm:=(List.range l.length).map fun i=>el l ((i+(aia n l.length).toNat) % l.length)
def acq(l:List Stm)(n:Int)(i:Nat):List Stm:=(List.range i).map fun i=>el l ((i+(aia n l.length).toNat) % l.length)
theorem ao9(l:List Stm)(n:Int)(i:Nat):acq l n (i+1)=acq l n i++[el l ((i+(aia n l.length).toNat) % l.length)]:=by simp[acq,List.range_succ]
theorem avv(l:List Stm)(n:Int)(i:Nat):(acq l n i).length=i:=by simp[acq]
theorem awv(l:List Stm)(n:Int)(hl:l.length≤1000000):Den Tryz.prog 14 [.vs (l.map sm),.int .i64 n] [] (.vs ((akv l n).map sm)) [] []:=by
 refine aa Tryz.mixed Tryz.func14 rfl Tryz.call14 Tryz.ntmps14 (congrArg Array.toList Tryz.results14) (by simp) (by kernel_rfl) [] (exts:=[]) rfl rfl ?_
 simp only[go_sem]
 refine br 5 110 60 13 false ?_ ?_ ?_ (by omega)
 ·refine loop Tryz.mixed 0 (fun i:Nat=>[(0,.vs (l.map sm)),(1,.int .i64 n),(5,.os 110 (acq l n i).length),(6,.int .i64 i)]) (fun i=>[(110,.arr 60 13 false ((acq l n i).map sm))]) (fun i=>i≤l.length) (fun i=>l.length - i) (by kernel_rfl) (Nat.zero_le _) ?_ ?_
  ·simp only[go_sem]
   simp[acq]
  ·intro i hi
   by_cases hlt:i<l.length
   ·have h1:(i:Int)<(l.length:Int):=by omega
    have hs:=ao9 l n i
    have hln:=avv l n i
    have hm:=as5 (n:=n) (m:=l.length) (by omega)
    have hmn:aia n l.length=((aia n l.length).toNat:Int):=by omega
    generalize acq l n i=o at*
    generalize hmk:aia n l.length=m at*
    simp only[go_sem,h1]
    refine call (bb8 n l.length (by omega)) [] ?_
    rw[hmk]
    obtain⟨k,rfl⟩: ∃k:Nat,m=k:=⟨m.toNat,hmn⟩
    have hw:IntKind.i64.wrap ((i:Int)+(k:Int))=((i+k:Nat):Int):=by rw[ag]<;>omega
    have hw2:((i+k:Nat):Int).tmod (l.length:Int)=(((i+k) % l.length:Nat):Int):=by rw[Int.tmod_eq_emod_of_nonneg (by omega)];rfl
    have hlt2:(i+k) % l.length<l.length:=Nat.mod_lt _ (by omega)
    have h0: ¬(l.length:Int)=0:=by omega
    rw[Int.toNat_natCast]at hs
    generalize hj:(i+k) % l.length=j at*
    simp only[go_sem,hw,hw2,h0,hlt2]
    refine⟨by omega,i+1,⟨by omega,by omega⟩,⟨by rw[hs];simp,by rw[ag]<;>omega⟩,?_⟩
    rw[hs]
    simp[sm]
   ·have h1: ¬(i:Int)<(l.length:Int):=by omega
    have:i=l.length:=by omega
    subst this
    simp only[go_sem,h1]
    rfl
 ·simp only[go_sem]
 ·simp only[go_sem]
theorem ato(s:Stm)(hs:gx s):Den Tryz.prog 103 [.agg (sm s)] [] (.tup [.agg (vt7 (ofE s).1),.int .i64 (ofE s).2]) [] []:=by
 refine aa Tryz.mixed Tryz.func103 rfl Tryz.call103 Tryz.ntmps103 (congrArg Array.toList Tryz.results103) (by simp) (by kernel_rfl) [] (exts:=[]) rfl rfl ?_
 have c2:=mb s hs
 generalize hr:ofE s=r
 rw[sm]at c2 ⊢
 simp only[go_sem]
 refine call c2 [] ?_
 by_cases z1:aj s=0
 rotate_left
 ·have:r=(noV,aj s):=by rw[←hr,ofE,if_pos z1]
  subst this
  simp only[go_sem,z1,noV]
 have hx:=aet z1
 have hb:=(jk z1)
 have hb1:=hb.1
 have hb2:=hb.2.1
 have c4:=agf (mkV s).c (mkV s).x hx
 rw[bd,gk]at c4
 simp only[mkV]at c4
 have hz: ¬aj s≠0:=fun h=>h z1
 have hw:IntKind.i64.wrap (s.b.tdiv 16)=s.b.tdiv 16:=by
  have h4:=hb.2.2.2
  simp only[gw,inB,Bool.and_eq_true,decide_eq_true_eq]at h4
  have h5:s.b.tdiv 16=s.b/16:=Int.tdiv_eq_ediv_of_nonneg (by omega)
  rw[ag]<;>omega
 clear hb
 by_cases k1:s.kd=10
 rotate_left
 ·have:r=(noV,42):=by rw[←hr,ofE,if_neg hz,if_neg (fun h=>k1 h.1)]
  subst this
  simp only[go_sem,z1,k1,noV]
  (repeat refine And.intro (by first|omega|exact ae (by kernel_rfl)) ?_)
  all_goals exact ae (by kernel_rfl)
 by_cases k2:s.body=[]
 rotate_left
 ·have:r=(noV,42):=by rw[←hr,ofE,if_neg hz,if_neg (fun h=>k2 h.2.1)]
  subst this
  simp only[go_sem,z1,k1,k2,noV]
  (repeat refine And.intro (by first|omega|exact ae (by kernel_rfl)) ?_)
  all_goals exact ae (by kernel_rfl)
 simp only[go_sem,z1,k1,k2]
 (repeat refine And.intro (by first|omega|exact ae (by kernel_rfl)) ?_)
 refine call c4 [] ?_
 by_cases k3:fq (mkV s).c (mkV s).x=true
 ·have:r=(mkV s,0):=by rw[←hr,ofE,if_neg hz,if_pos ⟨k1,k2,k3⟩]
  subst this
  simp only[mkV]at k3
  simp only[go_sem,k3,mkV,hw]
 ·have:r=(noV,42):=by rw[←hr,ofE,if_neg hz,if_neg (fun h=>k3 h.2.2)]
  subst this
  simp only[mkV,Bool.not_eq_true]at k3
  simp only[go_sem,k3,noV,hw]
theorem afs(s:Stm)(hs:gx s):Den Tryz.prog 92 [.agg (sm s)] [] (.tup [.agg (vt7 (cw s).1),.bool (cw s).2]) [] []:=by
 refine aa Tryz.mixed Tryz.func92 rfl Tryz.call92 Tryz.ntmps92 (congrArg Array.toList Tryz.results92) (by simp) (by kernel_rfl) [] (exts:=[]) rfl rfl ?_
 have c1:=ato s hs
 have c2:=fun h:(ofE s).2=0=>mg s (ai9 h)
 generalize hr:cw s=r
 rw[sm]at c1 c2 ⊢
 simp only[go_sem]
 refine call c1 [] ?_
 by_cases k1:(ofE s).2=0
 ·simp only[go_sem,k1]
  refine call (c2 k1) [] ?_
  simp only[go_sem]
  refine⟨ae (by kernel_rfl),?_⟩
  rw[←hr]
  exact⟨⟨rfl,rfl,rfl,rfl,rfl,rfl,rfl⟩,by simp[cw,k1]⟩
 ·simp only[go_sem,k1]
  refine⟨ae (by kernel_rfl),?_⟩
  rw[←hr]
  exact⟨⟨rfl,rfl,rfl,rfl,rfl,rfl,rfl⟩,by simp[cw,k1]⟩
theorem ut(a b:Vt):pw a b<0↔a.k<b.k∨a.k=b.k∧jx a.x b.x<0:=by
 unfold pw or2 gr
 by_cases h1:a.k<b.k
 ·simp[h1]
 ·by_cases h2:b.k<a.k
  ·simp[h1,h2];omega
  ·have:a.k=b.k:=by omega
   simp[this]
theorem aal(a b:Vt)(ha:ml a.x)(hb:ml b.x):Den Tryz.prog 102 [.agg (vt7 a),.agg (vt7 b)] [] (.bool (decide (pw a b<0))) [] []:=by
 refine aa Tryz.mixed Tryz.func102 rfl Tryz.call102 Tryz.ntmps102 (congrArg Array.toList Tryz.results102) (by simp) (by kernel_rfl) [] (exts:=[]) rfl rfl ?_
 by_cases h1:a.k<b.k
 ·have h:pw a b<0:=(ut a b).2 (.inl h1)
  simp only[go_sem,h1,h]
 by_cases h2:a.k=b.k
 rotate_left
 ·have h: ¬pw a b<0:=fun h=>by rcases(ut a b).1 h with h|h<;>omega
  simp only[go_sem,h1,h2,h]
 have h:pw a b<0↔jx a.x b.x<0:=⟨fun h=>by rcases(ut a b).1 h with h|h;omega;exact h.2,fun h=>(ut a b).2 (.inr ⟨h2,h⟩)⟩
 have h3: ¬b.k<b.k:=by omega
 simp only[go_sem,h1,h2,h3]
 refine call (ji a.x b.x ha.1 ha.2 hb.1 hb.2) [] ?_
 simp only[go_sem]
 simp[h]
def jh(a b:Cs):Bool:=if a.ep≠b.ep then decide (a.ep<b.ep)else if a.kd≠b.kd then decide (a.kd<b.kd)else if a.su≠b.su then decide (a.su<b.su)else decide (a.ro<b.ro)
theorem ake(a b:Cs):Den Tryz.prog 93 [.agg (cs a),.agg (cs b)] [] (.bool (jh a b)) [] []:=by
 refine aa Tryz.mixed Tryz.func93 rfl Tryz.call93 Tryz.ntmps93 (congrArg Array.toList Tryz.results93) (by simp) (by kernel_rfl) [] (exts:=[]) rfl rfl ?_
 rw[bd,bd,jh]
 by_cases h1:a.ep=b.ep
 rotate_left
 ·simp only[go_sem,h1]
 by_cases h2:a.kd=b.kd
 rotate_left
 ·simp only[go_sem,h1,h2]
 by_cases h3:a.su=b.su
 rotate_left
 ·simp only[go_sem,h1,h2,h3]
 simp only[go_sem,h1,h2,h3]
theorem aki{α:Type} [Inhabited α](q:α→α→Bool)(l:List α)(h: ∀j,0<j→j<l.length→q (el l j) (el l (j - 1))=false):kp q l l.length=l:=by
 rw[xe q l l.length (Nat.le_refl _) h,List.take_length]
def bx(a b:Cs):Bool:=decide (a=b)
theorem vq(a b:Cs):a=b↔(a.ep=b.ep∧a.kd=b.kd∧a.su=b.su∧a.ro=b.ro):=by
 cases a
 cases b
 simp
def zC:List PV:=[.int .i64 0,.int .i64 0,.int .i64 0,.int .i64 0]
theorem bfz:zC=[PV.int .i64 0,PV.int .i64 0,PV.int .i64 0,PV.int .i64 0].map zf:=(rfl)
theorem x5(a b:Cs):(decide (a.ep=b.ep)&&(decide (a.kd=b.kd)&&(decide (a.su=b.su)&&decide (a.ro=b.ro))))=bx a b:=by
 unfold bx
 rw[Bool.eq_iff_iff]
 simp[vq]
theorem ux{α:Type} [Inhabited α]{L o:List α}{v:α}(h1:o.length<L.length)(h2:L.take o.length=o):(L.set o.length v).take (o++[v]).length=o++[v]:=by
 rw[List.length_append,List.length_singleton,List.take_add_one,List.take_set_of_le (Nat.le_refl _),h2]
 simp[h1]
theorem am3{α:Type} [Inhabited α]{L:List α}{v:α}{k a:Nat}(h:k<a):el (L.set k v) a=el L a:=by
 simp only[el,List.getD_eq_getElem?_getD,List.getElem?_set]
 rw[if_neg (by omega)]
theorem abl(l:List Cs)(hl:big l.length)(hd: ∀i,0<i→i<l.length→bx (el l i) (el l (i - 1))=false):
  Den Tryz.prog 168 [.os 1000000 l.length] [.arr 52 4 false (l.map cs)] (.os 1000000 l.length) [] [.arr 52 4 false (l.map cs)]:=by
 refine aa Tryz.mixed Tryz.func168 rfl Tryz.call168 Tryz.ntmps168 (congrArg Array.toList Tryz.results168) (by simp) (by kernel_rfl) [] (exts:=[1000000]) rfl rfl ?_
 by_cases h2:(l.length:Int)<2
 ·simp only[go_sem,h2]
 simp only[go_sem,h2]
 refine loop Tryz.mixed 1 (fun i:Nat=>[(0,.os 1000000 l.length),(3,.int .i64 i)]) (fun _=>[(1000000,.arr 52 4 false (l.map cs))]) (fun i=>1≤i∧i≤l.length) (fun i=>l.length - i) (by kernel_rfl) ⟨Nat.le_refl _,by omega⟩ ?_ ?_
 ·simp only[go_sem]
 ·rintro i ⟨hi0,hi⟩
  by_cases hlt:i<l.length
  ·have h1:(i:Int)<(l.length:Int):=by omega
   obtain⟨j,rfl⟩: ∃j,i=j+1:=⟨i - 1,by omega⟩
   have hw:IntKind.i64.wrap (((j+1:Nat):Int) - 1)=(j:Int):=by rw[ag]<;>omega
   have hj:j<l.length:=by omega
   have hne:=hd (j+1) (by omega) hlt
   rw[Nat.add_sub_cancel]at hne
   have hne2:=of_decide_eq_false hne
   rw[vq]at hne2
   simp only[go_sem,h1,hlt,hw,hj,bd]
   refine⟨ae (by kernel_rfl),fun h=>absurd h hne2,fun _=>⟨j+1+1,⟨⟨by omega,by omega⟩,by omega⟩,?_⟩⟩
   rw[ag]<;>omega
  ·have h1: ¬(i:Int)<(l.length:Int):=by omega
   simp only[go_sem,h1]
theorem aa6(l:List Cs)(hl:big l.length){k0:Nat}(h1:0<k0)(h2:k0<l.length)(h3:bx (el l k0) (el l (k0 - 1))=true)(h4: ∀j,0<j→j<k0→bx (el l j) (el l (j - 1))=false):
  Den Tryz.prog 168 [.os 1000000 l.length] [.arr 52 4 false (l.map cs)] (.vs ((kp bx l l.length).map cs)) [] [.arr 52 4 true ((kp bx l l.length).map cs++List.replicate (l.length - (kp bx l l.length).length) zC)]:=by
 refine aa Tryz.mixed Tryz.func168 rfl Tryz.call168 Tryz.ntmps168 (congrArg Array.toList Tryz.results168) (by simp) (by kernel_rfl) [] (exts:=[1000000]) rfl rfl ?_
 have hlen: ¬(l.length:Int)<2:=by omega
 simp only[go_sem,hlen]
 refine wg Tryz.mixed 1 (fun i:Nat=>[(0,.os 1000000 l.length),(3,.int .i64 i)]) (fun _=>[(1000000,.arh 52 4 (l.map cs))]) (fun i=>1≤i∧i≤k0) (fun i=>k0 - i) (by kernel_rfl) ⟨Nat.le_refl _,by omega⟩ ?_ ?_
 ·refine Cv.trans (Cv.opn (n:=1000000) (by rfl)) (Cv.wk ?_)
  have hin:=bq [1000000] cs (fun _=>rfl) l
  simp only[go_sem,hin]
 ·rintro i ⟨hi0,hi⟩
  have hlt:i<l.length:=by omega
  have g1:(i:Int)<(l.length:Int):=by omega
  obtain⟨j,rfl⟩: ∃j,i=j+1:=⟨i - 1,by omega⟩
  have hw:IntKind.i64.wrap (((j+1:Nat):Int) - 1)=(j:Int):=by rw[ag]<;>omega
  have hj:j<l.length:=by omega
  have hq:bx (el l (j+1)) (el l j)=decide (el l (j+1)=el l j):=rfl
  by_cases hk:j+1<k0
  ·have hne:=h4 (j+1) (by omega) hk
   rw[Nat.add_sub_cancel]at hne
   have hne2:=of_decide_eq_false hne
   rw[vq]at hne2
   simp only[go_sem,g1,hlt,hw,hj,bd]
   refine⟨ae (by kernel_rfl),fun h=>absurd h hne2,fun _=>⟨j+1+1,⟨⟨by omega,by omega⟩,by omega⟩,Cv.wk ?_⟩⟩
   have hin:=bq [1000000] cs (fun _=>rfl) l
   simp only[go_sem,hin]
   rw[ag]<;>omega
  ·obtain rfl:k0=j+1:=by omega
   rw[Nat.add_sub_cancel]at h3
   have he2:=of_decide_eq_true h3
   rw[vq]at he2
   simp only[go_sem,g1,hlt,hw,hj,bd,he2]
   refine⟨ae (by kernel_rfl),?_⟩
   have kf:kp bx l (j+1+1)=l.take (j+1):=by
    have:=xe bx l (j+1) (by omega) h4
    rw[kp,if_neg (fun h=>by rcases h with h|h;omega;rw[Nat.add_sub_cancel,h3]at h;cases h),this,List.append_nil]
   refine wg Tryz.mixed (0,l) (fun s:Nat×List Cs=>[(0,.os 1000000 l.length),(3,.int .i64 (kp bx l (j+1+(s.1+1))).length),(4,.osl 1000000 l.length (j+1)),(5,.int .i64 ((s.1+1:Nat):Int))]) (fun s=>[(1000000,.arh 52 4 (s.2.map cs))])
    (fun s=>j+1+(s.1+1)≤l.length∧s.2.length=l.length∧(kp bx l (j+1+(s.1+1))).length<j+1+(s.1+1)∧s.2.take (kp bx l (j+1+(s.1+1))).length=kp bx l (j+1+(s.1+1))∧∀a,(kp bx l (j+1+(s.1+1))).length≤a→el s.2 a=el l a) (fun s=>l.length - s.1) (by kernel_rfl) ?_ ?_ ?_
   ·have hlt':(l.take (j+1)).length=j+1:=by simp;omega
    refine⟨by simp only;omega,rfl,?_,?_,fun a _=>rfl⟩
    ·show(kp bx l (j+1+1)).length<j+1+1
     rw[kf,hlt'];omega
    ·show l.take (kp bx l (j+1+1)).length=kp bx l (j+1+1)
     rw[kf,hlt']
   ·refine Cv.wk ?_
    have hlt':(l.take (j+1)).length=j+1:=by simp;omega
    have hin:=bq [1000000] cs (fun _=>rfl) l
    simp only[go_sem,hin,kf,hlt']
   ·rintro⟨n,L⟩ ⟨i1,i2,i3,i4,i5⟩
    simp only at i1 i2 i3 i4 i5
    simp only
    have ks:kp bx l (j+1+(n+1)+1)=kp bx l (j+1+(n+1))++if bx (el l (j+1+(n+1))) (el l (j+1+n))=false then [el l (j+1+(n+1))]else []:=by
     rw[kp]
     have h0: ¬j+1+(n+1)=0:=by omega
     simp only[h0,false_or]
     rfl
    have k0p:0<(kp bx l (j+1+(n+1))).length:=aum _ _ (by omega)
    generalize hO:kp bx l (j+1+(n+1))=o at*
    by_cases hm:j+1+(n+1)<l.length
    ·have g2:((n+1:Nat):Int)<((l.length - (j+1):Nat):Int):=by omega
     have g3:((j+1:Nat):Int)+((n+1:Nat):Int)<(l.length:Int):=by omega
     have g4:((j+1:Nat):Int)+(n:Int)<(l.length:Int):=by omega
     have g5:IntKind.i64.wrap (((n+1:Nat):Int) - 1)=(n:Int):=by rw[ag]<;>omega
     have g6:j+1+(n+1)<L.length:=by omega
     have g7:j+1+n<L.length:=by omega
     have e1:el L (j+1+(n+1))=el l (j+1+(n+1)):=i5 _ (by omega)
     have e2:el L (j+1+n)=el l (j+1+n):=i5 _ (by omega)
     have ks':kp bx l (j+1+((n+1)+1))=o++if bx (el l (j+1+(n+1))) (el l (j+1+n))=false then [el l (j+1+(n+1))]else []:=ks
     cases hsame:bx (el l (j+1+(n+1))) (el l (j+1+n))with
     |true=>
      rw[hsame,if_neg (by simp),List.append_nil]at ks'
      simp only[go_sem,g2,g3,g4,g5,g6,g7,i2,e1,e2,x5,hsame]
      refine⟨hm,by omega,ae (by kernel_rfl),(n+1,L),⟨⟨by simp only;omega,i2,?_,?_,fun a ha=>i5 a ?_⟩,by simp only;omega⟩,Cv.wk ?_⟩
      ·show(kp bx l (j+1+((n+1)+1))).length<_
       rw[ks'];simp only;omega
      ·show L.take (kp bx l (j+1+((n+1)+1))).length=_
       rw[ks'];exact i4
      ·have ha':(kp bx l (j+1+((n+1)+1))).length≤a:=ha
       rwa [ks']at ha'
      ·have hin:=bq [1000000] cs (fun _=>rfl) L
       simp only[go_sem,ks',hin]
       rw[ag]<;>omega
     |false=>
      rw[hsame,if_pos rfl]at ks'
      simp only[go_sem,g2,g3,g4,g5,g6,g7,i2,e1,e2,x5,hsame]
      refine⟨hm,by omega,ae (by kernel_rfl),hm,by omega,by omega,(n+1,L.set o.length (el l (j+1+(n+1)))),⟨⟨by simp only;omega,by simp only[List.length_set];exact i2,?_,?_,fun a ha=> ?_⟩,by simp only;omega⟩,Cv.wk ?_⟩
      ·show(kp bx l (j+1+((n+1)+1))).length<_
       rw[ks',List.length_append,List.length_singleton];simp only;omega
      ·show(L.set o.length (el l (j+1+(n+1)))).take (kp bx l (j+1+((n+1)+1))).length=kp bx l (j+1+((n+1)+1))
       rw[ks'];exact ux (by omega) i4
      ·have ha':(kp bx l (j+1+((n+1)+1))).length≤a:=ha
       rw[ks',List.length_append,List.length_singleton]at ha'
       show el (L.set o.length _) a=_
       rw[am3 (by omega)]
       exact i5 a (by omega)
      ·have hin:=bq [1000000] cs (fun _=>rfl) (L.set o.length (el l (j+1+(n+1))))
       have hset:(L.map cs).set o.length [PV.int IntKind.i64 (el l (j+1+(n+1))).ep,PV.int IntKind.i64 (el l (j+1+(n+1))).kd,PV.int IntKind.i64 (el l (j+1+(n+1))).su,PV.int IntKind.i64 (el l (j+1+(n+1))).ro]=(L.set o.length (el l (j+1+(n+1)))).map cs:=by rw[List.map_set];rfl
       have hol:(o++[el l (j+1+(n+1))]).length=o.length+1:=by simp
       simp only[go_sem,ks',hset,hin,hol]
       exact⟨by rw[ag]<;>omega,by rw[ag]<;>omega⟩
    ·have hend:j+1+(n+1)=l.length:=by omega
     have g2: ¬((n+1:Nat):Int)<((l.length - (j+1):Nat):Int):=by omega
     have g3:(o.length:Int)<(l.length:Int):=by omega
     rw[hend]at hO
     rw[hO]
     have htk:(L.map cs).take o.length=o.map cs:=by rw[←List.map_take,i4]
     have hpu: ∀σ,jw σ (o.map cs++List.replicate (l.length - o.length) zC)=some (o.map cs++List.replicate (l.length - o.length) zC,[]):=fun σ=>qb fun x hx=>by
      rcases List.mem_append.1 hx with hx|hx
      ·obtain⟨c,_,rfl⟩:=List.mem_map.1 hx
       rfl
      ·rw[List.eq_of_mem_replicate hx]
       rfl
     have g4:(o.length:Int)≤(l.length:Int):=by omega
     have g5:(o.map cs++List.replicate (l.length - o.length) zC).length=l.length:=by simp;omega
     have g6:(o.map cs++List.replicate (l.length - o.length) zC).take o.length=o.map cs:=by simp
     simp only[go_sem,g2,g3,i2,htk]
     refine mi _ _ ?_
     have g7:o.length<l.length:=by omega
     simp only[go_sem,g2,g3,i2,htk,g7,←bfz,hpu,g4,g5,g6]
     refine akd _ ?_
     simp only[go_sem]
theorem aee(l:List Cs)(hl:big l.length):
  ∃new,new.length=l.length∧Den Tryz.prog 168 [.os 1000000 l.length] [.arr 52 4 false (l.map cs)] (.vs ((kp bx l l.length).map cs)) [] [.arr 52 4 true new]:=by
 rcases uj bx l l.length (Nat.le_refl _)with h|⟨k0,h1,h2,h3,h4⟩
 ·rw[aki _ _ h]
  exact⟨_,by simp,(abl l hl h).vsE (by simp)⟩
 ·exact⟨_,by have:=zj bx l l.length;simp;omega,aa6 l hl h1 h2 h3 h4⟩
def ed(a b:Vt):Bool:=decide (pw a b=0)
def zV:List PV:=[.int .i64 0,.int .i64 0,.int .i64 0,.int .i64 0,.int .i64 0,.vs [],.vs []]
theorem bd4:zV=[PV.int .i64 0,PV.int .i64 0,PV.int .i64 0,PV.int .i64 0,PV.int .i64 0,.nils,.nils].map zf:=(rfl)
theorem acp(l:List Vt)(hl:big l.length)(hb: ∀a∈l,ml a.x){k0:Nat}(h1:0<k0)(h2:k0<l.length)(h3:ed (el l k0) (el l (k0 - 1))=true)(h4: ∀j,0<j→j<k0→ed (el l j) (el l (j - 1))=false):
  Den Tryz.prog 172 [.os 1000000 l.length,.fn 173 [.ptr 1000001 0]] [.arr 116 7 false (l.map vt7),.cells [.fn 169 []]] (.vs ((kp ed l l.length).map vt7)) [] [.arr 116 7 true ((kp ed l l.length).map vt7++List.replicate (l.length - (kp ed l l.length).length) zV),.cells [.fn 169 []]]:=by
 refine aa Tryz.mixed Tryz.func172 rfl Tryz.call172 Tryz.ntmps172 (congrArg Array.toList Tryz.results172) (by simp) (by kernel_rfl) [] (exts:=[1000000,1000001]) rfl rfl ?_
 have hlen: ¬(l.length:Int)<2:=by omega
 simp only[go_sem,hlen]
 refine wg Tryz.mixed 1 (fun i:Nat=>[(0,.os 1000000 l.length),(1,.fn 173 [.ptr 1000001 0]),(5,.int .i64 i)]) (fun _=>[(1000000,.arh 116 7 (l.map vt7)),(1000001,.cells [.fn 169 []])]) (fun i=>1≤i∧i≤k0) (fun i=>k0 - i) (by kernel_rfl) ⟨Nat.le_refl _,by omega⟩ ?_ ?_
 ·refine Cv.trans (Cv.opn (n:=1000000) (by rfl)) (Cv.wk ?_)
  have hin:=bq [1000000,1000001] vt7 (fun _=>rfl) l
  simp only[go_sem,hin]
 ·rintro i ⟨hi0,hi⟩
  have hlt:i<l.length:=by omega
  have g1:(i:Int)<(l.length:Int):=by omega
  obtain⟨j,rfl⟩: ∃j,i=j+1:=⟨i - 1,by omega⟩
  have hw:IntKind.i64.wrap (((j+1:Nat):Int) - 1)=(j:Int):=by rw[ag]<;>omega
  have hj:j<l.length:=by omega
  have cq:=aj3 (el l (j+1)) (el l j) (hb _ (aw hlt)) (hb _ (aw hj))
  have hq:decide (pw (el l (j+1)) (el l j)=0)=ed (el l (j+1)) (el l j):=rfl
  rw[hq]at cq
  by_cases hk:j+1<k0
  ·have hne:=h4 (j+1) (by omega) hk
   rw[Nat.add_sub_cancel]at hne
   rw[hne]at cq
   simp only[go_sem,g1,hlt,hw,hj]
   refine call cq [1000001] ?_
   simp only[go_sem]
   refine⟨ae (by kernel_rfl),j+1+1,⟨⟨by omega,by omega⟩,by omega⟩,Cv.wk ?_⟩
   have hin:=bq [1000000,1000001] vt7 (fun _=>rfl) l
   simp only[go_sem,hin]
   rw[ag]<;>omega
  ·obtain rfl:k0=j+1:=by omega
   rw[Nat.add_sub_cancel]at h3
   rw[h3]at cq
   simp only[go_sem,g1,hlt,hw,hj]
   refine call cq [1000001] ?_
   simp only[go_sem,g1,hlt,hw,hj]
   refine⟨ae (by kernel_rfl),?_⟩
   have kf:kp ed l (j+1+1)=l.take (j+1):=by
    have:=xe ed l (j+1) (by omega) h4
    rw[kp,if_neg (fun h=>by rcases h with h|h;omega;rw[Nat.add_sub_cancel,h3]at h;cases h),this,List.append_nil]
   refine wg Tryz.mixed (0,l) (fun s:Nat×List Vt=>[(0,.os 1000000 l.length),(1,.fn 173 [.ptr 1000001 0]),(5,.int .i64 (kp ed l (j+1+(s.1+1))).length),(6,.osl 1000000 l.length (j+1)),(7,.int .i64 ((s.1+1:Nat):Int))]) (fun s=>[(1000000,.arh 116 7 (s.2.map vt7)),(1000001,.cells [.fn 169 []])])
    (fun s=>j+1+(s.1+1)≤l.length∧s.2.length=l.length∧(kp ed l (j+1+(s.1+1))).length<j+1+(s.1+1)∧s.2.take (kp ed l (j+1+(s.1+1))).length=kp ed l (j+1+(s.1+1))∧∀a,(kp ed l (j+1+(s.1+1))).length≤a→el s.2 a=el l a) (fun s=>l.length - s.1) (by kernel_rfl) ?_ ?_ ?_
   ·have hlt':(l.take (j+1)).length=j+1:=by simp;omega
    refine⟨by simp only;omega,rfl,?_,?_,fun a _=>rfl⟩
    ·show(kp ed l (j+1+1)).length<j+1+1
     rw[kf,hlt'];omega
    ·show l.take (kp ed l (j+1+1)).length=kp ed l (j+1+1)
     rw[kf,hlt']
   ·refine Cv.wk ?_
    have hlt':(l.take (j+1)).length=j+1:=by simp;omega
    have hin:=bq [1000000,1000001] vt7 (fun _=>rfl) l
    simp only[go_sem,hin,kf,hlt']
   ·rintro⟨n,L⟩ ⟨i1,i2,i3,i4,i5⟩
    simp only at i1 i2 i3 i4 i5
    simp only
    have ks:kp ed l (j+1+(n+1)+1)=kp ed l (j+1+(n+1))++if ed (el l (j+1+(n+1))) (el l (j+1+n))=false then [el l (j+1+(n+1))]else []:=by
     rw[kp]
     have h0: ¬j+1+(n+1)=0:=by omega
     simp only[h0,false_or]
     rfl
    have k0p:0<(kp ed l (j+1+(n+1))).length:=aum _ _ (by omega)
    generalize hO:kp ed l (j+1+(n+1))=o at*
    by_cases hm:j+1+(n+1)<l.length
    ·have g2:((n+1:Nat):Int)<((l.length - (j+1):Nat):Int):=by omega
     have g3:((j+1:Nat):Int)+((n+1:Nat):Int)<(l.length:Int):=by omega
     have g4:((j+1:Nat):Int)+(n:Int)<(l.length:Int):=by omega
     have g5:IntKind.i64.wrap (((n+1:Nat):Int) - 1)=(n:Int):=by rw[ag]<;>omega
     have g6:j+1+(n+1)<L.length:=by omega
     have g7:j+1+n<L.length:=by omega
     have e1:el L (j+1+(n+1))=el l (j+1+(n+1)):=i5 _ (by omega)
     have e2:el L (j+1+n)=el l (j+1+n):=i5 _ (by omega)
     have ks':kp ed l (j+1+((n+1)+1))=o++if ed (el l (j+1+(n+1))) (el l (j+1+n))=false then [el l (j+1+(n+1))]else []:=ks
     have cq2:=aj3 (el l (j+1+(n+1))) (el l (j+1+n)) (hb _ (aw hm)) (hb _ (aw (by omega)))
     have hq2:decide (pw (el l (j+1+(n+1))) (el l (j+1+n))=0)=ed (el l (j+1+(n+1))) (el l (j+1+n)):=rfl
     rw[hq2]at cq2
     have hm2:j+1+n<l.length:=by omega
     cases hsame:ed (el l (j+1+(n+1))) (el l (j+1+n))with
     |true=>
      rw[hsame,if_neg (by simp),List.append_nil]at ks'
      rw[hsame]at cq2
      simp only[go_sem,g2,g3,g4,g5,g6,g7,i2,e1,e2,hm,hm2]
      refine call cq2 [1000001] ?_
      simp only[go_sem,g2,g3,g4,g5,g6,g7,i2,e1,e2,hm,hm2]
      refine⟨ae (by kernel_rfl),(n+1,L),⟨⟨by simp only;omega,i2,?_,?_,fun a ha=>i5 a ?_⟩,by simp only;omega⟩,Cv.wk ?_⟩
      ·show(kp ed l (j+1+((n+1)+1))).length<_
       rw[ks'];simp only;omega
      ·show L.take (kp ed l (j+1+((n+1)+1))).length=_
       rw[ks'];exact i4
      ·have ha':(kp ed l (j+1+((n+1)+1))).length≤a:=ha
       rwa [ks']at ha'
      ·have hin:=bq [1000000,1000001] vt7 (fun _=>rfl) L
       simp only[go_sem,ks',hin]
       rw[ag]<;>omega
     |false=>
      rw[hsame,if_pos rfl]at ks'
      rw[hsame]at cq2
      have g8:o.length<l.length:=by omega
      simp only[go_sem,g2,g3,g4,g5,g6,g7,g8,i2,e1,e2,hm,hm2]
      refine call cq2 [1000001] ?_
      simp only[go_sem,g2,g3,g4,g5,g6,g7,g8,i2,e1,e2,hm,hm2]
      refine⟨ae (by kernel_rfl),(n+1,L.set o.length (el l (j+1+(n+1)))),⟨⟨by simp only;omega,by simp only[List.length_set];exact i2,?_,?_,fun a ha=> ?_⟩,by simp only;omega⟩,Cv.wk ?_⟩
      ·show(kp ed l (j+1+((n+1)+1))).length<_
       rw[ks',List.length_append,List.length_singleton];simp only;omega
      ·show(L.set o.length (el l (j+1+(n+1)))).take (kp ed l (j+1+((n+1)+1))).length=kp ed l (j+1+((n+1)+1))
       rw[ks'];exact ux (by omega) i4
      ·have ha':(kp ed l (j+1+((n+1)+1))).length≤a:=ha
       rw[ks',List.length_append,List.length_singleton]at ha'
       show el (L.set o.length _) a=_
       rw[am3 (by omega)]
       exact i5 a (by omega)
      ·have hin:=bq [1000000,1000001] vt7 (fun _=>rfl) (L.set o.length (el l (j+1+(n+1))))
       have hset:(L.map vt7).set o.length [PV.int IntKind.i64 (el l (j+1+(n+1))).k,PV.int IntKind.i64 (el l (j+1+(n+1))).c.ep,PV.int IntKind.i64 (el l (j+1+(n+1))).c.kd,PV.int IntKind.i64 (el l (j+1+(n+1))).c.su,PV.int IntKind.i64 (el l (j+1+(n+1))).c.ro,PV.vs (List.map Am.i1 (el l (j+1+(n+1))).x.li),PV.vs (List.map pn (el l (j+1+(n+1))).x.pi)]=(L.set o.length (el l (j+1+(n+1)))).map vt7:=by rw[List.map_set];rfl
       have hol:(o++[el l (j+1+(n+1))]).length=o.length+1:=by simp
       simp only[go_sem,ks',hset,hin,hol]
       exact⟨by rw[ag]<;>omega,by rw[ag]<;>omega⟩
    ·have hend:j+1+(n+1)=l.length:=by omega
     have g2: ¬((n+1:Nat):Int)<((l.length - (j+1):Nat):Int):=by omega
     have g3:(o.length:Int)<(l.length:Int):=by omega
     rw[hend]at hO
     rw[hO]
     have htk:(L.map vt7).take o.length=o.map vt7:=by rw[←List.map_take,i4]
     have hpu: ∀σ,jw σ (o.map vt7++List.replicate (l.length - o.length) zV)=some (o.map vt7++List.replicate (l.length - o.length) zV,[]):=fun σ=>qb fun x hx=>by
      rcases List.mem_append.1 hx with hx|hx
      ·obtain⟨c,_,rfl⟩:=List.mem_map.1 hx
       rfl
      ·rw[List.eq_of_mem_replicate hx]
       rfl
     have g4:(o.length:Int)≤(l.length:Int):=by omega
     have g5:(o.map vt7++List.replicate (l.length - o.length) zV).length=l.length:=by simp;omega
     have g6:(o.map vt7++List.replicate (l.length - o.length) zV).take o.length=o.map vt7:=by simp
     simp only[go_sem,g2,g3,i2,htk]
     refine mi _ _ ?_
     have g7:o.length<l.length:=by omega
     simp only[go_sem,g2,g3,i2,htk,g7,←bd4,hpu,g4,g5,g6]
     refine akd _ ?_
     simp only[go_sem]
theorem adk(l:List Vt)(hl:big l.length)(hb: ∀a∈l,ml a.x):
  ∃new,new.length=l.length∧Den Tryz.prog 172 [.os 1000000 l.length,.fn 173 [.ptr 1000001 0]] [.arr 116 7 false (l.map vt7),.cells [.fn 169 []]] (.vs ((kp ed l l.length).map vt7)) [] [.arr 116 7 true new,.cells [.fn 169 []]]:=by
 rcases uj ed l l.length (Nat.le_refl _)with h|⟨k0,h1,h2,h3,h4⟩
 ·rw[aki _ _ h]
  exact⟨_,by simp,(ag2 l hl hb fun i h5 h6 e=>by have:=h i h5 h6;simp[ed,e]at this).vsE (by simp)⟩
 ·exact⟨_,by have:=zj ed l l.length;simp;omega,acp l hl hb h1 h2 h3 h4⟩
def am(l:List Stm)(c:Cs):List Vt:=kp ed (a03 (vn l c l.length)) (a03 (vn l c l.length)).length
theorem ze(l:List Stm)(c:Cs)(hl:l.length≤1000000)(hs: ∀s∈l,gx s):
  Den Tryz.prog 130 [.vs (l.map sm),.agg (cs c)] [] (.vs ((am l c).map vt7)) [] []:=by
 refine aa Tryz.mixed Tryz.func130 rfl Tryz.call130 Tryz.ntmps130 (congrArg Array.toList Tryz.results130) (by simp) (by kernel_rfl) [] (exts:=[]) rfl rfl ?_
 simp only[go_sem]
 refine br 5 99 116 7 false ?_ ?_ ?_ (by omega)
 ·refine loop Tryz.mixed 0 (fun i:Nat=>[(11,.vs (l.map sm)),(12,.int .i64 l.length),(13,.int .i64 i),(3,.ptr 3 0),(5,.os 99 (vn l c i).length)]) (fun i=>[(3,.cells [.int .i64 c.ep,.int .i64 c.kd,.int .i64 c.su,.int .i64 c.ro]),(99,.arr 116 7 false ((vn l c i).map vt7))]) (fun i=>i≤l.length) (fun i=>l.length - i) (by kernel_rfl) (Nat.zero_le _) ?_ ?_
  ·simp only[go_sem]
   exact⟨rfl,rfl⟩
  ·intro i hi
   by_cases hlt:i<l.length
   ·have h1:(i:Int)<(l.length:Int):=by omega
    have hsu:=af9 (c:=c) hlt
    have hrl:=ami l c i
    have hv:=aeb (el l i) (hs _ (aw hlt))
    rw[kz]at hv
    generalize vn l c i=o at*
    generalize hve:cw (el l i)=ve at*
    obtain⟨w,b⟩:=ve
    simp only[okV,hve]at hsu
    simp only[go_sem,h1,hlt]
    refine call hv [] ?_
    cases b with
    |false=>
     simp only[go_sem]
     refine⟨i+1,⟨by omega,by omega⟩,?_⟩
     rw[hsu]
     simp only[Bool.false_and,Bool.false_eq_true,if_false,List.append_nil]
     simp only[go_sem]
     rw[ag]<;>omega
    |true=>
     have hce:(w.c=c)↔(w.c.ep=c.ep∧w.c.kd=c.kd∧w.c.su=c.su∧w.c.ro=c.ro):=by
      cases hw:w.c
      cases c
      simp
     simp only[go_sem]
     refine⟨fun h=>⟨by omega,i+1,⟨by omega,by omega⟩,?_⟩,fun h=>⟨i+1,⟨by omega,by omega⟩,?_⟩⟩
     ·rw[hsu]
      simp only[hce.2 h,decide_true,Bool.and_self,if_true]
      exact⟨⟨by rw[ag]<;>omega,by simp⟩,by simp[vt7,hce.2 h]⟩
     ·have hn: ¬w.c=c:=fun e=>by
       have:=hce.1 e
       simp[this]at h
      rw[hsu]
      simp only[hn,decide_false,Bool.and_false,Bool.false_eq_true,if_false,List.append_nil]
      exact⟨⟨by rw[ag]<;>omega,trivial⟩,trivial⟩
   ·have h1: ¬(i:Int)<(l.length:Int):=by omega
    have:i=l.length:=by omega
    subst this
    simp only[go_sem,h1]
    have hrl:=ami l c l.length
    have hrb: ∀a∈vn l c l.length,ml a.x:=fun a ha=>by
     obtain⟨s,_,rfl⟩:=List.mem_map.1 ha
     exact io qh
    have hrc: ∀a∈vn l c l.length,a.c=c:=fun a ha=>by
     obtain⟨s,hs',rfl⟩:=List.mem_map.1 ha
     have:=(List.mem_filter.1 hs').2
     simp only[okV,Bool.and_eq_true,decide_eq_true_eq]at this
     exact this.2
    have hvl:am l c=kp ed (a03 (vn l c l.length)) (a03 (vn l c l.length)).length:=rfl
    rw[hvl]
    clear hvl
    generalize vn l c l.length=o at*
    refine call (awl o (by omega) hrb (fun a ha b hb=>(hrc a ha).trans (hrc b hb).symm)) [99] ?_
    have hsl:(a03 o).length=o.length:=List.length_mergeSort _
    simp only[go_sem,hsl]
    obtain⟨new,hnl,hcc⟩:=adk (a03 o) (by simp only[big];omega) (fun a ha=>hrb a ((List.mergeSort_perm _ _).mem_iff.1 ha))
    rw[hsl]at hcc hnl
    refine⟨Nat.le_refl _,?_⟩
    refine call hcc [99,10] ?_
    simp only[go_sem,hsl]
    omega
 ·simp only[go_sem]
 ·simp only[go_sem]
def ltV(a b:Vt):Bool:=decide (pw a b<0)
def ard(l:List Stm)(c:Cs)(i:Nat):List Vt:=(vn l c i).foldl (lz ltV) []
theorem aeh{l:List Stm}{c:Cs}{i:Nat}(h:i<l.length):ard l c (i+1)=if okV c (el l i)=true then lz ltV (ard l c i) (cw (el l i)).1 else ard l c i:=by
 simp only[ard,af9 h,List.foldl_append]
 split<;>rfl
theorem aco{l:List Stm}{c:Cs}: ∀i,i≤l.length→(ard l c i).length≤i∧∀y∈ard l c i,ml y.x
 |0,_=>by simp[ard,vn]
 |i+1,h=>by
  have ih:=aco (c:=c) i (by omega:i≤l.length)
  rw[aeh (by omega)]
  split
  ·refine⟨Nat.le_trans (acf _ _ _) (by omega),fun y hy=> ?_⟩
   rcases alf _ _ _ _ hy with rfl|hy
   ·exact io qh
   ·exact ih.2 y hy
  ·exact⟨by omega,ih.2⟩
theorem sv(l:List Stm)(c:Cs)(hl:l.length≤1000000)(hs: ∀s∈l,gx s):Den Tryz.prog 71 [.vs (l.map sm),.agg (cs c)] [] (.vs ((ard l c l.length).map vt7)) [] []:=by
 refine aa Tryz.mixed Tryz.func71 rfl Tryz.call71 Tryz.ntmps71 (congrArg Array.toList Tryz.results71) (by simp) (by kernel_rfl) [] (exts:=[]) rfl rfl ?_
 simp only[go_sem,bd]
 refine loop Tryz.mixed 0 (fun i:Nat=>[(0,.vs (l.map sm)),(3,.ptr 3 0),(5,.vs ((ard l c i).map vt7)),(6,.int .i64 i)]) (fun _=>[(3,.cells [.int .i64 c.ep,.int .i64 c.kd,.int .i64 c.su,.int .i64 c.ro])]) (fun i=>i≤l.length) (fun i=>l.length - i) (by kernel_rfl) (Nat.zero_le _) ?_ ?_
 ·simp only[go_sem]
  rfl
 ·intro i hi
  by_cases hlt:i<l.length
  ·have h1:(i:Int)<(l.length:Int):=by omega
   have hsu:=aeh (c:=c) hlt
   obtain⟨hol,hob⟩:=aco (c:=c) i hi
   have hv:=afs (el l i) (hs _ (aw hlt))
   rw[kz]at hv
   have hbw:ml (cw (el l i)).1.x:=io qh
   generalize ard l c i=o at*
   generalize hve:cw (el l i)=ve at*
   obtain⟨w,b⟩:=ve
   simp only[okV,hve]at hsu
   simp only at hbw
   simp only[go_sem,h1,hlt]
   refine call hv [] ?_
   cases b with
   |false=>
    simp only[go_sem]
    refine⟨i+1,⟨by omega,by omega⟩,?_⟩
    rw[hsu]
    simp only[Bool.false_and,Bool.false_eq_true,if_false]
    simp only[go_sem]
    rw[ag]<;>omega
   |true=>
    cases hsc:bx w.c c with
    |false=>
     have hn: ¬w.c=c:=of_decide_eq_false hsc
     simp only[go_sem,x5,hsc]
     refine⟨i+1,⟨by omega,by omega⟩,?_⟩
     rw[hsu]
     simp only[hn,decide_false,Bool.and_false,Bool.false_eq_true,if_false]
     simp only[go_sem]
     rw[ag]<;>omega
    |true=>
     have hn:w.c=c:=of_decide_eq_true hsc
     simp only[hn,decide_true,Bool.and_self,if_true]at hsu
     simp only[go_sem,x5,hsc]
     refine loop Tryz.mixed 0 (fun k:Nat=>[(0,.vs (l.map sm)),(3,.ptr 3 0),(5,.vs (o.map vt7)),(6,.int .i64 i),(7,.ptr 7 0),(9,.int .i64 k)]) (fun _=>[(3,.cells [.int .i64 c.ep,.int .i64 c.kd,.int .i64 c.su,.int .i64 c.ro]),(7,.cells (vt7 w))]) (fun k=>k≤o.length∧∀j,j<k→ltV (el o j) w=true) (fun k=>o.length - k) (by kernel_rfl) ⟨Nat.zero_le _,fun j hj=>by omega⟩ ?_ ?_
     ·simp only[go_sem]
     ·rintro k ⟨hk,hall⟩
      by_cases hkl:k<o.length
      ·have h2:(k:Int)<(o.length:Int):=by omega
       have hbo:=hob (el o k) (aw hkl)
       simp only[go_sem,h2,hkl]
       refine call (aal (el o k) w hbo hbw) [] ?_
       by_cases z1:pw (el o k) w<0
       ·simp only[go_sem,z1]
        refine⟨ae (by kernel_rfl),k+1,⟨⟨by omega,fun j hj=> ?_⟩,by omega⟩,?_⟩
        ·rcases Nat.lt_succ_iff_lt_or_eq.1 hj with h|h
         ·exact hall j h
         ·rw[h];exact decide_eq_true z1
        ·rw[ag]<;>omega
       have hia:=v8 ltV o w k hk hall (fun _=>decide_eq_false z1)
       simp only[go_sem,z1]
       refine⟨ae (by kernel_rfl),?_⟩
       simp only[go_sem,h2,hkl]
       refine call (aal w (el o k) hbw hbo) [] ?_
       by_cases z2:pw w (el o k)<0
       ·rw[if_neg (fun h=>by have:=h.2;simp[ltV,z2]at this)]at hia
        simp only[go_sem,z2]
        refine⟨ae (by kernel_rfl),?_⟩
        have lt:(o.take k).length=k:=by simp;omega
        have ld:((o.take o.length).drop k).length=o.length - k:=by simp
        simp only[go_sem,h2,lt,ld]
        (repeat refine And.intro (by first|omega|exact ae (by kernel_rfl)) ?_)
        refine⟨i+1,⟨by omega,by omega⟩,?_⟩
        rw[hsu,hia]
        exact⟨by simp[vt7],by rw[ag]<;>omega⟩
       ·rw[if_pos ⟨hkl,decide_eq_false z2⟩]at hia
        simp only[go_sem,z2]
        refine⟨ae (by kernel_rfl),i+1,⟨by omega,by omega⟩,?_⟩
        rw[hsu,hia]
        simp only[go_sem]
        rw[ag]<;>omega
      ·have h2: ¬(k:Int)<(o.length:Int):=by omega
       have hia:=v8 ltV o w k hk hall (fun h=>absurd h hkl)
       rw[if_neg (fun h=>hkl h.1)]at hia
       simp only[go_sem,h2]
       refine⟨ae (by kernel_rfl),?_⟩
       have lt:(o.take k).length=k:=by simp;omega
       have ld:((o.take o.length).drop k).length=o.length - k:=by simp
       simp only[go_sem,h2,lt,ld]
       (repeat refine And.intro (by first|omega|exact ae (by kernel_rfl)) ?_)
       refine⟨i+1,⟨by omega,by omega⟩,?_⟩
       rw[hsu,hia]
       exact⟨by simp[vt7],by rw[ag]<;>omega⟩
  ·have h1: ¬(i:Int)<(l.length:Int):=by omega
   have:i=l.length:=by omega
   subst this
   simp only[go_sem,h1]
def ud(l:List Stm)(i:Nat):List Cs:=((l.take i).filter fun s=>(cw s).2).map fun s=>(cw s).1.c
theorem aei{l:List Stm}{i:Nat}(h:i<l.length):ud l (i+1)=ud l i++if(cw (el l i)).2=true then [(cw (el l i)).1.c]else []:=by
 simp only[ud,bh h,List.filter_append,List.map_append,List.filter_cons,List.filter_nil]
 split<;>rfl
theorem ald(l:List Stm)(i:Nat):(ud l i).length≤l.length:=by
 simp only[ud,List.length_map]
 refine Nat.le_trans (List.length_filter_le _ _) ?_
 simp;omega
def ane(l:List Stm)(i:Nat):List Cs:=(ud l i).foldl (lz jh) []
theorem ag8{l:List Stm}{i:Nat}(h:i<l.length):ane l (i+1)=if(cw (el l i)).2=true then lz jh (ane l i) (cw (el l i)).1.c else ane l i:=by
 simp only[ane,aei h,List.foldl_append]
 split<;>rfl
theorem abt{l:List Stm}: ∀i,i≤l.length→(ane l i).length≤i
 |0,_=>by simp[ane,ud]
 |i+1,h=>by
  have ih:=abt i (by omega:i≤l.length)
  rw[ag8 (by omega)]
  split
  ·exact Nat.le_trans (acf _ _ _) (by omega)
  ·omega
theorem rv(a:Cs):jh a a=false:=by simp[jh]
theorem auy{a b:Cs}(h1:jh a b=false)(h2: ¬a=b):jh b a=true:=by
 unfold jh at h1 ⊢
 rw[vq]at h2
 by_cases e1:a.ep=b.ep
 ·rw[if_neg (by omega)]at h1
  rw[if_neg (by omega)]
  by_cases e2:a.kd=b.kd
  ·rw[if_neg (by omega)]at h1
   rw[if_neg (by omega)]
   by_cases e3:a.su=b.su
   ·rw[if_neg (by omega)]at h1
    rw[if_neg (by omega)]
    have:=of_decide_eq_false h1
    have h3: ¬a.ro=b.ro:=fun e=>h2 ⟨e1,e2,e3,e⟩
    exact decide_eq_true (by omega)
   ·rw[if_pos (by omega)]at h1
    rw[if_pos (by omega)]
    have:=of_decide_eq_false h1
    exact decide_eq_true (by omega)
  ·rw[if_pos (by omega)]at h1
   rw[if_pos (by omega)]
   have:=of_decide_eq_false h1
   exact decide_eq_true (by omega)
 ·rw[if_pos (by omega)]at h1
  rw[if_pos (by omega)]
  have:=of_decide_eq_false h1
  exact decide_eq_true (by omega)
theorem s4(l:List Stm)(hl:l.length≤1000000)(hs: ∀s∈l,gx s):Den Tryz.prog 60 [.vs (l.map sm)] [] (.vs ((ane l l.length).map cs)) [] []:=by
 refine aa Tryz.mixed Tryz.func60 rfl Tryz.call60 Tryz.ntmps60 (congrArg Array.toList Tryz.results60) (by simp) (by kernel_rfl) [] (exts:=[]) rfl rfl ?_
 simp only[go_sem]
 refine loop Tryz.mixed 0 (fun i:Nat=>[(0,.vs (l.map sm)),(3,.vs ((ane l i).map cs)),(4,.int .i64 i)]) (fun _=>[]) (fun i=>i≤l.length) (fun i=>l.length - i) (by kernel_rfl) (Nat.zero_le _) ?_ ?_
 ·simp only[go_sem]
  rfl
 ·intro i hi
  by_cases hlt:i<l.length
  ·have h1:(i:Int)<(l.length:Int):=by omega
   have hsu:=ag8 hlt
   have hol:=abt i hi
   have hv:=afs (el l i) (hs _ (aw hlt))
   rw[kz]at hv
   generalize ane l i=o at*
   generalize hve:cw (el l i)=ve at*
   obtain⟨w,b⟩:=ve
   simp only at hsu
   simp only[go_sem,h1,hlt]
   refine call hv [] ?_
   cases b with
   |false=>
    simp only[go_sem]
    refine⟨i+1,⟨by omega,by omega⟩,?_⟩
    rw[hsu]
    simp only[Bool.false_eq_true,if_false]
    simp only[go_sem]
    rw[ag]<;>omega
   |true=>
    rw[if_pos rfl]at hsu
    simp only[go_sem]
    refine loop Tryz.mixed 0 (fun k:Nat=>[(0,.vs (l.map sm)),(3,.vs (o.map cs)),(4,.int .i64 i),(5,.ptr 5 0),(7,.int .i64 k)]) (fun _=>[(5,.cells (vt7 w))]) (fun k=>k≤o.length∧∀j,j<k→jh (el o j) w.c=true) (fun k=>o.length - k) (by kernel_rfl) ⟨Nat.zero_le _,fun j hj=>by omega⟩ ?_ ?_
    ·simp only[go_sem]
    ·rintro k ⟨hk,hall⟩
     have hin: ∀d:Unit,lz jh o w.c=o.take k++w.c::o.drop k→List.map cs (List.take k o)++[[PV.int IntKind.i64 w.c.ep,PV.int IntKind.i64 w.c.kd,PV.int IntKind.i64 w.c.su,PV.int IntKind.i64 w.c.ro]]++List.map cs (List.drop k (List.take o.length o))=List.map cs (lz jh o w.c):=fun _ h=>by rw[h];simp[cs]
     have lt:(o.take k).length=k:=by simp;omega
     have ld:((o.take o.length).drop k).length=o.length - k:=by simp
     by_cases hkl:k<o.length
     ·have h2:(k:Int)<(o.length:Int):=by omega
      have h3: ¬(k:Int)=(o.length:Int):=by omega
      have ce:=ake (el o k) w.c
      rw[bd,bd]at ce
      simp only[go_sem,h2,hkl,bd]
      refine call ce [] ?_
      cases z1:jh (el o k) w.c with
      |true=>
       simp only[go_sem]
       refine⟨ae (by kernel_rfl),k+1,⟨⟨by omega,fun j hj=> ?_⟩,by omega⟩,?_⟩
       ·rcases Nat.lt_succ_iff_lt_or_eq.1 hj with h|h
        ·exact hall j h
        ·rw[h];exact z1
       ·rw[ag]<;>omega
      |false=>
       have hia:=v8 jh o w.c k hk hall (fun _=>z1)
       simp only[go_sem]
       refine⟨ae (by kernel_rfl),?_⟩
       cases hsc:bx (el o k) w.c with
       |true=>
        have he:el o k=w.c:=of_decide_eq_true hsc
        rw[if_pos ⟨hkl,by rw[he];exact rv _⟩]at hia
        have hP:=(vq _ _).1 he
        simp only[go_sem,h2,h3,hkl,bd,hP]
        refine⟨ae (by kernel_rfl),i+1,⟨by omega,by omega⟩,?_⟩
        rw[hsu,hia]
        simp only[go_sem]
        rw[ag]<;>omega
       |false=>
        have he: ¬el o k=w.c:=of_decide_eq_false hsc
        rw[if_neg (fun h=>by rw[auy z1 he]at h;simp at h)]at hia
        have hP:=mt (vq _ _).2 he
        have hP2:(decide ((el o k).ep=w.c.ep)&&(decide ((el o k).kd=w.c.kd)&&(decide ((el o k).su=w.c.su)&&decide ((el o k).ro=w.c.ro))))=false:=hsc ▸ x5 _ _
        simp only[go_sem,h2,h3,hkl,bd,hP2,lt,ld]
        (repeat refine And.intro (by first|omega|exact ae (by kernel_rfl)) ?_)
        refine⟨?_,fun h=>absurd h hP⟩
        (repeat refine And.intro (by first|omega|exact ae (by kernel_rfl)) ?_)
        refine⟨i+1,⟨by omega,by omega⟩,?_⟩
        rw[hsu,←hin () hia]
        exact⟨rfl,by rw[ag]<;>omega⟩
     ·have h2: ¬(k:Int)<(o.length:Int):=by omega
      have h3:((k:Int)=(o.length:Int))=True:=by simp;omega
      have hia:=v8 jh o w.c k hk hall (fun h=>absurd h hkl)
      rw[if_neg (fun h=>hkl h.1)]at hia
      simp only[go_sem,h2,h3]
      refine⟨ae (by kernel_rfl),?_⟩
      simp only[go_sem,h2,h3,lt,ld]
      (repeat refine And.intro (by first|omega|exact ae (by kernel_rfl)) ?_)
      refine⟨i+1,⟨by omega,by omega⟩,?_⟩
      rw[hsu,←hin () hia]
      exact⟨rfl,by rw[ag]<;>omega⟩
  ·have h1: ¬(i:Int)<(l.length:Int):=by omega
   have:i=l.length:=by omega
   subst this
   simp only[go_sem,h1]
def ayv(a b:Cs):Int:=or2 (gr a.ep b.ep) (or2 (gr a.kd b.kd) (or2 (gr a.su b.su) (gr a.ro b.ro)))
theorem a2a(a b:Cs):Den Tryz.prog 167 [.agg (cs a),.agg (cs b)] [] (.int .i64 (ayv a b)) [] []:=by
 refine aa Tryz.mixed Tryz.func167 rfl Tryz.call167 Tryz.ntmps167 (congrArg Array.toList Tryz.results167) (by simp) (by kernel_rfl) [] (exts:=[]) rfl rfl ?_
 rw[bd,bd]
 simp only[go_sem]
 refine call (gj a.ep b.ep) [] ?_
 simp only[go_sem]
 refine call (gj a.kd b.kd) [] ?_
 simp only[go_sem]
 refine call (gj a.su b.su) [] ?_
 simp only[go_sem]
 refine call (gj a.ro b.ro) [] ?_
 simp only[go_sem]
 refine call (ag6 [gr a.ep b.ep,gr a.kd b.kd,gr a.su b.su,gr a.ro b.ro] (by simp[big])) [] ?_
 simp only[go_sem]
 refine⟨ae (by kernel_rfl),?_⟩
 simp only[orL,ayv,or2]
 repeat' split
 all_goals simp_all
theorem to_C:TO ayv:=axh (mu mf (mu mf (mu mf mf))) (fun c:Cs=>(c.ep,(c.kd,(c.su,c.ro)))) fun x y h=>by
 cases x
 cases y
 simpa using h
theorem wu(a b:Cs):jh a b=decide (ayv a b<0):=by
 unfold jh ayv or2 gr
 by_cases h1:a.ep=b.ep
 ·by_cases h2:a.kd=b.kd
  ·by_cases h3:a.su=b.su
   ·simp only[h1,h2,h3]
    simp
    by_cases h4:a.ro<b.ro
    ·simp[h4]
    ·by_cases h5:b.ro<a.ro<;>simp[h4,h5]
   ·by_cases h4:a.su<b.su
    ·simp[h1,h2,h3,h4]
    ·have h5:b.su<a.su:=by omega
     simp[h1,h2,h3,h4,h5]
  ·by_cases h4:a.kd<b.kd
   ·simp[h1,h2,h4]
   ·have h5:b.kd<a.kd:=by omega
    simp[h1,h2,h4,h5]
 ·by_cases h4:a.ep<b.ep
  ·simp[h1,h4]
  ·have h5:b.ep<a.ep:=by omega
   simp[h1,h4,h5]
theorem bam{α:Type}{f:α→α→Int}{S:α→Prop}(hirr: ∀a,¬f a a<0)(htr: ∀a b c,f a b<0→f b c<0→f a c<0)(hnt: ∀a b c,¬f a b<0→¬f b c<0→¬f a c<0)(htri: ∀a b,S a→S b→¬f a b<0→¬f b a<0→a=b):KO (fun a b=>decide (f a b<0)) S where
 irr a:=decide_eq_false (hirr a)
 tr a b c h1 h2:=decide_eq_true (htr a b c (of_decide_eq_true h1) (of_decide_eq_true h2))
 nt a b c h1 h2:=decide_eq_false (hnt a b c (of_decide_eq_false h1) (of_decide_eq_false h2))
 tri a b ha hb h1 h2:=htri a b ha hb (of_decide_eq_false h1) (of_decide_eq_false h2)
theorem ko_C:KO jh fun _=>True:=by
 have:jh=fun a b=>decide (ayv a b<0):=by funext a b;exact wu a b
 rw[this]
 refine bam to_C.irr to_C.tr to_C.nt fun a b _ _ h1 h2=> ?_
 refine(to_C.eq a b).1 ?_
 have:=to_C.flip b a
 omega
theorem a9p(c:Cs):KO ltV fun v=>v.c=c:=by
 refine bam (f:=pw) (fun a=>to_V.irr (a.k,a.x)) (fun a b d=>to_V.tr (a.k,a.x) (b.k,b.x) (d.k,d.x)) (fun a b d=>to_V.nt (a.k,a.x) (b.k,b.x) (d.k,d.x)) fun a b ha hb h1 h2=> ?_
 have e:(a.k,a.x)=(b.k,b.x):=(to_V.eq (a.k,a.x) (b.k,b.x)).1 (by
  have:=to_V.flip (b.k,b.x) (a.k,a.x)
  simp only[pw]at h1 h2
  simp only at this ⊢
  omega)
 cases a
 cases b
 simp only[Prod.mk.injEq]at e
 simp only at ha hb
 simp[e,ha,hb]
theorem atk(a b:Vt):ed a b=true↔(ltV a b=false∧ltV b a=false):=by
 have:=to_V.flip (b.k,b.x) (a.k,a.x)
 have h2:=to_V.flip (a.k,a.x) (b.k,b.x)
 simp only at this h2
 have e1:pw a b=or2 (gr a.k b.k) (jx a.x b.x):=rfl
 have e2:pw b a=or2 (gr b.k a.k) (jx b.x a.x):=rfl
 rw[←e1,←e2]at this h2
 unfold ed ltV
 rw[decide_eq_true_iff,decide_eq_false_iff_not,decide_eq_false_iff_not]
 constructor
 ·intro h;constructor<;>omega
 ·rintro⟨h3,h4⟩;omega
theorem as7(a b:Cs):bx a b=true↔(jh a b=false∧jh b a=false):=by
 simp only[bx,decide_eq_true_eq]
 constructor
 ·rintro rfl
  exact⟨rv _,rv _⟩
 ·rintro⟨h1,h2⟩
  exact ko_C.tri a b trivial trivial h1 h2
theorem a8m(l:List Vt):(a03 l).Pairwise fun a b=>ltV b a=false:=by
 have:=List.pairwise_mergeSort (le:=fun a b:Vt=> !decide (pw b a<0)) (fun a b c h1 h2=>by
  simp only[Bool.not_eq_true',decide_eq_false_iff_not]at h1 h2 ⊢
  exact to_V.nt (c.k,c.x) (b.k,b.x) (a.k,a.x) h2 h1) (fun a b=>by
  simp only[Bool.or_eq_true,Bool.not_eq_true',decide_eq_false_iff_not]
  have:=to_V.flip (b.k,b.x) (a.k,a.x)
  simp only[pw]
  simp only at this
  omega) l
 exact this.imp fun h=>by simpa [ltV] using h
theorem aya{l:List Stm}{c:Cs}{n:Nat}: ∀v∈vn l c n,v.c=c:=fun a ha=>by
 obtain⟨s,hs',rfl⟩:=List.mem_map.1 ha
 have:=(List.mem_filter.1 hs').2
 simp only[okV,Bool.and_eq_true,decide_eq_true_eq]at this
 exact this.2
theorem uq(l:List Stm)(c:Cs):SS ltV (am l c)∧∀x,x∈am l c↔x∈vn l c l.length:=by
 have hp:=List.mergeSort_perm (vn l c l.length) fun a b:Vt=> !decide (pw b a<0)
 have h:=(a9p c).kp_inv atk (l:=a03 (vn l c l.length)) (fun x hx=>aya x (hp.mem_iff.1 hx)) (a8m _) _ (Nat.le_refl _)
 refine⟨h.1,fun x=> ?_⟩
 rw[am,h.2,List.take_length]
 exact hp.mem_iff
theorem abz(l:List Stm)(c:Cs):am l c=ard l c l.length:=by
 obtain⟨h1,h2⟩:=uq l c
 refine(a9p c).ss_eq h1 ((a9p c).fold_ss aya (by simp) (by simp)) fun x=> ?_
 rw[h2,ard,(a9p c).fold_mem aya (by simp)]
 simp
def arj(l:List Cs):List Cs:=l.mergeSort fun a b=> !decide (ayv b a<0)
def f9(l:List Stm):List Cs:=kp bx (arj (ud l l.length)) (arj (ud l l.length)).length
theorem att(l:List Cs):(arj l).Pairwise fun a b=>jh b a=false:=by
 have:=List.pairwise_mergeSort (le:=fun a b:Cs=> !decide (ayv b a<0)) (fun a b c h1 h2=>by
  simp only[Bool.not_eq_true',decide_eq_false_iff_not]at h1 h2 ⊢
  exact to_C.nt c b a h2 h1) (fun a b=>by
  simp only[Bool.or_eq_true,Bool.not_eq_true',decide_eq_false_iff_not]
  have:=to_C.flip b a
  omega) l
 exact this.imp fun h=>by rw[wu];simpa using h
theorem alj(l:List Stm):SS jh (f9 l)∧∀x,x∈f9 l↔x∈ud l l.length:=by
 have hp:=List.mergeSort_perm (ud l l.length) fun a b:Cs=> !decide (ayv b a<0)
 have h:=ko_C.kp_inv as7 (l:=arj (ud l l.length)) (fun _ _=>trivial) (att _) _ (Nat.le_refl _)
 refine⟨h.1,fun x=> ?_⟩
 rw[f9,h.2,List.take_length]
 exact hp.mem_iff
theorem ala(l:List Stm):f9 l=ane l l.length:=by
 obtain⟨h1,h2⟩:=alj l
 refine ko_C.ss_eq h1 (ko_C.fold_ss (fun _ _=>trivial) (by simp) (by simp)) fun x=> ?_
 rw[h2,ane,ko_C.fold_mem (fun _ _=>trivial) (by simp)]
 simp
theorem aup(l:List Cs)(hl:l.length<4611686018427387904):
  Den Tryz.prog 166 [.os 1000000 l.length,.fn 167 []] [.arr 52 4 false (l.map cs)] (.tup []) [] [.arr 52 4 false ((arj l).map cs)]:=by
 refine ug (F:=cs) (cf:=ayv) (enters_of Tryz.func166 (by kernel_rfl) rfl) hl
  (fun m enc hk h1 c hO b cap d w hcmp hH hblk hsz=>AnyQ.slices_SortFunc Tryz.sortCase 4 (fun _=>by kernel_rfl) (fun _=>by kernel_rfl) enc hk h1 c hO _ _ b 0 cap d w (enters_of Tryz.func167 (by kernel_rfl) rfl) hcmp hH hblk hsz)
  (fun p cap fv w=>AnyF.slices_SortFunc_none Tryz.sortCase p cap fv w)
  (fun x hx y hy=>a2a x y) (fun x _=>to_C.irr x) (fun x _ y _ z _=>to_C.tr x y z) (fun x _ y _ z _=>to_C.nt x y z) (fun x hx y hy h1 h2=> ?_) (List.mergeSort_perm _ _) ?_
 ·refine(to_C.eq x y).1 ?_
  have:=to_C.flip y x
  omega
 ·exact(att l).imp fun {a b} h=>by rw[wu]at h;exact of_decide_eq_false h
theorem aqt(l:List Stm)(hl:l.length≤1000000)(hs: ∀s∈l,gx s):
  Den Tryz.prog 129 [.vs (l.map sm)] [] (.vs ((f9 l).map cs)) [] []:=by
 refine aa Tryz.mixed Tryz.func129 rfl Tryz.call129 Tryz.ntmps129 (congrArg Array.toList Tryz.results129) (by simp) (by kernel_rfl) [] (exts:=[]) rfl rfl ?_
 simp only[go_sem]
 refine br 3 99 52 4 false ?_ ?_ ?_ (by omega)
 ·refine loop Tryz.mixed 0 (fun i:Nat=>[(8,.vs (l.map sm)),(9,.int .i64 l.length),(10,.int .i64 i),(3,.os 99 (ud l i).length)]) (fun i=>[(99,.arr 52 4 false ((ud l i).map cs))]) (fun i=>i≤l.length) (fun i=>l.length - i) (by kernel_rfl) (Nat.zero_le _) ?_ ?_
  ·simp only[go_sem]
   exact⟨rfl,rfl⟩
  ·intro i hi
   by_cases hlt:i<l.length
   ·have h1:(i:Int)<(l.length:Int):=by omega
    have hsu:=aei hlt
    have hrl:=ald l i
    have hv:=aeb (el l i) (hs _ (aw hlt))
    rw[kz]at hv
    generalize ud l i=o at*
    generalize hve:cw (el l i)=ve at*
    obtain⟨w,b⟩:=ve
    simp only at hsu
    simp only[go_sem,h1,hlt]
    refine call hv [] ?_
    cases b with
    |false=>
     simp only[go_sem]
     refine⟨i+1,⟨by omega,by omega⟩,?_⟩
     rw[hsu]
     simp only[Bool.false_eq_true,if_false,List.append_nil]
     simp only[go_sem]
     rw[ag]<;>omega
    |true=>
     rw[if_pos rfl]at hsu
     simp only[go_sem]
     refine⟨by omega,i+1,⟨by omega,by omega⟩,?_⟩
     rw[hsu]
     exact⟨⟨by rw[ag]<;>omega,by simp⟩,by simp[cs]⟩
   ·have h1: ¬(i:Int)<(l.length:Int):=by omega
    have:i=l.length:=by omega
    subst this
    simp only[go_sem,h1]
    have hrl:=ald l l.length
    have hvl:f9 l=kp bx (arj (ud l l.length)) (arj (ud l l.length)).length:=rfl
    rw[hvl]
    clear hvl
    generalize ud l l.length=o at*
    refine call (aup o (by omega)) [99] ?_
    have hsl:(arj o).length=o.length:=List.length_mergeSort _
    simp only[go_sem,hsl]
    obtain⟨new,hnl,hcc⟩:=aee (arj o) (by simp only[big];omega)
    rw[hsl]at hcc hnl
    refine⟨Nat.le_refl _,?_⟩
    refine call hcc [99] ?_
    simp only[go_sem,hsl]
    omega
 ·simp only[go_sem]
 ·simp only[go_sem]
theorem azx(s:Stm):okO (cw s).1.x:=by
 simp only[cw,ofE]
 split
 ·exact⟨⟨by simp[noV],by simp[noV]⟩,by simp[noV],by simp[noV]⟩
 ·rename_i h
  have hc:aj s=0:=by simpa using h
  split
  ·refine⟨aet hc,?_,?_⟩
   ·intro n hn
    have hn':n∈s.li:=hn
    have hv:gw n=true:=by
     unfold aj at hc
     repeat' split at hc
     all_goals (try (omega;done))
     rename_i h1 h2 h3 h4 h5 h6
     simp only[Bool.or_eq_true,not_or]at h4
     have h7:=h4.2
     cases hb:gw n with
     |true=>rfl
     |false=>exact absurd (List.any_eq_true.2 ⟨n,hn',by simp[hb]⟩) h7
    simp only[gw,inB,Bool.and_eq_true,decide_eq_true_eq]at hv
    exact⟨by omega,by omega⟩
   ·intro p hp
    have hp':p∈s.pins:=hp
    have h3:=of_decide_eq_true (jk hc).2.2.1
    obtain⟨i,hi,rfl⟩:=List.mem_iff_getElem.1 hp'
    have:=h3 i hi
    simp only[me,inB,el,List.getD_eq_getElem?_getD,List.getElem?_eq_getElem hi,Option.getD_some,Bool.and_eq_true,decide_eq_true_eq]at this
    obtain⟨⟨⟨a1,a2⟩,a3⟩,a4⟩:=this
    exact⟨⟨by omega,by omega⟩,by omega,by omega⟩
  ·exact⟨⟨by simp[noV],by simp[noV]⟩,by simp[noV],by simp[noV]⟩
theorem a49(k nu:Int)(c:Cs){x:Ct}(hx:uz x):okS (vt k nu c x):=a2y _ _ _ _ (agn c x hx)
theorem a2o{l:List Stm}{c:Cs}{v:Vt}:v∈vn l c l.length↔∃s∈l,okV c s=true∧(cw s).1=v:=by
 simp only[vn,List.take_length,List.mem_map,List.mem_filter]
 constructor
 ·rintro⟨s,⟨h1,h2⟩,h3⟩;exact⟨s,h1,h2,h3⟩
 ·rintro⟨s,h1,h2,h3⟩;exact⟨s,⟨h1,h2⟩,h3⟩
theorem fl{l:List Stm}{c:Cs}{v:Vt}:v∈am l c↔∃s∈l,okV c s=true∧(cw s).1=v:=by rw[(uq l c).2,a2o]
theorem aae{l:List Stm}{x:Cs}:x∈f9 l↔∃s∈l,(cw s).2=true∧(cw s).1.c=x:=by
 rw[(alj l).2]
 simp only[ud,List.take_length,List.mem_map,List.mem_filter]
 constructor
 ·rintro⟨s,⟨h1,h2⟩,h3⟩;exact⟨s,h1,h2,h3⟩
 ·rintro⟨s,h1,h2,h3⟩;exact⟨s,⟨h1,h2⟩,h3⟩
theorem wz(l:List Stm)(c:Cs):(am l c).length≤l.length:=by
 rw[abz]
 exact(aco (c:=c) l.length (Nat.le_refl _)).1
theorem ob{l:List Stm}{c:Cs}: ∀y∈am l c,okO y.x:=fun y hy=>by
 obtain⟨s,_,_,rfl⟩:=fl.1 hy
 exact azx s
theorem aw0{l:List Stm}{n:Int}{s:Stm}(h:s∈akv l n):s∈l:=by
 unfold akv at h
 obtain⟨i,hi,rfl⟩:=List.mem_map.1 h
 have:=List.mem_range.1 hi
 exact aw (Nat.mod_lt _ (by omega))
theorem axv{l m:List Int}(hl:l.Nodup)(h: ∀x∈l,x∈m):l.length≤m.length:=by
 induction l generalizing m with
 |nil=>simp
 |cons a r ih=>
  obtain⟨h1,h2⟩:=List.nodup_cons.1 hl
  have ha:=h a (by simp)
  have:=ih (m:=m.erase a) h2 fun x hx=>(List.mem_erase_of_ne (fun e:x=a=>h1 (by rw[←e];exact hx))).2 (h x (by simp[hx]))
  rw[List.length_erase_of_mem ha]at this
  have:=List.length_pos_of_mem ha
  simp only[List.length_cons]
  omega
theorem asv{seats:List Int}{v:List Vt}{x:Ct}{k:Int}:yu seats v v.length x k↔k∈seats∧∃y∈v,y.x=x∧y.k=k:=by
 unfold yu
 refine and_congr_right fun _=> ?_
 constructor
 ·rintro⟨a,h1,h2,h3⟩;exact⟨el v a,aw h1,h2,h3⟩
 ·rintro⟨y,hy,h2,h3⟩
  obtain⟨a,ha,rfl⟩:=List.mem_iff_getElem.1 hy
  exact⟨a,ha,by simpa [el,List.getD_eq_getElem?_getD,ha] using h2,by simpa [el,List.getD_eq_getElem?_getD,ha] using h3⟩
theorem vd(seats:List Int)(v:List Vt):CnSpec (yu seats v v.length) (cnR seats v):=ab3 seats v v.length (Nat.le_refl _)
theorem bds(seats:List Int):cnR seats []=[]:=rfl
end Go.Proofs.Am
