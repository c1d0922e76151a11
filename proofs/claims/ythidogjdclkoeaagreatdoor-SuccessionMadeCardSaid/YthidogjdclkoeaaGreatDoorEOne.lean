/- EOne. -/
import Derived.Test.YthidogjdclkoeaaGreatDoorCThree
import Derived.Test.YthidogjdclkoeaaGreatDoorDThree
import Derived.Test.YthidogjdclkoeaaGreatDoorETwo
import Derived.Test.YthidogjdclkoeaaGreatDoorDSix
import Derived.Test.YthidogjdclkoeaaGreatDoorDEight
import Derived.Test.YthidogjdclkoeaaGreatDoorLOne
set_option maxHeartbeats 1000000
set_option maxRecDepth 100000
set_option linter.unusedSimpArgs false
set_option linter.unusedVariables false
namespace Go.Proofs.Am
open Go Go.RowKit
open Go.Proofs
def agy(l:List Int)(p:Nat)(ep:Int):Cs×Nat:=
 if aj l p 3≠0 then(⟨ep,1+aj l p 3,aj l (dgo l p 1) 7,aj l (dgo l p 2) 2⟩,dgo l p 3)else(⟨ep,1,0,0⟩,dgo l p 1)
theorem axc{l:List Int}{p:Nat}(hp:p<=l.length)(ep:Int):(agy l p ep).2<=l.length:=by
 unfold agy;split<;>exact cy hp _
theorem att(l:List Int)(p:Nat)(ep:Int)(hl:big l.length)(hp:p<=l.length):Den Tryz.prog 10 [.ptr 1000000 0,.int .i64 ep] [q7 l p] (.agg (cs (agy l p ep).1)) [] [q7 l (agy l p ep).2]:=by
 refine aa Tryz.func10 rfl Tryz.call10 Tryz.ntmps10 Tryz.results10 (by simp) (by kernel_rfl) [] (exts:=[1000000]) rfl rfl ?_;have hp1:=cy hp 1;have hp2:=cy hp 2;have e0:aca l p=dgo l p 1:=rfl;have b1:=bh (l:=l) (p:=p) (n:=3) (by omega);have w1:IntKind.i64.wrap (1+aj l p 3)=1+aj l p 3:=by rw[ai]<;>omega
 have hm:agy l p ep=if aj l p 3≠0 then(⟨ep,1+aj l p 3,aj l (dgo l p 1) 7,aj l (dgo l p 2) 2⟩,dgo l p 3)else(⟨ep,1,0,0⟩,dgo l p 1):=rfl
 generalize agy l p ep=m at*;simp only[go_sem];refine call (ax l p 3 hl hp (by omega)) [1000000] ?_;generalize hk:aj l p 3=k at*;by_cases k0:k=0
 ·subst k0;rw[if_neg (by simp)]at hm;subst hm;have w0:IntKind.i64.wrap 1=1:=by rw[ai]<;>omega
  simp only[go_sem,e0,w0,dt]
 ·rw[if_pos k0]at hm;subst hm;have k1: ¬1+k=1:=by omega
  simp only[go_sem,e0,w1,k1,dt];refine call (ax l (dgo l p 1) 7 hl hp1 (by omega)) [1000000] ?_;simp only[go_sem,bg];refine call (ax l (dgo l p 2) 2 hl hp2 (by omega)) [1000000] ?_;simp only[go_sem,bg]
theorem a2m(s:Stm)(hs:uv s):Den Tryz.prog 148 [.agg (sm s)] [] (.tup [.agg (vt7 (ofE s).1),.int .i64 (ofE s).2]) [] []:=by
 refine aa Tryz.func148 rfl Tryz.call148 Tryz.ntmps148 Tryz.results148 (by simp) (by kernel_rfl) [] (exts:=[]) rfl rfl ?_;have c2:=wj s hs;generalize hr:ofE s=r;rw[sm]at c2 ⊢;simp only[go_sem];refine call c2 [] ?_;by_cases z1:am s=0
 rotate_left
 ·have:r=(noV,am s):=by rw[<-hr,ofE,if_pos z1]
  subst this;simp only[go_sem,z1,noV]
 have hx:=adv z1;have hb:=(lg z1);have hb1:=hb.1;have hb2:=hb.2.1;have c4:=ae7 (mkV s).c (mkV s).x hx;rw[dt,il]at c4;simp only[mkV]at c4;have hz: ¬am s≠0:=fun h=>h z1
 have hw:IntKind.i64.wrap (s.b.tdiv 16)=s.b.tdiv 16:=by
  have h4:=hb.2.2.2;simp only[ja,inB,Bool.and_eq_true,decide_eq_true_eq]at h4;have h5:s.b.tdiv 16=s.b/16:=Int.tdiv_eq_ediv_of_nonneg (by omega);rw[ai]<;>omega
 clear hb;by_cases k1:s.kd=10
 rotate_left
 ·have:r=(noV,42):=by rw[<-hr,ofE,if_neg hz,if_neg (fun h=>k1 h.1)]
  subst this;simp only[go_sem,z1,k1,noV]
  (repeat refine And.intro (by first|omega|exact ae (by kernel_rfl)) ?_)
  all_goals exact ae (by kernel_rfl)
 by_cases k2:s.body=[]
 rotate_left
 ·have:r=(noV,42):=by rw[<-hr,ofE,if_neg hz,if_neg (fun h=>k2 h.2.1)]
  subst this;simp only[go_sem,z1,k1,k2,noV]
  (repeat refine And.intro (by first|omega|exact ae (by kernel_rfl)) ?_)
  all_goals exact ae (by kernel_rfl)
 simp only[go_sem,z1,k1,k2]
 (repeat refine And.intro (by first|omega|exact ae (by kernel_rfl)) ?_)
 refine call c4 [] ?_;by_cases k3:et (mkV s).c (mkV s).x=true
 ·have:r=(mkV s,0):=by rw[<-hr,ofE,if_neg hz,if_pos ⟨k1,k2,k3⟩]
  subst this;simp only[mkV]at k3;simp only[go_sem,k3,mkV,hw]
 ·have:r=(noV,42):=by rw[<-hr,ofE,if_neg hz,if_neg (fun h=>k3 h.2.2)]
  subst this;simp only[mkV,Bool.not_eq_true]at k3;simp only[go_sem,k3,noV,hw]
theorem aqb(s:Stm)(hs:uv s):Den Tryz.prog 128 [.agg (sm s)] [] (.tup [.agg (vt7 (ez s).1),.bool (ez s).2]) [] []:=by
 refine aa Tryz.func128 rfl Tryz.call128 Tryz.ntmps128 Tryz.results128 (by simp) (by kernel_rfl) [] (exts:=[]) rfl rfl ?_;have c1:=a2m s hs;have c2:=fun h:(ofE s).2=0=>aik s (arj h);generalize hr:ez s=r;rw[sm]at c1 c2 ⊢;simp only[go_sem];refine call c1 [] ?_;by_cases k1:(ofE s).2=0
 ·simp only[go_sem,k1];refine call (c2 k1) [] ?_;simp only[go_sem];refine⟨ae (by kernel_rfl),?_⟩;rw[<-hr];exact⟨⟨rfl,rfl,rfl,rfl,rfl,rfl,rfl⟩,by simp[ez,k1]⟩
 ·simp only[go_sem,k1];refine⟨ae (by kernel_rfl),?_⟩;rw[<-hr];exact⟨⟨rfl,rfl,rfl,rfl,rfl,rfl,rfl⟩,by simp[ez,k1]⟩
theorem u7(a b:Vt):o9 a b<0↔a.k<b.k\/a.k=b.k/\j2 a.x b.x<0:=by
 unfold o9 or2 jv;by_cases h1:a.k<b.k
 ·simp[h1]
 ·by_cases h2:b.k<a.k
  ·simp[h1,h2];omega
  ·have:a.k=b.k:=by omega
   simp[this]
theorem za(a b:Vt)(ha:re a.x)(hb:re b.x):Den Tryz.prog 129 [.agg (vt7 a),.agg (vt7 b)] [] (.bool (decide (o9 a b<0))) [] []:=by
 refine aa Tryz.func129 rfl Tryz.call129 Tryz.ntmps129 Tryz.results129 (by simp) (by kernel_rfl) [] (exts:=[]) rfl rfl ?_;by_cases h1:a.k<b.k
 ·have h:o9 a b<0:=(u7 a b).2 (.inl h1);simp only[go_sem,h1,h]
 by_cases h2:a.k=b.k
 rotate_left
 ·have h: ¬o9 a b<0:=fun h=>by rcases(u7 a b).1 h with h|h<;>omega
  simp only[go_sem,h1,h2,h]
 have h:o9 a b<0↔j2 a.x b.x<0:=⟨fun h=>by rcases(u7 a b).1 h with h|h;omega;exact h.2,fun h=>(u7 a b).2 (.inr ⟨h2,h⟩)⟩;have h3: ¬b.k<b.k:=by omega
 simp only[go_sem,h1,h2,h3];refine call (gp a.x b.x ha.1 ha.2 hb.1 hb.2) [] ?_;simp only[go_sem];simp[h]
theorem a1q{α:Type} [Inhabited α](q:α->α->Bool)(l:List α)(h: ∀j,0<j->j<l.length->q (el l j) (el l (j - 1))=false):kp q l l.length=l:=by
 rw[ah5 q l l.length (Nat.le_refl _) h,List.take_length]
def a2v(a b:Cs):Bool:=decide (a=b)
theorem a5q(a b:Cs):a=b↔(a.ep=b.ep/\a.kd=b.kd/\a.su=b.su/\a.ro=b.ro):=by
 cases a
 cases b
 simp
theorem a0c(a b:Cs):(decide (a.ep=b.ep)&&(decide (a.kd=b.kd)&&(decide (a.su=b.su)&&decide (a.ro=b.ro))))=a2v a b:=by
 unfold a2v;rw[Bool.eq_iff_iff];simp[a5q]
theorem ave{α:Type} [Inhabited α]{L o:List α}{v:α}(h1:o.length<L.length)(h2:L.take o.length=o):(L.set o.length v).take (o++[v]).length=o++[v]:=by
 rw[List.length_append,List.length_singleton,List.take_add_one,List.take_set_of_le (Nat.le_refl _),h2];simp[h1]
theorem a6l{α:Type} [Inhabited α]{L:List α}{v:α}{k a:Nat}(h:k<a):el (L.set k v) a=el L a:=by
 simp only[el,bq,List.getElem?_set];rw[if_neg (by omega)]
def d9(a b:Vt):Bool:=decide (o9 a b=0)
def zV:List PV:=[.int .i64 0,.int .i64 0,.int .i64 0,.int .i64 0,.int .i64 0,.vs [],.vs []]
theorem a8h:zV=[PV.int .i64 0,PV.int .i64 0,PV.int .i64 0,PV.int .i64 0,PV.int .i64 0,.nils,.nils].map agc:=(rfl)
theorem aa8(l:List Vt)(hl:big l.length)(hb: ∀a∈l,re a.x){k0:Nat}(h1:0<k0)(h2:k0<l.length)(h3:d9 (el l k0) (el l (k0 - 1))=true)(h4: ∀j,0<j->j<k0->d9 (el l j) (el l (j - 1))=false):
  Den Tryz.prog 143 [.os 1000000 l.length,.fn 144 [.ptr 1000001 0]] [.arr 164 7 false (l.map vt7),.cells [.fn 141 []]] (.vs ((kp d9 l l.length).map vt7)) [] [.arr 164 7 true ((kp d9 l l.length).map vt7++List.replicate (l.length - (kp d9 l l.length).length) zV),.cells [.fn 141 []]]:=by
 refine aa Tryz.func143 rfl Tryz.call143 Tryz.ntmps143 Tryz.results143 (by simp) (by kernel_rfl) [] (exts:=[1000000,1000001]) rfl rfl ?_;have hlen: ¬(l.length:Int)<2:=by omega
 simp only[go_sem,hlen];refine amy Tryz.mixed 1 (fun i:Nat=>[(0,.os 1000000 l.length),(1,.fn 144 [.ptr 1000001 0]),(5,.int .i64 i)]) (fun _=>[(1000000,.arh 164 7 (l.map vt7)),(1000001,.cells [.fn 141 []])]) (fun i=>1<=i/\i<=k0) (fun i=>k0 - i) (by kernel_rfl) ⟨Nat.le_refl _,by omega⟩ ?_ ?_
 ·refine Cv.trans (Cv.opn (n:=1000000) (by rfl)) (Cv.wk ?_);have hin:=kr [1000000,1000001] vt7 (fun _=>rfl) l;simp only[go_sem,hin]
 ·rintro i ⟨hi0,hi⟩;have hlt:i<l.length:=by omega
  have g1:(i:Int)<(l.length:Int):=by omega
  obtain⟨j,rfl⟩: ∃j,i=j+1:=⟨i - 1,by omega⟩;have hw:IntKind.i64.wrap (((j+1:Nat):Int) - 1)=(j:Int):=by rw[ai]<;>omega
  have hj:j<l.length:=by omega
  have cq:=ah2 (el l (j+1)) (el l j) (hb _ (bz hlt)) (hb _ (bz hj));have hq:decide (o9 (el l (j+1)) (el l j)=0)=d9 (el l (j+1)) (el l j):=rfl;rw[hq]at cq;by_cases hk:j+1<k0
  ·have hne:=h4 (j+1) (by omega) hk;rw[Nat.add_sub_cancel]at hne;rw[hne]at cq;simp only[go_sem,g1,hlt,hw,hj];refine call cq [1000001] ?_;simp only[go_sem];refine⟨ae (by kernel_rfl),j+1+1,⟨⟨by omega,by omega⟩,by omega⟩,Cv.wk ?_⟩;have hin:=kr [1000000,1000001] vt7 (fun _=>rfl) l;simp only[go_sem,hin];rw[ai]<;>omega
  ·obtain rfl:k0=j+1:=by omega
   rw[Nat.add_sub_cancel]at h3;rw[h3]at cq;simp only[go_sem,g1,hlt,hw,hj];refine call cq [1000001] ?_;simp only[go_sem,g1,hlt,hw,hj];refine⟨ae (by kernel_rfl),?_⟩
   have kf:kp d9 l (j+1+1)=l.take (j+1):=by
    have:=ah5 d9 l (j+1) (by omega) h4;rw[kp,if_neg (fun h=>by rcases h with h|h;omega;rw[Nat.add_sub_cancel,h3]at h;cases h),this,List.append_nil]
   refine amy Tryz.mixed (0,l) (fun s:Nat×List Vt=>[(0,.os 1000000 l.length),(1,.fn 144 [.ptr 1000001 0]),(5,.int .i64 (kp d9 l (j+1+(s.1+1))).length),(6,.osl 1000000 l.length (j+1)),(7,.int .i64 ((s.1+1:Nat):Int))]) (fun s=>[(1000000,.arh 164 7 (s.2.map vt7)),(1000001,.cells [.fn 141 []])])
    (fun s=>j+1+(s.1+1)<=l.length/\s.2.length=l.length/\(kp d9 l (j+1+(s.1+1))).length<j+1+(s.1+1)/\s.2.take (kp d9 l (j+1+(s.1+1))).length=kp d9 l (j+1+(s.1+1))/\∀a,(kp d9 l (j+1+(s.1+1))).length<=a->el s.2 a=el l a) (fun s=>l.length - s.1) (by kernel_rfl) ?_ ?_ ?_
   ·have hlt':(l.take (j+1)).length=j+1:=by simp;omega
    refine⟨by simp only;omega,rfl,?_,?_,fun a _=>rfl⟩
    ·show(kp d9 l (j+1+1)).length<j+1+1;rw[kf,hlt'];omega
    ·show l.take (kp d9 l (j+1+1)).length=kp d9 l (j+1+1);rw[kf,hlt']
   ·refine Cv.wk ?_;have hlt':(l.take (j+1)).length=j+1:=by simp;omega
    have hin:=kr [1000000,1000001] vt7 (fun _=>rfl) l;simp only[go_sem,hin,kf,hlt']
   ·rintro⟨n,L⟩ ⟨i1,i2,i3,i4,i5⟩;simp only at i1 i2 i3 i4 i5;simp only
    have ks:kp d9 l (j+1+(n+1)+1)=kp d9 l (j+1+(n+1))++if d9 (el l (j+1+(n+1))) (el l (j+1+n))=false then [el l (j+1+(n+1))]else []:=by
     rw[kp];have h0: ¬j+1+(n+1)=0:=by omega
     simp only[h0,false_or];rfl
    have k0p:0<(kp d9 l (j+1+(n+1))).length:=a6g _ _ (by omega);generalize hO:kp d9 l (j+1+(n+1))=o at*;by_cases hm:j+1+(n+1)<l.length
    ·have g2:((n+1:Nat):Int)<((l.length - (j+1):Nat):Int):=by omega
     have g3:((j+1:Nat):Int)+((n+1:Nat):Int)<(l.length:Int):=by omega
     have g4:((j+1:Nat):Int)+(n:Int)<(l.length:Int):=by omega
     have g5:IntKind.i64.wrap (((n+1:Nat):Int) - 1)=(n:Int):=by rw[ai]<;>omega
     have g6:j+1+(n+1)<L.length:=by omega
     have g7:j+1+n<L.length:=by omega
     have e1:el L (j+1+(n+1))=el l (j+1+(n+1)):=i5 _ (by omega);have e2:el L (j+1+n)=el l (j+1+n):=i5 _ (by omega);have ks':kp d9 l (j+1+((n+1)+1))=o++if d9 (el l (j+1+(n+1))) (el l (j+1+n))=false then [el l (j+1+(n+1))]else []:=ks
     have cq2:=ah2 (el l (j+1+(n+1))) (el l (j+1+n)) (hb _ (bz hm)) (hb _ (bz (by omega)));have hq2:decide (o9 (el l (j+1+(n+1))) (el l (j+1+n))=0)=d9 (el l (j+1+(n+1))) (el l (j+1+n)):=rfl;rw[hq2]at cq2;have hm2:j+1+n<l.length:=by omega
     cases hsame:d9 (el l (j+1+(n+1))) (el l (j+1+n))with
     |true=>
      rw[hsame,if_neg (by simp),List.append_nil]at ks';rw[hsame]at cq2;simp only[go_sem,g2,g3,g4,g5,g6,g7,i2,e1,e2,hm,hm2];refine call cq2 [1000001] ?_;simp only[go_sem,g2,g3,g4,g5,g6,g7,i2,e1,e2,hm,hm2];refine⟨ae (by kernel_rfl),(n+1,L),⟨⟨by simp only;omega,i2,?_,?_,fun a ha=>i5 a ?_⟩,by simp only;omega⟩,Cv.wk ?_⟩
      ·show(kp d9 l (j+1+((n+1)+1))).length<_;rw[ks'];simp only;omega
      ·show L.take (kp d9 l (j+1+((n+1)+1))).length=_;rw[ks'];exact i4
      ·have ha':(kp d9 l (j+1+((n+1)+1))).length<=a:=ha
       rwa [ks']at ha'
      ·have hin:=kr [1000000,1000001] vt7 (fun _=>rfl) L;simp only[go_sem,ks',hin]
       rw[ai]<;>omega
     |false=>
      rw[hsame,if_pos rfl]at ks';rw[hsame]at cq2;have g8:o.length<l.length:=by omega
      simp only[go_sem,g2,g3,g4,g5,g6,g7,g8,i2,e1,e2,hm,hm2];refine call cq2 [1000001] ?_;simp only[go_sem,g2,g3,g4,g5,g6,g7,g8,i2,e1,e2,hm,hm2];refine⟨ae (by kernel_rfl),(n+1,L.set o.length (el l (j+1+(n+1)))),⟨⟨by simp only;omega,by simp only[List.length_set];exact i2,?_,?_,fun a ha=> ?_⟩,by simp only;omega⟩,Cv.wk ?_⟩
      ·show(kp d9 l (j+1+((n+1)+1))).length<_;rw[ks',List.length_append,List.length_singleton];simp only;omega
      ·show(L.set o.length (el l (j+1+(n+1)))).take (kp d9 l (j+1+((n+1)+1))).length=kp d9 l (j+1+((n+1)+1));rw[ks'];exact ave (by omega) i4
      ·have ha':(kp d9 l (j+1+((n+1)+1))).length<=a:=ha;rw[ks',List.length_append,List.length_singleton]at ha';show el (L.set o.length _) a=_;rw[a6l (by omega)];exact i5 a (by omega)
      ·have hin:=kr [1000000,1000001] vt7 (fun _=>rfl) (L.set o.length (el l (j+1+(n+1))));have hset:(L.map vt7).set o.length [PV.int IntKind.i64 (el l (j+1+(n+1))).k,PV.int IntKind.i64 (el l (j+1+(n+1))).c.ep,PV.int IntKind.i64 (el l (j+1+(n+1))).c.kd,PV.int IntKind.i64 (el l (j+1+(n+1))).c.su,PV.int IntKind.i64 (el l (j+1+(n+1))).c.ro,PV.vs (List.map Am.i1 (el l (j+1+(n+1))).x.li),PV.vs (List.map pn (el l (j+1+(n+1))).x.pi)]=(L.set o.length (el l (j+1+(n+1)))).map vt7:=by rw[List.map_set];rfl
       have hol:(o++[el l (j+1+(n+1))]).length=o.length+1:=by simp
       simp only[go_sem,ks',hset,hin,hol];exact⟨by rw[ai]<;>omega,by rw[ai]<;>omega⟩
    ·have hend:j+1+(n+1)=l.length:=by omega
     have g2: ¬((n+1:Nat):Int)<((l.length - (j+1):Nat):Int):=by omega
     have g3:(o.length:Int)<(l.length:Int):=by omega
     rw[hend]at hO;rw[hO];have htk:(L.map vt7).take o.length=o.map vt7:=by rw[<-List.map_take,i4]
     have hpu: ∀σ,lm σ (o.map vt7++List.replicate (l.length - o.length) zV)=some (o.map vt7++List.replicate (l.length - o.length) zV,[]):=fun σ=>ak9 fun x hx=>by
      rcases List.mem_append.1 hx with hx|hx
      ·obtain⟨c,_,rfl⟩:=List.mem_map.1 hx;rfl
      ·rw[List.eq_of_mem_replicate hx];rfl
     have g4:(o.length:Int)<=(l.length:Int):=by omega
     have g5:(o.map vt7++List.replicate (l.length - o.length) zV).length=l.length:=by simp;omega
     have g6:(o.map vt7++List.replicate (l.length - o.length) zV).take o.length=o.map vt7:=by simp
     simp only[go_sem,g2,g3,i2,htk];refine uj _ _ ?_;have g7:o.length<l.length:=by omega
     simp only[go_sem,g2,g3,i2,htk,g7,<-a8h,hpu,g4,g5,g6];refine a2t _ ?_;simp only[go_sem]
theorem aa5(l:List Vt)(hl:big l.length)(hb: ∀a∈l,re a.x):
  ∃new,new.length=l.length/\Den Tryz.prog 143 [.os 1000000 l.length,.fn 144 [.ptr 1000001 0]] [.arr 164 7 false (l.map vt7),.cells [.fn 141 []]] (.vs ((kp d9 l l.length).map vt7)) [] [.arr 164 7 true new,.cells [.fn 141 []]]:=by
 rcases aki d9 l l.length (Nat.le_refl _)with h|⟨k0,h1,h2,h3,h4⟩
 ·rw[a1q _ _ h];exact⟨_,by simp,(adn l hl hb fun i h5 h6 e=>by have:=h i h5 h6;simp[d9,e]at this).vsE (by simp)⟩
 ·exact⟨_,by have:=azr d9 l l.length;simp;omega,aa8 l hl hb h1 h2 h3 h4⟩
def d5(l:List Stm)(c:Cs):List Vt:=kp d9 (axr (vi l c l.length)) (axr (vi l c l.length)).length
theorem alx(l:List Stm)(c:Cs)(hl:l.length<=1000000)(hs: ∀s∈l,uv s):
  Den Tryz.prog 114 [.vs (l.map sm),.agg (cs c)] [] (.vs ((d5 l c).map vt7)) [] []:=by
 refine aa Tryz.func114 rfl Tryz.call114 Tryz.ntmps114 Tryz.results114 (by simp) (by kernel_rfl) [] (exts:=[]) rfl rfl ?_;simp only[go_sem];refine dm 5 99 164 7 false ?_ ?_ ?_ (by omega)
 ·refine loop Tryz.mixed 0 (fun i:Nat=>[(11,.vs (l.map sm)),(12,.int .i64 l.length),(13,.int .i64 i),(3,.ptr 3 0),(5,.os 99 (vi l c i).length)]) (fun i=>[(3,.cells [.int .i64 c.ep,.int .i64 c.kd,.int .i64 c.su,.int .i64 c.ro]),(99,.arr 164 7 false ((vi l c i).map vt7))]) (fun i=>i<=l.length) (fun i=>l.length - i) (by kernel_rfl) (Nat.zero_le _) ?_ ?_
  ·simp only[go_sem];exact⟨rfl,rfl⟩
  ·intro i hi;by_cases hlt:i<l.length
   ·have h1:(i:Int)<(l.length:Int):=by omega
    have hsu:=ady (c:=c) hlt;have hrl:=aka l c i;have hv:=ap0 (el l i) (hs _ (bz hlt));rw[awx]at hv;generalize vi l c i=o at*;generalize hve:ez (el l i)=ve at*;obtain⟨w,b⟩:=ve;simp only[okV,hve]at hsu;simp only[go_sem,h1,hlt];refine call hv [] ?_
    cases b with
    |false=>
     simp only[go_sem];refine⟨i+1,⟨by omega,by omega⟩,?_⟩;rw[hsu];simp only[Bool.false_and,Bool.false_eq_true,if_false,List.append_nil];simp only[go_sem]
     rw[ai]<;>omega
    |true=>
     have hce:(w.c=c)↔(w.c.ep=c.ep/\w.c.kd=c.kd/\w.c.su=c.su/\w.c.ro=c.ro):=by
      cases hw:w.c
      cases c
      simp
     simp only[go_sem];refine⟨fun h=>⟨by omega,i+1,⟨by omega,by omega⟩,?_⟩,fun h=>⟨i+1,⟨by omega,by omega⟩,?_⟩⟩
     ·rw[hsu];simp only[hce.2 h,decide_true,Bool.and_self,if_true];exact⟨⟨by rw[ai]<;>omega,by simp⟩,by simp[vt7,hce.2 h]⟩
     ·have hn: ¬w.c=c:=fun e=>by
       have:=hce.1 e;simp[this]at h
      rw[hsu];simp only[hn,decide_false,Bool.and_false,Bool.false_eq_true,if_false,List.append_nil];exact⟨⟨by rw[ai]<;>omega,trivial⟩,trivial⟩
   ·have h1: ¬(i:Int)<(l.length:Int):=by omega
    have:i=l.length:=by omega
    subst this;simp only[go_sem,h1];have hrl:=aka l c l.length
    have hrb: ∀a∈vi l c l.length,re a.x:=fun a ha=>by
     obtain⟨s,_,rfl⟩:=List.mem_map.1 ha;exact ky ab3
    have hrc: ∀a∈vi l c l.length,a.c=c:=fun a ha=>by
     obtain⟨s,hs',rfl⟩:=List.mem_map.1 ha;have:=(List.mem_filter.1 hs').2;simp only[okV,Bool.and_eq_true,decide_eq_true_eq]at this;exact this.2
    have hvl:d5 l c=kp d9 (axr (vi l c l.length)) (axr (vi l c l.length)).length:=rfl;rw[hvl];clear hvl;generalize vi l c l.length=o at*;refine call (aso o (by omega) hrb (fun a ha b hb=>(hrc a ha).trans (hrc b hb).symm)) [99] ?_;have hsl:(axr o).length=o.length:=List.length_mergeSort _;simp only[go_sem,hsl];obtain⟨new,hnl,hcc⟩:=aa5 (axr o) (by simp only[big];omega) (fun a ha=>hrb a ((List.mergeSort_perm _ _).mem_iff.1 ha));rw[hsl]at hcc hnl;refine⟨Nat.le_refl _,?_⟩;refine call hcc [99,10] ?_;simp only[go_sem,hsl];omega
 ·simp only[go_sem]
 ·simp only[go_sem]
def ltV(a b:Vt):Bool:=decide (o9 a b<0)
def ao2(l:List Stm)(c:Cs)(i:Nat):List Vt:=(vi l c i).foldl (l4 ltV) []
theorem adk{l:List Stm}{c:Cs}{i:Nat}(h:i<l.length):ao2 l c (i+1)=if okV c (el l i)=true then l4 ltV (ao2 l c i) (ez (el l i)).1 else ao2 l c i:=by
 simp only[ao2,ady h,List.foldl_append];split<;>rfl
theorem ahy{l:List Stm}{c:Cs}: ∀i,i<=l.length->(ao2 l c i).length<=i/\∀y∈ao2 l c i,re y.x
 |0,_=>by simp[ao2,vi]
 |i+1,h=>by
  have ih:=ahy (c:=c) i (by omega:i<=l.length);rw[adk (by omega)];split
  ·refine⟨Nat.le_trans (akp _ _ _) (by omega),fun y hy=> ?_⟩;rcases alg _ _ _ _ hy with rfl|hy
   ·exact ky ab3
   ·exact ih.2 y hy
  ·exact⟨by omega,ih.2⟩
theorem af5(l:List Stm)(c:Cs)(hl:l.length<=1000000)(hs: ∀s∈l,uv s):Den Tryz.prog 101 [.vs (l.map sm),.agg (cs c)] [] (.vs ((ao2 l c l.length).map vt7)) [] []:=by
 refine aa Tryz.func101 rfl Tryz.call101 Tryz.ntmps101 Tryz.results101 (by simp) (by kernel_rfl) [] (exts:=[]) rfl rfl ?_;simp only[go_sem,dt];refine loop Tryz.mixed 0 (fun i:Nat=>[(0,.vs (l.map sm)),(3,.ptr 3 0),(5,.vs ((ao2 l c i).map vt7)),(6,.int .i64 i)]) (fun _=>[(3,.cells [.int .i64 c.ep,.int .i64 c.kd,.int .i64 c.su,.int .i64 c.ro])]) (fun i=>i<=l.length) (fun i=>l.length - i) (by kernel_rfl) (Nat.zero_le _) ?_ ?_
 ·simp only[go_sem];rfl
 ·intro i hi;by_cases hlt:i<l.length
  ·have h1:(i:Int)<(l.length:Int):=by omega
   have hsu:=adk (c:=c) hlt;obtain⟨hol,hob⟩:=ahy (c:=c) i hi;have hv:=aqb (el l i) (hs _ (bz hlt));rw[awx]at hv;have hbw:re (ez (el l i)).1.x:=ky ab3;generalize ao2 l c i=o at*;generalize hve:ez (el l i)=ve at*;obtain⟨w,b⟩:=ve;simp only[okV,hve]at hsu;simp only at hbw;simp only[go_sem,h1,hlt];refine call hv [] ?_
   cases b with
   |false=>
    simp only[go_sem];refine⟨i+1,⟨by omega,by omega⟩,?_⟩;rw[hsu];simp only[Bool.false_and,Bool.false_eq_true,if_false];simp only[go_sem]
    rw[ai]<;>omega
   |true=>
    cases hsc:a2v w.c c with
    |false=>
     have hn: ¬w.c=c:=of_decide_eq_false hsc;simp only[go_sem,a0c,hsc];refine⟨i+1,⟨by omega,by omega⟩,?_⟩;rw[hsu];simp only[hn,decide_false,Bool.and_false,Bool.false_eq_true,if_false];simp only[go_sem]
     rw[ai]<;>omega
    |true=>
     have hn:w.c=c:=of_decide_eq_true hsc;simp only[hn,decide_true,Bool.and_self,if_true]at hsu;simp only[go_sem,a0c,hsc];refine loop Tryz.mixed 0 (fun k:Nat=>[(0,.vs (l.map sm)),(3,.ptr 3 0),(5,.vs (o.map vt7)),(6,.int .i64 i),(7,.ptr 7 0),(9,.int .i64 k)]) (fun _=>[(3,.cells [.int .i64 c.ep,.int .i64 c.kd,.int .i64 c.su,.int .i64 c.ro]),(7,.cells (vt7 w))]) (fun k=>k<=o.length/\∀j,j<k->ltV (el o j) w=true) (fun k=>o.length - k) (by kernel_rfl) ⟨Nat.zero_le _,fun j hj=>by omega⟩ ?_ ?_
     ·simp only[go_sem]
     ·rintro k ⟨hk,hall⟩;by_cases hkl:k<o.length
      ·have h2:(k:Int)<(o.length:Int):=by omega
       have hbo:=hob (el o k) (bz hkl);simp only[go_sem,h2,hkl];refine call (za (el o k) w hbo hbw) [] ?_;by_cases z1:o9 (el o k) w<0
       ·simp only[go_sem,z1];refine⟨ae (by kernel_rfl),k+1,⟨⟨by omega,fun j hj=> ?_⟩,by omega⟩,?_⟩
        ·rcases Nat.lt_succ_iff_lt_or_eq.1 hj with h|h
         ·exact hall j h
         ·rw[h];exact decide_eq_true z1
        ·rw[ai]<;>omega
       have hia:=ah0 ltV o w k hk hall (fun _=>decide_eq_false z1);simp only[go_sem,z1];refine⟨ae (by kernel_rfl),?_⟩;simp only[go_sem,h2,hkl];refine call (za w (el o k) hbw hbo) [] ?_;by_cases z2:o9 w (el o k)<0
       ·rw[if_neg (fun h=>by have:=h.2;simp[ltV,z2]at this)]at hia;simp only[go_sem,z2];refine⟨ae (by kernel_rfl),?_⟩;have lt:(o.take k).length=k:=by simp;omega
        have ld:((o.take o.length).drop k).length=o.length - k:=by simp
        simp only[go_sem,h2,lt,ld]
        (repeat refine And.intro (by first|omega|exact ae (by kernel_rfl)) ?_)
        refine⟨i+1,⟨by omega,by omega⟩,?_⟩;rw[hsu,hia];exact⟨by simp[vt7],by rw[ai]<;>omega⟩
       ·rw[if_pos ⟨hkl,decide_eq_false z2⟩]at hia;simp only[go_sem,z2];refine⟨ae (by kernel_rfl),i+1,⟨by omega,by omega⟩,?_⟩;rw[hsu,hia];simp only[go_sem];rw[ai]<;>omega
      ·have h2: ¬(k:Int)<(o.length:Int):=by omega
       have hia:=ah0 ltV o w k hk hall (fun h=>absurd h hkl);rw[if_neg (fun h=>hkl h.1)]at hia;simp only[go_sem,h2];refine⟨ae (by kernel_rfl),?_⟩;have lt:(o.take k).length=k:=by simp;omega
       have ld:((o.take o.length).drop k).length=o.length - k:=by simp
       simp only[go_sem,h2,lt,ld]
       (repeat refine And.intro (by first|omega|exact ae (by kernel_rfl)) ?_)
       refine⟨i+1,⟨by omega,by omega⟩,?_⟩;rw[hsu,hia];exact⟨by simp[vt7],by rw[ai]<;>omega⟩
  ·have h1: ¬(i:Int)<(l.length:Int):=by omega
   have:i=l.length:=by omega
   subst this;simp only[go_sem,h1]
theorem a89{α:Type}{f:α->α->Int}{S:α->Prop}(hirr: ∀a,¬f a a<0)(htr: ∀a b c,f a b<0->f b c<0->f a c<0)(hnt: ∀a b c,¬f a b<0->¬f b c<0->¬f a c<0)(htri: ∀a b,S a->S b->¬f a b<0->¬f b a<0->a=b):KO (fun a b=>decide (f a b<0)) S where
 irr a:=decide_eq_false (hirr a)
 tr a b c h1 h2:=decide_eq_true (htr a b c (of_decide_eq_true h1) (of_decide_eq_true h2))
 nt a b c h1 h2:=decide_eq_false (hnt a b c (of_decide_eq_false h1) (of_decide_eq_false h2))
 tri a b ha hb h1 h2:=htri a b ha hb (of_decide_eq_false h1) (of_decide_eq_false h2)
theorem a7u(c:Cs):KO ltV fun v=>v.c=c:=by
 refine a89 (f:=o9) (fun a=>to_V.irr (a.k,a.x)) (fun a b d=>to_V.tr (a.k,a.x) (b.k,b.x) (d.k,d.x)) (fun a b d=>to_V.nt (a.k,a.x) (b.k,b.x) (d.k,d.x)) fun a b ha hb h1 h2=> ?_
 have e:(a.k,a.x)=(b.k,b.x):=(to_V.eq (a.k,a.x) (b.k,b.x)).1 (by
  have:=to_V.flip (b.k,b.x) (a.k,a.x);simp only[o9]at h1 h2;simp only at this ⊢;omega)
 cases a
 cases b
 simp only[Prod.mk.injEq]at e;simp only at ha hb;simp[e,ha,hb]
theorem ark(a b:Vt):d9 a b=true↔(ltV a b=false/\ltV b a=false):=by
 have:=to_V.flip (b.k,b.x) (a.k,a.x);have h2:=to_V.flip (a.k,a.x) (b.k,b.x);simp only at this h2;have e1:o9 a b=or2 (jv a.k b.k) (j2 a.x b.x):=rfl;have e2:o9 b a=or2 (jv b.k a.k) (j2 b.x a.x):=rfl;rw[<-e1,<-e2]at this h2;unfold d9 ltV;rw[decide_eq_true_iff,decide_eq_false_iff_not,decide_eq_false_iff_not];constructor
 ·intro h;constructor<;>omega
 ·rintro⟨h3,h4⟩;omega
theorem a3u(l:List Vt):(axr l).Pairwise fun a b=>ltV b a=false:=by
 have:=List.pairwise_mergeSort (le:=fun a b:Vt=> !decide (o9 b a<0)) (fun a b c h1 h2=>by
  simp only[Bool.not_eq_true',decide_eq_false_iff_not]at h1 h2 ⊢;exact to_V.nt (c.k,c.x) (b.k,b.x) (a.k,a.x) h2 h1) (fun a b=>by
  simp only[Bool.or_eq_true,Bool.not_eq_true',decide_eq_false_iff_not];have:=to_V.flip (b.k,b.x) (a.k,a.x);simp only[o9];simp only at this;omega) l
 exact this.imp fun h=>by simpa [ltV] using h
theorem asl{l:List Stm}{c:Cs}{n:Nat}: ∀v∈vi l c n,v.c=c:=fun a ha=>by
 obtain⟨s,hs',rfl⟩:=List.mem_map.1 ha;have:=(List.mem_filter.1 hs').2;simp only[okV,Bool.and_eq_true,decide_eq_true_eq]at this;exact this.2
theorem ala(l:List Stm)(c:Cs):SS ltV (d5 l c)/\∀x,x∈d5 l c↔x∈vi l c l.length:=by
 have hp:=List.mergeSort_perm (vi l c l.length) fun a b:Vt=> !decide (o9 b a<0);have h:=(a7u c).kp_inv ark (l:=axr (vi l c l.length)) (fun x hx=>asl x (hp.mem_iff.1 hx)) (a3u _) _ (Nat.le_refl _);refine⟨h.1,fun x=> ?_⟩;rw[d5,h.2,List.take_length];exact hp.mem_iff
theorem aky(l:List Stm)(c:Cs):d5 l c=ao2 l c l.length:=by
 obtain⟨h1,h2⟩:=ala l c;refine(a7u c).ss_eq h1 ((a7u c).fold_ss asl (by simp) (by simp)) fun x=> ?_;rw[h2,ao2,(a7u c).fold_mem asl (by simp)];simp
theorem ayj(s:Stm):okX (ez s).1.x:=by
 simp only[ez,ofE];split
 ·exact⟨⟨by simp[noV],by simp[noV]⟩,by simp[noV],by simp[noV]⟩
 ·rename_i h;have hc:am s=0:=by simpa using h
  split
  ·refine⟨adv hc,?_,?_⟩
   ·intro n hn;have hn':n∈s.li:=hn
    have hv:ja n=true:=by
     unfold am at hc
     repeat' split at hc
     all_goals (try (omega;done))
     rename_i h1 h2 h3 h4 h5 h6;simp only[Bool.or_eq_true,not_or]at h4;have h7:=h4.2
     cases hb:ja n with
     |true=>rfl
     |false=>exact absurd (List.any_eq_true.2 ⟨n,hn',by simp[hb]⟩) h7
    simp only[ja,inB,Bool.and_eq_true,decide_eq_true_eq]at hv;exact⟨by omega,by omega⟩
   ·intro p hp;have hp':p∈s.pins:=hp;have h3:=of_decide_eq_true (lg hc).2.2.1;obtain⟨i,hi,rfl⟩:=List.mem_iff_getElem.1 hp';have:=h3 i hi;simp only[lh,inB,el,bq,bf hi,Option.getD_some,Bool.and_eq_true,decide_eq_true_eq]at this;obtain⟨⟨⟨a1,a2⟩,a3⟩,a4⟩:=this;exact⟨⟨by omega,by omega⟩,by omega,by omega⟩
  ·exact⟨⟨by simp[noV],by simp[noV]⟩,by simp[noV],by simp[noV]⟩
theorem sj(k nu:Int)(c:Cs){x:Ct}(hx:pa x):okS (vt k nu c x):=ay2 _ _ _ _ (afc c x hx)
theorem ame{l:List Int}{c:Cs}{x y:Ct}{k:Int}{st:Nat×List Stm}(hx:pa x)(hy:pa y)(h: ∀s∈st.2,okS s): ∀s∈(kx l c x y k st).2,okS s:=by
 intro s hs;unfold kx at hs;split at hs
 ·rcases List.mem_append.1 hs with hs|hs
  ·exact h s hs
  ·rw[List.mem_singleton]at hs;subst hs;exact sj _ _ _ hy
 ·split at hs
  ·rcases List.mem_append.1 hs with hs|hs
   ·exact h s hs
   ·rcases List.mem_cons.1 hs with rfl|hs
    ·exact sj _ _ _ hx
    ·rw[List.mem_singleton]at hs;subst hs;exact sj _ _ _ hy
  ·split at hs
   ·rcases List.mem_append.1 hs with hs|hs
    ·exact h s hs
    ·rw[List.mem_singleton]at hs;subst hs;split
     ·have:=sj k 0 c hx;exact this
     ·exact sj _ _ _ hx
   ·split at hs
    ·exact h s hs
    ·rcases List.mem_append.1 hs with hs|hs
     ·exact h s hs
     ·rw[List.mem_singleton]at hs;subst hs;exact sj _ _ _ hx
theorem alb{l:List Int}{c:Cs}{x y:Ct}{seats:List Int}{p:Nat}(hx:pa x)(hy:pa y): ∀i,∀s∈(nh l c x y seats p i).2,okS s
 |0=>by simp[nh]
 |i+1=>ame hx hy (alb hx hy i)
theorem amf(l:List Int)(p:Nat)(c:Cs)(seats:List Int): ∀s∈(lr l p c seats).1,okS s:=by
 have h:=alb (l:=l) (c:=c) (seats:=seats) (p:=(aq l (aq l p c).2 c).2) (iz l p c) (iz l (aq l p c).2 c) seats.length;unfold lr;split
 ·intro s hs;rcases List.mem_append.1 hs with hs|hs
  ·exact h s hs
  ·rw[List.mem_singleton]at hs;subst hs;exact sj _ _ _ (iz l p c)
 ·exact h
theorem axo{l:List Stm}{c:Cs}{v:Vt}:v∈vi l c l.length↔∃s∈l,okV c s=true/\(ez s).1=v:=by
 simp only[vi,List.take_length,List.mem_map,List.mem_filter];constructor
 ·rintro⟨s,⟨h1,h2⟩,h3⟩;exact⟨s,h1,h2,h3⟩
 ·rintro⟨s,h1,h2,h3⟩;exact⟨s,⟨h1,h2⟩,h3⟩
theorem alr{l:List Stm}{c:Cs}{v:Vt}:v∈d5 l c↔∃s∈l,okV c s=true/\(ez s).1=v:=by rw[(ala l c).2,axo]
theorem w8(l:List Stm)(c:Cs):(d5 l c).length<=l.length:=by
 rw[aky];exact(ahy (c:=c) l.length (Nat.le_refl _)).1
theorem po{l:List Stm}{c:Cs}: ∀y∈d5 l c,okX y.x:=fun y hy=>by
 obtain⟨s,_,_,rfl⟩:=alr.1 hy;exact ayj s
theorem apr{l m:List Int}(hl:l.Nodup)(h: ∀x∈l,x∈m):l.length<=m.length:=by
 induction l generalizing m with
 |nil=>simp
 |cons a r ih=>
  obtain⟨h1,h2⟩:=List.nodup_cons.1 hl;have ha:=h a (by simp);have:=ih (m:=m.erase a) h2 fun x hx=>(List.mem_erase_of_ne (fun e:x=a=>h1 (by rw[<-e];exact hx))).2 (h x (by simp[hx]));rw[List.length_erase_of_mem ha]at this;have:=List.length_pos_of_mem ha;simp only[List.length_cons];omega
theorem atv{seats:List Int}{v:List Vt}{x:Ct}{k:Int}:yi seats v v.length x k↔k∈seats/\∃y∈v,y.x=x/\y.k=k:=by
 unfold yi;refine and_congr_right fun _=> ?_;constructor
 ·rintro⟨a,h1,h2,h3⟩;exact⟨el v a,bz h1,h2,h3⟩
 ·rintro⟨y,hy,h2,h3⟩;obtain⟨a,ha,rfl⟩:=List.mem_iff_getElem.1 hy;exact⟨a,ha,by simpa [el,bq,ha] using h2,by simpa [el,bq,ha] using h3⟩
theorem ab1(seats:List Int)(v:List Vt):CnSpec (yi seats v v.length) (cnR seats v):=abg seats v v.length (Nat.le_refl _)
theorem a7v(seats:List Int):cnR seats []=[]:=rfl
theorem an6(l:List Int)(p:Nat)(c:Cs)(seats:List Int)(hl:big l.length)(hp:p<=l.length)(hs:seats.length<=1000):Den Tryz.prog 11 [.ptr 1000000 0,.agg (cs c),.vs (seats.map i1)] [q7 l p] (.os 0 (lr l p c seats).1.length) [.arr 63 13 false ((lr l p c seats).1.map sm)] [q7 l (lr l p c seats).2]:=by
 refine aa Tryz.func11 rfl Tryz.call11 Tryz.ntmps11 Tryz.results11 (by simp) (by kernel_rfl) [110] (exts:=[1000000]) rfl rfl ?_
 have hm:lr l p c seats=if aj l (nh l c (aq l p c).1 (aq l (aq l p c).2 c).1 seats (aq l (aq l p c).2 c).2 seats.length).1 4=3 then
  ((nh l c (aq l p c).1 (aq l (aq l p c).2 c).1 seats (aq l (aq l p c).2 c).2 seats.length).2++[vt (aj l (dgo l (nh l c (aq l p c).1 (aq l (aq l p c).2 c).1 seats (aq l (aq l p c).2 c).2 seats.length).1 1) 9) 0 c (aq l p c).1],
   dgo l (nh l c (aq l p c).1 (aq l (aq l p c).2 c).1 seats (aq l (aq l p c).2 c).2 seats.length).1 2)
 else((nh l c (aq l p c).1 (aq l (aq l p c).2 c).1 seats (aq l (aq l p c).2 c).2 seats.length).2,
   dgo l (nh l c (aq l p c).1 (aq l (aq l p c).2 c).1 seats (aq l (aq l p c).2 c).2 seats.length).1 1):=rfl
 generalize lr l p c seats=m at*;have c1:=lk l p c hl hp;have c2:=lk l (aq l p c).2 c hl (g9 hp c);have hxo:=iz l p c;have hyo:=iz l (aq l p c).2 c;have hqe:=g9 (g9 hp c) c;generalize aq l p c=X at*;generalize aq l X.2 c=Y at*;obtain⟨x,q0⟩:=X;obtain⟨y,q⟩:=Y;simp only at hm c1 c2 hxo hyo hqe;rw[dt,il]at c1 c2;have cv:=fun au nu=>uo au nu c x hxo;have cw:=fun au nu=>uo au nu c y hyo;rw[dt,il]at cv cw;simp only[go_sem];refine call c1 [1000000] ?_;simp only[go_sem];refine call c2 [1000000] ?_;simp only[go_sem];refine⟨ae (by kernel_rfl),?_⟩;refine dm 9 110 63 13 false ?_ ?_ ?_ (by omega)
 ·refine loop Tryz.mixed 0 (fun i:Nat=>[(0,.ptr 1000000 0),(2,.vs (seats.map i1)),(4,.ptr 4 0),(7,.ptr 7 0),(8,.ptr 8 0),(9,.os 110 (nh l c x y seats q i).2.length),(10,.int .i64 i)]) (fun i=>[(1000000,q7 l (nh l c x y seats q i).1),(4,.cells (cs c)),(7,.cells (ct x)),(8,.cells (ct y)),(110,.arr 63 13 false ((nh l c x y seats q i).2.map sm))]) (fun i=>i<=seats.length) (fun i=>seats.length - i) (by kernel_rfl) ?_ ?_ ?_
  ·simp
  ·simp only[go_sem,nh,List.map_nil,List.length_nil]
  ·intro i hi;have hgl:=uu (l:=l) (c:=c) (x:=x) (y:=y) (seats:=seats) (p:=q) i;have hgp:=aig (l:=l) (c:=c) (x:=x) (y:=y) (seats:=seats) hqe i;by_cases h:i<seats.length
   ·have hlt:(i:Int)<(seats.length:Int):=by omega
    have hst:nh l c x y seats q (i+1)=kx l c x y (el seats i) (nh l c x y seats q i):=rfl;generalize nh l c x y seats q i=S at*;obtain⟨r,o⟩:=S;simp only at hgl hgp;have hr1:=cy hgp 1;have hr2:=cy hgp 2;have e0:aca l r=dgo l r 1:=rfl;simp only[go_sem,hlt,h];refine call (ax l r 8 hl hgp (by omega)) [1000000] ?_;by_cases n0:aj l r 8=0
    ·have hst:nh l c x y seats q (i+1)=(dgo l r 2,o++[vt (el seats i) (aj l (dgo l r 1) 3) c y]):=by rw[hst,kx,if_pos n0]
     simp only[go_sem,n0,e0,h];refine call (ax l (dgo l r 1) 3 hl hr1 (by omega)) [1000000] ?_;generalize aj l (dgo l r 1) 3=n at*;have cw:=cw (el seats i) n;generalize vt (el seats i) n c y=s at*;simp only[go_sem,bg];refine call cw [] ?_;simp only[go_sem];refine⟨by omega,ae (by kernel_rfl),i+1,⟨by omega,by omega⟩,?_⟩;rw[hst];exact⟨⟨by simp,by rw[ai]<;>omega⟩,rfl,by rw[List.map_append];rfl⟩
    by_cases n1:aj l r 8=1
    ·have hst:nh l c x y seats q (i+1)=(dgo l r 3,o++[vt (el seats i) (aj l (dgo l r 1) 3) c x,vt (el seats i) (aj l (dgo l r 2) 3) c y]):=by rw[hst,kx,if_neg n0,if_pos n1]
     simp only[go_sem,n0,n1,e0,h];refine call (ax l (dgo l r 1) 3 hl hr1 (by omega)) [1000000] ?_;generalize aj l (dgo l r 1) 3=n at*;have cv:=cv (el seats i) n;generalize vt (el seats i) n c x=s at*;simp only[go_sem,bg];refine call cv [] ?_;simp only[go_sem,h];refine call (ax l (dgo l r 2) 3 hl hr2 (by omega)) [1000000] ?_;generalize aj l (dgo l r 2) 3=n' at*;have cw:=cw (el seats i) n';generalize vt (el seats i) n' c y=s' at*;simp only[go_sem,bg];refine call cw [] ?_;simp only[go_sem];refine⟨by omega,ae (by kernel_rfl),i+1,⟨by omega,by omega⟩,?_⟩;rw[hst];exact⟨⟨by simp,by rw[ai]<;>omega⟩,rfl,by rw[List.map_append];rfl⟩
    by_cases n2:aj l r 8=2
    ·have hst:nh l c x y seats q (i+1)=(dgo l r 2,o++[if aj l (dgo l r 1) 2=1 then {vt (el seats i) 0 c x with sk:=IntKind.i64.wrap ((vt (el seats i) 0 c x).sk+1)}else vt (el seats i) 0 c x]):=by rw[hst,kx,if_neg n0,if_neg n1,if_pos n2]
     simp only[go_sem,n0,n1,n2,e0,h];have cv:=cv (el seats i) 0;generalize vt (el seats i) 0 c x=s at*;refine call cv [] ?_;simp only[go_sem];refine⟨ae (by kernel_rfl),?_⟩;refine call (acq l (dgo l r 1) 2 hl hr1 (by omega) (by omega)) [1000000] ?_
     cases hb:decide (aj l (dgo l r 1) 2=2 - 1)
     ·have hc: ¬aj l (dgo l r 1) 2=1:=of_decide_eq_false hb;rw[if_neg hc]at hst;simp only[go_sem,bg];refine⟨by omega,i+1,⟨by omega,by omega⟩,?_⟩;rw[hst];exact⟨⟨by simp,by rw[ai]<;>omega⟩,rfl,by rw[List.map_append];rfl⟩
     ·have hc:aj l (dgo l r 1) 2=1:=of_decide_eq_true hb;rw[if_pos hc]at hst;simp only[go_sem,bg];refine⟨by omega,i+1,⟨by omega,by omega⟩,?_⟩;rw[hst];exact⟨⟨by simp,by rw[ai]<;>omega⟩,rfl,by rw[List.map_append];rfl⟩
    by_cases n3:aj l r 8=3
    ·have hst:nh l c x y seats q (i+1)=(dgo l r 1,o):=by rw[hst,kx,if_neg n0,if_neg n1,if_neg n2,if_pos n3]
     simp only[go_sem,n0,n1,n2,n3,e0];refine⟨i+1,⟨by omega,by omega⟩,?_⟩;rw[hst];exact⟨⟨rfl,by rw[ai]<;>omega⟩,rfl,rfl⟩
    ·have hst:nh l c x y seats q (i+1)=(dgo l r 2,o++[vt (el seats i) (aj l (dgo l r 1) 3) c x]):=by rw[hst,kx,if_neg n0,if_neg n1,if_neg n2,if_neg n3]
     simp only[go_sem,n0,n1,n2,n3,e0,h];refine call (ax l (dgo l r 1) 3 hl hr1 (by omega)) [1000000] ?_;generalize aj l (dgo l r 1) 3=n at*;have cv:=cv (el seats i) n;generalize vt (el seats i) n c x=s at*;simp only[go_sem,bg];refine call cv [] ?_;simp only[go_sem];refine⟨by omega,ae (by kernel_rfl),i+1,⟨by omega,by omega⟩,?_⟩;rw[hst];exact⟨⟨by simp,by rw[ai]<;>omega⟩,rfl,by rw[List.map_append];rfl⟩
   ·have hm2:i=seats.length:=by omega
    subst hm2;have hc: ¬(seats.length:Int)<(seats.length:Int):=by omega
    generalize nh l c x y seats q seats.length=S at*;obtain⟨r,o⟩:=S;simp only at hgl hgp hm;simp only[go_sem,hc];refine call (acq l r 4 hl hgp (by omega) (by omega)) [1000000] ?_;have e0:aca l r=dgo l r 1:=rfl;have hr1:=cy hgp 1
    cases hb:decide (aj l r 4=4 - 1)
    ·have hc: ¬aj l r 4=3:=of_decide_eq_false hb;rw[if_neg hc]at hm;subst hm;simp only[go_sem,e0]
    ·have hc:aj l r 4=3:=of_decide_eq_true hb;rw[if_pos hc]at hm;subst hm;simp only[go_sem,e0];refine call (ax l (dgo l r 1) 9 hl hr1 (by omega)) [1000000] ?_;generalize aj l (dgo l r 1) 9=n at*;have cv:=cv n 0;generalize vt n 0 c x=s at*;simp only[go_sem,bg];refine call cv [] ?_;simp only[go_sem];exact⟨by omega,ae (by kernel_rfl),by rw[List.map_append];rfl⟩
 ·simp only[go_sem]
 ·simp only[go_sem]
end Go.Proofs.Am
