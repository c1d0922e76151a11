/- EOne. -/
import Derived.Test.YtloaichcpoboeaaGreatDoorCThree
import Derived.Test.YtloaichcpoboeaaGreatDoorDThree
import Derived.Test.YtloaichcpoboeaaGreatDoorETwo
import Derived.Test.YtloaichcpoboeaaGreatDoorDSix
import Derived.Test.YtloaichcpoboeaaGreatDoorDEight
import Derived.Test.YtloaichcpoboeaaGreatDoorLOne
set_option maxHeartbeats 1000000
set_option maxRecDepth 100000
set_option linter.unusedSimpArgs false
set_option linter.unusedVariables false
namespace Go.Proofs.Am
open Go Go.RowKit
open Go.Proofs
def aaw(a b:Cs):Bool:=if a.ep≠b.ep then decide (a.ep<b.ep)else if a.kd≠b.kd then decide (a.kd<b.kd)else if a.su≠b.su then decide (a.su<b.su)else decide (a.ro<b.ro)
theorem akq{α:Type} [Inhabited α](q:α->α->Bool)(l:List α)(h: ∀j,0<j->j<l.length->q (el l j) (el l (j - 1))=false):kp q l l.length=l:=by
 rw[zz q l l.length (Nat.le_refl _) h,List.take_length]
def dd(a b:Cs):Bool:=decide (a=b)
theorem an1(a b:Cs):a=b↔(a.ep=b.ep/\a.kd=b.kd/\a.su=b.su/\a.ro=b.ro):=by
 cases a
 cases b
 simp
def zC:List PV:=[.int .i64 0,.int .i64 0,.int .i64 0,.int .i64 0]
theorem bkg:zC=[PV.int .i64 0,PV.int .i64 0,PV.int .i64 0,PV.int .i64 0].map vd:=(rfl)
theorem a9i(a b:Cs):(decide (a.ep=b.ep)&&(decide (a.kd=b.kd)&&(decide (a.su=b.su)&&decide (a.ro=b.ro))))=dd a b:=by
 unfold dd;rw[Bool.eq_iff_iff];simp[an1]
theorem qe{α:Type} [Inhabited α]{L o:List α}{v:α}(h1:o.length<L.length)(h2:L.take o.length=o):(L.set o.length v).take (o++[v]).length=o++[v]:=by
 rw[List.length_append,List.length_singleton,List.take_add_one,List.take_set_of_le (Nat.le_refl _),h2];simp[h1]
theorem aij{α:Type} [Inhabited α]{L:List α}{v:α}{k a:Nat}(h:k<a):el (L.set k v) a=el L a:=by
 simp only[el,aw,List.getElem?_set];rw[if_neg (by omega)]
theorem ado(l:List Cs)(hl:big l.length)(hd: ∀i,0<i->i<l.length->dd (el l i) (el l (i - 1))=false):
  Den Tryz.prog 107 [.os 1000000 l.length] [.arr 93 4 false (l.map cs)] (.os 1000000 l.length) [] [.arr 93 4 false (l.map cs)]:=by
 refine aa Tryz.func107 rfl Tryz.call107 Tryz.ntmps107 Tryz.results107 (by simp) (by kernel_rfl) [] (exts:=[1000000]) rfl rfl ?_;by_cases h2:(l.length:Int)<2
 ·simp only[go_sem,h2]
 simp only[go_sem,h2];refine loop Tryz.mixed 1 (fun i:Nat=>[(0,.os 1000000 l.length),(3,.int .i64 i)]) (fun _=>[(1000000,.arr 93 4 false (l.map cs))]) (fun i=>1<=i/\i<=l.length) (fun i=>l.length - i) (by kernel_rfl) ⟨Nat.le_refl _,by omega⟩ ?_ ?_
 ·simp only[go_sem]
 ·rintro i ⟨hi0,hi⟩;by_cases hlt:i<l.length
  ·have h1:(i:Int)<(l.length:Int):=by omega
   obtain⟨j,rfl⟩: ∃j,i=j+1:=⟨i - 1,by omega⟩;have hw:IntKind.i64.wrap (((j+1:Nat):Int) - 1)=(j:Int):=by rw[ae]<;>omega
   have hj:j<l.length:=by omega
   have hne:=hd (j+1) (by omega) hlt;rw[Nat.add_sub_cancel]at hne;have hne2:=of_decide_eq_false hne;rw[an1]at hne2;simp only[go_sem,h1,hlt,hw,hj,ki];refine⟨ag (by kernel_rfl),fun h=>absurd h hne2,fun _=>⟨j+1+1,⟨⟨by omega,by omega⟩,by omega⟩,?_⟩⟩;rw[ae]<;>omega
  ·have h1: ¬(i:Int)<(l.length:Int):=by omega
   simp only[go_sem,h1]
theorem adw(l:List Cs)(hl:big l.length){k0:Nat}(h1:0<k0)(h2:k0<l.length)(h3:dd (el l k0) (el l (k0 - 1))=true)(h4: ∀j,0<j->j<k0->dd (el l j) (el l (j - 1))=false):
  Den Tryz.prog 107 [.os 1000000 l.length] [.arr 93 4 false (l.map cs)] (.vs ((kp dd l l.length).map cs)) [] [.arr 93 4 true ((kp dd l l.length).map cs++List.replicate (l.length - (kp dd l l.length).length) zC)]:=by
 refine aa Tryz.func107 rfl Tryz.call107 Tryz.ntmps107 Tryz.results107 (by simp) (by kernel_rfl) [] (exts:=[1000000]) rfl rfl ?_;have hlen: ¬(l.length:Int)<2:=by omega
 simp only[go_sem,hlen];refine r5 Tryz.mixed 1 (fun i:Nat=>[(0,.os 1000000 l.length),(3,.int .i64 i)]) (fun _=>[(1000000,.arh 93 4 (l.map cs))]) (fun i=>1<=i/\i<=k0) (fun i=>k0 - i) (by kernel_rfl) ⟨Nat.le_refl _,by omega⟩ ?_ ?_
 ·refine Cv.trans (Cv.opn (n:=1000000) (by rfl)) (Cv.wk ?_);have hin:=bd [1000000] cs (fun _=>rfl) l;simp only[go_sem,hin]
 ·rintro i ⟨hi0,hi⟩;have hlt:i<l.length:=by omega
  have g1:(i:Int)<(l.length:Int):=by omega
  obtain⟨j,rfl⟩: ∃j,i=j+1:=⟨i - 1,by omega⟩;have hw:IntKind.i64.wrap (((j+1:Nat):Int) - 1)=(j:Int):=by rw[ae]<;>omega
  have hj:j<l.length:=by omega
  have hq:dd (el l (j+1)) (el l j)=decide (el l (j+1)=el l j):=rfl;by_cases hk:j+1<k0
  ·have hne:=h4 (j+1) (by omega) hk;rw[Nat.add_sub_cancel]at hne;have hne2:=of_decide_eq_false hne;rw[an1]at hne2;simp only[go_sem,g1,hlt,hw,hj,ki];refine⟨ag (by kernel_rfl),fun h=>absurd h hne2,fun _=>⟨j+1+1,⟨⟨by omega,by omega⟩,by omega⟩,Cv.wk ?_⟩⟩;have hin:=bd [1000000] cs (fun _=>rfl) l;simp only[go_sem,hin];rw[ae]<;>omega
  ·obtain rfl:k0=j+1:=by omega
   rw[Nat.add_sub_cancel]at h3;have he2:=of_decide_eq_true h3;rw[an1]at he2;simp only[go_sem,g1,hlt,hw,hj,ki,he2];refine⟨ag (by kernel_rfl),?_⟩
   have kf:kp dd l (j+1+1)=l.take (j+1):=by
    have:=zz dd l (j+1) (by omega) h4;rw[kp,if_neg (fun h=>by rcases h with h|h;omega;rw[Nat.add_sub_cancel,h3]at h;cases h),this,List.append_nil]
   refine r5 Tryz.mixed (0,l) (fun s:Nat×List Cs=>[(0,.os 1000000 l.length),(3,.int .i64 (kp dd l (j+1+(s.1+1))).length),(4,.osl 1000000 l.length (j+1)),(5,.int .i64 ((s.1+1:Nat):Int))]) (fun s=>[(1000000,.arh 93 4 (s.2.map cs))])
    (fun s=>j+1+(s.1+1)<=l.length/\s.2.length=l.length/\(kp dd l (j+1+(s.1+1))).length<j+1+(s.1+1)/\s.2.take (kp dd l (j+1+(s.1+1))).length=kp dd l (j+1+(s.1+1))/\∀a,(kp dd l (j+1+(s.1+1))).length<=a->el s.2 a=el l a) (fun s=>l.length - s.1) (by kernel_rfl) ?_ ?_ ?_
   ·have hlt':(l.take (j+1)).length=j+1:=by simp;omega
    refine⟨by simp only;omega,rfl,?_,?_,fun a _=>rfl⟩
    ·show(kp dd l (j+1+1)).length<j+1+1;rw[kf,hlt'];omega
    ·show l.take (kp dd l (j+1+1)).length=kp dd l (j+1+1);rw[kf,hlt']
   ·refine Cv.wk ?_;have hlt':(l.take (j+1)).length=j+1:=by simp;omega
    have hin:=bd [1000000] cs (fun _=>rfl) l;simp only[go_sem,hin,kf,hlt']
   ·rintro⟨n,L⟩ ⟨i1,i2,i3,i4,i5⟩;simp only at i1 i2 i3 i4 i5;simp only
    have ks:kp dd l (j+1+(n+1)+1)=kp dd l (j+1+(n+1))++if dd (el l (j+1+(n+1))) (el l (j+1+n))=false then [el l (j+1+(n+1))]else []:=by
     rw[kp];have h0: ¬j+1+(n+1)=0:=by omega
     simp only[h0,false_or];rfl
    have k0p:0<(kp dd l (j+1+(n+1))).length:=a2y _ _ (by omega);generalize hO:kp dd l (j+1+(n+1))=o at*;by_cases hm:j+1+(n+1)<l.length
    ·have g2:((n+1:Nat):Int)<((l.length - (j+1):Nat):Int):=by omega
     have g3:((j+1:Nat):Int)+((n+1:Nat):Int)<(l.length:Int):=by omega
     have g4:((j+1:Nat):Int)+(n:Int)<(l.length:Int):=by omega
     have g5:IntKind.i64.wrap (((n+1:Nat):Int) - 1)=(n:Int):=by rw[ae]<;>omega
     have g6:j+1+(n+1)<L.length:=by omega
     have g7:j+1+n<L.length:=by omega
     have e1:el L (j+1+(n+1))=el l (j+1+(n+1)):=i5 _ (by omega);have e2:el L (j+1+n)=el l (j+1+n):=i5 _ (by omega);have ks':kp dd l (j+1+((n+1)+1))=o++if dd (el l (j+1+(n+1))) (el l (j+1+n))=false then [el l (j+1+(n+1))]else []:=ks
     cases hsame:dd (el l (j+1+(n+1))) (el l (j+1+n))with
     |true=>
      rw[hsame,if_neg (by simp),List.append_nil]at ks';simp only[go_sem,g2,g3,g4,g5,g6,g7,i2,e1,e2,a9i,hsame];refine⟨hm,by omega,ag (by kernel_rfl),(n+1,L),⟨⟨by simp only;omega,i2,?_,?_,fun a ha=>i5 a ?_⟩,by simp only;omega⟩,Cv.wk ?_⟩
      ·show(kp dd l (j+1+((n+1)+1))).length<_;rw[ks'];simp only;omega
      ·show L.take (kp dd l (j+1+((n+1)+1))).length=_;rw[ks'];exact i4
      ·have ha':(kp dd l (j+1+((n+1)+1))).length<=a:=ha
       rwa [ks']at ha'
      ·have hin:=bd [1000000] cs (fun _=>rfl) L;simp only[go_sem,ks',hin]
       rw[ae]<;>omega
     |false=>
      rw[hsame,if_pos rfl]at ks';simp only[go_sem,g2,g3,g4,g5,g6,g7,i2,e1,e2,a9i,hsame];refine⟨hm,by omega,ag (by kernel_rfl),hm,by omega,by omega,(n+1,L.set o.length (el l (j+1+(n+1)))),⟨⟨by simp only;omega,by simp only[List.length_set];exact i2,?_,?_,fun a ha=> ?_⟩,by simp only;omega⟩,Cv.wk ?_⟩
      ·show(kp dd l (j+1+((n+1)+1))).length<_;rw[ks',List.length_append,List.length_singleton];simp only;omega
      ·show(L.set o.length (el l (j+1+(n+1)))).take (kp dd l (j+1+((n+1)+1))).length=kp dd l (j+1+((n+1)+1));rw[ks'];exact qe (by omega) i4
      ·have ha':(kp dd l (j+1+((n+1)+1))).length<=a:=ha;rw[ks',List.length_append,List.length_singleton]at ha';show el (L.set o.length _) a=_;rw[aij (by omega)];exact i5 a (by omega)
      ·have hin:=bd [1000000] cs (fun _=>rfl) (L.set o.length (el l (j+1+(n+1))));have hset:(L.map cs).set o.length [PV.int IntKind.i64 (el l (j+1+(n+1))).ep,PV.int IntKind.i64 (el l (j+1+(n+1))).kd,PV.int IntKind.i64 (el l (j+1+(n+1))).su,PV.int IntKind.i64 (el l (j+1+(n+1))).ro]=(L.set o.length (el l (j+1+(n+1)))).map cs:=by rw[List.map_set];rfl
       have hol:(o++[el l (j+1+(n+1))]).length=o.length+1:=by simp
       simp only[go_sem,ks',hset,hin,hol];exact⟨by rw[ae]<;>omega,by rw[ae]<;>omega⟩
    ·have hend:j+1+(n+1)=l.length:=by omega
     have g2: ¬((n+1:Nat):Int)<((l.length - (j+1):Nat):Int):=by omega
     have g3:(o.length:Int)<(l.length:Int):=by omega
     rw[hend]at hO;rw[hO];have htk:(L.map cs).take o.length=o.map cs:=by rw[<-List.map_take,i4]
     have hpu: ∀σ,jl σ (o.map cs++List.replicate (l.length - o.length) zC)=some (o.map cs++List.replicate (l.length - o.length) zC,[]):=fun σ=>lp fun x hx=>by
      rcases List.mem_append.1 hx with hx|hx
      ·obtain⟨c,_,rfl⟩:=List.mem_map.1 hx;rfl
      ·rw[List.eq_of_mem_replicate hx];rfl
     have g4:(o.length:Int)<=(l.length:Int):=by omega
     have g5:(o.map cs++List.replicate (l.length - o.length) zC).length=l.length:=by simp;omega
     have g6:(o.map cs++List.replicate (l.length - o.length) zC).take o.length=o.map cs:=by simp
     simp only[go_sem,g2,g3,i2,htk];refine md _ _ ?_;have g7:o.length<l.length:=by omega
     simp only[go_sem,g2,g3,i2,htk,g7,<-bkg,hpu,g4,g5,g6];refine ak0 _ ?_;simp only[go_sem]
theorem aha(l:List Cs)(hl:big l.length):
  ∃new,new.length=l.length/\Den Tryz.prog 107 [.os 1000000 l.length] [.arr 93 4 false (l.map cs)] (.vs ((kp dd l l.length).map cs)) [] [.arr 93 4 true new]:=by
 rcases wz dd l l.length (Nat.le_refl _)with h|⟨k0,h1,h2,h3,h4⟩
 ·rw[akq _ _ h];exact⟨_,by simp,(ado l hl h).vsE (by simp)⟩
 ·exact⟨_,by have:=abm dd l l.length;simp;omega,adw l hl h1 h2 h3 h4⟩
def d8(a b:Vt):Bool:=decide (aag a b=0)
def zV:List PV:=[.int .i64 0,.int .i64 0,.int .i64 0,.int .i64 0,.int .i64 0,.vs [],.vs []]
theorem bja:zV=[PV.int .i64 0,PV.int .i64 0,PV.int .i64 0,PV.int .i64 0,PV.int .i64 0,.nils,.nils].map vd:=(rfl)
theorem adm(l:List Vt)(hl:big l.length)(hb: ∀a∈l,aac a.x){k0:Nat}(h1:0<k0)(h2:k0<l.length)(h3:d8 (el l k0) (el l (k0 - 1))=true)(h4: ∀j,0<j->j<k0->d8 (el l j) (el l (j - 1))=false):
  Den Tryz.prog 148 [.os 1000000 l.length,.fn 149 [.ptr 1000001 0]] [.arr 166 7 false (l.map vt7),.cells [.fn 146 []]] (.vs ((kp d8 l l.length).map vt7)) [] [.arr 166 7 true ((kp d8 l l.length).map vt7++List.replicate (l.length - (kp d8 l l.length).length) zV),.cells [.fn 146 []]]:=by
 refine aa Tryz.func148 rfl Tryz.call148 Tryz.ntmps148 Tryz.results148 (by simp) (by kernel_rfl) [] (exts:=[1000000,1000001]) rfl rfl ?_;have hlen: ¬(l.length:Int)<2:=by omega
 simp only[go_sem,hlen];refine r5 Tryz.mixed 1 (fun i:Nat=>[(0,.os 1000000 l.length),(1,.fn 149 [.ptr 1000001 0]),(5,.int .i64 i)]) (fun _=>[(1000000,.arh 166 7 (l.map vt7)),(1000001,.cells [.fn 146 []])]) (fun i=>1<=i/\i<=k0) (fun i=>k0 - i) (by kernel_rfl) ⟨Nat.le_refl _,by omega⟩ ?_ ?_
 ·refine Cv.trans (Cv.opn (n:=1000000) (by rfl)) (Cv.wk ?_);have hin:=bd [1000000,1000001] vt7 (fun _=>rfl) l;simp only[go_sem,hin]
 ·rintro i ⟨hi0,hi⟩;have hlt:i<l.length:=by omega
  have g1:(i:Int)<(l.length:Int):=by omega
  obtain⟨j,rfl⟩: ∃j,i=j+1:=⟨i - 1,by omega⟩;have hw:IntKind.i64.wrap (((j+1:Nat):Int) - 1)=(j:Int):=by rw[ae]<;>omega
  have hj:j<l.length:=by omega
  have cq:=ali (el l (j+1)) (el l j) (hb _ (cj hlt)) (hb _ (cj hj));have hq:decide (aag (el l (j+1)) (el l j)=0)=d8 (el l (j+1)) (el l j):=rfl;rw[hq]at cq;by_cases hk:j+1<k0
  ·have hne:=h4 (j+1) (by omega) hk;rw[Nat.add_sub_cancel]at hne;rw[hne]at cq;simp only[go_sem,g1,hlt,hw,hj];refine call cq [1000001] ?_;simp only[go_sem];refine⟨ag (by kernel_rfl),j+1+1,⟨⟨by omega,by omega⟩,by omega⟩,Cv.wk ?_⟩;have hin:=bd [1000000,1000001] vt7 (fun _=>rfl) l;simp only[go_sem,hin];rw[ae]<;>omega
  ·obtain rfl:k0=j+1:=by omega
   rw[Nat.add_sub_cancel]at h3;rw[h3]at cq;simp only[go_sem,g1,hlt,hw,hj];refine call cq [1000001] ?_;simp only[go_sem,g1,hlt,hw,hj];refine⟨ag (by kernel_rfl),?_⟩
   have kf:kp d8 l (j+1+1)=l.take (j+1):=by
    have:=zz d8 l (j+1) (by omega) h4;rw[kp,if_neg (fun h=>by rcases h with h|h;omega;rw[Nat.add_sub_cancel,h3]at h;cases h),this,List.append_nil]
   refine r5 Tryz.mixed (0,l) (fun s:Nat×List Vt=>[(0,.os 1000000 l.length),(1,.fn 149 [.ptr 1000001 0]),(5,.int .i64 (kp d8 l (j+1+(s.1+1))).length),(6,.osl 1000000 l.length (j+1)),(7,.int .i64 ((s.1+1:Nat):Int))]) (fun s=>[(1000000,.arh 166 7 (s.2.map vt7)),(1000001,.cells [.fn 146 []])])
    (fun s=>j+1+(s.1+1)<=l.length/\s.2.length=l.length/\(kp d8 l (j+1+(s.1+1))).length<j+1+(s.1+1)/\s.2.take (kp d8 l (j+1+(s.1+1))).length=kp d8 l (j+1+(s.1+1))/\∀a,(kp d8 l (j+1+(s.1+1))).length<=a->el s.2 a=el l a) (fun s=>l.length - s.1) (by kernel_rfl) ?_ ?_ ?_
   ·have hlt':(l.take (j+1)).length=j+1:=by simp;omega
    refine⟨by simp only;omega,rfl,?_,?_,fun a _=>rfl⟩
    ·show(kp d8 l (j+1+1)).length<j+1+1;rw[kf,hlt'];omega
    ·show l.take (kp d8 l (j+1+1)).length=kp d8 l (j+1+1);rw[kf,hlt']
   ·refine Cv.wk ?_;have hlt':(l.take (j+1)).length=j+1:=by simp;omega
    have hin:=bd [1000000,1000001] vt7 (fun _=>rfl) l;simp only[go_sem,hin,kf,hlt']
   ·rintro⟨n,L⟩ ⟨i1,i2,i3,i4,i5⟩;simp only at i1 i2 i3 i4 i5;simp only
    have ks:kp d8 l (j+1+(n+1)+1)=kp d8 l (j+1+(n+1))++if d8 (el l (j+1+(n+1))) (el l (j+1+n))=false then [el l (j+1+(n+1))]else []:=by
     rw[kp];have h0: ¬j+1+(n+1)=0:=by omega
     simp only[h0,false_or];rfl
    have k0p:0<(kp d8 l (j+1+(n+1))).length:=a2y _ _ (by omega);generalize hO:kp d8 l (j+1+(n+1))=o at*;by_cases hm:j+1+(n+1)<l.length
    ·have g2:((n+1:Nat):Int)<((l.length - (j+1):Nat):Int):=by omega
     have g3:((j+1:Nat):Int)+((n+1:Nat):Int)<(l.length:Int):=by omega
     have g4:((j+1:Nat):Int)+(n:Int)<(l.length:Int):=by omega
     have g5:IntKind.i64.wrap (((n+1:Nat):Int) - 1)=(n:Int):=by rw[ae]<;>omega
     have g6:j+1+(n+1)<L.length:=by omega
     have g7:j+1+n<L.length:=by omega
     have e1:el L (j+1+(n+1))=el l (j+1+(n+1)):=i5 _ (by omega);have e2:el L (j+1+n)=el l (j+1+n):=i5 _ (by omega);have ks':kp d8 l (j+1+((n+1)+1))=o++if d8 (el l (j+1+(n+1))) (el l (j+1+n))=false then [el l (j+1+(n+1))]else []:=ks
     have cq2:=ali (el l (j+1+(n+1))) (el l (j+1+n)) (hb _ (cj hm)) (hb _ (cj (by omega)));have hq2:decide (aag (el l (j+1+(n+1))) (el l (j+1+n))=0)=d8 (el l (j+1+(n+1))) (el l (j+1+n)):=rfl;rw[hq2]at cq2;have hm2:j+1+n<l.length:=by omega
     cases hsame:d8 (el l (j+1+(n+1))) (el l (j+1+n))with
     |true=>
      rw[hsame,if_neg (by simp),List.append_nil]at ks';rw[hsame]at cq2;simp only[go_sem,g2,g3,g4,g5,g6,g7,i2,e1,e2,hm,hm2];refine call cq2 [1000001] ?_;simp only[go_sem,g2,g3,g4,g5,g6,g7,i2,e1,e2,hm,hm2];refine⟨ag (by kernel_rfl),(n+1,L),⟨⟨by simp only;omega,i2,?_,?_,fun a ha=>i5 a ?_⟩,by simp only;omega⟩,Cv.wk ?_⟩
      ·show(kp d8 l (j+1+((n+1)+1))).length<_;rw[ks'];simp only;omega
      ·show L.take (kp d8 l (j+1+((n+1)+1))).length=_;rw[ks'];exact i4
      ·have ha':(kp d8 l (j+1+((n+1)+1))).length<=a:=ha
       rwa [ks']at ha'
      ·have hin:=bd [1000000,1000001] vt7 (fun _=>rfl) L;simp only[go_sem,ks',hin]
       rw[ae]<;>omega
     |false=>
      rw[hsame,if_pos rfl]at ks';rw[hsame]at cq2;have g8:o.length<l.length:=by omega
      simp only[go_sem,g2,g3,g4,g5,g6,g7,g8,i2,e1,e2,hm,hm2];refine call cq2 [1000001] ?_;simp only[go_sem,g2,g3,g4,g5,g6,g7,g8,i2,e1,e2,hm,hm2];refine⟨ag (by kernel_rfl),(n+1,L.set o.length (el l (j+1+(n+1)))),⟨⟨by simp only;omega,by simp only[List.length_set];exact i2,?_,?_,fun a ha=> ?_⟩,by simp only;omega⟩,Cv.wk ?_⟩
      ·show(kp d8 l (j+1+((n+1)+1))).length<_;rw[ks',List.length_append,List.length_singleton];simp only;omega
      ·show(L.set o.length (el l (j+1+(n+1)))).take (kp d8 l (j+1+((n+1)+1))).length=kp d8 l (j+1+((n+1)+1));rw[ks'];exact qe (by omega) i4
      ·have ha':(kp d8 l (j+1+((n+1)+1))).length<=a:=ha;rw[ks',List.length_append,List.length_singleton]at ha';show el (L.set o.length _) a=_;rw[aij (by omega)];exact i5 a (by omega)
      ·have hin:=bd [1000000,1000001] vt7 (fun _=>rfl) (L.set o.length (el l (j+1+(n+1))));have hset:(L.map vt7).set o.length [PV.int IntKind.i64 (el l (j+1+(n+1))).k,PV.int IntKind.i64 (el l (j+1+(n+1))).c.ep,PV.int IntKind.i64 (el l (j+1+(n+1))).c.kd,PV.int IntKind.i64 (el l (j+1+(n+1))).c.su,PV.int IntKind.i64 (el l (j+1+(n+1))).c.ro,PV.vs (List.map Am.i1 (el l (j+1+(n+1))).x.li),PV.vs (List.map pn (el l (j+1+(n+1))).x.pi)]=(L.set o.length (el l (j+1+(n+1)))).map vt7:=by rw[List.map_set];rfl
       have hol:(o++[el l (j+1+(n+1))]).length=o.length+1:=by simp
       simp only[go_sem,ks',hset,hin,hol];exact⟨by rw[ae]<;>omega,by rw[ae]<;>omega⟩
    ·have hend:j+1+(n+1)=l.length:=by omega
     have g2: ¬((n+1:Nat):Int)<((l.length - (j+1):Nat):Int):=by omega
     have g3:(o.length:Int)<(l.length:Int):=by omega
     rw[hend]at hO;rw[hO];have htk:(L.map vt7).take o.length=o.map vt7:=by rw[<-List.map_take,i4]
     have hpu: ∀σ,jl σ (o.map vt7++List.replicate (l.length - o.length) zV)=some (o.map vt7++List.replicate (l.length - o.length) zV,[]):=fun σ=>lp fun x hx=>by
      rcases List.mem_append.1 hx with hx|hx
      ·obtain⟨c,_,rfl⟩:=List.mem_map.1 hx;rfl
      ·rw[List.eq_of_mem_replicate hx];rfl
     have g4:(o.length:Int)<=(l.length:Int):=by omega
     have g5:(o.map vt7++List.replicate (l.length - o.length) zV).length=l.length:=by simp;omega
     have g6:(o.map vt7++List.replicate (l.length - o.length) zV).take o.length=o.map vt7:=by simp
     simp only[go_sem,g2,g3,i2,htk];refine md _ _ ?_;have g7:o.length<l.length:=by omega
     simp only[go_sem,g2,g3,i2,htk,g7,<-bja,hpu,g4,g5,g6];refine ak0 _ ?_;simp only[go_sem]
theorem adb(l:List Vt)(hl:big l.length)(hb: ∀a∈l,aac a.x):
  ∃new,new.length=l.length/\Den Tryz.prog 148 [.os 1000000 l.length,.fn 149 [.ptr 1000001 0]] [.arr 166 7 false (l.map vt7),.cells [.fn 146 []]] (.vs ((kp d8 l l.length).map vt7)) [] [.arr 166 7 true new,.cells [.fn 146 []]]:=by
 rcases wz d8 l l.length (Nat.le_refl _)with h|⟨k0,h1,h2,h3,h4⟩
 ·rw[akq _ _ h];exact⟨_,by simp,(aja l hl hb fun i h5 h6 e=>by have:=h i h5 h6;simp[d8,e]at this).vsE (by simp)⟩
 ·exact⟨_,by have:=abm d8 l l.length;simp;omega,adm l hl hb h1 h2 h3 h4⟩
def bj(l:List Stm)(c:Cs):List Vt:=kp d8 (a4u (yi l c l.length)) (a4u (yi l c l.length)).length
theorem ack(l:List Stm)(c:Cs)(hl:l.length<=1000000)(hs: ∀s∈l,adv s):
  Den Tryz.prog 111 [.vs (l.map sm),.agg (cs c)] [] (.vs ((bj l c).map vt7)) [] []:=by
 refine aa Tryz.func111 rfl Tryz.call111 Tryz.ntmps111 Tryz.results111 (by simp) (by kernel_rfl) [] (exts:=[]) rfl rfl ?_;simp only[go_sem];refine da 5 99 166 7 false ?_ ?_ ?_ (by omega)
 ·refine loop Tryz.mixed 0 (fun i:Nat=>[(11,.vs (l.map sm)),(12,.int .i64 l.length),(13,.int .i64 i),(3,.ptr 3 0),(5,.os 99 (yi l c i).length)]) (fun i=>[(3,.cells [.int .i64 c.ep,.int .i64 c.kd,.int .i64 c.su,.int .i64 c.ro]),(99,.arr 166 7 false ((yi l c i).map vt7))]) (fun i=>i<=l.length) (fun i=>l.length - i) (by kernel_rfl) (Nat.zero_le _) ?_ ?_
  ·simp only[go_sem];exact⟨rfl,rfl⟩
  ·intro i hi;by_cases hlt:i<l.length
   ·have h1:(i:Int)<(l.length:Int):=by omega
    have hsu:=ag0 (c:=c) hlt;have hrl:=ap2 l c i;have hv:=ag8 (el l i) (hs _ (cj hlt));rw[kg]at hv;generalize yi l c i=o at*;generalize hve:ej (el l i)=ve at*;obtain⟨w,b⟩:=ve;simp only[okV,hve]at hsu;simp only[go_sem,h1,hlt];refine call hv [] ?_
    cases b with
    |false=>
     simp only[go_sem];refine⟨i+1,⟨by omega,by omega⟩,?_⟩;rw[hsu];simp only[Bool.false_and,Bool.false_eq_true,if_false,List.append_nil];simp only[go_sem]
     rw[ae]<;>omega
    |true=>
     have hce:(w.c=c)↔(w.c.ep=c.ep/\w.c.kd=c.kd/\w.c.su=c.su/\w.c.ro=c.ro):=by
      cases hw:w.c
      cases c
      simp
     simp only[go_sem];refine⟨fun h=>⟨by omega,i+1,⟨by omega,by omega⟩,?_⟩,fun h=>⟨i+1,⟨by omega,by omega⟩,?_⟩⟩
     ·rw[hsu];simp only[hce.2 h,decide_true,Bool.and_self,if_true];exact⟨⟨by rw[ae]<;>omega,by simp⟩,by simp[vt7,hce.2 h]⟩
     ·have hn: ¬w.c=c:=fun e=>by
       have:=hce.1 e;simp[this]at h
      rw[hsu];simp only[hn,decide_false,Bool.and_false,Bool.false_eq_true,if_false,List.append_nil];exact⟨⟨by rw[ae]<;>omega,trivial⟩,trivial⟩
   ·have h1: ¬(i:Int)<(l.length:Int):=by omega
    have:i=l.length:=by omega
    subst this;simp only[go_sem,h1];have hrl:=ap2 l c l.length
    have hrb: ∀a∈yi l c l.length,aac a.x:=fun a ha=>by
     obtain⟨s,_,rfl⟩:=List.mem_map.1 ha;exact om adk
    have hrc: ∀a∈yi l c l.length,a.c=c:=fun a ha=>by
     obtain⟨s,hs',rfl⟩:=List.mem_map.1 ha;have:=(List.mem_filter.1 hs').2;simp only[okV,Bool.and_eq_true,decide_eq_true_eq]at this;exact this.2
    have hvl:bj l c=kp d8 (a4u (yi l c l.length)) (a4u (yi l c l.length)).length:=rfl;rw[hvl];clear hvl;generalize yi l c l.length=o at*;refine call (axl o (by omega) hrb (fun a ha b hb=>(hrc a ha).trans (hrc b hb).symm)) [99] ?_;have hsl:(a4u o).length=o.length:=List.length_mergeSort _;simp only[go_sem,hsl];obtain⟨new,hnl,hcc⟩:=adb (a4u o) (by simp only[big];omega) (fun a ha=>hrb a ((List.mergeSort_perm _ _).mem_iff.1 ha));rw[hsl]at hcc hnl;refine⟨Nat.le_refl _,?_⟩;refine call hcc [99,10] ?_;simp only[go_sem,hsl];omega
 ·simp only[go_sem]
 ·simp only[go_sem]
def ltV(a b:Vt):Bool:=decide (aag a b<0)
def a81(l:List Stm)(c:Cs)(i:Nat):List Vt:=(yi l c i).foldl (pj ltV) []
theorem avr{l:List Stm}{c:Cs}{i:Nat}(h:i<l.length):a81 l c (i+1)=if okV c (el l i)=true then pj ltV (a81 l c i) (ej (el l i)).1 else a81 l c i:=by
 simp only[a81,ag0 h,List.foldl_append];split<;>rfl
theorem a2k{l:List Stm}{c:Cs}: ∀i,i<=l.length->(a81 l c i).length<=i/\∀y∈a81 l c i,aac y.x
 |0,_=>by simp[a81,yi]
 |i+1,h=>by
  have ih:=a2k (c:=c) i (by omega:i<=l.length);rw[avr (by omega)];split
  ·refine⟨Nat.le_trans (aok _ _ _) (by omega),fun y hy=> ?_⟩;rcases aob _ _ _ _ hy with rfl|hy
   ·exact om adk
   ·exact ih.2 y hy
  ·exact⟨by omega,ih.2⟩
def zw(l:List Stm)(i:Nat):List Cs:=((l.take i).filter fun s=>(ej s).2).map fun s=>(ej s).1.c
theorem a16{l:List Stm}{i:Nat}(h:i<l.length):zw l (i+1)=zw l i++if(ej (el l i)).2=true then [(ej (el l i)).1.c]else []:=by
 simp only[zw,cu h,List.filter_append,List.map_append,List.filter_cons,List.filter_nil];split<;>rfl
theorem aon(l:List Stm)(i:Nat):(zw l i).length<=l.length:=by
 simp only[zw,List.length_map];refine Nat.le_trans (List.length_filter_le _ _) ?_;simp;omega
theorem aa2(a:Cs):aaw a a=false:=by simp[aaw]
def a3a(a b:Cs):Int:=or2 (gv a.ep b.ep) (or2 (gv a.kd b.kd) (or2 (gv a.su b.su) (gv a.ro b.ro)))
theorem a5q(a b:Cs):Den Tryz.prog 104 [.agg (cs a),.agg (cs b)] [] (.int .i64 (a3a a b)) [] []:=by
 refine aa Tryz.func104 rfl Tryz.call104 Tryz.ntmps104 Tryz.results104 (by simp) (by kernel_rfl) [] (exts:=[]) rfl rfl ?_;rw[ki,ki];simp only[go_sem];refine call (eb a.ep b.ep) [] ?_;simp only[go_sem];refine call (eb a.kd b.kd) [] ?_;simp only[go_sem];refine call (eb a.su b.su) [] ?_;simp only[go_sem];refine call (eb a.ro b.ro) [] ?_;simp only[go_sem];refine call (yo [gv a.ep b.ep,gv a.kd b.kd,gv a.su b.su,gv a.ro b.ro] (by simp[big])) [] ?_;simp only[go_sem];refine⟨ag (by kernel_rfl),?_⟩;simp only[orL,a3a,or2]
 repeat' split
 all_goals simp_all
theorem to_C:TO a3a:=a0l (oa lu (oa lu (oa lu lu))) (fun c:Cs=>(c.ep,(c.kd,(c.su,c.ro)))) fun x y h=>by
 cases x
 cases y
 simpa using h
theorem yr(a b:Cs):aaw a b=decide (a3a a b<0):=by
 unfold aaw a3a or2 gv;by_cases h1:a.ep=b.ep
 ·by_cases h2:a.kd=b.kd
  ·by_cases h3:a.su=b.su
   ·simp only[h1,h2,h3];simp;by_cases h4:a.ro<b.ro
    ·simp[h4]
    ·by_cases h5:b.ro<a.ro<;>simp[h4,h5]
   ·by_cases h4:a.su<b.su
    ·simp[h1,h2,h3,h4]
    ·have h5:b.su<a.su:=by omega
     simp[h1,h2,h3,h4,h5]
  ·by_cases h4:a.kd<b.kd
   ·simp[h1,h2,h4]
   ·have h5:b.kd<a.kd:=by omega
    simp[h1,h2,h4,h5]
 ·by_cases h4:a.ep<b.ep
  ·simp[h1,h4]
  ·have h5:b.ep<a.ep:=by omega
   simp[h1,h4,h5]
theorem bh1{α:Type}{f:α->α->Int}{S:α->Prop}(hirr: ∀a,¬f a a<0)(htr: ∀a b c,f a b<0->f b c<0->f a c<0)(hnt: ∀a b c,¬f a b<0->¬f b c<0->¬f a c<0)(htri: ∀a b,S a->S b->¬f a b<0->¬f b a<0->a=b):KO (fun a b=>decide (f a b<0)) S where
 irr a:=decide_eq_false (hirr a)
 tr a b c h1 h2:=decide_eq_true (htr a b c (of_decide_eq_true h1) (of_decide_eq_true h2))
 nt a b c h1 h2:=decide_eq_false (hnt a b c (of_decide_eq_false h1) (of_decide_eq_false h2))
 tri a b ha hb h1 h2:=htri a b ha hb (of_decide_eq_false h1) (of_decide_eq_false h2)
theorem ko_C:KO aaw fun _=>True:=by
 have:aaw=fun a b=>decide (a3a a b<0):=by funext a b;exact yr a b
 rw[this];refine bh1 to_C.irr to_C.tr to_C.nt fun a b _ _ h1 h2=> ?_;refine(to_C.eq a b).1 ?_;have:=to_C.flip b a;omega
theorem bg4(c:Cs):KO ltV fun v=>v.c=c:=by
 refine bh1 (f:=aag) (fun a=>to_V.irr (a.k,a.x)) (fun a b d=>to_V.tr (a.k,a.x) (b.k,b.x) (d.k,d.x)) (fun a b d=>to_V.nt (a.k,a.x) (b.k,b.x) (d.k,d.x)) fun a b ha hb h1 h2=> ?_
 have e:(a.k,a.x)=(b.k,b.x):=(to_V.eq (a.k,a.x) (b.k,b.x)).1 (by
  have:=to_V.flip (b.k,b.x) (a.k,a.x);simp only[aag]at h1 h2;simp only at this ⊢;omega)
 cases a
 cases b
 simp only[Prod.mk.injEq]at e;simp only at ha hb;simp[e,ha,hb]
theorem az3(a b:Vt):d8 a b=true↔(ltV a b=false/\ltV b a=false):=by
 have:=to_V.flip (b.k,b.x) (a.k,a.x);have h2:=to_V.flip (a.k,a.x) (b.k,b.x);simp only at this h2;have e1:aag a b=or2 (gv a.k b.k) (ot a.x b.x):=rfl;have e2:aag b a=or2 (gv b.k a.k) (ot b.x a.x):=rfl;rw[<-e1,<-e2]at this h2;unfold d8 ltV;rw[decide_eq_true_iff,decide_eq_false_iff_not,decide_eq_false_iff_not];constructor
 ·intro h;constructor<;>omega
 ·rintro⟨h3,h4⟩;omega
theorem axp(a b:Cs):dd a b=true↔(aaw a b=false/\aaw b a=false):=by
 simp only[dd,decide_eq_true_eq];constructor
 ·rintro rfl;exact⟨aa2 _,aa2 _⟩
 ·rintro⟨h1,h2⟩;exact ko_C.tri a b trivial trivial h1 h2
theorem bei(l:List Vt):(a4u l).Pairwise fun a b=>ltV b a=false:=by
 have:=List.pairwise_mergeSort (le:=fun a b:Vt=> !decide (aag b a<0)) (fun a b c h1 h2=>by
  simp only[Bool.not_eq_true',decide_eq_false_iff_not]at h1 h2 ⊢;exact to_V.nt (c.k,c.x) (b.k,b.x) (a.k,a.x) h2 h1) (fun a b=>by
  simp only[Bool.or_eq_true,Bool.not_eq_true',decide_eq_false_iff_not];have:=to_V.flip (b.k,b.x) (a.k,a.x);simp only[aag];simp only at this;omega) l
 exact this.imp fun h=>by simpa [ltV] using h
theorem awq{l:List Stm}{c:Cs}{n:Nat}: ∀v∈yi l c n,v.c=c:=fun a ha=>by
 obtain⟨s,hs',rfl⟩:=List.mem_map.1 ha;have:=(List.mem_filter.1 hs').2;simp only[okV,Bool.and_eq_true,decide_eq_true_eq]at this;exact this.2
theorem adh(l:List Stm)(c:Cs):SS ltV (bj l c)/\∀x,x∈bj l c↔x∈yi l c l.length:=by
 have hp:=List.mergeSort_perm (yi l c l.length) fun a b:Vt=> !decide (aag b a<0);have h:=(bg4 c).kp_inv az3 (l:=a4u (yi l c l.length)) (fun x hx=>awq x (hp.mem_iff.1 hx)) (bei _) _ (Nat.le_refl _);refine⟨h.1,fun x=> ?_⟩;rw[bj,h.2,List.take_length];exact hp.mem_iff
theorem a75(l:List Stm)(c:Cs):bj l c=a81 l c l.length:=by
 obtain⟨h1,h2⟩:=adh l c;refine(bg4 c).ss_eq h1 ((bg4 c).fold_ss awq (by simp) (by simp)) fun x=> ?_;rw[h2,a81,(bg4 c).fold_mem awq (by simp)];simp
def au9(l:List Cs):List Cs:=l.mergeSort fun a b=> !decide (a3a b a<0)
def kn(l:List Stm):List Cs:=kp dd (au9 (zw l l.length)) (au9 (zw l l.length)).length
theorem a07(l:List Cs):(au9 l).Pairwise fun a b=>aaw b a=false:=by
 have:=List.pairwise_mergeSort (le:=fun a b:Cs=> !decide (a3a b a<0)) (fun a b c h1 h2=>by
  simp only[Bool.not_eq_true',decide_eq_false_iff_not]at h1 h2 ⊢;exact to_C.nt c b a h2 h1) (fun a b=>by
  simp only[Bool.or_eq_true,Bool.not_eq_true',decide_eq_false_iff_not];have:=to_C.flip b a;omega) l
 exact this.imp fun h=>by rw[yr];simpa using h
theorem a5g(l:List Stm):SS aaw (kn l)/\∀x,x∈kn l↔x∈zw l l.length:=by
 have hp:=List.mergeSort_perm (zw l l.length) fun a b:Cs=> !decide (a3a b a<0);have h:=ko_C.kp_inv axp (l:=au9 (zw l l.length)) (fun _ _=>trivial) (a07 _) _ (Nat.le_refl _);refine⟨h.1,fun x=> ?_⟩;rw[kn,h.2,List.take_length];exact hp.mem_iff
theorem av6(l:List Cs)(hl:l.length<4611686018427387904):
  Den Tryz.prog 103 [.os 1000000 l.length,.fn 104 []] [.arr 93 4 false (l.map cs)] (.tup []) [] [.arr 93 4 false ((au9 l).map cs)]:=by
 refine wh (F:=cs) (cf:=a3a) (enters_of Tryz.func103 (by kernel_rfl) rfl) hl
  (fun m enc hk h1 c hO b cap d w hcmp hH hblk hsz=>AnyQ.slices_SortFunc Tryz.sortCase 4 (fun _=>by kernel_rfl) (fun _=>by kernel_rfl) enc hk h1 c hO _ _ b 0 cap d w (enters_of Tryz.func104 (by kernel_rfl) rfl) hcmp hH hblk hsz)
  (fun p cap fv w=>AnyF.slices_SortFunc_none Tryz.sortCase p cap fv w)
  (fun x hx y hy=>a5q x y) (fun x _=>to_C.irr x) (fun x _ y _ z _=>to_C.tr x y z) (fun x _ y _ z _=>to_C.nt x y z) (fun x hx y hy h1 h2=> ?_) (List.mergeSort_perm _ _) ?_
 ·refine(to_C.eq x y).1 ?_;have:=to_C.flip y x;omega
 ·exact(a07 l).imp fun {a b} h=>by rw[yr]at h;exact of_decide_eq_false h
theorem abg(l:List Stm)(hl:l.length<=1000000)(hs: ∀s∈l,adv s):
  Den Tryz.prog 76 [.vs (l.map sm)] [] (.vs ((kn l).map cs)) [] []:=by
 refine aa Tryz.func76 rfl Tryz.call76 Tryz.ntmps76 Tryz.results76 (by simp) (by kernel_rfl) [] (exts:=[]) rfl rfl ?_;simp only[go_sem];refine da 3 99 93 4 false ?_ ?_ ?_ (by omega)
 ·refine loop Tryz.mixed 0 (fun i:Nat=>[(8,.vs (l.map sm)),(9,.int .i64 l.length),(10,.int .i64 i),(3,.os 99 (zw l i).length)]) (fun i=>[(99,.arr 93 4 false ((zw l i).map cs))]) (fun i=>i<=l.length) (fun i=>l.length - i) (by kernel_rfl) (Nat.zero_le _) ?_ ?_
  ·simp only[go_sem];exact⟨rfl,rfl⟩
  ·intro i hi;by_cases hlt:i<l.length
   ·have h1:(i:Int)<(l.length:Int):=by omega
    have hsu:=a16 hlt;have hrl:=aon l i;have hv:=ag8 (el l i) (hs _ (cj hlt));rw[kg]at hv;generalize zw l i=o at*;generalize hve:ej (el l i)=ve at*;obtain⟨w,b⟩:=ve;simp only at hsu;simp only[go_sem,h1,hlt];refine call hv [] ?_
    cases b with
    |false=>
     simp only[go_sem];refine⟨i+1,⟨by omega,by omega⟩,?_⟩;rw[hsu];simp only[Bool.false_eq_true,if_false,List.append_nil];simp only[go_sem]
     rw[ae]<;>omega
    |true=>
     rw[if_pos rfl]at hsu;simp only[go_sem];refine⟨by omega,i+1,⟨by omega,by omega⟩,?_⟩;rw[hsu];exact⟨⟨by rw[ae]<;>omega,by simp⟩,by simp[cs]⟩
   ·have h1: ¬(i:Int)<(l.length:Int):=by omega
    have:i=l.length:=by omega
    subst this;simp only[go_sem,h1];have hrl:=aon l l.length;have hvl:kn l=kp dd (au9 (zw l l.length)) (au9 (zw l l.length)).length:=rfl;rw[hvl];clear hvl;generalize zw l l.length=o at*;refine call (av6 o (by omega)) [99] ?_;have hsl:(au9 o).length=o.length:=List.length_mergeSort _;simp only[go_sem,hsl];obtain⟨new,hnl,hcc⟩:=aha (au9 o) (by simp only[big];omega);rw[hsl]at hcc hnl;refine⟨Nat.le_refl _,?_⟩;refine call hcc [99] ?_;simp only[go_sem,hsl];omega
 ·simp only[go_sem]
 ·simp only[go_sem]
theorem a6b(s:Stm):okO (ej s).1.x:=by
 simp only[ej,ofE];split
 ·exact⟨⟨by simp[noV],by simp[noV]⟩,by simp[noV],by simp[noV]⟩
 ·rename_i h;have hc:am s=0:=by simpa using h
  split
  ·refine⟨aqe hc,?_,?_⟩
   ·intro n hn;have hn':n∈s.li:=hn
    have hv:jo n=true:=by
     unfold am at hc
     repeat' split at hc
     all_goals (try (omega;done))
     rename_i h1 h2 h3 h4 h5 h6;simp only[Bool.or_eq_true,not_or]at h4;have h7:=h4.2
     cases hb:jo n with
     |true=>rfl
     |false=>exact absurd (List.any_eq_true.2 ⟨n,hn',by simp[hb]⟩) h7
    simp only[jo,inB,Bool.and_eq_true,decide_eq_true_eq]at hv;exact⟨by omega,by omega⟩
   ·intro p hp;have hp':p∈s.pins:=hp;have h3:=of_decide_eq_true (pe hc).2.2.1;obtain⟨i,hi,rfl⟩:=List.mem_iff_getElem.1 hp';have:=h3 i hi;simp only[lw,inB,el,aw,a8 hi,Option.getD_some,Bool.and_eq_true,decide_eq_true_eq]at this;obtain⟨⟨⟨a1,a2⟩,a3⟩,a4⟩:=this;exact⟨⟨by omega,by omega⟩,by omega,by omega⟩
  ·exact⟨⟨by simp[noV],by simp[noV]⟩,by simp[noV],by simp[noV]⟩
theorem bh2(k nu:Int)(c:Cs){x:Ct}(hx:ajv x):okS (vt k nu c x):=a7v _ _ _ _ (ayx c x hx)
theorem a38{l:List Stm}{c:Cs}{v:Vt}:v∈yi l c l.length↔∃s∈l,okV c s=true/\(ej s).1=v:=by
 simp only[yi,List.take_length,List.mem_map,List.mem_filter];constructor
 ·rintro⟨s,⟨h1,h2⟩,h3⟩;exact⟨s,h1,h2,h3⟩
 ·rintro⟨s,h1,h2,h3⟩;exact⟨s,⟨h1,h2⟩,h3⟩
theorem jn{l:List Stm}{c:Cs}{v:Vt}:v∈bj l c↔∃s∈l,okV c s=true/\(ej s).1=v:=by rw[(adh l c).2,a38]
theorem arg{l:List Stm}{x:Cs}:x∈kn l↔∃s∈l,(ej s).2=true/\(ej s).1.c=x:=by
 rw[(a5g l).2];simp only[zw,List.take_length,List.mem_map,List.mem_filter];constructor
 ·rintro⟨s,⟨h1,h2⟩,h3⟩;exact⟨s,h1,h2,h3⟩
 ·rintro⟨s,h1,h2,h3⟩;exact⟨s,⟨h1,h2⟩,h3⟩
theorem agm(l:List Stm)(c:Cs):(bj l c).length<=l.length:=by
 rw[a75];exact(a2k (c:=c) l.length (Nat.le_refl _)).1
theorem ra{l:List Stm}{c:Cs}: ∀y∈bj l c,okO y.x:=fun y hy=>by
 obtain⟨s,_,_,rfl⟩:=jn.1 hy;exact a6b s
theorem azt{l m:List Int}(hl:l.Nodup)(h: ∀x∈l,x∈m):l.length<=m.length:=by
 induction l generalizing m with
 |nil=>simp
 |cons a r ih=>
  obtain⟨h1,h2⟩:=List.nodup_cons.1 hl;have ha:=h a (by simp);have:=ih (m:=m.erase a) h2 fun x hx=>(List.mem_erase_of_ne (fun e:x=a=>h1 (by rw[<-e];exact hx))).2 (h x (by simp[hx]));rw[List.length_erase_of_mem ha]at this;have:=List.length_pos_of_mem ha;simp only[List.length_cons];omega
theorem a2p{seats:List Int}{v:List Vt}{x:Ct}{k:Int}:aay seats v v.length x k↔k∈seats/\∃y∈v,y.x=x/\y.k=k:=by
 unfold aay;refine and_congr_right fun _=> ?_;constructor
 ·rintro⟨a,h1,h2,h3⟩;exact⟨el v a,cj h1,h2,h3⟩
 ·rintro⟨y,hy,h2,h3⟩;obtain⟨a,ha,rfl⟩:=List.mem_iff_getElem.1 hy;exact⟨a,ha,by simpa [el,aw,ha] using h2,by simpa [el,aw,ha] using h3⟩
theorem vq(seats:List Int)(v:List Vt):CnSpec (aay seats v v.length) (cnR seats v):=aec seats v v.length (Nat.le_refl _)
theorem bix(seats:List Int):cnR seats []=[]:=rfl
end Go.Proofs.Am
