/- GWTwo. -/
import Derived.Test.YtloaichcpoboeaaGreatDoorGWOne
import Derived.Test.YtloaichcpoboeaaGreatDoorAmQT
import Derived.Test.YtloaichcpoboeaaGreatDoorCOne
set_option maxHeartbeats 1000000
set_option maxRecDepth 100000
set_option linter.unusedSimpArgs false
set_option linter.unusedVariables false
namespace Go.Proofs.Am
open Go Go.RowKit
open Go.Proofs
theorem x8(g:Gr)(lv:Int)(h1:g.ed.length<=1000)(h2:g.gone.length<=1000):Den Tryz.prog 36 [.agg (gr g),.int .i64 lv] [] (.agg (gr (bz g lv))) [] []:=by
 refine aa Tryz.func36 rfl Tryz.call36 Tryz.ntmps36 Tryz.results36 (by simp) (by kernel_rfl) [] (exts:=[]) rfl rfl ?_;have hs: ∀i,i<g.ed.length->inQ (lvB lv) g.ed (i+1)=inQ (lvB lv) g.ed i++if lvB lv (el g.ed i)=true then [el g.ed i]else []:=fun i hi=>og hi
 have hln:=ac2 (lvB lv) g.ed;have hend:inQ (lvB lv) g.ed g.ed.length=(bz g lv).ed:=by unfold inQ bz;rw[List.take_length];rfl
 have h00:inQ (lvB lv) g.ed 0=[]:=rfl;have e2:(bz g lv).sz=g.sz:=rfl;have e3:(bz g lv).gone=g.gone:=rfl;have c1:=ace g h1 h2;rw[dv]at c1;generalize inQ (lvB lv) g.ed=O at*;simp only[go_sem];refine call c1 [] ?_;simp only[go_sem];refine jf (Cv.cellLift (m:=5) (j:=1) (n:=99) (e:=36) (sz:=3) (by rfl) (by rfl) (by rfl) (by omega)) ?_;refine loop Tryz.mixed (0:Nat) (fun i:Nat=>[(1,.int .i64 lv),(2,.ptr 2 0),(4,.ptr 4 0),(5,.ptr 5 0),(6,.int .i64 i)]) (fun i=>[(2,.cells (gr g)),(4,.cells [.int .i64 0,.nils,.nils]),(5,.cells [.int .i64 g.sz,.os 99 (O i).length,.vs (g.gone.map i1)]),(99,.arr 36 3 false ((O i).map edr))]) (fun i=>i<=g.ed.length) (fun i=>g.ed.length - i) (by kernel_rfl) (Nat.zero_le _) ?_ ?_
 ·simp only[go_sem,h00,List.length_nil,List.map_nil]
 ·intro i hi;by_cases hlt:i<g.ed.length
  ·have g1:(i:Int)<(g.ed.length:Int):=by omega
   have hsu:=hs i hlt;have hl:=hln i;by_cases hk:lv<=(el g.ed i).lv
   ·have hq:lvB lv (el g.ed i)=true:=decide_eq_true hk;rw[if_pos hq]at hsu;generalize O i=o at*;simp only[go_sem,g1,hlt,hk];refine⟨by omega,ag (by kernel_rfl),i+1,⟨by omega,by omega⟩,?_⟩;rw[hsu];exact⟨by rw[ae]<;>omega,by simp,by rw[List.map_append];rfl⟩
   ·have hq:lvB lv (el g.ed i)=false:=decide_eq_false hk;rw[if_neg (by rw[hq];simp),List.append_nil]at hsu;generalize O i=o at*;simp only[go_sem,g1,hlt,hk];refine⟨i+1,⟨by omega,by omega⟩,?_⟩;rw[hsu];exact⟨by rw[ae]<;>omega,rfl,rfl⟩
  ·have g1: ¬(i:Int)<(g.ed.length:Int):=by omega
   have:i=g.ed.length:=by omega
   subst this;rw[hend];simp only[go_sem,g1,e2,e3]
def a9t(g:Gr)(S:List Int)(i:Nat):List Int:=(List.range i).map fun k:Nat=>dvl g S 1 k
theorem bci(g:Gr)(S:List Int)(k:Int):dvl g S 1 k=if(k∈S/\k∉g.gone)then 0 else -1:=by
 have h0:dvl g S 0 k= -1:=rfl;show(if 0<=dvl g S 0 k then dvl g S 0 k else if rch g S 0 k=true then((0:Nat):Int)else -1)=_;rw[h0,if_neg (by omega)];by_cases h:k∈S/\k∉g.gone
 ·rw[if_pos h,if_pos (by simp[rch,h.1,h.2])];rfl
 ·rw[if_neg h,if_neg (by simpa [rch] using h)]
theorem a2b(g:Gr)(S:List Int)(i:Nat):a9t g S (i+1)=a9t g S i++[if((i:Int)∈S/\(i:Int)∉g.gone)then 0 else -1]:=by
 unfold a9t;rw[List.range_succ,List.map_append];congr 1;show [dvl g S 1 (i:Int)]=_;rw[bci]
theorem a4s(g:Gr)(S:List Int):a9t g S g.sz.toNat=aw6 g S 0:=rfl
theorem a6m(g:Gr)(S:List Int)(i:Nat):(a9t g S i).length=i:=by simp[a9t]
theorem aq1(g:Gr)(S:List Int): ∀n,(aw6 g S n).length=g.sz.toNat
 |0=>wj _ _
 |n+1=>by
  rw[aw6]
  have: ∀(l:List Ed) (d:List Int),(l.foldl (r7 n) d).length=d.length:=fun l=>by
   induction l with
   |nil=>intro d;rfl
   |cons e l ih=>intro d;rw[List.foldl_cons,ih,aho]
  rw[this,aq1 g S n]
def zo(g:Gr)(S:List Int)(n i:Nat):List Int:=(g.ed.take i).foldl (r7 n) (aw6 g S n)
theorem ard(g:Gr)(S:List Int){n i:Nat}(h:i<g.ed.length):zo g S n (i+1)=r7 n (zo g S n i) (el g.ed i):=by
 unfold zo;rw[cu h,List.foldl_append,List.foldl_cons,List.foldl_nil]
theorem ati(g:Gr)(S:List Int)(n:Nat):zo g S n 0=aw6 g S n:=rfl
theorem awu(g:Gr)(S:List Int)(n:Nat):zo g S n g.ed.length=aw6 g S (n+1):=by
 unfold zo;rw[List.take_length];rfl
theorem a1z(g:Gr)(S:List Int)(n:Nat): ∀i,(zo g S n i).length=g.sz.toNat:=fun i=>by
 unfold zo
 have: ∀(l:List Ed) (d:List Int),(l.foldl (r7 n) d).length=d.length:=fun l=>by
  induction l with
  |nil=>intro d;rfl
  |cons e l ih=>intro d;rw[List.foldl_cons,ih,aho]
 rw[this,aq1]
theorem asl(g:Gr)(S:List Int)(hg:OkE g)(h64:g.sz<=64)(h1:g.ed.length<=1000)(h2:big g.gone.length)(h3:big S.length):Den Tryz.prog 35 [.agg (gr g),.vs (S.map i1)] [] (.os 0 (bg g S).length) [.arr 3 1 false ((bg g S).map i1)] []:=by
 refine aa Tryz.func35 rfl Tryz.call35 Tryz.ntmps35 Tryz.results35 (by simp) (by kernel_rfl) [99] (exts:=[]) rfl rfl ?_;have hlo:=hg.lo;obtain⟨n,hn⟩: ∃n:Nat,g.sz=(n:Int):=⟨g.sz.toNat,by omega⟩;have hn64:n<=64:=by omega
 have hnz:g.sz.toNat=n:=by omega
 have hE:=hg.ed;have hend:=a5i (S:=S) hg;rw[hnz]at hend;have i0:=a4s g S;rw[hnz]at i0;have isu:=a2b g S;have iln:=a6m g S;have rz:=ati g S;have rs: ∀t i,i<g.ed.length->zo g S t (i+1)=r7 t (zo g S t i) (el g.ed i):=fun t i h=>ard g S h;have re:=awu g S;have rl:=a1z g S;simp only[hnz]at rl;rw[<-hend];generalize aw6 g S=R at*;generalize zo g S=T at*;have i00:a9t g S 0=[]:=rfl;generalize a9t g S=I at*;have hRl: ∀t,(R t).length=n:=fun t=>by rw[<-rz t];exact rl t 0
 rw[dv,hn];simp only[go_sem];refine da 5 99 3 1 false ?_ ?_ ?_ (by omega)
 ·refine loop Tryz.mixed (0:Nat) (fun i:Nat=>[(1,.vs (S.map i1)),(2,.ptr 2 0),(5,.os 99 i),(6,.int .i64 i)]) (fun i=>[(2,.cells [.int .i64 n,.vs (g.ed.map edr),.vs (g.gone.map i1)]),(99,.arr 3 1 false ((I i).map i1))]) (fun i=>i<=n) (fun i=>n - i) (by kernel_rfl) (Nat.zero_le _) ?_ ?_
  ·simp only[go_sem,i00,List.map_nil]
  ·intro i hi;have hli:=iln i;by_cases hlt:i<n
   ·have g1:(i:Int)<(n:Int):=by omega
    have hsu:=isu i;have ch1:=aif S i h3;have ch2:=aif g.gone i h2;have fin: ∀v:Int,(if((i:Int)∈S/\(i:Int)∉g.gone)then(0:Int)else -1)=v->I (i+1)=I i++[v]:=fun v h=>by rw[hsu,h]
    clear hsu;generalize I i=o at*;by_cases m1:(i:Int)∈S
    ·by_cases m2:(i:Int)∈g.gone
     ·have hsu:=fin (-1) (if_neg (fun h=>h.2 m2));simp only[go_sem,g1,hli];refine⟨by omega,call ch1 [] ?_⟩;simp only[go_sem,m1];refine call ch2 [] ?_;simp only[go_sem,m2];refine⟨i+1,⟨by omega,by omega⟩,?_⟩;rw[hsu];exact⟨by rw[ae]<;>omega,by rw[List.map_append];rfl⟩
     ·have hsu:=fin 0 (if_pos ⟨m1,m2⟩);simp only[go_sem,g1,hli];refine⟨by omega,call ch1 [] ?_⟩;simp only[go_sem,m1];refine call ch2 [] ?_;simp only[go_sem,m2,hli];refine⟨by omega,by omega,i+1,⟨by omega,by omega⟩,?_⟩;rw[hsu];refine⟨by rw[ae]<;>omega,?_⟩
      have hra:cw (List.map i1 o++[[PV.int IntKind.i64 (-1)]]) i=[PV.int IntKind.i64 (-1)]:=by
       unfold cw;rw[aw,List.getElem?_append_right (by simp;omega)];simp[hli]
      rw[hra,List.map_append,List.set_append_right _ _ (by simp;omega)];simp[hli];rfl
    ·have hsu:=fin (-1) (if_neg (fun h=>m1 h.1));simp only[go_sem,g1,hli];refine⟨by omega,call ch1 [] ?_⟩;simp only[go_sem,m1];refine⟨i+1,⟨by omega,by omega⟩,?_⟩;rw[hsu];exact⟨by rw[ae]<;>omega,by rw[List.map_append];rfl⟩
   ·have g1: ¬(i:Int)<(n:Int):=by omega
    have:i=n:=by omega
    subst this;rw[i0];simp only[go_sem,g1];refine loop Tryz.mixed (0:Nat) (fun t:Nat=>[(2,.ptr 2 0),(5,.os 99 i),(7,.int .i64 t)]) (fun t=>[(2,.cells [.int .i64 i,.vs (g.ed.map edr),.vs (g.gone.map i1)]),(99,.arr 3 1 false ((R t).map i1))]) (fun t=>t<=i) (fun t=>i - t) (by kernel_rfl) (Nat.zero_le _) ?_ ?_
    ·simp only[go_sem]
    ·intro t ht;have hRt:=hRl t;by_cases hlt2:t<i
     ·have g2:(t:Int)<(i:Int):=by omega
      simp only[go_sem,g2];rw[<-rz t];refine loop Tryz.mixed (0:Nat) (fun m:Nat=>[(2,.ptr 2 0),(5,.os 99 i),(7,.int .i64 t),(8,.int .i64 m)]) (fun m=>[(2,.cells [.int .i64 i,.vs (g.ed.map edr),.vs (g.gone.map i1)]),(99,.arr 3 1 false ((T t m).map i1))]) (fun m=>m<=g.ed.length) (fun m=>g.ed.length - m) (by kernel_rfl) (Nat.zero_le _) ?_ ?_
      ·simp only[go_sem]
      ·intro m hm;have hTl:=rl t m;by_cases hlt3:m<g.ed.length
       ·have g3:(m:Int)<(g.ed.length:Int):=by omega
        have hsu:=rs t m hlt3;obtain⟨⟨f0,f1⟩,t0,t1⟩:=hE _ (dl hlt3);generalize T t m=o at*;have b1:(el g.ed m).fr.toNat<i:=by omega
        have b2:(el g.ed m).to.toNat<i:=by omega
        have b3:(el g.ed m).fr<(i:Int):=by omega
        have b4:(el g.ed m).to<(i:Int):=by omega
        have wt:IntKind.i64.wrap ((t:Int)+1)=(t:Int)+1:=by rw[ae]<;>omega
        have wm:IntKind.i64.wrap ((m:Int)+1)=((m+1:Nat):Int):=by rw[ae]<;>omega
        unfold r7 at hsu;by_cases c1:el o (el g.ed m).fr.toNat=(t:Int)
        ·by_cases c2:el o (el g.ed m).to.toNat= -1
         ·rw[if_pos ⟨c1,c2⟩]at hsu;simp only[go_sem,g3,hlt3,f0,t0,b1,b2,b3,b4,hTl,c1,c2,wt,wm];exact⟨m+1,⟨by omega,by omega⟩,rfl,by rw[hsu,List.map_set];rfl⟩
         ·rw[if_neg fun h=>c2 h.2]at hsu;simp only[go_sem,g3,hlt3,f0,t0,b1,b2,b3,b4,hTl,c1,c2,wm];exact⟨m+1,⟨by omega,by omega⟩,rfl,by rw[hsu]⟩
        ·rw[if_neg fun h=>c1 h.1]at hsu;simp only[go_sem,g3,hlt3,f0,t0,b1,b2,b3,b4,hTl,c1,wm];exact⟨m+1,⟨by omega,by omega⟩,rfl,by rw[hsu]⟩
       ·have g3: ¬(m:Int)<(g.ed.length:Int):=by omega
        have:m=g.ed.length:=by omega
        subst this;rw[re t];simp only[go_sem,g3];exact⟨t+1,⟨by omega,by omega⟩,by rw[ae]<;>omega,rfl⟩
     ·have g2: ¬(t:Int)<(i:Int):=by omega
      have:t=i:=by omega
      subst this;simp only[go_sem,g2,hRt]
 ·simp only[go_sem]
 ·simp only[go_sem]
theorem ase(K:List Int)(n:Int)(hK:big K.length):Den Tryz.prog 28 [.vs (K.map i1),.int .i64 n] [] (.bool (a15 K n)) [] []:=by
 refine aa Tryz.func28 rfl Tryz.call28 Tryz.ntmps28 Tryz.results28 (by simp) (by kernel_rfl) [] (exts:=[]) rfl rfl ?_;generalize hm:a15 K n=m;have hbad:kr K n=false->m=false:=fun h=>by rw[<-hm];unfold a15;rw[h];rfl
 have hgood:kr K n=true->m=decide (K.length<=16):=fun h=>by rw[<-hm];unfold a15;rw[h];rfl
 clear hm;simp only[go_sem];refine loop Tryz.mixed 0 (fun i:Nat=>[(0,.vs (K.map i1)),(1,.int .i64 n),(7,.vs (K.map i1)),(8,.int .i64 K.length),(9,.int .i64 i)]) (fun i=>[]) (fun i=>i<=K.length/\∀j,j<i->iq n K j=true) (fun i=>K.length - i) (by kernel_rfl) ?_ ?_ ?_
 ·simp
 ·simp only[go_sem]
 ·rintro i ⟨hi,hp⟩;by_cases hi':i<K.length
  ·have hlt:(i:Int)<(K.length:Int):=by omega
   by_cases a1:el K i<0
   ·have hq:iq n K i=false:=decide_eq_false (by omega);have hz:=hbad (fe hi' hq);simp only[go_sem,hlt,hi',a1,hz]
   by_cases a2:n<=el K i
   ·have hq:iq n K i=false:=decide_eq_false (by omega);have hz:=hbad (fe hi' hq);simp only[go_sem,hlt,hi',a1,a2,hz]
   by_cases a3:0<i
   ·have a3':(0:Int)<(i:Int):=by omega
    have e1:IntKind.i64.wrap ((i:Int) - 1)=((i - 1:Nat):Int):=by rw[ae]<;>omega
    have e2:i - 1<K.length:=by omega
    by_cases a4:el K i<=el K (i - 1)
    ·have hq:iq n K i=false:=decide_eq_false (by omega);have hz:=hbad (fe hi' hq);simp only[go_sem,hlt,hi',a1,a2,a3',e1,e2,a4,hz]
    ·have hq:iq n K i=true:=decide_eq_true (by omega);simp only[go_sem,hlt,hi',a1,a2,a3',e1,e2,a4];exact⟨i+1,⟨⟨by omega,br hp hq⟩,by omega⟩,by rw[ae]<;>omega⟩
   ·have a3': ¬(0:Int)<(i:Int):=by omega
    have hq:iq n K i=true:=decide_eq_true (by omega);simp only[go_sem,hlt,hi',a1,a2,a3'];exact⟨i+1,⟨⟨by omega,br hp hq⟩,by omega⟩,by rw[ae]<;>omega⟩
  ·have hf: ¬((i:Int)<(K.length:Int)):=by omega
   have:i=K.length:=by omega
   subst this;have hz:=hgood (ng hp);have hc:((K.length:Int)<=16)↔K.length<=16:=by omega
   simp only[go_sem,hf,hz,hc]
structure OkD(D:List Int)(n:Int):Prop where
 len:(D.length:Int)=n
 lo: ∀i,-1<=el D i
 hi: ∀i,el D i<1000
def lsU(D K:List Int)(x:Int)(i:Nat):Int:=(K.take i).foldl (uw D x) (el D x.toNat)
theorem ap0{D K:List Int}{x:Int}{i:Nat}(h:i<K.length):lsU D K x (i+1)=uw D x (lsU D K x i) (el K i):=by
 unfold lsU;rw[cu h,List.foldl_append,List.foldl_cons,List.foldl_nil]
theorem aqz(D K:List Int)(x:Int):lsU D K x 0=el D x.toNat:=rfl
theorem bb1(D K:List Int)(x:Int):lsU D K x K.length=mo D K x:=by unfold lsU;rw[List.take_length];rfl
theorem a9g{D:List Int}{n:Int}(hD:OkD D n)(K:List Int)(x:Int): ∀i,i<=K.length-> -1<=lsU D K x i/\lsU D K x i<=1010
 |0,_=>by
  have:=hD.lo x.toNat;have:=hD.hi x.toNat
  rw[aqz];omega
 |i+1,h=>by
  have ih:=a9g hD K x i (by omega);rw[ap0 (by omega)];unfold uw;split
  ·rename_i hc;have:=hD.hi (el K i).toNat;omega
  ·exact ih
theorem awc(D K:List Int)(n x:Int)(hD:OkD D n)(hn:0<=n/\n<=64)(hK:big K.length)(hk: ∀k∈K,0<=k/\k<n)(hx:0<=x/\x<n):Den Tryz.prog 31 [.vs (D.map i1),.vs (K.map i1),.int .i64 x] [] (.int .i64 (mo D K x)) [] []:=by
 refine aa Tryz.func31 rfl Tryz.call31 Tryz.ntmps31 Tryz.results31 (by simp) (by kernel_rfl) [] (exts:=[]) rfl rfl ?_;have hl:=hD.len;have lo:=hD.lo;have hi0:=hD.hi;have u0:=aqz D K x;have uS: ∀i,i<K.length->lsU D K x (i+1)=uw D x (lsU D K x i) (el K i):=fun i h=>ap0 h;have uE:=bb1 D K x;have uB:=a9g hD K x;generalize lsU D K x=U at*;have x1:x.toNat<D.length:=by omega
 have x2:x<(D.length:Int):=by omega
 have x0:=hx.1;simp only[go_sem,x0,x1,x2];rw[<-u0];refine loop Tryz.mixed (0:Nat) (fun i:Nat=>[(0,.vs (D.map i1)),(2,.int .i64 x),(7,.int .i64 (U i)),(15,.vs (K.map i1)),(16,.int .i64 K.length),(17,.int .i64 i)]) (fun i=>[]) (fun i=>i<=K.length) (fun i=>K.length - i) (by kernel_rfl) (Nat.zero_le _) ?_ ?_
 ·simp only[go_sem]
 ·intro i hi;by_cases hlt:i<K.length
  ·have g1:(i:Int)<(K.length:Int):=by omega
   have hsu:=uS i hlt;have hb:=uB i hi;obtain⟨k0,k1⟩:=hk _ (dl hlt);unfold uw at hsu;generalize U i=b at*;have d1:(el K i).toNat<D.length:=by omega
   have d2:el K i<(D.length:Int):=by omega
   have l1:=lo (el K i).toNat;have l2:=hi0 (el K i).toNat;have w2:IntKind.i64.wrap (el D (el K i).toNat+2)=el D (el K i).toNat+2:=by rw[ae]<;>omega
   by_cases c1:el K i=x
   ·rw[if_neg fun h=>h.1 c1]at hsu;simp only[go_sem,g1,hlt,c1,x0,x1,x2];exact⟨i+1,⟨by omega,by omega⟩,by rw[hsu],by rw[ae]<;>omega⟩
   by_cases c2:0<=el D (el K i).toNat
   rotate_left
   ·rw[if_neg fun h=>c2 h.2.1]at hsu;simp only[go_sem,g1,hlt,k0,d1,d2,c1,c2];exact⟨i+1,⟨by omega,by omega⟩,by rw[hsu],by rw[ae]<;>omega⟩
   by_cases c3:b<0
   ·rw[if_pos ⟨c1,c2,.inl c3⟩]at hsu;simp only[go_sem,g1,hlt,k0,d1,d2,c1,c2,c3,w2];exact⟨i+1,⟨by omega,by omega⟩,by rw[hsu],by rw[ae]<;>omega⟩
   by_cases c4:el D (el K i).toNat+2<b
   ·rw[if_pos ⟨c1,c2,.inr c4⟩]at hsu;simp only[go_sem,g1,hlt,k0,d1,d2,c1,c2,c3,w2,c4];exact⟨i+1,⟨by omega,by omega⟩,by rw[hsu],by rw[ae]<;>omega⟩
   ·rw[if_neg fun h=>by omega]at hsu;simp only[go_sem,g1,hlt,k0,d1,d2,c1,c2,c3,w2,c4];exact⟨i+1,⟨by omega,by omega⟩,by rw[hsu],by rw[ae]<;>omega⟩
  ·have g1: ¬(i:Int)<(K.length:Int):=by omega
   have:i=K.length:=by omega
   subst this;simp only[go_sem,g1,uE]
theorem a0k(g:Gr)(S:List Int)(x:Int)(h2:big g.gone.length)(h3:big S.length):Den Tryz.prog 61 [.agg (gr g),.vs (S.map i1),.int .i64 x] [] (.bool (decide (x∈S)&& !decide (x∈g.gone))) [] []:=by
 refine aa Tryz.func61 rfl Tryz.call61 Tryz.ntmps61 Tryz.results61 (by simp) (by kernel_rfl) [] (exts:=[]) rfl rfl ?_;simp only[go_sem];refine call (f9 S x h3) [] ?_;by_cases m1:x∈S
 ·simp only[go_sem,m1];refine call (f9 g.gone x h2) [] ?_;by_cases m2:x∈g.gone
  ·simp only[go_sem,m2]
  ·simp only[go_sem,m2]
 ·simp only[go_sem,m1]
theorem atc(g:Gr)(S:List Int)(x:Int)(h2:big g.gone.length)(h3:big S.length):Den Tryz.prog 60 [.int .i64 x,.ptr 1000000 0,.ptr 1000001 0] [.cells (gr g),.cells [.vs (S.map i1)]] (.bool (decide (x∈S)&& !decide (x∈g.gone))) [] [.cells (gr g),.cells [.vs (S.map i1)]]:=by
 refine aa Tryz.func60 rfl Tryz.call60 Tryz.ntmps60 Tryz.results60 (by simp) (by kernel_rfl) [] (exts:=[1000000,1000001]) rfl rfl ?_;have c:=a0k g S x h2 h3;rw[dv]at c;simp only[go_sem];refine call c [] ?_;simp only[go_sem]
def whr(p:Int->Bool)(n:Nat):List Int:=((List.range n).map fun k:Nat=>(k:Int)).filter p
theorem a8i(p:Int->Bool)(n:Nat):whr p (n+1)=whr p n++if p n=true then [(n:Int)]else []:=by
 unfold whr;rw[List.range_succ,List.map_append,List.filter_append];congr 1;simp only[List.map_cons,List.map_nil,List.filter_cons,List.filter_nil]
theorem bax(p:Int->Bool)(n:Nat):(whr p n).length<=n:=by
 unfold whr;refine Nat.le_trans (List.length_filter_le _ _) ?_;simp
theorem a09(g:Gr)(S:List Int)(n:Nat)(hn:n<=64)(h2:big g.gone.length)(h3:big S.length):Den Tryz.prog 59 [.int .i64 n,.fn 60 [.ptr 1000000 0,.ptr 1000001 0]] [.cells (gr g),.cells [.vs (S.map i1)]] (.vs ((whr (fun k=>decide (k∈S)&& !decide (k∈g.gone)) n).map i1)) [] [.cells (gr g),.cells [.vs (S.map i1)]]:=by
 refine aa Tryz.func59 rfl Tryz.call59 Tryz.ntmps59 Tryz.results59 (by simp) (by kernel_rfl) [] (exts:=[1000000,1000001]) rfl rfl ?_;obtain⟨p,hp⟩: ∃p:Int->Bool,p=fun k=>decide (k∈S)&& !decide (k∈g.gone):=⟨_,rfl⟩;have c: ∀x,Den Tryz.prog 60 [.int .i64 x,.ptr 1000000 0,.ptr 1000001 0] [.cells (gr g),.cells [.vs (S.map i1)]] (.bool (p x)) [] [.cells (gr g),.cells [.vs (S.map i1)]]:=fun x=>by rw[hp];exact atc g S x h2 h3
 rw[<-hp];clear hp;have hs:=a8i p;have hl:=bax p;have h0:whr p 0=[]:=rfl;generalize whr p=O at*;rw[dv]at c;simp only[go_sem];refine da 5 98 3 1 false ?_ ?_ ?_ (by omega)
 ·refine loop Tryz.mixed (0:Nat) (fun i:Nat=>[(1,.fn 60 [.ptr 1000000 0,.ptr 1000001 0]),(5,.os 98 (O i).length),(7,.int .i64 n),(8,.int .i64 i)]) (fun i=>[(1000000,.cells (gr g)),(1000001,.cells [.vs (S.map i1)]),(98,.arr 3 1 false ((O i).map i1))]) (fun i=>i<=n) (fun i=>n - i) (by kernel_rfl) (Nat.zero_le _) ?_ ?_
  ·simp only[go_sem,h0,List.length_nil,List.map_nil]
  ·intro i hi;by_cases hlt:i<n
   ·have g1:(i:Int)<(n:Int):=by omega
    have hsu:=hs i;have hli:=hl i;have ci:=c i;generalize p i=b at*;generalize O i=o at*;simp only[go_sem,g1];refine call ci [1000000,1000001] ?_
    cases b
    ·rw[if_neg (by simp),List.append_nil]at hsu;simp only[go_sem];refine⟨i+1,⟨by omega,by omega⟩,?_⟩;rw[hsu];exact⟨⟨rfl,by rw[ae]<;>omega⟩,rfl⟩
    ·rw[if_pos rfl]at hsu;simp only[go_sem];refine⟨by omega,i+1,⟨by omega,by omega⟩,?_⟩;rw[hsu];exact⟨⟨by simp,by rw[ae]<;>omega⟩,by rw[List.map_append];rfl⟩
   ·have g1: ¬(i:Int)<(n:Int):=by omega
    have:i=n:=by omega
    subst this;simp only[go_sem,g1]
 ·simp only[go_sem]
 ·simp only[go_sem]
theorem afe{a b:Ed}:oy a b=true↔a.fr<b.fr\/a.fr=b.fr/\a.to<b.to:=decide_eq_true_iff
theorem ab1{a b c:Ed}(h:oy a b=true)(k:oy b c=true):oy a c=true:=by
 rw[afe]at*;omega
def bkf(g:Gr)(e:Ed):Prop:=(0<=e.fr/\e.fr<g.sz)/\(0<=e.to/\e.to<g.sz)/\e.fr≠e.to/\(1<=e.lv/\e.lv<=3)/\e.fr∉g.gone/\e.to∉g.gone
theorem ey{g:Gr}:bh g=true↔(0<=g.sz/\g.sz<=64/\g.ed.length<=500)/\kr g.gone g.sz=true/\(∀e∈g.ed,bkf g e)/\g.ed.Pairwise fun a b=>oy a b=true:=by
 rw[ig];refine and_congr_right fun _=>and_congr_right fun _=> ?_;constructor
 ·intro h
  have hk: ∀i,(hi:i<g.ed.length)->bkf g g.ed[i]/\(0<i->oy (el g.ed (i - 1)) g.ed[i]=true):=fun i hi=>by
   have:=adc.1 (h i hi);have e1:el g.ed i=g.ed[i]:=by simp[el,aw,hi]
   rw[e1]at this;obtain⟨q1,q2,q3,q4,q5,q6,q7⟩:=this;exact⟨⟨q1,q2,q3,q4,q6,q7⟩,q5⟩
  refine⟨fun e he=> ?_,?_⟩
  ·obtain⟨i,hi,rfl⟩:=List.mem_iff_getElem.1 he;exact(hk i hi).1
  ·rw[List.pairwise_iff_getElem]
   have key: ∀(d i:Nat) (h1:i<g.ed.length) (h2:i+d+1<g.ed.length),oy g.ed[i] g.ed[i+d+1]=true:=fun d=>by
    induction d with
    |zero=>
     intro i h1 h2;have:=(hk (i+1) h2).2 (by omega);have e1:el g.ed (i+1 - 1)=g.ed[i]:=by simp[el,aw,h1]
     rw[e1]at this
     exact this
    |succ d ih=>
     intro i h1 h2;have h3:i+d+1<g.ed.length:=by omega
     have a:=ih i h1 h3;have:=(hk (i+(d+1)+1) h2).2 (by omega)
     have e1:el g.ed (i+(d+1)+1 - 1)=g.ed[i+d+1]:=by
      have e0:i+(d+1)+1 - 1=i+d+1:=by omega
      rw[e0];simp[el,aw,h3]
     rw[e1]at this;exact ab1 a this
   intro i j hi hj hij;obtain⟨d,rfl⟩: ∃d,j=i+d+1:=⟨j - i - 1,by omega⟩;exact key d i hi hj
 ·rintro⟨h1,h2⟩ i hi;have e1:el g.ed i=g.ed[i]:=by simp[el,aw,hi]
  refine adc.2 ?_;rw[e1];obtain⟨q1,q2,q3,q4,q6,q7⟩:=h1 _ (List.getElem_mem hi);refine⟨q1,q2,q3,q4,fun h0=> ?_,q6,q7⟩;have h3:i - 1<g.ed.length:=by omega
  have e2:el g.ed (i - 1)=g.ed[i - 1]:=by simp[el,aw,h3]
  rw[e2];exact List.pairwise_iff_getElem.1 h2 (i - 1) i h3 hi (by omega)
def mw(l:List Ed)(f t:Int):Nat:=(l.takeWhile fun a=>oy a ⟨f,t,0⟩).length
def m6(l:List Ed)(f t:Int):Bool:=decide (mw l f t<l.length/\(el l (mw l f t)).fr=f/\(el l (mw l f t)).to=t)
def aez(l:List Ed)(e:Ed):List Ed:=l.take (mw l e.fr e.to)++e::l.drop (mw l e.fr e.to)
def vc(g:Gr)(e:Ed):Int:=
 if bh g=false then 14 else if e.fr<0\/g.sz<=e.fr\/e.to<0\/g.sz<=e.to\/e.fr=e.to\/e.fr∈g.gone\/e.to∈g.gone then 4 else if e.lv<1\/3<e.lv then 2 else if m6 g.ed e.fr e.to=true then 19 else if g.ed.length=500 then 3 else 0
def zb(g:Gr)(e:Ed):Gr:=⟨g.sz,aez g.ed e,g.gone⟩
theorem zf(l:List Ed)(f t:Int):mw l f t<=l.length:=by
 unfold mw;exact(List.takeWhile_sublist _).length_le
theorem a2c(l:List Ed)(f t:Int):l.take (mw l f t)=l.takeWhile fun a=>oy a ⟨f,t,0⟩:=by
 unfold mw;exact(List.prefix_iff_eq_take.1 (List.takeWhile_prefix _)).symm
theorem ph{l:List Ed}{f t:Int}{i:Nat}(h:i<mw l f t):oy (el l i) ⟨f,t,0⟩=true:=by
 have hl:=zf l f t
 have hm:el l i∈l.take (mw l f t):=by
  rw[List.mem_take_iff_getElem];exact⟨i,by omega,by simp[el,aw,show i<l.length by omega]⟩
 rw[a2c]at hm;have:=List.all_takeWhile (p:=fun a=>oy a ⟨f,t,0⟩) (l:=l);exact List.all_eq_true.1 this _ hm
theorem kx{α:Type}{p:α->Bool}: ∀{l:List α} {x:α} {r:List α},l.drop (l.takeWhile p).length=x::r->p x=false
 |[],x,r,h=>by simp at h
 |a::l,x,r,h=>by
  cases hp:p a with
  |true=>
   rw[List.takeWhile_cons,if_pos hp,List.length_cons,List.drop_succ_cons]at h
   exact kx h
  |false=>
   rw[List.takeWhile_cons,if_neg (by simp[hp])]at h;simp at h;rw[<-h.1];exact hp
theorem xz{l:List Ed}{f t:Int}(h:mw l f t<l.length):oy (el l (mw l f t)) ⟨f,t,0⟩=false:=by
 have h1:l.drop (mw l f t)=el l (mw l f t)::l.drop (mw l f t+1):=by
  rw[List.drop_eq_getElem_cons h];congr 1;simp[el,aw,h]
 exact kx (p:=fun a=>oy a ⟨f,t,0⟩) (l:=l) h1
theorem wx(l:List Ed)(e:Ed):(aez l e).length=l.length+1:=by
 have:=zf l e.fr e.to;simp only[aez,List.length_append,List.length_cons,List.length_take,List.length_drop];omega
theorem an5{l:List Ed}{e x:Ed}:x∈aez l e↔x=e\/x∈l:=by
 unfold aez;rw[List.mem_append,List.mem_cons];constructor
 ·rintro(h|h|h)
  ·exact .inr (List.mem_of_mem_take h)
  ·exact .inl h
  ·exact .inr (List.mem_of_mem_drop h)
 ·rintro(h|h)
  ·exact .inr (.inl h)
  ·rw[<-List.take_append_drop (mw l e.fr e.to) l,List.mem_append]at h;rcases h with h|h
   ·exact .inl h
   ·exact .inr (.inr h)
theorem bdl{l:List Ed}{e:Ed}(h:l.Pairwise fun a b=>oy a b=true)(ht:m6 l e.fr e.to=false):(aez l e).Pairwise fun a b=>oy a b=true:=by
 unfold aez;rw[<-List.take_append_drop (mw l e.fr e.to) l]at h;obtain⟨h1,h2,h3⟩:=List.pairwise_append.1 h
 have hb: ∀a∈l.take (mw l e.fr e.to),oy a e=true:=fun a ha=>by
  obtain⟨i,hi,rfl⟩:=List.mem_take_iff_getElem.1 ha;have:=ph (l:=l) (f:=e.fr) (t:=e.to) (i:=i) (by omega);have e1:el l i=l[i]:=by simp[el,aw,show i<l.length by omega]
  rw[e1]at this;rw[afe]at*;exact this
 have ha: ∀b∈l.drop (mw l e.fr e.to),oy e b=true:=fun b hbm=>by
  have hlt:mw l e.fr e.to<l.length:=by
   have:=List.length_pos_of_mem hbm;rw[List.length_drop]at this;omega
  have h4:=xz hlt;have h5:=of_decide_eq_false ht
  have h6:oy e (el l (mw l e.fr e.to))=true:=by
   have h7: ¬(oy (el l (mw l e.fr e.to)) ⟨e.fr,e.to,0⟩=true):=by rw[h4];simp
   rw[afe]at*;simp only at h7;have: ¬((el l (mw l e.fr e.to)).fr=e.fr/\(el l (mw l e.fr e.to)).to=e.to):=fun h=>h5 ⟨hlt,h⟩;omega
  have h8:l.drop (mw l e.fr e.to)=el l (mw l e.fr e.to)::l.drop (mw l e.fr e.to+1):=by
   rw[List.drop_eq_getElem_cons hlt];congr 1;simp[el,aw,hlt]
  rw[h8]at hbm h2;rcases List.mem_cons.1 hbm with rfl|hbm
  ·exact h6
  ·exact ab1 h6 ((List.pairwise_cons.1 h2).1 b hbm)
 refine List.pairwise_append.2 ⟨h1,List.pairwise_cons.2 ⟨ha,h2⟩,fun a ham b hbm=> ?_⟩;rcases List.mem_cons.1 hbm with rfl|hbm
 ·exact hb a ham
 ·exact h3 a ham b hbm
theorem aoz{g:Gr}{e:Ed}(hg:bh g=true)(h:vc g e=0):bh (zb g e)=true:=by
 obtain⟨⟨a1,a2,a3⟩,b,c,d⟩:=ey.1 hg;unfold vc at h;rw[if_neg (by simp[hg])]at h;split at h
 ·omega
 rename_i h1;split at h
 ·omega
 rename_i h2;split at h
 ·omega
 rename_i h3;split at h
 ·omega
 rename_i h4;have h3:m6 g.ed e.fr e.to=false:=by simpa using h3
 refine ey.2 ⟨⟨a1,a2,?_⟩,b,fun x hx=> ?_,bdl d h3⟩
 ·show(aez g.ed e).length<=500;rw[wx];omega
 ·rcases an5.1 hx with rfl|hx
  ·have hz:(zb g x).sz=g.sz:=rfl;have hgo:(zb g x).gone=g.gone:=rfl;unfold bkf;rw[hz,hgo];exact⟨⟨by omega,by omega⟩,⟨by omega,by omega⟩,fun h=>h1 (.inr (.inr (.inr (.inr (.inl h))))),⟨by omega,by omega⟩,fun h=>h1 (.inr (.inr (.inr (.inr (.inr (.inl h)))))),fun h=>h1 (.inr (.inr (.inr (.inr (.inr (.inr h))))))⟩
  ·exact c x hx
theorem yp(g:Gr)(f t:Int)(h1:big g.ed.length):Den Tryz.prog 53 [.agg (gr g),.int .i64 f,.int .i64 t] [] (.tup [.int .i64 (mw g.ed f t),.bool (m6 g.ed f t)]) [] []:=by
 refine aa Tryz.func53 rfl Tryz.call53 Tryz.ntmps53 Tryz.results53 (by simp) (by kernel_rfl) [] (exts:=[]) rfl rfl ?_;have hle:=zf g.ed f t;have hb:=fun i=>ph (l:=g.ed) (f:=f) (t:=t) (i:=i);have hst:=xz (l:=g.ed) (f:=f) (t:=t);unfold m6;generalize mw g.ed f t=k at*;simp only[go_sem];refine loop Tryz.mixed 0 (fun i:Nat=>[(1,.int .i64 f),(2,.int .i64 t),(3,.ptr 3 0),(8,.int .i64 i)]) (fun i=>[(3,.cells (gr g))]) (fun i=>i<=k) (fun i=>k - i) (by kernel_rfl) (Nat.zero_le _) ?_ ?_
 ·simp only[go_sem]
 ·intro i hi;have cB:=bf9 (el g.ed i) ⟨f,t,0⟩;rw[kz,kz]at cB;by_cases hlt:i<g.ed.length
  ·have g1:(i:Int)<(g.ed.length:Int):=by omega
   by_cases hk:i<k
   ·rw[hb i hk]at cB;simp only[go_sem,g1,hlt];refine call cB [] ?_;simp only[go_sem];exact⟨i+1,⟨by omega,by omega⟩,by rw[ae]<;>omega⟩
   ·have:i=k:=by omega
    subst this;rw[hst hlt]at cB;simp only[go_sem,g1,hlt];refine call cB [] ?_;by_cases c1:(el g.ed i).fr=f
    ·by_cases c2:(el g.ed i).to=t
     ·have e:decide (i<g.ed.length/\(el g.ed i).fr=f/\(el g.ed i).to=t)=true:=decide_eq_true ⟨hlt,c1,c2⟩;subst c1 c2;simp only[go_sem,g1,hlt,e];exact ag (by kernel_rfl)
     ·have e:decide (i<g.ed.length/\(el g.ed i).fr=f/\(el g.ed i).to=t)=false:=decide_eq_false fun h=>c2 h.2.2;subst c1;simp only[go_sem,g1,hlt,c2,e];exact ag (by kernel_rfl)
    ·have e:decide (i<g.ed.length/\(el g.ed i).fr=f/\(el g.ed i).to=t)=false:=decide_eq_false fun h=>c1 h.2.1;simp only[go_sem,g1,hlt,c1,e];exact ag (by kernel_rfl)
  ·have g1: ¬(i:Int)<(g.ed.length:Int):=by omega
   have:i=k:=by omega
   subst this;have e:decide (i<g.ed.length/\(el g.ed i).fr=f/\(el g.ed i).to=t)=false:=decide_eq_false fun h=>hlt h.1;simp only[go_sem,g1,e];exact ag (by kernel_rfl)
structure OkEd(g:Gr)(e:Ed):Prop where
 ok:bh g=true
 f0:0<=e.fr
 f1:e.fr<g.sz
 t0:0<=e.to
 t1:e.to<g.sz
 l0:1<=e.lv
 l1:e.lv<=3
 n:g.ed.length<500
theorem apt{g:Gr}{e:Ed}(h:OkEd g e):vc g e=if e.fr=e.to\/e.fr∈g.gone\/e.to∈g.gone then 4 else if m6 g.ed e.fr e.to=true then 19 else 0:=by
 obtain⟨g0,f0,f1,t0,t1,l0,l1,n⟩:=h;unfold vc;rw[if_neg (by simp[g0])];by_cases hc:e.fr=e.to\/e.fr∈g.gone\/e.to∈g.gone
 ·rw[if_pos hc,if_pos];rcases hc with h|h|h
  ·simp[h]
  ·simp[h]
  ·simp[h]
 ·rw[if_neg hc,if_neg (fun h=>hc (by rcases h with h|h|h|h|h<;>first|omega|exact h)),if_neg (by omega),if_neg (by omega: ¬g.ed.length=500)]
theorem azy(g:Gr)(e:Ed)(h2:big g.gone.length)(ho:OkEd g e)(he:vc g e≠0):Den Tryz.prog 24 [.agg (gr g),.agg (edr e)] [] (.tup [.agg [.int .i64 0,.vs [],.vs []],.int .i64 (vc g e)]) [] []:=by
 refine aa Tryz.func24 rfl Tryz.call24 Tryz.ntmps24 Tryz.results24 (by simp) (by kernel_rfl) [] (exts:=[]) rfl rfl ?_;have hn:=ho.n;have c1:=ac5 g (by simp only[big];omega) h2;rw[ho.ok]at c1;have c2:=yp g e.fr e.to (by simp only[big];omega);have c3:=aif g.gone e.fr h2;have c4:=aif g.gone e.to h2;have hm:=apt ho;obtain⟨_,f0,f1,t0,t1,l0,l1,_⟩:=ho;generalize vc g e=m at*;rw[dv]at c1 c2;have g1: ¬e.fr<0:=by omega
 have g2: ¬g.sz<=e.fr:=by omega
 have g3: ¬e.to<0:=by omega
 have g4: ¬g.sz<=e.to:=by omega
 have g5: ¬e.lv<1:=by omega
 have g6: ¬3<e.lv:=by omega
 simp only[go_sem];refine call c1 [] ?_;simp only[go_sem];refine call c2 [] ?_;generalize mw g.ed e.fr e.to=k at*;generalize m6 g.ed e.fr e.to=th at*;by_cases q1:e.fr=e.to
 ·rw[if_pos (.inl q1)]at hm;rw[<-q1]at g3 g4;simp only[go_sem,g1,g2,g3,g4,q1,hm]
 by_cases q2:e.fr∈g.gone
 ·rw[if_pos (.inr (.inl q2))]at hm;simp only[go_sem,g1,g2,g3,g4,q1];refine call c3 [] ?_;simp only[go_sem,q2,hm]
 by_cases q3:e.to∈g.gone
 ·rw[if_pos (.inr (.inr q3))]at hm;simp only[go_sem,g1,g2,g3,g4,q1];refine call c3 [] ?_;simp only[go_sem,q2];refine call c4 [] ?_;simp only[go_sem,q3,hm]
 rw[if_neg (by simp[q1,q2,q3])]at hm;simp only[go_sem,g1,g2,g3,g4,q1];refine call c3 [] ?_;simp only[go_sem,q2];refine call c4 [] ?_
 cases th
 ·rw[if_neg (by simp)]at hm;exact absurd hm he
 ·rw[if_pos rfl]at hm;simp only[go_sem,q3,g5,g6,hm]
theorem a01(g:Gr)(e:Ed)(h2:g.gone.length<=1000)(ho:OkEd g e)(he:vc g e=0):Den Tryz.prog 24 [.agg (gr g),.agg (edr e)] [] (.tup [.ago [.int .i64 g.sz,.os 0 (aez g.ed e).length,.vs (g.gone.map i1)],.int .i64 0]) [.arr 36 3 false ((aez g.ed e).map edr)] []:=by
 refine aa Tryz.func24 rfl Tryz.call24 Tryz.ntmps24 Tryz.results24 (by simp) (by kernel_rfl) [92] (exts:=[]) rfl rfl ?_;have hn:=ho.n;have c1:=ac5 g (by simp only[big];omega) (by simp only[big];omega);rw[ho.ok]at c1;have c2:=yp g e.fr e.to (by simp only[big];omega);have c3:=aif g.gone e.fr (by simp only[big];omega);have c4:=aif g.gone e.to (by simp only[big];omega);have c5:=ace g (by omega) h2;have hm:=apt ho;rw[he]at hm;obtain⟨_,f0,f1,t0,t1,l0,l1,_⟩:=ho;have hk:=zf g.ed e.fr e.to;have hI:aez g.ed e=g.ed.take (mw g.ed e.fr e.to)++e::g.ed.drop (mw g.ed e.fr e.to):=rfl;have hl:=wx g.ed e;generalize aez g.ed e=I at*;rw[dv]at c1 c2 c5;have g1: ¬e.fr<0:=by omega
 have g2: ¬g.sz<=e.fr:=by omega
 have g3: ¬e.to<0:=by omega
 have g4: ¬g.sz<=e.to:=by omega
 have g5: ¬e.lv<1:=by omega
 have g6: ¬3<e.lv:=by omega
 have g7: ¬(g.ed.length:Int)=500:=by omega
 simp only[go_sem];refine call c1 [] ?_;simp only[go_sem];refine call c2 [] ?_;generalize mw g.ed e.fr e.to=k at*;generalize m6 g.ed e.fr e.to=th at*;by_cases q1:e.fr=e.to
 ·rw[if_pos (.inl q1)]at hm;omega
 by_cases q2:e.fr∈g.gone
 ·rw[if_pos (.inr (.inl q2))]at hm;omega
 by_cases q3:e.to∈g.gone
 ·rw[if_pos (.inr (.inr q3))]at hm;omega
 rw[if_neg (by simp[q1,q2,q3])]at hm
 cases th
 rotate_left
 ·rw[if_pos rfl]at hm;omega
 have hk2:(k:Int)<=(g.ed.length:Int):=by omega
 simp only[go_sem,g1,g2,g3,g4,q1];refine call c3 [] ?_;simp only[go_sem,q2];refine call c4 [] ?_;simp only[go_sem,q3,g5,g6,g7];refine call c5 [] ?_;simp only[go_sem,hk2];have hlI:I.length=(g.ed.take k).length+1+(g.ed.drop k).length:=by rw[hI,List.length_append,List.length_cons];omega
 have hmI:I.map edr=(g.ed.take k).map edr++[[.int .i64 e.fr,.int .i64 e.to,.int .i64 e.lv]]++(g.ed.drop k).map edr:=by rw[hI,List.map_append,List.map_cons,List.append_assoc];rfl
 simp only[List.take_length];rw[hmI,hlI];have t1:(g.ed.take k).length<=500:=by rw[List.length_take];omega
 have t2:(g.ed.drop k).length<=500:=by rw[List.length_drop];omega
 exact⟨Nat.le_refl _,by omega,by omega,⟨Nat.le_refl _,Nat.le_refl _⟩,by omega,ag (by kernel_rfl),rfl,rfl⟩
def aaq(l:List Int)(sz:Int)(p:Nat):Ed:=⟨ai l p sz,ai l (dgo l p 1) sz,1+ai l (dgo l p 2) 3⟩
def aeu(l:List Int)(s:Gr×Nat):Gr×Nat:=(if vc s.1 (aaq l s.1.sz s.2)=0 then zb s.1 (aaq l s.1.sz s.2)else s.1,dgo l s.2 3)
def a4g(l:List Int):Nat->Gr×Nat->Gr×Nat
 |0,s=>s
 |n+1,s=>a4g l n (aeu l s)
def gSz(l:List Int)(p:Nat):Int:=if l.length=0 then 4 else 2+ai l p 8
def bhn(l:List Int)(p:Nat):Bool:=decide (ai l (dgo l p 1) 8=7)
def po(l:List Int)(p:Nat):Gr×Nat:=if bhn l p=true then(⟨gSz l p,[],[ai l (dgo l p 2) (gSz l p)]⟩,dgo l p 3)else(⟨gSz l p,[],[]⟩,dgo l p 2)
def a3g(l:List Int)(p:Nat):Nat:=(ai l (po l p).2 23).toNat
def mgr(l:List Int)(p:Nat):Gr×Nat:=a4g l (a3g l p) ((po l p).1,dgo l (po l p).2 1)
theorem aqh(l:List Int)(p:Nat):2<=gSz l p/\gSz l p<=9:=by
 unfold gSz;have:=bi (l:=l) (p:=p) (n:=8) (by omega);split<;>omega
theorem adr{x n:Int}(h:0<=x/\x<n):kr [x] n=true:=c7.2 ⟨fun y hy=>by simp at hy;omega,by simp⟩
theorem akv{l:List Int}{p:Nat}:bh (po l p).1=true/\(po l p).1.sz=gSz l p/\(po l p).1.ed=[]/\(po l p).1.gone.length<=1:=by
 have hz:=aqh l p;unfold po;split
 ·refine⟨ey.2 ⟨⟨by show 0<=gSz l p;omega,by show gSz l p<=64;omega,by simp⟩,adr (bi (by omega)),by simp,by simp⟩,rfl,rfl,by simp⟩
 ·refine⟨ey.2 ⟨⟨by show 0<=gSz l p;omega,by show gSz l p<=64;omega,by simp⟩,rfl,by simp,by simp⟩,rfl,rfl,by simp⟩
structure GI(g:Gr)(sz:Int)(gone:List Int)(k:Nat):Prop where
 ok:bh g=true
 sz:g.sz=sz
 gone:g.gone=gone
 len:g.ed.length<=k
theorem afg{l:List Int}{s:Gr×Nat}{sz:Int}{gone:List Int}{k:Nat}(h:GI s.1 sz gone k):GI (aeu l s).1 sz gone (k+1):=by
 unfold aeu;simp only;split
 ·rename_i he;exact⟨aoz h.ok he,h.sz,h.gone,by show(aez _ _).length<=_;rw[wx];have:=h.len;omega⟩
 ·exact⟨h.ok,h.sz,h.gone,by have:=h.len;omega⟩
theorem a2w{l:List Int}{sz:Int}{gone:List Int}: ∀(n:Nat) {s:Gr×Nat} {k:Nat},GI s.1 sz gone k->GI (a4g l n s).1 sz gone (k+n)
 |0,_,_,h=>h
 |n+1,s,k,h=>by
  have:=a2w (l:=l) n (afg (l:=l) h);rw[a4g,show k+(n+1)=k+1+n by omega];exact this
theorem axw(l:List Int)(p:Nat):a3g l p<=22:=by
 unfold a3g;have:=bi (l:=l) (p:=(po l p).2) (n:=23) (by omega);omega
theorem axd(l:List Int)(p:Nat):GI (mgr l p).1 (gSz l p) (po l p).1.gone 22:=by
 obtain⟨a,b,c,_⟩:=akv (l:=l) (p:=p);have:=a2w (l:=l) (a3g l p) (s:=((po l p).1,dgo l (po l p).2 1)) (k:=0) (sz:=gSz l p) (gone:=(po l p).1.gone) ⟨a,b,rfl,by show(po l p).1.ed.length<=0;rw[c];simp⟩;have hn:=axw l p;exact⟨this.ok,this.sz,this.gone,by have h9:(mgr l p).1.ed.length<=0+a3g l p:=this.len;omega⟩
def ur(l:List Int)(x:Int):Nat:=(l.takeWhile fun a=>decide (a<x)).length
def aah(l:List Int)(x:Int):List Int:=if ur l x<l.length/\el l (ur l x)=x then l else l.take (ur l x)++x::l.drop (ur l x)
theorem bbd(a x:Int):aah [a] x=if a<x then [a,x]else if a=x then [a]else [x,a]:=by
 unfold aah ur;by_cases h:a<x
 ·rw[if_pos h];simp[List.takeWhile_cons,h]
 ·rw[if_neg h];by_cases h2:a=x
  ·subst h2;simp[List.takeWhile_cons,el]
  ·simp[List.takeWhile_cons,h,el,h2]
def rr(l:List Int):Nat->Nat->Int->List Int
 |0,_,_=>[]
 |n+1,p,last=>last::rr l n (dgo l p 1) (max 1 (last - ai l p 3))
def qd(l:List Int)(sz:Int)(p:Nat):List Int:=if ai l (dgo l p 2) 3=2 then aah [ai l p sz] (ai l (dgo l p 3) sz)else [ai l p sz]
def pAt(l:List Int)(p:Nat):Nat:=if ai l (dgo l p 2) 3=2 then dgo l p 4 else dgo l p 3
def ov(l:List Int)(p:Nat):Int:=1+el [3,2,1,6,0] (ai l (pAt l p) 5).toNat
def ahp(l:List Int)(p:Nat):Nat:=(1+ai l (dgo l (pAt l p) 1) 4).toNat
def a56(l:List Int)(sz:Int)(p:Nat):Pol:=⟨qd l sz p,rr l (ahp l p) (dgo l (pAt l p) 2) (ov l p),el [1,1,2,3] (ai l (dgo l p 1) 4).toNat⟩
def ayr(l:List Int)(p:Nat):Nat:=dgo l (pAt l p) (2+ahp l p)
theorem awv(l:List Int): ∀(n p:Nat) (last:Int),1<=last->(rr l n p last).length=n/\(∀c∈rr l n p last,1<=c/\c<=last)/\(rr l n p last).Pairwise fun a b=>b<=a
 |0,_,_,_=>⟨rfl,by simp[rr],by simp[rr]⟩
 |n+1,p,last,h=>by
  have h3:=bi (l:=l) (p:=p) (n:=3) (by omega);have hm:max 1 (last - ai l p 3)<=last:=by omega
  obtain⟨a,b,c⟩:=awv l n (dgo l p 1) (max 1 (last - ai l p 3)) (by omega);refine⟨by rw[rr,List.length_cons,a],fun x hx=> ?_,?_⟩
  ·rw[rr]at hx;rcases List.mem_cons.1 hx with rfl|hx
   ·omega
   ·have:=b x hx;omega
  ·rw[rr];refine List.pairwise_cons.2 ⟨fun x hx=> ?_,c⟩;have:=b x hx;omega
theorem el5{n:Nat}(h:n<5):0<=el [(3:Int),2,1,6,0] n/\el [(3:Int),2,1,6,0] n<=6:=by
 match n,h with
 |0,_=>decide
 |1,_=>decide
 |2,_=>decide
 |3,_=>decide
 |4,_=>decide
theorem el4{n:Nat}(h:n<4):1<=el [(1:Int),1,2,3] n/\el [(1:Int),1,2,3] n<=3:=by
 match n,h with
 |0,_=>decide
 |1,_=>decide
 |2,_=>decide
 |3,_=>decide
theorem ap8(l:List Int)(p:Nat):1<=ov l p/\ov l p<=7:=by
 unfold ov;have h:=bi (l:=l) (p:=pAt l p) (n:=5) (by omega);have:=el5 (n:=(ai l (pAt l p) 5).toNat) (by omega);omega
theorem a0i(l:List Int)(p:Nat):1<=ahp l p/\ahp l p<=4:=by
 unfold ahp;have h:=bi (l:=l) (p:=dgo l (pAt l p) 1) (n:=4) (by omega);omega
theorem agi(l:List Int){sz:Int}(p:Nat)(h:0<sz):kr (qd l sz p) sz=true/\0<(qd l sz p).length/\(qd l sz p).length<=2:=by
 have h1:=bi (l:=l) (p:=p) (n:=sz) h;have h2:=bi (l:=l) (p:=dgo l p 3) (n:=sz) h;unfold qd;split
 ·rw[bbd];split
  ·refine⟨c7.2 ⟨fun x hx=>by simp at hx;omega,by simp;omega⟩,by simp,by simp⟩
  ·split
   ·exact⟨adr h1,by simp,by simp⟩
   ·refine⟨c7.2 ⟨fun x hx=>by simp at hx;omega,by simp;omega⟩,by simp,by simp⟩
 ·exact⟨adr h1,by simp,by simp⟩
theorem azg(l:List Int){sz:Int}(p:Nat)(h:0<sz):i9 sz (a56 l sz p)=true:=by
 obtain⟨s1,s2,s3⟩:=agi l p h;have hb:=ap8 l p;have hn:=a0i l p;obtain⟨t1,t2,t3⟩:=awv l (ahp l p) (dgo l (pAt l p) 2) (ov l p) hb.1;have hv:=el4 (n:=(ai l (dgo l p 1) 4).toNat) (by have:=bi (l:=l) (p:=dgo l p 1) (n:=4) (by omega);omega);unfold i9;simp only[Bool.and_eq_true,decide_eq_true_eq];refine⟨s2,s1,⟨by show 1<=(rr _ _ _ _).length;omega,by show(rr _ _ _ _).length<=8;omega,hv.1,hv.2⟩,qk.2 fun i hi=> ?_⟩;have hi':i<(rr l (ahp l p) (dgo l (pAt l p) 2) (ov l p)).length:=hi;refine decide_eq_true ?_;show 1<=el (rr _ _ _ _) i/\el (rr _ _ _ _) i<=1000/\(0<i->el (rr _ _ _ _) i<=el (rr _ _ _ _) (i - 1));have e1:el (rr l (ahp l p) (dgo l (pAt l p) 2) (ov l p)) i=(rr l (ahp l p) (dgo l (pAt l p) 2) (ov l p))[i]:=by simp[el,aw,hi']
 rw[e1];have:=t2 _ (List.getElem_mem hi');refine⟨this.1,by omega,fun h0=> ?_⟩;have h3:i - 1<(rr l (ahp l p) (dgo l (pAt l p) 2) (ov l p)).length:=by omega
 have e2:el (rr l (ahp l p) (dgo l (pAt l p) 2) (ov l p)) (i - 1)=(rr l (ahp l p) (dgo l (pAt l p) 2) (ov l p))[i - 1]:=by simp[el,aw,h3]
 rw[e2];exact List.pairwise_iff_getElem.1 t3 (i - 1) i h3 hi' (by omega)
theorem a5m(l:List Int)(p q:Nat):qr (mgr l p).1 (a56 l (gSz l p) q)=0:=by
 have h1:=(axd l p).ok;have h2:=(axd l p).sz;have hz:=aqh l p;unfold qr;rw[if_neg (by simp[h1]),h2,if_neg (by rw[azg l q (by omega)];simp)]
theorem aim(l:List Int)(x:Int)(h:l.length<=1000):Den Tryz.prog 26 [.vs (l.map i1),.int .i64 x] [] (.vs ((aah l x).map i1)) [] []:=by
 refine aa Tryz.func26 rfl Tryz.call26 Tryz.ntmps26 Tryz.results26 (by simp) (by kernel_rfl) [] (exts:=[]) rfl rfl ?_
 have hle:ur l x<=l.length:=by
  unfold ur;exact(List.takeWhile_sublist _).length_le
 have hb: ∀i,i<ur l x->el l i<x:=fun i hi=>by
  have hm:el l i∈l.takeWhile fun a=>decide (a<x):=by
   have e:l.takeWhile (fun a=>decide (a<x))=l.take (ur l x):=List.prefix_iff_eq_take.1 (List.takeWhile_prefix _);rw[e,List.mem_take_iff_getElem];exact⟨i,by omega,by simp[el,aw,show i<l.length by omega]⟩
  have:=List.all_eq_true.1 (List.all_takeWhile (p:=fun a=>decide (a<x)) (l:=l)) _ hm;exact of_decide_eq_true this
 have hst:ur l x<l.length->¬el l (ur l x)<x:=fun hlt=>by
  have h1:l.drop (ur l x)=el l (ur l x)::l.drop (ur l x+1):=by
   rw[List.drop_eq_getElem_cons hlt];congr 1;simp[el,aw,hlt]
  exact of_decide_eq_false (kx (p:=fun a=>decide (a<x)) (l:=l) h1)
 unfold aah;generalize ur l x=k at*;simp only[go_sem];refine loop Tryz.mixed 0 (fun i:Nat=>[(0,.vs (l.map i1)),(1,.int .i64 x),(5,.int .i64 i)]) (fun i=>[]) (fun i=>i<=k) (fun i=>k - i) (by kernel_rfl) (Nat.zero_le _) ?_ ?_
 ·simp only[go_sem]
 ·intro i hi;by_cases hk:i<k
  ·have g0:i<l.length:=by omega
   have g1:(i:Int)<(l.length:Int):=by omega
   have g2:=hb i hk;simp only[go_sem,g0,g1,g2];exact⟨i+1,⟨by omega,by omega⟩,by rw[ae]<;>omega⟩
  have:i=k:=by omega
  subst this;by_cases g0:i<l.length
  ·have g1:(i:Int)<(l.length:Int):=by omega
   have g2:=hst g0;by_cases g3:el l i=x
   ·have e:(i<l.length/\el l i=x):=⟨g0,g3⟩;rw[if_pos e];have g4: ¬x<x:=by omega
    simp only[go_sem,g0,g1,g2,g3,g4];omega
   ·have e: ¬(i<l.length/\el l i=x):=fun h=>g3 h.2;rw[if_neg e];simp only[go_sem,g0,g1,g2,g3];refine⟨⟨by omega,by omega⟩,by rw[List.length_take];omega,by rw[List.length_take];omega,⟨by omega,by omega,by omega⟩,by rw[List.length_take,List.length_drop,List.length_take];omega,ag (by kernel_rfl),?_⟩;rw[List.take_length,List.map_append,List.map_cons,List.append_assoc];rfl
  ·have g1: ¬(i:Int)<(l.length:Int):=by omega
   have e: ¬(i<l.length/\el l i=x):=fun h=>g0 h.1;rw[if_neg e];simp only[go_sem,g0,g1];refine⟨⟨by omega,by omega⟩,by rw[List.length_take];omega,by rw[List.length_take];omega,⟨by omega,by omega,by omega⟩,by rw[List.length_take,List.length_drop,List.length_take];omega,ag (by kernel_rfl),?_⟩;rw[List.take_length,List.map_append,List.map_cons,List.append_assoc];rfl
theorem ark(l:List Int)(p:Nat)(hl:big l.length)(hp:p<=l.length):Den Tryz.prog 9 [.ptr 1000000 0] [vp l p] (.ago [.int .i64 (mgr l p).1.sz,.os 0 (mgr l p).1.ed.length,.vs ((mgr l p).1.gone.map i1)]) [.arr 36 3 true ((mgr l p).1.ed.map edr)] [vp l (mgr l p).2]:=by
 refine aa Tryz.func9 rfl Tryz.call9 Tryz.ntmps9 Tryz.results9 (by simp) (by kernel_rfl) [99] (exts:=[1000000]) rfl rfl ?_;have hz:=aqh l p;have hzd:gSz l p=if l.length=0 then 4 else 2+ai l p 8:=rfl
 have h8:=bi (l:=l) (p:=p) (n:=8) (by omega);have w2:IntKind.i64.wrap (2+ai l p 8)=2+ai l p 8:=by rw[ae]<;>omega
 have e0:ob l p=dgo l p 1:=rfl;have e1:ob l (dgo l p 1)=dgo l p 2:=rfl;have e2:ob l (dgo l p 2)=dgo l p 3:=rfl;have hp1:=dm hp 1;have hp2:=dm hp 2;have hp3:=dm hp 3;have hone:bhn l p=decide (ai l (dgo l p 1) 8=7):=rfl;have hB:=akv (l:=l) (p:=p);have hbd:po l p=if bhn l p=true then(⟨gSz l p,[],[ai l (dgo l p 2) (gSz l p)]⟩,dgo l p 3)else(⟨gSz l p,[],[]⟩,dgo l p 2):=rfl
 have hnm:=axw l p;have hnd:a3g l p=(ai l (po l p).2 23).toNat:=rfl;have hM:mgr l p=a4g l (a3g l p) ((po l p).1,dgo l (po l p).2 1):=rfl;have h23:=bi (l:=l) (p:=(po l p).2) (n:=23) (by omega);generalize hMM:mgr l p=M at*;have c8:=bt l p 8 hl hp (by omega);have cO:=alw l (dgo l p 1) 8 hl hp1 (by omega) (by omega);rw[show(8:Int) - 1=7 by omega,<-hone]at cO;have cz:=bt l (dgo l p 2) (gSz l p) hl hp2 (by omega);have c23:=bt l (po l p).2 23 hl (by rw[hbd];split;exact hp3;exact hp2) (by omega);have hq0:dgo l (po l p).2 1<=l.length:=dm (by rw[hbd];split;exact hp3;exact hp2) 1;have hn0:((a3g l p:Nat):Int)=ai l (po l p).2 23:=by omega
 have hI0:GI (po l p).1 (gSz l p) (po l p).1.gone (22 - a3g l p):=⟨hB.1,hB.2.1,rfl,by rw[hB.2.2.1];exact Nat.zero_le _⟩;have hgone:=hB.2.2.2;simp only[go_sem];refine call c8 [1000000] ?_;by_cases hl0:l.length=0;rw[if_pos hl0]at hzd;have hl0':(l.length:Int)=0:=by omega
 simp only[go_sem,w2,e0,hl0'];refine call cO [1000000] ?_;by_cases ho:bhn l p=true;rw[if_pos ho]at hbd;rw[hbd,hzd]at c23;rw[hzd]at cz;simp only[go_sem,ho,e1];refine call cz [1000000] ?_;simp only[go_sem,e2];refine call c23 [1000000] ?_;simp only[go_sem];refine jf (Cv.cellLift (m:=3) (j:=1) (n:=99) (e:=36) (sz:=3) (by rfl) (by rfl) (by rfl) (by omega)) ?_;refine jf (Cv.cellList (n:=24) (m:=3) (j:=2) (e:=3) (sz:=1) (sh:=false) (xs:=[[.int .i64 (ai l (dgo l p 2) 4)]]) (by rfl) (by rfl) (by rfl)) ?_;refine jf (Cv.shr (n:=99) (by rfl) rfl) ?_
 rotate_left
 rw[if_neg ho]at hbd;rw[hbd]at c23;simp only[go_sem,ho,e1];refine call c23 [1000000] ?_;simp only[go_sem];refine jf (Cv.cellLift (m:=3) (j:=1) (n:=99) (e:=36) (sz:=3) (by rfl) (by rfl) (by rfl) (by omega)) ?_;refine jf (Cv.cellNil (m:=3) (j:=2) (by rfl) (by rfl)) ?_;refine jf (Cv.shr (n:=99) (by rfl) rfl) ?_
 rotate_left
 rw[if_neg hl0]at hzd;have hl0': ¬(l.length:Int)=0:=by omega
 simp only[go_sem,w2,e0,hl0'];refine call cO [1000000] ?_;by_cases ho:bhn l p=true;rw[if_pos ho]at hbd;rw[hbd,hzd]at c23;rw[hzd]at cz;simp only[go_sem,ho,e1];refine call cz [1000000] ?_;simp only[go_sem,e2];refine call c23 [1000000] ?_;simp only[go_sem];refine jf (Cv.cellLift (m:=3) (j:=1) (n:=99) (e:=36) (sz:=3) (by rfl) (by rfl) (by rfl) (by omega)) ?_;refine jf (Cv.cellList (n:=24) (m:=3) (j:=2) (e:=3) (sz:=1) (sh:=false) (xs:=[[.int .i64 (ai l (dgo l p 2) (2+ai l p 8))]]) (by rfl) (by rfl) (by rfl)) ?_;refine jf (Cv.shr (n:=99) (by rfl) rfl) ?_
 rotate_left
 rw[if_neg ho]at hbd;rw[hbd]at c23;simp only[go_sem,ho,e1];refine call c23 [1000000] ?_;simp only[go_sem];refine jf (Cv.cellLift (m:=3) (j:=1) (n:=99) (e:=36) (sz:=3) (by rfl) (by rfl) (by rfl) (by omega)) ?_;refine jf (Cv.cellNil (m:=3) (j:=2) (by rfl) (by rfl)) ?_;refine jf (Cv.shr (n:=99) (by rfl) rfl) ?_
 rotate_left
 all_goals
  refine r5 Tryz.mixed (a3g l p,((po l p).1,dgo l (po l p).2 1)) (fun s:Nat×(Gr×Nat)=>[(0,.ptr 1000000 0),(2,.ptr 2 0),(3,.ptr 3 0),(4,.int .i64 s.1)]) (fun s=>[(1000000,vp l s.2.2),(2,.cells [.int .i64 0,.nils,.nils]),(3,.cells [.int .i64 s.2.1.sz,.os 99 s.2.1.ed.length,.vs (s.2.1.gone.map i1)]),(99,.arr 36 3 true (s.2.1.ed.map edr))]) (fun s=>GI s.2.1 (gSz l p) (po l p).1.gone (22 - s.1)/\s.1<=22/\s.2.2<=l.length/\a4g l s.1 s.2=M) (fun s=>s.1) (by kernel_rfl) ⟨hI0,hnm,hq0,hM.symm⟩ ?_ ?_
  ·refine Cv.wk ?_;rw[hn0,hbd];simp only[go_sem];simp[hzd,dgo]
  rintro⟨n,g,q⟩ ⟨hI,hn,hq,hR⟩
  cases n with
  |zero=>
   subst hR;simp only[go_sem];refine md _ _ ?_;simp only[go_sem]
   exact⟨rfl,rfl,rfl⟩
  |succ n=>
   have q1:=dm hq 1;have q2:=dm hq 2;have d1:=bi (l:=l) (p:=q) (n:=gSz l p) (by omega);have d2:=bi (l:=l) (p:=dgo l q 1) (n:=gSz l p) (by omega);have d3:=bi (l:=l) (p:=dgo l q 2) (n:=3) (by omega);have n1:=bt l q (gSz l p) hl hq (by omega);have n2:=bt l (dgo l q 1) (gSz l p) hl q1 (by omega);have n3:=bt l (dgo l q 2) 3 hl q2 (by omega);have f0:ob l q=dgo l q 1:=rfl;have f1:ob l (dgo l q 1)=dgo l q 2:=rfl;have f2:ob l (dgo l q 2)=dgo l q 3:=rfl;have hsz:g.sz=gSz l p:=hI.sz;have w1:IntKind.i64.wrap (1+ai l (dgo l q 2) 3)=1+ai l (dgo l q 2) 3:=by rw[ae]<;>omega
   have hln:=hI.len;have hgo:g.gone.length<=1000:=by have e9:g.gone=(po l p).1.gone:=hI.gone;rw[e9];omega
   have hE:aaq l g.sz q=⟨ai l q (gSz l p),ai l (dgo l q 1) (gSz l p),1+ai l (dgo l q 2) 3⟩:=by rw[hsz];rfl
   have hOk:OkEd g (aaq l g.sz q):=⟨hI.ok,by rw[hE];exact d1.1,by rw[hE,hsz];exact d1.2,by rw[hE];exact d2.1,by rw[hE,hsz];exact d2.2,by rw[hE];show 1<=1+ai l (dgo l q 2) 3;omega,by rw[hE];show 1+ai l (dgo l q 2) 3<=3;omega,by simp only at hln;omega⟩;have gp:(0:Int)<((n+1:Nat):Int):=by omega
   simp only[go_sem,hsz,gp];refine call n1 [1000000] ?_;simp only[go_sem,hsz,f0];refine call n2 [1000000] ?_;simp only[go_sem,hsz,f1];refine call n3 [1000000] ?_;simp only[go_sem,f2,w1];have hRR:a4g l n (aeu l (g,q))=M:=hR;have hm1:IntKind.i64.wrap (((n+1:Nat):Int) - 1)=(n:Int):=by rw[ae]<;>omega
   by_cases hw:vc g (aaq l g.sz q)=0
   ·have cW:=a01 g (aaq l g.sz q) hgo hOk hw;have hS:aeu l (g,q)=(zb g (aaq l g.sz q),dgo l q 3):=by unfold aeu;simp only;rw[if_pos hw]
    have hGI:=afg (l:=l) (s:=(g,q)) hI;rw[hS]at hGI hRR;have hnn:22 - (n+1)+1=22 - n:=by omega
    have hGI':GI (zb g (aaq l g.sz q)) (gSz l p) (po l p).1.gone (22 - n):=hnn ▸ hGI;rw[dv,hE,kz,hsz]at cW;refine call cW [] ?_;simp only[go_sem,hm1];refine⟨ag (by kernel_rfl),(n,zb g (aaq l g.sz q),dgo l q 3),⟨⟨hGI',by show n<=22;omega,dm hq 3,hRR⟩,Nat.lt_succ_self n⟩,?_⟩;rw[hE];refine Cv.trans (fr':=[(0,.ptr 1000000 0),(2,.ptr 2 0),(3,.ptr 3 0),(4,.int .i64 n)]) (σ':=[(1000000,vp l (dgo l q 3)),(2,.cells [.int .i64 0,.nils,.nils]),(3,.cells [.int .i64 (gSz l p),.os 46 (aez g.ed ⟨ai l q (gSz l p),ai l (dgo l q 1) (gSz l p),1+ai l (dgo l q 2) 3⟩).length,.vs (g.gone.map i1)]),(46,.arr 36 3 false ((aez g.ed ⟨ai l q (gSz l p),ai l (dgo l q 1) (gSz l p),1+ai l (dgo l q 2) 3⟩).map edr))]) (Cv.wk ?_) ?_
    ·simp only[go_sem]
    refine Cv.trans (fr':=[(0,.ptr 1000000 0),(2,.ptr 2 0),(3,.ptr 3 0),(4,.int .i64 n)]) (σ':=[(1000000,vp l (dgo l q 3)),(2,.cells [.int .i64 0,.nils,.nils]),(3,.cells [.int .i64 (gSz l p),.os 99 (aez g.ed ⟨ai l q (gSz l p),ai l (dgo l q 1) (gSz l p),1+ai l (dgo l q 2) 3⟩).length,.vs (g.gone.map i1)]),(99,.arr 36 3 false ((aez g.ed ⟨ai l q (gSz l p),ai l (dgo l q 1) (gSz l p),1+ai l (dgo l q 2) 3⟩).map edr))]) (Cv.wkR [(46,99)] ?_) (Cv.shr (n:=99) (by rfl) ?_)
    ·simp only[go_sem]
    ·rw[show(zb g ⟨ai l q (gSz l p),ai l (dgo l q 1) (gSz l p),1+ai l (dgo l q 2) 3⟩).sz=gSz l p from hsz];rfl
   ·have cW:=azy g (aaq l g.sz q) (by simp only[big];omega) hOk hw;have hS:aeu l (g,q)=(g,dgo l q 3):=by unfold aeu;simp only;rw[if_neg hw]
    have hGI:=afg (l:=l) (s:=(g,q)) hI;rw[hS]at hGI hRR;have hnn:22 - (n+1)+1=22 - n:=by omega
    have hGI':GI g (gSz l p) (po l p).1.gone (22 - n):=hnn ▸ hGI;rw[hE]at hw;rw[dv,hE,kz,hsz]at cW;refine call cW [] ?_;simp only[go_sem,hm1,hw];refine⟨ag (by kernel_rfl),(n,g,dgo l q 3),⟨⟨hGI',by show n<=22;omega,dm hq 3,hRR⟩,Nat.lt_succ_self n⟩,Cv.wk ?_⟩;simp only[go_sem,hsz]
theorem ake(l:List Int)(p a:Nat): ∀b,dgo l (dgo l p a) b=dgo l p (a+b)
 |0=>rfl
 |b+1=>by show ob l (dgo l (dgo l p a) b)=ob l (dgo l p (a+b));rw[ake l p a b]
theorem ama(l:List Int)(p:Nat)(g:Gr)(hl:big l.length)(hp:p<=l.length)(hz:0<g.sz)(hz2:g.sz<=64):Den Tryz.prog 10 [.ptr 1000000 0,.agg (gr g)] [vp l p] (.agg (pl (a56 l g.sz p))) [] [vp l (ayr l p)]:=by
 refine aa Tryz.func10 rfl Tryz.call10 Tryz.ntmps10 Tryz.results10 (by simp) (by kernel_rfl) [] (exts:=[1000000]) rfl rfl ?_;have hp1:=dm hp 1;have hp2:=dm hp 2;have hp3:=dm hp 3;have e0:ob l p=dgo l p 1:=rfl;have e1:ob l (dgo l p 1)=dgo l p 2:=rfl;have e2:ob l (dgo l p 2)=dgo l p 3:=rfl;have e3:ob l (dgo l p 3)=dgo l p 4:=rfl;have cz:=bt l p g.sz hl hp (by omega);have cO:=a90 l (dgo l p 1) [1,1,2,3] hl hp1 (by simp) (by simp[big]);have c3:=alw l (dgo l p 2) 3 hl hp2 (by omega) (by omega);rw[show(3:Int) - 1=2 by omega]at c3;have cz2:=bt l (dgo l p 3) g.sz hl hp3 (by omega);have cp:=aim [ai l p g.sz] (ai l (dgo l p 3) g.sz) (by simp);have hA:pAt l p<=l.length:=by unfold pAt;split;exact dm hp 4;exact hp3
 have cL:=a90 l (pAt l p) [3,2,1,6,0] hl hA (by simp) (by simp[big]);have cN:=bt l (dgo l (pAt l p) 1) 4 hl (dm hA 1) (by omega);have hL:=ap8 l p;have hN:=a0i l p;have dN:=bi (l:=l) (p:=dgo l (pAt l p) 1) (n:=4) (by omega);have eN:IntKind.i64.wrap (1+ai l (dgo l (pAt l p) 1) 4)=(ahp l p:Int):=by rw[ae,ahp]<;>omega
 have eL:IntKind.i64.wrap (1+el [3,2,1,6,0] (ai l (pAt l p) 5).toNat)=ov l p:=by rw[ae];rfl;unfold ov at hL;omega;unfold ov at hL;omega
 have a0:ob l (pAt l p)=dgo l (pAt l p) 1:=rfl;have a1:ob l (dgo l (pAt l p) 1)=dgo l (pAt l p) 2:=rfl;have hM:a56 l g.sz p=⟨qd l g.sz p,rr l (ahp l p) (dgo l (pAt l p) 2) (ov l p),el [1,1,2,3] (ai l (dgo l p 1) 4).toNat⟩:=rfl;have hP:ayr l p=dgo l (dgo l (pAt l p) 2) (ahp l p):=by rw[ake];rfl
 have hS:qd l g.sz p=if ai l (dgo l p 2) 3=2 then aah [ai l p g.sz] (ai l (dgo l p 3) g.sz)else [ai l p g.sz]:=rfl
 have hAt:pAt l p=if ai l (dgo l p 2) 3=2 then dgo l p 4 else dgo l p 3:=rfl
 rw[hM,hP];simp only[go_sem];refine call cz [1000000] ?_;simp only[go_sem,e0];refine call cO [1000000] ?_;simp only[go_sem,e1];refine call c3 [1000000] ?_;by_cases ho:ai l (dgo l p 2) 3=2;rw[if_pos ho]at hS hAt;simp only[hAt]at cL cN a0 a1 eL eN dN hA;simp only[go_sem,ho,e2];refine call cz2 [1000000] ?_;simp only[go_sem,e3];refine call cp [] ?_;simp only[go_sem];refine⟨ag (by kernel_rfl),?_⟩;refine call cL [1000000] ?_;simp only[go_sem,a0,eL];refine call cN [1000000] ?_;simp only[go_sem,a1,eN];refine jf (Cv.cellLift (m:=5) (j:=1) (n:=99) (e:=3) (sz:=1) (by rfl) (by rfl) (by rfl) (by omega)) ?_
 rotate_left
 rw[if_neg ho]at hS hAt;simp only[hAt]at cL cN a0 a1 eL eN dN hA;simp only[go_sem,ho,e2];refine call cL [1000000] ?_;simp only[go_sem,a0,eL];refine call cN [1000000] ?_;simp only[go_sem,a1,eN];refine jf (Cv.cellLift (m:=5) (j:=1) (n:=99) (e:=3) (sz:=1) (by rfl) (by rfl) (by rfl) (by omega)) ?_;refine jf (Cv.cellList (n:=12) (m:=5) (j:=0) (e:=3) (sz:=1) (sh:=false) (xs:=[[.int .i64 (ai l p g.sz)]]) (by rfl) (by rfl) (by rfl)) ?_
 rotate_left
 all_goals
  simp only[hAt];generalize hL0:ov l p=L0 at*;generalize hN0:ahp l p=N0 at*;have hq0:dgo l (pAt l p) 2<=l.length:=dm (by rw[hAt];exact hA) 2;rw[hAt]at hq0;generalize hQ:dgo l (dgo l p _) 2=q0 at*;refine r5 Tryz.mixed (N0,(([]:List Int),(q0,L0))) (fun s:Nat×(List Int×(Nat×Int))=>[(0,.ptr 1000000 0),(4,.ptr 4 0),(5,.ptr 5 0),(6,.int .i64 s.2.2.2),(7,.int .i64 s.1)]) (fun s=>[(1000000,vp l s.2.2.1),(4,.cells [.nils,.nils,.int .i64 0]),(5,.cells [.vs ((qd l g.sz p).map i1),.os 99 s.2.1.length,.int .i64 (el [1,1,2,3] (ai l (dgo l p 1) 4).toNat)]),(99,.arr 3 1 false (s.2.1.map i1))]) (fun s=>s.2.1.length+s.1<=4/\s.2.2.1<=l.length/\(1<=s.2.2.2/\s.2.2.2<=7)/\s.2.1++rr l s.1 s.2.2.1 s.2.2.2=rr l N0 q0 L0/\dgo l s.2.2.1 s.1=dgo l q0 N0) (fun s=>s.1) (by kernel_rfl) ⟨by show 0+N0<=4;omega,hq0,hL,rfl,rfl⟩ ?_ ?_
  ·refine Cv.wk ?_;rw[hS];simp only[go_sem]
  rintro⟨n,T,q,la⟩ ⟨hT,hq,hla,hR,hE⟩
  cases n with
  |zero=>
   simp only at hT hq hla hR hE;have hR':T=rr l N0 q0 L0:=by rw[<-hR];exact(List.append_nil _).symm
   have hE':q=dgo l q0 N0:=hE;simp only[go_sem];refine⟨_,_,Cv.cellList (n:=99) (m:=5) (j:=1) (e:=3) (sz:=1) (sh:=false) (xs:=T.map i1) (by rfl) (by simp) (by rfl),?_⟩;simp only[go_sem];rw[<-hR',<-hE']
   exact⟨rfl,rfl⟩
  |succ n=>
   simp only at hT hq hla hR hE;have q1:=dm hq 1;have n1:=bt l q 3 hl hq (by omega);have d1:=bi (l:=l) (p:=q) (n:=3) (by omega);have f0:ob l q=dgo l q 1:=rfl;have w1:IntKind.i64.wrap (la - ai l q 3)=la - ai l q 3:=by rw[ae]<;>omega
   have gp:(0:Int)<((n+1:Nat):Int):=by omega
   have hm1:IntKind.i64.wrap (((n+1:Nat):Int) - 1)=(n:Int):=by rw[ae]<;>omega
   have hR2:(T++[la])++rr l n (dgo l q 1) (max 1 (la - ai l q 3))=rr l N0 q0 L0:=by rw[<-hR,List.append_assoc];rfl
   have hE2:dgo l (dgo l q 1) n=dgo l q0 N0:=by rw[<-hE,ake,Nat.add_comm]
   simp only[go_sem,gp];refine⟨by omega,?_⟩;refine call n1 [1000000] ?_;simp only[go_sem,w1,f0,hm1];have hmx:(if 1<la - ai l q 3 then la - ai l q 3 else 1)=max 1 (la - ai l q 3):=by split<;>omega
   rw[hmx];refine⟨(n,(T++[la],(dgo l q 1,max 1 (la - ai l q 3)))),⟨⟨by show(T++[la]).length+n<=4;rw[List.length_append];simp only[List.length_cons,List.length_nil];omega,q1,⟨by show 1<=max 1 _;omega,by show max 1 (la - ai l q 3)<=7;omega⟩,hR2,hE2⟩,Nat.lt_succ_self n⟩,Cv.wk ?_⟩;simp only[go_sem,List.length_append,List.map_append]
end Go.Proofs.Am
