/- GXTwo. -/
import Derived.Test.YtloaichcpoboeaaGreatDoorGXOne
import Derived.Test.YtloaichcpoboeaaGreatDoorGWTwo
import Derived.Test.YtloaichcpoboeaaGreatDoorGWFour
import Derived.Test.YtloaichcpoboeaaGreatDoorAmQT
import Derived.Test.YtloaichcpoboeaaGreatDoorGWSeven
set_option maxHeartbeats 1000000
set_option maxRecDepth 100000
set_option linter.unusedSimpArgs false
set_option linter.unusedVariables false
namespace Go.Proofs.Am
open Go Go.RowKit
open Go.Proofs
theorem ahq(n:Nt)(h:OkNw n):Den Tryz.prog 71 [.agg (ntw n)] [] (.tup [.os 0 n.ac.length,.int .i64 0]) [.arr 3 1 false ((aet n).map i1)] []:=by
 refine aa Tryz.func71 rfl Tryz.call71 Tryz.ntmps71 Tryz.results71 (by simp) (by kernel_rfl) [17] (exts:=[]) rfl rfl ?_;obtain⟨hn0,hn1⟩:=h.nd;have hln:=h.ln;have hnt:=h.nt;have hac:=h.ac;obtain⟨N,hN⟩: ∃N:Nat,n.nd=(N:Int):=⟨n.nd.toNat,by omega⟩;have hN2:n.nd.toNat=N:=by omega
 have cK:=xw n h;rw[iv,hN]at cK;have m0:(mxT n 0).map i1=List.replicate n.ac.length [vd (PV.int IntKind.i64 0)]:=by rw[mxT,List.map_replicate];rfl
 have mok:=ain hnt;have ml: ∀t,(mxT n t).length=n.ac.length:=fun t=>(mok t).1;rw[iv,hN];simp only[go_sem];refine call cK [] ?_;have N0:(0:Int)<=(n.ac.length:Int):=by omega
 have N1:(1:Int)<(N:Int):=by omega
 have N2:1<N:=by omega
 simp only[go_sem,N0];refine⟨⟨Nat.le_refl _,by omega,by omega⟩,?_⟩;refine loop Tryz.mixed (0:Nat) (fun t:Nat=>[(1,.ptr 1 0),(4,.os 17 n.ac.length)]) (fun t=>[(1,.cells [.int .i64 N,.vs (n.ac.map acr)]),(17,.arr 3 1 false ((mxT n t).map i1))]) (fun t=> ∀u,u<t->el (byF n (mxT n u)) 1≠0) (fun t=>(sc n.ac (mxT n 0)).toNat - t) (by kernel_rfl) (fun u hu=>absurd hu (Nat.not_lt_zero u)) ?_ ?_
 ·simp only[go_sem,m0]
 intro t hI;have cR:=aiw n (mxT n t) h (ml t);rw[iv,hN2,hN,ml t]at cR;have mlt:=ml t;have hby:(byF n (mxT n t)).length=N:=by rw[byF,(tk hnt).len,hN2]
 simp only[go_sem,mlt];refine call cR [17] ?_;by_cases g:el (byF n (mxT n t)) 1=0
 ·have e:=bbm hnt g;rw[<-e];simp only[go_sem,g,N1,N2,hby];exact Nat.le_refl _
 have hlt:t<(sc n.ac (mxT n 0)).toNat:=bah hnt fun u hu=>by
  rcases Nat.lt_or_eq_of_le hu with h1|h1
  ·exact hI u h1
  ·rw[h1];exact g
 have hI2: ∀u,u<t+1->¬el (byF n (mxT n u)) 1=0:=fun u hu=>by
  rcases Nat.lt_succ_iff_lt_or_eq.1 hu with h1|h1
  ·exact hI u h1
  ·rw[h1];exact g
 have hme:(sc n.ac (mxT n 0)).toNat - (t+1)<(sc n.ac (mxT n 0)).toNat - t:=Nat.sub_lt_sub_left hlt (Nat.lt_succ_self t);obtain⟨P,w⟩:=w9 hnt g
 have hS:mxT n (t+1)=fl n (mxT n t) (byF n (mxT n t)) (lst n (mxT n t) (byF n (mxT n t)) (ava n (mxT n t))) (ava n (mxT n t)):=by
  show mxS n (mxT n t)=_;unfold mxS;rw[if_neg g]
 have hB:=tk (f:=mxT n t) hnt;have hOk:=mok t;have hlp:=aeg w;have hfo:=bd1 hB w hOk (hlp _ (Nat.le_refl _)).1 (fun m hm=>a05 hm);have hkp:=fun m k (hk:k<ava n (mxT n t))=>al5 hB w (v:=lst n (mxT n t) (byF n (mxT n t)) (ava n (mxT n t))) hk m;have w3:=w.end_;have w4:=w.mid;have hrng:=hB.rng;have hb1:(rsF n (mxT n t)).by_=byF n (mxT n t):=rfl;rw[hb1]at hfo hkp w3 w4 hlp;generalize (rsF n (mxT n t)).q=q at*;generalize byF n (mxT n t)=B at*;generalize ava n (mxT n t)=L at*;generalize mxT n t=F at*;have p0:pk n B 0=1:=rfl;have ps: ∀m,pk n B (m+1)=par n B (pk n B m):=fun m=>rfl;have l0:lst n F B 0=1048576:=rfl;have ls: ∀m,lst n F B (m+1)=min (lst n F B m) (awt n F B (pk n B m)):=fun m=>rfl;have f0: ∀v,fl n F B v 0=F:=fun v=>rfl;have fs: ∀v m,fl n F B v (m+1)=psh B (pk n B m) v (fl n F B v m):=fun v m=>rfl
 have k0: ∀m,m<L->pk n B m≠0/\(0<=pk n B m/\pk n B m<(N:Int))/\∃a:Nat,a<n.ac.length/\fi B (pk n B m)=a/\((el B (pk n B m).toNat=(a:Int)+1/\(el n.ac a).fr=pk n B (m+1)/\el F a<(el n.ac a).cap)\/(el B (pk n B m).toNat= -((a:Int)+1)/\(el n.ac a).to=pk n B (m+1)/\0<el F a)):=fun m hm=>by
  obtain⟨x1,x2,x3⟩:=w4 m hm;have x4:=hrng _ x2;refine⟨x1,⟨x4.1,by omega⟩,fi B (pk n B m),x3.il,rfl,?_⟩;have x5:=x3.hw;generalize hA:fi B (pk n B m)=a at*;unfold fi at hA;rcases x5 with ⟨y1,y2,y3,y4⟩|⟨y1,y2,y3,y4⟩
  ·rw[if_pos y1]at hA;exact .inl ⟨by omega,y4,y3⟩
  ·rw[if_neg (by omega)]at hA;exact .inr ⟨by omega,y4,y3⟩
 clear w4 w;generalize hV:lst n F B L=V at*;have fsV:=fs V;have f0V:=f0 V;clear fs f0;generalize hpk:pk n B=Q at*;generalize lst n F B=T at*;generalize fl n F B V=FF at*;have hmn: ∀a b:Int,(if b<a then b else a)=min a b:=fun a b=>by rw[Int.min_def];split<;>split<;>omega
 simp only[go_sem,g,N1,N2,hby];refine⟨Nat.le_refl _,?_⟩
 have hcap: ∀a:Nat,a<n.ac.length->0<=(el n.ac a).cap/\(el n.ac a).cap<=1048576/\0<=el F a/\el F a<=(el n.ac a).cap:=fun a ha=>by
  have z1:=(hac _ (dl ha)).2.2.2.2.2;have z2:=hOk.2 a ha;exact⟨z1.1,z1.2,z2.1,z2.2⟩
 refine loop Tryz.mixed (0:Nat) (fun m:Nat=>[(1,.ptr 1 0),(4,.os 17 n.ac.length),(5,.os 20 N),(6,.int .i64 (T m)),(7,.int .i64 (Q m))]) (fun m=>[(1,.cells [.int .i64 N,.vs (n.ac.map acr)]),(17,.arr 3 1 false (F.map i1)),(20,.arr 3 1 false (B.map i1))]) (fun m=>m<=L) (fun m=>L - m) (by kernel_rfl) (Nat.zero_le _) ?_ ?_
 ·simp only[go_sem,p0,l0]
 intro m hm;by_cases gm:m<L
 ·obtain⟨x1,⟨x2,x3⟩,a,a1,a2,x4⟩:=k0 m gm;have x5:(Q m).toNat<N:=by omega
  have w1:IntKind.i64.wrap ((a:Int)+1 - 1)=(a:Int):=by rw[ae]<;>omega
  obtain⟨z1,z2,z3,z4⟩:=hcap a a1;have a3:a<F.length:=by omega
  have a4:(a:Int)<(n.ac.length:Int):=by omega
  have ap:(0:Int)<(a:Int)+1:=by omega
  have hm1:m+1<=L:=gm;have hm2:L - (m+1)<L - m:=Nat.sub_lt_sub_left gm (Nat.lt_succ_self m);have hls:=ls m;rcases x4 with ⟨y1,y2,y3⟩|⟨y1,y2,y3⟩
  ·have hr:awt n F B (Q m)=(el n.ac a).cap - el F a:=by unfold awt;rw[if_pos (by omega),a2]
   rw[hr]at hls;have w2:IntKind.i64.wrap ((el n.ac a).cap - el F a)=(el n.ac a).cap - el F a:=by rw[ae]<;>omega
   simp only[go_sem,x1,x2,x3,x5,hby,y1,ap,w1,w2,a1,a3,a4,mlt]
   (repeat refine And.intro (by first|omega|exact ag (by kernel_rfl)) ?_)
   exact⟨m+1,⟨hm1,hm2⟩,by rw[hls,hmn],y2⟩
  ·have hr:awt n F B (Q m)=el F a:=by unfold awt;rw[if_neg (by omega),a2]
   rw[hr]at hls;have an: ¬(0:Int)< -((a:Int)+1):=by omega
   have w3:IntKind.i64.wrap (0 - -((a:Int)+1))=(a:Int)+1:=by rw[ae]<;>omega
   simp only[go_sem,x1,x2,x3,x5,hby,y1,an,w1,w3,a1,a3,a4,mlt]
   (repeat refine And.intro (by first|omega|exact ag (by kernel_rfl)) ?_)
   exact⟨m+1,⟨hm1,hm2⟩,by rw[hls,hmn],y2⟩
 have:m=L:=by omega
 subst this;have w4:Q m=0:=w3;have hVm:T m=V:=hV;simp only[go_sem,w4,hVm];have hVb:=hlp m (Nat.le_refl _);rw[hVm]at hVb;refine loop Tryz.mixed (0:Nat) (fun k:Nat=>[(1,.ptr 1 0),(4,.os 17 n.ac.length),(5,.os 20 N),(6,.int .i64 V),(9,.int .i64 (Q k))]) (fun k=>[(1,.cells [.int .i64 N,.vs (n.ac.map acr)]),(17,.arr 3 1 false ((FF k).map i1)),(20,.arr 3 1 false (B.map i1))]) (fun k=>k<=m) (fun k=>m - k) (by kernel_rfl) (Nat.zero_le _) ?_ ?_
 ·simp only[go_sem,p0,f0V]
 intro k hk;have hfk:=(hfo k hk).1;by_cases gk:k<m
 ·obtain⟨x1,⟨x2,x3⟩,a,a1,a2,x4⟩:=k0 k gk;have x5:(Q k).toNat<N:=by omega
  have w1:IntKind.i64.wrap ((a:Int)+1 - 1)=(a:Int):=by rw[ae]<;>omega
  obtain⟨z1,z2,z3,z4⟩:=hcap a a1;have hkk:=hkp k k gk (Nat.le_refl _);rw[a2]at hkk;have a3:a<n.ac.length:=a1;have a4:(a:Int)<(n.ac.length:Int):=by omega
  have ap:(0:Int)<(a:Int)+1:=by omega
  have hm1:k+1<=m:=gk;have hm2:m - (k+1)<m - k:=Nat.sub_lt_sub_left gk (Nat.lt_succ_self k);have hls:=fsV k;rcases x4 with ⟨y1,y2,y3⟩|⟨y1,y2,y3⟩
  ·have hr:psh B (Q k) V (FF k)=(FF k).set a (el F a+V):=by unfold psh;rw[if_pos (by omega),a2,hkk]
   rw[hr]at hls;have w2:IntKind.i64.wrap (el F a+V)=el F a+V:=by rw[ae]<;>omega
   simp only[go_sem,x1,x2,x3,x5,hby,y1,ap,w1,w2,a1,a3,a4,hfk,hkk];exact⟨k+1,⟨hm1,hm2⟩,y2,by rw[hls,ait]⟩
  ·have hr:psh B (Q k) V (FF k)=(FF k).set a (el F a - V):=by unfold psh;rw[if_neg (by omega),a2,hkk]
   rw[hr]at hls;have w2:IntKind.i64.wrap (el F a - V)=el F a - V:=by rw[ae]<;>omega
   have an: ¬(0:Int)< -((a:Int)+1):=by omega
   have w3:IntKind.i64.wrap (0 - -((a:Int)+1))=(a:Int)+1:=by rw[ae]<;>omega
   simp only[go_sem,x1,x2,x3,x5,hby,y1,an,w1,w2,w3,a1,a3,a4,hfk,hkk];exact⟨k+1,⟨hm1,hm2⟩,y2,by rw[hls,ait]⟩
 have:k=m:=by omega
 subst this;rw[<-hS];simp only[go_sem,w4];exact⟨t+1,⟨hI2,hme⟩,rfl⟩
def a7w(D:List Int)(n k:Nat):List Int:=((List.range k).filter fun k:Nat=>decide (el D k=(n:Int))).map fun k:Nat=>(k:Int)
def bai(D:List Int)(z n:Nat):List Int:=(List.range n).flatMap fun n:Nat=>a7w D n z
theorem a2n(D:List Int)(n k:Nat):a7w D n (k+1)=a7w D n k++if el D k=(n:Int)then [(k:Int)]else []:=by
 unfold a7w;rw[List.range_succ,List.filter_append,List.map_append];congr 1;by_cases h:el D k=(n:Int)<;>simp[h]
theorem aig(D:List Int)(z n:Nat):bai D z (n+1)=bai D z n++a7w D n z:=by
 unfold bai;rw[List.range_succ,List.flatMap_append];simp
theorem a4e(D:List Int)(z:Nat):bai D z z=afr D z:=rfl
theorem apr(D:List Int)(n k:Nat):(a7w D n k).length<=k:=by
 unfold a7w;rw[List.length_map];have:=List.length_filter_le (fun k:Nat=>decide (el D k=(n:Int))) (List.range k)
 rwa [List.length_range]at this
theorem aoj(D:List Int)(z:Nat): ∀n,(bai D z n).length<=n*z
 |0=>by simp[bai]
 |n+1=>by
  have h1:=aoj D z n;have h2:=apr D n z;rw[aig,List.length_append,Nat.add_mul,Nat.one_mul];omega
theorem ad4(g:Gr)(S:List Int)(hg:OkE g)(h64:g.sz<=64)(h1:g.ed.length<=1000)(h2:big g.gone.length)(h3:big S.length):Den Tryz.prog 35 [.agg (gr g),.vs (S.map i1)] [] (.vs ((bg g S).map i1)) [] []:=
 (asl g S hg h64 h1 h2 h3).vs (by simp) trivial rfl
theorem alu(g:Gr)(S:List Int)(hg:OkE g)(h64:g.sz<=64)(h1:g.ed.length<=1000)(h2:big g.gone.length)(h3:big S.length):Den Tryz.prog 39 [.agg (gr g),.vs (S.map i1)] [] (.vs ((afr (bg g S) g.sz.toNat).map i1)) [] []:=by
 refine aa Tryz.func39 rfl Tryz.call39 Tryz.ntmps39 Tryz.results39 (by simp) (by kernel_rfl) [] (exts:=[]) rfl rfl ?_;have hlo:=hg.lo;have cD:=ad4 g S hg h64 h1 h2 h3;have hDl:=zt g S;rw[dv]at cD;generalize bg g S=D at*;obtain⟨z,hz⟩: ∃z:Nat,g.sz=(z:Int):=⟨g.sz.toNat,by omega⟩;have hz2:g.sz.toNat=z:=by omega
 rw[hz2]at hDl;have ks:=a2n D;have ns:=aig D z;have kl:=apr D;have nl:=aoj D z;have k0: ∀n,a7w D n 0=[]:=fun n=>rfl;have n0:bai D z 0=[]:=rfl;rw[hz2,<-a4e];generalize a7w D=X at*;generalize bai D z=Y at*;rw[hz]at cD;rw[dv,hz];simp only[go_sem];refine call cD [] ?_;simp only[go_sem];refine da 6 99 3 1 false ?_ (by rfl) (by rfl) (by omega);refine loop Tryz.mixed (0:Nat) (fun n:Nat=>[(2,.ptr 2 0),(5,.vs (D.map i1)),(6,.os 99 (Y n).length),(7,.int .i64 n)]) (fun n=>[(2,.cells [.int .i64 z,.vs (g.ed.map edr),.vs (g.gone.map i1)]),(99,.arr 3 1 false ((Y n).map i1))]) (fun n=>n<=z) (fun n=>z - n) (by kernel_rfl) (Nat.zero_le _) ?_ ?_
 ·simp only[go_sem,n0,List.map_nil,List.length_nil]
 intro n hn;have hY:=nl n;by_cases g1:n<z
 rotate_left
 ·have:n=z:=by omega
  subst this;have g1': ¬(n:Int)<(n:Int):=by omega
  simp only[go_sem,g1']
 have g1':(n:Int)<(z:Int):=by omega
 have hnz:n*z<=64*64:=Nat.mul_le_mul (by omega) (by omega);simp only[go_sem,g1'];refine loop Tryz.mixed (0:Nat) (fun k:Nat=>[(2,.ptr 2 0),(5,.vs (D.map i1)),(6,.os 99 (Y n++X n k).length),(7,.int .i64 n),(8,.int .i64 k)]) (fun k=>[(2,.cells [.int .i64 z,.vs (g.ed.map edr),.vs (g.gone.map i1)]),(99,.arr 3 1 false ((Y n++X n k).map i1))]) (fun k=>k<=z) (fun k=>z - k) (by kernel_rfl) (Nat.zero_le _) ?_ ?_
 ·simp only[go_sem,k0,List.append_nil]
 intro k hk;have hX:=kl n k;have hl:(Y n++X n k).length<=5000:=by rw[List.length_append];omega
 by_cases g2:k<z
 rotate_left
 ·have:k=z:=by omega
  subst this;have g2': ¬(k:Int)<(k:Int):=by omega
  have hsu:=ns n;rw[<-hsu];simp only[go_sem,g2'];exact⟨n+1,⟨by omega,by omega⟩,⟨rfl,by rw[ae]<;>omega⟩,rfl⟩
 have g2':(k:Int)<(z:Int):=by omega
 have g3:k<D.length:=by omega
 have hsu:=ks n k;have hsu2:Y n++X n (k+1)=(Y n++X n k)++if el D k=(n:Int)then [(k:Int)]else []:=by rw[hsu,List.append_assoc]
 have hsl: ∀j,(Y n).length+(X n j).length=(Y n++X n j).length:=fun j=>List.length_append.symm;generalize Y n++X n k=o at*;by_cases c:el D k=(n:Int)
 ·rw[if_pos c]at hsu2;simp only[go_sem,g2',g3,c];refine⟨by omega,k+1,⟨by omega,by omega⟩,⟨?_,by rw[ae]<;>omega⟩,?_⟩
  ·rw[hsl,hsu2,List.length_append];rfl
  ·rw[hsu2,List.map_append];rfl
 ·rw[if_neg c,List.append_nil]at hsu2;simp only[go_sem,g2',g3,c];refine⟨k+1,⟨by omega,by omega⟩,⟨?_,by rw[ae]<;>omega⟩,?_⟩
  ·rw[hsl,hsu2]
  ·rw[hsu2]
theorem ax0(g:Gr)(p:Pol)(h64:g.sz<=64)(hg:OkE (bz g p.lv))(h1:g.ed.length<=1000)(h2:g.gone.length<=1000)(h3:big p.se.length):Den Tryz.prog 93 [.agg (gr g),.agg (pl p)] [] (.vs (((bg (bz g p.lv) p.se).map (kw p.ta)).map i1)) [] []:=by
 refine aa Tryz.func93 rfl Tryz.call93 Tryz.ntmps93 Tryz.results93 (by simp) (by kernel_rfl) [] (exts:=[]) rfl rfl ?_;have cL:=x8 g p.lv h1 h2;have hel:(bz g p.lv).ed.length<=g.ed.length:=List.length_filter_le _ _;have cD:=ad4 (bz g p.lv) p.se hg h64 (by omega) (by show big g.gone.length;simp only[big];omega) h3;have hDl:=zt (bz g p.lv) p.se;have hzz:(bz g p.lv).sz=g.sz:=rfl;rw[hzz]at hDl;generalize bg (bz g p.lv) p.se=D at*;generalize bz g p.lv=G at*;have hCl:(D.map (kw p.ta)).length=D.length:=List.length_map _;have hCe: ∀k,k<D.length->el (D.map (kw p.ta)) k=kw p.ta (el D k):=fun k hk=>by simp[el,aw,hk]
 generalize D.map (kw p.ta)=C at*;rw[dv,dv]at cL;rw[dv]at cD;have cO:=fun d=>a4f p d;rw[mt]at cO;rw[dv,mt];simp only[go_sem];refine call cL [] ?_;simp only[go_sem];refine call cD [] ?_;simp only[go_sem];refine⟨ag (by kernel_rfl),?_⟩;refine da 6 99 3 1 false ?_ (by rfl) (by rfl) (by omega);refine loop Tryz.mixed (0:Nat) (fun n:Nat=>[(3,.ptr 3 0),(5,.vs (D.map i1)),(6,.os 99 (C.take n).length),(7,.int .i64 n)]) (fun n=>[(3,.cells (pl p)),(99,.arr 3 1 false ((C.take n).map i1))]) (fun n=>n<=D.length) (fun n=>D.length - n) (by kernel_rfl) (Nat.zero_le _) ?_ ?_
 ·simp only[go_sem,List.take_zero,List.map_nil,List.length_nil]
 intro n hn;have hl:(C.take n).length=n:=by rw[List.length_take];omega
 by_cases g1:n<D.length
 ·have g2:(n:Int)<(D.length:Int):=by omega
  have hsu:C.take (n+1)=C.take n++[el C n]:=by
   rw[List.take_add_one,a8 (show n<C.length by omega),Option.toList_some];simp[el,aw,show n<C.length by omega]
  have c1:=cO (el D n);rw[<-hCe n g1]at c1;generalize C.take n=o at*;simp only[go_sem,g1,g2];refine call c1 [] ?_;have hb:(o.length+1)*8<=140737488355328:=by omega
  simp only[go_sem,hb]
  (repeat refine And.intro (by first|omega|exact ag (by kernel_rfl)) ?_)
  exact⟨n+1,⟨by omega,by omega⟩,⟨by rw[hsu,List.length_append];rfl,by rw[ae]<;>omega⟩,by rw[hsu,List.map_append];rfl⟩
 ·have:n=D.length:=by omega
  subst this;have g2: ¬((D.length:Nat):Int)<(D.length:Int):=by omega
  have e:C.take D.length=C:=by rw[<-hCl];exact List.take_length
  rw[e];simp only[go_sem,g2]
theorem qj(k:Int)(h:0<=k/\k<=64):Den Tryz.prog 94 [.int .i64 k] [] (.int .i64 (2+2*k)) [] []:=by
 refine aa Tryz.func94 rfl Tryz.call94 Tryz.ntmps94 Tryz.results94 (by simp) (by kernel_rfl) [] (exts:=[]) rfl rfl ?_;have w1:IntKind.i64.wrap (2*k)=2*k:=by rw[ae]<;>omega
 have w2:IntKind.i64.wrap (2+2*k)=2+2*k:=by rw[ae]<;>omega
 simp only[go_sem,w1,w2]
theorem aor(k:Int)(h:0<=k/\k<=64):Den Tryz.prog 95 [.int .i64 k] [] (.int .i64 (3+2*k)) [] []:=by
 refine aa Tryz.func95 rfl Tryz.call95 Tryz.ntmps95 Tryz.results95 (by simp) (by kernel_rfl) [] (exts:=[]) rfl rfl ?_;have w1:IntKind.i64.wrap (2*k)=2*k:=by rw[ae]<;>omega
 have w2:IntKind.i64.wrap (3+2*k)=3+2*k:=by rw[ae]<;>omega
 simp only[go_sem,w1,w2]
theorem aym(g:Gr)(lv:Int):bz (bz g lv) lv=bz g lv:=by
 unfold bz;simp only[List.filter_filter,Bool.and_self]
theorem bcm{D:List Int}{h:Int->Int}{k:Nat}(hk:k<D.length):el (D.map h) k=h (el D k):=by
 simp[el,aw,hk]
def aj3{α:Type}(q:α->Bool)(f:α->Ac)(l:List α)(i:Nat):List Ac:=(inQ q l i).map f
theorem rg{α:Type} [Inhabited α]{q:α->Bool}{f:α->Ac}{l:List α}{i:Nat}(h:i<l.length):aj3 q f l (i+1)=aj3 q f l i++if q (el l i)=true then [f (el l i)]else []:=by
 unfold aj3;rw[og h,List.map_append];congr 1;split<;>rfl
theorem vw{α:Type}(q:α->Bool)(f:α->Ac)(l:List α)(i:Nat):(aj3 q f l i).length<=i:=by
 unfold aj3;rw[List.length_map];exact ac2 q l i
theorem wy{α:Type}(q:α->Bool)(f:α->Ac)(l:List α):aj3 q f l l.length=(l.filter q).map f:=by
 unfold aj3 inQ;rw[List.take_length]
theorem rb{α:Type}(q:α->Bool)(f:α->Ac)(l:List α):aj3 q f l 0=[]:=rfl
theorem amu(g:Gr)(p:Pol)(K:List Int)(hg:bh g=true)(hp:i9 g.sz p=true)(hK:kr K g.sz=true):Den Tryz.prog 70 [.agg (gr g),.agg (pl p),.vs (K.map i1)] [] (.tup [.agg (ntw (ab7 g p K)),.int .i64 0]) [] []:=by
 refine aa Tryz.func70 rfl Tryz.call70 Tryz.ntmps70 Tryz.results70 (by simp) (by kernel_rfl) [] (exts:=[]) rfl rfl ?_;obtain⟨⟨a1,a2,a3⟩,b,c,_⟩:=ey.1 hg;obtain⟨p1,p2,p3,p4⟩:=oc.1 hp;have lS:=l9 p2 a1;have lK:=l9 hK a1;have lG:=l9 b a1;have s1:=(c7.1 p2).1;have s2:=(c7.1 hK).1;have hcap:qr g p=0:=by unfold qr;rw[if_neg (by simp[hg]),if_neg (by simp[hp])]
 have bS:big p.se.length:=by simp only[big];omega
 have bT:big p.ta.length:=by simp only[big];omega
 have bK:big K.length:=by simp only[big];omega
 have bG:big g.gone.length:=by simp only[big];omega
 have cC:=a2v g p (by simp only[big];omega) bG bS bT;rw[hcap]at cC;have cK:=bdt K g.sz bK;rw[hK]at cK;have cL:=x8 g p.lv (by omega) (by omega);have hel:(bz g p.lv).ed.length<=g.ed.length:=List.length_filter_le _ _;have hgE:=apl hg p.lv;have cD:=ad4 (bz g p.lv) p.se hgE a2 (by omega) bG bS;have cA:=ax0 (bz g p.lv) p a2 (by rw[aym];exact hgE) (by omega) (by show g.gone.length<=1000;omega) bS;rw[aym]at cA;have hDl:=zt (bz g p.lv) p.se;have hzz:(bz g p.lv).sz=g.sz:=rfl;have hC: ∀k:Int,0<=k->k<g.sz->el ((bg (bz g p.lv) p.se).map (kw p.ta)) k.toNat=cZ g p k:=fun k k0 k1=>bcm (by rw[hDl,hzz];omega);have hCl:((bg (bz g p.lv) p.se).map (kw p.ta)).length=(bg (bz g p.lv) p.se).length:=List.length_map _;have hcb:=fun k=>baa hp (dZ g p k);have hcb: ∀k,0<=cZ g p k/\cZ g p k<=1000:=fun k=>⟨(hcb k).1,(hcb k).2.1⟩;have hdz: ∀k:Int,el (bg (bz g p.lv) p.se) k.toNat=dZ g p k:=fun k=>rfl;have hn:ab7 g p K=⟨2+2*g.sz,aap (bz g p.lv) (dZ g p) (cZ g p) p.se K⟩:=rfl;rw[hn];clear hn;have hed: ∀e∈(bz g p.lv).ed,(0<=e.fr/\e.fr<g.sz)/\0<=e.to/\e.to<g.sz:=hgE.ed;rw[hzz]at hDl
 have hax:aap (bz g p.lv) (dZ g p) (cZ g p) p.se K=aj3 (fun k=>decide (0<=dZ g p k)) (fun k=>⟨0,2+2*k,cZ g p k⟩) p.se p.se.length++(aj3 (fun k=>decide (0<=dZ g p k)) (fun k=>⟨2+2*k,3+2*k,cZ g p k - 1⟩) ((List.range g.sz.toNat).map fun k:Nat=>(k:Int)) ((List.range g.sz.toNat).map fun k:Nat=>(k:Int)).length++(aj3 (fun k=>decide (0<=dZ g p k)) (fun k=>⟨2+2*k,1,1⟩) K K.length++aj3 (fun e:Ed=>decide (0<=dZ g p e.fr)) (fun e=>⟨3+2*e.fr,2+2*e.to,64⟩) (bz g p.lv).ed (bz g p.lv).ed.length)):=by
  rw[wy,wy,wy,wy];rfl
 rw[hax];clear hax;generalize (bg (bz g p.lv) p.se).map (kw p.ta)=C at*;generalize bg (bz g p.lv) p.se=D at*;obtain⟨z,hz⟩: ∃z:Nat,g.sz=(z:Int):=⟨g.sz.toNat,by omega⟩;have hz2:g.sz.toNat=z:=by omega
 rw[hz2]at hDl ⊢;have rl:((List.range z).map fun k:Nat=>(k:Int)).length=z:=by simp
 have re: ∀k,k<z->el ((List.range z).map fun k:Nat=>(k:Int)) k=(k:Int):=fun k hk=>by simp[el,aw,hk]
 have u1:=fun i (h:i<p.se.length)=>rg (q:=fun k=>decide (0<=dZ g p k)) (f:=fun k=>(⟨0,2+2*k,cZ g p k⟩:Ac)) h;have u2:=fun i (h:i<((List.range z).map fun k:Nat=>(k:Int)).length)=>rg (q:=fun k=>decide (0<=dZ g p k)) (f:=fun k=>(⟨2+2*k,3+2*k,cZ g p k - 1⟩:Ac)) h;have u3:=fun i (h:i<K.length)=>rg (q:=fun k=>decide (0<=dZ g p k)) (f:=fun k=>(⟨2+2*k,1,1⟩:Ac)) h;have u4:=fun i (h:i<(bz g p.lv).ed.length)=>rg (q:=fun e:Ed=>decide (0<=dZ g p e.fr)) (f:=fun e=>(⟨3+2*e.fr,2+2*e.to,64⟩:Ac)) h;have l1:=vw (fun k=>decide (0<=dZ g p k)) (fun k=>(⟨0,2+2*k,cZ g p k⟩:Ac)) p.se;have l2:=vw (fun k=>decide (0<=dZ g p k)) (fun k=>(⟨2+2*k,3+2*k,cZ g p k - 1⟩:Ac)) ((List.range z).map fun k:Nat=>(k:Int));have l3:=vw (fun k=>decide (0<=dZ g p k)) (fun k=>(⟨2+2*k,1,1⟩:Ac)) K;have l4:=vw (fun e:Ed=>decide (0<=dZ g p e.fr)) (fun e=>(⟨3+2*e.fr,2+2*e.to,64⟩:Ac)) (bz g p.lv).ed;have z1:=rb (fun k=>decide (0<=dZ g p k)) (fun k=>(⟨0,2+2*k,cZ g p k⟩:Ac)) p.se;have z2:=rb (fun k=>decide (0<=dZ g p k)) (fun k=>(⟨2+2*k,3+2*k,cZ g p k - 1⟩:Ac)) ((List.range z).map fun k:Nat=>(k:Int));have z3:=rb (fun k=>decide (0<=dZ g p k)) (fun k=>(⟨2+2*k,1,1⟩:Ac)) K;have z4:=rb (fun e:Ed=>decide (0<=dZ g p e.fr)) (fun e=>(⟨3+2*e.fr,2+2*e.to,64⟩:Ac)) (bz g p.lv).ed;rw[rl]at*;generalize aj3 (fun k=>decide (0<=dZ g p k)) (fun k=>(⟨0,2+2*k,cZ g p k⟩:Ac)) p.se=U1 at*;generalize aj3 (fun k=>decide (0<=dZ g p k)) (fun k=>(⟨2+2*k,3+2*k,cZ g p k - 1⟩:Ac)) ((List.range z).map fun k:Nat=>(k:Int))=U2 at*;generalize aj3 (fun k=>decide (0<=dZ g p k)) (fun k=>(⟨2+2*k,1,1⟩:Ac)) K=U3 at*;generalize aj3 (fun e:Ed=>decide (0<=dZ g p e.fr)) (fun e=>(⟨3+2*e.fr,2+2*e.to,64⟩:Ac)) (bz g p.lv).ed=U4 at*;have hgG:(bz g p.lv).gone=g.gone:=rfl;generalize bz g p.lv=G at*;rw[dv,mt]at cC;rw[dv,dv]at cL;rw[dv]at cD;rw[dv,mt]at cA;have w0:IntKind.i64.wrap (2*(z:Int))=2*(z:Int):=by rw[ae]<;>omega
 have w1:IntKind.i64.wrap (2+2*(z:Int))=2+2*(z:Int):=by rw[ae]<;>omega
 rw[hz]at cC cK cL;rw[hzz,hz]at cD cA cL;rw[hz];simp only[go_sem,hz];refine call cC [] ?_;simp only[go_sem,hz];refine call cK [] ?_;simp only[go_sem,hz];refine call cL [] ?_;simp only[go_sem];refine call cD [] ?_;simp only[go_sem];refine call cA [] ?_;simp only[go_sem,w0,w1];obtain⟨R2,hR2⟩: ∃R:Nat->List Ac,∀i,R i=U1 p.se.length++U2 i:=⟨_,fun _=>rfl⟩;obtain⟨R3,hR3⟩: ∃R:Nat->List Ac,∀i,R i=U1 p.se.length++(U2 z++U3 i):=⟨_,fun _=>rfl⟩;obtain⟨R4,hR4⟩: ∃R:Nat->List Ac,∀i,R i=U1 p.se.length++(U2 z++(U3 K.length++U4 i)):=⟨_,fun _=>rfl⟩;have b1: ∀i,i<=p.se.length->(U1 i).length<=1500:=fun i hi=>by have:=l1 i;omega
 have b2: ∀i,i<=z->(R2 i).length<=1500:=fun i hi=>by have h1:=l1 p.se.length;have h2:=l2 i;rw[hR2,List.length_append];omega
 have b3: ∀i,i<=K.length->(R3 i).length<=1500:=fun i hi=>by have h1:=l1 p.se.length;have h2:=l2 z;have h3:=l3 i;rw[hR3,List.length_append,List.length_append];omega
 have b4: ∀i,i<=G.ed.length->(R4 i).length<=1500:=fun i hi=>by have h1:=l1 p.se.length;have h2:=l2 z;have h3:=l3 K.length;have h4:=l4 i;rw[hR4,List.length_append,List.length_append,List.length_append];omega
 have v2: ∀i,i<z->R2 (i+1)=R2 i++if decide (0<=dZ g p (i:Int))=true then [⟨2+2*(i:Int),3+2*(i:Int),cZ g p (i:Int) - 1⟩]else []:=fun i hi=>by rw[hR2,hR2,u2 i hi,re i hi,List.append_assoc]
 have v3: ∀i,i<K.length->R3 (i+1)=R3 i++if decide (0<=dZ g p (el K i))=true then [⟨2+2*el K i,1,1⟩]else []:=fun i hi=>by rw[hR3,hR3,u3 i hi,List.append_assoc,List.append_assoc]
 have v4: ∀i,i<G.ed.length->R4 (i+1)=R4 i++if decide (0<=dZ g p (el G.ed i).fr)=true then [⟨3+2*(el G.ed i).fr,2+2*(el G.ed i).to,64⟩]else []:=fun i hi=>by rw[hR4,hR4,u4 i hi,List.append_assoc,List.append_assoc,List.append_assoc]
 have q2:R2 0=U1 p.se.length:=by rw[hR2,z2,List.append_nil]
 have q3:R3 0=R2 z:=by rw[hR3,hR2,z3,List.append_nil]
 have q4:R4 0=R3 K.length:=by rw[hR4,hR3,z4,List.append_nil]
 rw[<-hR4];clear hR2 hR3 hR4 l1 l2 l3 l4 z2 z3 z4 u2 u3 u4 cC cK cL cD cA hcap;refine⟨ag (by kernel_rfl),?_⟩;refine jf (Cv.cellLift (m:=11) (j:=1) (n:=999) (e:=156) (sz:=3) (by rfl) (by rfl) (by rfl) (by omega)) ?_;refine loop Tryz.mixed (0:Nat) (fun i:Nat=>[(2,.vs (K.map i1)),(3,.ptr 3 0),(4,.ptr 4 0),(6,.ptr 6 0),(9,.vs (D.map i1)),(10,.vs (C.map i1)),(11,.ptr 11 0),(12,.int .i64 i)]) (fun i=>[(3,.cells [.int .i64 z,.vs (G.ed.map edr),.vs (G.gone.map i1)]),(4,.cells [.vs (p.se.map i1),.vs (p.ta.map i1),.int .i64 p.lv]),(6,.cells [.int .i64 0,.nils]),(11,.cells [.int .i64 (2+2*z),.os 999 (U1 i).length]),(999,.arr 156 3 false ((U1 i).map acr))]) (fun i=>i<=p.se.length) (fun i=>p.se.length - i) (by kernel_rfl) (Nat.zero_le _) ?_ ?_
 ·simp only[go_sem,z1,List.map_nil,List.length_nil]
 intro i hi;by_cases g1:i<p.se.length
 rotate_left
 ·have:i=p.se.length:=by omega
  subst this;have g2: ¬((p.se.length:Nat):Int)<(p.se.length:Int):=by omega
  rw[<-q2];simp only[go_sem,g2];refine loop Tryz.mixed (0:Nat) (fun i:Nat=>[(2,.vs (K.map i1)),(3,.ptr 3 0),(4,.ptr 4 0),(6,.ptr 6 0),(9,.vs (D.map i1)),(10,.vs (C.map i1)),(11,.ptr 11 0),(14,.int .i64 i)]) (fun i=>[(3,.cells [.int .i64 z,.vs (G.ed.map edr),.vs (G.gone.map i1)]),(4,.cells [.vs (p.se.map i1),.vs (p.ta.map i1),.int .i64 p.lv]),(6,.cells [.int .i64 0,.nils]),(11,.cells [.int .i64 (2+2*z),.os 999 (R2 i).length]),(999,.arr 156 3 false ((R2 i).map acr))]) (fun i=>i<=z) (fun i=>z - i) (by kernel_rfl) (Nat.zero_le _) ?_ ?_
  ·simp only[go_sem,]
  intro i hi;by_cases g1:i<z
  rotate_left
  ·have:i=z:=by omega
   rw[this];have g2: ¬((z:Nat):Int)<(z:Int):=by omega
   rw[<-q3];simp only[go_sem,g2];refine loop Tryz.mixed (0:Nat) (fun i:Nat=>[(2,.vs (K.map i1)),(3,.ptr 3 0),(4,.ptr 4 0),(6,.ptr 6 0),(9,.vs (D.map i1)),(10,.vs (C.map i1)),(11,.ptr 11 0),(15,.int .i64 i)]) (fun i=>[(3,.cells [.int .i64 z,.vs (G.ed.map edr),.vs (G.gone.map i1)]),(4,.cells [.vs (p.se.map i1),.vs (p.ta.map i1),.int .i64 p.lv]),(6,.cells [.int .i64 0,.nils]),(11,.cells [.int .i64 (2+2*z),.os 999 (R3 i).length]),(999,.arr 156 3 false ((R3 i).map acr))]) (fun i=>i<=K.length) (fun i=>K.length - i) (by kernel_rfl) (Nat.zero_le _) ?_ ?_
   ·simp only[go_sem,]
   intro i hi;by_cases g1:i<K.length
   rotate_left
   ·have:i=K.length:=by omega
    subst this;have g2: ¬((K.length:Nat):Int)<(K.length:Int):=by omega
    rw[<-q4];simp only[go_sem,g2];refine loop Tryz.mixed (0:Nat) (fun i:Nat=>[(2,.vs (K.map i1)),(3,.ptr 3 0),(4,.ptr 4 0),(6,.ptr 6 0),(9,.vs (D.map i1)),(10,.vs (C.map i1)),(11,.ptr 11 0),(16,.int .i64 i)]) (fun i=>[(3,.cells [.int .i64 z,.vs (G.ed.map edr),.vs (G.gone.map i1)]),(4,.cells [.vs (p.se.map i1),.vs (p.ta.map i1),.int .i64 p.lv]),(6,.cells [.int .i64 0,.nils]),(11,.cells [.int .i64 (2+2*z),.os 999 (R4 i).length]),(999,.arr 156 3 false ((R4 i).map acr))]) (fun i=>i<=G.ed.length) (fun i=>G.ed.length - i) (by kernel_rfl) (Nat.zero_le _) ?_ ?_
    ·simp only[go_sem,]
    intro i hi;by_cases g1:i<G.ed.length
    rotate_left
    ·have:i=G.ed.length:=by omega
     subst this;have g2: ¬((G.ed.length:Nat):Int)<(G.ed.length:Int):=by omega
     simp only[go_sem,g2]
     done
    have w2:IntKind.i64.wrap ((i:Int)+1)=((i+1:Nat):Int):=by rw[ae]<;>omega
    have g2:(i:Int)<(G.ed.length:Int):=by omega
    obtain⟨⟨k0,k1⟩,j0,j1⟩:=hed _ (dl g1);have k2:(el G.ed i).fr.toNat<D.length:=by omega
    have k3:(el G.ed i).fr<(D.length:Int):=by omega
    have hd:=hdz (el G.ed i).fr;have cE:=qj (el G.ed i).to ⟨j0,by omega⟩;have cX:=aor (el G.ed i).fr ⟨k0,by omega⟩;have hsu:=v4 i g1;have hb:=b4 i hi;generalize R4 i=o at*;by_cases c:0<=dZ g p (el G.ed i).fr
    ·rw[if_pos (decide_eq_true c)]at hsu;simp only[go_sem,g1,g2,k0,k2,k3,hd,c];refine call cX [] ?_;simp only[go_sem];refine call cE [] ?_;simp only[go_sem,w2];refine⟨by omega,?_⟩
     (repeat refine And.intro (by first|omega|exact ag (by kernel_rfl)) ?_)
     exact⟨i+1,⟨by omega,by omega⟩,rfl,by rw[hsu,List.length_append];rfl,by rw[hsu,List.map_append];rfl⟩
    ·rw[if_neg (by simpa using c),List.append_nil]at hsu;simp only[go_sem,g1,g2,k0,k2,k3,hd,c,w2];exact⟨i+1,⟨by omega,by omega⟩,rfl,by rw[hsu],by rw[hsu]⟩
   have w2:IntKind.i64.wrap ((i:Int)+1)=((i+1:Nat):Int):=by rw[ae]<;>omega
   have g2:(i:Int)<(K.length:Int):=by omega
   obtain⟨k0,k1⟩:=s2 _ (dl g1);have k2:(el K i).toNat<D.length:=by omega
   have k3:el K i<(D.length:Int):=by omega
   have hd:=hdz (el K i);have cE:=qj (el K i) ⟨k0,by omega⟩;have hsu:=v3 i g1;have hb:=b3 i hi;generalize R3 i=o at*;by_cases c:0<=dZ g p (el K i)
   ·rw[if_pos (decide_eq_true c)]at hsu;simp only[go_sem,g1,g2,k0,k2,k3,hd,c];refine call cE [] ?_;simp only[go_sem,w2];refine⟨by omega,?_⟩
    (repeat refine And.intro (by first|omega|exact ag (by kernel_rfl)) ?_)
    exact⟨i+1,⟨by omega,by omega⟩,rfl,by rw[hsu,List.length_append];rfl,by rw[hsu,List.map_append];rfl⟩
   ·rw[if_neg (by simpa using c),List.append_nil]at hsu;simp only[go_sem,g1,g2,k0,k2,k3,hd,c,w2];exact⟨i+1,⟨by omega,by omega⟩,rfl,by rw[hsu],by rw[hsu]⟩
  have w2:IntKind.i64.wrap ((i:Int)+1)=((i+1:Nat):Int):=by rw[ae]<;>omega
  have g2:(i:Int)<(z:Int):=by omega
  have k2:i<D.length:=by omega
  have k3:(i:Int)<(D.length:Int):=by omega
  have k4:i<C.length:=by omega
  have k5:(i:Int)<(C.length:Int):=by omega
  have hd:=hdz (i:Int);have hc:=hC (i:Int) (by omega) (by omega);rw[Int.toNat_natCast]at hd hc;have hcc:=hcb (i:Int);have w3:IntKind.i64.wrap (cZ g p (i:Int) - 1)=cZ g p (i:Int) - 1:=by rw[ae]<;>omega
  have cE:=qj (i:Int) ⟨by omega,by omega⟩;have cX:=aor (i:Int) ⟨by omega,by omega⟩;have hsu:=v2 i g1;have hb:=b2 i hi;generalize R2 i=o at*;by_cases c:0<=dZ g p (i:Int)
  ·rw[if_pos (decide_eq_true c)]at hsu;simp only[go_sem,g1,g2,k2,k3,hd,c];refine call cE [] ?_;simp only[go_sem];refine call cX [] ?_;simp only[go_sem,k4,k5,hc,w2,w3];refine⟨by omega,?_⟩
   (repeat refine And.intro (by first|omega|exact ag (by kernel_rfl)) ?_)
   exact⟨i+1,⟨by omega,by omega⟩,rfl,by rw[hsu,List.length_append];rfl,by rw[hsu,List.map_append];rfl⟩
  ·rw[if_neg (by simpa using c),List.append_nil]at hsu;simp only[go_sem,g1,g2,k2,k3,hd,c,w2];exact⟨i+1,⟨by omega,by omega⟩,rfl,by rw[hsu],by rw[hsu]⟩
 have w2:IntKind.i64.wrap ((i:Int)+1)=((i+1:Nat):Int):=by rw[ae]<;>omega
 have g2:(i:Int)<(p.se.length:Int):=by omega
 obtain⟨k0,k1⟩:=s1 _ (dl g1);have k2:(el p.se i).toNat<D.length:=by omega
 have k3:el p.se i<(D.length:Int):=by omega
 have k4:(el p.se i).toNat<C.length:=by omega
 have k5:el p.se i<(C.length:Int):=by omega
 have hd:=hdz (el p.se i);have hc:=hC _ k0 k1;have cE:=qj (el p.se i) ⟨k0,by omega⟩;have hsu:=u1 i g1;have hb:=b1 i hi;generalize U1 i=o at*;by_cases c:0<=dZ g p (el p.se i)
 ·rw[if_pos (decide_eq_true c)]at hsu;simp only[go_sem,g1,g2,k0,k2,k3,hd,c];refine call cE [] ?_;simp only[go_sem,k0,k4,k5,hc,w2];refine⟨by omega,?_⟩
  (repeat refine And.intro (by first|omega|exact ag (by kernel_rfl)) ?_)
  exact⟨i+1,⟨by omega,by omega⟩,rfl,by rw[hsu,List.length_append];rfl,by rw[hsu,List.map_append];rfl⟩
 ·rw[if_neg (by simpa using c),List.append_nil]at hsu;simp only[go_sem,g1,g2,k0,k2,k3,hd,c,w2];exact⟨i+1,⟨by omega,by omega⟩,rfl,by rw[hsu],by rw[hsu]⟩
theorem anv(n:Nt)(h:OkNw n):Den Tryz.prog 41 [.agg (ntw n)] [] (.tup [.vs ((zh (byF n (aet n)) (n.nd.toNat - 1)).map i1),.int .i64 0]) [] []:=by
 refine aa Tryz.func41 rfl Tryz.call41 Tryz.ntmps41 Tryz.results41 (by simp) (by kernel_rfl) [] (exts:=[]) rfl rfl ?_;obtain⟨hn0,hn1⟩:=h.nd;have hnt:=h.nt;obtain⟨N,hN⟩: ∃N:Nat,n.nd=(N:Int):=⟨n.nd.toNat,by omega⟩;have hN2:n.nd.toNat=N:=by omega
 have cM:=ahq n h;have hfl:=(ad5 hnt).1;have cR:=aiw n (aet n) h hfl;have hby:(byF n (aet n)).length=N:=by rw[byF,(tk hnt).len,hN2]
 rw[iv,hN]at cM;rw[iv,hN2,hN,hfl]at cR;rw[iv,hN2,hN];generalize aet n=f at*;generalize byF n f=B at*;have s0:zh B 0=[0]:=rfl;have ss: ∀k,zh B (k+1)=zh B k++if el B (k+1)=0 then []else [((k:Int)+1)]:=fun k=>rfl
 have sl:=ai0 B;generalize zh B=S at*;simp only[go_sem];refine call cM [] ?_;simp only[go_sem];refine call cR [11] ?_;simp only[go_sem];refine⟨Nat.le_refl _,?_⟩;have hs0:[[PV.int IntKind.i64 0]]=(S 0).map i1:=by rw[s0];rfl
 have hl0:(S 0).length=1:=by rw[s0];rfl
 refine loop Tryz.mixed (0:Nat) (fun i:Nat=>[(1,.ptr 1 0),(6,.os 19 N),(7,.os 20 (S i).length),(8,.int .i64 (i+1:Nat))]) (fun i=>[(1,.cells [.int .i64 N,.vs (n.ac.map acr)]),(19,.arr 3 1 false (B.map i1)),(20,.arr 3 1 false ((S i).map i1))]) (fun i=>i<=N - 1) (fun i=>N - 1 - i) (by kernel_rfl) (Nat.zero_le _) ?_ ?_
 ·rw[<-hs0,hl0];simp only[go_sem]
 intro i hi;have hsl:=sl i;by_cases g1:i<N - 1
 ·have g2:((i+1:Nat):Int)<(N:Int):=by omega
  have g3:i+1<N:=by omega
  have hsu:=ss i;have w2:IntKind.i64.wrap (((i+1:Nat):Int)+1)=((i+1+1:Nat):Int):=by rw[ae]<;>omega
  by_cases c:el B (i+1)=0
  ·rw[if_pos c,List.append_nil]at hsu;generalize S i=o at*;simp only[go_sem,g2,g3,c,hby,w2];exact⟨i+1,⟨g1,Nat.sub_lt_sub_left g1 (Nat.lt_succ_self i)⟩,⟨by rw[hsu],rfl⟩,by rw[hsu]⟩
  ·rw[if_neg c]at hsu;generalize S i=o at*;have hb:(o.length+1)*8<=140737488355328:=by omega
   simp only[go_sem,g2,g3,c,hby,w2,hb];exact⟨i+1,⟨g1,Nat.sub_lt_sub_left g1 (Nat.lt_succ_self i)⟩,⟨by rw[hsu,List.length_append];rfl,rfl⟩,by rw[hsu,List.map_append];rfl⟩
 ·have:i=N - 1:=by omega
  subst this;have g2: ¬((N - 1+1:Nat):Int)<(N:Int):=by omega
  simp only[go_sem,g2]
theorem abr(g:Gr)(p:Pol)(K:List Int)(hg:bh g=true)(hp:i9 g.sz p=true)(hK:kr K g.sz=true):Den Tryz.prog 40 [.agg (gr g),.agg (pl p),.vs (K.map i1)] [] (.tup [.agg (ntw (ab7 g p K)),.vs ((aet (ab7 g p K)).map i1),.bool (decide (o8 (ab7 g p K) (aet (ab7 g p K))=(K.length:Int)))]) [] []:=by
 refine aa Tryz.func40 rfl Tryz.call40 Tryz.ntmps40 Tryz.results40 (by simp) (by kernel_rfl) [] (exts:=[]) rfl rfl ?_;have hnw:=amr hg hp hK;have cN:=amu g p K hg hp hK;have cM:=ahq _ hnw;have cV:=alh _ _ hnw (ad5 hnw.nt);have hfl:=(ad5 hnw.nt).1;generalize ab7 g p K=n at*;generalize o8 n (aet n)=v at*;generalize aet n=f at*;rw[dv,mt,iv]at cN;rw[iv]at cM cV;rw[dv,mt,iv];simp only[go_sem];refine call cN [] ?_;simp only[go_sem];refine call cM [] ?_;have hf2:=hfl.symm;simp only[go_sem];refine call cV [] ?_;simp only[go_sem,hf2];exact ag (by kernel_rfl)
def rfr(x:Int×List Int):List PV:=[.int .i64 x.1,.vs (x.2.map i1)]
noncomputable def bkk (g:Gr) (p:Pol) (s:List Int) (k:Int):List (Int×List Int):=if o8 (ab7 g p (aah s k)) (aet (ab7 g p (aah s k)))=((aah s k).length:Int)then []else [(k,zh (byF (ab7 g p (aah s k)) (aet (ab7 g p (aah s k)))) ((ab7 g p (aah s k)).nd.toNat - 1))]
noncomputable def bfg (g:Gr) (p:Pol) (o:List Int):Nat->List (Int×List Int)
 |0=>[]
 |i+1=>bfg g p o i++bkk g p (acb g p (o.take i)).2 (el o i)
theorem a0a(g:Gr)(p:Pol)(hg:bh g=true)(hp:i9 g.sz p=true): ∃(F:List Int) (R:List (Int×List Int)),Den Tryz.prog 15 [.agg (gr g),.agg (pl p)] [] (.tup [.agg [.vs ((acb g p (afr (bg (bz g p.lv) p.se) g.sz.toNat)).1.map i1),.vs (F.map i1),.vs (R.map rfr)],.int .i64 0]) [] []:=by
 refine⟨aet (ab7 g p (acb g p (afr (bg (bz g p.lv) p.se) g.sz.toNat)).2),bfg g p (afr (bg (bz g p.lv) p.se) g.sz.toNat) (afr (bg (bz g p.lv) p.se) g.sz.toNat).length,?_⟩;refine aa Tryz.func15 rfl Tryz.call15 Tryz.ntmps15 Tryz.results15 (by simp) (by kernel_rfl) [] (exts:=[]) rfl rfl ?_;obtain⟨⟨a1,a2,a3⟩,b,c,_⟩:=ey.1 hg;obtain⟨p1,p2,p3,p4⟩:=oc.1 hp;have lS:=l9 p2 a1;have lG:=l9 b a1;have hcap:qr g p=0:=by unfold qr;rw[if_neg (by simp[hg]),if_neg (by simp[hp])]
 have bS:big p.se.length:=by simp only[big];omega
 have bT:big p.ta.length:=by simp only[big];omega
 have bG:big g.gone.length:=by simp only[big];omega
 have cC:=a2v g p (by simp only[big];omega) bG bS bT;rw[hcap]at cC;have cL:=x8 g p.lv (by omega) (by omega);have hel:(bz g p.lv).ed.length<=g.ed.length:=List.length_filter_le _ _;have cO:=alu (bz g p.lv) p.se (apl hg p.lv) a2 (by omega) bG bS;have hzz:(bz g p.lv).sz=g.sz:=rfl;rw[hzz]at cO
 have ho: ∀x∈afr (bg (bz g p.lv) p.se) g.sz.toNat,0<=x/\x<g.sz:=fun x hx=>by
  have:=(v7 hx).1;omega
 have hol:=aqy (bg (bz g p.lv) p.se) g.sz.toNat;generalize afr (bg (bz g p.lv) p.se) g.sz.toNat=o at*;have hAI:=ac3 (p:=p) ho;have hsu:=fun i (h:i<o.length)=>ag9 (g:=g) (p:=p) h;have hs0:acb g p (o.take 0)=([],[]):=rfl;have r0:bfg g p o 0=[]:=rfl;have rs: ∀i,bfg g p o (i+1)=bfg g p o i++bkk g p (acb g p (o.take i)).2 (el o i):=fun i=>rfl;generalize bfg g p o=R at*;generalize bz g p.lv=G at*;rw[dv,mt]at cC;rw[dv,dv]at cL;rw[dv]at cO;rw[dv,mt];simp only[go_sem];refine call cC [] ?_;simp only[go_sem];refine call cL [] ?_;simp only[go_sem];refine call cO [] ?_;simp only[go_sem];refine⟨ag (by kernel_rfl),?_⟩;refine jf (Cv.cellLift (m:=7) (j:=0) (n:=998) (e:=3) (sz:=1) (by rfl) (by rfl) (by rfl) (by omega)) ?_;refine jf (Cv.cellLift (m:=7) (j:=2) (n:=999) (e:=86) (sz:=2) (by rfl) (by rfl) (by rfl) (by omega)) ?_;refine loop Tryz.mixed (0:Nat) (fun i:Nat=>[(2,.ptr 2 0),(3,.ptr 3 0),(4,.ptr 4 0),(7,.ptr 7 0),(8,.vs ((acb g p (o.take i)).2.map i1)),(9,.vs (o.map i1)),(10,.int .i64 i)]) (fun i=>[(2,.cells (gr g)),(3,.cells (pl p)),(4,.cells [.nils,.nils,.nils]),(7,.cells [.os 998 (acb g p (o.take i)).1.length,.nils,.os 999 (R i).length]),(998,.arr 3 1 false ((acb g p (o.take i)).1.map i1)),(999,.arr 86 2 false ((R i).map rfr))]) (fun i=>i<=o.length/\(R i).length<=i) (fun i=>o.length - i) (by kernel_rfl) ⟨Nat.zero_le _,by rw[r0];exact Nat.le_refl _⟩ ?_ ?_
 ·rw[hs0,r0];simp only[go_sem]
 rintro i ⟨hi,hri⟩;have hA:=hAI i hi;have al:=hA.sub.length_le;rw[List.length_take]at al;have hset:=hA.set;have sl2:=l9 hset a1;by_cases g1:i<o.length
 rotate_left
 ·have:i=o.length:=by omega
  subst this;rw[List.take_length]at*;have g2: ¬((o.length:Nat):Int)<(o.length:Int):=by omega
  have cS:=abr g p _ hg hp hset;rw[dv,mt,iv]at cS;generalize acb g p o=s at*;simp only[go_sem,g2];refine call cS [] ?_;simp only[go_sem]
  done
 have g2:(i:Int)<(o.length:Int):=by omega
 obtain⟨k0,k1⟩:=ho _ (dl g1);have hsu:=hsu i g1;have rs:=rs i;have w2:IntKind.i64.wrap ((i:Int)+1)=((i+1:Nat):Int):=by rw[ae]<;>omega
 have hm1:o.length - (i+1)<o.length - i:=Nat.sub_lt_sub_left g1 (Nat.lt_succ_self i);generalize acb g p (o.take i)=s at*;generalize hk:el o i=k at*;obtain⟨x,y⟩:=s;simp only at al hset sl2 rs;have cP:=aim y k (by omega);have hps:=ap1 hset ⟨k0,k1⟩;have cS:=abr g p _ hg hp hps;have hnw:=amr hg hp hps;have cN:=anv _ hnw;rw[dv,mt,iv]at cS;rw[iv]at cN;unfold bhi at hsu;unfold bkk at rs;simp only at hsu;generalize hZ:aah y k=Z at*;generalize ab7 g p Z=n at*;generalize zh (byF n (aet n)) (n.nd.toNat - 1)=sd at*;generalize hr:R i=r at*;by_cases v:o8 n (aet n)=(Z.length:Int)
 ·rw[if_pos v]at hsu rs;rw[decide_eq_true v]at cS;simp only[go_sem,g2,g1,hk];refine call cP [] ?_;simp only[go_sem];refine call cS [] ?_;have hxb:(x.length+1)*8<=140737488355328:=by omega
  simp only[go_sem,hxb]
  (repeat refine And.intro (by first|omega|exact ag (by kernel_rfl)) ?_)
  refine call cP [] ?_;simp only[go_sem,w2];rw[List.append_nil]at rs;exact⟨i+1,⟨⟨g1,by rw[rs];omega⟩,hm1⟩,⟨by rw[hsu],rfl⟩,⟨by rw[hsu,List.length_append];rfl,by rw[rs]⟩,by rw[hsu,List.map_append];rfl,by rw[rs]⟩
 ·rw[if_neg v]at hsu rs;rw[decide_eq_false v]at cS;simp only[go_sem,g2,g1,hk];refine call cP [] ?_;simp only[go_sem];refine call cS [] ?_;simp only[go_sem]
  (repeat refine And.intro (by first|omega|exact ag (by kernel_rfl)) ?_)
  refine call cN [] ?_;have hrb:(r.length+1)*32<=140737488355328:=by omega
  simp only[go_sem,w2,hr,hrb];exact⟨i+1,⟨⟨g1,by rw[rs,List.length_append,List.length_singleton];omega⟩,hm1⟩,⟨by rw[hsu],rfl⟩,⟨by rw[hsu],by rw[rs,List.length_append];rfl⟩,by rw[hsu],by rw[rs,List.map_append];rfl⟩
theorem awo(G:Int)(i:Nat):af7 G ((i+1:Nat):Int)=af7 G (i:Int)++[G+i]:=by
 unfold af7;rw[Int.toNat_natCast,Int.toNat_natCast,List.range_succ,List.map_append];rfl
theorem anp(l K:List Int)(g:Gr)(A:Nat)(p:Nat)(hl:big l.length)(hp:p<=l.length)(hg:bh g=true)(hA:0<A)(hz:g.sz+A<=64)(hK: ∀x∈K,0<=x/\x<g.sz)(hKl:K.length<=64)(hel:g.ed.length<=400):Den Tryz.prog 14 [.ptr 1000000 0,.agg (gr g),.vs (K.map i1),.int .i64 A] [vp l p] (.tup [.agg (gr (dcG l K g A p).1),.vs ((af7 g.sz A).map i1)]) [] [vp l (dcG l K g A p).2]:=by
 refine aa Tryz.func14 rfl Tryz.call14 Tryz.ntmps14 Tryz.results14 (by simp) (by kernel_rfl) [] (exts:=[1000000]) rfl rfl ?_;have h0:0<=g.sz:=(ig.1 hg).1.1
 have hgl:g.gone.length<=64:=by
  have:=l9 (ey.1 hg).2.1 h0;omega
 have w1:IntKind.i64.wrap (g.sz+A)=g.sz+A:=by rw[ae]<;>omega
 have b1:((0:Int)+(g.ed.length:Int))*24<=140737488355328:=by omega
 have hn:=bi (l:=l) (p:=p) (n:=10) (by omega);have c10:=bt l p 10 hl hp (by omega);have hM:dcG l K g A p=akg l K g.sz A (ai l p 10).toNat (⟨g.sz+A,g.ed,g.gone⟩,dgo l p 1):=rfl;have hdi:DI ⟨g.sz+A,g.ed,g.gone⟩ g (g.sz+A) K g.ed.length:=ax6 hg (by omega) hz;generalize dcG l K g A p=M at*;obtain⟨m,hm⟩: ∃m:Nat,ai l p 10=(m:Int):=⟨(ai l p 10).toNat,by omega⟩;rw[hm]at c10 hn hM;rw[Int.toNat_natCast]at hM;have e0:ob l p=dgo l p 1:=rfl;rw[e0]at c10;have k0:af7 g.sz ((0:Nat):Int)=[]:=rfl;have ks:=awo g.sz;have kl: ∀i:Nat,(af7 g.sz i).length=i:=fun i=>by rw[aqr,Int.toNat_natCast]
 have ke: ∀(i:Int),0<=i->i<A->el (af7 g.sz A) i.toNat=g.sz+i:=fun i a b=>bcs a b;generalize af7 g.sz=T at*;simp only[go_sem,w1];refine⟨by omega,by omega,ag (by kernel_rfl),?_⟩;refine jf (Cv.cellList (n:=18) (m:=10) (j:=1) (e:=36) (sz:=3) (sh:=false) (xs:=g.ed.map edr) (by rfl) (by simp) (by rfl)) ?_;refine jf (Cv.cellList (n:=22) (m:=10) (j:=2) (e:=3) (sz:=1) (sh:=false) (xs:=g.gone.map i1) (by rfl) (by simp) (by rfl)) ?_;refine da 11 998 3 1 false ?_ (by rfl) (by rfl) (by omega);refine loop Tryz.mixed (0:Nat) (fun i:Nat=>[(0,.ptr 1000000 0),(2,.vs (K.map i1)),(3,.int .i64 A),(5,.ptr 5 0),(8,.ptr 8 0),(10,.ptr 10 0),(11,.os 998 i),(12,.int .i64 i)]) (fun i=>[(1000000,vp l p),(5,.cells (gr g)),(8,.cells [.int .i64 0,.nils,.nils]),(10,.cells [.int .i64 (g.sz+A),.vs (g.ed.map edr),.vs (g.gone.map i1)]),(998,.arr 3 1 false ((T (i:Int)).map i1))]) (fun i=>i<=A) (fun i=>A - i) (by kernel_rfl) (Nat.zero_le _) ?_ ?_
 ·rw[k0];simp only[go_sem]
 intro i hi;have hkl:=kl i;by_cases g1:i<A
 ·have g2:(i:Int)<(A:Int):=by omega
  have w2:IntKind.i64.wrap ((i:Int)+1)=((i+1:Nat):Int):=by rw[ae]<;>omega
  have w3:IntKind.i64.wrap (g.sz+i)=g.sz+i:=by rw[ae]<;>omega
  have hsu:=ks i;have hm1:A - (i+1)<A - i:=Nat.sub_lt_sub_left g1 (Nat.lt_succ_self i);generalize T (i:Int)=o at*;simp only[go_sem,g2,w2,w3,hkl];exact⟨by omega,i+1,⟨g1,hm1⟩,⟨rfl,rfl⟩,by rw[hsu,List.map_append];rfl⟩
 have:i=A:=by omega
 subst this;have g2: ¬((i:Nat):Int)<(i:Int):=by omega
 simp only[go_sem,g2];refine call c10 [1000000] ?_;simp only[go_sem];refine loop Tryz.mixed (m,((⟨g.sz+i,g.ed,g.gone⟩:Gr),dgo l p 1)) (fun s:Nat×(Gr×Nat)=>[(0,.ptr 1000000 0),(2,.vs (K.map i1)),(3,.int .i64 i),(8,.ptr 8 0),(10,.ptr 10 0),(11,.os 998 i),(13,.int .i64 s.1)]) (fun s=>[(1000000,vp l s.2.2),(8,.cells [.int .i64 0,.nils,.nils]),(10,.cells (gr s.2.1)),(998,.arr 3 1 false ((T (i:Int)).map i1))]) (fun s=>DI s.2.1 g (g.sz+i) K (g.ed.length+10 - s.1)/\s.1<=10/\s.2.2<=l.length/\akg l K g.sz i s.1 s.2=M) (fun s=>s.1) (by kernel_rfl) ⟨⟨hdi.ok,hdi.sz,hdi.gone,Nat.le_trans hdi.len (by omega),hdi.far⟩,by omega,dm hp 1,hM.symm⟩ ?_ ?_
 ·simp only[go_sem]
 rintro⟨n,h,q⟩ ⟨hd,hn10,hq,hR⟩;simp only at hd hn10 hq
 cases n with
 |zero=>
  subst hR;simp only[go_sem,hkl]
  exact⟨rfl,rfl,rfl,rfl⟩
 |succ n=>
  have gA:(0:Int)<(i:Int):=by omega
  have gp:(0:Int)<((n+1:Nat):Int):=by omega
  have q1:=dm hq 1;have q2:=dm hq 2;have q3:=dm hq 3;have f0:ob l q=dgo l q 1:=rfl;have f1:ob l (dgo l q 1)=dgo l q 2:=rfl;have f2:ob l (dgo l q 2)=dgo l q 3:=rfl;have f3:ob l (dgo l q 3)=dgo l q 4:=rfl;have hsz:h.sz=g.sz+i:=hd.sz;have hgo:h.gone=g.gone:=hd.gone;have hle:=hd.len;have hm1:IntKind.i64.wrap (((n+1:Nat):Int) - 1)=(n:Int):=by rw[ae]<;>omega
  have hS:=agl (l:=l) (A:=(i:Int)) (s:=(h,q)) hd gA h0 hK (by omega);have hSp:=abf (l:=l) (K:=K) (G:=g.sz) (A:=(i:Int)) (s:=(h,q)) hq;have hRR:akg l K g.sz i n (mi l K g.sz i (h,q))=M:=hR;have hnn:g.ed.length+10 - (n+1)+1=g.ed.length+10 - n:=by omega
  rw[hnn]at hS;have a1:=fun p=>bi (l:=l) (p:=p) (n:=(i:Int)) gA;have a2:=fun p=>bi (l:=l) (p:=p) (n:=h.sz) (by omega);have a3:=fun p=>bi (l:=l) (p:=p) (n:=3) (by omega);have cW:=fun e=>a2f h e (by omega) (by rw[hgo];simp only[big];omega);rw[dv]at cW;by_cases hk0:0<K.length
  ·have gK:(0:Int)<(K.length:Int):=by omega
   have cO:=alw l q 2 hl hq (by omega) (by omega);rw[show(2:Int) - 1=1 by omega]at cO;by_cases ho:ai l q 2=1
   ·rw[decide_eq_true ho]at cO;have hE:mi l K g.sz i (h,q)=(auh h ⟨el K (ai l (dgo l q 1) K.length).toNat,g.sz+ai l (dgo l q 2) i,1+ai l (dgo l q 3) 3⟩,dgo l q 4):=by unfold mi;rw[if_pos hk0,if_pos ho]
    rw[hE]at hS hSp hRR;have a4:=bi (l:=l) (p:=dgo l q 1) (n:=(K.length:Int)) gK;have x2:(ai l (dgo l q 1) K.length).toNat<K.length:=by omega
    have a5:=a1 (dgo l q 2);have y2:(ai l (dgo l q 2) i).toNat<i:=by omega
    have a6:=a3 (dgo l q 3);have ke2:=ke _ a5.1 a5.2;have w4:IntKind.i64.wrap (1+ai l (dgo l q 3) 3)=1+ai l (dgo l q 3) 3:=by rw[ae]<;>omega
    simp only[go_sem,gp,gA,gK];refine call cO [1000000] ?_;simp only[go_sem,f0];refine call (bt l (dgo l q 1) K.length hl q1 (by omega)) [1000000] ?_;simp only[go_sem,f1,a4.1,a4.2,x2];refine call (bt l (dgo l q 2) i hl q2 (by omega)) [1000000] ?_;simp only[go_sem,f2,a5.1,a5.2,y2,hkl,ke2];refine call (bt l (dgo l q 3) 3 hl q3 (by omega)) [1000000] ?_;simp only[go_sem,f3,w4];refine call (cW ⟨el K (ai l (dgo l q 1) K.length).toNat,g.sz+ai l (dgo l q 2) i,1+ai l (dgo l q 3) 3⟩) [] ?_;simp only[go_sem,hm1]
    (repeat refine And.intro (by first|omega|exact ag (by kernel_rfl)) ?_)
    exact⟨(n,auh h ⟨el K (ai l (dgo l q 1) K.length).toNat,g.sz+ai l (dgo l q 2) i,1+ai l (dgo l q 3) 3⟩,dgo l q 4),⟨⟨hS,Nat.le_of_succ_le hn10,hSp,hRR⟩,Nat.lt_succ_self n⟩,rfl,rfl,rfl,rfl,rfl⟩
   ·rw[decide_eq_false ho]at cO;have hE:mi l K g.sz i (h,q)=(auh h ⟨g.sz+ai l (dgo l q 1) i,ai l (dgo l q 2) h.sz,1+ai l (dgo l q 3) 3⟩,dgo l q 4):=by unfold mi;rw[if_pos hk0,if_neg ho]
    rw[hE]at hS hSp hRR;have a5:=a1 (dgo l q 1);have y2:(ai l (dgo l q 1) i).toNat<i:=by omega
    have a6:=a3 (dgo l q 3);have ke2:=ke _ a5.1 a5.2;have w4:IntKind.i64.wrap (1+ai l (dgo l q 3) 3)=1+ai l (dgo l q 3) 3:=by rw[ae]<;>omega
    simp only[go_sem,gp,gA,gK];refine call cO [1000000] ?_;simp only[go_sem,f0];refine call (bt l (dgo l q 1) i hl q1 (by omega)) [1000000] ?_;simp only[go_sem,f1,a5.1,a5.2,y2,hkl,ke2];refine call (bt l (dgo l q 2) h.sz hl q2 (by omega)) [1000000] ?_;simp only[go_sem,f2];refine call (bt l (dgo l q 3) 3 hl q3 (by omega)) [1000000] ?_;simp only[go_sem,f3,w4];refine call (cW ⟨g.sz+ai l (dgo l q 1) i,ai l (dgo l q 2) h.sz,1+ai l (dgo l q 3) 3⟩) [] ?_;simp only[go_sem,hm1]
    (repeat refine And.intro (by first|omega|exact ag (by kernel_rfl)) ?_)
    exact⟨(n,auh h ⟨g.sz+ai l (dgo l q 1) i,ai l (dgo l q 2) h.sz,1+ai l (dgo l q 3) 3⟩,dgo l q 4),⟨⟨hS,Nat.le_of_succ_le hn10,hSp,hRR⟩,Nat.lt_succ_self n⟩,rfl,rfl,rfl,rfl,rfl⟩
  ·have gK: ¬(0:Int)<(K.length:Int):=by omega
   have hE:mi l K g.sz i (h,q)=(auh h ⟨g.sz+ai l q i,ai l (dgo l q 1) h.sz,1+ai l (dgo l q 2) 3⟩,dgo l q 3):=by unfold mi;rw[if_neg hk0]
   rw[hE]at hS hSp hRR;have a5:=a1 q;have y2:(ai l q i).toNat<i:=by omega
   have a6:=a3 (dgo l q 2);have ke2:=ke _ a5.1 a5.2;have w4:IntKind.i64.wrap (1+ai l (dgo l q 2) 3)=1+ai l (dgo l q 2) 3:=by rw[ae]<;>omega
   simp only[go_sem,gp,gA,gK];refine call (bt l q i hl hq (by omega)) [1000000] ?_;simp only[go_sem,f0,a5.1,a5.2,y2,hkl,ke2];refine call (bt l (dgo l q 1) h.sz hl q1 (by omega)) [1000000] ?_;simp only[go_sem,f1];refine call (bt l (dgo l q 2) 3 hl q2 (by omega)) [1000000] ?_;simp only[go_sem,f2,w4];refine call (cW ⟨g.sz+ai l q i,ai l (dgo l q 1) h.sz,1+ai l (dgo l q 2) 3⟩) [] ?_;simp only[go_sem,hm1]
   (repeat refine And.intro (by first|omega|exact ag (by kernel_rfl)) ?_)
   exact⟨(n,auh h ⟨g.sz+ai l q i,ai l (dgo l q 1) h.sz,1+ai l (dgo l q 2) 3⟩,dgo l q 3),⟨⟨hS,Nat.le_of_succ_le hn10,hSp,hRR⟩,Nat.lt_succ_self n⟩,rfl,rfl,rfl,rfl,rfl⟩
theorem ahd(hAw:Den Tryz.prog 7 [] [] (.bool true) [] [])
  (hD: ∀(g:Gr) (p:Pol),qr g p=0->g.ed.length<=1000->Den Tryz.prog 29 [.agg (gr (bz g p.lv)),.vs (p.se.map i1)] [] (.os 0 (bg (bz g p.lv) p.se).length) [.arr 3 1 false ((bg (bz g p.lv) p.se).map i1)] [])
  (l:List Int) (att:Int) (hm:0<=att/\att<256):Den Tryz.prog 4 [.vs (l.map i1),.int .u8 att] [] (.bool true) [] []:=by
 refine aa Tryz.func4 rfl Tryz.call4 Tryz.ntmps4 Tryz.results4 (by simp) (by kernel_rfl) [] (exts:=[]) rfl rfl ?_;simp only[go_sem];refine call (az7 l) [] ?_;by_cases hL:l.length<=400
 rotate_left
 ·simp only[go_sem,hL];refine call hAw [] ?_;simp only[go_sem]
 have hl:big l.length:=by simp only[big];omega
 simp only[go_sem,hL];refine call (bgb l) [] ?_;simp only[go_sem];refine call (ark l 0 hl (Nat.zero_le _)) [22] ?_;obtain⟨hok,hsz,hgo,hle⟩:=axd l 0;have hzb:=aqh l 0;have hP:=ber l (Nat.zero_le _);have hgn:(mgr l 0).1.gone.length<=1:=by rw[hgo];exact(akv (l:=l) (p:=0)).2.2.2
 have hcap: ∀q,qr (mgr l 0).1 (a56 l (gSz l 0) q)=0:=fun q=>a5m l 0 q;have hpo: ∀q,i9 (gSz l 0) (a56 l (gSz l 0) q)=true:=fun q=>azg l q (by omega);rw[<-hsz]at hcap hpo hzb;clear hsz hgo;generalize mgr l 0=G at*;obtain⟨g,P⟩:=G;simp only at*;simp only[go_sem];have cP:=ama l P g hl hP (by omega) (by omega);rw[dv,mt]at cP;refine call cP [22] ?_;have hQ:=a4b l hP;have hca:=hcap P;have hpl:=hpo P;clear hcap hpo;have hse:big (a56 l g.sz P).se.length:=by have:=(agi l (sz:=g.sz) P (by omega)).2.2;show big (qd l g.sz P).length;simp only[big];omega
 have hta0:=adp hpl
 have htl:(a56 l g.sz P).ta.length<=8:=by
  unfold i9 at hpl;simp only[Bool.and_eq_true,decide_eq_true_eq]at hpl;exact hpl.2.2.1.2.1
 generalize a56 l g.sz P=p at*;generalize ayr l P=Q at*;have cS:=bd6 l Q g.sz.toNat hl hQ (by omega);rw[show((g.sz.toNat:Nat):Int)=g.sz by omega]at cS;have k1:=abe l g.sz.toNat 0 Q;have k2:=o9 l g.sz.toNat 0 Q;have hQ2:=aqc l g.sz.toNat Q hQ;simp only[go_sem];refine call cS [22] ?_;generalize qw l g.sz.toNat 0 Q=k at*;generalize aey l g.sz.toNat Q=R at*;have k3: ∀x∈k,0<=x/\x<g.sz:=fun x hx=>by have:=k2 x hx;omega
 have dk:=bcq (by omega) (by omega:g.sz<=16) k1 k3;have kl:k.length<=16:=by unfold a15 at dk;rw[Bool.and_eq_true,decide_eq_true_eq]at dk;exact dk.2
 have cA:=zk g p k (by omega) (by omega) hse (by simp only[big];omega) (by simp only[big];omega) (fun h=>hD g p h (by omega));rw[dv,mt,show alv g p k=(yy (bg (bz g p.lv) p.se) g.gone p.ta k,0) by unfold alv;rw[if_neg (by simp[hca]),if_neg (by simp[dk])]]at cA;simp only[go_sem];refine call cA [] ?_;have a0:0<=att.tmod 6/\att.tmod 6<6:=⟨Int.tmod_nonneg _ hm.1,Int.tmod_lt_of_pos _ (by omega)⟩;have wm:IntKind.i64.wrap att=att:=by rw[ae]<;>omega
 have wa:IntKind.i64.wrap (1+att.tmod 6)=1+att.tmod 6:=by rw[ae]<;>omega
 obtain⟨A,hA⟩: ∃A:Nat,1+att.tmod 6=(A:Int):=⟨(1+att.tmod 6).toNat,by omega⟩;rw[hA]at wa;have hA1:0<A/\A<=6:=by omega
 have cD:=anp l k g A R hl hQ2 hok hA1.1 (by omega) k3 (by omega) (by omega);have dG:=bhp (l:=l) (K:=k) (g:=g) (A:=(A:Int)) (p:=R) hok (by omega) (by omega) k3 hQ2 (by omega);rw[dv,dv]at cD;generalize dcG l k g A R=H at*;obtain⟨h,R2⟩:=H;simp only at cD dG;obtain⟨hd,hR2⟩:=dG;have hhz:=hd.sz;have hhl:=hd.len;have hhg:=hd.gone;have hbd:=agk hok hpl hd (by omega) k3;obtain⟨F,RR,cR⟩:=a0a h p hd.ok (ayq hpl (by omega));have cK:=ac5 h (by simp only[big];omega) (by rw[hhg];simp only[big];omega);rw[if_pos hd.ok,dv]at cK;rw[dv,mt]at cR
 have hal:(acb h p (afr (bg (bz h p.lv) p.se) h.sz.toNat)).1.length<=64:=by
  have h1:=(ac3 (g:=h) (p:=p) (o:=afr (bg (bz h p.lv) p.se) h.sz.toNat) (fun x hx=>by have:=(v7 hx).1;omega) _ (Nat.le_refl _)).sub.length_le;rw[List.take_length]at h1;have h2:=aqy (bg (bz h p.lv) p.se) h.sz.toNat;omega
 generalize (acb h p (afr (bg (bz h p.lv) p.se) h.sz.toNat)).1=acc at*;generalize yy (bg (bz g p.lv) p.se) g.gone p.ta k=X at*;have hTl:=aqr g.sz A;generalize af7 g.sz A=T at*;have cH:=fun x=>beo T x (by simp only[big];omega);obtain⟨N,hN⟩: ∃N:Nat->Nat,∀i,N i=((acc.take i).filter fun x=>decide (x∈T)).length:=⟨_,fun _=>rfl⟩;have n0:N 0=0:=by rw[hN];rfl
 have ns: ∀i,i<acc.length->N (i+1)=N i+if el acc i∈T then 1 else 0:=fun i hi=>by
  have e:acc.take (i+1)=acc.take i++[el acc i]:=by
   rw[List.take_add_one,a8 hi,Option.toList_some];simp[el,aw,hi]
  rw[hN,hN,e,List.filter_append,List.length_append];congr 1;by_cases c:el acc i∈T
  ·rw[if_pos c,List.filter_cons_of_pos (by simpa using c)];rfl
  ·rw[if_neg c,List.filter_cons_of_neg (by simpa using c)];rfl
 have nl: ∀i,N i<=64:=fun i=>by
  rw[hN];have h1:=List.length_filter_le (fun x=>decide (x∈T)) (acc.take i);rw[List.length_take]at h1;omega
 have nX:(N acc.length:Int)<=X:=by rw[hN,List.take_length];exact hbd
 clear hbd hN;simp only[go_sem,wm,hA,wa];refine call cD [22] ?_;simp only[go_sem];refine call cR [] ?_;simp only[go_sem];refine loop Tryz.mixed (0:Nat) (fun i:Nat=>[(9,.int .i64 X),(11,.ptr 11 0),(12,.vs (T.map i1)),(13,.ptr 13 0),(15,.int .i64 (N i)),(16,.int .i64 i)]) (fun i=>[(11,.cells (gr h)),(13,.cells [.vs (acc.map i1),.vs (F.map i1),.vs (RR.map rfr)])]) (fun i=>i<=acc.length) (fun i=>acc.length - i) (by kernel_rfl) (Nat.zero_le _) ?_ ?_
 ·simp only[go_sem,n0]
 intro i hi;have hni:=nl i;by_cases g1:i<acc.length
 ·have g2:(i:Int)<(acc.length:Int):=by omega
  have w2:IntKind.i64.wrap ((i:Int)+1)=((i+1:Nat):Int):=by rw[ae]<;>omega
  have w3:IntKind.i64.wrap ((N i:Int)+1)=((N i+1:Nat):Int):=by rw[ae]<;>omega
  have hsu:=ns i g1;have hm1:acc.length - (i+1)<acc.length - i:=Nat.sub_lt_sub_left g1 (Nat.lt_succ_self i);simp only[go_sem,g1,g2];refine call (cH (el acc i)) [] ?_;by_cases c:el acc i∈T
  ·rw[if_pos c]at hsu;simp only[go_sem,c,w2,w3];exact⟨i+1,⟨g1,hm1⟩,by rw[hsu],rfl⟩
  ·rw[if_neg c]at hsu;simp only[go_sem,c,w2];exact⟨i+1,⟨g1,hm1⟩,by rw[hsu];rfl,rfl⟩
 have:i=acc.length:=by omega
 subst this;have g2: ¬((acc.length:Nat):Int)<(acc.length:Int):=by omega
 simp only[go_sem,g2,nX];refine call cK [] ?_;simp only[go_sem];refine call hAw [] ?_;simp only[go_sem]
theorem y9(l:List Int)(att:Int)(hm:0<=att/\att<256):Den Tryz.prog 4 [.vs (l.map i1),.int .u8 att] [] (.bool true) [] []:=
 ahd al6 ao5 l att hm
end Go.Proofs.Am
