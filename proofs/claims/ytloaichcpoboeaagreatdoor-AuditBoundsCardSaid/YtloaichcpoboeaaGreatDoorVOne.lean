/- VOne. -/
import Derived.Test.YtloaichcpoboeaaGreatDoorUOne
import Derived.Test.YtloaichcpoboeaaGreatDoorHOne
set_option maxHeartbeats 1000000
set_option maxRecDepth 100000
set_option linter.unusedSimpArgs false
set_option linter.unusedVariables false
namespace Go.Proofs.Am
open Go Go.RowKit
open Go.Proofs
theorem ax7(l:List Int):lm l=vy l:=by
 rw[Bool.eq_iff_iff];constructor
 ·intro h;obtain⟨h1,h2,h3⟩:=ru.1 h;have hk: ∀x∈l,0<=x/\x<64:=fun x hx=>im.1 (h2 x hx);refine avy h3 hk h1 ?_
  have:=azt (l:=l) (m:=(List.range 64).map fun i:Nat=>(i:Int)) (h3.imp fun h=>by omega) fun x hx=>by
   have:=hk x hx;exact List.mem_map.2 ⟨x.toNat,List.mem_range.2 (by omega),by omega⟩
  simpa using this
 ·intro h;obtain⟨h1,h2,h3,_⟩:=tu h;exact ru.2 ⟨h3,fun k hk=>im.2 (h2 k hk),h1⟩
theorem sq(l:List Int)(hl:big l.length):Den Tryz.prog 127 [.vs (l.map i1)] [] (.bool (vy l)) [] []:=ax7 l ▸ agw l hl
theorem abd(l:List Int)(n m:Int)(hm:m=n - 1)(hl:big l.length):Den Tryz.prog 56 [.vs (l.map i1),.int .i64 0,.int .i64 m] [] (.bool (kr l n)) [] []:=by
 refine aa Tryz.func56 rfl Tryz.call56 Tryz.ntmps56 Tryz.results56 (by simp) (by kernel_rfl) [] (exts:=[]) rfl rfl ?_;generalize hq:kr l n=q;have hbad:kr l n=false->q=false:=fun h=>by rw[<-hq];exact h
 have hgood:kr l n=true->q=true:=fun h=>by rw[<-hq];exact h
 simp only[go_sem];refine loop Tryz.mixed 0 (fun i:Nat=>[(0,.vs (l.map i1)),(1,.int .i64 0),(2,.int .i64 m),(9,.vs (l.map i1)),(10,.int .i64 l.length),(11,.int .i64 i)]) (fun i=>[]) (fun i=>i<=l.length/\∀j,j<i->iq n l j=true) (fun i=>l.length - i) (by kernel_rfl) ?_ ?_ ?_
 ·simp
 ·simp only[go_sem]
 ·rintro i ⟨hi,hp⟩;by_cases hi':i<l.length
  ·have hlt:(i:Int)<(l.length:Int):=by omega
   by_cases a1:el l i<0
   ·have hq:iq n l i=false:=decide_eq_false (by omega);simp only[go_sem,hlt,hi',a1];exact(hbad (fe hi' hq)).symm
   by_cases a2:m<el l i
   ·have hq:iq n l i=false:=decide_eq_false (by omega);simp only[go_sem,hlt,hi',a1,a2];exact(hbad (fe hi' hq)).symm
   by_cases a3:0<i
   ·have a3':(0:Int)<(i:Int):=by omega
    have e1:IntKind.i64.wrap ((i:Int) - 1)=((i - 1:Nat):Int):=by rw[ae]<;>omega
    have e2:i - 1<l.length:=by omega
    by_cases a4:el l i<=el l (i - 1)
    ·have hq:iq n l i=false:=decide_eq_false (by omega);simp only[go_sem,hlt,hi',a1,a2,a3',e1,e2,a4];exact(hbad (fe hi' hq)).symm
    ·have hq:iq n l i=true:=decide_eq_true (by omega);simp only[go_sem,hlt,hi',a1,a2,a3',e1,e2,a4];exact⟨i+1,⟨⟨by omega,br hp hq⟩,by omega⟩,by rw[ae]<;>omega⟩
   ·have a3': ¬(0:Int)<(i:Int):=by omega
    have hq:iq n l i=true:=decide_eq_true (by omega);simp only[go_sem,hlt,hi',a1,a2,a3'];exact⟨i+1,⟨⟨by omega,br hp hq⟩,by omega⟩,by rw[ae]<;>omega⟩
  ·have hf: ¬((i:Int)<(l.length:Int)):=by omega
   have:i=l.length:=by omega
   subst this;simp only[go_sem,hf];exact(hgood (ng hp)).symm
theorem bf5:Den Tryz.prog 55 [.agg [.int .i64 64,.vs [],.vs []]] [] (.int .i64 0) [] []:=by
 refine aa Tryz.func55 rfl Tryz.call55 Tryz.ntmps55 Tryz.results55 (by simp) (by kernel_rfl) [] (exts:=[]) rfl rfl ?_;have hi:inB 64 0 64=true:=rfl;have hs:kr [] 64=true:=rfl;have w:IntKind.i64.wrap 63=63:=by rw[ae]<;>omega
 simp only[go_sem];refine call (d5 64 0 64) [] ?_;rw[hi];simp only[go_sem,w];refine call (abd [] 64 63 rfl (by simp[big])) [] ?_;rw[hs];simp only[go_sem];refine loop Tryz.mixed 0 (fun _:Nat=>[(1,.ptr 1 0),(25,.vs []),(26,.int .i64 0),(27,.int .i64 0)]) (fun _=>[(1,.cells [.int .i64 64,.vs [],.vs []])]) (fun _=>True) (fun _=>0) (by kernel_rfl) ?_ ?_ ?_
 ·trivial
 ·simp only[go_sem]
 ·rintro i _;simp only[go_sem]
theorem a30(p:Pol)(h1:big p.se.length)(h2:big p.ta.length):Den Tryz.prog 27 [.agg [.int .i64 64,.vs [],.vs []],.agg (pl p)] [] (.int .i64 (if atb p then 0 else 15)) [] []:=by
 refine aa Tryz.func27 rfl Tryz.call27 Tryz.ntmps27 Tryz.results27 (by simp) (by kernel_rfl) [] (exts:=[]) rfl rfl ?_;generalize hm:(if atb p=true then(0:Int)else 15)=m;have no:atb p=false->m=15:=fun h=>by rw[<-hm,h];rfl
 have yes:atb p=true->m=0:=fun h=>by rw[<-hm,h];rfl
 clear hm;have w:IntKind.i64.wrap 63=63:=by rw[ae]<;>omega
 simp only[go_sem];refine call bf5 [] ?_;by_cases a1:p.se.length=0
 ·have hq:=no (by rw[atb,decide_eq_false (by omega)];rfl);have a1':(p.se.length:Int)=0:=by omega
  simp only[go_sem,a1'];exact hq.symm
 have a1': ¬(p.se.length:Int)=0:=by omega
 simp only[go_sem,a1',w];refine call (abd p.se 64 63 rfl h1) [] ?_
 cases a2:kr p.se 64
 ·have hq:=no (by rw[atb,a2];simp);simp only[go_sem];exact hq.symm
 simp only[go_sem];refine call (d5 p.ta.length 1 8) [] ?_
 cases a3:inB p.ta.length 1 8
 ·have a3:=of_decide_eq_false a3;have hq:=no (by rw[atb,decide_eq_false (p:=1<=p.ta.length/\p.ta.length<=8/\1<=p.lv/\p.lv<=3) (by omega)];simp);simp only[go_sem];exact hq.symm
 have a3:=of_decide_eq_true a3;simp only[go_sem];refine call (d5 p.lv 1 3) [] ?_
 cases a4:inB p.lv 1 3
 ·have a4:=of_decide_eq_false a4;have hq:=no (by rw[atb,decide_eq_false (p:=1<=p.ta.length/\p.ta.length<=8/\1<=p.lv/\p.lv<=3) (by omega)];simp);simp only[go_sem];exact hq.symm
 have a4:=of_decide_eq_true a4;have hq:atb p=aaf (jc p.ta) p.ta.length:=by rw[atb,decide_eq_true (p:=1<=p.ta.length/\p.ta.length<=8/\1<=p.lv/\p.lv<=3) (by omega),decide_eq_true (by omega),a2];rfl
 rw[hq]at no yes;simp only[go_sem];refine loop Tryz.mixed 0 (fun i:Nat=>[(3,.ptr 3 0),(40,.vs (p.ta.map i1)),(41,.int .i64 p.ta.length),(42,.int .i64 i)]) (fun i=>[(3,.cells (pl p))]) (fun i=>i<=p.ta.length/\∀j,j<i->jc p.ta j=true) (fun i=>p.ta.length - i) (by kernel_rfl) ?_ ?_ ?_
 ·simp
 ·simp only[go_sem]
 ·rintro i ⟨hi,hp⟩;by_cases hi':i<p.ta.length
  ·have hlt:(i:Int)<(p.ta.length:Int):=by omega
   simp only[go_sem,hlt,hi'];refine call (d5 (el p.ta i) 1 1000) [] ?_
   cases b1:inB (el p.ta i) 1 1000
   ·have b1:=of_decide_eq_false b1;have hq:jc p.ta i=false:=decide_eq_false (by omega);simp only[go_sem];exact(no (fe hi' hq)).symm
   have b1:=of_decide_eq_true b1;by_cases b3:0<i
   ·have b3':(0:Int)<(i:Int):=by omega
    have e1:IntKind.i64.wrap ((i:Int) - 1)=((i - 1:Nat):Int):=by rw[ae]<;>omega
    have e2:i - 1<p.ta.length:=by omega
    by_cases b4:el p.ta (i - 1)<el p.ta i
    ·have hq:jc p.ta i=false:=decide_eq_false (by omega);simp only[go_sem,b3',e1,e2,b4];exact(no (fe hi' hq)).symm
    ·have hq:jc p.ta i=true:=decide_eq_true (by omega);simp only[go_sem,b3',e1,e2,b4];exact⟨i+1,⟨⟨by omega,br hp hq⟩,by omega⟩,by rw[ae]<;>omega⟩
   ·have b3': ¬(0:Int)<(i:Int):=by omega
    have hq:jc p.ta i=true:=decide_eq_true (by omega);simp only[go_sem,b3'];exact⟨i+1,⟨⟨by omega,br hp hq⟩,by omega⟩,by rw[ae]<;>omega⟩
  ·have hf: ¬((i:Int)<(p.ta.length:Int)):=by omega
   have:i=p.ta.length:=by omega
   subst this;simp only[go_sem,hf];exact(yes (ng hp)).symm
theorem afi(r:Rl)(h0:big r.gen.length)(h1:big r.pol.se.length)(h2:big r.pol.ta.length):Den Tryz.prog 98 [.agg (rl r)] [] (.int .i64 (gq r)) [] []:=by
 refine aa Tryz.func98 rfl Tryz.call98 Tryz.ntmps98 Tryz.results98 (by simp) (by kernel_rfl) [] (exts:=[]) rfl rfl ?_;generalize hm:gq r=m;simp only[go_sem];refine call (sq r.gen h0) [] ?_
 cases a1:vy r.gen
 ·rw[gq,if_pos a1]at hm;simp only[go_sem];exact hm
 rw[gq,if_neg (by simp[a1])]at hm;have c1:=a30 r.pol h1 h2;rw[mt]at c1;simp only[go_sem];refine call c1 [] ?_
 cases a2:atb r.pol
 ·rw[if_pos a2]at hm;simp only[go_sem];exact hm
 rw[if_neg (by simp[a2])]at hm;by_cases c1:r.seats<1
 ·rw[if_neg (by omega)]at hm;simp only[go_sem,c1];exact hm
 by_cases c2:9<r.seats
 ·rw[if_neg (by omega)]at hm;simp only[go_sem,c1,c2];exact hm
 by_cases c3:r.span<1
 ·rw[if_neg (by omega)]at hm;simp only[go_sem,c1,c2,c3];exact hm
 by_cases c4:1000000<r.span
 ·rw[if_neg (by omega)]at hm;simp only[go_sem,c1,c2,c3,c4];exact hm
 by_cases c5:r.quota<0
 ·rw[if_neg (by omega)]at hm;simp only[go_sem,c1,c2,c3,c4,c5];exact hm
 by_cases c6:64<r.quota
 ·rw[if_neg (by omega)]at hm;simp only[go_sem,c1,c2,c3,c4,c5,c6];exact hm
 rw[if_pos (by omega)]at hm;simp only[go_sem,c1,c2,c3,c4,c5,c6];exact hm
theorem apf(v:Int){m:Nat}(h:m<8):(be8 v).take (m+1)=(be8 v).take m++[bAt v (56 - 8*m)]:=by
 have:m=0\/m=1\/m=2\/m=3\/m=4\/m=5\/m=6\/m=7:=by omega
 rcases this with rfl|rfl|rfl|rfl|rfl|rfl|rfl|rfl<;>rfl
theorem an2(v:Int){m:Nat}(h:m<=8):((be8 v).take m).length=m:=by simp[be8];omega
theorem a8e{l:List Int}{i:Nat}(h:i<l.length):beL (l.take (i+1))=beL (l.take i)++be8 (el l i):=by
 rw[cu h,lg];simp[beL]
theorem s6(bs:List UInt8)(l:List Int)(hb:bs.length<=2000000000)(hl:l.length<=1000000000):Den Tryz.prog 234 [.os 1000000 bs.length,.vs (l.map i1)] [.arr 5 1 false (bs.map u8)] (.os 1000000 (bs++beL l).length) [] [.arr 5 1 false ((bs++beL l).map u8)]:=by
 refine aa Tryz.func234 rfl Tryz.call234 Tryz.ntmps234 Tryz.results234 (by simp) (by kernel_rfl) [] (exts:=[1000000]) rfl rfl ?_;simp only[go_sem];refine loop Tryz.mixed 0 (fun i:Nat=>[(0,.os 1000000 (bs++beL (l.take i)).length),(8,.vs (l.map i1)),(9,.int .i64 l.length),(10,.int .i64 i)]) (fun i=>[(1000000,.arr 5 1 false ((bs++beL (l.take i)).map u8))]) (fun i=>i<=l.length) (fun i=>l.length - i) (by kernel_rfl) (Nat.zero_le _) ?_ ?_
 ·simp only[go_sem,List.take_zero,beL,List.flatMap_nil,List.append_nil]
 ·intro i hi;have hti:(l.take i).length=i:=by simp;omega
  have hbl:(bs++beL (l.take i)).length<=2000000000+8000000000:=by simp only[List.length_append,dw,hti];omega
  by_cases h:i<l.length
  ·have h1:(i:Int)<(l.length:Int):=by omega
   have hst:=a8e h;generalize hv:el l i=v at*;generalize hB:bs++beL (l.take i)=B at*;simp only[go_sem,h1,h,hv];refine loop Tryz.mixed 0 (fun m:Nat=>[(0,.os 1000000 (B++(be8 v).take m).length),(6,.int .i64 v),(7,.int .i64 (56 - 8*(m:Int))),(8,.vs (l.map i1)),(9,.int .i64 l.length),(10,.int .i64 i)]) (fun m=>[(1000000,.arr 5 1 false ((B++(be8 v).take m).map u8))]) (fun m=>m<=8) (fun m=>8 - m) (by kernel_rfl) (Nat.zero_le _) ?_ ?_
   ·simp only[go_sem,List.take_zero,List.append_nil]
   ·intro m hm;have htl:=an2 v hm;by_cases h2:m<8
    ·have e1:(56 - 8*(m:Int))=((56 - 8*m:Nat):Int):=by omega
     have e2:min (56 - 8*m) 64=56 - 8*m:=by omega
     have e3:=akm v (56 - 8*m) (by omega);have e0:=apf v h2;have hc:(0:Int)<=((56 - 8*m:Nat):Int):=by omega
     rw[e1];generalize hq:56 - 8*m=q at*;simp only[go_sem,hc,e2,e3,htl];refine⟨by omega,m+1,⟨by omega,by omega⟩,⟨by rw[an2 v h2];omega,by rw[ae]<;>omega⟩,?_⟩;rw[e0];simp[u8]
    ·have:m=8:=by omega
     subst this;have h8:(be8 v).take 8=be8 v:=rfl;have hc: ¬(0:Int)<=56 - 8*((8:Nat):Int):=by omega
     rw[h8];simp only[go_sem,hc];refine⟨i+1,⟨by omega,by omega⟩,⟨?_,by rw[ae]<;>omega⟩,by rw[hst,<-List.append_assoc,hB]⟩;rw[hst,List.length_append,<-hB,List.length_append];omega
  ·have h1: ¬(i:Int)<(l.length:Int):=by omega
   have:i=l.length:=by omega
   subst this;simp only[go_sem,h1,List.take_length]
theorem k8(bs:List UInt8)(l:List Int)(hb:bs.length<=1000000000)(hl:l.length<=10000000):Den Tryz.prog 187 [.os 1000000 bs.length,.vs (l.map i1)] [.arr 5 1 false (bs.map u8)] (.os 1000000 (bs++lsB l).length) [] [.arr 5 1 false ((bs++lsB l).map u8)]:=by
 refine aa Tryz.func187 rfl Tryz.call187 Tryz.ntmps187 Tryz.results187 (by simp) (by kernel_rfl) [] (exts:=[1000000]) rfl rfl ?_;have c1:=s6 bs [(l.length:Int)] (by omega) (by simp);have e1:beL [(l.length:Int)]=be8 l.length:=by simp[beL]
 rw[e1]at c1;have c2:=s6 (bs++be8 l.length) l (by simp only[List.length_append,az];omega) (by omega);simp only[go_sem];refine call c1 [1000000] ?_;simp only[go_sem];refine⟨by omega,call c2 [1000000] ?_⟩;simp only[go_sem,lsB,List.append_assoc];omega
def bxV(bs:List UInt8)(v:Int):Nat->PV
 |0=> .vx (bs.map u8)
 |m+1=> .os 25 (bs++(be8 v).take (m+1)).length
def bxB(bs:List UInt8)(v:Int):Nat->ASt
 |0=>[]
 |m+1=>[(25,.arr 5 1 false ((bs++(be8 v).take (m+1)).map u8))]
theorem aq6(bs:List UInt8)(v:Int):bxV bs v 0= .vx (bs.map u8):=rfl
theorem bfc(bs:List UInt8)(v:Int):bxV bs v 1= .os 25 (bs++(be8 v).take 1).length:=rfl
theorem apc(bs:List UInt8)(v:Int)(m:Nat):bxV bs v (m+1)= .os 25 (bs++(be8 v).take (m+1)).length:=rfl
theorem aom(bs:List UInt8)(v:Int):bxB bs v 0=[]:=rfl
theorem bdk(bs:List UInt8)(v:Int):bxB bs v 1=[(25,.arr 5 1 false ((bs++(be8 v).take 1).map u8))]:=rfl
theorem aqk(bs:List UInt8)(v:Int)(m:Nat):bxB bs v (m+1)=[(25,.arr 5 1 false ((bs++(be8 v).take (m+1)).map u8))]:=rfl
theorem atw(bs:List UInt8)(v:Int)(hb:bs.length<=2000000000):Den Tryz.prog 234 [.vx (bs.map u8),.vs [i1 v]] [] (.vs ((bs++be8 v).map u8)) [] []:=by
 refine aa Tryz.func234 rfl Tryz.call234 Tryz.ntmps234 Tryz.results234 (by simp) (by kernel_rfl) [] (exts:=[]) rfl rfl ?_;have w:IntKind.i64.wrap 1=1:=by rw[ae]<;>omega
 simp only[go_sem];refine loop Tryz.mixed 0 (fun i:Nat=>match i with|0=>[(0,.vx (bs.map u8)),(8,.vs [i1 v]),(9,.int .i64 1),(10,.int .i64 0)]|_=>[(0,.os 25 (bs++be8 v).length),(8,.vs [i1 v]),(9,.int .i64 1),(10,.int .i64 1)]) (fun i=>match i with|0=>[]|_=>[(25,.arr 5 1 false ((bs++be8 v).map u8))]) (fun i=>i<=1) (fun i=>1 - i) (by kernel_rfl) (Nat.zero_le _) ?_ ?_
 ·simp only[go_sem]
 ·intro i hi
  cases i with
  |zero=>
   simp only[go_sem];refine loop Tryz.mixed 0 (fun m:Nat=>[(0,bxV bs v m),(6,.int .i64 v),(7,.int .i64 (56 - 8*(m:Int))),(8,.vs [i1 v]),(9,.int .i64 1),(10,.int .i64 0)]) (fun m=>bxB bs v m) (fun m=>m<=8) (fun m=>8 - m) (by kernel_rfl) (Nat.zero_le _) ?_ ?_
   ·simp only[go_sem,aq6,aom]
   ·intro m hm;have htl:=an2 v hm;by_cases h2:m<8
    ·have e1:(56 - 8*(m:Int))=((56 - 8*m:Nat):Int):=by omega
     have e2:min (56 - 8*m) 64=56 - 8*m:=by omega
     have e3:=akm v (56 - 8*m) (by omega);have e0:=apf v h2;have hc:(0:Int)<=((56 - 8*m:Nat):Int):=by omega
     rw[e1];generalize hq:56 - 8*m=q at*
     cases m with
     |zero=>
      simp only[go_sem,hc,e2,e3,htl,aq6,aom];refine⟨by omega,1,⟨by omega,by omega⟩,?_⟩;simp only[go_sem,bfc,bdk];have e0':(be8 v).take 1=[bAt v q]:=e0;refine⟨⟨by rw[e0'];rfl,by rw[ae]<;>omega⟩,?_⟩;rw[e0']
      simp[u8]
     |succ m=>
      simp only[go_sem,hc,e2,e3,htl,apc,aqk];refine⟨by omega,m+1+1,⟨by omega,by omega⟩,?_⟩;simp only[go_sem,apc,aqk];refine⟨⟨by rw[an2 v h2];omega,by rw[ae]<;>omega⟩,?_⟩;rw[e0];simp[u8]
    ·have:m=8:=by omega
     subst this;have h8:(be8 v).take 8=be8 v:=rfl;have hc: ¬(0:Int)<=56 - 8*((8:Nat):Int):=by omega
     have b1:bxV bs v 8= .os 25 (bs++be8 v).length:=rfl;have b2:bxB bs v 8=[(25,.arr 5 1 false ((bs++be8 v).map u8))]:=rfl;simp only[go_sem,hc,b1,b2];refine⟨1,⟨by omega,by omega⟩,?_⟩
     simp only[go_sem,w]
  |succ i=>
   simp only[go_sem]
theorem azn(v:List UInt8)(ep:Int)(l:List Int)(hv:v.length=32)(h0:0<=ep)(h1:ep<40)(hl:l.length<=64):Den Tryz.prog 190 [.str v,.int .i64 ep,.vs (l.map i1)] [] (.tup [.str (ai4 v ep l),.int .i64 0]) [] []:=by
 refine aa Tryz.func190 rfl Tryz.call190 Tryz.ntmps190 Tryz.results190 (by simp) (by kernel_rfl) [] (exts:=[]) rfl rfl ?_;have g1:(v.length:Int)=32:=by omega
 have g2: ¬ep<0:=by omega
 have g3: ¬(40:Int)<=ep:=by omega
 have g4: ¬(64:Int)<(l.length:Int):=by omega
 have c1:=s6 v [ep] (by omega) (by simp);have e1:beL [ep]=be8 ep:=by simp[beL]
 rw[e1]at c1;have c2:=k8 (v++be8 ep) l (by simp only[List.length_append,az];omega) (by omega);have c3:=v6 ((v++be8 ep)++lsB l) (by simp only[List.length_append,sa,az];omega);simp only[go_sem,g1,g2,g3,g4];refine⟨by omega,call c1 [24] ?_⟩;simp only[go_sem];refine⟨by omega,call c2 [24] ?_⟩;simp only[go_sem];refine⟨by omega,call c3 [] ?_⟩;simp only[go_sem,ai4]
def a7m(S:List UInt8):Nat->Int
 |0=>0
 |k+1=>bits .or .i64 (IntKind.i64.wrap (a7m S k*2^min 8 64)) (IntKind.i64.wrap ((S.getD k 0).toNat:Int))
theorem aq3{a b i:Nat}(h:b<2^i):2^i*a|||b=2^i*a+b:=(Nat.two_pow_add_eq_or_of_lt h a).symm
theorem qf(a b:Nat)(ha:a<16777216)(hb:b<256):bits .or .i64 (IntKind.i64.wrap ((a:Int)*2^min 8 64)) (IntKind.i64.wrap (b:Int))=((a*256+b:Nat):Int):=by
 have e1:IntKind.i64.wrap ((a:Int)*2^min 8 64)=((a*256:Nat):Int):=by
  have:(2:Int)^min 8 64=256:=by rfl
  rw[this,ae]<;>omega
 have e2:IntKind.i64.wrap (b:Int)=((b:Nat):Int):=by rw[ae]<;>omega
 rw[e1,e2,y5 _ _ (by omega) (by omega)];have:=aq3 (a:=a) (b:=b) (i:=8) hb;rw[show(2:Nat)^8*a=a*256 by omega]at this;rw[this]
theorem aso(S:List UInt8):a7m S 4=arm S:=by
 have hb: ∀k,(S.getD k 0).toNat<256:=fun k=>(S.getD k 0).toNat_lt;have b0:=hb 0;have b1:=hb 1;have b2:=hb 2;have b3:=hb 3;unfold arm;simp only[a7m];generalize (S.getD 0 0).toNat=x0 at*;generalize (S.getD 1 0).toNat=x1 at*;generalize (S.getD 2 0).toNat=x2 at*;generalize (S.getD 3 0).toNat=x3 at*;have f1:=qf 0 x0 (by omega) b0;have f2:=qf (0*256+x0) x1 (by omega) b1;have f3:=qf ((0*256+x0)*256+x1) x2 (by omega) b2;have f4:=qf (((0*256+x0)*256+x1)*256+x2) x3 (by omega) b3;rw[show(0:Int)=((0:Nat):Int) from rfl,f1,f2,f3,f4];have w: ∀k:Nat,k<256->IntKind.i64.wrap (k:Int)=(k:Int):=fun k hk=>by rw[ae]<;>omega
 rw[w x0 b0,w x1 b1,w x2 b2,w x3 b3]
 have e0:IntKind.i64.wrap ((x0:Int)*2^min 24 64)=((x0*16777216:Nat):Int):=by
  have:(2:Int)^min 24 64=16777216:=by rfl
  rw[this,ae]<;>omega
 have e1:IntKind.i64.wrap ((x1:Int)*2^min 16 64)=((x1*65536:Nat):Int):=by
  have:(2:Int)^min 16 64=65536:=by rfl
  rw[this,ae]<;>omega
 have e2:IntKind.i64.wrap ((x2:Int)*2^min 8 64)=((x2*256:Nat):Int):=by
  have:(2:Int)^min 8 64=256:=by rfl
  rw[this,ae]<;>omega
 have g1:=aq3 (a:=x0) (b:=x1*65536) (i:=24) (by omega);have g2:=aq3 (a:=x0*256+x1) (b:=x2*256) (i:=16) (by omega);have g3:=aq3 (a:=(x0*256+x1)*256+x2) (b:=x3) (i:=8) (by omega);rw[show(2:Nat)^24*x0=x0*16777216 by omega]at g1;rw[show(2:Nat)^16*(x0*256+x1)=x0*16777216+x1*65536 by omega]at g2;rw[show(2:Nat)^8*((x0*256+x1)*256+x2)=x0*16777216+x1*65536+x2*256 by omega]at g3;rw[e0,e1,e2,y5 _ _ (by omega) (by omega),g1,y5 _ _ (by omega) (by omega),g2,y5 _ _ (by omega) (by omega),g3];omega
theorem agy(v:List UInt8)(tag:List Int)(n:Nat)(hv:v.length=32)(ht:tag.length<=64)(hn:n<=64):Den Tryz.prog 204 [.str v,.vs (tag.map i1),.int .i64 n] [] (.tup [.vs ((af4 v tag n).map i1),.int .i64 0]) [] []:=by
 refine aa Tryz.func204 rfl Tryz.call204 Tryz.ntmps204 Tryz.results204 (by simp) (by kernel_rfl) [] (exts:=[]) rfl rfl ?_;have g1:(v.length:Int)=32:=by omega
 have g2: ¬(64:Int)<(tag.length:Int):=by omega
 have g3: ¬(n:Int)<0:=by omega
 have g4: ¬(64:Int)<(n:Int):=by omega
 have c1:=k8 v tag (by omega) (by omega);have hB:(v++lsB tag).length<=1000:=by simp only[List.length_append,sa];omega
 have hvB:v.length<=(v++lsB tag).length:=by rw[List.length_append];omega
 have hna: ∀i:Nat,bcy v tag i=arm (sha ((v++lsB tag)++be8 i)):=fun _=>rfl;simp only[go_sem,g1,g2,g3,g4];refine⟨by omega,call c1 [30] ?_⟩;generalize v++lsB tag=B at*;simp only[go_sem];refine⟨hvB,?_⟩;refine da 8 99 3 1 false ?_ ?_ ?_ (by omega)
 ·refine loop Tryz.mixed 0 (fun i:Nat=>[(9,.vs (B.map u8)),(8,.os 99 (af4 v tag i).length),(33,.int .i64 n),(34,.int .i64 i)]) (fun i=>[(99,.arr 3 1 false ((af4 v tag i).map i1))]) (fun i=>i<=n) (fun i=>n - i) (by kernel_rfl) (Nat.zero_le _) ?_ ?_
  ·simp only[go_sem,af4,List.map_nil,List.length_nil]
  ·intro i hi;have hnl:=rj v tag i;by_cases h:i<n
   ·have hlt:(i:Int)<(n:Int):=by omega
    simp only[go_sem,hlt,List.take_length];refine⟨Nat.le_refl _,call (atw B i (by omega)) [] ?_⟩;simp only[go_sem];refine call (v6 (B++be8 i) (by simp only[List.length_append,az];omega)) [] ?_;have hs:=amc (B++be8 i);have hna:=hna i;generalize sha (B++be8 i)=S at*;simp only[go_sem];refine loop Tryz.mixed 0 (fun k:Nat=>[(9,.vs (B.map u8)),(8,.os 99 (af4 v tag i).length),(33,.int .i64 n),(34,.int .i64 i),(11,.str S),(12,.int .i64 (a7m S k)),(47,.int .i64 k)]) (fun k=>[(99,.arr 3 1 false ((af4 v tag i).map i1))]) (fun k=>k<=4) (fun k=>4 - k) (by kernel_rfl) (Nat.zero_le _) ?_ ?_
    ·simp only[go_sem];rfl
    ·intro k hk;by_cases hk4:k<4
     ·have hkt:(k:Int)<4:=by omega
      have hkl:k<S.length:=by omega
      simp only[go_sem,hkt,hkl];exact⟨k+1,⟨by omega,by omega⟩,rfl,by rw[ae]<;>omega⟩
     ·have:k=4:=by omega
      subst this;simp only[go_sem];refine⟨by omega,i+1,⟨by omega,by omega⟩,⟨by rw[rj,rj],by rw[ae]<;>omega⟩,?_⟩;rw[af4,hna,aso];simp[i1]
   ·have hm2:i=n:=by omega
    subst hm2;have hc: ¬(i:Int)<(i:Int):=by omega
    simp only[go_sem,hc]
 ·simp only[go_sem]
 ·simp only[go_sem]
theorem bb0(a b:Nat)(ha:a<9223372036854775808)(hb:b<9223372036854775808):bits .and .i64 (a:Int) (b:Int)=((a&&&b:Nat):Int):=by
 have hx:a&&&b<2^63:=Nat.lt_of_le_of_lt Nat.and_le_left (by omega)
 have h1:(BitVec.ofInt 64 (a:Int)).toNat=a:=by
  rw[BitVec.ofInt_natCast,BitVec.toNat_ofNat];exact Nat.mod_eq_of_lt (by omega)
 have h2:(BitVec.ofInt 64 (b:Int)).toNat=b:=by
  rw[BitVec.ofInt_natCast,BitVec.toNat_ofNat];exact Nat.mod_eq_of_lt (by omega)
 show IntKind.i64.wrap ((BitVec.ofInt 64 (a:Int)&&&BitVec.ofInt 64 (b:Int)).toNat:Int)=_;rw[BitVec.toNat_and,h1,h2,IntKind.wrap_i64];omega
theorem av3(n i:Nat)(hn:n<4294967296):bits .and .i64 ((n:Int).fdiv ((2:Int)^i)) 1=if n.testBit i then 1 else 0:=by
 have h0:(0:Int)<=(2:Int)^i:=Int.pow_nonneg (by omega)
 have e1:(n:Int).fdiv ((2:Int)^i)=((n/2^i:Nat):Int):=by
  rw[Int.fdiv_eq_ediv_of_nonneg _ h0];have:((2:Int)^i)=((2^i:Nat):Int):=by simp
  rw[this];rfl
 have hle:n/2^i<=n:=Nat.div_le_self _ _;have:=bb0 (n/2^i) 1 (by omega) (by omega);rw[e1];rw[show(1:Int)=((1:Nat):Int) from rfl,this,Nat.and_one_is_mod,Nat.testBit_eq_decide_div_mod_eq];have h2:n/2^i % 2=0\/n/2^i % 2=1:=by omega
 rcases h2 with h2|h2<;>rw[h2]<;>simp
theorem a2m{l:List Int}{i n:Nat}(hn:el l (i/32)=(n:Int)):ad8 l (i:Int)=n.testBit (i % 32):=by
 unfold ad8;rw[Int.toNat_natCast,hn,Int.toNat_natCast]
theorem ahw{l:List Int}(h:tl l){i:Nat}(hi:i<64): ∃n:Nat,el l (i/32)=(n:Int)/\n<4294967296:=by
 obtain⟨_,h1,h2,h3,h4,_⟩:=h;have hd:i/32=0\/i/32=1:=by omega
 rcases hd with hd|hd<;>rw[hd]
 ·exact⟨(el l 0).toNat,by omega,by omega⟩
 ·exact⟨(el l 1).toNat,by omega,by omega⟩
def kj(x:Int):Bool:=decide (x<0)||decide (4294967296<=x)
theorem axa(x:Int):Den Tryz.prog 237 [.int .i64 x] [] (.bool (kj x)) [] []:=by
 refine aa Tryz.func237 rfl Tryz.call237 Tryz.ntmps237 Tryz.results237 (by simp) (by kernel_rfl) [] (exts:=[]) rfl rfl ?_;by_cases h1:x<0
 ·simp only[go_sem,h1,kj]
 ·by_cases h2:4294967296<=x
  ·simp only[go_sem,h1,h2,kj]
  ·simp only[go_sem,h1,h2,kj]
theorem aye{l:List Int}(h:l.length=2):l.any kj=(kj (el l 0)||kj (el l 1)):=by
 match l,h with
 |[x,y],_=>simp[el]
theorem a7i(l:List Int)(hl:big l.length):Den Tryz.prog 189 [.vs (l.map i1)] [] (.tup [.vs ((aj6 l).1.map i1),.int .i64 (aj6 l).2]) [] []:=by
 refine aa Tryz.func189 rfl Tryz.call189 Tryz.ntmps189 Tryz.results189 (by simp) (by kernel_rfl) [] (exts:=[]) rfl rfl ?_;by_cases a0:l.length=2
 rotate_left
 ·have a0': ¬(l.length:Int)=2:=by omega
  rw[yg fun h=>a0 h.1];simp only[go_sem,a0',List.map_nil]
 have a0':(l.length:Int)=2:=by omega
 have b0:0<l.length:=by omega
 have b1:1<l.length:=by omega
 have c1:=mc kj 237 axa l hl;have hw:=aye a0;simp only[go_sem,a0',b0,b1];refine call c1 [] ?_
 cases hq:l.any kj
 rotate_left
 ·rw[hq]at hw
  rw[yg fun h=>by
   obtain⟨_,h1,h2,h3,h4,_⟩:=h;have g1:kj (el l 0)=false:=by simp[kj];omega
   have g2:kj (el l 1)=false:=by simp[kj];omega
   rw[g1,g2]at hw
   cases hw]
  simp only[go_sem,List.map_nil]
 have hr:(0<=el l 0/\el l 0<4294967296)/\0<=el l 1/\el l 1<4294967296:=by
  rw[hq]at hw;have:=hw.symm;simp[kj]at this;omega
 by_cases a5:el l 0=0
 ·by_cases a6:el l 1=0
  ·rw[yg fun h=>h.2.2.2.2.2 ⟨a5,a6⟩];simp only[go_sem,a0',b0,b1,a5,a6,List.map_nil]
  have hd:tl l:=⟨a0,by omega,by omega,by omega,by omega,fun h=>a6 h.2⟩;simp only[go_sem,a0',b0,b1,a5,a6];rw[aeh hd];refine da 5 99 3 1 false ?_ ?_ ?_ (by omega)
  ·refine loop Tryz.mixed 0 (fun i:Nat=>[(0,.vs (l.map i1)),(5,.os 99 (fc (ad8 l) i).length),(27,.int .i64 i)]) (fun i=>[(99,.arr 3 1 false ((fc (ad8 l) i).map i1))]) (fun i=>i<=64) (fun i=>64 - i) (by kernel_rfl) (Nat.zero_le _) ?_ ?_
   ·simp only[go_sem];exact⟨rfl,rfl⟩
   ·intro i hi;have hsu:=tq (ad8 l) i;have hln:=ny (ad8 l) i;by_cases hlt:i<64
    ·have h1:(i:Int)<64:=by omega
     obtain⟨n,hn,hnb⟩:=ahw hd hlt;have hb:=a2m hn;have hs:=av3 n (i % 32) hnb;have e1:IntKind.i64.wrap ((i:Int).tdiv 32)=((i/32:Nat):Int):=by rw[Int.tdiv_eq_ediv_of_nonneg (by omega),ae (by omega) (by omega)];rfl
     have e2:(i:Int).tmod 32=((i % 32:Nat):Int):=by rw[Int.tmod_eq_emod_of_nonneg (by omega)];rfl
     have e3:min (i % 32) 64=i % 32:=by omega
     have e4:IntKind.u64.wrap ((i % 32:Nat):Int)=((i % 32:Nat):Int):=by rw[IntKind.wrap_u64];omega
     have h2:i/32<l.length:=by omega
     rw[hb]at hsu;generalize fc (ad8 l) i=o at*;generalize hj:i/32=j at*;generalize hk:i % 32=k at*
     cases ht:n.testBit k
     ·rw[ht]at hsu hs;simp only[go_sem,h1,e1,e2,e3,e4,h2,hn,hs]
      (repeat refine And.intro (by first|omega|exact ag (by kernel_rfl)) ?_)
      refine⟨i+1,⟨by omega,by omega⟩,?_⟩;rw[hsu];simp only[go_sem,List.append_nil];rw[ae]<;>omega
     ·rw[ht]at hsu hs;simp only[go_sem,h1,e1,e2,e3,e4,h2,hn,hs]
      (repeat refine And.intro (by first|omega|exact ag (by kernel_rfl)) ?_)
      refine⟨i+1,⟨by omega,by omega⟩,?_⟩;rw[hsu];simp only[go_sem,List.map_append,List.length_append];rw[ae]<;>omega
    ·have h1: ¬(i:Int)<64:=by omega
     have:i=64:=by omega
     subst this;simp only[go_sem,h1]
     done
  ·simp only[go_sem]
  ·simp only[go_sem]
 have hd:tl l:=⟨a0,by omega,by omega,by omega,by omega,fun h=>a5 h.1⟩;simp only[go_sem,a0',b0,b1,a5];rw[aeh hd];refine da 5 99 3 1 false ?_ ?_ ?_ (by omega)
 ·refine loop Tryz.mixed 0 (fun i:Nat=>[(0,.vs (l.map i1)),(5,.os 99 (fc (ad8 l) i).length),(27,.int .i64 i)]) (fun i=>[(99,.arr 3 1 false ((fc (ad8 l) i).map i1))]) (fun i=>i<=64) (fun i=>64 - i) (by kernel_rfl) (Nat.zero_le _) ?_ ?_
  ·simp only[go_sem];exact⟨rfl,rfl⟩
  ·intro i hi;have hsu:=tq (ad8 l) i;have hln:=ny (ad8 l) i;by_cases hlt:i<64
   ·have h1:(i:Int)<64:=by omega
    obtain⟨n,hn,hnb⟩:=ahw hd hlt;have hb:=a2m hn;have hs:=av3 n (i % 32) hnb;have e1:IntKind.i64.wrap ((i:Int).tdiv 32)=((i/32:Nat):Int):=by rw[Int.tdiv_eq_ediv_of_nonneg (by omega),ae (by omega) (by omega)];rfl
    have e2:(i:Int).tmod 32=((i % 32:Nat):Int):=by rw[Int.tmod_eq_emod_of_nonneg (by omega)];rfl
    have e3:min (i % 32) 64=i % 32:=by omega
    have e4:IntKind.u64.wrap ((i % 32:Nat):Int)=((i % 32:Nat):Int):=by rw[IntKind.wrap_u64];omega
    have h2:i/32<l.length:=by omega
    rw[hb]at hsu;generalize fc (ad8 l) i=o at*;generalize hj:i/32=j at*;generalize hk:i % 32=k at*
    cases ht:n.testBit k
    ·rw[ht]at hsu hs;simp only[go_sem,h1,e1,e2,e3,e4,h2,hn,hs]
     (repeat refine And.intro (by first|omega|exact ag (by kernel_rfl)) ?_)
     refine⟨i+1,⟨by omega,by omega⟩,?_⟩;rw[hsu];simp only[go_sem,List.append_nil];rw[ae]<;>omega
    ·rw[ht]at hsu hs;simp only[go_sem,h1,e1,e2,e3,e4,h2,hn,hs]
     (repeat refine And.intro (by first|omega|exact ag (by kernel_rfl)) ?_)
     refine⟨i+1,⟨by omega,by omega⟩,?_⟩;rw[hsu];simp only[go_sem,List.map_append,List.length_append];rw[ae]<;>omega
   ·have h1: ¬(i:Int)<64:=by omega
    have:i=64:=by omega
    subst this;simp only[go_sem,h1]
    done
 ·simp only[go_sem]
 ·simp only[go_sem]
theorem aos: ∀(l:List Int) (s:List Bool) (k:Nat),s.length=64->k<64->(art l s)[k]? =if(k:Int)∈l then some true else s[k]?
 |[],s,k,_,_=>by simp[art]
 |a::l,s,k,hs,hk=>by
  have ih:=aos l (if vu a=true then s.set a.toNat true else s) k (by split<;>simp[hs]) hk;have e:art (a::l) s=art l (if vu a=true then s.set a.toNat true else s):=rfl;rw[e,ih];by_cases hm:(k:Int)∈l
  ·rw[if_pos hm,if_pos (by simp[hm])]
  ·rw[if_neg hm];by_cases ha:(k:Int)=a
   ·subst ha;have hkb:vu (k:Int)=true:=im.2 (by omega);rw[if_pos hkb,if_pos (by simp),Int.toNat_natCast];simp[List.getElem?_set,hs,hk]
   ·have hm2:(k:Int)∉a::l:=fun h=>by
     rcases List.mem_cons.1 h with h|h
     ·exact ha h
     ·exact hm h
    rw[if_neg hm2];by_cases hkb:vu a=true
    ·rw[if_pos hkb];have:=im.1 hkb;have hne:a.toNat≠k:=by omega
     simp[List.getElem?_set,hne]
    ·rw[if_neg hkb]
theorem ayu(l:List Int){k:Nat}(hk:k<64):el (aj8 l) k=decide ((k:Int)∈l):=by
 have h:=aos (l.take l.length) (List.replicate 64 false) k (by simp) hk;have e:aj8 l=art (l.take l.length) (List.replicate 64 false):=rfl;rw[el,aw,e,h,List.take_length];by_cases hm:(k:Int)∈l
 ·simp[hm]
 ·rw[if_neg hm,List.getElem?_replicate,if_pos hk];simp[hm]
theorem au2(x y:List Bool)(hx:x.length=64)(hy:y.length=64)(k:Nat)(hk:k<64):Den Tryz.prog 207 [.int .i64 k,.ptr 1000000 0,.ptr 1000001 0] [.cells (x.map cb),.cells (y.map cb)] (.bool (el x k&& !el y k)) [] [.cells (x.map cb),.cells (y.map cb)]:=by
 refine aa Tryz.func207 rfl Tryz.call207 Tryz.ntmps207 Tryz.results207 (by simp) (by kernel_rfl) [] (exts:=[1000000,1000001]) rfl rfl ?_;have k1:k<x.length:=by omega
 have k2:k<y.length:=by omega
 have hki:(k:Int)<64:=by omega
 cases h1:el x k
 ·simp only[go_sem,hk,k1,k2,h1,hki]
 ·simp only[go_sem,hk,k1,k2,h1,hki]
theorem ayw(x y:List Bool)(hx:x.length=64)(hy:y.length=64)(c:Int->Bool)(hc: ∀k:Nat,k<64->c k=(el x k&& !el y k)):Den Tryz.prog 206 [.fn 207 [.ptr 1000000 0,.ptr 1000001 0]] [.cells (x.map cb),.cells (y.map cb)] (.vs ((fc c 64).map i1)) [] [.cells (x.map cb),.cells (y.map cb)]:=by
 refine aa Tryz.func206 rfl Tryz.call206 Tryz.ntmps206 Tryz.results206 (by simp) (by kernel_rfl) [] (exts:=[1000000,1000001]) rfl rfl ?_;simp only[go_sem];refine da 3 99 3 1 false ?_ ?_ ?_ (by omega)
 ·refine loop Tryz.mixed 0 (fun i:Nat=>[(0,.fn 207 [.ptr 1000000 0,.ptr 1000001 0]),(3,.os 99 (fc c i).length),(5,.int .i64 i)]) (fun i=>[(99,.arr 3 1 false ((fc c i).map i1)),(1000000,.cells (x.map cb)),(1000001,.cells (y.map cb))]) (fun i=>i<=64) (fun i=>64 - i) (by kernel_rfl) (Nat.zero_le _) ?_ ?_
  ·simp only[go_sem];exact⟨rfl,rfl⟩
  ·intro i hi;have hsu:=tq c i;have hln:=ny c i;by_cases hlt:i<64
   ·have h1:(i:Int)<64:=by omega
    have cm:=au2 x y hx hy i hlt;rw[hc i hlt]at hsu;generalize fc c i=o at*
    cases hb:(el x i&& !el y i)
    ·rw[hb]at cm hsu;simp only[go_sem,h1];refine call cm [1000000,1000001] ?_;simp only[go_sem];refine⟨i+1,⟨by omega,by omega⟩,⟨by rw[hsu];simp,by rw[ae]<;>omega⟩,by rw[hsu];simp⟩
    ·rw[hb]at cm hsu;simp only[go_sem,h1];refine call cm [1000000,1000001] ?_;simp only[go_sem];refine⟨by omega,i+1,⟨by omega,by omega⟩,⟨by rw[hsu];simp,by rw[ae]<;>omega⟩,by rw[hsu];simp[i1]⟩
   ·have h1: ¬(i:Int)<64:=by omega
    have:i=64:=by omega
    subst this;simp only[go_sem,h1]
 ·simp only[go_sem]
 ·simp only[go_sem]
theorem aun(a b:List Int)(ha:big a.length)(hb:big b.length):Den Tryz.prog 140 [.vs (a.map i1),.vs (b.map i1)] [] (.vs ((fc (fun k=>decide (k∈a)&& !decide (k∈b)) 64).map i1)) [] []:=by
 refine aa Tryz.func140 rfl Tryz.call140 Tryz.ntmps140 Tryz.results140 (by simp) (by kernel_rfl) [] (exts:=[]) rfl rfl ?_;have l1:(aj8 a).length=64:=rh a a.length (Nat.le_refl _);have l2:(aj8 b).length=64:=rh b b.length (Nat.le_refl _);have ck:=ayw (aj8 a) (aj8 b) l1 l2 (fun k=>decide (k∈a)&& !decide (k∈b)) fun k hk=>by rw[ayu a hk,ayu b hk]
 have c1:=afp a ha;have c2:=afp b hb;generalize aj8 a=x at*;generalize aj8 b=y at*;simp only[go_sem];refine call c1 [] ?_;simp only[go_sem];refine call c2 [] ?_;simp only[go_sem,l1,l2];refine call ck [5,6] ?_;simp only[go_sem]
theorem acf(l:List Int)(h0:0<l.length)(hl:l.length<=1000000):Den Tryz.prog 91 [.vs (l.map i1)] [] (.vs (l.map i1)) [] []:=by
 refine aa Tryz.func91 rfl Tryz.call91 Tryz.ntmps91 Tryz.results91 (by simp) (by kernel_rfl) [] (exts:=[]) rfl rfl ?_;simp only[go_sem,h0];omega
theorem av8(l nu:List Int)(s:Int)(hr:vy l=true)(h1:1<=s)(h9:s<=9)(hs:9<=nu.length)(hnb:big nu.length)(hn: ∀x∈nu,0<=x):Den Tryz.prog 205 [.vs (l.map i1),.vs (nu.map i1),.int .i64 s] [] (.tup [.vs ((dt l nu (min s.toNat l.length)).1.map i1),.int .i64 0]) [] []:=by
 refine aa Tryz.func205 rfl Tryz.call205 Tryz.ntmps205 Tryz.results205 (by simp) (by kernel_rfl) [] (exts:=[]) rfl rfl ?_;obtain⟨_,_,hne,hl64⟩:=tu hr;have hl0:0<l.length:=List.length_pos_iff.2 hne;simp only[go_sem];refine call (sq l (by simp only[big];omega)) [] ?_;rw[hr];have g1: ¬s<1:=by omega
 have g2: ¬9<s:=by omega
 generalize hm:min s.toNat l.length=m;have g0:(if(l.length:Int)<s then(l.length:Int)else s)=(m:Int):=by split<;>omega
 have g3: ¬(nu.length:Int)<(m:Int):=by omega
 have g4:m<=nu.length:=by omega
 have hml:(nu.take m).length=m:=by rw[List.length_take];omega
 simp only[go_sem,g0,g1,g2,g3];refine call (acf l hl0 (by omega)) [] ?_;simp only[go_sem];refine⟨⟨by omega,by omega⟩,?_⟩;refine da 10 99 3 1 false ?_ ?_ ?_ (by omega)
 ·refine loop Tryz.mixed 0 (fun i:Nat=>[(9,.vs ((dt l nu i).2.map i1)),(10,.os 99 (dt l nu i).1.length),(37,.vs ((nu.take m).map i1)),(38,.int .i64 m),(39,.int .i64 i)]) (fun i=>[(99,.arr 3 1 false ((dt l nu i).1.map i1))]) (fun i=>i<=m) (fun i=>m - i) (by kernel_rfl) (Nat.zero_le _) ?_ ?_
  ·simp only[go_sem,dt,List.map_nil,List.length_nil];rw[hml]
  ·intro i hi;obtain⟨hl1,hl2⟩:=vz (l:=l) hn i (by omega);by_cases h:i<m
   ·have hlt:(i:Int)<(m:Int):=by omega
    have hin:i<nu.length:=by omega
    have hin2:i<(nu.take m).length:=by omega
    have hel:el (nu.take m) i=el nu i:=by simp[el,aw,List.getElem?_take,h]
    have h0:0<=el nu i:=hn _ (ix hin);have g5: ¬el nu i<0:=by omega
    have hd1:(dt l nu (i+1)).1=(dt l nu i).1++[el (dt l nu i).2 ((el nu i).tmod (dt l nu i).2.length).toNat]:=rfl;have hd2:(dt l nu (i+1)).2=(dt l nu i).2.take ((el nu i).tmod (dt l nu i).2.length).toNat++(dt l nu i).2.drop (((el nu i).tmod (dt l nu i).2.length).toNat+1):=rfl;have hb:=ana (n:=(dt l nu i).2.length) h0 (by omega);generalize (dt l nu i).1=o at*;generalize (dt l nu i).2=f at*;obtain⟨k,hk⟩: ∃k:Nat,(el nu i).tmod f.length=(k:Int):=⟨((el nu i).tmod f.length).toNat,by omega⟩;rw[hk]at hb hd1 hd2;have e1:IntKind.i64.wrap ((k:Int)+1)=((k+1:Nat):Int):=by rw[ae]<;>omega
    have hfn: ¬(f.length:Int)=0:=by omega
    have hkf:k<f.length:=by omega
    simp only[go_sem,hlt,hin2,hel,g5,hk,hfn,e1,hkf,List.take_length];rw[Int.toNat_natCast]at hd1 hd2;have t1:(List.take k f).length<=64:=by rw[List.length_take];omega
    have t2:(List.drop (k+1) f).length<=64:=by rw[List.length_drop];omega
    have f1:o.length+1=(dt l nu (i+1)).1.length:=by rw[hd1];simp
    have f2:List.map i1 o++[[PV.int IntKind.i64 (el f k)]]=List.map i1 (dt l nu (i+1)).1:=by rw[hd1];simp[i1]
    refine⟨by omega,by omega,⟨by omega,by omega,by omega⟩,by omega,fun h=>⟨ag (by kernel_rfl),i+1,⟨by omega,by omega⟩,⟨?_,f1,by rw[ae]<;>omega⟩,f2⟩,fun _=>⟨ag (by kernel_rfl),i+1,⟨by omega,by omega⟩,⟨?_,f1,by rw[ae]<;>omega⟩,f2⟩⟩
    ·rw[hd2,List.map_append,h,List.append_nil]
    ·rw[hd2,List.map_append]
   ·have hm2:i=m:=by omega
    subst hm2;have hc: ¬(i:Int)<(i:Int):=by omega
    simp only[go_sem,hc]
 ·simp only[go_sem]
 ·simp only[go_sem]
theorem at9{l:List Int}(h:vy l=true):i8 l []=l:=by
 obtain⟨h1,h2,_,_⟩:=tu h;refine a2a (af1 _ _) h1 fun x=> ?_;rw[yn];constructor
 ·exact fun h=>h.2.1
 ·exact fun h=>⟨h2 x h,h,by simp⟩
def ofG(r:Rl)(v:List UInt8)(l:List Int)(c:Cs):List Int×Int:=
 if gq r=0/\vy l=true/\l6 c=true/\v.length≠32 then([],1)else ofR r v l c
theorem bih{r:Rl}{v:List UInt8}{l:List Int}{c:Cs}(h:v.length=32):ofG r v l c=ofR r v l c:=if_neg fun hh=>hh.2.2.2 h
theorem ae0(v:List UInt8)(tag:List Int)(n:Int)(hv:v.length≠32):Den Tryz.prog 204 [.str v,.vs (tag.map i1),.int .i64 n] [] (.tup [.vs [],.int .i64 1]) [] []:=by
 refine aa Tryz.func204 rfl Tryz.call204 Tryz.ntmps204 Tryz.results204 (by simp) (by kernel_rfl) [] (exts:=[]) rfl rfl ?_;have g1: ¬(v.length:Int)=32:=by omega
 simp only[go_sem,g1]
theorem ahb(r:Rl)(v:List UInt8)(l:List Int)(c:Cs)(j:Int)(hr:vy l=true)(hs:1<=r.seats/\r.seats<=9)(hv:v.length=32):Den Tryz.prog 139 [.agg (rl r),.str v,.vs (l.map i1),.agg (cs c),.int .i64 j] [] (.tup [.vs ((dt l (af4 v (a3c c j) 9) (min r.seats.toNat l.length)).1.map i1),.int .i64 0]) [] []:=by
 refine aa Tryz.func139 rfl Tryz.call139 Tryz.ntmps139 Tryz.results139 (by simp) (by kernel_rfl) [] (exts:=[]) rfl rfl ?_;have hnl:=rj v (a3c c j) 9;have hnn:=w6 v (a3c c j) 9;simp only[go_sem];refine call (agy v (a3c c j) 9 hv (by simp[a3c]) (by omega)) [] ?_;generalize af4 v (a3c c j) 9=N at*;simp only[go_sem];refine⟨rfl,call (av8 l N r.seats hr hs.1 hs.2 (by omega) (by simp only[big];omega) hnn) [] ?_⟩;simp only[go_sem]
theorem ars(r:Rl)(v:List UInt8)(l:List Int)(c:Cs)(j:Int)(hv:v.length≠32):Den Tryz.prog 139 [.agg (rl r),.str v,.vs (l.map i1),.agg (cs c),.int .i64 j] [] (.tup [.vs [],.int .i64 1]) [] []:=by
 refine aa Tryz.func139 rfl Tryz.call139 Tryz.ntmps139 Tryz.results139 (by simp) (by kernel_rfl) [] (exts:=[]) rfl rfl ?_;simp only[go_sem];refine call (ae0 v (a3c c j) 9 hv) [] ?_;simp only[go_sem,List.map_nil];rfl
theorem bb7(r:Rl)(v:List UInt8)(l:List Int)(c:Cs)(h0:big r.gen.length)(h1:big r.pol.se.length)(h2:big r.pol.ta.length)(hl:big l.length):Den Tryz.prog 108 [.agg (rl r),.str v,.vs (l.map i1),.agg (cs c)] [] (.tup [.vs ((ofG r v l c).1.map i1),.int .i64 (ofG r v l c).2]) [] []:=by
 refine aa Tryz.func108 rfl Tryz.call108 Tryz.ntmps108 Tryz.results108 (by simp) (by kernel_rfl) [] (exts:=[]) rfl rfl ?_;have hG:ofG r v l c=if gq r=0/\vy l=true/\l6 c=true/\v.length≠32 then([],1)else ofR r v l c:=rfl
 have hQ:=avm r v l c;generalize ofR r v l c=q at*;generalize ofG r v l c=m at*;have c0:=afi r h0 h1 h2;rw[p5]at c0;simp only[go_sem];refine call c0 [] ?_;by_cases a1:gq r=0
 rotate_left
 ·rw[if_pos a1]at hQ;rw[if_neg (fun h=>a1 h.1)]at hG;subst hG hQ;simp only[go_sem,a1,List.map_nil]
 rw[if_neg (by simpa using a1)]at hQ;have hS:=(a7s a1).2.2;simp only[go_sem,a1];refine call (sq l hl) [] ?_
 cases a2:vy l
 ·rw[if_pos a2]at hQ;rw[if_neg (fun h=>by rw[a2]at h;cases h.2.1)]at hG;subst hG hQ;simp only[go_sem,List.map_nil]
 rw[if_neg (by simp[a2])]at hQ;have c2:=ans c;rw[ki]at c2;simp only[go_sem];refine call c2 [] ?_
 cases a3:l6 c
 ·rw[if_pos a3]at hQ;rw[if_neg (fun h=>by rw[a3]at h;cases h.2.2.1)]at hG;subst hG hQ;simp only[go_sem,List.map_nil]
 rw[if_neg (by simp[a3])]at hQ;have hc:=of_decide_eq_true a3;by_cases hv:v.length=32
 rotate_left
 ·rw[if_pos ⟨a1,a2,a3,hv⟩]at hG;subst hG;have ce:=ars r v l c 0 hv;rw[p5,ki]at ce;simp only[go_sem];refine call ce [] ?_;simp only[go_sem,List.map_nil]
 rw[if_neg fun h=>h.2.2.2 hv]at hG;have cd:=ahb r v l c 0 a2 (by omega) hv;have e0:xr r v l c 0 []=(dt l (af4 v (a3c c 0) 9) (min r.seats.toNat l.length)).1:=by unfold xr;rw[at9 a2]
 rw[<-e0,p5,ki]at cd;have hal:=ae9 (r:=r) (v:=v) (l:=l) (c:=c) (j:=0) (prev:=[]);have har:=ajx l [];have e1:xr r v l c 1 (xr r v l c 0 [])=(dt (i8 l (xr r v l c 0 [])) (af4 v (a3c c 1) 9) (min r.seats.toNat (i8 l (xr r v l c 0 [])).length)).1:=rfl;generalize xr r v l c 0 []=a at*;simp only[go_sem];refine call cd [] ?_;by_cases hro:c.ro=0
 ·rw[if_pos hro]at hQ;subst hG hQ;simp only[go_sem,hro]
 rw[if_neg hro]at hQ;have cm:=aun l a hl (by simp only[big];omega);have hw:fc (fun k=>decide (k∈l)&& !decide (k∈(a:List Int))) 64=i8 l a:=rfl;rw[hw]at cm;simp only[go_sem,hro];refine call cm [] ?_;by_cases hne:i8 l a=[]
 ·rw[if_pos hne]at hQ;subst hG hQ;have g2:((i8 l a).length:Int)=0:=by rw[hne];rfl
  simp only[go_sem,g2,List.map_nil]
 rw[if_neg hne]at hQ;have hrv:vy (i8 l a)=true:=ajd hne;have hrl:0<(i8 l a).length:=List.length_pos_iff.2 hne;have g2: ¬((i8 l a).length:Int)=0:=by omega
 have cd2:=ahb r v (i8 l a) c 1 hrv (by omega) hv;rw[<-e1,p5,ki]at cd2;generalize xr r v l c 1 a=b at*;generalize i8 l a=W at*;subst hG hQ;simp only[go_sem,g2];refine call cd2 [] ?_;simp only[go_sem]
end Go.Proofs.Am
