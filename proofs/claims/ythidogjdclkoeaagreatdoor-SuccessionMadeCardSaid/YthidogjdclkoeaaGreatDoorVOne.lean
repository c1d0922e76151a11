/- VOne. -/
import Derived.Test.YthidogjdclkoeaaGreatDoorUOne
import Derived.Test.YthidogjdclkoeaaGreatDoorHOne
set_option maxHeartbeats 1000000
set_option maxRecDepth 100000
set_option linter.unusedSimpArgs false
set_option linter.unusedVariables false
namespace Go.Proofs.Am
open Go Go.RowKit
open Go.Proofs
theorem at2(l:List Int):kb l=j8 l:=by
 rw[Bool.eq_iff_iff];constructor
 ·intro h;obtain⟨h1,h2,h3⟩:=sb.1 h;have hk: ∀x∈l,0<=x/\x<64:=fun x hx=>ig.1 (h2 x hx);refine ar6 h3 hk h1 ?_
  have:=apr (l:=l) (m:=(List.range 64).map fun i:Nat=>(i:Int)) (h3.imp fun h=>by omega) fun x hx=>by
   have:=hk x hx;exact List.mem_map.2 ⟨x.toNat,List.mem_range.2 (by omega),by omega⟩
  simpa using this
 ·intro h;obtain⟨h1,h2,h3,_⟩:=kz h;exact sb.2 ⟨h3,fun k hk=>ig.2 (h2 k hk),h1⟩
theorem qx(l:List Int)(hl:big l.length):Den Tryz.prog 61 [.vs (l.map i1)] [] (.bool (j8 l)) [] []:=at2 l ▸ aeq l hl
theorem yy(l:List Int)(n m:Int)(hm:m=n - 1)(hl:big l.length):Den Tryz.prog 85 [.vs (l.map i1),.int .i64 0,.int .i64 m] [] (.bool (aac l n)) [] []:=by
 refine aa Tryz.func85 rfl Tryz.call85 Tryz.ntmps85 Tryz.results85 (by simp) (by kernel_rfl) [] (exts:=[]) rfl rfl ?_;generalize hq:aac l n=q;have hbad:aac l n=false->q=false:=fun h=>by rw[<-hq];exact h
 have hgood:aac l n=true->q=true:=fun h=>by rw[<-hq];exact h
 simp only[go_sem];refine loop Tryz.mixed 0 (fun i:Nat=>[(0,.vs (l.map i1)),(1,.int .i64 0),(2,.int .i64 m),(9,.vs (l.map i1)),(10,.int .i64 l.length),(11,.int .i64 i)]) (fun i=>[]) (fun i=>i<=l.length/\∀j,j<i->ko n l j=true) (fun i=>l.length - i) (by kernel_rfl) ?_ ?_ ?_
 ·simp
 ·simp only[go_sem]
 ·rintro i ⟨hi,hp⟩;by_cases hi':i<l.length
  ·have hlt:(i:Int)<(l.length:Int):=by omega
   by_cases a1:el l i<0
   ·have hq:ko n l i=false:=decide_eq_false (by omega);simp only[go_sem,hlt,hi',a1];exact(hbad (gn hi' hq)).symm
   by_cases a2:m<el l i
   ·have hq:ko n l i=false:=decide_eq_false (by omega);simp only[go_sem,hlt,hi',a1,a2];exact(hbad (gn hi' hq)).symm
   by_cases a3:0<i
   ·have a3':(0:Int)<(i:Int):=by omega
    have e1:IntKind.i64.wrap ((i:Int) - 1)=((i - 1:Nat):Int):=by rw[ai]<;>omega
    have e2:i - 1<l.length:=by omega
    by_cases a4:el l i<=el l (i - 1)
    ·have hq:ko n l i=false:=decide_eq_false (by omega);simp only[go_sem,hlt,hi',a1,a2,a3',e1,e2,a4];exact(hbad (gn hi' hq)).symm
    ·have hq:ko n l i=true:=decide_eq_true (by omega);simp only[go_sem,hlt,hi',a1,a2,a3',e1,e2,a4];exact⟨i+1,⟨⟨by omega,d6 hp hq⟩,by omega⟩,by rw[ai]<;>omega⟩
   ·have a3': ¬(0:Int)<(i:Int):=by omega
    have hq:ko n l i=true:=decide_eq_true (by omega);simp only[go_sem,hlt,hi',a1,a2,a3'];exact⟨i+1,⟨⟨by omega,d6 hp hq⟩,by omega⟩,by rw[ai]<;>omega⟩
  ·have hf: ¬((i:Int)<(l.length:Int)):=by omega
   have:i=l.length:=by omega
   subst this;simp only[go_sem,hf];exact(hgood (s4 hp)).symm
theorem a6d:Den Tryz.prog 84 [.agg [.int .i64 64,.vs [],.vs []]] [] (.int .i64 0) [] []:=by
 refine aa Tryz.func84 rfl Tryz.call84 Tryz.ntmps84 Tryz.results84 (by simp) (by kernel_rfl) [] (exts:=[]) rfl rfl ?_;have hi:inB 64 0 64=true:=rfl;have hs:aac [] 64=true:=rfl;have w:IntKind.i64.wrap 63=63:=by rw[ai]<;>omega
 simp only[go_sem];refine call (gh 64 0 64) [] ?_;rw[hi];simp only[go_sem,w];refine call (yy [] 64 63 rfl (by simp[big])) [] ?_;rw[hs];simp only[go_sem];refine loop Tryz.mixed 0 (fun _:Nat=>[(1,.ptr 1 0),(25,.vs []),(26,.int .i64 0),(27,.int .i64 0)]) (fun _=>[(1,.cells [.int .i64 64,.vs [],.vs []])]) (fun _=>True) (fun _=>0) (by kernel_rfl) ?_ ?_ ?_
 ·trivial
 ·simp only[go_sem]
 ·rintro i _;simp only[go_sem]
theorem awu(p:Pol)(h1:big p.se.length)(h2:big p.ta.length):Den Tryz.prog 62 [.agg [.int .i64 64,.vs [],.vs []],.agg (pl p)] [] (.int .i64 (if m6 p then 0 else 15)) [] []:=by
 refine aa Tryz.func62 rfl Tryz.call62 Tryz.ntmps62 Tryz.results62 (by simp) (by kernel_rfl) [] (exts:=[]) rfl rfl ?_;generalize hm:(if m6 p=true then(0:Int)else 15)=m;have no:m6 p=false->m=15:=fun h=>by rw[<-hm,h];rfl
 have yes:m6 p=true->m=0:=fun h=>by rw[<-hm,h];rfl
 clear hm;have w:IntKind.i64.wrap 63=63:=by rw[ai]<;>omega
 simp only[go_sem];refine call a6d [] ?_;by_cases a1:p.se.length=0
 ·have hq:=no (by rw[m6,decide_eq_false (by omega)];rfl);have a1':(p.se.length:Int)=0:=by omega
  simp only[go_sem,a1'];exact hq.symm
 have a1': ¬(p.se.length:Int)=0:=by omega
 simp only[go_sem,a1',w];refine call (yy p.se 64 63 rfl h1) [] ?_
 cases a2:aac p.se 64
 ·have hq:=no (by rw[m6,a2];simp);simp only[go_sem];exact hq.symm
 simp only[go_sem];refine call (gh p.ta.length 1 8) [] ?_
 cases a3:inB p.ta.length 1 8
 ·have a3:=of_decide_eq_false a3;have hq:=no (by rw[m6,decide_eq_false (p:=1<=p.ta.length/\p.ta.length<=8/\1<=p.lv/\p.lv<=3) (by omega)];simp);simp only[go_sem];exact hq.symm
 have a3:=of_decide_eq_true a3;simp only[go_sem];refine call (gh p.lv 1 3) [] ?_
 cases a4:inB p.lv 1 3
 ·have a4:=of_decide_eq_false a4;have hq:=no (by rw[m6,decide_eq_false (p:=1<=p.ta.length/\p.ta.length<=8/\1<=p.lv/\p.lv<=3) (by omega)];simp);simp only[go_sem];exact hq.symm
 have a4:=of_decide_eq_true a4;have hq:m6 p=ah9 (ni p.ta) p.ta.length:=by rw[m6,decide_eq_true (p:=1<=p.ta.length/\p.ta.length<=8/\1<=p.lv/\p.lv<=3) (by omega),decide_eq_true (by omega),a2];rfl
 rw[hq]at no yes;simp only[go_sem];refine loop Tryz.mixed 0 (fun i:Nat=>[(3,.ptr 3 0),(40,.vs (p.ta.map i1)),(41,.int .i64 p.ta.length),(42,.int .i64 i)]) (fun i=>[(3,.cells (pl p))]) (fun i=>i<=p.ta.length/\∀j,j<i->ni p.ta j=true) (fun i=>p.ta.length - i) (by kernel_rfl) ?_ ?_ ?_
 ·simp
 ·simp only[go_sem]
 ·rintro i ⟨hi,hp⟩;by_cases hi':i<p.ta.length
  ·have hlt:(i:Int)<(p.ta.length:Int):=by omega
   simp only[go_sem,hlt,hi'];refine call (gh (el p.ta i) 1 1000) [] ?_
   cases b1:inB (el p.ta i) 1 1000
   ·have b1:=of_decide_eq_false b1;have hq:ni p.ta i=false:=decide_eq_false (by omega);simp only[go_sem];exact(no (gn hi' hq)).symm
   have b1:=of_decide_eq_true b1;by_cases b3:0<i
   ·have b3':(0:Int)<(i:Int):=by omega
    have e1:IntKind.i64.wrap ((i:Int) - 1)=((i - 1:Nat):Int):=by rw[ai]<;>omega
    have e2:i - 1<p.ta.length:=by omega
    by_cases b4:el p.ta (i - 1)<el p.ta i
    ·have hq:ni p.ta i=false:=decide_eq_false (by omega);simp only[go_sem,b3',e1,e2,b4];exact(no (gn hi' hq)).symm
    ·have hq:ni p.ta i=true:=decide_eq_true (by omega);simp only[go_sem,b3',e1,e2,b4];exact⟨i+1,⟨⟨by omega,d6 hp hq⟩,by omega⟩,by rw[ai]<;>omega⟩
   ·have b3': ¬(0:Int)<(i:Int):=by omega
    have hq:ni p.ta i=true:=decide_eq_true (by omega);simp only[go_sem,b3'];exact⟨i+1,⟨⟨by omega,d6 hp hq⟩,by omega⟩,by rw[ai]<;>omega⟩
  ·have hf: ¬((i:Int)<(p.ta.length:Int)):=by omega
   have:i=p.ta.length:=by omega
   subst this;simp only[go_sem,hf];exact(yes (s4 hp)).symm
theorem aiz(r:Rl)(h0:big r.gen.length)(h1:big r.pol.se.length)(h2:big r.pol.ta.length):Den Tryz.prog 39 [.agg (rl r)] [] (.int .i64 (da r)) [] []:=by
 refine aa Tryz.func39 rfl Tryz.call39 Tryz.ntmps39 Tryz.results39 (by simp) (by kernel_rfl) [] (exts:=[]) rfl rfl ?_;generalize hm:da r=m;simp only[go_sem];refine call (qx r.gen h0) [] ?_
 cases a1:j8 r.gen
 ·rw[da,if_pos a1]at hm;simp only[go_sem];exact hm
 rw[da,if_neg (by simp[a1])]at hm;have c1:=awu r.pol h1 h2;rw[a6f]at c1;simp only[go_sem];refine call c1 [] ?_
 cases a2:m6 r.pol
 ·rw[if_pos a2]at hm;simp only[go_sem];exact hm
 rw[if_neg (by simp[a2])]at hm;by_cases c1:r.seats<1
 ·rw[if_neg (by omega)]at hm;simp only[go_sem,c1];exact hm
 by_cases c2:9<r.seats
 ·rw[if_neg (by omega)]at hm;simp only[go_sem,c1,c2];exact hm
 by_cases c3:r.span<1
 ·rw[if_neg (by omega)]at hm;simp only[go_sem,c1,c2,c3];exact hm
 by_cases c4:1000000<r.span
 ·rw[if_neg (by omega)]at hm;simp only[go_sem,c1,c2,c3,c4];exact hm
 by_cases c5:r.quota<0
 ·rw[if_neg (by omega)]at hm;simp only[go_sem,c1,c2,c3,c4,c5];exact hm
 by_cases c6:64<r.quota
 ·rw[if_neg (by omega)]at hm;simp only[go_sem,c1,c2,c3,c4,c5,c6];exact hm
 rw[if_pos (by omega)]at hm;simp only[go_sem,c1,c2,c3,c4,c5,c6];exact hm
theorem akf(v:Int){m:Nat}(h:m<8):(be8 v).take (m+1)=(be8 v).take m++[bAt v (56 - 8*m)]:=by
 have:m=0\/m=1\/m=2\/m=3\/m=4\/m=5\/m=6\/m=7:=by omega
 rcases this with rfl|rfl|rfl|rfl|rfl|rfl|rfl|rfl<;>rfl
theorem ajc(v:Int){m:Nat}(h:m<=8):((be8 v).take m).length=m:=by simp[be8];omega
theorem awv{l:List Int}{i:Nat}(h:i<l.length):beL (l.take (i+1))=beL (l.take i)++be8 (el l i):=by
 rw[c9 h,i8];simp[beL]
theorem rf(bs:List UInt8)(l:List Int)(hb:bs.length<=2000000000)(hl:l.length<=1000000000):Den Tryz.prog 87 [.os 1000000 bs.length,.vs (l.map i1)] [.arr 5 1 false (bs.map u8)] (.os 1000000 (bs++beL l).length) [] [.arr 5 1 false ((bs++beL l).map u8)]:=by
 refine aa Tryz.func87 rfl Tryz.call87 Tryz.ntmps87 Tryz.results87 (by simp) (by kernel_rfl) [] (exts:=[1000000]) rfl rfl ?_;simp only[go_sem];refine loop Tryz.mixed 0 (fun i:Nat=>[(0,.os 1000000 (bs++beL (l.take i)).length),(8,.vs (l.map i1)),(9,.int .i64 l.length),(10,.int .i64 i)]) (fun i=>[(1000000,.arr 5 1 false ((bs++beL (l.take i)).map u8))]) (fun i=>i<=l.length) (fun i=>l.length - i) (by kernel_rfl) (Nat.zero_le _) ?_ ?_
 ·simp only[go_sem,List.take_zero,beL,List.flatMap_nil,List.append_nil]
 ·intro i hi;have hti:(l.take i).length=i:=by simp;omega
  have hbl:(bs++beL (l.take i)).length<=2000000000+8000000000:=by simp only[List.length_append,dw,hti];omega
  by_cases h:i<l.length
  ·have h1:(i:Int)<(l.length:Int):=by omega
   have hst:=awv h;generalize hv:el l i=v at*;generalize hB:bs++beL (l.take i)=B at*;simp only[go_sem,h1,h,hv];refine loop Tryz.mixed 0 (fun m:Nat=>[(0,.os 1000000 (B++(be8 v).take m).length),(6,.int .i64 v),(7,.int .i64 (56 - 8*(m:Int))),(8,.vs (l.map i1)),(9,.int .i64 l.length),(10,.int .i64 i)]) (fun m=>[(1000000,.arr 5 1 false ((B++(be8 v).take m).map u8))]) (fun m=>m<=8) (fun m=>8 - m) (by kernel_rfl) (Nat.zero_le _) ?_ ?_
   ·simp only[go_sem,List.take_zero,List.append_nil]
   ·intro m hm;have htl:=ajc v hm;by_cases h2:m<8
    ·have e1:(56 - 8*(m:Int))=((56 - 8*m:Nat):Int):=by omega
     have e2:min (56 - 8*m) 64=56 - 8*m:=by omega
     have e3:=aak v (56 - 8*m) (by omega);have e0:=akf v h2;have hc:(0:Int)<=((56 - 8*m:Nat):Int):=by omega
     rw[e1];generalize hq:56 - 8*m=q at*;simp only[go_sem,hc,e2,e3,htl];refine⟨by omega,m+1,⟨by omega,by omega⟩,⟨by rw[ajc v h2];omega,by rw[ai]<;>omega⟩,?_⟩;rw[e0];simp[u8]
    ·have:m=8:=by omega
     subst this;have h8:(be8 v).take 8=be8 v:=rfl;have hc: ¬(0:Int)<=56 - 8*((8:Nat):Int):=by omega
     rw[h8];simp only[go_sem,hc];refine⟨i+1,⟨by omega,by omega⟩,⟨?_,by rw[ai]<;>omega⟩,by rw[hst,<-List.append_assoc,hB]⟩;rw[hst,List.length_append,<-hB,List.length_append];omega
  ·have h1: ¬(i:Int)<(l.length:Int):=by omega
   have:i=l.length:=by omega
   subst this;simp only[go_sem,h1,List.take_length]
theorem kt(bs:List UInt8)(l:List Int)(hb:bs.length<=1000000000)(hl:l.length<=10000000):Den Tryz.prog 63 [.os 1000000 bs.length,.vs (l.map i1)] [.arr 5 1 false (bs.map u8)] (.os 1000000 (bs++lsB l).length) [] [.arr 5 1 false ((bs++lsB l).map u8)]:=by
 refine aa Tryz.func63 rfl Tryz.call63 Tryz.ntmps63 Tryz.results63 (by simp) (by kernel_rfl) [] (exts:=[1000000]) rfl rfl ?_;have c1:=rf bs [(l.length:Int)] (by omega) (by simp);have e1:beL [(l.length:Int)]=be8 l.length:=by simp[beL]
 rw[e1]at c1;have c2:=rf (bs++be8 l.length) l (by simp only[List.length_append,aw];omega) (by omega);simp only[go_sem];refine call c1 [1000000] ?_;simp only[go_sem];refine⟨by omega,call c2 [1000000] ?_⟩;simp only[go_sem,lsB,List.append_assoc];omega
def bxV(bs:List UInt8)(v:Int):Nat->PV
 |0=> .vx (bs.map u8)
 |m+1=> .os 25 (bs++(be8 v).take (m+1)).length
def bxB(bs:List UInt8)(v:Int):Nat->ASt
 |0=>[]
 |m+1=>[(25,.arr 5 1 false ((bs++(be8 v).take (m+1)).map u8))]
theorem akm(bs:List UInt8)(v:Int):bxV bs v 0= .vx (bs.map u8):=rfl
theorem a1j(bs:List UInt8)(v:Int):bxV bs v 1= .os 25 (bs++(be8 v).take 1).length:=rfl
theorem aku(bs:List UInt8)(v:Int)(m:Nat):bxV bs v (m+1)= .os 25 (bs++(be8 v).take (m+1)).length:=rfl
theorem alc(bs:List UInt8)(v:Int):bxB bs v 0=[]:=rfl
theorem a05(bs:List UInt8)(v:Int):bxB bs v 1=[(25,.arr 5 1 false ((bs++(be8 v).take 1).map u8))]:=rfl
theorem akt(bs:List UInt8)(v:Int)(m:Nat):bxB bs v (m+1)=[(25,.arr 5 1 false ((bs++(be8 v).take (m+1)).map u8))]:=rfl
theorem amo(bs:List UInt8)(v:Int)(hb:bs.length<=2000000000):Den Tryz.prog 87 [.vx (bs.map u8),.vs [i1 v]] [] (.vs ((bs++be8 v).map u8)) [] []:=by
 refine aa Tryz.func87 rfl Tryz.call87 Tryz.ntmps87 Tryz.results87 (by simp) (by kernel_rfl) [] (exts:=[]) rfl rfl ?_;have w:IntKind.i64.wrap 1=1:=by rw[ai]<;>omega
 simp only[go_sem];refine loop Tryz.mixed 0 (fun i:Nat=>match i with|0=>[(0,.vx (bs.map u8)),(8,.vs [i1 v]),(9,.int .i64 1),(10,.int .i64 0)]|_=>[(0,.os 25 (bs++be8 v).length),(8,.vs [i1 v]),(9,.int .i64 1),(10,.int .i64 1)]) (fun i=>match i with|0=>[]|_=>[(25,.arr 5 1 false ((bs++be8 v).map u8))]) (fun i=>i<=1) (fun i=>1 - i) (by kernel_rfl) (Nat.zero_le _) ?_ ?_
 ·simp only[go_sem]
 ·intro i hi
  cases i with
  |zero=>
   simp only[go_sem];refine loop Tryz.mixed 0 (fun m:Nat=>[(0,bxV bs v m),(6,.int .i64 v),(7,.int .i64 (56 - 8*(m:Int))),(8,.vs [i1 v]),(9,.int .i64 1),(10,.int .i64 0)]) (fun m=>bxB bs v m) (fun m=>m<=8) (fun m=>8 - m) (by kernel_rfl) (Nat.zero_le _) ?_ ?_
   ·simp only[go_sem,akm,alc]
   ·intro m hm;have htl:=ajc v hm;by_cases h2:m<8
    ·have e1:(56 - 8*(m:Int))=((56 - 8*m:Nat):Int):=by omega
     have e2:min (56 - 8*m) 64=56 - 8*m:=by omega
     have e3:=aak v (56 - 8*m) (by omega);have e0:=akf v h2;have hc:(0:Int)<=((56 - 8*m:Nat):Int):=by omega
     rw[e1];generalize hq:56 - 8*m=q at*
     cases m with
     |zero=>
      simp only[go_sem,hc,e2,e3,htl,akm,alc];refine⟨by omega,1,⟨by omega,by omega⟩,?_⟩;simp only[go_sem,a1j,a05];have e0':(be8 v).take 1=[bAt v q]:=e0;refine⟨⟨by rw[e0'];rfl,by rw[ai]<;>omega⟩,?_⟩;rw[e0']
      simp[u8]
     |succ m=>
      simp only[go_sem,hc,e2,e3,htl,aku,akt];refine⟨by omega,m+1+1,⟨by omega,by omega⟩,?_⟩;simp only[go_sem,aku,akt];refine⟨⟨by rw[ajc v h2];omega,by rw[ai]<;>omega⟩,?_⟩;rw[e0];simp[u8]
    ·have:m=8:=by omega
     subst this;have h8:(be8 v).take 8=be8 v:=rfl;have hc: ¬(0:Int)<=56 - 8*((8:Nat):Int):=by omega
     have b1:bxV bs v 8= .os 25 (bs++be8 v).length:=rfl;have b2:bxB bs v 8=[(25,.arr 5 1 false ((bs++be8 v).map u8))]:=rfl;simp only[go_sem,hc,b1,b2];refine⟨1,⟨by omega,by omega⟩,?_⟩
     simp only[go_sem,w]
  |succ i=>
   simp only[go_sem]
theorem at8(v:List UInt8)(ep:Int)(l:List Int)(hv:v.length=32)(h0:0<=ep)(h1:ep<40)(hl:l.length<=64):Den Tryz.prog 66 [.str v,.int .i64 ep,.vs (l.map i1)] [] (.tup [.str (j3 v ep l),.int .i64 0]) [] []:=by
 refine aa Tryz.func66 rfl Tryz.call66 Tryz.ntmps66 Tryz.results66 (by simp) (by kernel_rfl) [] (exts:=[]) rfl rfl ?_;have g1:(v.length:Int)=32:=by omega
 have g2: ¬ep<0:=by omega
 have g3: ¬(40:Int)<=ep:=by omega
 have g4: ¬(64:Int)<(l.length:Int):=by omega
 have c1:=rf v [ep] (by omega) (by simp);have e1:beL [ep]=be8 ep:=by simp[beL]
 rw[e1]at c1;have c2:=kt (v++be8 ep) l (by simp only[List.length_append,aw];omega) (by omega);have c3:=ul ((v++be8 ep)++lsB l) (by simp only[List.length_append,gu,aw];omega);simp only[go_sem,g1,g2,g3,g4];refine⟨by omega,call c1 [24] ?_⟩;simp only[go_sem];refine⟨by omega,call c2 [24] ?_⟩;simp only[go_sem];refine⟨by omega,call c3 [] ?_⟩;simp only[go_sem,j3]
def ax8(S:List UInt8):Nat->Int
 |0=>0
 |k+1=>bits .or .i64 (IntKind.i64.wrap (ax8 S k*2^min 8 64)) (IntKind.i64.wrap ((S.getD k 0).toNat:Int))
theorem ajt{a b i:Nat}(h:b<2^i):2^i*a|||b=2^i*a+b:=(Nat.two_pow_add_eq_or_of_lt h a).symm
theorem qk(a b:Nat)(ha:a<16777216)(hb:b<256):bits .or .i64 (IntKind.i64.wrap ((a:Int)*2^min 8 64)) (IntKind.i64.wrap (b:Int))=((a*256+b:Nat):Int):=by
 have e1:IntKind.i64.wrap ((a:Int)*2^min 8 64)=((a*256:Nat):Int):=by
  have:(2:Int)^min 8 64=256:=by rfl
  rw[this,ai]<;>omega
 have e2:IntKind.i64.wrap (b:Int)=((b:Nat):Int):=by rw[ai]<;>omega
 rw[e1,e2,wq _ _ (by omega) (by omega)];have:=ajt (a:=a) (b:=b) (i:=8) hb;rw[show(2:Nat)^8*a=a*256 by omega]at this;rw[this]
theorem anj(S:List UInt8):ax8 S 4=ac4 S:=by
 have hb: ∀k,(S.getD k 0).toNat<256:=fun k=>(S.getD k 0).toNat_lt;have b0:=hb 0;have b1:=hb 1;have b2:=hb 2;have b3:=hb 3;unfold ac4;simp only[ax8];generalize (S.getD 0 0).toNat=x0 at*;generalize (S.getD 1 0).toNat=x1 at*;generalize (S.getD 2 0).toNat=x2 at*;generalize (S.getD 3 0).toNat=x3 at*;have f1:=qk 0 x0 (by omega) b0;have f2:=qk (0*256+x0) x1 (by omega) b1;have f3:=qk ((0*256+x0)*256+x1) x2 (by omega) b2;have f4:=qk (((0*256+x0)*256+x1)*256+x2) x3 (by omega) b3;rw[show(0:Int)=((0:Nat):Int) from rfl,f1,f2,f3,f4];have w: ∀k:Nat,k<256->IntKind.i64.wrap (k:Int)=(k:Int):=fun k hk=>by rw[ai]<;>omega
 rw[w x0 b0,w x1 b1,w x2 b2,w x3 b3]
 have e0:IntKind.i64.wrap ((x0:Int)*2^min 24 64)=((x0*16777216:Nat):Int):=by
  have:(2:Int)^min 24 64=16777216:=by rfl
  rw[this,ai]<;>omega
 have e1:IntKind.i64.wrap ((x1:Int)*2^min 16 64)=((x1*65536:Nat):Int):=by
  have:(2:Int)^min 16 64=65536:=by rfl
  rw[this,ai]<;>omega
 have e2:IntKind.i64.wrap ((x2:Int)*2^min 8 64)=((x2*256:Nat):Int):=by
  have:(2:Int)^min 8 64=256:=by rfl
  rw[this,ai]<;>omega
 have g1:=ajt (a:=x0) (b:=x1*65536) (i:=24) (by omega);have g2:=ajt (a:=x0*256+x1) (b:=x2*256) (i:=16) (by omega);have g3:=ajt (a:=(x0*256+x1)*256+x2) (b:=x3) (i:=8) (by omega);rw[show(2:Nat)^24*x0=x0*16777216 by omega]at g1;rw[show(2:Nat)^16*(x0*256+x1)=x0*16777216+x1*65536 by omega]at g2;rw[show(2:Nat)^8*((x0*256+x1)*256+x2)=x0*16777216+x1*65536+x2*256 by omega]at g3;rw[e0,e1,e2,wq _ _ (by omega) (by omega),g1,wq _ _ (by omega) (by omega),g2,wq _ _ (by omega) (by omega),g3];omega
theorem adc(v:List UInt8)(tag:List Int)(n:Nat)(hv:v.length=32)(ht:tag.length<=64)(hn:n<=64):Den Tryz.prog 108 [.str v,.vs (tag.map i1),.int .i64 n] [] (.tup [.vs ((rz v tag n).map i1),.int .i64 0]) [] []:=by
 refine aa Tryz.func108 rfl Tryz.call108 Tryz.ntmps108 Tryz.results108 (by simp) (by kernel_rfl) [] (exts:=[]) rfl rfl ?_;have g1:(v.length:Int)=32:=by omega
 have g2: ¬(64:Int)<(tag.length:Int):=by omega
 have g3: ¬(n:Int)<0:=by omega
 have g4: ¬(64:Int)<(n:Int):=by omega
 have c1:=kt v tag (by omega) (by omega);have hB:(v++lsB tag).length<=1000:=by simp only[List.length_append,gu];omega
 have hvB:v.length<=(v++lsB tag).length:=by rw[List.length_append];omega
 have hna: ∀i:Nat,ayn v tag i=ac4 (sha ((v++lsB tag)++be8 i)):=fun _=>rfl;simp only[go_sem,g1,g2,g3,g4];refine⟨by omega,call c1 [30] ?_⟩;generalize v++lsB tag=B at*;simp only[go_sem];refine⟨hvB,?_⟩;refine dm 8 99 3 1 false ?_ ?_ ?_ (by omega)
 ·refine loop Tryz.mixed 0 (fun i:Nat=>[(9,.vs (B.map u8)),(8,.os 99 (rz v tag i).length),(33,.int .i64 n),(34,.int .i64 i)]) (fun i=>[(99,.arr 3 1 false ((rz v tag i).map i1))]) (fun i=>i<=n) (fun i=>n - i) (by kernel_rfl) (Nat.zero_le _) ?_ ?_
  ·simp only[go_sem,rz,List.map_nil,List.length_nil]
  ·intro i hi;have hnl:=jz v tag i;by_cases h:i<n
   ·have hlt:(i:Int)<(n:Int):=by omega
    simp only[go_sem,hlt,List.take_length];refine⟨Nat.le_refl _,call (amo B i (by omega)) [] ?_⟩;simp only[go_sem];refine call (ul (B++be8 i) (by simp only[List.length_append,aw];omega)) [] ?_;have hs:=rd (B++be8 i);have hna:=hna i;generalize sha (B++be8 i)=S at*;simp only[go_sem];refine loop Tryz.mixed 0 (fun k:Nat=>[(9,.vs (B.map u8)),(8,.os 99 (rz v tag i).length),(33,.int .i64 n),(34,.int .i64 i),(11,.str S),(12,.int .i64 (ax8 S k)),(47,.int .i64 k)]) (fun k=>[(99,.arr 3 1 false ((rz v tag i).map i1))]) (fun k=>k<=4) (fun k=>4 - k) (by kernel_rfl) (Nat.zero_le _) ?_ ?_
    ·simp only[go_sem];rfl
    ·intro k hk;by_cases hk4:k<4
     ·have hkt:(k:Int)<4:=by omega
      have hkl:k<S.length:=by omega
      simp only[go_sem,hkt,hkl];exact⟨k+1,⟨by omega,by omega⟩,rfl,by rw[ai]<;>omega⟩
     ·have:k=4:=by omega
      subst this;simp only[go_sem];refine⟨by omega,i+1,⟨by omega,by omega⟩,⟨by rw[jz,jz],by rw[ai]<;>omega⟩,?_⟩;rw[rz,hna,anj];simp[i1]
   ·have hm2:i=n:=by omega
    subst hm2;have hc: ¬(i:Int)<(i:Int):=by omega
    simp only[go_sem,hc]
 ·simp only[go_sem]
 ·simp only[go_sem]
theorem a34(a b:Nat)(ha:a<9223372036854775808)(hb:b<9223372036854775808):bits .and .i64 (a:Int) (b:Int)=((a&&&b:Nat):Int):=by
 have hx:a&&&b<2^63:=Nat.lt_of_le_of_lt Nat.and_le_left (by omega)
 have h1:(BitVec.ofInt 64 (a:Int)).toNat=a:=by
  rw[BitVec.ofInt_natCast,BitVec.toNat_ofNat];exact Nat.mod_eq_of_lt (by omega)
 have h2:(BitVec.ofInt 64 (b:Int)).toNat=b:=by
  rw[BitVec.ofInt_natCast,BitVec.toNat_ofNat];exact Nat.mod_eq_of_lt (by omega)
 show IntKind.i64.wrap ((BitVec.ofInt 64 (a:Int)&&&BitVec.ofInt 64 (b:Int)).toNat:Int)=_;rw[BitVec.toNat_and,h1,h2,IntKind.wrap_i64];omega
theorem rg(n i:Nat)(hn:n<4294967296):bits .and .i64 ((n:Int).fdiv ((2:Int)^i)) 1=if n.testBit i then 1 else 0:=by
 have h0:(0:Int)<=(2:Int)^i:=Int.pow_nonneg (by omega)
 have e1:(n:Int).fdiv ((2:Int)^i)=((n/2^i:Nat):Int):=by
  rw[Int.fdiv_eq_ediv_of_nonneg _ h0];have:((2:Int)^i)=((2^i:Nat):Int):=by simp
  rw[this];rfl
 have hle:n/2^i<=n:=Nat.div_le_self _ _;have:=a34 (n/2^i) 1 (by omega) (by omega);rw[e1];rw[show(1:Int)=((1:Nat):Int) from rfl,this,Nat.and_one_is_mod,Nat.testBit_eq_decide_div_mod_eq];have h2:n/2^i % 2=0\/n/2^i % 2=1:=by omega
 rcases h2 with h2|h2<;>rw[h2]<;>simp
theorem rj{l:List Int}{i n:Nat}(hn:el l (i/32)=(n:Int)):gl l (i:Int)=n.testBit (i % 32):=by
 unfold gl;rw[Int.toNat_natCast,hn,Int.toNat_natCast]
theorem ka{l:List Int}(h:js l){i:Nat}(hi:i<64): ∃n:Nat,el l (i/32)=(n:Int)/\n<4294967296:=by
 obtain⟨_,h1,h2,h3,h4,_⟩:=h;have hd:i/32=0\/i/32=1:=by omega
 rcases hd with hd|hd<;>rw[hd]
 ·exact⟨(el l 0).toNat,by omega,by omega⟩
 ·exact⟨(el l 1).toNat,by omega,by omega⟩
theorem ll(l:List Int)(hl:big l.length):Den Tryz.prog 24 [.vs (l.map i1)] [] (.tup [.vs ((ut l).1.map i1),.int .i64 (ut l).2]) [] []:=by
 refine aa Tryz.func24 rfl Tryz.call24 Tryz.ntmps24 Tryz.results24 (by simp) (by kernel_rfl) [] (exts:=[]) rfl rfl ?_;by_cases a0:l.length=2
 rotate_left
 ·have a0': ¬(l.length:Int)=2:=by omega
  rw[fk fun h=>a0 h.1];simp only[go_sem,a0',List.map_nil]
 have a0':(l.length:Int)=2:=by omega
 have b0:0<l.length:=by omega
 have b1:1<l.length:=by omega
 by_cases a1:el l 0<0
 ·rw[fk fun h=>by have:=h.2;omega];simp only[go_sem,a0',b0,b1,a1,List.map_nil]
 by_cases a2:4294967296<=el l 0
 ·rw[fk fun h=>by have:=h.2;omega];simp only[go_sem,a0',b0,b1,a1,a2,List.map_nil]
 by_cases a3:el l 1<0
 ·rw[fk fun h=>by have:=h.2;omega];simp only[go_sem,a0',b0,b1,a1,a2,a3,List.map_nil]
 by_cases a4:4294967296<=el l 1
 ·rw[fk fun h=>by have:=h.2;omega];simp only[go_sem,a0',b0,b1,a1,a2,a3,a4,List.map_nil]
 by_cases a5:el l 0=0
 ·by_cases a6:el l 1=0
  ·rw[fk fun h=>h.2.2.2.2.2 ⟨a5,a6⟩];simp only[go_sem,a0',b0,b1,a1,a2,a3,a4,a5,a6,List.map_nil]
  have hd:js l:=⟨a0,by omega,by omega,by omega,by omega,fun h=>a6 h.2⟩;simp only[go_sem,a0',b0,b1,a1,a2,a3,a4,a5,a6];rw[gw hd];refine dm 4 99 3 1 false ?_ ?_ ?_ (by omega)
  ·refine loop Tryz.mixed 0 (fun i:Nat=>[(0,.vs (l.map i1)),(4,.os 99 (bm (gl l) i).length),(5,.int .i64 i)]) (fun i=>[(99,.arr 3 1 false ((bm (gl l) i).map i1))]) (fun i=>i<=64) (fun i=>64 - i) (by kernel_rfl) (Nat.zero_le _) ?_ ?_
   ·simp only[go_sem];exact⟨rfl,rfl⟩
   ·intro i hi;have hsu:=fu (gl l) i;have hln:=fi (gl l) i;by_cases hlt:i<64
    ·have h1:(i:Int)<64:=by omega
     obtain⟨n,hn,hnb⟩:=ka hd hlt;have hb:=rj hn;have hs:=rg n (i % 32) hnb;have e1:IntKind.i64.wrap ((i:Int).tdiv 32)=((i/32:Nat):Int):=by rw[Int.tdiv_eq_ediv_of_nonneg (by omega),ai (by omega) (by omega)];rfl
     have e2:(i:Int).tmod 32=((i % 32:Nat):Int):=by rw[Int.tmod_eq_emod_of_nonneg (by omega)];rfl
     have e3:min (i % 32) 64=i % 32:=by omega
     have e4:IntKind.u64.wrap ((i % 32:Nat):Int)=((i % 32:Nat):Int):=by rw[IntKind.wrap_u64];omega
     have h2:i/32<l.length:=by omega
     rw[hb]at hsu;generalize bm (gl l) i=o at*;generalize hj:i/32=j at*;generalize hk:i % 32=k at*
     cases ht:n.testBit k
     ·rw[ht]at hsu hs;simp only[go_sem,h1,e1,e2,e3,e4,h2,hn,hs]
      (repeat refine And.intro (by first|omega|exact ae (by kernel_rfl)) ?_)
      refine⟨i+1,⟨by omega,by omega⟩,?_⟩;rw[hsu];simp only[go_sem,List.append_nil];rw[ai]<;>omega
     ·rw[ht]at hsu hs;simp only[go_sem,h1,e1,e2,e3,e4,h2,hn,hs]
      (repeat refine And.intro (by first|omega|exact ae (by kernel_rfl)) ?_)
      refine⟨i+1,⟨by omega,by omega⟩,?_⟩;rw[hsu];simp only[go_sem,List.map_append,List.length_append];rw[ai]<;>omega
    ·have h1: ¬(i:Int)<64:=by omega
     have:i=64:=by omega
     subst this;simp only[go_sem,h1]
     done
  ·simp only[go_sem]
  ·simp only[go_sem]
 have hd:js l:=⟨a0,by omega,by omega,by omega,by omega,fun h=>a5 h.1⟩;simp only[go_sem,a0',b0,b1,a1,a2,a3,a4,a5];rw[gw hd];refine dm 4 99 3 1 false ?_ ?_ ?_ (by omega)
 ·refine loop Tryz.mixed 0 (fun i:Nat=>[(0,.vs (l.map i1)),(4,.os 99 (bm (gl l) i).length),(5,.int .i64 i)]) (fun i=>[(99,.arr 3 1 false ((bm (gl l) i).map i1))]) (fun i=>i<=64) (fun i=>64 - i) (by kernel_rfl) (Nat.zero_le _) ?_ ?_
  ·simp only[go_sem];exact⟨rfl,rfl⟩
  ·intro i hi;have hsu:=fu (gl l) i;have hln:=fi (gl l) i;by_cases hlt:i<64
   ·have h1:(i:Int)<64:=by omega
    obtain⟨n,hn,hnb⟩:=ka hd hlt;have hb:=rj hn;have hs:=rg n (i % 32) hnb;have e1:IntKind.i64.wrap ((i:Int).tdiv 32)=((i/32:Nat):Int):=by rw[Int.tdiv_eq_ediv_of_nonneg (by omega),ai (by omega) (by omega)];rfl
    have e2:(i:Int).tmod 32=((i % 32:Nat):Int):=by rw[Int.tmod_eq_emod_of_nonneg (by omega)];rfl
    have e3:min (i % 32) 64=i % 32:=by omega
    have e4:IntKind.u64.wrap ((i % 32:Nat):Int)=((i % 32:Nat):Int):=by rw[IntKind.wrap_u64];omega
    have h2:i/32<l.length:=by omega
    rw[hb]at hsu;generalize bm (gl l) i=o at*;generalize hj:i/32=j at*;generalize hk:i % 32=k at*
    cases ht:n.testBit k
    ·rw[ht]at hsu hs;simp only[go_sem,h1,e1,e2,e3,e4,h2,hn,hs]
     (repeat refine And.intro (by first|omega|exact ae (by kernel_rfl)) ?_)
     refine⟨i+1,⟨by omega,by omega⟩,?_⟩;rw[hsu];simp only[go_sem,List.append_nil];rw[ai]<;>omega
    ·rw[ht]at hsu hs;simp only[go_sem,h1,e1,e2,e3,e4,h2,hn,hs]
     (repeat refine And.intro (by first|omega|exact ae (by kernel_rfl)) ?_)
     refine⟨i+1,⟨by omega,by omega⟩,?_⟩;rw[hsu];simp only[go_sem,List.map_append,List.length_append];rw[ai]<;>omega
   ·have h1: ¬(i:Int)<64:=by omega
    have:i=64:=by omega
    subst this;simp only[go_sem,h1]
    done
 ·simp only[go_sem]
 ·simp only[go_sem]
def jy(x:Int):Bool:=decide (x<0)||decide (4294967296<=x)
theorem ara(x:Int):Den Tryz.prog 90 [.int .i64 x] [] (.bool (jy x)) [] []:=by
 refine aa Tryz.func90 rfl Tryz.call90 Tryz.ntmps90 Tryz.results90 (by simp) (by kernel_rfl) [] (exts:=[]) rfl rfl ?_;by_cases h1:x<0
 ·simp only[go_sem,h1,jy]
 ·by_cases h2:4294967296<=x
  ·simp only[go_sem,h1,h2,jy]
  ·simp only[go_sem,h1,h2,jy]
theorem aur{l:List Int}(h:l.length=2):l.any jy=(jy (el l 0)||jy (el l 1)):=by
 match l,h with
 |[x,y],_=>simp[el]
theorem aw4(l:List Int)(hl:big l.length):Den Tryz.prog 65 [.vs (l.map i1)] [] (.tup [.vs ((ut l).1.map i1),.int .i64 (ut l).2]) [] []:=by
 refine aa Tryz.func65 rfl Tryz.call65 Tryz.ntmps65 Tryz.results65 (by simp) (by kernel_rfl) [] (exts:=[]) rfl rfl ?_;by_cases a0:l.length=2
 rotate_left
 ·have a0': ¬(l.length:Int)=2:=by omega
  rw[fk fun h=>a0 h.1];simp only[go_sem,a0',List.map_nil]
 have a0':(l.length:Int)=2:=by omega
 have b0:0<l.length:=by omega
 have b1:1<l.length:=by omega
 have c1:=k9 jy 90 ara l hl;have hw:=aur a0;simp only[go_sem,a0',b0,b1];refine call c1 [] ?_
 cases hq:l.any jy
 rotate_left
 ·rw[hq]at hw
  rw[fk fun h=>by
   obtain⟨_,h1,h2,h3,h4,_⟩:=h;have g1:jy (el l 0)=false:=by simp[jy];omega
   have g2:jy (el l 1)=false:=by simp[jy];omega
   rw[g1,g2]at hw
   cases hw]
  simp only[go_sem,List.map_nil]
 have hr:(0<=el l 0/\el l 0<4294967296)/\0<=el l 1/\el l 1<4294967296:=by
  rw[hq]at hw;have:=hw.symm;simp[jy]at this;omega
 by_cases a5:el l 0=0
 ·by_cases a6:el l 1=0
  ·rw[fk fun h=>h.2.2.2.2.2 ⟨a5,a6⟩];simp only[go_sem,a0',b0,b1,a5,a6,List.map_nil]
  have hd:js l:=⟨a0,by omega,by omega,by omega,by omega,fun h=>a6 h.2⟩;simp only[go_sem,a0',b0,b1,a5,a6];rw[gw hd];refine dm 5 99 3 1 false ?_ ?_ ?_ (by omega)
  ·refine loop Tryz.mixed 0 (fun i:Nat=>[(0,.vs (l.map i1)),(5,.os 99 (bm (gl l) i).length),(27,.int .i64 i)]) (fun i=>[(99,.arr 3 1 false ((bm (gl l) i).map i1))]) (fun i=>i<=64) (fun i=>64 - i) (by kernel_rfl) (Nat.zero_le _) ?_ ?_
   ·simp only[go_sem];exact⟨rfl,rfl⟩
   ·intro i hi;have hsu:=fu (gl l) i;have hln:=fi (gl l) i;by_cases hlt:i<64
    ·have h1:(i:Int)<64:=by omega
     obtain⟨n,hn,hnb⟩:=ka hd hlt;have hb:=rj hn;have hs:=rg n (i % 32) hnb;have e1:IntKind.i64.wrap ((i:Int).tdiv 32)=((i/32:Nat):Int):=by rw[Int.tdiv_eq_ediv_of_nonneg (by omega),ai (by omega) (by omega)];rfl
     have e2:(i:Int).tmod 32=((i % 32:Nat):Int):=by rw[Int.tmod_eq_emod_of_nonneg (by omega)];rfl
     have e3:min (i % 32) 64=i % 32:=by omega
     have e4:IntKind.u64.wrap ((i % 32:Nat):Int)=((i % 32:Nat):Int):=by rw[IntKind.wrap_u64];omega
     have h2:i/32<l.length:=by omega
     rw[hb]at hsu;generalize bm (gl l) i=o at*;generalize hj:i/32=j at*;generalize hk:i % 32=k at*
     cases ht:n.testBit k
     ·rw[ht]at hsu hs;simp only[go_sem,h1,e1,e2,e3,e4,h2,hn,hs]
      (repeat refine And.intro (by first|omega|exact ae (by kernel_rfl)) ?_)
      refine⟨i+1,⟨by omega,by omega⟩,?_⟩;rw[hsu];simp only[go_sem,List.append_nil];rw[ai]<;>omega
     ·rw[ht]at hsu hs;simp only[go_sem,h1,e1,e2,e3,e4,h2,hn,hs]
      (repeat refine And.intro (by first|omega|exact ae (by kernel_rfl)) ?_)
      refine⟨i+1,⟨by omega,by omega⟩,?_⟩;rw[hsu];simp only[go_sem,List.map_append,List.length_append];rw[ai]<;>omega
    ·have h1: ¬(i:Int)<64:=by omega
     have:i=64:=by omega
     subst this;simp only[go_sem,h1]
     done
  ·simp only[go_sem]
  ·simp only[go_sem]
 have hd:js l:=⟨a0,by omega,by omega,by omega,by omega,fun h=>a5 h.1⟩;simp only[go_sem,a0',b0,b1,a5];rw[gw hd];refine dm 5 99 3 1 false ?_ ?_ ?_ (by omega)
 ·refine loop Tryz.mixed 0 (fun i:Nat=>[(0,.vs (l.map i1)),(5,.os 99 (bm (gl l) i).length),(27,.int .i64 i)]) (fun i=>[(99,.arr 3 1 false ((bm (gl l) i).map i1))]) (fun i=>i<=64) (fun i=>64 - i) (by kernel_rfl) (Nat.zero_le _) ?_ ?_
  ·simp only[go_sem];exact⟨rfl,rfl⟩
  ·intro i hi;have hsu:=fu (gl l) i;have hln:=fi (gl l) i;by_cases hlt:i<64
   ·have h1:(i:Int)<64:=by omega
    obtain⟨n,hn,hnb⟩:=ka hd hlt;have hb:=rj hn;have hs:=rg n (i % 32) hnb;have e1:IntKind.i64.wrap ((i:Int).tdiv 32)=((i/32:Nat):Int):=by rw[Int.tdiv_eq_ediv_of_nonneg (by omega),ai (by omega) (by omega)];rfl
    have e2:(i:Int).tmod 32=((i % 32:Nat):Int):=by rw[Int.tmod_eq_emod_of_nonneg (by omega)];rfl
    have e3:min (i % 32) 64=i % 32:=by omega
    have e4:IntKind.u64.wrap ((i % 32:Nat):Int)=((i % 32:Nat):Int):=by rw[IntKind.wrap_u64];omega
    have h2:i/32<l.length:=by omega
    rw[hb]at hsu;generalize bm (gl l) i=o at*;generalize hj:i/32=j at*;generalize hk:i % 32=k at*
    cases ht:n.testBit k
    ·rw[ht]at hsu hs;simp only[go_sem,h1,e1,e2,e3,e4,h2,hn,hs]
     (repeat refine And.intro (by first|omega|exact ae (by kernel_rfl)) ?_)
     refine⟨i+1,⟨by omega,by omega⟩,?_⟩;rw[hsu];simp only[go_sem,List.append_nil];rw[ai]<;>omega
    ·rw[ht]at hsu hs;simp only[go_sem,h1,e1,e2,e3,e4,h2,hn,hs]
     (repeat refine And.intro (by first|omega|exact ae (by kernel_rfl)) ?_)
     refine⟨i+1,⟨by omega,by omega⟩,?_⟩;rw[hsu];simp only[go_sem,List.map_append,List.length_append];rw[ai]<;>omega
   ·have h1: ¬(i:Int)<64:=by omega
    have:i=64:=by omega
    subst this;simp only[go_sem,h1]
    done
 ·simp only[go_sem]
 ·simp only[go_sem]
theorem ajr: ∀(l:List Int) (s:List Bool) (k:Nat),s.length=64->k<64->(aok l s)[k]? =if(k:Int)∈l then some true else s[k]?
 |[],s,k,_,_=>by simp[aok]
 |a::l,s,k,hs,hk=>by
  have ih:=ajr l (if u6 a=true then s.set a.toNat true else s) k (by split<;>simp[hs]) hk;have e:aok (a::l) s=aok l (if u6 a=true then s.set a.toNat true else s):=rfl;rw[e,ih];by_cases hm:(k:Int)∈l
  ·rw[if_pos hm,if_pos (by simp[hm])]
  ·rw[if_neg hm];by_cases ha:(k:Int)=a
   ·subst ha;have hkb:u6 (k:Int)=true:=ig.2 (by omega);rw[if_pos hkb,if_pos (by simp),Int.toNat_natCast];simp[List.getElem?_set,hs,hk]
   ·have hm2:(k:Int)∉a::l:=fun h=>by
     rcases List.mem_cons.1 h with h|h
     ·exact ha h
     ·exact hm h
    rw[if_neg hm2];by_cases hkb:u6 a=true
    ·rw[if_pos hkb];have:=ig.1 hkb;have hne:a.toNat≠k:=by omega
     simp[List.getElem?_set,hne]
    ·rw[if_neg hkb]
theorem asn(l:List Int){k:Nat}(hk:k<64):el (agd l) k=decide ((k:Int)∈l):=by
 have h:=ajr (l.take l.length) (List.replicate 64 false) k (by simp) hk;have e:agd l=aok (l.take l.length) (List.replicate 64 false):=rfl;rw[el,bq,e,h,List.take_length];by_cases hm:(k:Int)∈l
 ·simp[hm]
 ·rw[if_neg hm,List.getElem?_replicate,if_pos hk];simp[hm]
theorem am7(x y:List Bool)(hx:x.length=64)(hy:y.length=64)(k:Nat)(hk:k<64):Den Tryz.prog 111 [.int .i64 k,.ptr 1000000 0,.ptr 1000001 0] [.cells (x.map cb),.cells (y.map cb)] (.bool (el x k&& !el y k)) [] [.cells (x.map cb),.cells (y.map cb)]:=by
 refine aa Tryz.func111 rfl Tryz.call111 Tryz.ntmps111 Tryz.results111 (by simp) (by kernel_rfl) [] (exts:=[1000000,1000001]) rfl rfl ?_;have k1:k<x.length:=by omega
 have k2:k<y.length:=by omega
 have hki:(k:Int)<64:=by omega
 cases h1:el x k
 ·simp only[go_sem,hk,k1,k2,h1,hki]
 ·simp only[go_sem,hk,k1,k2,h1,hki]
theorem apv(x y:List Bool)(hx:x.length=64)(hy:y.length=64)(c:Int->Bool)(hc: ∀k:Nat,k<64->c k=(el x k&& !el y k)):Den Tryz.prog 110 [.fn 111 [.ptr 1000000 0,.ptr 1000001 0]] [.cells (x.map cb),.cells (y.map cb)] (.vs ((bm c 64).map i1)) [] [.cells (x.map cb),.cells (y.map cb)]:=by
 refine aa Tryz.func110 rfl Tryz.call110 Tryz.ntmps110 Tryz.results110 (by simp) (by kernel_rfl) [] (exts:=[1000000,1000001]) rfl rfl ?_;simp only[go_sem];refine dm 3 99 3 1 false ?_ ?_ ?_ (by omega)
 ·refine loop Tryz.mixed 0 (fun i:Nat=>[(0,.fn 111 [.ptr 1000000 0,.ptr 1000001 0]),(3,.os 99 (bm c i).length),(5,.int .i64 i)]) (fun i=>[(99,.arr 3 1 false ((bm c i).map i1)),(1000000,.cells (x.map cb)),(1000001,.cells (y.map cb))]) (fun i=>i<=64) (fun i=>64 - i) (by kernel_rfl) (Nat.zero_le _) ?_ ?_
  ·simp only[go_sem];exact⟨rfl,rfl⟩
  ·intro i hi;have hsu:=fu c i;have hln:=fi c i;by_cases hlt:i<64
   ·have h1:(i:Int)<64:=by omega
    have cm:=am7 x y hx hy i hlt;rw[hc i hlt]at hsu;generalize bm c i=o at*
    cases hb:(el x i&& !el y i)
    ·rw[hb]at cm hsu;simp only[go_sem,h1];refine call cm [1000000,1000001] ?_;simp only[go_sem];refine⟨i+1,⟨by omega,by omega⟩,⟨by rw[hsu];simp,by rw[ai]<;>omega⟩,by rw[hsu];simp⟩
    ·rw[hb]at cm hsu;simp only[go_sem,h1];refine call cm [1000000,1000001] ?_;simp only[go_sem];refine⟨by omega,i+1,⟨by omega,by omega⟩,⟨by rw[hsu];simp,by rw[ai]<;>omega⟩,by rw[hsu];simp[i1]⟩
   ·have h1: ¬(i:Int)<64:=by omega
    have:i=64:=by omega
    subst this;simp only[go_sem,h1]
 ·simp only[go_sem]
 ·simp only[go_sem]
theorem amd(a b:List Int)(ha:big a.length)(hb:big b.length):Den Tryz.prog 80 [.vs (a.map i1),.vs (b.map i1)] [] (.vs ((bm (fun k=>decide (k∈a)&& !decide (k∈b)) 64).map i1)) [] []:=by
 refine aa Tryz.func80 rfl Tryz.call80 Tryz.ntmps80 Tryz.results80 (by simp) (by kernel_rfl) [] (exts:=[]) rfl rfl ?_;have l1:(agd a).length=64:=qv a a.length (Nat.le_refl _);have l2:(agd b).length=64:=qv b b.length (Nat.le_refl _);have ck:=apv (agd a) (agd b) l1 l2 (fun k=>decide (k∈a)&& !decide (k∈b)) fun k hk=>by rw[asn a hk,asn b hk]
 have c1:=aaq a ha;have c2:=aaq b hb;generalize agd a=x at*;generalize agd b=y at*;simp only[go_sem];refine call c1 [] ?_;simp only[go_sem];refine call c2 [] ?_;simp only[go_sem,l1,l2];refine call ck [5,6] ?_;simp only[go_sem]
theorem aag(l:List Int)(h0:0<l.length)(hl:l.length<=1000000):Den Tryz.prog 41 [.vs (l.map i1)] [] (.vs (l.map i1)) [] []:=by
 refine aa Tryz.func41 rfl Tryz.call41 Tryz.ntmps41 Tryz.results41 (by simp) (by kernel_rfl) [] (exts:=[]) rfl rfl ?_;simp only[go_sem,h0];omega
theorem aqi(l nu:List Int)(s:Int)(hr:j8 l=true)(h1:1<=s)(h9:s<=9)(hs:9<=nu.length)(hnb:big nu.length)(hn: ∀x∈nu,0<=x):Den Tryz.prog 109 [.vs (l.map i1),.vs (nu.map i1),.int .i64 s] [] (.tup [.vs ((bp l nu (min s.toNat l.length)).1.map i1),.int .i64 0]) [] []:=by
 refine aa Tryz.func109 rfl Tryz.call109 Tryz.ntmps109 Tryz.results109 (by simp) (by kernel_rfl) [] (exts:=[]) rfl rfl ?_;obtain⟨_,_,hne,hl64⟩:=kz hr;have hl0:0<l.length:=List.length_pos_iff.2 hne;simp only[go_sem];refine call (qx l (by simp only[big];omega)) [] ?_;rw[hr];have g1: ¬s<1:=by omega
 have g2: ¬9<s:=by omega
 generalize hm:min s.toNat l.length=m;have g0:(if(l.length:Int)<s then(l.length:Int)else s)=(m:Int):=by split<;>omega
 have g3: ¬(nu.length:Int)<(m:Int):=by omega
 have g4:m<=nu.length:=by omega
 have hml:(nu.take m).length=m:=by rw[List.length_take];omega
 simp only[go_sem,g0,g1,g2,g3];refine call (aag l hl0 (by omega)) [] ?_;simp only[go_sem];refine⟨⟨by omega,by omega⟩,?_⟩;refine dm 10 99 3 1 false ?_ ?_ ?_ (by omega)
 ·refine loop Tryz.mixed 0 (fun i:Nat=>[(9,.vs ((bp l nu i).2.map i1)),(10,.os 99 (bp l nu i).1.length),(37,.vs ((nu.take m).map i1)),(38,.int .i64 m),(39,.int .i64 i)]) (fun i=>[(99,.arr 3 1 false ((bp l nu i).1.map i1))]) (fun i=>i<=m) (fun i=>m - i) (by kernel_rfl) (Nat.zero_le _) ?_ ?_
  ·simp only[go_sem,bp,List.map_nil,List.length_nil];rw[hml]
  ·intro i hi;obtain⟨hl1,hl2⟩:=pz (l:=l) hn i (by omega);by_cases h:i<m
   ·have hlt:(i:Int)<(m:Int):=by omega
    have hin:i<nu.length:=by omega
    have hin2:i<(nu.take m).length:=by omega
    have hel:el (nu.take m) i=el nu i:=by simp[el,bq,List.getElem?_take,h]
    have h0:0<=el nu i:=hn _ (gj hin);have g5: ¬el nu i<0:=by omega
    have hd1:(bp l nu (i+1)).1=(bp l nu i).1++[el (bp l nu i).2 ((el nu i).tmod (bp l nu i).2.length).toNat]:=rfl;have hd2:(bp l nu (i+1)).2=(bp l nu i).2.take ((el nu i).tmod (bp l nu i).2.length).toNat++(bp l nu i).2.drop (((el nu i).tmod (bp l nu i).2.length).toNat+1):=rfl;have hb:=abl (n:=(bp l nu i).2.length) h0 (by omega);generalize (bp l nu i).1=o at*;generalize (bp l nu i).2=f at*;obtain⟨k,hk⟩: ∃k:Nat,(el nu i).tmod f.length=(k:Int):=⟨((el nu i).tmod f.length).toNat,by omega⟩;rw[hk]at hb hd1 hd2;have e1:IntKind.i64.wrap ((k:Int)+1)=((k+1:Nat):Int):=by rw[ai]<;>omega
    have hfn: ¬(f.length:Int)=0:=by omega
    have hkf:k<f.length:=by omega
    simp only[go_sem,hlt,hin2,hel,g5,hk,hfn,e1,hkf,List.take_length];rw[Int.toNat_natCast]at hd1 hd2;have t1:(List.take k f).length<=64:=by rw[List.length_take];omega
    have t2:(List.drop (k+1) f).length<=64:=by rw[List.length_drop];omega
    have f1:o.length+1=(bp l nu (i+1)).1.length:=by rw[hd1];simp
    have f2:List.map i1 o++[[PV.int IntKind.i64 (el f k)]]=List.map i1 (bp l nu (i+1)).1:=by rw[hd1];simp[i1]
    refine⟨by omega,by omega,⟨by omega,by omega,by omega⟩,by omega,fun h=>⟨ae (by kernel_rfl),i+1,⟨by omega,by omega⟩,⟨?_,f1,by rw[ai]<;>omega⟩,f2⟩,fun _=>⟨ae (by kernel_rfl),i+1,⟨by omega,by omega⟩,⟨?_,f1,by rw[ai]<;>omega⟩,f2⟩⟩
    ·rw[hd2,List.map_append,h,List.append_nil]
    ·rw[hd2,List.map_append]
   ·have hm2:i=m:=by omega
    subst hm2;have hc: ¬(i:Int)<(i:Int):=by omega
    simp only[go_sem,hc]
 ·simp only[go_sem]
 ·simp only[go_sem]
theorem aog{l:List Int}(h:j8 l=true):dx l []=l:=by
 obtain⟨h1,h2,_,_⟩:=kz h;refine au6 (aa1 _ _) h1 fun x=> ?_;rw[qa];constructor
 ·exact fun h=>h.2.1
 ·exact fun h=>⟨h2 x h,h,by simp⟩
def ofG(r:Rl)(v:List UInt8)(l:List Int)(c:Cs):List Int×Int:=
 if da r=0/\j8 l=true/\fq c=true/\v.length≠32 then([],1)else ofR r v l c
theorem apm{r:Rl}{v:List UInt8}{l:List Int}{c:Cs}(h:v.length=32):ofG r v l c=ofR r v l c:=if_neg fun hh=>hh.2.2.2 h
theorem ae8(v:List UInt8)(tag:List Int)(n:Int)(hv:v.length≠32):Den Tryz.prog 47 [.str v,.vs (tag.map i1),.int .i64 n] [] (.tup [.vs [],.int .i64 1]) [] []:=by
 refine aa Tryz.func47 rfl Tryz.call47 Tryz.ntmps47 Tryz.results47 (by simp) (by kernel_rfl) [] (exts:=[]) rfl rfl ?_;have g1: ¬(v.length:Int)=32:=by omega
 simp only[go_sem,g1]
theorem aaj(v:List UInt8)(tag:List Int)(n:Int)(hv:v.length≠32):Den Tryz.prog 108 [.str v,.vs (tag.map i1),.int .i64 n] [] (.tup [.vs [],.int .i64 1]) [] []:=by
 refine aa Tryz.func108 rfl Tryz.call108 Tryz.ntmps108 Tryz.results108 (by simp) (by kernel_rfl) [] (exts:=[]) rfl rfl ?_;have g1: ¬(v.length:Int)=32:=by omega
 simp only[go_sem,g1]
theorem arx(r:Rl)(v:List UInt8)(l:List Int)(c:Cs)(h0:big r.gen.length)(h1:big r.pol.se.length)(h2:big r.pol.ta.length)(hl:big l.length):Den Tryz.prog 21 [.agg (rl r),.str v,.vs (l.map i1),.agg (cs c)] [] (.tup [.vs ((ofG r v l c).1.map i1),.int .i64 (ofG r v l c).2]) [] []:=by
 by_cases hv:v.length=32
 ·rw[apm hv];exact a2o r v l c h0 h1 h2 hl fun _=>hv
 refine aa Tryz.func21 rfl Tryz.call21 Tryz.ntmps21 Tryz.results21 (by simp) (by kernel_rfl) [] (exts:=[]) rfl rfl ?_;have hG:ofG r v l c=if da r=0/\j8 l=true/\fq c=true/\v.length≠32 then([],1)else ofR r v l c:=rfl
 have hQ:=yp r v l c;generalize ofR r v l c=q at*;generalize ofG r v l c=m at*;have c0:=qt r h0 h1 h2;rw[dz]at c0;simp only[go_sem];refine call c0 [] ?_;by_cases a1:da r=0
 rotate_left
 ·rw[if_pos a1]at hQ;rw[if_neg (fun h=>a1 h.1)]at hG;subst hG hQ;simp only[go_sem,a1,List.map_nil]
 rw[if_neg (by simpa using a1)]at hQ;simp only[go_sem,a1];refine call (awj l hl) [] ?_
 cases a2:j8 l
 ·rw[if_pos a2]at hQ;rw[if_neg (fun h=>by rw[a2]at h;cases h.2.1)]at hG;subst hG hQ;simp only[go_sem,List.map_nil]
 rw[if_neg (by simp[a2])]at hQ;have c2:=my c;rw[dt]at c2;simp only[go_sem];refine call c2 [] ?_
 cases a3:fq c
 ·rw[if_pos a3]at hQ;rw[if_neg (fun h=>by rw[a3]at h;cases h.2.2.1)]at hG;subst hG hQ;simp only[go_sem,List.map_nil]
 rw[if_pos ⟨a1,a2,a3,hv⟩]at hG;subst hG;have hc:=of_decide_eq_true a3;simp only[go_sem];refine loop Tryz.mixed 0 (fun i:Nat=>[(1,.str v),(2,.vs (l.map i1)),(4,.ptr 4 0),(7,.ptr 7 0),(11,.vs []),(12,.int .i64 0)]) (fun i=>[(4,.cells (rl r)),(7,.cells (cs c))]) (fun i=>True) (fun i=>0) (by kernel_rfl) trivial ?_ ?_
 ·simp only[go_sem,List.map_nil]
 ·rintro i -;have g1:(0:Int)<=c.ro:=by omega
  simp only[go_sem,g1];refine call (ae8 v (vd c 0) 9 hv) [] ?_;simp only[go_sem,List.map_nil];rfl
theorem ac0(r:Rl)(v:List UInt8)(l:List Int)(c:Cs)(j:Int)(hr:j8 l=true)(hs:1<=r.seats/\r.seats<=9)(hv:v.length=32):Den Tryz.prog 79 [.agg (rl r),.str v,.vs (l.map i1),.agg (cs c),.int .i64 j] [] (.tup [.vs ((bp l (rz v (vd c j) 9) (min r.seats.toNat l.length)).1.map i1),.int .i64 0]) [] []:=by
 refine aa Tryz.func79 rfl Tryz.call79 Tryz.ntmps79 Tryz.results79 (by simp) (by kernel_rfl) [] (exts:=[]) rfl rfl ?_;have hnl:=jz v (vd c j) 9;have hnn:=og v (vd c j) 9;simp only[go_sem];refine call (adc v (vd c j) 9 hv (by simp[vd]) (by omega)) [] ?_;generalize rz v (vd c j) 9=N at*;simp only[go_sem];refine⟨rfl,call (aqi l N r.seats hr hs.1 hs.2 (by omega) (by simp only[big];omega) hnn) [] ?_⟩;simp only[go_sem]
theorem aof(r:Rl)(v:List UInt8)(l:List Int)(c:Cs)(j:Int)(hv:v.length≠32):Den Tryz.prog 79 [.agg (rl r),.str v,.vs (l.map i1),.agg (cs c),.int .i64 j] [] (.tup [.vs [],.int .i64 1]) [] []:=by
 refine aa Tryz.func79 rfl Tryz.call79 Tryz.ntmps79 Tryz.results79 (by simp) (by kernel_rfl) [] (exts:=[]) rfl rfl ?_;simp only[go_sem];refine call (aaj v (vd c j) 9 hv) [] ?_;simp only[go_sem,List.map_nil];rfl
theorem a2j(r:Rl)(v:List UInt8)(l:List Int)(c:Cs)(h0:big r.gen.length)(h1:big r.pol.se.length)(h2:big r.pol.ta.length)(hl:big l.length):Den Tryz.prog 58 [.agg (rl r),.str v,.vs (l.map i1),.agg (cs c)] [] (.tup [.vs ((ofG r v l c).1.map i1),.int .i64 (ofG r v l c).2]) [] []:=by
 refine aa Tryz.func58 rfl Tryz.call58 Tryz.ntmps58 Tryz.results58 (by simp) (by kernel_rfl) [] (exts:=[]) rfl rfl ?_;have hG:ofG r v l c=if da r=0/\j8 l=true/\fq c=true/\v.length≠32 then([],1)else ofR r v l c:=rfl
 have hQ:=yp r v l c;generalize ofR r v l c=q at*;generalize ofG r v l c=m at*;have c0:=aiz r h0 h1 h2;rw[dz]at c0;simp only[go_sem];refine call c0 [] ?_;by_cases a1:da r=0
 rotate_left
 ·rw[if_pos a1]at hQ;rw[if_neg (fun h=>a1 h.1)]at hG;subst hG hQ;simp only[go_sem,a1,List.map_nil]
 rw[if_neg (by simpa using a1)]at hQ;have hS:=(ag9 a1).2.2;simp only[go_sem,a1];refine call (qx l hl) [] ?_
 cases a2:j8 l
 ·rw[if_pos a2]at hQ;rw[if_neg (fun h=>by rw[a2]at h;cases h.2.1)]at hG;subst hG hQ;simp only[go_sem,List.map_nil]
 rw[if_neg (by simp[a2])]at hQ;have c2:=aib c;rw[dt]at c2;simp only[go_sem];refine call c2 [] ?_
 cases a3:fq c
 ·rw[if_pos a3]at hQ;rw[if_neg (fun h=>by rw[a3]at h;cases h.2.2.1)]at hG;subst hG hQ;simp only[go_sem,List.map_nil]
 rw[if_neg (by simp[a3])]at hQ;have hc:=of_decide_eq_true a3;by_cases hv:v.length=32
 rotate_left
 ·rw[if_pos ⟨a1,a2,a3,hv⟩]at hG;subst hG;have ce:=aof r v l c 0 hv;rw[dz,dt]at ce;simp only[go_sem];refine call ce [] ?_;simp only[go_sem,List.map_nil]
 rw[if_neg fun h=>h.2.2.2 hv]at hG;have cd:=ac0 r v l c 0 a2 (by omega) hv;have e0:nq r v l c 0 []=(bp l (rz v (vd c 0) 9) (min r.seats.toNat l.length)).1:=by unfold nq;rw[aog a2]
 rw[<-e0,dz,dt]at cd;have hal:=qf (r:=r) (v:=v) (l:=l) (c:=c) (j:=0) (prev:=[]);have har:=xw l [];have e1:nq r v l c 1 (nq r v l c 0 [])=(bp (dx l (nq r v l c 0 [])) (rz v (vd c 1) 9) (min r.seats.toNat (dx l (nq r v l c 0 [])).length)).1:=rfl;generalize nq r v l c 0 []=a at*;simp only[go_sem];refine call cd [] ?_;by_cases hro:c.ro=0
 ·rw[if_pos hro]at hQ;subst hG hQ;simp only[go_sem,hro]
 rw[if_neg hro]at hQ;have cm:=amd l a hl (by simp only[big];omega);have hw:bm (fun k=>decide (k∈l)&& !decide (k∈(a:List Int))) 64=dx l a:=rfl;rw[hw]at cm;simp only[go_sem,hro];refine call cm [] ?_;by_cases hne:dx l a=[]
 ·rw[if_pos hne]at hQ;subst hG hQ;have g2:((dx l a).length:Int)=0:=by rw[hne];rfl
  simp only[go_sem,g2,List.map_nil]
 rw[if_neg hne]at hQ;have hrv:j8 (dx l a)=true:=pj hne;have hrl:0<(dx l a).length:=List.length_pos_iff.2 hne;have g2: ¬((dx l a).length:Int)=0:=by omega
 have cd2:=ac0 r v (dx l a) c 1 hrv (by omega) hv;rw[<-e1,dz,dt]at cd2;generalize nq r v l c 1 a=b at*;generalize dx l a=W at*;subst hG hQ;simp only[go_sem,g2];refine call cd2 [] ?_;simp only[go_sem]
end Go.Proofs.Am
