/- VOne. -/
import Derived.Test.YteakcpfdfglndaaGreatDoorUOne
import Derived.Test.YteakcpfdfglndaaGreatDoorHOne
set_option maxHeartbeats 1000000
set_option maxRecDepth 100000
set_option linter.unusedSimpArgs false
set_option linter.unusedVariables false
namespace Go.Proofs.Am
open Go Go.RowKit
open Go.Proofs
theorem axl(l:List Int):lp l=i8 l:=by
 rw[Bool.eq_iff_iff]
 constructor
 ·intro h
  obtain⟨h1,h2,h3⟩:=ri.1 h
  have hk: ∀x∈l,0≤x∧x<64:=fun x hx=>ir.1 (h2 x hx)
  refine aik h3 hk h1 ?_
  have:=axv (l:=l) (m:=(List.range 64).map fun i:Nat=>(i:Int)) (h3.imp fun h=>by omega) fun x hx=>by
   have:=hk x hx
   exact List.mem_map.2 ⟨x.toNat,List.mem_range.2 (by omega),by omega⟩
  simpa using this
 ·intro h
  obtain⟨h1,h2,h3,_⟩:=gh h
  exact ri.2 ⟨h3,fun k hk=>ir.2 (h2 k hk),h1⟩
theorem kx(l:List Int)(hl:big l.length):Den Tryz.prog 54 [.vs (l.map i1)] [] (.bool (i8 l)) [] []:=axl l ▸ ahu l hl
theorem aa1(l:List Int)(n m:Int)(hm:m=n - 1)(hl:big l.length):Den Tryz.prog 113 [.vs (l.map i1),.int .i64 0,.int .i64 m] [] (.bool (zp l n)) [] []:=by
 refine aa Tryz.mixed Tryz.func113 rfl Tryz.call113 Tryz.ntmps113 (congrArg Array.toList Tryz.results113) (by simp) (by kernel_rfl) [] (exts:=[]) rfl rfl ?_
 generalize hq:zp l n=q
 have hbad:zp l n=false→q=false:=fun h=>by rw[←hq];exact h
 have hgood:zp l n=true→q=true:=fun h=>by rw[←hq];exact h
 simp only[go_sem]
 refine loop Tryz.mixed 0 (fun i:Nat=>[(0,.vs (l.map i1)),(1,.int .i64 0),(2,.int .i64 m),(9,.vs (l.map i1)),(10,.int .i64 l.length),(11,.int .i64 i)]) (fun i=>[]) (fun i=>i≤l.length∧∀j,j<i→kv n l j=true) (fun i=>l.length - i) (by kernel_rfl) ?_ ?_ ?_
 ·simp
 ·simp only[go_sem]
 ·rintro i ⟨hi,hp⟩
  by_cases hi':i<l.length
  ·have hlt:(i:Int)<(l.length:Int):=by omega
   by_cases a1:el l i<0
   ·have hq:kv n l i=false:=decide_eq_false (by omega)
    simp only[go_sem,hlt,hi',a1]
    exact(hbad (gz hi' hq)).symm
   by_cases a2:m<el l i
   ·have hq:kv n l i=false:=decide_eq_false (by omega)
    simp only[go_sem,hlt,hi',a1,a2]
    exact(hbad (gz hi' hq)).symm
   by_cases a3:0<i
   ·have a3':(0:Int)<(i:Int):=by omega
    have e1:IntKind.i64.wrap ((i:Int) - 1)=((i - 1:Nat):Int):=by rw[ag]<;>omega
    have e2:i - 1<l.length:=by omega
    by_cases a4:el l i≤el l (i - 1)
    ·have hq:kv n l i=false:=decide_eq_false (by omega)
     simp only[go_sem,hlt,hi',a1,a2,a3',e1,e2,a4]
     exact(hbad (gz hi' hq)).symm
    ·have hq:kv n l i=true:=decide_eq_true (by omega)
     simp only[go_sem,hlt,hi',a1,a2,a3',e1,e2,a4]
     exact⟨i+1,⟨⟨by omega,eb hp hq⟩,by omega⟩,by rw[ag]<;>omega⟩
   ·have a3': ¬(0:Int)<(i:Int):=by omega
    have hq:kv n l i=true:=decide_eq_true (by omega)
    simp only[go_sem,hlt,hi',a1,a2,a3']
    exact⟨i+1,⟨⟨by omega,eb hp hq⟩,by omega⟩,by rw[ag]<;>omega⟩
  ·have hf: ¬((i:Int)<(l.length:Int)):=by omega
   have:i=l.length:=by omega
   subst this
   simp only[go_sem,hf]
   exact(hgood (sj hp)).symm
theorem a9s:Den Tryz.prog 112 [.agg [.int .i64 64,.vs [],.vs []]] [] (.int .i64 0) [] []:=by
 refine aa Tryz.mixed Tryz.func112 rfl Tryz.call112 Tryz.ntmps112 (congrArg Array.toList Tryz.results112) (by simp) (by kernel_rfl) [] (exts:=[]) rfl rfl ?_
 have hi:inB 64 0 64=true:=rfl
 have hs:zp [] 64=true:=rfl
 have w:IntKind.i64.wrap 63=63:=by rw[ag]<;>omega
 simp only[go_sem]
 refine call (gm 64 0 64) [] ?_
 rw[hi]
 simp only[go_sem,w]
 refine call (aa1 [] 64 63 rfl (by simp[big])) [] ?_
 rw[hs]
 simp only[go_sem]
 refine loop Tryz.mixed 0 (fun _:Nat=>[(1,.ptr 1 0),(25,.vs []),(26,.int .i64 0),(27,.int .i64 0)]) (fun _=>[(1,.cells [.int .i64 64,.vs [],.vs []])]) (fun _=>True) (fun _=>0) (by kernel_rfl) ?_ ?_ ?_
 ·trivial
 ·simp only[go_sem]
 ·rintro i _
  simp only[go_sem]
theorem a06(p:Pol)(h1:big p.se.length)(h2:big p.ta.length):Den Tryz.prog 86 [.agg [.int .i64 64,.vs [],.vs []],.agg (pl p)] [] (.int .i64 (if og p then 0 else 15)) [] []:=by
 refine aa Tryz.mixed Tryz.func86 rfl Tryz.call86 Tryz.ntmps86 (congrArg Array.toList Tryz.results86) (by simp) (by kernel_rfl) [] (exts:=[]) rfl rfl ?_
 generalize hm:(if og p=true then(0:Int)else 15)=m
 have no:og p=false→m=15:=fun h=>by rw[←hm,h];rfl
 have yes:og p=true→m=0:=fun h=>by rw[←hm,h];rfl
 clear hm
 have w:IntKind.i64.wrap 63=63:=by rw[ag]<;>omega
 simp only[go_sem]
 refine call a9s [] ?_
 by_cases a1:p.se.length=0
 ·have hq:=no (by rw[og,decide_eq_false (by omega)];rfl)
  have a1':(p.se.length:Int)=0:=by omega
  simp only[go_sem,a1']
  exact hq.symm
 have a1': ¬(p.se.length:Int)=0:=by omega
 simp only[go_sem,a1',w]
 refine call (aa1 p.se 64 63 rfl h1) [] ?_
 cases a2:zp p.se 64
 ·have hq:=no (by rw[og,a2];simp)
  simp only[go_sem]
  exact hq.symm
 simp only[go_sem]
 refine call (gm p.ta.length 1 8) [] ?_
 cases a3:inB p.ta.length 1 8
 ·have a3:=of_decide_eq_false a3
  have hq:=no (by rw[og,decide_eq_false (p:=1≤p.ta.length∧p.ta.length≤8∧1≤p.lv∧p.lv≤3) (by omega)];simp)
  simp only[go_sem]
  exact hq.symm
 have a3:=of_decide_eq_true a3
 simp only[go_sem]
 refine call (gm p.lv 1 3) [] ?_
 cases a4:inB p.lv 1 3
 ·have a4:=of_decide_eq_false a4
  have hq:=no (by rw[og,decide_eq_false (p:=1≤p.ta.length∧p.ta.length≤8∧1≤p.lv∧p.lv≤3) (by omega)];simp)
  simp only[go_sem]
  exact hq.symm
 have a4:=of_decide_eq_true a4
 have hq:og p=ai4 (o0 p.ta) p.ta.length:=by rw[og,decide_eq_true (p:=1≤p.ta.length∧p.ta.length≤8∧1≤p.lv∧p.lv≤3) (by omega),decide_eq_true (by omega),a2];rfl
 rw[hq]at no yes
 simp only[go_sem]
 refine loop Tryz.mixed 0 (fun i:Nat=>[(3,.ptr 3 0),(40,.vs (p.ta.map i1)),(41,.int .i64 p.ta.length),(42,.int .i64 i)]) (fun i=>[(3,.cells (pl p))]) (fun i=>i≤p.ta.length∧∀j,j<i→o0 p.ta j=true) (fun i=>p.ta.length - i) (by kernel_rfl) ?_ ?_ ?_
 ·simp
 ·simp only[go_sem]
 ·rintro i ⟨hi,hp⟩
  by_cases hi':i<p.ta.length
  ·have hlt:(i:Int)<(p.ta.length:Int):=by omega
   simp only[go_sem,hlt,hi']
   refine call (gm (el p.ta i) 1 1000) [] ?_
   cases b1:inB (el p.ta i) 1 1000
   ·have b1:=of_decide_eq_false b1
    have hq:o0 p.ta i=false:=decide_eq_false (by omega)
    simp only[go_sem]
    exact(no (gz hi' hq)).symm
   have b1:=of_decide_eq_true b1
   by_cases b3:0<i
   ·have b3':(0:Int)<(i:Int):=by omega
    have e1:IntKind.i64.wrap ((i:Int) - 1)=((i - 1:Nat):Int):=by rw[ag]<;>omega
    have e2:i - 1<p.ta.length:=by omega
    by_cases b4:el p.ta (i - 1)<el p.ta i
    ·have hq:o0 p.ta i=false:=decide_eq_false (by omega)
     simp only[go_sem,b3',e1,e2,b4]
     exact(no (gz hi' hq)).symm
    ·have hq:o0 p.ta i=true:=decide_eq_true (by omega)
     simp only[go_sem,b3',e1,e2,b4]
     exact⟨i+1,⟨⟨by omega,eb hp hq⟩,by omega⟩,by rw[ag]<;>omega⟩
   ·have b3': ¬(0:Int)<(i:Int):=by omega
    have hq:o0 p.ta i=true:=decide_eq_true (by omega)
    simp only[go_sem,b3']
    exact⟨i+1,⟨⟨by omega,eb hp hq⟩,by omega⟩,by rw[ag]<;>omega⟩
  ·have hf: ¬((i:Int)<(p.ta.length:Int)):=by omega
   have:i=p.ta.length:=by omega
   subst this
   simp only[go_sem,hf]
   exact(yes (sj hp)).symm
theorem akg(r:Rl)(h0:big r.gen.length)(h1:big r.pol.se.length)(h2:big r.pol.ta.length):Den Tryz.prog 53 [.agg (rl r)] [] (.int .i64 (dp r)) [] []:=by
 refine aa Tryz.mixed Tryz.func53 rfl Tryz.call53 Tryz.ntmps53 (congrArg Array.toList Tryz.results53) (by simp) (by kernel_rfl) [] (exts:=[]) rfl rfl ?_
 generalize hm:dp r=m
 simp only[go_sem]
 refine call (kx r.gen h0) [] ?_
 cases a1:i8 r.gen
 ·rw[dp,if_pos a1]at hm
  simp only[go_sem]
  exact hm
 rw[dp,if_neg (by simp[a1])]at hm
 have c1:=a06 r.pol h1 h2
 rw[a92]at c1
 simp only[go_sem]
 refine call c1 [] ?_
 cases a2:og r.pol
 ·rw[if_pos a2]at hm
  simp only[go_sem]
  exact hm
 rw[if_neg (by simp[a2])]at hm
 by_cases c1:r.seats<1
 ·rw[if_neg (by omega)]at hm
  simp only[go_sem,c1]
  exact hm
 by_cases c2:9<r.seats
 ·rw[if_neg (by omega)]at hm
  simp only[go_sem,c1,c2]
  exact hm
 by_cases c3:r.span<1
 ·rw[if_neg (by omega)]at hm
  simp only[go_sem,c1,c2,c3]
  exact hm
 by_cases c4:1000000<r.span
 ·rw[if_neg (by omega)]at hm
  simp only[go_sem,c1,c2,c3,c4]
  exact hm
 by_cases c5:r.quota<0
 ·rw[if_neg (by omega)]at hm
  simp only[go_sem,c1,c2,c3,c4,c5]
  exact hm
 by_cases c6:64<r.quota
 ·rw[if_neg (by omega)]at hm
  simp only[go_sem,c1,c2,c3,c4,c5,c6]
  exact hm
 rw[if_pos (by omega)]at hm
 simp only[go_sem,c1,c2,c3,c4,c5,c6]
 exact hm
theorem ama(v:Int){m:Nat}(h:m<8):(be8 v).take (m+1)=(be8 v).take m++[bAt v (56 - 8*m)]:=by
 have:m=0∨m=1∨m=2∨m=3∨m=4∨m=5∨m=6∨m=7:=by omega
 rcases this with rfl|rfl|rfl|rfl|rfl|rfl|rfl|rfl<;>rfl
theorem ana(v:Int){m:Nat}(h:m≤8):((be8 v).take m).length=m:=by simp[be8];omega
theorem a1q{l:List Int}{i:Nat}(h:i<l.length):beL (l.take (i+1))=beL (l.take i)++be8 (el l i):=by
 rw[bh h,jd]
 simp[beL]
theorem aau(bs:List UInt8)(l:List Int)(hb:bs.length≤2000000000)(hl:l.length≤1000000000):Den Tryz.prog 208 [.os 1000000 bs.length,.vs (l.map i1)] [.arr 5 1 false (bs.map u8)] (.os 1000000 (bs++beL l).length) [] [.arr 5 1 false ((bs++beL l).map u8)]:=by
 refine aa Tryz.mixed Tryz.func208 rfl Tryz.call208 Tryz.ntmps208 (congrArg Array.toList Tryz.results208) (by simp) (by kernel_rfl) [] (exts:=[1000000]) rfl rfl ?_
 simp only[go_sem]
 refine loop Tryz.mixed 0 (fun i:Nat=>[(0,.os 1000000 (bs++beL (l.take i)).length),(8,.vs (l.map i1)),(9,.int .i64 l.length),(10,.int .i64 i)]) (fun i=>[(1000000,.arr 5 1 false ((bs++beL (l.take i)).map u8))]) (fun i=>i≤l.length) (fun i=>l.length - i) (by kernel_rfl) (Nat.zero_le _) ?_ ?_
 ·simp only[go_sem,List.take_zero,beL,List.flatMap_nil,List.append_nil]
 ·intro i hi
  have hti:(l.take i).length=i:=by simp;omega
  have hbl:(bs++beL (l.take i)).length≤2000000000+8000000000:=by simp only[List.length_append,db,hti];omega
  by_cases h:i<l.length
  ·have h1:(i:Int)<(l.length:Int):=by omega
   have hst:=a1q h
   generalize hv:el l i=v at*
   generalize hB:bs++beL (l.take i)=B at*
   simp only[go_sem,h1,h,hv]
   refine loop Tryz.mixed 0 (fun m:Nat=>[(0,.os 1000000 (B++(be8 v).take m).length),(6,.int .i64 v),(7,.int .i64 (56 - 8*(m:Int))),(8,.vs (l.map i1)),(9,.int .i64 l.length),(10,.int .i64 i)]) (fun m=>[(1000000,.arr 5 1 false ((B++(be8 v).take m).map u8))]) (fun m=>m≤8) (fun m=>8 - m) (by kernel_rfl) (Nat.zero_le _) ?_ ?_
   ·simp only[go_sem,List.take_zero,List.append_nil]
   ·intro m hm
    have htl:=ana v hm
    by_cases h2:m<8
    ·have e1:(56 - 8*(m:Int))=((56 - 8*m:Nat):Int):=by omega
     have e2:min (56 - 8*m) 64=56 - 8*m:=by omega
     have e3:=aa4 v (56 - 8*m) (by omega)
     have e0:=ama v h2
     have hc:(0:Int)≤((56 - 8*m:Nat):Int):=by omega
     rw[e1]
     generalize hq:56 - 8*m=q at*
     simp only[go_sem,hc,e2,e3,htl]
     refine⟨by omega,m+1,⟨by omega,by omega⟩,⟨by rw[ana v h2];omega,by rw[ag]<;>omega⟩,?_⟩
     rw[e0]
     simp[u8]
    ·have:m=8:=by omega
     subst this
     have h8:(be8 v).take 8=be8 v:=rfl
     have hc: ¬(0:Int)≤56 - 8*((8:Nat):Int):=by omega
     rw[h8]
     simp only[go_sem,hc]
     refine⟨i+1,⟨by omega,by omega⟩,⟨?_,by rw[ag]<;>omega⟩,by rw[hst,←List.append_assoc,hB]⟩
     rw[hst,List.length_append,←hB,List.length_append]
     omega
  ·have h1: ¬(i:Int)<(l.length:Int):=by omega
   have:i=l.length:=by omega
   subst this
   simp only[go_sem,h1,List.take_length]
theorem ar1(bs:List UInt8)(l:List Int)(hb:bs.length≤1000000000)(hl:l.length≤10000000):Den Tryz.prog 207 [.os 1000000 bs.length,.vs (l.map i1)] [.arr 5 1 false (bs.map u8)] (.os 1000000 (bs++lsB l).length) [] [.arr 5 1 false ((bs++lsB l).map u8)]:=by
 refine aa Tryz.mixed Tryz.func207 rfl Tryz.call207 Tryz.ntmps207 (congrArg Array.toList Tryz.results207) (by simp) (by kernel_rfl) [] (exts:=[1000000]) rfl rfl ?_
 have c1:=aau bs [(l.length:Int)] (by omega) (by simp)
 have e1:beL [(l.length:Int)]=be8 l.length:=by simp[beL]
 rw[e1]at c1
 have c2:=aau (bs++be8 l.length) l (by simp only[List.length_append,aq];omega) (by omega)
 simp only[go_sem]
 refine call c1 [1000000] ?_
 simp only[go_sem]
 refine⟨by omega,call c2 [1000000] ?_⟩
 simp only[go_sem,lsB,List.append_assoc]
 omega
def bxV(bs:List UInt8)(v:Int):Nat→PV
 |0=> .vx (bs.map u8)
 |m+1=> .os 25 (bs++(be8 v).take (m+1)).length
def bxB(bs:List UInt8)(v:Int):Nat→ASt
 |0=>[]
 |m+1=>[(25,.arr 5 1 false ((bs++(be8 v).take (m+1)).map u8))]
theorem amu(bs:List UInt8)(v:Int):bxV bs v 0= .vx (bs.map u8):=rfl
theorem a5s(bs:List UInt8)(v:Int):bxV bs v 1= .os 25 (bs++(be8 v).take 1).length:=rfl
theorem amb(bs:List UInt8)(v:Int)(m:Nat):bxV bs v (m+1)= .os 25 (bs++(be8 v).take (m+1)).length:=rfl
theorem anh(bs:List UInt8)(v:Int):bxB bs v 0=[]:=rfl
theorem a81(bs:List UInt8)(v:Int):bxB bs v 1=[(25,.arr 5 1 false ((bs++(be8 v).take 1).map u8))]:=rfl
theorem akx(bs:List UInt8)(v:Int)(m:Nat):bxB bs v (m+1)=[(25,.arr 5 1 false ((bs++(be8 v).take (m+1)).map u8))]:=rfl
theorem ans(bs:List UInt8)(v:Int)(hb:bs.length≤2000000000):Den Tryz.prog 208 [.vx (bs.map u8),.vs [i1 v]] [] (.vs ((bs++be8 v).map u8)) [] []:=by
 refine aa Tryz.mixed Tryz.func208 rfl Tryz.call208 Tryz.ntmps208 (congrArg Array.toList Tryz.results208) (by simp) (by kernel_rfl) [] (exts:=[]) rfl rfl ?_
 have w:IntKind.i64.wrap 1=1:=by rw[ag]<;>omega
 simp only[go_sem]
 refine loop Tryz.mixed 0 (fun i:Nat=>match i with|0=>[(0,.vx (bs.map u8)),(8,.vs [i1 v]),(9,.int .i64 1),(10,.int .i64 0)]|_=>[(0,.os 25 (bs++be8 v).length),(8,.vs [i1 v]),(9,.int .i64 1),(10,.int .i64 1)]) (fun i=>match i with|0=>[]|_=>[(25,.arr 5 1 false ((bs++be8 v).map u8))]) (fun i=>i≤1) (fun i=>1 - i) (by kernel_rfl) (Nat.zero_le _) ?_ ?_
 ·simp only[go_sem]
 ·intro i hi
  cases i with
  |zero=>
   simp only[go_sem]
   refine loop Tryz.mixed 0 (fun m:Nat=>[(0,bxV bs v m),(6,.int .i64 v),(7,.int .i64 (56 - 8*(m:Int))),(8,.vs [i1 v]),(9,.int .i64 1),(10,.int .i64 0)]) (fun m=>bxB bs v m) (fun m=>m≤8) (fun m=>8 - m) (by kernel_rfl) (Nat.zero_le _) ?_ ?_
   ·simp only[go_sem,amu,anh]
   ·intro m hm
    have htl:=ana v hm
    by_cases h2:m<8
    ·have e1:(56 - 8*(m:Int))=((56 - 8*m:Nat):Int):=by omega
     have e2:min (56 - 8*m) 64=56 - 8*m:=by omega
     have e3:=aa4 v (56 - 8*m) (by omega)
     have e0:=ama v h2
     have hc:(0:Int)≤((56 - 8*m:Nat):Int):=by omega
     rw[e1]
     generalize hq:56 - 8*m=q at*
     cases m with
     |zero=>
      simp only[go_sem,hc,e2,e3,htl,amu,anh]
      refine⟨by omega,1,⟨by omega,by omega⟩,?_⟩
      simp only[go_sem,a5s,a81]
      have e0':(be8 v).take 1=[bAt v q]:=e0
      refine⟨⟨by rw[e0'];rfl,by rw[ag]<;>omega⟩,?_⟩
      rw[e0']
      simp[u8]
     |succ m=>
      simp only[go_sem,hc,e2,e3,htl,amb,akx]
      refine⟨by omega,m+1+1,⟨by omega,by omega⟩,?_⟩
      simp only[go_sem,amb,akx]
      refine⟨⟨by rw[ana v h2];omega,by rw[ag]<;>omega⟩,?_⟩
      rw[e0]
      simp[u8]
    ·have:m=8:=by omega
     subst this
     have h8:(be8 v).take 8=be8 v:=rfl
     have hc: ¬(0:Int)≤56 - 8*((8:Nat):Int):=by omega
     have b1:bxV bs v 8= .os 25 (bs++be8 v).length:=rfl
     have b2:bxB bs v 8=[(25,.arr 5 1 false ((bs++be8 v).map u8))]:=rfl
     simp only[go_sem,hc,b1,b2]
     refine⟨1,⟨by omega,by omega⟩,?_⟩
     simp only[go_sem,w]
  |succ i=>
   simp only[go_sem]
def a3v(S:List UInt8):Nat→Int
 |0=>0
 |k+1=>bits .or .i64 (IntKind.i64.wrap (a3v S k*2^min 8 64)) (IntKind.i64.wrap ((S.getD k 0).toNat:Int))
theorem anb{a b i:Nat}(h:b<2^i):2^i*a|||b=2^i*a+b:=(Nat.two_pow_add_eq_or_of_lt h a).symm
theorem p9(a b:Nat)(ha:a<16777216)(hb:b<256):bits .or .i64 (IntKind.i64.wrap ((a:Int)*2^min 8 64)) (IntKind.i64.wrap (b:Int))=((a*256+b:Nat):Int):=by
 have e1:IntKind.i64.wrap ((a:Int)*2^min 8 64)=((a*256:Nat):Int):=by
  have:(2:Int)^min 8 64=256:=by rfl
  rw[this,ag]<;>omega
 have e2:IntKind.i64.wrap (b:Int)=((b:Nat):Int):=by rw[ag]<;>omega
 rw[e1,e2,yc _ _ (by omega) (by omega)]
 have:=anb (a:=a) (b:=b) (i:=8) hb
 rw[show(2:Nat)^8*a=a*256 by omega]at this
 rw[this]
theorem aoy(S:List UInt8):a3v S 4=afy S:=by
 have hb: ∀k,(S.getD k 0).toNat<256:=fun k=>(S.getD k 0).toNat_lt
 have b0:=hb 0
 have b1:=hb 1
 have b2:=hb 2
 have b3:=hb 3
 unfold afy
 simp only[a3v]
 generalize (S.getD 0 0).toNat=x0 at*
 generalize (S.getD 1 0).toNat=x1 at*
 generalize (S.getD 2 0).toNat=x2 at*
 generalize (S.getD 3 0).toNat=x3 at*
 have f1:=p9 0 x0 (by omega) b0
 have f2:=p9 (0*256+x0) x1 (by omega) b1
 have f3:=p9 ((0*256+x0)*256+x1) x2 (by omega) b2
 have f4:=p9 (((0*256+x0)*256+x1)*256+x2) x3 (by omega) b3
 rw[show(0:Int)=((0:Nat):Int) from rfl,f1,f2,f3,f4]
 have w: ∀k:Nat,k<256→IntKind.i64.wrap (k:Int)=(k:Int):=fun k hk=>by rw[ag]<;>omega
 rw[w x0 b0,w x1 b1,w x2 b2,w x3 b3]
 have e0:IntKind.i64.wrap ((x0:Int)*2^min 24 64)=((x0*16777216:Nat):Int):=by
  have:(2:Int)^min 24 64=16777216:=by rfl
  rw[this,ag]<;>omega
 have e1:IntKind.i64.wrap ((x1:Int)*2^min 16 64)=((x1*65536:Nat):Int):=by
  have:(2:Int)^min 16 64=65536:=by rfl
  rw[this,ag]<;>omega
 have e2:IntKind.i64.wrap ((x2:Int)*2^min 8 64)=((x2*256:Nat):Int):=by
  have:(2:Int)^min 8 64=256:=by rfl
  rw[this,ag]<;>omega
 have g1:=anb (a:=x0) (b:=x1*65536) (i:=24) (by omega)
 have g2:=anb (a:=x0*256+x1) (b:=x2*256) (i:=16) (by omega)
 have g3:=anb (a:=(x0*256+x1)*256+x2) (b:=x3) (i:=8) (by omega)
 rw[show(2:Nat)^24*x0=x0*16777216 by omega]at g1
 rw[show(2:Nat)^16*(x0*256+x1)=x0*16777216+x1*65536 by omega]at g2
 rw[show(2:Nat)^8*((x0*256+x1)*256+x2)=x0*16777216+x1*65536+x2*256 by omega]at g3
 rw[e0,e1,e2,yc _ _ (by omega) (by omega),g1,yc _ _ (by omega) (by omega),g2,yc _ _ (by omega) (by omega),g3]
 omega
theorem ae8(v:List UInt8)(tag:List Int)(n:Nat)(hv:v.length=32)(ht:tag.length≤64)(hn:n≤64):Den Tryz.prog 177 [.str v,.vs (tag.map i1),.int .i64 n] [] (.tup [.vs ((r5 v tag n).map i1),.int .i64 0]) [] []:=by
 refine aa Tryz.mixed Tryz.func177 rfl Tryz.call177 Tryz.ntmps177 (congrArg Array.toList Tryz.results177) (by simp) (by kernel_rfl) [] (exts:=[]) rfl rfl ?_
 have g1:(v.length:Int)=32:=by omega
 have g2: ¬(64:Int)<(tag.length:Int):=by omega
 have g3: ¬(n:Int)<0:=by omega
 have g4: ¬(64:Int)<(n:Int):=by omega
 have c1:=ar1 v tag (by omega) (by omega)
 have hB:(v++lsB tag).length≤1000:=by simp only[List.length_append,pm];omega
 have hvB:v.length≤(v++lsB tag).length:=by rw[List.length_append];omega
 have hna: ∀i:Nat,azz v tag i=afy (sha ((v++lsB tag)++be8 i)):=fun _=>rfl
 simp only[go_sem,g1,g2,g3,g4]
 refine⟨by omega,call c1 [30] ?_⟩
 generalize v++lsB tag=B at*
 simp only[go_sem]
 refine⟨hvB,?_⟩
 refine br 8 99 3 1 false ?_ ?_ ?_ (by omega)
 ·refine loop Tryz.mixed 0 (fun i:Nat=>[(9,.vs (B.map u8)),(8,.os 99 (r5 v tag i).length),(33,.int .i64 n),(34,.int .i64 i)]) (fun i=>[(99,.arr 3 1 false ((r5 v tag i).map i1))]) (fun i=>i≤n) (fun i=>n - i) (by kernel_rfl) (Nat.zero_le _) ?_ ?_
  ·simp only[go_sem,r5,List.map_nil,List.length_nil]
  ·intro i hi
   have hnl:=j8 v tag i
   by_cases h:i<n
   ·have hlt:(i:Int)<(n:Int):=by omega
    simp only[go_sem,hlt,List.take_length]
    refine⟨Nat.le_refl _,call (ans B i (by omega)) [] ?_⟩
    simp only[go_sem]
    refine call (anc (B++be8 i) (by simp only[List.length_append,aq];omega)) [] ?_
    have hs:=abq (B++be8 i)
    have hna:=hna i
    generalize sha (B++be8 i)=S at*
    simp only[go_sem]
    refine loop Tryz.mixed 0 (fun k:Nat=>[(9,.vs (B.map u8)),(8,.os 99 (r5 v tag i).length),(33,.int .i64 n),(34,.int .i64 i),(11,.str S),(12,.int .i64 (a3v S k)),(47,.int .i64 k)]) (fun k=>[(99,.arr 3 1 false ((r5 v tag i).map i1))]) (fun k=>k≤4) (fun k=>4 - k) (by kernel_rfl) (Nat.zero_le _) ?_ ?_
    ·simp only[go_sem]
     rfl
    ·intro k hk
     by_cases hk4:k<4
     ·have hkt:(k:Int)<4:=by omega
      have hkl:k<S.length:=by omega
      simp only[go_sem,hkt,hkl]
      exact⟨k+1,⟨by omega,by omega⟩,rfl,by rw[ag]<;>omega⟩
     ·have:k=4:=by omega
      subst this
      simp only[go_sem]
      refine⟨by omega,i+1,⟨by omega,by omega⟩,⟨by rw[j8,j8],by rw[ag]<;>omega⟩,?_⟩
      rw[r5,hna,aoy]
      simp[i1]
   ·have hm2:i=n:=by omega
    subst hm2
    have hc: ¬(i:Int)<(i:Int):=by omega
    simp only[go_sem,hc]
 ·simp only[go_sem]
 ·simp only[go_sem]
theorem alu: ∀(l:List Int) (s:List Bool) (k:Nat),s.length=64→k<64→(aqp l s)[k]? =if(k:Int)∈l then some true else s[k]?
 |[],s,k,_,_=>by simp[aqp]
 |a::l,s,k,hs,hk=>by
  have ih:=alu l (if uo a=true then s.set a.toNat true else s) k (by split<;>simp[hs]) hk
  have e:aqp (a::l) s=aqp l (if uo a=true then s.set a.toNat true else s):=rfl
  rw[e,ih]
  by_cases hm:(k:Int)∈l
  ·rw[if_pos hm,if_pos (by simp[hm])]
  ·rw[if_neg hm]
   by_cases ha:(k:Int)=a
   ·subst ha
    have hkb:uo (k:Int)=true:=ir.2 (by omega)
    rw[if_pos hkb,if_pos (by simp),Int.toNat_natCast]
    simp[List.getElem?_set,hs,hk]
   ·have hm2:(k:Int)∉a::l:=fun h=>by
     rcases List.mem_cons.1 h with h|h
     ·exact ha h
     ·exact hm h
    rw[if_neg hm2]
    by_cases hkb:uo a=true
    ·rw[if_pos hkb]
     have:=ir.1 hkb
     have hne:a.toNat≠k:=by omega
     simp[List.getElem?_set,hne]
    ·rw[if_neg hkb]
theorem awt(l:List Int){k:Nat}(hk:k<64):el (ahy l) k=decide ((k:Int)∈l):=by
 have h:=alu (l.take l.length) (List.replicate 64 false) k (by simp) hk
 have e:ahy l=aqp (l.take l.length) (List.replicate 64 false):=rfl
 rw[el,List.getD_eq_getElem?_getD,e,h,List.take_length]
 by_cases hm:(k:Int)∈l
 ·simp[hm]
 ·rw[if_neg hm,List.getElem?_replicate,if_pos hk]
  simp[hm]
theorem aqv(x y:List Bool)(hx:x.length=64)(hy:y.length=64)(k:Nat)(hk:k<64):Den Tryz.prog 180 [.int .i64 k,.ptr 1000000 0,.ptr 1000001 0] [.cells (x.map cb),.cells (y.map cb)] (.bool (el x k&& !el y k)) [] [.cells (x.map cb),.cells (y.map cb)]:=by
 refine aa Tryz.mixed Tryz.func180 rfl Tryz.call180 Tryz.ntmps180 (congrArg Array.toList Tryz.results180) (by simp) (by kernel_rfl) [] (exts:=[1000000,1000001]) rfl rfl ?_
 have k1:k<x.length:=by omega
 have k2:k<y.length:=by omega
 have hki:(k:Int)<64:=by omega
 cases h1:el x k
 ·simp only[go_sem,hk,k1,k2,h1,hki]
 ·simp only[go_sem,hk,k1,k2,h1,hki]
theorem awx(x y:List Bool)(hx:x.length=64)(hy:y.length=64)(c:Int→Bool)(hc: ∀k:Nat,k<64→c k=(el x k&& !el y k)):Den Tryz.prog 179 [.fn 180 [.ptr 1000000 0,.ptr 1000001 0]] [.cells (x.map cb),.cells (y.map cb)] (.vs ((dh c 64).map i1)) [] [.cells (x.map cb),.cells (y.map cb)]:=by
 refine aa Tryz.mixed Tryz.func179 rfl Tryz.call179 Tryz.ntmps179 (congrArg Array.toList Tryz.results179) (by simp) (by kernel_rfl) [] (exts:=[1000000,1000001]) rfl rfl ?_
 simp only[go_sem]
 refine br 3 99 3 1 false ?_ ?_ ?_ (by omega)
 ·refine loop Tryz.mixed 0 (fun i:Nat=>[(0,.fn 180 [.ptr 1000000 0,.ptr 1000001 0]),(3,.os 99 (dh c i).length),(5,.int .i64 i)]) (fun i=>[(99,.arr 3 1 false ((dh c i).map i1)),(1000000,.cells (x.map cb)),(1000001,.cells (y.map cb))]) (fun i=>i≤64) (fun i=>64 - i) (by kernel_rfl) (Nat.zero_le _) ?_ ?_
  ·simp only[go_sem]
   exact⟨rfl,rfl⟩
  ·intro i hi
   have hsu:=rz c i
   have hln:=jj c i
   by_cases hlt:i<64
   ·have h1:(i:Int)<64:=by omega
    have cm:=aqv x y hx hy i hlt
    rw[hc i hlt]at hsu
    generalize dh c i=o at*
    cases hb:(el x i&& !el y i)
    ·rw[hb]at cm hsu
     simp only[go_sem,h1]
     refine call cm [1000000,1000001] ?_
     simp only[go_sem]
     refine⟨i+1,⟨by omega,by omega⟩,⟨by rw[hsu];simp,by rw[ag]<;>omega⟩,by rw[hsu];simp⟩
    ·rw[hb]at cm hsu
     simp only[go_sem,h1]
     refine call cm [1000000,1000001] ?_
     simp only[go_sem]
     refine⟨by omega,i+1,⟨by omega,by omega⟩,⟨by rw[hsu];simp,by rw[ag]<;>omega⟩,by rw[hsu];simp[i1]⟩
   ·have h1: ¬(i:Int)<64:=by omega
    have:i=64:=by omega
    subst this
    simp only[go_sem,h1]
 ·simp only[go_sem]
 ·simp only[go_sem]
theorem aoa(a b:List Int)(ha:big a.length)(hb:big b.length):Den Tryz.prog 133 [.vs (a.map i1),.vs (b.map i1)] [] (.vs ((dh (fun k=>decide (k∈a)&& !decide (k∈b)) 64).map i1)) [] []:=by
 refine aa Tryz.mixed Tryz.func133 rfl Tryz.call133 Tryz.ntmps133 (congrArg Array.toList Tryz.results133) (by simp) (by kernel_rfl) [] (exts:=[]) rfl rfl ?_
 have l1:(ahy a).length=64:=qx a a.length (Nat.le_refl _)
 have l2:(ahy b).length=64:=qx b b.length (Nat.le_refl _)
 have ck:=awx (ahy a) (ahy b) l1 l2 (fun k=>decide (k∈a)&& !decide (k∈b)) fun k hk=>by rw[awt a hk,awt b hk]
 have c1:=abd a ha
 have c2:=abd b hb
 generalize ahy a=x at*
 generalize ahy b=y at*
 simp only[go_sem]
 refine call c1 [] ?_
 simp only[go_sem]
 refine call c2 [] ?_
 simp only[go_sem,l1,l2]
 refine call ck [5,6] ?_
 simp only[go_sem]
theorem ao2(l:List Int)(h0:0<l.length)(hl:l.length≤1000000):Den Tryz.prog 37 [.vs (l.map i1)] [] (.vs (l.map i1)) [] []:=by
 refine aa Tryz.mixed Tryz.func37 rfl Tryz.call37 Tryz.ntmps37 (congrArg Array.toList Tryz.results37) (by simp) (by kernel_rfl) [] (exts:=[]) rfl rfl ?_
 simp only[go_sem,h0]
 omega
theorem axu(l nu:List Int)(s:Int)(hr:i8 l=true)(h1:1≤s)(h9:s≤9)(hs:9≤nu.length)(hnb:big nu.length)(hn: ∀x∈nu,0≤x):Den Tryz.prog 178 [.vs (l.map i1),.vs (nu.map i1),.int .i64 s] [] (.tup [.vs ((bk l nu (min s.toNat l.length)).1.map i1),.int .i64 0]) [] []:=by
 refine aa Tryz.mixed Tryz.func178 rfl Tryz.call178 Tryz.ntmps178 (congrArg Array.toList Tryz.results178) (by simp) (by kernel_rfl) [] (exts:=[]) rfl rfl ?_
 obtain⟨_,_,hne,hl64⟩:=gh hr
 have hl0:0<l.length:=List.length_pos_iff.2 hne
 simp only[go_sem]
 refine call (kx l (by simp only[big];omega)) [] ?_
 rw[hr]
 have g1: ¬s<1:=by omega
 have g2: ¬9<s:=by omega
 generalize hm:min s.toNat l.length=m
 have g0:(if(l.length:Int)<s then(l.length:Int)else s)=(m:Int):=by split<;>omega
 have g3: ¬(nu.length:Int)<(m:Int):=by omega
 have g4:m≤nu.length:=by omega
 have hml:(nu.take m).length=m:=by rw[List.length_take];omega
 simp only[go_sem,g0,g1,g2,g3]
 refine call (ao2 l hl0 (by omega)) [] ?_
 simp only[go_sem]
 refine⟨⟨by omega,by omega⟩,?_⟩
 refine br 10 99 3 1 false ?_ ?_ ?_ (by omega)
 ·refine loop Tryz.mixed 0 (fun i:Nat=>[(9,.vs ((bk l nu i).2.map i1)),(10,.os 99 (bk l nu i).1.length),(37,.vs ((nu.take m).map i1)),(38,.int .i64 m),(39,.int .i64 i)]) (fun i=>[(99,.arr 3 1 false ((bk l nu i).1.map i1))]) (fun i=>i≤m) (fun i=>m - i) (by kernel_rfl) (Nat.zero_le _) ?_ ?_
  ·simp only[go_sem,bk,List.map_nil,List.length_nil]
   rw[hml]
  ·intro i hi
   obtain⟨hl1,hl2⟩:=qg (l:=l) hn i (by omega)
   by_cases h:i<m
   ·have hlt:(i:Int)<(m:Int):=by omega
    have hin:i<nu.length:=by omega
    have hin2:i<(nu.take m).length:=by omega
    have hel:el (nu.take m) i=el nu i:=by simp[el,List.getD_eq_getElem?_getD,List.getElem?_take,h]
    have h0:0≤el nu i:=hn _ (gg hin)
    have g5: ¬el nu i<0:=by omega
    have hd1:(bk l nu (i+1)).1=(bk l nu i).1++[el (bk l nu i).2 ((el nu i).tmod (bk l nu i).2.length).toNat]:=rfl
    have hd2:(bk l nu (i+1)).2=(bk l nu i).2.take ((el nu i).tmod (bk l nu i).2.length).toNat++(bk l nu i).2.drop (((el nu i).tmod (bk l nu i).2.length).toNat+1):=rfl
    have hb:=ado (n:=(bk l nu i).2.length) h0 (by omega)
    generalize (bk l nu i).1=o at*
    generalize (bk l nu i).2=f at*
    obtain⟨k,hk⟩: ∃k:Nat,(el nu i).tmod f.length=(k:Int):=⟨((el nu i).tmod f.length).toNat,by omega⟩
    rw[hk]at hb hd1 hd2
    have e1:IntKind.i64.wrap ((k:Int)+1)=((k+1:Nat):Int):=by rw[ag]<;>omega
    have hfn: ¬(f.length:Int)=0:=by omega
    have hkf:k<f.length:=by omega
    simp only[go_sem,hlt,hin2,hel,g5,hk,hfn,e1,hkf,List.take_length]
    rw[Int.toNat_natCast]at hd1 hd2
    have t1:(List.take k f).length≤64:=by rw[List.length_take];omega
    have t2:(List.drop (k+1) f).length≤64:=by rw[List.length_drop];omega
    have f1:o.length+1=(bk l nu (i+1)).1.length:=by rw[hd1];simp
    have f2:List.map i1 o++[[PV.int IntKind.i64 (el f k)]]=List.map i1 (bk l nu (i+1)).1:=by rw[hd1];simp[i1]
    refine⟨by omega,by omega,⟨by omega,by omega,by omega⟩,by omega,fun h=>⟨ae (by kernel_rfl),i+1,⟨by omega,by omega⟩,⟨?_,f1,by rw[ag]<;>omega⟩,f2⟩,fun _=>⟨ae (by kernel_rfl),i+1,⟨by omega,by omega⟩,⟨?_,f1,by rw[ag]<;>omega⟩,f2⟩⟩
    ·rw[hd2,List.map_append,h,List.append_nil]
    ·rw[hd2,List.map_append]
   ·have hm2:i=m:=by omega
    subst hm2
    have hc: ¬(i:Int)<(i:Int):=by omega
    simp only[go_sem,hc]
 ·simp only[go_sem]
 ·simp only[go_sem]
theorem anr{l:List Int}(h:i8 l=true):dw l []=l:=by
 obtain⟨h1,h2,_,_⟩:=gh h
 refine au3 (adr _ _) h1 fun x=> ?_
 rw[lw]
 constructor
 ·exact fun h=>h.2.1
 ·exact fun h=>⟨h2 x h,h,by simp⟩
def ofG(r:Rl)(v:List UInt8)(l:List Int)(c:Cs):List Int×Int:=
 if dp r=0∧i8 l=true∧dl c=true∧v.length≠32 then([],1)else ofR r v l c
theorem a40{r:Rl}{v:List UInt8}{l:List Int}{c:Cs}(h:v.length=32):ofG r v l c=ofR r v l c:=if_neg fun hh=>hh.2.2.2 h
theorem agr(v:List UInt8)(tag:List Int)(n:Int)(hv:v.length≠32):Den Tryz.prog 75 [.str v,.vs (tag.map i1),.int .i64 n] [] (.tup [.vs [],.int .i64 1]) [] []:=by
 refine aa Tryz.mixed Tryz.func75 rfl Tryz.call75 Tryz.ntmps75 (congrArg Array.toList Tryz.results75) (by simp) (by kernel_rfl) [] (exts:=[]) rfl rfl ?_
 have g1: ¬(v.length:Int)=32:=by omega
 simp only[go_sem,g1]
theorem ack(v:List UInt8)(tag:List Int)(n:Int)(hv:v.length≠32):Den Tryz.prog 177 [.str v,.vs (tag.map i1),.int .i64 n] [] (.tup [.vs [],.int .i64 1]) [] []:=by
 refine aa Tryz.mixed Tryz.func177 rfl Tryz.call177 Tryz.ntmps177 (congrArg Array.toList Tryz.results177) (by simp) (by kernel_rfl) [] (exts:=[]) rfl rfl ?_
 have g1: ¬(v.length:Int)=32:=by omega
 simp only[go_sem,g1]
theorem a7x(r:Rl)(v:List UInt8)(l:List Int)(c:Cs)(h0:big r.gen.length)(h1:big r.pol.se.length)(h2:big r.pol.ta.length)(hl:big l.length):Den Tryz.prog 48 [.agg (rl r),.str v,.vs (l.map i1),.agg (cs c)] [] (.tup [.vs ((ofG r v l c).1.map i1),.int .i64 (ofG r v l c).2]) [] []:=by
 by_cases hv:v.length=32
 ·rw[a40 hv]
  exact awg r v l c h0 h1 h2 hl fun _=>hv
 refine aa Tryz.mixed Tryz.func48 rfl Tryz.call48 Tryz.ntmps48 (congrArg Array.toList Tryz.results48) (by simp) (by kernel_rfl) [] (exts:=[]) rfl rfl ?_
 have hG:ofG r v l c=if dp r=0∧i8 l=true∧dl c=true∧v.length≠32 then([],1)else ofR r v l c:=rfl
 have hQ:=ya r v l c
 generalize ofR r v l c=q at*
 generalize ofG r v l c=m at*
 have c0:=qf r h0 h1 h2
 rw[bu]at c0
 simp only[go_sem]
 refine call c0 [] ?_
 by_cases a1:dp r=0
 rotate_left
 ·rw[if_pos a1]at hQ
  rw[if_neg (fun h=>a1 h.1)]at hG
  subst hG hQ
  simp only[go_sem,a1,List.map_nil]
 rw[if_neg (by simpa using a1)]at hQ
 simp only[go_sem,a1]
 refine call (arv l hl) [] ?_
 cases a2:i8 l
 ·rw[if_pos a2]at hQ
  rw[if_neg (fun h=>by rw[a2]at h;cases h.2.1)]at hG
  subst hG hQ
  simp only[go_sem,List.map_nil]
 rw[if_neg (by simp[a2])]at hQ
 have c2:=j9 c
 rw[bd]at c2
 simp only[go_sem]
 refine call c2 [] ?_
 cases a3:dl c
 ·rw[if_pos a3]at hQ
  rw[if_neg (fun h=>by rw[a3]at h;cases h.2.2.1)]at hG
  subst hG hQ
  simp only[go_sem,List.map_nil]
 rw[if_pos ⟨a1,a2,a3,hv⟩]at hG
 subst hG
 have hc:=of_decide_eq_true a3
 simp only[go_sem]
 refine loop Tryz.mixed 0 (fun i:Nat=>[(1,.str v),(2,.vs (l.map i1)),(4,.ptr 4 0),(7,.ptr 7 0),(11,.vs []),(12,.int .i64 0)]) (fun i=>[(4,.cells (rl r)),(7,.cells (cs c))]) (fun i=>True) (fun i=>0) (by kernel_rfl) trivial ?_ ?_
 ·simp only[go_sem,List.map_nil]
 ·rintro i -
  have g1:(0:Int)≤c.ro:=by omega
  simp only[go_sem,g1]
  refine call (agr v (wd c 0) 9 hv) [] ?_
  simp only[go_sem,List.map_nil]
  rfl
theorem ae2(r:Rl)(v:List UInt8)(l:List Int)(c:Cs)(j:Int)(hr:i8 l=true)(hs:1≤r.seats∧r.seats≤9)(hv:v.length=32):Den Tryz.prog 132 [.agg (rl r),.str v,.vs (l.map i1),.agg (cs c),.int .i64 j] [] (.tup [.vs ((bk l (r5 v (wd c j) 9) (min r.seats.toNat l.length)).1.map i1),.int .i64 0]) [] []:=by
 refine aa Tryz.mixed Tryz.func132 rfl Tryz.call132 Tryz.ntmps132 (congrArg Array.toList Tryz.results132) (by simp) (by kernel_rfl) [] (exts:=[]) rfl rfl ?_
 have hnl:=j8 v (wd c j) 9
 have hnn:=ph v (wd c j) 9
 simp only[go_sem]
 refine call (ae8 v (wd c j) 9 hv (by simp[wd]) (by omega)) [] ?_
 generalize r5 v (wd c j) 9=N at*
 simp only[go_sem]
 refine⟨rfl,call (axu l N r.seats hr hs.1 hs.2 (by omega) (by simp only[big];omega) hnn) [] ?_⟩
 simp only[go_sem]
theorem aq4(r:Rl)(v:List UInt8)(l:List Int)(c:Cs)(j:Int)(hv:v.length≠32):Den Tryz.prog 132 [.agg (rl r),.str v,.vs (l.map i1),.agg (cs c),.int .i64 j] [] (.tup [.vs [],.int .i64 1]) [] []:=by
 refine aa Tryz.mixed Tryz.func132 rfl Tryz.call132 Tryz.ntmps132 (congrArg Array.toList Tryz.results132) (by simp) (by kernel_rfl) [] (exts:=[]) rfl rfl ?_
 simp only[go_sem]
 refine call (ack v (wd c j) 9 hv) [] ?_
 simp only[go_sem,List.map_nil]
 rfl
theorem a83(r:Rl)(v:List UInt8)(l:List Int)(c:Cs)(h0:big r.gen.length)(h1:big r.pol.se.length)(h2:big r.pol.ta.length)(hl:big l.length):Den Tryz.prog 98 [.agg (rl r),.str v,.vs (l.map i1),.agg (cs c)] [] (.tup [.vs ((ofG r v l c).1.map i1),.int .i64 (ofG r v l c).2]) [] []:=by
 refine aa Tryz.mixed Tryz.func98 rfl Tryz.call98 Tryz.ntmps98 (congrArg Array.toList Tryz.results98) (by simp) (by kernel_rfl) [] (exts:=[]) rfl rfl ?_
 have hG:ofG r v l c=if dp r=0∧i8 l=true∧dl c=true∧v.length≠32 then([],1)else ofR r v l c:=rfl
 have hQ:=ya r v l c
 generalize ofR r v l c=q at*
 generalize ofG r v l c=m at*
 have c0:=akg r h0 h1 h2
 rw[bu]at c0
 simp only[go_sem]
 refine call c0 [] ?_
 by_cases a1:dp r=0
 rotate_left
 ·rw[if_pos a1]at hQ
  rw[if_neg (fun h=>a1 h.1)]at hG
  subst hG hQ
  simp only[go_sem,a1,List.map_nil]
 rw[if_neg (by simpa using a1)]at hQ
 have hS:=(a2k a1).2.2
 simp only[go_sem,a1]
 refine call (kx l hl) [] ?_
 cases a2:i8 l
 ·rw[if_pos a2]at hQ
  rw[if_neg (fun h=>by rw[a2]at h;cases h.2.1)]at hG
  subst hG hQ
  simp only[go_sem,List.map_nil]
 rw[if_neg (by simp[a2])]at hQ
 have c2:=w4 c
 rw[bd]at c2
 simp only[go_sem]
 refine call c2 [] ?_
 cases a3:dl c
 ·rw[if_pos a3]at hQ
  rw[if_neg (fun h=>by rw[a3]at h;cases h.2.2.1)]at hG
  subst hG hQ
  simp only[go_sem,List.map_nil]
 rw[if_neg (by simp[a3])]at hQ
 have hc:=of_decide_eq_true a3
 by_cases hv:v.length=32
 rotate_left
 ·rw[if_pos ⟨a1,a2,a3,hv⟩]at hG
  subst hG
  have ce:=aq4 r v l c 0 hv
  rw[bu,bd]at ce
  simp only[go_sem]
  refine call ce [] ?_
  simp only[go_sem,List.map_nil]
 rw[if_neg fun h=>h.2.2.2 hv]at hG
 have cd:=ae2 r v l c 0 a2 (by omega) hv
 have e0:oe r v l c 0 []=(bk l (r5 v (wd c 0) 9) (min r.seats.toNat l.length)).1:=by unfold oe;rw[anr a2]
 rw[←e0,bu,bd]at cd
 have hal:=vc (r:=r) (v:=v) (l:=l) (c:=c) (j:=0) (prev:=[])
 have har:=vu l []
 have e1:oe r v l c 1 (oe r v l c 0 [])=(bk (dw l (oe r v l c 0 [])) (r5 v (wd c 1) 9) (min r.seats.toNat (dw l (oe r v l c 0 [])).length)).1:=rfl
 generalize oe r v l c 0 []=a at*
 simp only[go_sem]
 refine call cd [] ?_
 by_cases hro:c.ro=0
 ·rw[if_pos hro]at hQ
  subst hG hQ
  simp only[go_sem,hro]
 rw[if_neg hro]at hQ
 have cm:=aoa l a hl (by simp only[big];omega)
 have hw:dh (fun k=>decide (k∈l)&& !decide (k∈(a:List Int))) 64=dw l a:=rfl
 rw[hw]at cm
 simp only[go_sem,hro]
 refine call cm [] ?_
 by_cases hne:dw l a=[]
 ·rw[if_pos hne]at hQ
  subst hG hQ
  have g2:((dw l a).length:Int)=0:=by rw[hne];rfl
  simp only[go_sem,g2,List.map_nil]
 rw[if_neg hne]at hQ
 have hrv:i8 (dw l a)=true:=vi hne
 have hrl:0<(dw l a).length:=List.length_pos_iff.2 hne
 have g2: ¬((dw l a).length:Int)=0:=by omega
 have cd2:=ae2 r v (dw l a) c 1 hrv (by omega) hv
 rw[←e1,bu,bd]at cd2
 generalize oe r v l c 1 a=b at*
 generalize dw l a=W at*
 subst hG hQ
 simp only[go_sem,g2]
 refine call cd2 [] ?_
 simp only[go_sem]
end Go.Proofs.Am
