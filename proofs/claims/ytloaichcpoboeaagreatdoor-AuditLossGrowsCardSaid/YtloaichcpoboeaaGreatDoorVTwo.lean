/- VTwo. -/
import Derived.Test.YtloaichcpoboeaaGreatDoorVOne
set_option maxHeartbeats 1000000
set_option maxRecDepth 100000
set_option linter.unusedSimpArgs false
set_option linter.unusedVariables false
namespace Go.Proofs.Am
open Go Go.RowKit
open Go.Proofs
theorem a7m(i:Nat)(h:i<9):ar4 [116,114,117,115,116,102,108,111,119] i=((([116,114,117,115,116,102,108,111,119]:List UInt8).getD i 0).toNat,1):=by
 have:i=0∨i=1∨i=2∨i=3∨i=4∨i=5∨i=6∨i=7∨i=8:=by omega
 rcases this with rfl|rfl|rfl|rfl|rfl|rfl|rfl|rfl|rfl<;>rfl
def nmT(i:Nat):List UInt8:=([116,114,117,115,116,102,108,111,119]:List UInt8).take i
def nmC(i:Nat):UInt8:=([116,114,117,115,116,102,108,111,119]:List UInt8).getD i 0
theorem a0e{i:Nat}(h:i<9):nmT (i+1)=nmT i++[nmC i]:=by
 have:i=0∨i=1∨i=2∨i=3∨i=4∨i=5∨i=6∨i=7∨i=8:=by omega
 rcases this with rfl|rfl|rfl|rfl|rfl|rfl|rfl|rfl|rfl<;>rfl
theorem a4y{i:Nat}(h:i≤9):(nmT i).length=i:=by
 have:i=0∨i=1∨i=2∨i=3∨i=4∨i=5∨i=6∨i=7∨i=8∨i=9:=by omega
 rcases this with rfl|rfl|rfl|rfl|rfl|rfl|rfl|rfl|rfl|rfl<;>rfl
def bkF(r:Rl):Nat→List UInt8
 |0=>[116,114,117,115,116,102,108,111,119]
 |1=>[116,114,117,115,116,102,108,111,119]++lsB r.gen
 |2=>([116,114,117,115,116,102,108,111,119]++lsB r.gen)++lsB r.pol.se
 |3=>(([116,114,117,115,116,102,108,111,119]++lsB r.gen)++lsB r.pol.se)++lsB r.pol.ta
 |_=>b0 r
def vy(r:Rl):List (List PV):=[[.vs (r.gen.map i1)],[.vs (r.pol.se.map i1)],[.vs (r.pol.ta.map i1)],[.vs [i1 r.pol.lv,i1 r.seats,i1 r.span,i1 r.quota]]]
theorem anh(r:Rl)(hr:fj r=0)(h0:r.gen.length≤1000000)(h1:r.pol.se.length≤1000000)(h2:r.pol.ta.length≤1000000):Den Tryz.prog 131 [.agg (rl r)] [] (.tup [.str (aus r),.int .i64 0]) [] []:=by
 refine aa Tryz.mixed Tryz.func131 rfl Tryz.call131 Tryz.ntmps131 (congrArg Array.toList Tryz.results131) (by simp) (by kernel_rfl) [] (exts:=[]) rfl rfl ?_
 have c0:=ab5 r (by simp only[big];omega) (by simp only[big];omega) (by simp only[big];omega)
 rw[hr,nw]at c0
 simp only[go_sem]
 refine call c0 [] ?_
 simp only[go_sem]
 refine cy 5 99 5 1 false ?_ ?_ ?_ (by omega)
 ·refine loop Tryz.mixed 0 (fun i:Nat=>[(1,.ptr 1 0),(5,.os 99 (nmT i).length),(15,.mh 15)]) (fun i=>[(1,.cells (rl r)),(15,.si [116,114,117,115,116,102,108,111,119] i),(99,.arr 5 1 false ((nmT i).map u8))]) (fun i=>i≤9) (fun i=>9 - i) (by kernel_rfl) (Nat.zero_le _) ?_ ?_
  ·simp only[go_sem]
   exact⟨rfl,rfl⟩
  ·intro i hi
   have hd:=a7m i
   have hst:=a0e (i:=i)
   have hln:=a4y hi
   by_cases h:i<9
   ·have hd:=hd h
    have hst:=hst h
    have hw:IntKind.u8.wrap ((nmC i).toNat:Int)=((nmC i).toNat:Int):=by
     rw[IntKind.wrap_u8]
     have:=(nmC i).toNat_lt
     omega
    have hn:(([116,114,117,115,116,102,108,111,119]:List UInt8).getD i 0)=nmC i:=rfl
    rw[hn]at hd
    simp only[go_sem,h,hd,hw]
    refine⟨by omega,i+1,⟨by omega,by omega⟩,?_,rfl,?_⟩
    ·rw[hst];simp
    ·rw[hst];simp[u8]
   ·have:i=9:=by omega
    subst this
    have e9:nmT 9=[116,114,117,115,116,102,108,111,119]:=rfl
    rw[e9]
    clear hd hst hln e9 h hi
    simp only[go_sem]
    refine loop Tryz.mixed 0 (fun k:Nat=>[(5,.os 99 (bkF r k).length),(42,.vs (vy r)),(43,.int .i64 4),(44,.int .i64 k)]) (fun k=>[(99,.arr 5 1 false ((bkF r k).map u8))]) (fun k=>k≤4) (fun k=>4 - k) (by kernel_rfl) (Nat.zero_le _) ?_ ?_
    ·simp only[go_sem,vy,bkF]
    ·intro k hk
     have cS:=tq (b0 r) (by simp only[b0,List.length_append,ql,List.length_cons,List.length_nil];omega)
     have d0:=jx (bkF r 0) r.gen (by simp[bkF]) (by omega)
     have d1:=jx (bkF r 1) r.pol.se (by simp only[bkF,List.length_append,ql,List.length_cons,List.length_nil];omega) (by omega)
     have d2:=jx (bkF r 2) r.pol.ta (by simp only[bkF,List.length_append,ql,List.length_cons,List.length_nil];omega) (by omega)
     have d3:=jx (bkF r 3) [r.pol.lv,r.seats,r.span,r.quota] (by simp only[bkF,List.length_append,ql,List.length_cons,List.length_nil];omega) (by simp)
     have s0:bkF r 0++lsB r.gen=bkF r 1:=rfl
     have s1:bkF r 1++lsB r.pol.se=bkF r 2:=rfl
     have s2:bkF r 2++lsB r.pol.ta=bkF r 3:=rfl
     have s3:bkF r 3++lsB [r.pol.lv,r.seats,r.span,r.quota]=bkF r 4:=rfl
     have b4:bkF r 4=b0 r:=rfl
     rw[s0]at d0
     rw[s1]at d1
     rw[s2]at d2
     rw[s3]at d3
     rw[←b4]at cS
     have hv:aus r=sha (bkF r 4):=rfl
     rw[hv]
     generalize bkF r=B at*
     have:k=0∨k=1∨k=2∨k=3∨k=4:=by omega
     rcases this with rfl|rfl|rfl|rfl|rfl
     ·simp only[go_sem,vy]
      refine call d0 [99] ?_
      simp only[go_sem,vy]
      exact⟨by rw[←s0,List.length_append];omega,1,⟨by omega,by omega⟩,⟨rfl,by rw[ae]<;>omega⟩,rfl⟩
     ·simp only[go_sem,vy]
      refine call d1 [99] ?_
      simp only[go_sem,vy]
      exact⟨by rw[←s1,List.length_append];omega,2,⟨by omega,by omega⟩,⟨rfl,by rw[ae]<;>omega⟩,rfl⟩
     ·simp only[go_sem,vy]
      refine call d2 [99] ?_
      simp only[go_sem,vy]
      exact⟨by rw[←s2,List.length_append];omega,3,⟨by omega,by omega⟩,⟨rfl,by rw[ae]<;>omega⟩,rfl⟩
     ·simp only[go_sem,vy]
      refine call d3 [99] ?_
      simp only[go_sem,vy]
      exact⟨by rw[←s3,List.length_append];omega,4,⟨by omega,by omega⟩,⟨rfl,by rw[ae]<;>omega⟩,rfl⟩
     ·simp only[go_sem,vy]
      refine call cS [] ?_
      simp only[go_sem]
 ·simp only[go_sem]
 ·simp only[go_sem]
def ef(r:Rl)(t:Tm)(c:Cs):List Int×Int:=if c.ep≠t.ep then([],46)else ofG r t.bea t.ros c
theorem as1{r:Rl}{t:Tm}{c:Cs}(h:t.bea.length=32):ef r t c=nc r t c:=by
 unfold ef nc
 rw[ba3 h]
theorem a48(r:Rl)(v:List UInt8)(l:List Int)(c:Cs):(ofG r v l c).1.length≤64:=by
 unfold ofG
 split
 ·simp
 ·exact a4v _ _ _ _
theorem aos(r:Rl)(t:Tm)(c:Cs):(ef r t c).1.length≤64:=by
 unfold ef
 split
 ·simp
 ·exact a48 _ _ _ _
def ave(r:Rl)(L:List Stm)(t:Tm)(c:Cs):Ct×Bool×Int:=
 if(ef r t c).2≠0 then(noC,false,(ef r t c).2)else(anm (ak3 L c (ef r t c).1),decide ((ak3 L c (ef r t c).1).length=1),ckS c (ef r t c).1)
theorem a49{r:Rl}{L:List Stm}{t:Tm}{c:Cs}(h:t.bea.length=32):ave r L t c=bca r L t c:=by
 unfold ave bca
 rw[as1 h]
theorem azu(L:List Stm)(c:Cs)(s:List Int):(ak3 L c s).length≤L.length:=by
 unfold ak3
 split
 ·exact a0b
 ·simp
structure RlB(r:Rl):Prop where
 g:r.gen.length≤1000000
 s:r.pol.se.length≤1000000
 t:r.pol.ta.length≤1000000
theorem aoi(r:Rl)(t:Tm)(c:Cs)(hr:RlB r)(hl:big t.ros.length):Den Tryz.prog 77 [.agg (rl r),.agg (tm t),.agg (cs c)] [] (.tup [.vs ((ef r t c).1.map i1),.int .i64 (ef r t c).2]) [] []:=by
 refine aa Tryz.mixed Tryz.func77 rfl Tryz.call77 Tryz.ntmps77 (congrArg Array.toList Tryz.results77) (by simp) (by kernel_rfl) [] (exts:=[]) rfl rfl ?_
 have c1:=a4o r t.bea t.ros c (by have:=hr.g;simp only[big];omega) (by have:=hr.s;simp only[big];omega) (by have:=hr.t;simp only[big];omega) hl
 rw[ji,nw]at c1
 have hm:ef r t c=if c.ep≠t.ep then([],46)else ofG r t.bea t.ros c:=rfl
 generalize ef r t c=m at*
 by_cases h:c.ep=t.ep
 ·rw[if_neg (by simpa using h)]at hm
  rw[←hm]at c1
  simp only[go_sem,h]
  rw[h]at c1
  refine call c1 [] ?_
  simp only[go_sem]
 ·rw[if_pos h]at hm
  subst hm
  simp only[go_sem,h,List.map_nil]
theorem a0q(r:Rl)(L:List Stm)(t:Tm)(c:Cs)(hr:RlB r)(hl:big t.ros.length)(hL:L.length≤900)(hs: ∀s∈L,aby s)(hq: ∀y∈ay L c,plX y.x):Den Tryz.prog 133 [.agg (rl r),.vs (L.map sm),.agg (tm t),.agg (cs c)] [] (.tup [.agg (ct (ave r L t c).1),.bool (ave r L t c).2.1,.int .i64 (ave r L t c).2.2]) [] []:=by
 refine aa Tryz.mixed Tryz.func133 rfl Tryz.call133 Tryz.ntmps133 (congrArg Array.toList Tryz.results133) (by simp) (by kernel_rfl) [] (exts:=[]) rfl rfl ?_
 have hsl:=aos r t c
 have c1:=aoi r t c hr hl
 have hal:=azu L c (ef r t c).1
 have c2:=a8v L c (ef r t c).1 hL hs (by omega) (ak3 L c (ef r t c).1) rfl (by simp only[big];omega) hq
 have hm:ave r L t c=if(ef r t c).2≠0 then(noC,false,(ef r t c).2)else(anm (ak3 L c (ef r t c).1),decide ((ak3 L c (ef r t c).1).length=1),ckS c (ef r t c).1):=rfl
 generalize ave r L t c=m at*
 generalize ef r t c=S at*
 obtain⟨s,k⟩:=S
 simp only at hm c1 c2
 generalize anm (ak3 L c s)=x at*
 generalize decide ((ak3 L c s).length=1)=b at*
 generalize ckS c s=e at*
 rw[ji,nw,aig]at c1
 rw[ji,ac6]at c2
 simp only[go_sem]
 refine call c1 [] ?_
 by_cases h:k=0
 ·rw[if_neg (by simpa using h)]at hm
  subst hm
  simp only[go_sem,h]
  refine call c2 [] ?_
  simp only[go_sem]
 ·rw[if_pos h]at hm
  subst hm
  simp only[go_sem,h,noC,List.map_nil]
def noT:Tm:=⟨0,[],[],false,noC⟩
def fl(t:Tm):Tm×Bool:=if t.dec=true∧t.ep<39∧(agt t.nx.li).2=0 then(⟨t.ep+1,(agt t.nx.li).1,age t.bea t.ep t.nx.li,false,noC⟩,true)else(noT,false)
theorem apr(t:Tm)(h0:0≤t.ep)(hv:t.bea.length=32)(hn:big t.nx.li.length):Den Tryz.prog 132 [.agg (tm t)] [] (.tup [.agg (tm (fl t).1),.bool (fl t).2]) [] []:=by
 refine aa Tryz.mixed Tryz.func132 rfl Tryz.call132 Tryz.ntmps132 (congrArg Array.toList Tryz.results132) (by simp) (by kernel_rfl) [] (exts:=[]) rfl rfl ?_
 have hm:fl t=if t.dec=true∧t.ep<39∧(agt t.nx.li).2=0 then(⟨t.ep+1,(agt t.nx.li).1,age t.bea t.ep t.nx.li,false,noC⟩,true)else(noT,false):=rfl
 generalize fl t=m at*
 cases a1:t.dec
 ·rw[if_neg (fun h=>by rw[a1]at h;cases h.1)]at hm
  subst hm
  simp only[go_sem,a1,noT,noC,List.map_nil]
 by_cases a2:39≤t.ep
 ·rw[if_neg (fun h=>by omega)]at hm
  subst hm
  simp only[go_sem,a1,a2,noT,noC,List.map_nil]
 simp only[go_sem,a1,a2]
 refine call (a2z t.nx.li hn) [] ?_
 by_cases a3:qz t.nx.li
 rotate_left
 ·rw[wg a3]at hm ⊢
  rw[if_neg (fun h=>by cases h.2.2)]at hm
  subst hm
  simp only[go_sem,noT,noC,List.map_nil]
 rw[abi a3]at hm ⊢
 rw[if_pos ⟨a1,by omega,rfl⟩]at hm
 subst hm
 have cn:=avm t.bea t.ep t.nx.li hv h0 (by omega) (by have:=a3.1;omega)
 have w:IntKind.i64.wrap (t.ep+1)=t.ep+1:=by rw[ae]<;>omega
 simp only[go_sem]
 refine call cn [] ?_
 simp only[go_sem,w,noC,List.map_nil]
def yg(r:Rl)(L:List Stm):List Tm×Int:=if fj r≠0 then([],fj r)else(v8 r L,0)
theorem asi{r:Rl}{L:List Stm}(h:fj r=0):yg r L=(v8 r L,0):=if_neg (by simp[h])
theorem aro{r:Rl}{L:List Stm}{t:Tm}{out X:List Tm}(hl:out.length<40)(hX:out++ng r L (40 - out.length) t=X):
  X=(out++[dx r L t])++(match nj (dx r L t)with|none=>[]|some u=>ng r L (40 - (out.length+1)) u):=by
 rw[←hX,show 40 - out.length=40 - (out.length+1)+1 by omega]
 simp only[ng,List.append_assoc,List.singleton_append]
 cases nj (dx r L t)<;>rfl
theorem ao2{r:Rl}{L:List Stm}{t:Tm}{out X:List Tm}(ht:OkT t)(he:t.ep=out.length)(hX:out++ng r L (40 - out.length) t=X):
  ((fl (dx r L t)).2=true→OkT (fl (dx r L t)).1∧(fl (dx r L t)).1.ep=out.length+1∧(fl (dx r L t)).1.dec=false∧(fl (dx r L t)).1.nx=noC∧(out++[dx r L t])++ng r L (40 - (out.length+1)) (fl (dx r L t)).1=X)∧
  ((fl (dx r L t)).2=false→(fl (dx r L t)).1=noT∧out++[dx r L t]=X):=by
 have hlt:=ht.hi
 have hc:=aro (by omega) hX
 have hep:(dx r L t).ep=t.ep:=rfl
 generalize hf:dx r L t=f at*
 unfold fl
 split
 ·rename_i h
  have ha:nj f=some ⟨f.ep+1,(agt f.nx.li).1,age f.bea f.ep f.nx.li,false,noC⟩:=if_pos ⟨h.1,h.2.2⟩
  refine⟨fun _=>⟨?_,by show f.ep+1=_;omega,rfl,rfl,?_⟩,fun h=>by cases h⟩
  ·exact awr (hf ▸ a16 ht) ha h.2.1
  ·rw[hc,ha]
 ·rename_i h
  refine⟨fun h=>(by cases h),fun _=>⟨rfl,?_⟩⟩
  rw[hc]
  cases ha:nj f with
  |none=>simp
  |some u=>
   obtain⟨h1,h2,_⟩:=oc ha
   have: ¬f.ep<39:=fun h3=>h ⟨h1,h3,h2⟩
   have:out.length=39:=by omega
   rw[this]
   simp[ng]
theorem axq{r:Rl}{L:List Stm}{t:Tm}(hr:fj r=0)(ht:OkT t):ave r L t ⟨t.ep,1,0,0⟩=((dx r L t).nx,(dx r L t).dec,0):=(a49 ht.bea).trans (a7k hr ht)
theorem a7i{r:Rl}{L:List Stm}{t:Tm}:xg (dx r L t).nx:=by
 show xg (anm (stA r L t))
 exact ay0
structure TSt where
 t:Tm
 out:List Tm
 more:Bool
def zN:List Tm→PV
 |[]=> .nils
 |_::_=> .vs []
theorem bbs:zN []= .nils:=rfl
theorem bcw(o:Tm)(l:List Tm):zN (o::l)= .vs []:=rfl
theorem bco: ∀o:List Tm,zN o= .nils∨zN o= .vs []
 |[]=> .inl rfl
 |_::_=> .inr rfl
theorem a3v(o:List Tm)(x:Tm):zN (o++[x])= .vs []:=by cases o<;>rfl
theorem aps(r:Rl)(L:List Stm)(hr:RlB r)(hL:L.length≤900)(hs: ∀s∈L,aby s)(hqV: ∀c,∀y∈ay L c,plX y.x):Den Tryz.prog 100 [.agg (rl r),.vs (L.map sm)] [] (.tup [.vs ((yg r L).1.map tm),.int .i64 (yg r L).2]) [] []:=by
 refine aa Tryz.mixed Tryz.func100 rfl Tryz.call100 Tryz.ntmps100 (congrArg Array.toList Tryz.results100) (by simp) (by kernel_rfl) [] (exts:=[]) rfl rfl ?_
 have c0:=ab5 r (by have:=hr.g;simp only[big];omega) (by have:=hr.s;simp only[big];omega) (by have:=hr.t;simp only[big];omega)
 have c0':=c0
 rw[nw]at c0
 have hE:yg r L=if fj r≠0 then([],fj r)else(v8 r L,0):=rfl
 generalize yg r L=m at*
 simp only[go_sem]
 refine call c0 [] ?_
 by_cases a1:fj r=0
 rotate_left
 ·rw[if_pos a1]at hE
  subst hE
  simp only[go_sem,a1,List.map_nil]
 rw[if_neg (by simpa using a1)]at hE
 subst hE
 have c1:=anh r a1 hr.g hr.s hr.t
 rw[nw]at c1
 have hg:=(p9 (azk a1).1).2.2.1
 have hg0:0<r.gen.length:=List.length_pos_iff.2 hg
 simp only[go_sem,a1]
 refine call c1 [] ?_
 simp only[go_sem]
 refine call (y1 r.gen hg0 (by have:=hr.g;omega)) [] ?_
 simp only[go_sem]
 refine cy 9 99 128 6 false ?_ ?_ ?_ (by omega)
 ·refine loop Tryz.mixed (⟨xa r,[],true⟩:TSt) (fun s:TSt=>[(1,.vs (L.map sm)),(2,.ptr 2 0),(9,.os 99 s.out.length),(10,.ptr 10 0),(11,.bool s.more)]) (fun s=>[(2,.cells (rl r)),(10,.cells [.int .i64 s.t.ep,.vs (s.t.ros.map i1),.str s.t.bea,.bool s.t.dec,zN s.out,zN s.out]),(99,.arr 128 6 false (s.out.map tm))])
   (fun s=>s.out.length≤40∧(s.more=true→OkT s.t∧s.t.ep=s.out.length∧s.t.dec=false∧s.t.nx=noC∧s.out++ng r L (40 - s.out.length) s.t=v8 r L)∧(s.more=false→s.out=v8 r L)) (fun s=>41 - s.out.length) (by kernel_rfl) ⟨by simp,fun _=>⟨amg a1,rfl,rfl,rfl,rfl⟩,fun h=>by cases h⟩ ?_ ?_
  ·simp only[go_sem,bbs,List.map_nil,List.length_nil]
   exact⟨rfl,rfl,rfl,rfl⟩
  ·rintro⟨t,out,more⟩ ⟨hl,h1,h2⟩
   simp only at hl h1 h2 ⊢
   cases more
   ·have h2:=h2 rfl
    subst h2
    simp only[go_sem]
   ·obtain⟨ht,he,hd,hn,hX⟩:=h1 rfl
    have hlt:=ht.hi
    have cd:=a0q r L t ⟨t.ep,1,0,0⟩ hr (by have:=ht.len;simp only[big];omega) hL hs (hqV _)
    rw[axq a1 ht]at cd
    have st:=ao2 ht he hX
    have hfe:dx r L t=⟨t.ep,t.ros,t.bea,(dx r L t).dec,(dx r L t).nx⟩:=rfl
    have cf:=apr (dx r L t) ht.lo ht.bea a7i.1
    have htm:tm t=[.int .i64 t.ep,.vs (t.ros.map i1),.str t.bea,.bool t.dec,.vs [],.vs []]:=by rw[aig,hn];rfl
    rw[htm,nw,ji,ac6]at cd
    rw[aig]at cf
    generalize dx r L t=f at*
    have q1:f.ep=t.ep:=by rw[hfe]
    have q2:f.ros=t.ros:=by rw[hfe]
    have q3:f.bea=t.bea:=by rw[hfe]
    rw[q1,q2,q3,aig]at cf
    generalize fl f=g at*
    obtain⟨u,b⟩:=g
    simp only at st cf cd
    have hun:u.nx=noC:=by
     cases b
     ·rw[(st.2 rfl).1];rfl
     ·exact(st.1 rfl).2.2.2.1
    have hfr:tm f=[.int .i64 t.ep,.vs (t.ros.map i1),.str t.bea,.bool f.dec,.vs (f.nx.li.map i1),.vs (f.nx.pi.map pn)]:=by rw[aig,q1,q2,q3]
    rw[hun,show noC.li.map i1=[] from rfl,show noC.pi.map pn=[] from rfl]at cf
    have hlo:out.length<40:=by omega
    rcases bco out with hz|hz
    ·simp only[go_sem,hz]
     refine call cd [] ?_
     simp only[go_sem]
     refine⟨by omega,?_⟩
     refine call cf [] ?_
     simp only[go_sem]
     refine⟨⟨u,out++[f],b⟩,⟨⟨by simp only[List.length_append,List.length_cons,List.length_nil];omega,fun hb=> ?_,fun hb=> ?_⟩,by simp only[List.length_append,List.length_cons,List.length_nil];omega⟩,?_⟩
     ·obtain⟨g1,g2,g3,g4,g5⟩:=st.1 hb
      exact⟨g1,by rw[g2];simp,g3,g4,by rw[List.length_append];exact g5⟩
     ·exact(st.2 hb).2
     ·simp only[go_sem,a3v,List.length_append,List.map_append,List.map_cons,List.map_nil,hfr]
      done
    ·simp only[go_sem,hz]
     refine call cd [] ?_
     simp only[go_sem]
     refine⟨by omega,?_⟩
     refine call cf [] ?_
     simp only[go_sem]
     refine⟨⟨u,out++[f],b⟩,⟨⟨by simp only[List.length_append,List.length_cons,List.length_nil];omega,fun hb=> ?_,fun hb=> ?_⟩,by simp only[List.length_append,List.length_cons,List.length_nil];omega⟩,?_⟩
     ·obtain⟨g1,g2,g3,g4,g5⟩:=st.1 hb
      exact⟨g1,by rw[g2];simp,g3,g4,by rw[List.length_append];exact g5⟩
     ·exact(st.2 hb).2
     ·simp only[go_sem,a3v,List.length_append,List.map_append,List.map_cons,List.map_nil,hfr]
      done
 ·simp only[go_sem]
 ·simp only[go_sem]
end Go.Proofs.Am
