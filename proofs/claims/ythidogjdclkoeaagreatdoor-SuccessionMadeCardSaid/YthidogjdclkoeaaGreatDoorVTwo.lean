/- VTwo. -/
import Derived.Test.YthidogjdclkoeaaGreatDoorVOne
set_option maxHeartbeats 1000000
set_option maxRecDepth 100000
set_option linter.unusedSimpArgs false
set_option linter.unusedVariables false
namespace Go.Proofs.Am
open Go Go.RowKit
open Go.Proofs
theorem a0r(i:Nat)(h:i<9):ar1 [116,114,117,115,116,102,108,111,119] i=((([116,114,117,115,116,102,108,111,119]:List UInt8).getD i 0).toNat,1):=by
 have:i=0\/i=1\/i=2\/i=3\/i=4\/i=5\/i=6\/i=7\/i=8:=by omega
 rcases this with rfl|rfl|rfl|rfl|rfl|rfl|rfl|rfl|rfl<;>rfl
def nmT(i:Nat):List UInt8:=([116,114,117,115,116,102,108,111,119]:List UInt8).take i
def nmC(i:Nat):UInt8:=([116,114,117,115,116,102,108,111,119]:List UInt8).getD i 0
theorem ayg{i:Nat}(h:i<9):nmT (i+1)=nmT i++[nmC i]:=by
 have:i=0\/i=1\/i=2\/i=3\/i=4\/i=5\/i=6\/i=7\/i=8:=by omega
 rcases this with rfl|rfl|rfl|rfl|rfl|rfl|rfl|rfl|rfl<;>rfl
theorem a0l{i:Nat}(h:i<=9):(nmT i).length=i:=by
 have:i=0\/i=1\/i=2\/i=3\/i=4\/i=5\/i=6\/i=7\/i=8\/i=9:=by omega
 rcases this with rfl|rfl|rfl|rfl|rfl|rfl|rfl|rfl|rfl|rfl<;>rfl
def bkF(r:Rl):Nat->List UInt8
 |0=>[116,114,117,115,116,102,108,111,119]
 |1=>[116,114,117,115,116,102,108,111,119]++lsB r.gen
 |2=>([116,114,117,115,116,102,108,111,119]++lsB r.gen)++lsB r.pol.se
 |3=>(([116,114,117,115,116,102,108,111,119]++lsB r.gen)++lsB r.pol.se)++lsB r.pol.ta
 |_=>b0 r
def xc(r:Rl):List (List PV):=[[.vs (r.gen.map i1)],[.vs (r.pol.se.map i1)],[.vs (r.pol.ta.map i1)],[.vs [i1 r.pol.lv,i1 r.seats,i1 r.span,i1 r.quota]]]
theorem an1(r:Rl)(hr:da r=0)(h0:r.gen.length<=1000000)(h1:r.pol.se.length<=1000000)(h2:r.pol.ta.length<=1000000):Den Tryz.prog 40 [.agg (rl r)] [] (.tup [.str (zo r),.int .i64 0]) [] []:=by
 refine aa Tryz.func40 rfl Tryz.call40 Tryz.ntmps40 Tryz.results40 (by simp) (by kernel_rfl) [] (exts:=[]) rfl rfl ?_;have c0:=aiz r (by simp only[big];omega) (by simp only[big];omega) (by simp only[big];omega);rw[hr,dz]at c0;simp only[go_sem];refine call c0 [] ?_;simp only[go_sem];refine dm 5 99 5 1 false ?_ ?_ ?_ (by omega)
 ·refine loop Tryz.mixed 0 (fun i:Nat=>[(1,.ptr 1 0),(5,.os 99 (nmT i).length),(15,.mh 15)]) (fun i=>[(1,.cells (rl r)),(15,.si [116,114,117,115,116,102,108,111,119] i),(99,.arr 5 1 false ((nmT i).map u8))]) (fun i=>i<=9) (fun i=>9 - i) (by kernel_rfl) (Nat.zero_le _) ?_ ?_
  ·simp only[go_sem];exact⟨rfl,rfl⟩
  ·intro i hi;have hd:=a0r i;have hst:=ayg (i:=i);have hln:=a0l hi;by_cases h:i<9
   ·have hd:=hd h;have hst:=hst h
    have hw:IntKind.u8.wrap ((nmC i).toNat:Int)=((nmC i).toNat:Int):=by
     rw[IntKind.wrap_u8];have:=(nmC i).toNat_lt;omega
    have hn:(([116,114,117,115,116,102,108,111,119]:List UInt8).getD i 0)=nmC i:=rfl;rw[hn]at hd;simp only[go_sem,h,hd,hw];refine⟨by omega,i+1,⟨by omega,by omega⟩,?_,rfl,?_⟩
    ·rw[hst];simp
    ·rw[hst];simp[u8]
   ·have:i=9:=by omega
    subst this;have e9:nmT 9=[116,114,117,115,116,102,108,111,119]:=rfl;rw[e9];clear hd hst hln e9 h hi;simp only[go_sem];refine loop Tryz.mixed 0 (fun k:Nat=>[(5,.os 99 (bkF r k).length),(42,.vs (xc r)),(43,.int .i64 4),(44,.int .i64 k)]) (fun k=>[(99,.arr 5 1 false ((bkF r k).map u8))]) (fun k=>k<=4) (fun k=>4 - k) (by kernel_rfl) (Nat.zero_le _) ?_ ?_
    ·simp only[go_sem,xc,bkF]
    ·intro k hk;have cS:=ul (b0 r) (by simp only[b0,List.length_append,gu,List.length_cons,List.length_nil];omega);have d0:=kt (bkF r 0) r.gen (by simp[bkF]) (by omega);have d1:=kt (bkF r 1) r.pol.se (by simp only[bkF,List.length_append,gu,List.length_cons,List.length_nil];omega) (by omega);have d2:=kt (bkF r 2) r.pol.ta (by simp only[bkF,List.length_append,gu,List.length_cons,List.length_nil];omega) (by omega);have d3:=kt (bkF r 3) [r.pol.lv,r.seats,r.span,r.quota] (by simp only[bkF,List.length_append,gu,List.length_cons,List.length_nil];omega) (by simp);have s0:bkF r 0++lsB r.gen=bkF r 1:=rfl;have s1:bkF r 1++lsB r.pol.se=bkF r 2:=rfl;have s2:bkF r 2++lsB r.pol.ta=bkF r 3:=rfl;have s3:bkF r 3++lsB [r.pol.lv,r.seats,r.span,r.quota]=bkF r 4:=rfl;have b4:bkF r 4=b0 r:=rfl;rw[s0]at d0;rw[s1]at d1;rw[s2]at d2;rw[s3]at d3;rw[<-b4]at cS;have hv:zo r=sha (bkF r 4):=rfl;rw[hv];generalize bkF r=B at*;have:k=0\/k=1\/k=2\/k=3\/k=4:=by omega
     rcases this with rfl|rfl|rfl|rfl|rfl
     ·simp only[go_sem,xc];refine call d0 [99] ?_;simp only[go_sem,xc];exact⟨by rw[<-s0,List.length_append];omega,1,⟨by omega,by omega⟩,⟨rfl,by rw[ai]<;>omega⟩,rfl⟩
     ·simp only[go_sem,xc];refine call d1 [99] ?_;simp only[go_sem,xc];exact⟨by rw[<-s1,List.length_append];omega,2,⟨by omega,by omega⟩,⟨rfl,by rw[ai]<;>omega⟩,rfl⟩
     ·simp only[go_sem,xc];refine call d2 [99] ?_;simp only[go_sem,xc];exact⟨by rw[<-s2,List.length_append];omega,3,⟨by omega,by omega⟩,⟨rfl,by rw[ai]<;>omega⟩,rfl⟩
     ·simp only[go_sem,xc];refine call d3 [99] ?_;simp only[go_sem,xc];exact⟨by rw[<-s3,List.length_append];omega,4,⟨by omega,by omega⟩,⟨rfl,by rw[ai]<;>omega⟩,rfl⟩
     ·simp only[go_sem,xc];refine call cS [] ?_;simp only[go_sem]
 ·simp only[go_sem]
 ·simp only[go_sem]
def bt(r:Rl)(t:Tm)(c:Cs):List Int×Int:=if c.ep≠t.ep then([],46)else ofG r t.bea t.ros c
theorem at5{r:Rl}{t:Tm}{c:Cs}(h:t.bea.length=32):bt r t c=ny r t c:=by
 unfold bt ny;rw[apm h]
theorem a4b(r:Rl)(v:List UInt8)(l:List Int)(c:Cs):(ofG r v l c).1.length<=64:=by
 unfold ofG;split
 ·simp
 ·exact a38 _ _ _ _
theorem rb(r:Rl)(t:Tm)(c:Cs):(bt r t c).1.length<=64:=by
 unfold bt;split
 ·simp
 ·exact a4b _ _ _ _
def yv(r:Rl)(L:List Stm)(t:Tm)(c:Cs):Ct×Bool×Int:=
 if(bt r t c).2≠0 then(noC,false,(bt r t c).2)else(yh (aa0 L c (bt r t c).1),decide ((aa0 L c (bt r t c).1).length=1),ckS c (bt r t c).1)
theorem a3x{r:Rl}{L:List Stm}{t:Tm}{c:Cs}(h:t.bea.length=32):yv r L t c=a71 r L t c:=by
 unfold yv a71;rw[at5 h]
theorem akn(L:List Stm)(c:Cs)(s:List Int):(aa0 L c s).length<=L.length:=by
 unfold aa0;split
 ·exact ajg
 ·simp
structure RlB(r:Rl):Prop where
 g:r.gen.length<=1000000
 s:r.pol.se.length<=1000000
 t:r.pol.ta.length<=1000000
theorem y6(r:Rl)(t:Tm)(c:Cs)(hr:RlB r)(hl:big t.ros.length):Den Tryz.prog 35 [.agg (rl r),.agg (tm t),.agg (cs c)] [] (.tup [.vs ((bt r t c).1.map i1),.int .i64 (bt r t c).2]) [] []:=by
 refine aa Tryz.func35 rfl Tryz.call35 Tryz.ntmps35 Tryz.results35 (by simp) (by kernel_rfl) [] (exts:=[]) rfl rfl ?_;have c1:=arx r t.bea t.ros c (by have:=hr.g;simp only[big];omega) (by have:=hr.s;simp only[big];omega) (by have:=hr.t;simp only[big];omega) hl;rw[dt,dz]at c1;have hm:bt r t c=if c.ep≠t.ep then([],46)else ofG r t.bea t.ros c:=rfl
 generalize bt r t c=m at*;by_cases h:c.ep=t.ep
 ·rw[if_neg (by simpa using h)]at hm;rw[<-hm]at c1;simp only[go_sem,h];rw[h]at c1;refine call c1 [] ?_;simp only[go_sem]
 ·rw[if_pos h]at hm;subst hm;simp only[go_sem,h,List.map_nil]
theorem zi(r:Rl)(t:Tm)(c:Cs)(hr:RlB r)(hl:big t.ros.length):Den Tryz.prog 34 [.agg (rl r),.agg (tm t),.agg (cs c)] [] (.tup [.vs ((bt r t c).1.map i1),.int .i64 (bt r t c).2]) [] []:=by
 refine aa Tryz.func34 rfl Tryz.call34 Tryz.ntmps34 Tryz.results34 (by simp) (by kernel_rfl) [] (exts:=[]) rfl rfl ?_;have c1:=a2j r t.bea t.ros c (by have:=hr.g;simp only[big];omega) (by have:=hr.s;simp only[big];omega) (by have:=hr.t;simp only[big];omega) hl;rw[dt,dz]at c1;have hm:bt r t c=if c.ep≠t.ep then([],46)else ofG r t.bea t.ros c:=rfl
 generalize bt r t c=m at*;by_cases h:c.ep=t.ep
 ·rw[if_neg (by simpa using h)]at hm;rw[<-hm]at c1;simp only[go_sem,h];rw[h]at c1;refine call c1 [] ?_;simp only[go_sem]
 ·rw[if_pos h]at hm;subst hm;simp only[go_sem,h,List.map_nil]
theorem abm(r:Rl)(L:List Stm)(t:Tm)(c:Cs)(hr:RlB r)(hl:big t.ros.length)(hL:L.length<=900)(hs: ∀s∈L,uv s):Den Tryz.prog 27 [.agg (rl r),.vs (L.map sm),.agg (tm t),.agg (cs c)] [] (.tup [.agg (ct (yv r L t c).1),.bool (yv r L t c).2.1,.int .i64 (yv r L t c).2.2]) [] []:=by
 refine aa Tryz.func27 rfl Tryz.call27 Tryz.ntmps27 Tryz.results27 (by simp) (by kernel_rfl) [] (exts:=[]) rfl rfl ?_;have hsl:=rb r t c;have c1:=y6 r t c hr hl;have hal:=akn L c (bt r t c).1;have c2:=ato L c (bt r t c).1 hL hs (by simp only[big];omega) (aa0 L c (bt r t c).1) rfl (by simp only[big];omega);have hm:yv r L t c=if(bt r t c).2≠0 then(noC,false,(bt r t c).2)else(yh (aa0 L c (bt r t c).1),decide ((aa0 L c (bt r t c).1).length=1),ckS c (bt r t c).1):=rfl
 generalize yv r L t c=m at*;generalize bt r t c=S at*;obtain⟨s,k⟩:=S;simp only at hm c1 c2;generalize yh (aa0 L c s)=x at*;generalize decide ((aa0 L c s).length=1)=b at*;generalize ckS c s=e at*;rw[dt,dz,jd]at c1;rw[dt,il]at c2;simp only[go_sem];refine call c1 [] ?_;by_cases h:k=0
 ·rw[if_neg (by simpa using h)]at hm;subst hm;simp only[go_sem,h];refine call c2 [] ?_;simp only[go_sem]
 ·rw[if_pos h]at hm;subst hm;simp only[go_sem,h,noC,List.map_nil]
theorem akg(r:Rl)(L:List Stm)(t:Tm)(c:Cs)(hr:RlB r)(hl:big t.ros.length)(hL:L.length<=900)(hs: ∀s∈L,uv s):Den Tryz.prog 36 [.agg (rl r),.vs (L.map sm),.agg (tm t),.agg (cs c)] [] (.tup [.agg (ct (yv r L t c).1),.bool (yv r L t c).2.1,.int .i64 (yv r L t c).2.2]) [] []:=by
 refine aa Tryz.func36 rfl Tryz.call36 Tryz.ntmps36 Tryz.results36 (by simp) (by kernel_rfl) [] (exts:=[]) rfl rfl ?_;have hsl:=rb r t c;have c1:=zi r t c hr hl;have hal:=akn L c (bt r t c).1;have c2:=a31 L c (bt r t c).1 hL hs (by omega) (aa0 L c (bt r t c).1) rfl (by simp only[big];omega);have hm:yv r L t c=if(bt r t c).2≠0 then(noC,false,(bt r t c).2)else(yh (aa0 L c (bt r t c).1),decide ((aa0 L c (bt r t c).1).length=1),ckS c (bt r t c).1):=rfl
 generalize yv r L t c=m at*;generalize bt r t c=S at*;obtain⟨s,k⟩:=S;simp only at hm c1 c2;generalize yh (aa0 L c s)=x at*;generalize decide ((aa0 L c s).length=1)=b at*;generalize ckS c s=e at*;rw[dt,dz,jd]at c1;rw[dt,il]at c2;simp only[go_sem];refine call c1 [] ?_;by_cases h:k=0
 ·rw[if_neg (by simpa using h)]at hm;subst hm;simp only[go_sem,h];refine call c2 [] ?_;simp only[go_sem]
 ·rw[if_pos h]at hm;subst hm;simp only[go_sem,h,noC,List.map_nil]
theorem me(v:List UInt8)(ep:Int)(l:List Int)(hv:v.length=32)(h0:0<=ep)(h1:ep<40)(hl:l.length<=64):Den Tryz.prog 25 [.str v,.int .i64 ep,.vs (l.map i1)] [] (.tup [.str (j3 v ep l),.int .i64 0]) [] []:=by
 refine aa Tryz.func25 rfl Tryz.call25 Tryz.ntmps25 Tryz.results25 (by simp) (by kernel_rfl) [] (exts:=[]) rfl rfl ?_;have g1:(v.length:Int)=32:=by omega
 have g2: ¬ep<0:=by omega
 have g3: ¬(40:Int)<=ep:=by omega
 have g4: ¬(64:Int)<(l.length:Int):=by omega
 simp only[go_sem,g1,g2,g3,g4];refine⟨by omega,call (mz v ep (by simp only[small];omega)) [20] ?_⟩;simp only[go_sem];refine⟨by omega,call (m5 (v++be8 ep) l (by simp only[List.length_append,aw];omega) (by omega)) [20] ?_⟩;simp only[go_sem];refine⟨by omega,call (aav ((v++be8 ep)++lsB l) (by simp only[List.length_append,gu,aw];omega)) [] ?_⟩;simp only[go_sem,j3]
def noT:Tm:=⟨0,[],[],false,noC⟩
def gd(t:Tm):Tm×Bool:=if t.dec=true/\t.ep<39/\(ut t.nx.li).2=0 then(⟨t.ep+1,(ut t.nx.li).1,j3 t.bea t.ep t.nx.li,false,noC⟩,true)else(noT,false)
theorem anu(t:Tm)(h0:0<=t.ep)(hv:t.bea.length=32)(hn:big t.nx.li.length):Den Tryz.prog 42 [.agg (tm t)] [] (.tup [.agg (tm (gd t).1),.bool (gd t).2]) [] []:=by
 refine aa Tryz.func42 rfl Tryz.call42 Tryz.ntmps42 Tryz.results42 (by simp) (by kernel_rfl) [] (exts:=[]) rfl rfl ?_;have hm:gd t=if t.dec=true/\t.ep<39/\(ut t.nx.li).2=0 then(⟨t.ep+1,(ut t.nx.li).1,j3 t.bea t.ep t.nx.li,false,noC⟩,true)else(noT,false):=rfl
 generalize gd t=m at*
 cases a1:t.dec
 ·rw[if_neg (fun h=>by rw[a1]at h;cases h.1)]at hm;subst hm;simp only[go_sem,a1,noT,noC,List.map_nil]
 by_cases a2:39<=t.ep
 ·rw[if_neg (fun h=>by omega)]at hm;subst hm;simp only[go_sem,a1,a2,noT,noC,List.map_nil]
 simp only[go_sem,a1,a2];refine call (aw4 t.nx.li hn) [] ?_;by_cases a3:js t.nx.li
 rotate_left
 ·rw[fk a3]at hm ⊢;rw[if_neg (fun h=>by cases h.2.2)]at hm;subst hm;simp only[go_sem,noT,noC,List.map_nil]
 rw[gw a3]at hm ⊢;rw[if_pos ⟨a1,by omega,rfl⟩]at hm;subst hm;have cn:=at8 t.bea t.ep t.nx.li hv h0 (by omega) (by have:=a3.1;omega);have w:IntKind.i64.wrap (t.ep+1)=t.ep+1:=by rw[ai]<;>omega
 simp only[go_sem];refine call cn [] ?_;simp only[go_sem,w,noC,List.map_nil]
def dd(r:Rl)(L:List Stm):List Tm×Int:=if da r≠0 then([],da r)else(dc r L,0)
theorem aed{r:Rl}{L:List Stm}(h:da r=0):dd r L=(dc r L,0):=if_neg (by simp[h])
theorem ae9{r:Rl}{L:List Stm}{t:Tm}{out X:List Tm}(hl:out.length<40)(hX:out++cz r L (40 - out.length) t=X):
  X=(out++[bd r L t])++(match iu (bd r L t)with|none=>[]|some u=>cz r L (40 - (out.length+1)) u):=by
 rw[<-hX,show 40 - out.length=40 - (out.length+1)+1 by omega];simp only[cz,List.append_assoc,List.singleton_append]
 cases iu (bd r L t)<;>rfl
theorem ang{r:Rl}{L:List Stm}{t:Tm}{out X:List Tm}(ht:OkT t)(he:t.ep=out.length)(hX:out++cz r L (40 - out.length) t=X):
  ((gd (bd r L t)).2=true->OkT (gd (bd r L t)).1/\(gd (bd r L t)).1.ep=out.length+1/\(gd (bd r L t)).1.dec=false/\(gd (bd r L t)).1.nx=noC/\(out++[bd r L t])++cz r L (40 - (out.length+1)) (gd (bd r L t)).1=X)/\
  ((gd (bd r L t)).2=false->(gd (bd r L t)).1=noT/\out++[bd r L t]=X):=by
 have hlt:=ht.hi;have hc:=ae9 (by omega) hX;have hep:(bd r L t).ep=t.ep:=rfl;generalize hf:bd r L t=f at*;unfold gd;split
 ·rename_i h;have ha:iu f=some ⟨f.ep+1,(ut f.nx.li).1,j3 f.bea f.ep f.nx.li,false,noC⟩:=if_pos ⟨h.1,h.2.2⟩;refine⟨fun _=>⟨?_,by show f.ep+1=_;omega,rfl,rfl,?_⟩,fun h=>by cases h⟩
  ·exact xl (hf ▸ qp ht) ha h.2.1
  ·rw[hc,ha]
 ·rename_i h;refine⟨fun h=>(by cases h),fun _=>⟨rfl,?_⟩⟩;rw[hc]
  cases ha:iu f with
  |none=>simp
  |some u=>
   obtain⟨h1,h2,_⟩:=ot ha;have: ¬f.ep<39:=fun h3=>h ⟨h1,h3,h2⟩;have:out.length=39:=by omega
   rw[this];simp[cz]
theorem ais{r:Rl}{L:List Stm}{t:Tm}(hr:da r=0)(ht:OkT t):yv r L t ⟨t.ep,1,0,0⟩=((bd r L t).nx,(bd r L t).dec,0):=(a3x ht.bea).trans (a17 hr ht)
theorem aar{r:Rl}{L:List Stm}{t:Tm}:re (bd r L t).nx:=by
 show re (yh (stA r L t));exact ak8
structure TSt where
 t:Tm
 out:List Tm
 more:Bool
def zN:List Tm->PV
 |[]=> .nils
 |_::_=> .vs []
theorem a4z:zN []= .nils:=rfl
theorem a80(o:Tm)(l:List Tm):zN (o::l)= .vs []:=rfl
theorem a8o: ∀o:List Tm,zN o= .nils\/zN o= .vs []
 |[]=> .inl rfl
 |_::_=> .inr rfl
theorem az7(o:List Tm)(x:Tm):zN (o++[x])= .vs []:=by cases o<;>rfl
theorem rv(r:Rl)(L:List Stm)(hr:RlB r)(hL:L.length<=900)(hs: ∀s∈L,uv s):Den Tryz.prog 15 [.agg (rl r),.vs (L.map sm)] [] (.tup [.vs ((dd r L).1.map tm),.int .i64 (dd r L).2]) [] []:=by
 refine aa Tryz.func15 rfl Tryz.call15 Tryz.ntmps15 Tryz.results15 (by simp) (by kernel_rfl) [] (exts:=[]) rfl rfl ?_;have c0:=aiz r (by have:=hr.g;simp only[big];omega) (by have:=hr.s;simp only[big];omega) (by have:=hr.t;simp only[big];omega);have c0':=c0;rw[dz]at c0;have hE:dd r L=if da r≠0 then([],da r)else(dc r L,0):=rfl
 generalize dd r L=m at*;simp only[go_sem];refine call c0 [] ?_;by_cases a1:da r=0
 rotate_left
 ·rw[if_pos a1]at hE;subst hE;simp only[go_sem,a1,List.map_nil]
 rw[if_neg (by simpa using a1)]at hE;subst hE;have c1:=an1 r a1 hr.g hr.s hr.t;rw[dz]at c1;have hg:=(kz (ag9 a1).1).2.2.1;have hg0:0<r.gen.length:=List.length_pos_iff.2 hg;simp only[go_sem,a1];refine call c1 [] ?_;simp only[go_sem];refine call (aag r.gen hg0 (by have:=hr.g;omega)) [] ?_;simp only[go_sem];refine dm 9 99 27 6 false ?_ ?_ ?_ (by omega)
 ·refine loop Tryz.mixed (⟨mb r,[],true⟩:TSt) (fun s:TSt=>[(1,.vs (L.map sm)),(2,.ptr 2 0),(9,.os 99 s.out.length),(10,.ptr 10 0),(11,.bool s.more)]) (fun s=>[(2,.cells (rl r)),(10,.cells [.int .i64 s.t.ep,.vs (s.t.ros.map i1),.str s.t.bea,.bool s.t.dec,zN s.out,zN s.out]),(99,.arr 27 6 false (s.out.map tm))])
   (fun s=>s.out.length<=40/\(s.more=true->OkT s.t/\s.t.ep=s.out.length/\s.t.dec=false/\s.t.nx=noC/\s.out++cz r L (40 - s.out.length) s.t=dc r L)/\(s.more=false->s.out=dc r L)) (fun s=>41 - s.out.length) (by kernel_rfl) ⟨by simp,fun _=>⟨uk a1,rfl,rfl,rfl,rfl⟩,fun h=>by cases h⟩ ?_ ?_
  ·simp only[go_sem,a4z,List.map_nil,List.length_nil];exact⟨rfl,rfl,rfl,rfl⟩
  ·rintro⟨t,out,more⟩ ⟨hl,h1,h2⟩;simp only at hl h1 h2 ⊢
   cases more
   ·have h2:=h2 rfl;subst h2;simp only[go_sem]
   ·obtain⟨ht,he,hd,hn,hX⟩:=h1 rfl;have hlt:=ht.hi;have cd:=akg r L t ⟨t.ep,1,0,0⟩ hr (by have:=ht.len;simp only[big];omega) hL hs;rw[ais a1 ht]at cd;have st:=ang ht he hX;have hfe:bd r L t=⟨t.ep,t.ros,t.bea,(bd r L t).dec,(bd r L t).nx⟩:=rfl;have cf:=anu (bd r L t) ht.lo ht.bea aar.1;have htm:tm t=[.int .i64 t.ep,.vs (t.ros.map i1),.str t.bea,.bool t.dec,.vs [],.vs []]:=by rw[jd,hn];rfl
    rw[htm,dz,dt,il]at cd;rw[jd]at cf;generalize bd r L t=f at*;have q1:f.ep=t.ep:=by rw[hfe]
    have q2:f.ros=t.ros:=by rw[hfe]
    have q3:f.bea=t.bea:=by rw[hfe]
    rw[q1,q2,q3,jd]at cf;generalize gd f=g at*;obtain⟨u,b⟩:=g;simp only at st cf cd
    have hun:u.nx=noC:=by
     cases b
     ·rw[(st.2 rfl).1];rfl
     ·exact(st.1 rfl).2.2.2.1
    have hfr:tm f=[.int .i64 t.ep,.vs (t.ros.map i1),.str t.bea,.bool f.dec,.vs (f.nx.li.map i1),.vs (f.nx.pi.map pn)]:=by rw[jd,q1,q2,q3]
    rw[hun,show noC.li.map i1=[] from rfl,show noC.pi.map pn=[] from rfl]at cf;have hlo:out.length<40:=by omega
    rcases a8o out with hz|hz
    ·simp only[go_sem,hz];refine call cd [] ?_;simp only[go_sem];refine⟨by omega,?_⟩;refine call cf [] ?_;simp only[go_sem];refine⟨⟨u,out++[f],b⟩,⟨⟨by simp only[List.length_append,List.length_cons,List.length_nil];omega,fun hb=> ?_,fun hb=> ?_⟩,by simp only[List.length_append,List.length_cons,List.length_nil];omega⟩,?_⟩
     ·obtain⟨g1,g2,g3,g4,g5⟩:=st.1 hb;exact⟨g1,by rw[g2];simp,g3,g4,by rw[List.length_append];exact g5⟩
     ·exact(st.2 hb).2
     ·simp only[go_sem,az7,List.length_append,List.map_append,List.map_cons,List.map_nil,hfr]
      done
    ·simp only[go_sem,hz];refine call cd [] ?_;simp only[go_sem];refine⟨by omega,?_⟩;refine call cf [] ?_;simp only[go_sem];refine⟨⟨u,out++[f],b⟩,⟨⟨by simp only[List.length_append,List.length_cons,List.length_nil];omega,fun hb=> ?_,fun hb=> ?_⟩,by simp only[List.length_append,List.length_cons,List.length_nil];omega⟩,?_⟩
     ·obtain⟨g1,g2,g3,g4,g5⟩:=st.1 hb;exact⟨g1,by rw[g2];simp,g3,g4,by rw[List.length_append];exact g5⟩
     ·exact(st.2 hb).2
     ·simp only[go_sem,az7,List.length_append,List.map_append,List.map_cons,List.map_nil,hfr]
      done
 ·simp only[go_sem]
 ·simp only[go_sem]
theorem tc{r:Rl}{L:List Stm}{t:Tm}{out X:List Tm}(ht:OkT t)(he:t.ep=out.length)(hX:out++cz r L (40 - out.length) t=X):
  ((bd r L t).dec=false->out++[bd r L t]=X)/\(¬js (bd r L t).nx.li->out++[bd r L t]=X)/\
  ((bd r L t).dec=true->js (bd r L t).nx.li->(t.ep<39->OkT ⟨t.ep+1,bm (gl (bd r L t).nx.li) 64,j3 t.bea t.ep (bd r L t).nx.li,false,noC⟩)/\
   (out++[bd r L t])++cz r L (40 - (out.length+1)) ⟨t.ep+1,bm (gl (bd r L t).nx.li) 64,j3 t.bea t.ep (bd r L t).nx.li,false,noC⟩=X):=by
 have hlt:=ht.hi;have hc:=ae9 (by omega) hX;refine⟨fun h=> ?_,fun h=> ?_,fun h1 h2=> ?_⟩
 ·have ha:iu (bd r L t)=none:=if_neg fun hh=>by rw[h]at hh;cases hh.1
  rw[hc,ha];simp
 ·have ha:iu (bd r L t)=none:=if_neg fun hh=>by rw[fk h]at hh;cases hh.2
  rw[hc,ha];simp
 ·have hl:=gw h2
  have ha:iu (bd r L t)=some ⟨t.ep+1,bm (gl (bd r L t).nx.li) 64,j3 t.bea t.ep (bd r L t).nx.li,false,noC⟩:=by
   unfold iu;rw[if_pos ⟨h1,by rw[hl]⟩,hl];rfl
  refine⟨fun h39=>xl (qp ht) ha h39,?_⟩;rw[hc,ha]
structure RSt where
 t:Tm
 out:List Tm
theorem zl(r:Rl)(L:List Stm)(hr:RlB r)(hL:L.length<=900)(hs: ∀s∈L,uv s):Den Tryz.prog 8 [.agg (rl r),.vs (L.map sm)] [] (.tup [.vs ((dd r L).1.map tm),.int .i64 (dd r L).2]) [] []:=by
 refine aa Tryz.func8 rfl Tryz.call8 Tryz.ntmps8 Tryz.results8 (by simp) (by kernel_rfl) [] (exts:=[]) rfl rfl ?_;have c0:=qt r (by have:=hr.g;simp only[big];omega) (by have:=hr.s;simp only[big];omega) (by have:=hr.t;simp only[big];omega);rw[dz]at c0;have hE:dd r L=if da r≠0 then([],da r)else(dc r L,0):=rfl
 generalize dd r L=m at*;simp only[go_sem];refine call c0 [] ?_;by_cases a1:da r=0
 rotate_left
 ·rw[if_pos a1]at hE;subst hE;simp only[go_sem,a1,List.map_nil]
 rw[if_neg (by simpa using a1)]at hE;subst hE;have c1:=vj r a1 hr.g hr.s hr.t;rw[dz]at c1;have hgl:=hr.g;simp only[go_sem,a1];refine call c1 [] ?_;simp only[go_sem];refine⟨by omega,?_⟩;refine dm 10 99 27 6 false ?_ ?_ ?_ (by omega)
 ·refine loop Tryz.mixed (⟨mb r,[]⟩:RSt) (fun s:RSt=>[(1,.vs (L.map sm)),(2,.ptr 2 0),(7,.str s.t.bea),(9,.vs (s.t.ros.map i1)),(10,.os 99 s.out.length),(11,.int .i64 s.t.ep)]) (fun s=>[(2,.cells (rl r)),(99,.arr 27 6 false (s.out.map tm))])
   (fun s=>s.out.length<=40/\s.t.ep=s.out.length/\(s.t.ep<40->OkT s.t)/\s.out++cz r L (40 - s.out.length) s.t=dc r L) (fun s=>41 - s.out.length) (by kernel_rfl) ⟨by simp,rfl,fun _=>uk a1,rfl⟩ ?_ ?_
  ·simp only[go_sem,List.map_nil,List.length_nil];exact⟨rfl,rfl,rfl⟩
  ·rintro⟨t,out⟩ ⟨hl,he,hok,hX⟩;simp only at hl he hok hX ⊢;by_cases hlt:t.ep<40
   rotate_left
   ·have h40:out.length=40:=by omega
    rw[h40]at hX;have:out=dc r L:=by rw[<-hX];simp[cz]
    subst this;simp only[go_sem,hlt]
   have ht:=hok hlt;have cd:=abm r L ⟨t.ep,t.ros,t.bea,false,noC⟩ ⟨t.ep,1,0,0⟩ hr (by have:=ht.len;simp only[big];omega) hL hs;have hdg:yv r L ⟨t.ep,t.ros,t.bea,false,noC⟩ ⟨t.ep,1,0,0⟩=((bd r L t).nx,(bd r L t).dec,0):=ais (t:=⟨t.ep,t.ros,t.bea,false,noC⟩) a1 ⟨ht.lo,ht.hi,ht.ros,ht.bea⟩;rw[hdg]at cd;have st:=tc ht he hX;have hfe:bd r L t=⟨t.ep,t.ros,t.bea,(bd r L t).dec,(bd r L t).nx⟩:=rfl;have hfb:=(aar (r:=r) (L:=L) (t:=t)).1;have hep:(bd r L t).ep=t.ep:=rfl;have hro:=qy t.ep;rw[dt]at hro;rw[dz,dt,il,jd]at cd;simp only[noC,List.map_nil]at cd;generalize bd r L t=f at*;have hfr:tm f=[.int .i64 t.ep,.vs (t.ros.map i1),.str t.bea,.bool f.dec,.vs (f.nx.li.map i1),.vs (f.nx.pi.map pn)]:=by rw[hfe,jd]
   have fin:out.length+1<=40:=by omega
   have tl: ∀M,out++[f]=M->out.map tm++[tm f]=M.map tm:=fun M h=>by rw[<-h];simp
   rw[hfr]at tl
   cases hd:f.dec
   ·have hX2:=st.1 hd;rw[hd]at cd tl;simp only[go_sem,hlt];refine call hro [] ?_;simp only[go_sem];refine call cd [] ?_;simp only[go_sem];exact⟨ae (by kernel_rfl),ae (by kernel_rfl),by omega,tl _ hX2⟩
   ·rw[hd]at cd tl;simp only[go_sem,hlt];refine call hro [] ?_;simp only[go_sem];refine call cd [] ?_;simp only[go_sem];refine⟨ae (by kernel_rfl),ae (by kernel_rfl),by omega,?_⟩;refine call (ll f.nx.li hfb) [] ?_;by_cases hk:js f.nx.li
    rotate_left
    ·rw[fk hk];simp only[go_sem];exact tl _ (st.2.1 hk)
    rw[gw hk];obtain⟨s1,s2⟩:=st.2.2 hd hk;have w:IntKind.i64.wrap (t.ep+1)=t.ep+1:=by rw[ai]<;>omega
    have cn:=me t.bea t.ep f.nx.li ht.bea ht.lo hlt (by have:=hk.1;omega);simp only[go_sem];refine call cn [] ?_;simp only[go_sem,w];refine⟨⟨⟨t.ep+1,bm (gl f.nx.li) 64,j3 t.bea t.ep f.nx.li,false,noC⟩,out++[f]⟩,⟨⟨by simp only[List.length_append,List.length_singleton];omega,by simp only[List.length_append,List.length_singleton];omega,fun h=>s1 (by simp only at h;omega),by rw[List.length_append];exact s2⟩,by simp only[List.length_append,List.length_singleton];omega⟩,?_⟩;simp only[go_sem,List.length_append];exact tl _ rfl
 ·simp only[go_sem]
 ·simp only[go_sem]
def atX(r:Rl)(L:List Stm)(e:Int):Tm×Int:=if(dd r L).2≠0 then(noT,(dd r L).2)else if e<0\/((dd r L).1.length:Int)<=e then(noT,46)else(el (dd r L).1 e.toNat,0)
theorem ri(r:Rl)(L:List Stm):(dd r L).1.length<=40:=by
 unfold dd;split
 ·simp
 ·exact zg r L
theorem a0q(r:Rl)(L:List Stm)(e:Int)(hr:RlB r)(hL:L.length<=900)(hs: ∀s∈L,uv s):Den Tryz.prog 33 [.agg (rl r),.vs (L.map sm),.int .i64 e] [] (.tup [.agg (tm (atX r L e).1),.int .i64 (atX r L e).2]) [] []:=by
 refine aa Tryz.func33 rfl Tryz.call33 Tryz.ntmps33 Tryz.results33 (by simp) (by kernel_rfl) [] (exts:=[]) rfl rfl ?_;have c1:=zl r L hr hL hs;have hl:=ri r L;have hQ:atX r L e=if(dd r L).2≠0 then(noT,(dd r L).2)else if e<0\/((dd r L).1.length:Int)<=e then(noT,46)else(el (dd r L).1 e.toNat,0):=rfl
 generalize atX r L e=q at*;generalize dd r L=m at*;obtain⟨T,k⟩:=m;simp only at c1 hl hQ;rw[dz]at c1;simp only[go_sem];refine call c1 [] ?_;by_cases h0:k=0
 rotate_left
 ·rw[if_pos h0]at hQ;subst hQ;simp only[go_sem,h0,noT,noC,List.map_nil]
 rw[if_neg (by simpa using h0)]at hQ;by_cases h1:e<0
 ·rw[if_pos (.inl h1)]at hQ;subst hQ;simp only[go_sem,h0,h1,noT,noC,List.map_nil]
 by_cases h2:(T.length:Int)<=e
 ·rw[if_pos (.inr h2)]at hQ;subst hQ;simp only[go_sem,h0,h1,h2,noT,noC,List.map_nil]
 rw[if_neg (by omega)]at hQ;subst hQ;obtain⟨n,rfl⟩: ∃n:Nat,e=n:=⟨e.toNat,by omega⟩;have h3:n<T.length:=by omega
 simp only[go_sem,h0,h1,h2,h3]
theorem a1o(r:Rl)(L:List Stm)(e:Int)(hr:RlB r)(hL:L.length<=900)(hs: ∀s∈L,uv s):Den Tryz.prog 32 [.agg (rl r),.vs (L.map sm),.int .i64 e] [] (.tup [.agg (tm (atX r L e).1),.int .i64 (atX r L e).2]) [] []:=by
 refine aa Tryz.func32 rfl Tryz.call32 Tryz.ntmps32 Tryz.results32 (by simp) (by kernel_rfl) [] (exts:=[]) rfl rfl ?_;have c1:=rv r L hr hL hs;have hl:=ri r L;have hQ:atX r L e=if(dd r L).2≠0 then(noT,(dd r L).2)else if e<0\/((dd r L).1.length:Int)<=e then(noT,46)else(el (dd r L).1 e.toNat,0):=rfl
 generalize atX r L e=q at*;generalize dd r L=m at*;obtain⟨T,k⟩:=m;simp only at c1 hl hQ;rw[dz]at c1;simp only[go_sem];refine call c1 [] ?_;by_cases h0:k=0
 rotate_left
 ·rw[if_pos h0]at hQ;subst hQ;simp only[go_sem,h0,noT,noC,List.map_nil]
 rw[if_neg (by simpa using h0)]at hQ;by_cases h1:e<0
 ·rw[if_pos (.inl h1)]at hQ;subst hQ;simp only[go_sem,h0,h1,noT,noC,List.map_nil]
 by_cases h2:(T.length:Int)<=e
 ·rw[if_pos (.inr h2)]at hQ;subst hQ;simp only[go_sem,h0,h1,h2,noT,noC,List.map_nil]
 rw[if_neg (by omega)]at hQ;subst hQ;obtain⟨n,rfl⟩: ∃n:Nat,e=n:=⟨e.toNat,by omega⟩;have h3:n<T.length:=by omega
 simp only[go_sem,h0,h1,h2,h3]
def aju(t:Tm):Prop:=big t.ros.length/\re t.nx
theorem azu{a b:Tm}(h1:a.ep=b.ep)(h2:a.bea=b.bea)(h3:a.dec=b.dec)(h4:a.ros=b.ros)(h5:a.nx=b.nx):a=b:=by
 cases a;cases b;simp_all
theorem ae5(a b:Tm)(ha:aju a)(hb:aju b):Den Tryz.prog 37 [.agg (tm a),.agg (tm b)] [] (.bool (decide (a=b))) [] []:=by
 refine aa Tryz.func37 rfl Tryz.call37 Tryz.ntmps37 Tryz.results37 (by simp) (by kernel_rfl) [] (exts:=[]) rfl rfl ?_;have u4:Tryz.prog.underlying 4=some .bool:=by kernel_rfl
 have no: ∀{p:Prop} (_:a=b->p),¬p->decide (a=b)=false:=fun h hn=>decide_eq_false fun e=>hn (h e);by_cases h1:a.ep=b.ep
 rotate_left
 ·rw[no (fun e=>by rw[e]) h1];simp only[go_sem,h1]
 by_cases h2:a.bea=b.bea
 rotate_left
 ·rw[no (fun e=>by rw[e]) h2];simp only[go_sem,h1,h2]
 by_cases h3:a.dec=b.dec
 rotate_left
 ·rw[no (fun e=>by rw[e]) h3];simp only[go_sem,h1,h2,h3,u4]
 have ci:=ml a.ros b.ros ha.1 hb.1;have co:=gp a.nx b.nx ha.2.1 ha.2.2 hb.2.1 hb.2.2;rw[il,il]at co;simp only[go_sem,h1,h2,h3,u4];refine call ci [] ?_;by_cases h4:a.ros=b.ros
 rotate_left
 ·rw[no (fun e=>by rw[e]) h4];simp only[go_sem,h4]
 simp only[go_sem,h4];refine call co [] ?_;by_cases h5:a.nx=b.nx
 ·rw[decide_eq_true (azu h1 h2 h3 h4 h5),(j7 _ _).2 h5];simp only[go_sem]
 ·rw[no (fun e=>by rw[e]) h5];have: ¬j2 a.nx b.nx=0:=fun e=>h5 ((j7 _ _).1 e);simp only[go_sem,this]
theorem ani(a b:List Tm)(ha:big a.length)(hb:big b.length)(ga: ∀x∈a,aju x)(gb: ∀x∈b,aju x):Den Tryz.prog 30 [.vs (a.map tm),.vs (b.map tm)] [] (.bool (decide (a=b))) [] []:=by
 refine aa Tryz.func30 rfl Tryz.call30 Tryz.ntmps30 Tryz.results30 (by simp) (by kernel_rfl) [] (exts:=[]) rfl rfl ?_;by_cases h0:a.length=b.length
 rotate_left
 ·have h1: ¬(a.length:Int)=(b.length:Int):=by omega
  have h2: ¬a=b:=fun e=>h0 (by rw[e]);simp only[go_sem,h1,h2]
 simp only[go_sem,h0];refine loop Tryz.mixed 0 (fun i:Nat=>[(0,.vs (a.map tm)),(1,.vs (b.map tm)),(5,.int .i64 i)]) (fun _=>[]) (fun i=>i<=a.length/\a.take i=b.take i) (fun i=>a.length - i) (by kernel_rfl) ⟨Nat.zero_le _,by simp⟩ ?_ ?_
 ·simp only[go_sem]
 ·rintro i ⟨hi,he⟩;by_cases hlt:i<a.length
  ·have h1:(i:Int)<(b.length:Int):=by omega
   have hlt2:i<b.length:=by omega
   have cs:=ae5 (el a i) (el b i) (ga _ (bz hlt)) (gb _ (bz hlt2));rw[jd,jd]at cs;simp only[go_sem,h0,h1,hlt,hlt2];refine call cs [] ?_;by_cases z:el a i=el b i
   ·simp only[go_sem,z];refine⟨ae (by kernel_rfl),i+1,⟨⟨by omega,by rw[c9 hlt,c9 hlt2,he,z]⟩,by omega⟩,by rw[ai]<;>omega⟩
   ·have h2: ¬a=b:=fun e=>z (by rw[e]);simp only[go_sem,z,h2];exact ae (by kernel_rfl)
  ·have h1: ¬(i:Int)<(b.length:Int):=by omega
   have h2:a=b:=by
    rw[List.take_of_length_le (by omega),List.take_of_length_le (by omega)]at he;exact he
   simp only[go_sem,h0,h1];rw[decide_eq_true h2]
theorem aoz(a b:List Int)(ha:big a.length)(hb:big b.length):Den Tryz.prog 76 [.vs (a.map i1),.vs (b.map i1)] [] (.bool (decide (a=b))) [] []:=by
 refine aa Tryz.func76 rfl Tryz.call76 Tryz.ntmps76 Tryz.results76 (by simp) (by kernel_rfl) [] (exts:=[]) rfl rfl ?_;by_cases h0:a.length=b.length
 rotate_left
 ·have h1: ¬(a.length:Int)=(b.length:Int):=by omega
  have h2: ¬a=b:=fun e=>h0 (by rw[e]);simp only[go_sem,h1,h2]
 have h00:(a.length:Int)=(b.length:Int):=by omega
 simp only[go_sem,h00];refine loop Tryz.mixed 0 (fun i:Nat=>[(0,.vs (a.map i1)),(1,.vs (b.map i1)),(12,.int .i64 a.length),(13,.int .i64 i)]) (fun _=>[]) (fun i=>i<=a.length/\a.take i=b.take i) (fun i=>a.length - i) (by kernel_rfl) ⟨Nat.zero_le _,by simp⟩ ?_ ?_
 ·simp only[go_sem,h00]
 ·rintro i ⟨hi,he⟩;by_cases hlt:i<a.length
  ·have h1:(i:Int)<(a.length:Int):=by omega
   have hlt2:i<b.length:=by omega
   by_cases z:el a i=el b i
   ·simp only[go_sem,h1,hlt,hlt2,z];refine⟨ae (by kernel_rfl),i+1,⟨⟨by omega,by rw[c9 hlt,c9 hlt2,he,z]⟩,by omega⟩,by rw[ai]<;>omega⟩
   ·have h2: ¬a=b:=fun e=>z (by rw[e]);simp only[go_sem,h1,hlt,hlt2,z,h2];exact ae (by kernel_rfl)
  ·have h1: ¬(i:Int)<(a.length:Int):=by omega
   have h2:a=b:=by
    rw[List.take_of_length_le (by omega),List.take_of_length_le (by omega)]at he;exact he
   simp only[go_sem,h1];rw[decide_eq_true h2]
theorem amw(a b:Tm)(ha:aju a)(hb:aju b):Den Tryz.prog 57 [.agg (tm a),.agg (tm b)] [] (.bool (decide (a=b))) [] []:=by
 refine aa Tryz.func57 rfl Tryz.call57 Tryz.ntmps57 Tryz.results57 (by simp) (by kernel_rfl) [] (exts:=[]) rfl rfl ?_;have no: ∀{p:Prop} (_:a=b->p),¬p->decide (a=b)=false:=fun h hn=>decide_eq_false fun e=>hn (h e);by_cases h1:a.ep=b.ep
 rotate_left
 ·rw[no (fun e=>by rw[e]) h1];simp only[go_sem,h1];exact ae (by kernel_rfl)
 by_cases h2:a.bea=b.bea
 rotate_left
 ·rw[no (fun e=>by rw[e]) h2];simp only[go_sem,h1,h2];exact ae (by kernel_rfl)
 by_cases h3:a.dec=b.dec
 rotate_left
 ·rw[no (fun e=>by rw[e]) h3];simp only[go_sem,h1,h2,h3];exact ae (by kernel_rfl)
 have ci:=aoz a.ros b.ros ha.1 hb.1;have co:=sa a.nx b.nx ha.2.1 ha.2.2 hb.2.1 hb.2.2;rw[il,il]at co;simp only[go_sem,h1,h2,h3];refine⟨ae (by kernel_rfl),call ci [] ?_⟩;by_cases h4:a.ros=b.ros
 rotate_left
 ·rw[no (fun e=>by rw[e]) h4];simp only[go_sem,h4]
 simp only[go_sem,h4];refine call co [] ?_;by_cases h5:a.nx=b.nx
 ·rw[decide_eq_true (azu h1 h2 h3 h4 h5),(j7 _ _).2 h5];simp only[go_sem]
 ·rw[no (fun e=>by rw[e]) h5];have: ¬j2 a.nx b.nx=0:=fun e=>h5 ((j7 _ _).1 e);simp only[go_sem,this]
theorem awt(a b:List Tm)(ha:big a.length)(hb:big b.length)(ga: ∀x∈a,aju x)(gb: ∀x∈b,aju x):Den Tryz.prog 56 [.vs (a.map tm),.vs (b.map tm),.fn 57 []] [] (.bool (decide (a=b))) [] []:=by
 refine aa Tryz.func56 rfl Tryz.call56 Tryz.ntmps56 Tryz.results56 (by simp) (by kernel_rfl) [] (exts:=[]) rfl rfl ?_;by_cases h0:a.length=b.length
 rotate_left
 ·have h1: ¬(a.length:Int)=(b.length:Int):=by omega
  have h2: ¬a=b:=fun e=>h0 (by rw[e]);simp only[go_sem,h1,h2]
 have h00:(a.length:Int)=(b.length:Int):=by omega
 simp only[go_sem,h00];refine loop Tryz.mixed 0 (fun i:Nat=>[(1,.vs (b.map tm)),(2,.fn 57 []),(15,.vs (a.map tm)),(16,.int .i64 a.length),(17,.int .i64 i)]) (fun _=>[]) (fun i=>i<=a.length/\a.take i=b.take i) (fun i=>a.length - i) (by kernel_rfl) ⟨Nat.zero_le _,by simp⟩ ?_ ?_
 ·simp only[go_sem,h00]
 ·rintro i ⟨hi,he⟩;by_cases hlt:i<a.length
  ·have h1:(i:Int)<(a.length:Int):=by omega
   have hlt2:i<b.length:=by omega
   have cs:=amw (el a i) (el b i) (ga _ (bz hlt)) (gb _ (bz hlt2));rw[jd,jd]at cs;simp only[go_sem,h1,hlt,hlt2];refine call cs [] ?_;by_cases z:el a i=el b i
   ·simp only[go_sem,z];refine⟨i+1,⟨⟨by omega,by rw[c9 hlt,c9 hlt2,he,z]⟩,by omega⟩,by rw[ai]<;>omega⟩
   ·have h2: ¬a=b:=fun e=>z (by rw[e]);simp only[go_sem,z,h2]
  ·have h1: ¬(i:Int)<(a.length:Int):=by omega
   have h2:a=b:=by
    rw[List.take_of_length_le (by omega),List.take_of_length_le (by omega)]at he;exact he
   simp only[go_sem,h1];rw[decide_eq_true h2]
theorem auq(a b:List Tm)(ha:big a.length)(hb:big b.length)(ga: ∀x∈a,aju x)(gb: ∀x∈b,aju x):Den Tryz.prog 31 [.vs (a.map tm),.vs (b.map tm)] [] (.bool (decide (a=b))) [] []:=by
 refine aa Tryz.func31 rfl Tryz.call31 Tryz.ntmps31 Tryz.results31 (by simp) (by kernel_rfl) [] (exts:=[]) rfl rfl ?_;simp only[go_sem];refine call (awt a b ha hb ga gb) [] ?_;simp only[go_sem]
end Go.Proofs.Am
