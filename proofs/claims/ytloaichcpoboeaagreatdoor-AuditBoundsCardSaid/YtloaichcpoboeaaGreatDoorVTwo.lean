/- VTwo. -/
import Derived.Test.YtloaichcpoboeaaGreatDoorVOne
set_option maxHeartbeats 1000000
set_option maxRecDepth 100000
set_option linter.unusedSimpArgs false
set_option linter.unusedVariables false
namespace Go.Proofs.Am
open Go Go.RowKit
open Go.Proofs
theorem bar(i:Nat)(h:i<9):a1u [116,114,117,115,116,102,108,111,119] i=((([116,114,117,115,116,102,108,111,119]:List UInt8).getD i 0).toNat,1):=by
 have:i=0\/i=1\/i=2\/i=3\/i=4\/i=5\/i=6\/i=7\/i=8:=by omega
 rcases this with rfl|rfl|rfl|rfl|rfl|rfl|rfl|rfl|rfl<;>rfl
def nmT(i:Nat):List UInt8:=([116,114,117,115,116,102,108,111,119]:List UInt8).take i
def nmC(i:Nat):UInt8:=([116,114,117,115,116,102,108,111,119]:List UInt8).getD i 0
theorem a6l{i:Nat}(h:i<9):nmT (i+1)=nmT i++[nmC i]:=by
 have:i=0\/i=1\/i=2\/i=3\/i=4\/i=5\/i=6\/i=7\/i=8:=by omega
 rcases this with rfl|rfl|rfl|rfl|rfl|rfl|rfl|rfl|rfl<;>rfl
theorem bdi{i:Nat}(h:i<=9):(nmT i).length=i:=by
 have:i=0\/i=1\/i=2\/i=3\/i=4\/i=5\/i=6\/i=7\/i=8\/i=9:=by omega
 rcases this with rfl|rfl|rfl|rfl|rfl|rfl|rfl|rfl|rfl|rfl<;>rfl
def bkF(r:Rl):Nat->List UInt8
 |0=>[116,114,117,115,116,102,108,111,119]
 |1=>[116,114,117,115,116,102,108,111,119]++lsB r.gen
 |2=>([116,114,117,115,116,102,108,111,119]++lsB r.gen)++lsB r.pol.se
 |3=>(([116,114,117,115,116,102,108,111,119]++lsB r.gen)++lsB r.pol.se)++lsB r.pol.ta
 |_=>b0 r
def zg(r:Rl):List (List PV):=[[.vs (r.gen.map i1)],[.vs (r.pol.se.map i1)],[.vs (r.pol.ta.map i1)],[.vs [i1 r.pol.lv,i1 r.seats,i1 r.span,i1 r.quota]]]
theorem ar3(r:Rl)(hr:gq r=0)(h0:r.gen.length<=1000000)(h1:r.pol.se.length<=1000000)(h2:r.pol.ta.length<=1000000):Den Tryz.prog 131 [.agg (rl r)] [] (.tup [.str (aws r),.int .i64 0]) [] []:=by
 refine aa Tryz.func131 rfl Tryz.call131 Tryz.ntmps131 Tryz.results131 (by simp) (by kernel_rfl) [] (exts:=[]) rfl rfl ?_;have c0:=afi r (by simp only[big];omega) (by simp only[big];omega) (by simp only[big];omega);rw[hr,p5]at c0;simp only[go_sem];refine call c0 [] ?_;simp only[go_sem];refine da 5 99 5 1 false ?_ ?_ ?_ (by omega)
 ·refine loop Tryz.mixed 0 (fun i:Nat=>[(1,.ptr 1 0),(5,.os 99 (nmT i).length),(15,.mh 15)]) (fun i=>[(1,.cells (rl r)),(15,.si [116,114,117,115,116,102,108,111,119] i),(99,.arr 5 1 false ((nmT i).map u8))]) (fun i=>i<=9) (fun i=>9 - i) (by kernel_rfl) (Nat.zero_le _) ?_ ?_
  ·simp only[go_sem];exact⟨rfl,rfl⟩
  ·intro i hi;have hd:=bar i;have hst:=a6l (i:=i);have hln:=bdi hi;by_cases h:i<9
   ·have hd:=hd h;have hst:=hst h
    have hw:IntKind.u8.wrap ((nmC i).toNat:Int)=((nmC i).toNat:Int):=by
     rw[IntKind.wrap_u8];have:=(nmC i).toNat_lt;omega
    have hn:(([116,114,117,115,116,102,108,111,119]:List UInt8).getD i 0)=nmC i:=rfl;rw[hn]at hd;simp only[go_sem,h,hd,hw];refine⟨by omega,i+1,⟨by omega,by omega⟩,?_,rfl,?_⟩
    ·rw[hst];simp
    ·rw[hst];simp[u8]
   ·have:i=9:=by omega
    subst this;have e9:nmT 9=[116,114,117,115,116,102,108,111,119]:=rfl;rw[e9];clear hd hst hln e9 h hi;simp only[go_sem];refine loop Tryz.mixed 0 (fun k:Nat=>[(5,.os 99 (bkF r k).length),(42,.vs (zg r)),(43,.int .i64 4),(44,.int .i64 k)]) (fun k=>[(99,.arr 5 1 false ((bkF r k).map u8))]) (fun k=>k<=4) (fun k=>4 - k) (by kernel_rfl) (Nat.zero_le _) ?_ ?_
    ·simp only[go_sem,zg,bkF]
    ·intro k hk;have cS:=v6 (b0 r) (by simp only[b0,List.length_append,sa,List.length_cons,List.length_nil];omega);have d0:=k8 (bkF r 0) r.gen (by simp[bkF]) (by omega);have d1:=k8 (bkF r 1) r.pol.se (by simp only[bkF,List.length_append,sa,List.length_cons,List.length_nil];omega) (by omega);have d2:=k8 (bkF r 2) r.pol.ta (by simp only[bkF,List.length_append,sa,List.length_cons,List.length_nil];omega) (by omega);have d3:=k8 (bkF r 3) [r.pol.lv,r.seats,r.span,r.quota] (by simp only[bkF,List.length_append,sa,List.length_cons,List.length_nil];omega) (by simp);have s0:bkF r 0++lsB r.gen=bkF r 1:=rfl;have s1:bkF r 1++lsB r.pol.se=bkF r 2:=rfl;have s2:bkF r 2++lsB r.pol.ta=bkF r 3:=rfl;have s3:bkF r 3++lsB [r.pol.lv,r.seats,r.span,r.quota]=bkF r 4:=rfl;have b4:bkF r 4=b0 r:=rfl;rw[s0]at d0;rw[s1]at d1;rw[s2]at d2;rw[s3]at d3;rw[<-b4]at cS;have hv:aws r=sha (bkF r 4):=rfl;rw[hv];generalize bkF r=B at*;have:k=0\/k=1\/k=2\/k=3\/k=4:=by omega
     rcases this with rfl|rfl|rfl|rfl|rfl
     ·simp only[go_sem,zg];refine call d0 [99] ?_;simp only[go_sem,zg];exact⟨by rw[<-s0,List.length_append];omega,1,⟨by omega,by omega⟩,⟨rfl,by rw[ae]<;>omega⟩,rfl⟩
     ·simp only[go_sem,zg];refine call d1 [99] ?_;simp only[go_sem,zg];exact⟨by rw[<-s1,List.length_append];omega,2,⟨by omega,by omega⟩,⟨rfl,by rw[ae]<;>omega⟩,rfl⟩
     ·simp only[go_sem,zg];refine call d2 [99] ?_;simp only[go_sem,zg];exact⟨by rw[<-s2,List.length_append];omega,3,⟨by omega,by omega⟩,⟨rfl,by rw[ae]<;>omega⟩,rfl⟩
     ·simp only[go_sem,zg];refine call d3 [99] ?_;simp only[go_sem,zg];exact⟨by rw[<-s3,List.length_append];omega,4,⟨by omega,by omega⟩,⟨rfl,by rw[ae]<;>omega⟩,rfl⟩
     ·simp only[go_sem,zg];refine call cS [] ?_;simp only[go_sem]
 ·simp only[go_sem]
 ·simp only[go_sem]
def ff(r:Rl)(t:Tm)(c:Cs):List Int×Int:=if c.ep≠t.ep then([],46)else ofG r t.bea t.ros c
theorem avs{r:Rl}{t:Tm}{c:Cs}(h:t.bea.length=32):ff r t c=o7 r t c:=by
 unfold ff o7;rw[bih h]
theorem bd3(r:Rl)(v:List UInt8)(l:List Int)(c:Cs):(ofG r v l c).1.length<=64:=by
 unfold ofG;split
 ·simp
 ·exact bbj _ _ _ _
theorem arx(r:Rl)(t:Tm)(c:Cs):(ff r t c).1.length<=64:=by
 unfold ff;split
 ·simp
 ·exact bd3 _ _ _ _
def azk(r:Rl)(L:List Stm)(t:Tm)(c:Cs):Ct×Bool×Int:=
 if(ff r t c).2≠0 then(noC,false,(ff r t c).2)else(auj (aqo L c (ff r t c).1),decide ((aqo L c (ff r t c).1).length=1),ckS c (ff r t c).1)
theorem bao{r:Rl}{L:List Stm}{t:Tm}{c:Cs}(h:t.bea.length=32):azk r L t c=biz r L t c:=by
 unfold azk biz;rw[avs h]
theorem a7q(L:List Stm)(c:Cs)(s:List Int):(aqo L c s).length<=L.length:=by
 unfold aqo;split
 ·exact a32
 ·simp
structure RlB(r:Rl):Prop where
 g:r.gen.length<=1000000
 s:r.pol.se.length<=1000000
 t:r.pol.ta.length<=1000000
theorem at5(r:Rl)(t:Tm)(c:Cs)(hr:RlB r)(hl:big t.ros.length):Den Tryz.prog 77 [.agg (rl r),.agg (tm t),.agg (cs c)] [] (.tup [.vs ((ff r t c).1.map i1),.int .i64 (ff r t c).2]) [] []:=by
 refine aa Tryz.func77 rfl Tryz.call77 Tryz.ntmps77 Tryz.results77 (by simp) (by kernel_rfl) [] (exts:=[]) rfl rfl ?_;have c1:=bb7 r t.bea t.ros c (by have:=hr.g;simp only[big];omega) (by have:=hr.s;simp only[big];omega) (by have:=hr.t;simp only[big];omega) hl;rw[ki,p5]at c1;have hm:ff r t c=if c.ep≠t.ep then([],46)else ofG r t.bea t.ros c:=rfl
 generalize ff r t c=m at*;by_cases h:c.ep=t.ep
 ·rw[if_neg (by simpa using h)]at hm;rw[<-hm]at c1;simp only[go_sem,h];rw[h]at c1;refine call c1 [] ?_;simp only[go_sem]
 ·rw[if_pos h]at hm;subst hm;simp only[go_sem,h,List.map_nil]
theorem a49(r:Rl)(L:List Stm)(t:Tm)(c:Cs)(hr:RlB r)(hl:big t.ros.length)(hL:L.length<=900)(hs: ∀s∈L,adv s)(hq: ∀y∈bj L c,plX y.x):Den Tryz.prog 133 [.agg (rl r),.vs (L.map sm),.agg (tm t),.agg (cs c)] [] (.tup [.agg (ct (azk r L t c).1),.bool (azk r L t c).2.1,.int .i64 (azk r L t c).2.2]) [] []:=by
 refine aa Tryz.func133 rfl Tryz.call133 Tryz.ntmps133 Tryz.results133 (by simp) (by kernel_rfl) [] (exts:=[]) rfl rfl ?_;have hsl:=arx r t c;have c1:=at5 r t c hr hl;have hal:=a7q L c (ff r t c).1;have c2:=bc1 L c (ff r t c).1 hL hs (by omega) (aqo L c (ff r t c).1) rfl (by simp only[big];omega) hq;have hm:azk r L t c=if(ff r t c).2≠0 then(noC,false,(ff r t c).2)else(auj (aqo L c (ff r t c).1),decide ((aqo L c (ff r t c).1).length=1),ckS c (ff r t c).1):=rfl
 generalize azk r L t c=m at*;generalize ff r t c=S at*;obtain⟨s,k⟩:=S;simp only at hm c1 c2;generalize auj (aqo L c s)=x at*;generalize decide ((aqo L c s).length=1)=b at*;generalize ckS c s=e at*;rw[ki,p5,amo]at c1;rw[ki,ahl]at c2;simp only[go_sem];refine call c1 [] ?_;by_cases h:k=0
 ·rw[if_neg (by simpa using h)]at hm;subst hm;simp only[go_sem,h];refine call c2 [] ?_;simp only[go_sem]
 ·rw[if_pos h]at hm;subst hm;simp only[go_sem,h,noC,List.map_nil]
def noT:Tm:=⟨0,[],[],false,noC⟩
def ge(t:Tm):Tm×Bool:=if t.dec=true/\t.ep<39/\(aj6 t.nx.li).2=0 then(⟨t.ep+1,(aj6 t.nx.li).1,ai4 t.bea t.ep t.nx.li,false,noC⟩,true)else(noT,false)
theorem atu(t:Tm)(h0:0<=t.ep)(hv:t.bea.length=32)(hn:big t.nx.li.length):Den Tryz.prog 132 [.agg (tm t)] [] (.tup [.agg (tm (ge t).1),.bool (ge t).2]) [] []:=by
 refine aa Tryz.func132 rfl Tryz.call132 Tryz.ntmps132 Tryz.results132 (by simp) (by kernel_rfl) [] (exts:=[]) rfl rfl ?_;have hm:ge t=if t.dec=true/\t.ep<39/\(aj6 t.nx.li).2=0 then(⟨t.ep+1,(aj6 t.nx.li).1,ai4 t.bea t.ep t.nx.li,false,noC⟩,true)else(noT,false):=rfl
 generalize ge t=m at*
 cases a1:t.dec
 ·rw[if_neg (fun h=>by rw[a1]at h;cases h.1)]at hm;subst hm;simp only[go_sem,a1,noT,noC,List.map_nil]
 by_cases a2:39<=t.ep
 ·rw[if_neg (fun h=>by omega)]at hm;subst hm;simp only[go_sem,a1,a2,noT,noC,List.map_nil]
 simp only[go_sem,a1,a2];refine call (a7i t.nx.li hn) [] ?_;by_cases a3:tl t.nx.li
 rotate_left
 ·rw[yg a3]at hm ⊢;rw[if_neg (fun h=>by cases h.2.2)]at hm;subst hm;simp only[go_sem,noT,noC,List.map_nil]
 rw[aeh a3]at hm ⊢;rw[if_pos ⟨a1,by omega,rfl⟩]at hm;subst hm;have cn:=azn t.bea t.ep t.nx.li hv h0 (by omega) (by have:=a3.1;omega);have w:IntKind.i64.wrap (t.ep+1)=t.ep+1:=by rw[ae]<;>omega
 simp only[go_sem];refine call cn [] ?_;simp only[go_sem,w,noC,List.map_nil]
def ach(r:Rl)(L:List Stm):List Tm×Int:=if gq r≠0 then([],gq r)else(xa r L,0)
theorem azf{r:Rl}{L:List Stm}(h:gq r=0):ach r L=(xa r L,0):=if_neg (by simp[h])
theorem a1x{r:Rl}{L:List Stm}{t:Tm}{out X:List Tm}(hl:out.length<40)(hX:out++o5 r L (40 - out.length) t=X):
  X=(out++[eo r L t])++(match o6 (eo r L t)with|none=>[]|some u=>o5 r L (40 - (out.length+1)) u):=by
 rw[<-hX,show 40 - out.length=40 - (out.length+1)+1 by omega];simp only[o5,List.append_assoc,List.singleton_append]
 cases o6 (eo r L t)<;>rfl
theorem arl{r:Rl}{L:List Stm}{t:Tm}{out X:List Tm}(ht:OkT t)(he:t.ep=out.length)(hX:out++o5 r L (40 - out.length) t=X):
  ((ge (eo r L t)).2=true->OkT (ge (eo r L t)).1/\(ge (eo r L t)).1.ep=out.length+1/\(ge (eo r L t)).1.dec=false/\(ge (eo r L t)).1.nx=noC/\(out++[eo r L t])++o5 r L (40 - (out.length+1)) (ge (eo r L t)).1=X)/\
  ((ge (eo r L t)).2=false->(ge (eo r L t)).1=noT/\out++[eo r L t]=X):=by
 have hlt:=ht.hi;have hc:=a1x (by omega) hX;have hep:(eo r L t).ep=t.ep:=rfl;generalize hf:eo r L t=f at*;unfold ge;split
 ·rename_i h;have ha:o6 f=some ⟨f.ep+1,(aj6 f.nx.li).1,ai4 f.bea f.ep f.nx.li,false,noC⟩:=if_pos ⟨h.1,h.2.2⟩;refine⟨fun _=>⟨?_,by show f.ep+1=_;omega,rfl,rfl,?_⟩,fun h=>by cases h⟩
  ·exact a1f (hf ▸ a3u ht) ha h.2.1
  ·rw[hc,ha]
 ·rename_i h;refine⟨fun h=>(by cases h),fun _=>⟨rfl,?_⟩⟩;rw[hc]
  cases ha:o6 f with
  |none=>simp
  |some u=>
   obtain⟨h1,h2,_⟩:=pg ha;have: ¬f.ep<39:=fun h3=>h ⟨h1,h3,h2⟩;have:out.length=39:=by omega
   rw[this];simp[o5]
theorem a1h{r:Rl}{L:List Stm}{t:Tm}(hr:gq r=0)(ht:OkT t):azk r L t ⟨t.ep,1,0,0⟩=((eo r L t).nx,(eo r L t).dec,0):=(bao ht.bea).trans (bbv hr ht)
theorem bed{r:Rl}{L:List Stm}{t:Tm}:aac (eo r L t).nx:=by
 show aac (auj (stA r L t));exact a60
structure TSt where
 t:Tm
 out:List Tm
 more:Bool
def zN:List Tm->PV
 |[]=> .nils
 |_::_=> .vs []
theorem bgp:zN []= .nils:=rfl
theorem bkj(o:Tm)(l:List Tm):zN (o::l)= .vs []:=rfl
theorem bj4: ∀o:List Tm,zN o= .nils\/zN o= .vs []
 |[]=> .inl rfl
 |_::_=> .inr rfl
theorem a9l(o:List Tm)(x:Tm):zN (o++[x])= .vs []:=by cases o<;>rfl
theorem at7(r:Rl)(L:List Stm)(hr:RlB r)(hL:L.length<=900)(hs: ∀s∈L,adv s)(hqV: ∀c,∀y∈bj L c,plX y.x):Den Tryz.prog 100 [.agg (rl r),.vs (L.map sm)] [] (.tup [.vs ((ach r L).1.map tm),.int .i64 (ach r L).2]) [] []:=by
 refine aa Tryz.func100 rfl Tryz.call100 Tryz.ntmps100 Tryz.results100 (by simp) (by kernel_rfl) [] (exts:=[]) rfl rfl ?_;have c0:=afi r (by have:=hr.g;simp only[big];omega) (by have:=hr.s;simp only[big];omega) (by have:=hr.t;simp only[big];omega);have c0':=c0;rw[p5]at c0;have hE:ach r L=if gq r≠0 then([],gq r)else(xa r L,0):=rfl
 generalize ach r L=m at*;simp only[go_sem];refine call c0 [] ?_;by_cases a1:gq r=0
 rotate_left
 ·rw[if_pos a1]at hE;subst hE;simp only[go_sem,a1,List.map_nil]
 rw[if_neg (by simpa using a1)]at hE;subst hE;have c1:=ar3 r a1 hr.g hr.s hr.t;rw[p5]at c1;have hg:=(tu (a7s a1).1).2.2.1;have hg0:0<r.gen.length:=List.length_pos_iff.2 hg;simp only[go_sem,a1];refine call c1 [] ?_;simp only[go_sem];refine call (acf r.gen hg0 (by have:=hr.g;omega)) [] ?_;simp only[go_sem];refine da 9 99 128 6 false ?_ ?_ ?_ (by omega)
 ·refine loop Tryz.mixed (⟨yl r,[],true⟩:TSt) (fun s:TSt=>[(1,.vs (L.map sm)),(2,.ptr 2 0),(9,.os 99 s.out.length),(10,.ptr 10 0),(11,.bool s.more)]) (fun s=>[(2,.cells (rl r)),(10,.cells [.int .i64 s.t.ep,.vs (s.t.ros.map i1),.str s.t.bea,.bool s.t.dec,zN s.out,zN s.out]),(99,.arr 128 6 false (s.out.map tm))])
   (fun s=>s.out.length<=40/\(s.more=true->OkT s.t/\s.t.ep=s.out.length/\s.t.dec=false/\s.t.nx=noC/\s.out++o5 r L (40 - s.out.length) s.t=xa r L)/\(s.more=false->s.out=xa r L)) (fun s=>41 - s.out.length) (by kernel_rfl) ⟨by simp,fun _=>⟨apy a1,rfl,rfl,rfl,rfl⟩,fun h=>by cases h⟩ ?_ ?_
  ·simp only[go_sem,bgp,List.map_nil,List.length_nil];exact⟨rfl,rfl,rfl,rfl⟩
  ·rintro⟨t,out,more⟩ ⟨hl,h1,h2⟩;simp only at hl h1 h2 ⊢
   cases more
   ·have h2:=h2 rfl;subst h2;simp only[go_sem]
   ·obtain⟨ht,he,hd,hn,hX⟩:=h1 rfl;have hlt:=ht.hi;have cd:=a49 r L t ⟨t.ep,1,0,0⟩ hr (by have:=ht.len;simp only[big];omega) hL hs (hqV _);rw[a1h a1 ht]at cd;have st:=arl ht he hX;have hfe:eo r L t=⟨t.ep,t.ros,t.bea,(eo r L t).dec,(eo r L t).nx⟩:=rfl;have cf:=atu (eo r L t) ht.lo ht.bea bed.1;have htm:tm t=[.int .i64 t.ep,.vs (t.ros.map i1),.str t.bea,.bool t.dec,.vs [],.vs []]:=by rw[amo,hn];rfl
    rw[htm,p5,ki,ahl]at cd;rw[amo]at cf;generalize eo r L t=f at*;have q1:f.ep=t.ep:=by rw[hfe]
    have q2:f.ros=t.ros:=by rw[hfe]
    have q3:f.bea=t.bea:=by rw[hfe]
    rw[q1,q2,q3,amo]at cf;generalize ge f=g at*;obtain⟨u,b⟩:=g;simp only at st cf cd
    have hun:u.nx=noC:=by
     cases b
     ·rw[(st.2 rfl).1];rfl
     ·exact(st.1 rfl).2.2.2.1
    have hfr:tm f=[.int .i64 t.ep,.vs (t.ros.map i1),.str t.bea,.bool f.dec,.vs (f.nx.li.map i1),.vs (f.nx.pi.map pn)]:=by rw[amo,q1,q2,q3]
    rw[hun,show noC.li.map i1=[] from rfl,show noC.pi.map pn=[] from rfl]at cf;have hlo:out.length<40:=by omega
    rcases bj4 out with hz|hz
    ·simp only[go_sem,hz];refine call cd [] ?_;simp only[go_sem];refine⟨by omega,?_⟩;refine call cf [] ?_;simp only[go_sem];refine⟨⟨u,out++[f],b⟩,⟨⟨by simp only[List.length_append,List.length_cons,List.length_nil];omega,fun hb=> ?_,fun hb=> ?_⟩,by simp only[List.length_append,List.length_cons,List.length_nil];omega⟩,?_⟩
     ·obtain⟨g1,g2,g3,g4,g5⟩:=st.1 hb;exact⟨g1,by rw[g2];simp,g3,g4,by rw[List.length_append];exact g5⟩
     ·exact(st.2 hb).2
     ·simp only[go_sem,a9l,List.length_append,List.map_append,List.map_cons,List.map_nil,hfr]
      done
    ·simp only[go_sem,hz];refine call cd [] ?_;simp only[go_sem];refine⟨by omega,?_⟩;refine call cf [] ?_;simp only[go_sem];refine⟨⟨u,out++[f],b⟩,⟨⟨by simp only[List.length_append,List.length_cons,List.length_nil];omega,fun hb=> ?_,fun hb=> ?_⟩,by simp only[List.length_append,List.length_cons,List.length_nil];omega⟩,?_⟩
     ·obtain⟨g1,g2,g3,g4,g5⟩:=st.1 hb;exact⟨g1,by rw[g2];simp,g3,g4,by rw[List.length_append];exact g5⟩
     ·exact(st.2 hb).2
     ·simp only[go_sem,a9l,List.length_append,List.map_append,List.map_cons,List.map_nil,hfr]
      done
 ·simp only[go_sem]
 ·simp only[go_sem]
end Go.Proofs.Am
