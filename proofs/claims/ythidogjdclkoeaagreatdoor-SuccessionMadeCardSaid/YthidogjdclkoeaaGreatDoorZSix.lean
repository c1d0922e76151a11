/- ZSix. -/
import Derived.Test.YthidogjdclkoeaaGreatDoorVOne
import Derived.Test.YthidogjdclkoeaaGreatDoorVTwo
import Derived.Test.YthidogjdclkoeaaGreatDoorAmQT
import Derived.Test.YthidogjdclkoeaaGreatDoorWOne
import Derived.Test.YthidogjdclkoeaaGreatDoorW7
import Derived.Test.YthidogjdclkoeaaGreatDoorEOne
import Derived.Test.YthidogjdclkoeaaGreatDoorAmCut
set_option maxHeartbeats 1000000
set_option maxRecDepth 100000
set_option linter.unusedSimpArgs false
set_option linter.unusedVariables false
namespace Go.Proofs.Am
open Go Go.RowKit
open Go.Proofs
theorem asu(l:List Int)(hd:js l):Den Tryz.prog 24 [.vs (l.map i1)] [] (.tup [.os 0 (bm (gl l) 64).length,.int .i64 0]) [.arr 3 1 false ((bm (gl l) 64).map i1)] []:=by
 refine aa Tryz.func24 rfl Tryz.call24 Tryz.ntmps24 Tryz.results24 (by simp) (by kernel_rfl) [99] (exts:=[]) rfl rfl ?_;have a0:l.length=2:=hd.1;have a0':(l.length:Int)=2:=by omega
 have b0:0<l.length:=by omega
 have b1:1<l.length:=by omega
 have a1: ¬el l 0<0:=by have:=hd.2;omega
 have a2: ¬4294967296<=el l 0:=by have:=hd.2;omega
 have a3: ¬el l 1<0:=by have:=hd.2;omega
 have a4: ¬4294967296<=el l 1:=by have:=hd.2;omega
 by_cases a5:el l 0=0
 ·have a6: ¬el l 1=0:=fun h=>hd.2.2.2.2.2 ⟨a5,h⟩;simp only[go_sem,a0',b0,b1,a1,a2,a3,a4,a5,a6];refine dm 4 99 3 1 false ?_ ?_ ?_ (by omega)
  ·refine loop Tryz.mixed 0 (fun i:Nat=>[(0,.vs (l.map i1)),(4,.os 99 (bm (gl l) i).length),(5,.int .i64 i)]) (fun i=>[(99,.arr 3 1 false ((bm (gl l) i).map i1))]) (fun i=>i<=64) (fun i=>64 - i) (by kernel_rfl) (Nat.zero_le _) ?_ ?_
   ·simp only[go_sem];exact⟨rfl,rfl⟩
   ·intro i hi;have hsu:=fu (gl l) i;have hln:=fi (gl l) i;by_cases hlt:i<64
    ·have h1:(i:Int)<64:=by omega
     obtain⟨n,hn,hnb⟩:=ka hd hlt;have hb:=rj hn;have hs:=rg n (i % 32) hnb;have e1:IntKind.i64.wrap ((i:Int).tdiv 32)=((i/32:Nat):Int):=by rw[Int.tdiv_eq_ediv_of_nonneg (by omega),ai (by omega) (by omega)];rfl
     have e2:(i:Int).tmod 32=((i % 32:Nat):Int):=by rw[Int.tmod_eq_emod_of_nonneg (by omega)];rfl
     have e3:min (i % 32) 64=i % 32:=by omega
     have e4:IntKind.u64.wrap ((i % 32:Nat):Int)=((i % 32:Nat):Int):=by rw[IntKind.wrap_u64];omega
     have h2:i/32<l.length:=by omega
     rw[hb]at hsu;generalize bm (gl l) i=o at*;generalize hj:i/32=j at*;generalize hk:i % 32=k at*
     cases ht:n.testBit k
     ·rw[ht]at hsu hs;simp only[go_sem,h1,e1,e2,e3,e4,h2,hn,hs]
      (repeat refine And.intro (by first|omega|exact ae (by kernel_rfl)) ?_)
      refine⟨i+1,⟨by omega,by omega⟩,?_⟩;rw[hsu];simp only[go_sem,List.append_nil];rw[ai]<;>omega
     ·rw[ht]at hsu hs;simp only[go_sem,h1,e1,e2,e3,e4,h2,hn,hs]
      (repeat refine And.intro (by first|omega|exact ae (by kernel_rfl)) ?_)
      refine⟨i+1,⟨by omega,by omega⟩,?_⟩;rw[hsu];simp only[go_sem,List.map_append,List.length_append];rw[ai]<;>omega
    ·have h1: ¬(i:Int)<64:=by omega
     have:i=64:=by omega
     subst this;simp only[go_sem,h1]
     done
  ·simp only[go_sem]
  ·simp only[go_sem]
 simp only[go_sem,a0',b0,b1,a1,a2,a3,a4,a5];refine dm 4 99 3 1 false ?_ ?_ ?_ (by omega)
 ·refine loop Tryz.mixed 0 (fun i:Nat=>[(0,.vs (l.map i1)),(4,.os 99 (bm (gl l) i).length),(5,.int .i64 i)]) (fun i=>[(99,.arr 3 1 false ((bm (gl l) i).map i1))]) (fun i=>i<=64) (fun i=>64 - i) (by kernel_rfl) (Nat.zero_le _) ?_ ?_
  ·simp only[go_sem];exact⟨rfl,rfl⟩
  ·intro i hi;have hsu:=fu (gl l) i;have hln:=fi (gl l) i;by_cases hlt:i<64
   ·have h1:(i:Int)<64:=by omega
    obtain⟨n,hn,hnb⟩:=ka hd hlt;have hb:=rj hn;have hs:=rg n (i % 32) hnb;have e1:IntKind.i64.wrap ((i:Int).tdiv 32)=((i/32:Nat):Int):=by rw[Int.tdiv_eq_ediv_of_nonneg (by omega),ai (by omega) (by omega)];rfl
    have e2:(i:Int).tmod 32=((i % 32:Nat):Int):=by rw[Int.tmod_eq_emod_of_nonneg (by omega)];rfl
    have e3:min (i % 32) 64=i % 32:=by omega
    have e4:IntKind.u64.wrap ((i % 32:Nat):Int)=((i % 32:Nat):Int):=by rw[IntKind.wrap_u64];omega
    have h2:i/32<l.length:=by omega
    rw[hb]at hsu;generalize bm (gl l) i=o at*;generalize hj:i/32=j at*;generalize hk:i % 32=k at*
    cases ht:n.testBit k
    ·rw[ht]at hsu hs;simp only[go_sem,h1,e1,e2,e3,e4,h2,hn,hs]
     (repeat refine And.intro (by first|omega|exact ae (by kernel_rfl)) ?_)
     refine⟨i+1,⟨by omega,by omega⟩,?_⟩;rw[hsu];simp only[go_sem,List.append_nil];rw[ai]<;>omega
    ·rw[ht]at hsu hs;simp only[go_sem,h1,e1,e2,e3,e4,h2,hn,hs]
     (repeat refine And.intro (by first|omega|exact ae (by kernel_rfl)) ?_)
     refine⟨i+1,⟨by omega,by omega⟩,?_⟩;rw[hsu];simp only[go_sem,List.map_append,List.length_append];rw[ai]<;>omega
   ·have h1: ¬(i:Int)<64:=by omega
    have:i=64:=by omega
    subst this;simp only[go_sem,h1]
    done
 ·simp only[go_sem]
 ·simp only[go_sem]
def tmO(n:Nat)(t:Tm):List PV:=[.int .i64 t.ep,.os n t.ros.length,.str t.bea,.bool t.dec,.vs (t.nx.li.map i1),.vs (t.nx.pi.map pn)]
def ir(n k:Nat)(X:List Tm):List (List PV):=(X.map tm).set k (tmO n (el X k))
theorem jq(n k:Nat)(X:List Tm):(ir n k X).length=X.length:=by simp[ir]
theorem apw{α:Type} [Inhabited α](X:List α)(f:α):el (X++[f]) X.length=f:=by simp[el]
theorem asq{α:Type} [Inhabited α]{X Y:List α}{k:Nat}(h:k<X.length):el (X++Y) k=el X k:=by
 simp[el,bq,List.getElem?_append_left h]
theorem an0{n k:Nat}{X:List Tm}{f:Tm}(h:X.length=k):X.map tm++[tmO n f]=ir n k (X++[f]):=by
 subst h;unfold ir;rw[apw,List.map_append,List.set_append_right _ _ (by simp)];simp
theorem amt{n k:Nat}{X:List Tm}{f:Tm}(h:k<X.length):ir n k X++[tm f]=ir n k (X++[f]):=by
 unfold ir;rw[asq h,List.map_append,List.set_append_left _ _ (by simpa using h)];rfl
theorem av8{n k:Nat}{X:List Tm}(h:k<X.length):db (ir n k X) k=tmO n (el X k):=by
 unfold ir db;rw[bq,List.getElem?_set_self (by simpa using h)];rfl
theorem ws{n k:Nat}{X:List Tm}{x:List PV}(h:x∈ir n k X):(∃t,x=tm t)\/∃t,x=tmO n t:=by
 rcases List.mem_or_eq_of_mem_set h with h|h
 ·obtain⟨t,_,rfl⟩:=List.mem_map.1 h;exact .inl ⟨t,rfl⟩
 ·exact .inr ⟨_,h⟩
theorem azj{t:Tm}{u:PV}(h:u∈tm t):noH u:=by
 rw[jd]at h;simp only[List.mem_cons,List.not_mem_nil,or_false]at h;rcases h with rfl|rfl|rfl|rfl|rfl|rfl<;>constructor
theorem ap8{n:Nat}{t:Tm}{u:PV}(h:u∈tmO n t):noH u\/∃k,u= .os n k:=by
 simp only[tmO,List.mem_cons,List.not_mem_nil,or_false]at h;rcases h with rfl|rfl|rfl|rfl|rfl|rfl
 ·exact .inl (by constructor)
 ·exact .inr ⟨_,rfl⟩
 all_goals exact .inl (by constructor)
theorem ma{ns:List Nat}{n k:Nat}{X:List Tm}(hn:ns[n]? =some n): ∀x∈ir n k X,∀u∈x,okI ns u:=fun x hx u hu=>by
 have hno:noH u->okI ns u:=fun h=>by
  cases u<;>(try exact h)
  cases h with|os _ _ h=>exact h.elim
 rcases ws hx with ⟨t,rfl⟩|⟨t,rfl⟩
 ·exact hno (azj hu)
 ·rcases ap8 hu with h|⟨k,rfl⟩
  ·exact hno h
  ·exact hn
theorem aql{a b n k:Nat}{X:List Tm}(hn:okN a b n): ∀x∈ir n k X,∀u∈x,okA a b u:=fun x hx u hu=>by
 have hno:noH u->okA a b u:=fun h=>by
  cases u<;>(try exact h)
  cases h with|os _ _ h=>exact h.elim
 rcases ws hx with ⟨t,rfl⟩|⟨t,rfl⟩
 ·exact hno (azj hu)
 ·rcases ap8 hu with h|⟨k,rfl⟩
  ·exact hno h
  ·exact hn
theorem aqq(f:Nat->Nat)(n k:Nat)(X:List Tm):(ir n k X).map (List.map (avo f))=ir (f n) k X:=by
 unfold ir;rw[List.map_set];congr 1;rw[List.map_map];exact List.map_congr_left fun t _=>rfl
theorem axj{P:Program}{N:Nat}{c:Code}{Q:o8}{fr:AFr}{σ:ASt}(slot n e sz:Nat)(h:wv P N (.loop c) Q ((slot,.os n 0)::fr) (qn σ n (.arh e sz [])))(hs:bv (look fr slot) fun u=>u= .nils)(hn:bv (ah σ n) fun B=>B=none)(hz:0<sz):wv P N (.loop c) Q fr σ:=by
 intro x a hv w hG;have h':W P N (.loop c) Q ((slot,.os n 0)::fr) (qn σ n (.arh e sz [])):=h;have hn':ah σ n=none:=hn;have hs':look fr slot= .nils:=hs
 obtain⟨hS,hE⟩:=hG.sim.new (d:=n) (B:= .arh e sz []) (hd:= .slice none 0 0) (w':=w) hn' rfl rfl rfl (Nat.le_refl _) (fun _ _=>rfl) (fun b hb=>by cases hb)
  (fun E _=>⟨hz,[],⟨by simp,.inl ⟨rfl,rfl⟩⟩,by simp,by simp,fun i y j u hy hu=>by simp at hy⟩)
 refine h' x a (upd hv n (.slice none 0 0)) w ⟨by rw[bi];exact hS,hG.size,hG.defers,fun t=> ?_⟩;rw[bi];simp only[look];split
 ·rename_i hst;subst hst;have hr:=hG.regs slot;rw[hs']at hr;rw[hr.nils_inv];exact .os ⟨⟨none,0,rfl⟩,.arh e sz [],sz,0,ap _ _ _,rfl,Nat.le_refl _,fun _=>(ap _ _ _).symm⟩
 ·exact(hG.regs t).mono hE
theorem Cv.hintH{P:Program}{N:Nat}{fr:AFr}{σ:ASt}{n:Nat}(hn:ah σ n=none):Cv P N fr σ fr (qn σ n (.dead 2 0)):=fun x a hv w hG=>by
 obtain⟨hS,hE⟩:=hG.sim.new (d:=n) (B:= .dead 2 0) (hd:= .bool false) (w':=w) hn rfl rfl rfl (Nat.le_refl _) (fun _ _=>rfl) (fun b hb=>by cases hb)
  (fun E _=>⟨fun b hb=>(by cases hb),fun h=>(by omega)⟩)
 exact⟨_,by rw[bi];exact hS,hG.size,hG.defers,fun t=>by rw[bi];exact(hG.regs t).mono hE⟩
theorem a9d(n m:Nat)(X:List Tm):(X.map tm).map (lf n m)=X.map tm:=by
 rw[List.map_map];exact List.map_congr_left fun t _=>rfl
theorem acg{d:List Nat}: ∀{xs:List (List PV)},(∀x∈xs,∀u∈x,as3 d u=true)->ra d xs=true
 |[],_=>rfl
 |x::xs,h=>by
  have hl: ∀(us:List PV),(∀u∈us,as3 d u=true)->acw d us=true:=fun us=>by
   induction us with
   |nil=>exact fun _=>rfl
   |cons u r ih=>exact fun h=>by simp only[acw,Bool.and_eq_true];exact⟨h u (by simp),ih fun v hv=>h v (by simp[hv])⟩
  simp only[ra,Bool.and_eq_true];exact⟨hl x (h x (by simp)),acg fun y hy=>h y (by simp[hy])⟩
theorem azx{d:List Nat}{t:Tm}{u:PV}(h:u∈tm t):as3 d u=true:=by
 rw[jd]at h;simp only[List.mem_cons,List.not_mem_nil,or_false]at h;rcases h with rfl|rfl|rfl|rfl|rfl|rfl<;>rfl
theorem a60(d:List Nat)(X:List Tm):ra d (X.map tm)=true:=acg fun x hx u hu=>by
 obtain⟨t,_,rfl⟩:=List.mem_map.1 hx;exact azx hu
theorem ai6{d:List Nat}{n:Nat}(hn:d.contains n=true)(k:Nat)(X:List Tm):ra d (ir n k X)=true:=acg fun x hx u hu=>by
 rcases ws hx with ⟨t,rfl⟩|⟨t,rfl⟩
 ·exact azx hu
 ·simp only[tmO,List.mem_cons,List.not_mem_nil,or_false]at hu;rcases hu with rfl|rfl|rfl|rfl|rfl|rfl
  ·rfl
  ·exact hn
  all_goals rfl
structure ROSt where
 t:Tm
 out:List Tm
 v:PV
 rows:List (List PV)
 B:ASt
def ROk(k:Nat)(s:ROSt):Prop:=
 (s.out.length<k/\s.v= .vs (s.t.ros.map i1)/\s.rows=s.out.map tm/\s.B=[])\/
 (s.out.length=k/\s.v= .os 1 s.t.ros.length/\s.rows=s.out.map tm/\s.B=[(1,.arr 3 1 false (s.t.ros.map i1))])\/
 (k<s.out.length/\s.v= .vs (s.t.ros.map i1)/\s.rows=ir 1 k s.out/\s.B=[(1,.arr 3 1 true ((el s.out k).ros.map i1))])
def ROI(r:Rl)(L:List Stm)(k:Nat)(s:ROSt):Prop:=s.out.length<=40/\s.t.ep=s.out.length/\(s.t.ep<40->OkT s.t)/\s.out++cz r L (40 - s.out.length) s.t=dc r L/\ROk k s
def rof(L:List Stm)(s:ROSt):AFr:=[(1,.vs (L.map sm)),(2,.ptr 2 0),(7,.str s.t.bea),(9,s.v),(10,.os 99 s.out.length),(11,.int .i64 s.t.ep)]
def ros(r:Rl)(s:ROSt):ASt:=(2,.cells (rl r))::(900056,.dead 2 0)::(99,.arh 27 6 s.rows)::s.B
theorem a4u(L:List Stm)(t:Tm)(out:List Tm)(v:PV)(rows:List (List PV))(B:ASt):rof L ⟨t,out,v,rows,B⟩=[(1,.vs (L.map sm)),(2,.ptr 2 0),(7,.str t.bea),(9,v),(10,.os 99 out.length),(11,.int .i64 t.ep)]:=(rfl)
theorem a6y(r:Rl)(t:Tm)(out:List Tm)(v:PV)(rows:List (List PV))(B:ASt):ros r ⟨t,out,v,rows,B⟩=(2,.cells (rl r))::(900056,.dead 2 0)::(99,.arh 27 6 rows)::B:=(rfl)
attribute [go_sem] a4u a6y
theorem alt(r:Rl)(L:List Stm)(k:Nat)(hr:RlB r)(hr0:da r=0)(hL:L.length<=900)(hs: ∀s∈L,uv s)(hk:k<(dc r L).length):
  Den Tryz.prog 8 [.agg (rl r),.vs (L.map sm)] [] (.tup [.os 0 (dc r L).length,.int .i64 0]) (.arh 27 6 (ir 1 k (dc r L))::[.arr 3 1 true ((el (dc r L) k).ros.map i1)]) []:=by
 refine a1c Tryz.mixed Tryz.func8 rfl Tryz.call8 Tryz.ntmps8 (congrArg Array.toList Tryz.results8) (by simp) (by kernel_rfl) 99 [1] (exts:=[]) rfl rfl ?_;have c0:=qt r (by have:=hr.g;simp only[big];omega) (by have:=hr.s;simp only[big];omega) (by have:=hr.t;simp only[big];omega);rw[dz,hr0]at c0;have c1:=vj r hr0 hr.g hr.s hr.t;rw[dz]at c1;have hgl:=hr.g;simp only[go_sem];refine call c0 [] ?_;simp only[go_sem];refine call c1 [] ?_;simp only[go_sem];refine⟨by omega,?_⟩;refine axj 10 99 27 6 ?_ ?_ ?_ (by omega)
 rotate_left
 ·simp only[go_sem]
 ·simp only[go_sem]
 refine a8f (Cv.hintH (n:=900056) rfl) ?_;refine a4v Tryz.mixed (⟨mb r,[],if k=0 then .os 1 r.gen.length else .vs (r.gen.map i1),[],if k=0 then [(1,.arr 3 1 false (r.gen.map i1))]else []⟩:ROSt) (rof L) (ros r) (ROI r L k) (fun s=>41 - s.out.length) (by kernel_rfl) [(28,1)] ?_ ?_ ?_
 ·refine⟨by simp,rfl,fun _=>uk hr0,rfl,?_⟩;by_cases h0:k=0
  ·subst h0;exact .inr (.inl ⟨rfl,rfl,rfl,rfl⟩)
  ·rw[if_neg h0,if_neg h0];exact .inl ⟨by show 0<k;omega,rfl,rfl,rfl⟩
 ·by_cases h0:k=0
  ·rw[if_pos h0,if_pos h0];simp only[go_sem,List.length_nil];exact⟨rfl,rfl⟩
  ·rw[if_neg h0,if_neg h0];simp only[go_sem,List.length_nil];exact⟨rfl,rfl⟩
 ·rintro⟨t,out,v,rows,B⟩ ⟨hl,he,hok,hX,hK⟩;simp only at hl he hok hX;by_cases hlt:t.ep<40
  rotate_left
  ·have h40:out.length=40:=by omega
   rw[h40]at hX;have:out=dc r L:=by rw[<-hX];simp[cz]
   subst this;rcases hK with ⟨h,_⟩|⟨h,_⟩|⟨h1,h2,h3,h4⟩
   ·simp only at h;omega
   ·simp only at h;omega
   ·simp only at h1 h2 h3 h4;subst h2 h3 h4;simp only[go_sem,hlt];exact ma rfl
  have ht:=hok hlt;have cd:=abm r L ⟨t.ep,t.ros,t.bea,false,noC⟩ ⟨t.ep,1,0,0⟩ hr (by have:=ht.len;simp only[big];omega) hL hs;have hdg:yv r L ⟨t.ep,t.ros,t.bea,false,noC⟩ ⟨t.ep,1,0,0⟩=((bd r L t).nx,(bd r L t).dec,0):=ais (t:=⟨t.ep,t.ros,t.bea,false,noC⟩) hr0 ⟨ht.lo,ht.hi,ht.ros,ht.bea⟩;rw[hdg]at cd;have st:=tc ht he hX;have hfe:bd r L t=⟨t.ep,t.ros,t.bea,(bd r L t).dec,(bd r L t).nx⟩:=rfl;have hfb:=(aar (r:=r) (L:=L) (t:=t)).1;have hro:=qy t.ep;rw[dt]at hro;rw[dz,dt,il,jd]at cd;simp only[noC,List.map_nil]at cd;generalize bd r L t=f at*;generalize hXe:dc r L=X at*;have hfr:tm f=[.int .i64 t.ep,.vs (t.ros.map i1),.str t.bea,.bool f.dec,.vs (f.nx.li.map i1),.vs (f.nx.pi.map pn)]:=by rw[hfe,jd]
  have hfo:tmO 1 f=[.int .i64 t.ep,.os 1 t.ros.length,.str t.bea,.bool f.dec,.vs (f.nx.li.map i1),.vs (f.nx.pi.map pn)]:=by rw[hfe];rfl
  have hfros:f.ros=t.ros:=by rw[hfe]
  have fin:out.length+1<=40:=by omega
  have hxl: ∀M:List Tm,out++[f]=M->M.length=out.length+1:=fun M h=>by rw[<-h];simp
  have w:IntKind.i64.wrap (t.ep+1)=t.ep+1:=by rw[ai]<;>omega
  rcases hK with ⟨h1,h2,h3,h4⟩|⟨h1,h2,h3,h4⟩|⟨h1,h2,h3,h4⟩
  ·simp only at h1 h2 h3 h4;subst h2 h3 h4
   cases hd:f.dec
   ·have:=hxl _ (st.1 hd);omega
   ·by_cases hq:js f.nx.li
    rotate_left
    ·have:=hxl _ (st.2.1 hq);omega
    obtain⟨s1,s2⟩:=st.2.2 hd hq;rw[hd]at cd hfr;have cn:=me t.bea t.ep f.nx.li ht.bea ht.lo hlt (by have:=hq.1;omega);have hap:out.map tm++[tm f]=(out++[f]).map tm:=by simp
    rw[hfr]at hap;by_cases hn:out.length+1=k
    ·simp only[go_sem,hlt];refine call hro [] ?_;simp only[go_sem];refine call cd [] ?_;simp only[go_sem];refine⟨ae (by kernel_rfl),ae (by kernel_rfl),by omega,?_⟩;refine call (asu f.nx.li hq) [] ?_;simp only[go_sem];refine call cn [] ?_;simp only[go_sem,w];refine⟨⟨⟨t.ep+1,bm (gl f.nx.li) 64,j3 t.bea t.ep f.nx.li,false,noC⟩,out++[f],.os 1 (bm (gl f.nx.li) 64).length,(out++[f]).map tm,[(1,.arr 3 1 false ((bm (gl f.nx.li) 64).map i1))]⟩,[(63,1)],⟨⟨by simp only[List.length_append,List.length_singleton];omega,by simp only[List.length_append,List.length_singleton];omega,fun h=>s1 (by simp only at h;omega),by rw[List.length_append];exact s2.trans hXe.symm,.inr (.inl ⟨by simp only[List.length_append,List.length_singleton];omega,rfl,rfl,rfl⟩)⟩,by simp only[List.length_append,List.length_singleton];omega⟩,?_⟩;simp only[go_sem,List.length_append];rw[hap,a9d];exact⟨rfl,a60 _ _⟩
    ·simp only[go_sem,hlt];refine call hro [] ?_;simp only[go_sem];refine call cd [] ?_;simp only[go_sem];refine⟨ae (by kernel_rfl),ae (by kernel_rfl),by omega,?_⟩;refine call (ll f.nx.li hfb) [] ?_;rw[gw hq];simp only[go_sem];refine call cn [] ?_;simp only[go_sem,w];refine⟨⟨⟨t.ep+1,bm (gl f.nx.li) 64,j3 t.bea t.ep f.nx.li,false,noC⟩,out++[f],.vs ((bm (gl f.nx.li) 64).map i1),(out++[f]).map tm,[]⟩,[],⟨⟨by simp only[List.length_append,List.length_singleton];omega,by simp only[List.length_append,List.length_singleton];omega,fun h=>s1 (by simp only at h;omega),by rw[List.length_append];exact s2.trans hXe.symm,.inl ⟨by simp only[List.length_append,List.length_singleton];omega,rfl,rfl,rfl⟩⟩,by simp only[List.length_append,List.length_singleton];omega⟩,?_⟩;simp only[go_sem,List.length_append];exact⟨hap,a60 _ _⟩
  ·simp only at h1 h2 h3 h4;subst h2 h3 h4;have hap:out.map tm++[tmO 1 f]=ir 1 k (out++[f]):=an0 h1;have hel:el (out++[f]) k=f:=by rw[<-h1];exact apw out f
   have hrs:(el (out++[f]) k).ros=t.ros:=by rw[hel,hfros]
   rw[hfo]at hap
   cases hd:f.dec
   ·have hX2:=st.1 hd;rw[hd]at cd hap;rw[hX2]at hap hrs;have hxx:=hxl _ hX2;simp only[go_sem,hlt];refine call hro [] ?_;simp only[go_sem];refine call cd [] ?_;simp only[go_sem];exact⟨ae (by kernel_rfl),ae (by kernel_rfl),by omega,⟨hap,ma rfl⟩,by rw[hrs],by omega⟩
   ·rw[hd]at cd hap;by_cases hq:js f.nx.li
    rotate_left
    ·have hX2:=st.2.1 hq;rw[hX2]at hap hrs;have hxx:=hxl _ hX2;simp only[go_sem,hlt];refine call hro [] ?_;simp only[go_sem];refine call cd [] ?_;simp only[go_sem];refine⟨ae (by kernel_rfl),ae (by kernel_rfl),by omega,?_⟩;refine call (ll f.nx.li hfb) [] ?_;rw[fk hq];simp only[go_sem];exact⟨⟨hap,ma rfl⟩,by rw[hrs],by omega⟩
    obtain⟨s1,s2⟩:=st.2.2 hd hq;have cn:=me t.bea t.ep f.nx.li ht.bea ht.lo hlt (by have:=hq.1;omega);simp only[go_sem,hlt];refine call hro [] ?_;simp only[go_sem];refine call cd [] ?_;simp only[go_sem];refine⟨ae (by kernel_rfl),ae (by kernel_rfl),by omega,?_⟩;refine call (ll f.nx.li hfb) [] ?_;rw[gw hq];simp only[go_sem];refine call cn [] ?_;simp only[go_sem,w];refine⟨⟨⟨t.ep+1,bm (gl f.nx.li) 64,j3 t.bea t.ep f.nx.li,false,noC⟩,out++[f],.vs ((bm (gl f.nx.li) 64).map i1),ir 1 k (out++[f]),[(1,.arr 3 1 true ((el (out++[f]) k).ros.map i1))]⟩,[],⟨⟨by simp only[List.length_append,List.length_singleton];omega,by simp only[List.length_append,List.length_singleton];omega,fun h=>s1 (by simp only at h;omega),by rw[List.length_append];exact s2.trans hXe.symm,.inr (.inr ⟨by simp only[List.length_append,List.length_singleton];omega,rfl,rfl,rfl⟩)⟩,by simp only[List.length_append,List.length_singleton];omega⟩,?_⟩;simp only[go_sem,List.length_append];exact⟨⟨hap,by rw[hrs]⟩,ai6 rfl _ _⟩
  ·simp only at h1 h2 h3 h4;subst h2 h3 h4;have hap:ir 1 k out++[tm f]=ir 1 k (out++[f]):=amt h1;have hrs:(el (out++[f]) k).ros=(el out k).ros:=by rw[asq h1]
   rw[hfr]at hap
   cases hd:f.dec
   ·have hX2:=st.1 hd;rw[hd]at cd hap;rw[hX2]at hap hrs;have hxx:=hxl _ hX2;simp only[go_sem,hlt];refine call hro [] ?_;simp only[go_sem];refine call cd [] ?_;simp only[go_sem];exact⟨ae (by kernel_rfl),ae (by kernel_rfl),⟨(jq 1 k out).symm,by rw[jq];omega⟩,⟨hap,ma rfl⟩,by rw[hrs],by omega⟩
   ·rw[hd]at cd hap;by_cases hq:js f.nx.li
    rotate_left
    ·have hX2:=st.2.1 hq;rw[hX2]at hap hrs;have hxx:=hxl _ hX2;simp only[go_sem,hlt];refine call hro [] ?_;simp only[go_sem];refine call cd [] ?_;simp only[go_sem];refine⟨ae (by kernel_rfl),ae (by kernel_rfl),⟨(jq 1 k out).symm,by rw[jq];omega⟩,?_⟩;refine call (ll f.nx.li hfb) [] ?_;rw[fk hq];simp only[go_sem];exact⟨⟨hap,ma rfl⟩,by rw[hrs],by omega⟩
    obtain⟨s1,s2⟩:=st.2.2 hd hq;have cn:=me t.bea t.ep f.nx.li ht.bea ht.lo hlt (by have:=hq.1;omega);simp only[go_sem,hlt];refine call hro [] ?_;simp only[go_sem];refine call cd [] ?_;simp only[go_sem];refine⟨ae (by kernel_rfl),ae (by kernel_rfl),⟨(jq 1 k out).symm,by rw[jq];omega⟩,?_⟩;refine call (ll f.nx.li hfb) [] ?_;rw[gw hq];simp only[go_sem];refine call cn [] ?_;simp only[go_sem,w];refine⟨⟨⟨t.ep+1,bm (gl f.nx.li) 64,j3 t.bea t.ep f.nx.li,false,noC⟩,out++[f],.vs ((bm (gl f.nx.li) 64).map i1),ir 1 k (out++[f]),[(1,.arr 3 1 true ((el (out++[f]) k).ros.map i1))]⟩,[],⟨⟨by simp only[List.length_append,List.length_singleton];omega,by simp only[List.length_append,List.length_singleton];omega,fun h=>s1 (by simp only at h;omega),by rw[List.length_append];exact s2.trans hXe.symm,.inr (.inr ⟨by simp only[List.length_append,List.length_singleton];omega,rfl,rfl,rfl⟩)⟩,by simp only[List.length_append,List.length_singleton];omega⟩,?_⟩;simp only[go_sem,List.length_append];exact⟨⟨hap,by rw[hrs]⟩,ai6 rfl _ _⟩
structure SmS where
 R:Rl
 T:Tm
 V:PV
 B:ASt
 C:Cs
 L:List Stm
def SmI(s:SmS):Prop:=RlB s.R/\s.T.ros.length<=1000/\((s.V= .vs (s.T.ros.map i1)/\s.B=[])\/(s.V= .os 100040 s.T.ros.length/\s.B=[(100040,.arr 3 1 true (s.T.ros.map i1))]))/\s.L.length<=900/\∀x∈s.L,uv x
theorem ava(l:List Int)(raw:Tm)(z:Int)(hraw:big raw.ros.length):Den Tryz.prog 3 [.vs (l.map i1),.agg (tm raw),.int .u8 z] [] (.bool true) [] []:=by
 refine a83 Tryz.mixed Tryz.func3 rfl Tryz.call3 Tryz.ntmps3 (congrArg Array.toList Tryz.results3) (by simp) [] (exts:=[]) rfl rfl ?_;rw[jd raw];simp only[rk,qg];refine aem Tryz.mixed (by kernel_rfl) ?_;simp only[go_sem];refine aem Tryz.mixed (by kernel_rfl) ?_;by_cases h400:l.length<=400
 rotate_left
 ·have hd:decide (l.length<=400)=false:=decide_eq_false h400;simp only[go_sem];refine call (pp l) [] ?_;simp only[go_sem,hd];refine call jh [] ?_;simp only[go_sem]
 have hd:decide (l.length<=400)=true:=decide_eq_true h400;have hl:big l.length:=by simp only[big];omega
 by_cases hR:(100:Int)<(raw.ros.length:Int)
 ·simp only[go_sem];refine call (pp l) [] ?_;simp only[go_sem,hd,hR];refine call jh [] ?_;simp only[go_sem]
 by_cases hRb:(100:Int)<(raw.bea.length:Int)
 ·simp only[go_sem];refine call (pp l) [] ?_;simp only[go_sem,hd,hR,hRb];refine call jh [] ?_;simp only[go_sem]
 have c1:=aoh l 0 hl (Nat.zero_le _);have hB:=zq l 0;have hr:=mt l 0;have hI:=aq5 (l:=l) (p:=0) (Nat.zero_le _);have hLl:=hI.len;have hLp:=hI.p;have hLo: ∀s∈(tt l 0).L,uv s:=fun s hs=>(hI.ok s hs).ok.big;generalize tt l 0=X at*;obtain⟨p,L,ros,v⟩:=X;generalize fy l 0=r at*;simp only at c1 hLl hLo hLp;clear hI;have hTb:=fun i (hi:i<(dc r L).length)=>aez hr (bz hi);have hT0:=ank r L;have hT40:=zg r L;have t1:=fun k hk=>alt r L k hB hr (by omega) hLo hk;generalize hTT:dc r L=T at*;have bj:=bh (l:=l) (p:=p) (n:=(T.length:Int)) (by omega);obtain⟨j,hj⟩: ∃j:Nat,aj l p T.length=(j:Int):=⟨(aj l p T.length).toNat,by omega⟩;rw[hj]at bj;have hjl:j<T.length:=by omega
 have t1:=t1 j hjl;obtain⟨P0,_,_⟩:=hTb j hjl;have hpe:aca l p=dgo l p 1:=rfl;have hp1:=cy hLp 1;have c3:=att l (dgo l p 1) (el T j).ep hl hp1;have hp2:=axc hp1 (el T j).ep;have hrl:=P0.len;generalize hU:el T j=U at*;generalize agy l (dgo l p 1) U.ep=C at*;obtain⟨c,p2⟩:=C;simp only at c3 hp2;have c4:=an6 l p2 c U.ros hl hp2 (by omega);have m1:=apt hp2 c U.ros;have m2:=al1 l p2 c U.ros;have m3:=amf l p2 c U.ros;generalize lr l p2 c U.ros=M at*;obtain⟨M,q⟩:=M;simp only at c4 m1 m2 m3
 have hMo: ∀s∈L++M,uv s:=fun s hs=>by
  rcases List.mem_append.1 hs with hs|hs
  ·exact hLo s hs
  ·exact(m3 s hs).big
 rw[dz]at c1 t1;rw[dt]at c3 c4;simp only[go_sem];refine call (pp l) [] ?_;simp only[go_sem,hd,hR,hRb];refine aem Tryz.mixed (by kernel_rfl) ?_;simp only[go_sem];refine call (a78 l) [] ?_;simp only[go_sem];refine aem Tryz.mixed (by kernel_rfl) ?_;simp only[go_sem];refine call c1 [31] ?_;simp only[go_sem];refine aem Tryz.mixed (by kernel_rfl) ?_;simp only[go_sem];refine a8c t1 [] (fun d=>ir (bn d 1) j T) (aql (.inl (by simp))) (fun d=>by rw[aqq];rfl) ?_;simp only[go_sem];have rl0:(ir 100040 j T).length=T.length:=jq _ _ _;have rat:=av8 (n:=100040) (X:=T) hjl;rw[hU]at rat;have hw6:tmO 100040 U=[.int .i64 U.ep,.os 100040 U.ros.length,.str U.bea,.bool U.dec,.vs (U.nx.li.map i1),.vs (U.nx.pi.map pn)]:=rfl;rw[hw6]at rat;have hnx:=ax l p T.length hl hLp (by omega);rw[hj]at hnx;refine aem Tryz.mixed (by kernel_rfl) ?_;simp only[go_sem];refine⟨rl0.symm,call hnx [31] ?_⟩;simp only[go_sem,rl0,rat,hpe,hjl];refine aem Tryz.mixed (by kernel_rfl) ?_;simp only[go_sem];refine call c3 [31] ?_;simp only[go_sem];refine aem Tryz.mixed (by kernel_rfl) ?_;simp only[go_sem];refine call c4 [31] ?_;simp only[go_sem];refine⟨by omega,?_⟩;have hLM:(L++M).length<=900:=by rw[List.length_append];omega
 have hUl:U.ros.length<=1000:=by omega
 refine a7n Tryz.mixed (fun s:SmS=>[(8,.ptr 8 0),(9,.os 34 s.L.length),(12,.ptr 12 0),(13,.ptr 13 0)]) (fun s=>(8,.cells (rl s.R))::(12,.cells [.int .i64 s.T.ep,s.V,.str s.T.bea,.bool s.T.dec,.vs (s.T.nx.li.map i1),.vs (s.T.nx.pi.map pn)])::(13,.cells (cs s.C))::(34,.arr 63 13 true (s.L.map sm))::s.B) SmI (by kernel_rfl) ?_ ?_
 ·generalize hw:z.tmod 9=w;by_cases w0:w=0
  ·simp only[go_sem,hw,w0];refine call (ay3 l q r hl m1) [31] ?_;have hB2:=aww (l:=l) (p:=q) hB;generalize (ab4 l q r).1=R2 at*;simp only[go_sem];exact⟨⟨R2,U,.os 100040 U.ros.length,[(100040,.arr 3 1 true (U.ros.map i1))],c,L++M⟩,⟨hB2,hUl,.inr ⟨rfl,rfl⟩,hLM,hMo⟩,by simp only[go_sem,List.length_append,List.map_append]⟩
  by_cases w1:w=1
  ·simp only[go_sem,hw,w0,w1];refine call (ph l q [-1,5,40] hl m1 (by simp) (by simp[big])) [31] ?_;simp only[go_sem];exact⟨⟨r,U,.os 100040 U.ros.length,[(100040,.arr 3 1 true (U.ros.map i1))],{c with ep:=ajm l q [-1,5,40]},L++M⟩,⟨hB,hUl,.inr ⟨rfl,rfl⟩,hLM,hMo⟩,by simp only[go_sem,List.length_append,List.map_append];rfl⟩
  by_cases w2:w=2
  ·simp only[go_sem,hw,w0,w1,w2];exact⟨⟨r,raw,.vs (raw.ros.map i1),[],c,L++M⟩,⟨hB,by show raw.ros.length<=1000;omega,.inl ⟨rfl,rfl⟩,hLM,hMo⟩,by simp only[go_sem,List.length_append,List.map_append]⟩
  by_cases w3:w=3
  ·simp only[go_sem,hw,w0,w1,w2,w3];refine⟨by omega,?_⟩;exact⟨⟨r,{U with ros:=U.ros++[0]},.os 100040 (U.ros++[0]).length,[(100040,.arr 3 1 true ((U.ros++[0]).map i1))],c,L++M⟩,⟨hB,by simp only[List.length_append,List.length_singleton];omega,.inr ⟨rfl,rfl⟩,hLM,hMo⟩,by simp only[go_sem,List.length_append,List.map_append]⟩
  by_cases w4:w=4
  ·simp only[go_sem,hw,w0,w1,w2,w3,w4];exact⟨⟨r,{U with bea:=[]},.os 100040 U.ros.length,[(100040,.arr 3 1 true (U.ros.map i1))],c,L++M⟩,⟨hB,hUl,.inr ⟨rfl,rfl⟩,hLM,hMo⟩,by simp only[go_sem,List.length_append,List.map_append]⟩
  ·simp only[go_sem,hw,w0,w1,w2,w3,w4];exact⟨⟨r,U,.os 100040 U.ros.length,[(100040,.arr 3 1 true (U.ros.map i1))],c,L++M⟩,⟨hB,hUl,.inr ⟨rfl,rfl⟩,hLM,hMo⟩,by simp only[go_sem,List.length_append,List.map_append]⟩
 ·rintro⟨R,T,V,B,C,S⟩ ⟨hB,hTl,hV,hSl,hSo⟩;dsimp only at hB hTl hV hSl hSo ⊢;have ag:=agn R S C T hB hSl hSo (by simp only[big];omega);have u4:Tryz.prog.underlying 4=some .bool:=by kernel_rfl
  rw[dz,jd,dt]at ag;rcases hV with ⟨rfl,rfl⟩|⟨rfl,rfl⟩
  ·refine a9n Tryz.mixed (by kernel_rfl) ?_;simp only[go_sem];refine call ag [] ?_;simp only[go_sem,u4];refine call jh [] ?_;simp only[go_sem]
  ·refine a9n Tryz.mixed (by kernel_rfl) ?_;simp only[go_sem];refine call ag [] ?_;simp only[go_sem,u4];refine call jh [] ?_;simp only[go_sem]
end Go.Proofs.Am
