/- BTwo. -/
import Derived.Test.YthidogjdclkoeaaGreatDoorBOne
import Derived.Test.YthidogjdclkoeaaGreatDoorAmW
import Derived.Test.YthidogjdclkoeaaGreatDoorAmX
set_option maxHeartbeats 1000000
set_option maxRecDepth 100000
set_option linter.unusedSimpArgs false
set_option linter.unusedVariables false
namespace Go.Proofs.Am
open Go Go.RowKit
open Go.Proofs
theorem axi(k:IntKind)(a b:Int):bits .or k a b=bits .or k b a:=by
 unfold bits;simp only[BitVec.or_comm]
theorem axq(x k:Int)(n:Nat)(h0:0<n)(hn:n<32)(hk:bits .and .u64 (IntKind.u64.wrap k) 31=((32 - n:Nat):Int)):Den Tryz.prog 119 [.int .u32 x,.int .i64 k] [] (.int .u32 (rot x n)) [] []:=by
 refine aa Tryz.func119 rfl Tryz.call119 Tryz.ntmps119 Tryz.results119 (by simp) (by kernel_rfl) [] (exts:=[]) rfl rfl ?_;have e1:IntKind.u64.wrap (32 - ((32 - n:Nat):Int))=(n:Int):=by rw[IntKind.wrap_u64];omega
 have e2:min n 32=n:=by omega
 have e3:min (32 - n) 32=32 - n:=by omega
 simp only[go_sem,hk,e1,e2,e3];rw[axi];rfl
theorem fh(x:Int)(n:Nat)(m:Int)(h0:0<n)(hn:n<32)(hk:bits .and .u64 (IntKind.u64.wrap (IntKind.i64.wrap (0 - m))) 31=((32 - n:Nat):Int)):Den Tryz.prog 118 [.int .u32 x,.int .i64 m] [] (.int .u32 (rot x n)) [] []:=by
 refine aa Tryz.func118 rfl Tryz.call118 Tryz.ntmps118 Tryz.results118 (by simp) (by kernel_rfl) [] (exts:=[]) rfl rfl ?_;simp only[go_sem];refine call (axq x _ n h0 hn hk) [] ?_;simp only[go_sem]
theorem ano:Den Tryz.prog 88 [] [] (.agg (kK.map c4)) [] []:=by
 refine aa Tryz.func88 rfl Tryz.call88 Tryz.ntmps88 Tryz.results88 (by simp) (by kernel_rfl) [] (exts:=[]) rfl rfl ?_;simp only[go_sem];rfl
theorem ayz(a b c:Int):ad (ad a b) c=ad a (ad b c):=by
 simp only[ad,IntKind.wrap_u32];omega
theorem ms(a b:Int):ad a b=ad b a:=by
 simp only[ad,Int.add_comm]
theorem aw9{v h:List Int}(hv:v.length=8)(hh:h.length=8):fin v h 8=fin h v 8:=by
 match v,h,hv,hh with
 |[a0,a1,a2,a3,a4,a5,a6,a7],[b0,b1,b2,b3,b4,b5,b6,b7],_,_=>
  show [ad a0 b0,ad a1 b1,ad a2 b2,ad a3 b3,ad a4 b4,ad a5 b5,ad a6 b6,ad a7 b7]=[ad b0 a0,ad b1 a1,ad b2 a2,ad b3 a3,ad b4 a4,ad b5 a5,ad b6 a6,ad b7 a7];rw[ms a0,ms a1,ms a2,ms a3,ms a4,ms a5,ms a6,ms a7]
theorem ant(h:List Int)(b:List UInt8)(k:List Int)(hh:h.length=8)(hb:b.length=64)(hk:k.length=64):Den Tryz.prog 89 [.ptr 1000000 0,.vs (b.map u8),.ptr 1000001 0] [.cells (h.map c4),.cells (k.map c4)] (.tup []) [] [.cells ((a5l h b k).map c4),.cells (k.map c4)]:=by
 refine aa Tryz.func89 rfl Tryz.call89 Tryz.ntmps89 Tryz.results89 (by simp) (by kernel_rfl) [] (exts:=[1000000,1000001]) rfl rfl ?_;simp only[go_sem];refine loop Tryz.mixed 0 (fun i:Nat=>[(0,.ptr 1000000 0),(1,.vs (b.map u8)),(2,.ptr 1000001 0),(6,.ptr 6 0),(19,.int .i64 i)]) (fun i=>[(6,.cells ((wA b i).map c4)),(1000000,.cells (h.map c4)),(1000001,.cells (k.map c4))]) (fun i=>i<=16) (fun i=>16 - i) (by kernel_rfl) ?_ ?_ ?_
 ·simp
 ·simp only[go_sem,wA,List.map_replicate];rfl
 ·intro i hi;have e1:i<16->IntKind.i64.wrap (4*(i:Int))=((4*i:Nat):Int):=fun h=>by rw[ai]<;>omega
  have e2:i<16->IntKind.i64.wrap (((4*i:Nat):Int)+1)=((4*i+1:Nat):Int):=fun h=>by rw[ai]<;>omega
  have e3:i<16->IntKind.i64.wrap (((4*i:Nat):Int)+2)=((4*i+2:Nat):Int):=fun h=>by rw[ai]<;>omega
  have e4:i<16->IntKind.i64.wrap (((4*i:Nat):Int)+3)=((4*i+3:Nat):Int):=fun h=>by rw[ai]<;>omega
  have hw:=aj6 b i;by_cases hi':i<16
  ·simp only[go_sem,e1 hi',e2 hi',e3 hi',e4 hi',hw,hb];refine⟨fun _=>⟨by omega,by omega,by omega,by omega,by omega,by omega,ae (by kernel_rfl),i+1,⟨by omega,by omega⟩,?_⟩,fun h=>by omega⟩;exact⟨by rw[ai]<;>omega,rfl⟩
  ·have:i=16:=by omega
   have hf: ¬((i:Int)<16):=by omega
   simp only[go_sem,hf];subst this;refine loop Tryz.mixed 0 (fun m:Nat=>[(0,.ptr 1000000 0),(2,.ptr 1000001 0),(6,.ptr 6 0),(8,.fn 118 []),(9,.int .i64 ((16+m:Nat):Int))]) (fun m=>[(6,.cells ((wB b m).map c4)),(1000000,.cells (h.map c4)),(1000001,.cells (k.map c4))]) (fun m=>m<=48) (fun m=>48 - m) (by kernel_rfl) ?_ ?_ ?_
   ·simp
   ·simp only[go_sem,wB]
   ·intro m hm;have hw:=aqj b m;by_cases hm':m<48
    ·have f1:IntKind.i64.wrap (((16+m:Nat):Int) - 15)=((m+1:Nat):Int):=by rw[ai]<;>omega
     have f2:IntKind.i64.wrap (((16+m:Nat):Int) - 2)=((m+14:Nat):Int):=by rw[ai]<;>omega
     have f3:IntKind.i64.wrap (((16+m:Nat):Int) - 16)=((m:Nat):Int):=by rw[ai]<;>omega
     have f4:IntKind.i64.wrap (((16+m:Nat):Int) - 7)=((m+9:Nat):Int):=by rw[ai]<;>omega
     simp only[go_sem,f1,f2,f3,f4,hw];refine⟨fun _=> ?_,fun h=>by omega⟩
     (repeat refine And.intro (by first|omega|exact ae (by kernel_rfl)) ?_)
     refine call (fh (el (wB b m) (m+1)) 7 7 (by omega) (by omega) (by rfl)) [] ?_;simp only[go_sem,f1,f2,f3,f4,hw]
     (repeat refine And.intro (by first|omega|exact ae (by kernel_rfl)) ?_)
     refine call (fh (el (wB b m) (m+1)) 18 18 (by omega) (by omega) (by rfl)) [] ?_;simp only[go_sem,f1,f2,f3,f4,hw]
     (repeat refine And.intro (by first|omega|exact ae (by kernel_rfl)) ?_)
     refine call (fh (el (wB b m) (m+14)) 17 17 (by omega) (by omega) (by rfl)) [] ?_;simp only[go_sem,f1,f2,f3,f4,hw]
     (repeat refine And.intro (by first|omega|exact ae (by kernel_rfl)) ?_)
     refine call (fh (el (wB b m) (m+14)) 19 19 (by omega) (by omega) (by rfl)) [] ?_;simp only[go_sem,f1,f2,f3,f4,hw]
     (repeat refine And.intro (by first|omega|exact ae (by kernel_rfl)) ?_)
     refine⟨m+1,⟨by omega,by omega⟩,?_⟩;exact⟨by rw[ai]<;>omega,rfl⟩
    ·have hf: ¬(((16+m:Nat):Int)<64):=by omega
     have:m=48:=by omega
     subst this;generalize hW:wB b 48=W at*;have ht8:h.take 8=h:=by rw[<-hh,List.take_length]
     simp only[go_sem,hf,ht8,hh];refine loop Tryz.mixed 0 (fun j:Nat=>[(0,.ptr 1000000 0),(2,.ptr 1000001 0),(6,.ptr 6 0),(8,.fn 118 []),(12,.ptr 12 0),(106,.int .i64 j)]) (fun j=>[(6,.cells (W.map c4)),(12,.cells ((ai2 h k W j).map c4)),(1000000,.cells (h.map c4)),(1000001,.cells (k.map c4))]) (fun j=>j<=64) (fun j=>64 - j) (by kernel_rfl) ?_ ?_ ?_
     ·simp
     ·simp only[go_sem,ai2]
     ·intro j hj;have hv:=aby (k:=k) (w:=W) hh j;by_cases hj':j<64
      ·have hR:ai2 h k W (j+1)=rnd (ai2 h k W j) (el k j) (el W j):=rfl;generalize ai2 h k W j=V at*;simp only[go_sem,hv,hw,hk];refine⟨fun _=> ?_,fun h=>by omega⟩
       (repeat refine And.intro (by first|omega|exact ae (by kernel_rfl)) ?_)
       refine call (fh (el V 4) 6 6 (by omega) (by omega) (by rfl)) [] ?_;simp only[go_sem,hv,hw,hk];refine call (fh (el V 4) 11 11 (by omega) (by omega) (by rfl)) [] ?_;simp only[go_sem,hv,hw,hk];refine call (fh (el V 4) 25 25 (by omega) (by omega) (by rfl)) [] ?_;simp only[go_sem,hv,hw,hk]
       (repeat refine And.intro (by first|omega|exact ae (by kernel_rfl)) ?_)
       refine call (fh (el V 0) 2 2 (by omega) (by omega) (by rfl)) [] ?_;simp only[go_sem,hv,hw,hk];refine call (fh (el V 0) 13 13 (by omega) (by omega) (by rfl)) [] ?_;simp only[go_sem,hv,hw,hk];refine call (fh (el V 0) 22 22 (by omega) (by omega) (by rfl)) [] ?_;simp only[go_sem,hv,hw,hk]
       (repeat refine And.intro (by first|omega|exact ae (by kernel_rfl)) ?_)
       refine⟨j+1,⟨by omega,by omega⟩,by rw[ai]<;>omega,?_⟩;rw[hR,rnd,ayz,List.drop_of_length_le (by omega:V.length<=8)];rfl
      ·have hf: ¬((j:Int)<64):=by omega
       simp only[go_sem,hf];have:j=64:=by omega
       subst this;generalize hV:ai2 h k W 64=V at*;refine loop Tryz.mixed 0 (fun j:Nat=>[(0,.ptr 1000000 0),(12,.ptr 12 0),(196,.int .i64 j)]) (fun j=>[(12,.cells (V.map c4)),(1000000,.cells ((fin h V j).map c4)),(1000001,.cells (k.map c4))]) (fun j=>j<=8) (fun j=>8 - j) (by kernel_rfl) ?_ ?_ ?_
       ·simp
       ·simp only[go_sem,fin]
       ·intro j hj;have hfl:=aaw (h:=V) hh j;by_cases hj':j<8
        ·simp only[go_sem,hfl,hh,hv];refine⟨fun _=> ?_,fun h=>by omega⟩
         (repeat refine And.intro (by first|omega|exact ae (by kernel_rfl)) ?_)
         exact⟨j+1,⟨by omega,by omega⟩,by rw[ai]<;>omega,rfl⟩
        ·have hf: ¬((j:Int)<8):=by omega
         simp only[go_sem,hf];have:j=8:=by omega
         subst this;have hs:a5l h b k=fin V h 8:=by rw[<-hV,<-hW];rfl
         rw[hs,aw9 hv hh]
theorem ul(b:List UInt8)(hb:b.length<=1000000000):Den Tryz.prog 64 [.vs (b.map u8)] [] (.str (sha b)) [] []:=by
 refine aa Tryz.func64 rfl Tryz.call64 Tryz.ntmps64 Tryz.results64 (by simp) (by kernel_rfl) [] (exts:=[]) rfl rfl ?_;simp only[go_sem]
 (repeat refine And.intro (by first|omega|exact ae (by kernel_rfl)) ?_)
 refine loop Tryz.mixed 0 (fun z:Nat=>[(0,.vs (b.map u8)),(3,.os 12 (acu b z).length)]) (fun z=>[(12,.arr 5 1 false ((acu b z).map u8))]) (fun z=>z<=yl b.length) (fun z=>yl b.length - z) (by kernel_rfl) ?_ ?_ ?_
 ·simp
 ·simp only[go_sem];simp[acu,u8]
 ·intro z hz;have hpl:=abv b z;have hpn:=ahf b.length;by_cases hz':z<yl b.length
  ·have hc: ¬((((acu b z).length:Nat):Int).tmod 64=56):=by
    have:=ats hz';rw[hpl,a75];omega
   simp only[go_sem,hc];refine⟨by omega,z+1,⟨by omega,by omega⟩,?_⟩;rw[aeb];simp only[go_sem,List.map_append];simp[u8]
  ·have hz2:z=yl b.length:=by omega
   subst hz2
   have hc:(((acu b (yl b.length)).length:Nat):Int).tmod 64=56:=by
    have:=wt b.length;rw[hpl,a75];omega
   simp only[go_sem,hc];generalize hp:acu b (yl b.length)=p at*;refine loop Tryz.mixed 0 (fun m:Nat=>[(3,.os 12 (p++(be8 ((8*b.length:Nat):Int)).take m).length),(4,.int .u64 ((8*b.length:Nat):Int)),(5,.int .i64 (56 - 8*(m:Int)))]) (fun m=>[(12,.arr 5 1 false ((p++(be8 ((8*b.length:Nat):Int)).take m).map u8))]) (fun m=>m<=8) (fun m=>8 - m) (by kernel_rfl) ?_ ?_ ?_
   ·simp
   ·simp only[go_sem,List.take_zero,List.append_nil];simp only[IntKind.wrap_u64];omega
   ·intro m hm;generalize hv:8*b.length=v at*;have hl:((be8 (v:Int)).take m).length=m:=by simp[be8];omega
    have e1:m<8->IntKind.u64.wrap (56 - 8*(m:Int))=((56 - 8*m:Nat):Int):=fun h=>by rw[IntKind.wrap_u64];omega
    by_cases hm':m<8
    ·have e0:(be8 (v:Int)).take (m+1)=(be8 (v:Int)).take m++[bAt v (56 - 8*m)]:=by
      have:m=0\/m=1\/m=2\/m=3\/m=4\/m=5\/m=6\/m=7:=by omega
      rcases this with rfl|rfl|rfl|rfl|rfl|rfl|rfl|rfl<;>rfl
     have e2:min (56 - 8*m) 64=56 - 8*m:=by omega
     have hc:(0:Int)<=56 - 8*(m:Int):=by omega
     rw[List.length_append,hl];simp only[go_sem,e1 hm',hc,e2,yn,hl];refine⟨by omega,m+1,⟨by omega,by omega⟩,?_⟩;rw[e0];simp only[go_sem,List.map_append,List.append_assoc,hl];rw[ai]<;>omega
    ·have hm2:m=8:=by omega
     subst hm2;have hS:p++(be8 (v:Int)).take 8=agb b:=by rw[agb,hp,hv];rfl
     rw[hS];simp only[go_sem];refine call ano [] ?_;obtain⟨q0,hq0,hq1⟩:=ajh b;have hkl:kK.length=64:=rfl;simp only[go_sem,hkl];refine loop Tryz.mixed 0 (fun q:Nat=>[(3,.vs (((agb b).drop (64*q)).map u8)),(6,.ptr 6 0),(7,.ptr 7 0)]) (fun q=>[(6,.cells ((hs b q).map c4)),(7,.cells (kK.map c4))]) (fun q=>q<=q0) (fun q=>q0 - q) (by kernel_rfl) ?_ ?_ ?_
     ·simp
     ·simp only[go_sem,hs];rfl
     ·intro q hq;have hhl:=aj1 b q;by_cases hq':q<q0
      ·have hdl:((agb b).drop (64*q)).length=64*(q0 - q):=by simp;omega
       have hcl:(((agb b).drop (64*q)).take 64).length=64:=by simp;omega
       have hpos:(0:Int)<((64*(q0 - q):Nat):Int):=by omega
       simp only[go_sem,hdl,hpos];refine⟨by omega,?_⟩;refine call (ant (hs b q) _ kK hhl hcl hkl) [6,7] ?_;simp only[go_sem,hdl,hpos];refine⟨⟨by omega,by omega,by omega⟩,q+1,⟨by omega,by omega⟩,?_,?_⟩
       ·rw[List.take_of_length_le (by omega),List.drop_drop,Nat.mul_succ]
       ·rw[hs,List.take_drop]
      ·have hq2:q=q0:=by omega
       subst hq2;have hdl:(agb b).drop (64*q)=[]:=by simp;omega
       rw[hdl];have ht8:(hs b q).take 8=hs b q:=by rw[<-hhl,List.take_length]
       simp only[go_sem,ht8,hhl];have hsha:sha b=(hs b q).flatMap alv:=by rw[sha,hq0,Nat.mul_div_cancel_left _ (by omega)]
       generalize hV:hs b q=V at*;refine dm 8 14 5 1 false ?_ ?_ ?_ (by omega)
       ·refine loop Tryz.mixed 0 (fun j:Nat=>[(48,.agg (V.map c4)),(8,.os 14 ((V.take j).flatMap alv).length),(49,.int .i64 j)]) (fun j=>[(14,.arr 5 1 false (((V.take j).flatMap alv).map u8))]) (fun j=>j<=8) (fun j=>8 - j) (by kernel_rfl) ?_ ?_ ?_
        ·simp
        ·simp only[go_sem,List.take_zero,List.flatMap_nil]
        ·intro j hj
         have hjl:((V.take j).flatMap alv).length=4*j:=by
          rw[abo];simp;omega
         by_cases hj':j<8
         ·simp only[go_sem,hhl];refine⟨fun _=>⟨⟨hj',hj'⟩,by omega,j+1,⟨by omega,by omega⟩,?_⟩,fun h=>by omega⟩;rw[c9 (by omega),yn,yn,yn,apk];simp only[go_sem,List.flatMap_append,List.map_append,List.flatMap_cons,List.flatMap_nil,alv];rw[ai]<;>omega
         ·have hj2:j=8:=by omega
          have hf: ¬((j:Int)<8):=by omega
          have hV8:V.take j=V:=by rw[hj2,<-hhl,List.take_length]
          rw[hV8,<-hsha];simp only[go_sem,hf];exact⟨_,rfl,rfl⟩
       ·simp only[go_sem]
       ·simp only[go_sem]
structure Pn where
 au:Int
 he:Int
 di:List UInt8
deriving Inhabited,DecidableEq
structure Stm where
 au:Int
 nu:Int
 prev:List UInt8
 ti:Int
 kd:Int
 a:Int
 b:Int
 c:Int
 li:List Int
 pins:List Pn
 body:List UInt8
 sk:Int
 sd:List UInt8
deriving Inhabited,DecidableEq
def pn(p:Pn):List PV:=[.int .i64 p.au,.int .i64 p.he,.str p.di]
theorem a8i(p:Pn):pn p=[.int .i64 p.au,.int .i64 p.he,.str p.di]:=(rfl)
def sm(s:Stm):List PV:=[.int .i64 s.au,.int .i64 s.nu,.str s.prev,.int .i64 s.ti,.int .i64 s.kd,.int .i64 s.a,.int .i64 s.b,.int .i64 s.c,.vs (s.li.map i1),.vs (s.pins.map pn),.str s.body,.int .i64 s.sk,.str s.sd]
theorem awx(s:Stm):sm s=[.int .i64 s.au,.int .i64 s.nu,.str s.prev,.int .i64 s.ti,.int .i64 s.kd,.int .i64 s.a,.int .i64 s.b,.int .i64 s.c,.vs (s.li.map i1),.vs (s.pins.map pn),.str s.body,.int .i64 s.sk,.str s.sd]:=(rfl)
attribute [go_sem] a8i awx
def txB(s:List UInt8):List UInt8:=be8 s.length++s
def pnB(p:Pn):List UInt8:=be8 p.au++(be8 p.he++txB p.di)
def hdB(s:Stm):List UInt8:=be8 s.au++(be8 s.nu++txB s.prev)
def l5(s:Stm):List Int:=[s.ti,s.kd,s.a,s.b,s.c]
def aan(s:Stm):List UInt8:=hdB s++beL (l5 s)
def ui(s:Stm):List UInt8:=aan s++((be8 s.li.length++beL s.li)++be8 s.pins.length)
def stB(s:Stm):List UInt8:=(ui s++s.pins.flatMap pnB)++txB s.body
def okS(s:Stm):Prop:=(stB s).length<=1000000000
theorem fe(s:List UInt8):(txB s).length=8+s.length:=by simp[txB,aw]
theorem wm{l:List Pn}{i:Nat}(h:i<l.length):(l.take (i+1)).flatMap pnB=(l.take i).flatMap pnB++pnB (el l i):=by
 rw[c9 h];simp
theorem ade(l:List Pn)(i:Nat):((l.take i).flatMap pnB).length<=(l.flatMap pnB).length:=by
 have h:l.flatMap pnB=(l.take i).flatMap pnB++(l.drop i).flatMap pnB:=by rw[<-List.flatMap_append,List.take_append_drop]
 rw[h,List.length_append];omega
theorem ad7{l:List Pn}{i:Nat}(h:i<l.length):((l.take i).flatMap pnB).length+(24+(el l i).di.length)<=(l.flatMap pnB).length:=by
 have h1:=ade l (i+1);rw[wm h,List.length_append]at h1;simp only[pnB,List.length_append,aw,fe]at h1;omega
theorem n8(l:List Pn):24*l.length<=(l.flatMap pnB).length:=by
 induction l with
 |nil=>simp
 |cons p r ih=>simp only[List.flatMap_cons,List.length_append,List.length_cons,pnB,aw,fe];omega
theorem anw(bs:List UInt8)(v:Int)(hb:small bs.length):Den Tryz.prog 146 [.vs (bs.map u8),.int .i64 v] [] (.vs ((bs++be8 v).map u8)) [] []:=
 (va bs v hb).vs (by simp) trivial rfl
theorem at9(bs s:List UInt8)(hb:small bs.length)(hs:small s.length):Den Tryz.prog 145 [.vs (bs.map u8),.str s] [] (.vs ((bs++txB s).map u8)) [] []:=
 (at1 bs s hb hs).vs (by simp[txB]) trivial rfl
theorem a6e(bs:List UInt8)(l:List Int)(hb:bs.length<=1000000000)(hl:l.length<=1000000000):Den Tryz.prog 147 [.vs (bs.map u8),.vs (l.map i1)] [] (.vs ((bs++(be8 l.length++beL l)).map u8)) [] []:=arp bs l hb hl
theorem amq(bs:List UInt8)(v:Int)(hb:small bs.length):Den Tryz.prog 229 [.vs (bs.map u8),.int .i64 v] [] (.vs ((bs++be8 v).map u8)) [] []:=
 (abs bs v hb).vs (by simp) trivial rfl
theorem aqf(bs s:List UInt8)(hb:small bs.length)(hs:small s.length):Den Tryz.prog 230 [.vs (bs.map u8),.str s] [] (.vs ((bs++txB s).map u8)) [] []:=
 (aqy bs s hb hs).vs (by simp[txB]) trivial rfl
theorem a7r(bs:List UInt8)(l:List Int)(hb:bs.length<=1000000000)(hl:l.length<=1000000000):Den Tryz.prog 231 [.vs (bs.map u8),.vs (l.map i1)] [] (.vs ((bs++(be8 l.length++beL l)).map u8)) [] []:=
 (aq1 bs l hb hl).vs (by simp) trivial rfl
theorem aoo(s:Stm)(hs:okS s):Den Tryz.prog 125 [.agg (sm s)] [] (.vs ((stB s).map u8)) [] []:=by
 refine aa Tryz.func125 rfl Tryz.call125 Tryz.ntmps125 Tryz.results125 (by simp) (by kernel_rfl) [] (exts:=[]) rfl rfl ?_;simp only[okS,stB,ui,aan,hdB,List.length_append,dw,aw,fe,l5,List.length_cons,List.length_nil]at hs;simp only[go_sem];refine call (anw [] s.au (by simp only[small,List.length_nil];omega)) [] ?_;simp only[go_sem];refine call (anw (be8 s.au) s.nu (by simp only[small,aw];omega)) [] ?_;simp only[go_sem];refine call (at9 (be8 s.au++be8 s.nu) s.prev (by simp only[small,List.length_append,aw];omega) (by simp only[small];omega)) [] ?_;simp only[go_sem]
 (repeat refine And.intro (by first|omega|exact ae (by kernel_rfl)) ?_)
 have hh:(hdB s).length=24+s.prev.length:=by simp only[hdB,List.length_append,aw,fe];omega
 refine loop Tryz.mixed 0 (fun i:Nat=>[(1,.ptr 1 0),(3,.vs ((hdB s++beL ((l5 s).take i)).map u8)),(27,.vs ((l5 s).map i1)),(28,.int .i64 5),(29,.int .i64 i)]) (fun i=>[(1,.cells (sm s))]) (fun i=>i<=5) (fun i=>5 - i) (by kernel_rfl) ?_ ?_ ?_
 ·simp
 ·simp only[go_sem,hdB,List.append_assoc,List.take_zero,beL,List.flatMap_nil,l5,txB]
 ·intro i hi;have hl5:(l5 s).length=5:=rfl;have htl:((l5 s).take i).length=i:=by simp[hl5];omega
  simp only[go_sem,hl5];refine⟨fun h=>⟨by omega,?_⟩,fun h=> ?_⟩
  ·refine call (anw (hdB s++beL ((l5 s).take i)) (el (l5 s) i) (by simp only[small,List.length_append,hh,dw,htl];omega)) [] ?_;simp only[go_sem];refine⟨i+1,⟨by omega,by omega⟩,?_,?_⟩
   ·rw[c9 (by omega),i8,List.append_assoc];simp[beL]
   ·rw[ai]<;>omega
  ·have hi5:i=5:=by omega
   subst hi5;have hp1:hdB s++beL ((l5 s).take 5)=aan s:=rfl;have hp1l:(aan s).length=64+s.prev.length:=by simp only[aan,List.length_append,hh,dw,hl5];omega
   rw[hp1];refine call (a6e (aan s) s.li (by omega) (by omega)) [] ?_;simp only[go_sem];refine call (anw (aan s++(be8 s.li.length++beL s.li)) s.pins.length (by simp only[small,List.length_append,hp1l,dw,aw];omega)) [] ?_;simp only[go_sem]
   (repeat refine And.intro (by first|omega|exact ae (by kernel_rfl)) ?_)
   have hp2l:(ui s).length=80+s.prev.length+8*s.li.length:=by simp only[ui,List.length_append,hp1l,dw,aw];omega
   refine loop Tryz.mixed 0 (fun i:Nat=>[(1,.ptr 1 0),(3,.vs ((ui s++(s.pins.take i).flatMap pnB).map u8)),(6,.int .i64 i)]) (fun i=>[(1,.cells (sm s))]) (fun i=>i<=s.pins.length) (fun i=>s.pins.length - i) (by kernel_rfl) ?_ ?_ ?_
   ·simp
   ·simp only[go_sem,ui,List.append_assoc,List.take_zero,List.flatMap_nil]
   ·intro i hi;by_cases hi':i<s.pins.length
    ·have hfs:=ad7 hi';have hfg:=n8 s.pins;simp only[go_sem];refine⟨fun _=>⟨by omega,?_⟩,fun h=>by omega⟩;refine call (anw (ui s++(s.pins.take i).flatMap pnB) (el s.pins i).au (by simp only[small,List.length_append,hp2l];omega)) [] ?_;simp only[go_sem];refine call (anw (ui s++(s.pins.take i).flatMap pnB++be8 (el s.pins i).au) (el s.pins i).he (by simp only[small,List.length_append,hp2l,aw];omega)) [] ?_;simp only[go_sem];refine call (at9 (ui s++(s.pins.take i).flatMap pnB++be8 (el s.pins i).au++be8 (el s.pins i).he) (el s.pins i).di (by simp only[small,List.length_append,hp2l,aw];omega) (by simp only[small];omega)) [] ?_;simp only[go_sem]
     (repeat refine And.intro (by first|omega|exact ae (by kernel_rfl)) ?_)
     refine⟨i+1,⟨by omega,by omega⟩,?_,?_⟩
     ·rw[wm hi'];simp only[pnB,List.append_assoc]
     ·rw[ai]<;>omega
    ·have hi2:i=s.pins.length:=by omega
     have hf: ¬((i:Int)<(s.pins.length:Int)):=by omega
     simp only[go_sem,hf];rw[hi2,List.take_length];refine call (at9 (ui s++s.pins.flatMap pnB) s.body (by simp only[small,List.length_append,hp2l];omega) (by simp only[small];omega)) [] ?_;simp only[go_sem];rfl
theorem amj(s:Stm)(hs:okS s):Den Tryz.prog 217 [.agg (sm s)] [] (.vs ((stB s).map u8)) [] []:=by
 refine aa Tryz.func217 rfl Tryz.call217 Tryz.ntmps217 Tryz.results217 (by simp) (by kernel_rfl) [] (exts:=[]) rfl rfl ?_;simp only[okS,stB,ui,aan,hdB,List.length_append,dw,aw,fe,l5,List.length_cons,List.length_nil]at hs;simp only[go_sem];refine call (amq [] s.au (by simp only[small,List.length_nil];omega)) [] ?_;simp only[go_sem];refine call (amq (be8 s.au) s.nu (by simp only[small,aw];omega)) [] ?_;simp only[go_sem];refine call (aqf (be8 s.au++be8 s.nu) s.prev (by simp only[small,List.length_append,aw];omega) (by simp only[small];omega)) [] ?_;simp only[go_sem]
 (repeat refine And.intro (by first|omega|exact ae (by kernel_rfl)) ?_)
 have hh:(hdB s).length=24+s.prev.length:=by simp only[hdB,List.length_append,aw,fe];omega
 refine loop Tryz.mixed 0 (fun i:Nat=>[(1,.ptr 1 0),(3,.vs ((hdB s++beL ((l5 s).take i)).map u8)),(29,.agg ((l5 s).map c8)),(30,.int .i64 i)]) (fun i=>[(1,.cells (sm s))]) (fun i=>i<=5) (fun i=>5 - i) (by kernel_rfl) ?_ ?_ ?_
 ·simp
 ·simp only[go_sem,hdB,List.append_assoc,List.take_zero,beL,List.flatMap_nil,l5,txB,c8]
 ·intro i hi;have hl5:(l5 s).length=5:=rfl;have htl:((l5 s).take i).length=i:=by simp[hl5];omega
  simp only[go_sem,hl5];refine⟨fun h=>⟨⟨by omega,by omega⟩,?_⟩,fun h=> ?_⟩
  ·refine call (amq (hdB s++beL ((l5 s).take i)) (el (l5 s) i) (by simp only[small,List.length_append,hh,dw,htl];omega)) [] ?_;simp only[go_sem];refine⟨i+1,⟨by omega,by omega⟩,?_,?_⟩
   ·rw[c9 (by omega),i8,List.append_assoc];simp[beL]
   ·rw[ai]<;>omega
  ·have hi5:i=5:=by omega
   subst hi5;have hp1:hdB s++beL ((l5 s).take 5)=aan s:=rfl;have hp1l:(aan s).length=64+s.prev.length:=by simp only[aan,List.length_append,hh,dw,hl5];omega
   rw[hp1];refine call (a7r (aan s) s.li (by omega) (by omega)) [] ?_;simp only[go_sem];refine call (amq (aan s++(be8 s.li.length++beL s.li)) s.pins.length (by simp only[small,List.length_append,hp1l,dw,aw];omega)) [] ?_;simp only[go_sem]
   (repeat refine And.intro (by first|omega|exact ae (by kernel_rfl)) ?_)
   have hp2l:(ui s).length=80+s.prev.length+8*s.li.length:=by simp only[ui,List.length_append,hp1l,dw,aw];omega
   refine loop Tryz.mixed 0 (fun i:Nat=>[(1,.ptr 1 0),(3,.vs ((ui s++(s.pins.take i).flatMap pnB).map u8)),(47,.vs (s.pins.map pn)),(48,.int .i64 s.pins.length),(49,.int .i64 i)]) (fun i=>[(1,.cells (sm s))]) (fun i=>i<=s.pins.length) (fun i=>s.pins.length - i) (by kernel_rfl) ?_ ?_ ?_
   ·simp
   ·simp only[go_sem,ui,List.append_assoc,List.take_zero,List.flatMap_nil]
   ·intro i hi;by_cases hi':i<s.pins.length
    ·have hfs:=ad7 hi';have hfg:=n8 s.pins;simp only[go_sem];refine⟨fun _=>⟨by omega,?_⟩,fun h=>by omega⟩;refine call (amq (ui s++(s.pins.take i).flatMap pnB) (el s.pins i).au (by simp only[small,List.length_append,hp2l];omega)) [] ?_;simp only[go_sem];refine call (amq (ui s++(s.pins.take i).flatMap pnB++be8 (el s.pins i).au) (el s.pins i).he (by simp only[small,List.length_append,hp2l,aw];omega)) [] ?_;simp only[go_sem];refine call (aqf (ui s++(s.pins.take i).flatMap pnB++be8 (el s.pins i).au++be8 (el s.pins i).he) (el s.pins i).di (by simp only[small,List.length_append,hp2l,aw];omega) (by simp only[small];omega)) [] ?_;simp only[go_sem]
     (repeat refine And.intro (by first|omega|exact ae (by kernel_rfl)) ?_)
     refine⟨i+1,⟨by omega,by omega⟩,?_,?_⟩
     ·rw[wm hi'];simp only[pnB,List.append_assoc]
     ·rw[ai]<;>omega
    ·have hi2:i=s.pins.length:=by omega
     have hf: ¬((i:Int)<(s.pins.length:Int)):=by omega
     simp only[go_sem,hf];rw[hi2,List.take_length];refine call (aqf (ui s++s.pins.flatMap pnB) s.body (by simp only[small,List.length_append,hp2l];omega) (by simp only[small];omega)) [] ?_;simp only[go_sem];rfl
def dig(s:Stm):List UInt8:=sha (stB s)
theorem akh(s:Stm)(hs:okS s):Den Tryz.prog 95 [.agg (sm s)] [] (.str (dig s)) [] []:=by
 refine aa Tryz.func95 rfl Tryz.call95 Tryz.ntmps95 Tryz.results95 (by simp) (by kernel_rfl) [] (exts:=[]) rfl rfl ?_;simp only[go_sem];refine call (aoo s hs) [] ?_;simp only[go_sem];refine call (aav (stB s) hs) [] ?_;simp only[go_sem];rfl
theorem avv(s:Stm)(hs:okS s):Den Tryz.prog 191 [.agg (sm s)] [] (.str (dig s)) [] []:=by
 refine aa Tryz.func191 rfl Tryz.call191 Tryz.ntmps191 Tryz.results191 (by simp) (by kernel_rfl) [] (exts:=[]) rfl rfl ?_;simp only[go_sem];refine call (amj s hs) [] ?_;simp only[go_sem];refine call (ul (stB s) hs) [] ?_;simp only[go_sem];rfl
theorem aox(s:Stm)(hs:okS s):Den Tryz.prog 162 [.agg (sm s)] [] (.bool (decide (s.sk=s.au/\s.sd=dig s))) [] []:=by
 refine aa Tryz.func162 rfl Tryz.call162 Tryz.ntmps162 Tryz.results162 (by simp) (by kernel_rfl) [] (exts:=[]) rfl rfl ?_;simp only[go_sem];refine call (avv s hs) [] ?_;simp only[go_sem]
 (repeat refine And.intro (by first|omega|exact ae (by kernel_rfl)) ?_)
 simp
theorem avq(s:Stm)(hs:okS s):Den Tryz.prog 94 [.agg (sm s)] [] (.agg (sm s)) [] []:=by
 refine aa Tryz.func94 rfl Tryz.call94 Tryz.ntmps94 Tryz.results94 (by simp) (by kernel_rfl) [] (exts:=[]) rfl rfl ?_;simp only[okS,stB,ui,aan,hdB,List.length_append,dw,aw,fe,l5,List.length_cons,List.length_nil]at hs;have:=n8 s.pins;simp only[go_sem];omega
def al4(s:Stm):Stm:={s with sk:=s.au,sd:=dig s}
theorem akd(s:Stm)(hs:okS s):Den Tryz.prog 72 [.agg (sm s)] [] (.agg (sm (al4 s))) [] []:=by
 refine aa Tryz.func72 rfl Tryz.call72 Tryz.ntmps72 Tryz.results72 (by simp) (by kernel_rfl) [] (exts:=[]) rfl rfl ?_;simp only[go_sem];refine call (avq s hs) [] ?_;simp only[go_sem];refine call (akh s hs) [] ?_;simp only[go_sem]
 (repeat refine And.intro (by first|omega|exact ae (by kernel_rfl)) ?_)
 exact⟨rfl,rfl,rfl,rfl,rfl,rfl,rfl,rfl,rfl,rfl,rfl,rfl,rfl⟩
def inB(x lo hi:Int):Bool:=decide (lo<=x/\x<=hi)
theorem gh(x lo hi:Int):Den Tryz.prog 86 [.int .i64 x,.int .i64 lo,.int .i64 hi] [] (.bool (inB x lo hi)) [] []:=by
 refine aa Tryz.func86 rfl Tryz.call86 Tryz.ntmps86 Tryz.results86 (by simp) (by kernel_rfl) [] (exts:=[]) rfl rfl ?_;by_cases h:lo<=x
 ·simp only[go_sem,h,inB]
 ·simp only[go_sem,h,inB]
def ja(x:Int):Bool:=inB x 0 1099511627776
theorem jp(x:Int):Den Tryz.prog 212 [.int .i64 x] [] (.bool (ja x)) [] []:=by
 refine aa Tryz.func212 rfl Tryz.call212 Tryz.ntmps212 Tryz.results212 (by simp) (by kernel_rfl) [] (exts:=[]) rfl rfl ?_;simp only[go_sem];refine call (gh x 0 1099511627776) [] ?_;simp only[go_sem];rfl
theorem z8(x:Int):Den Tryz.prog 214 [.int .i64 x] [] (.bool (!ja x)) [] []:=by
 refine aa Tryz.func214 rfl Tryz.call214 Tryz.ntmps214 Tryz.results214 (by simp) (by kernel_rfl) [] (exts:=[]) rfl rfl ?_;simp only[go_sem];refine call (jp x) [] ?_;simp only[go_sem]
def ef(s:Stm):Bool:=
 if s.kd=1 then inB s.a 0 63&&decide (s.a≠s.au)&&inB s.b 1 3&&inB s.c s.ti 2147483648
 else if s.kd=2 then inB s.a 0 199&&decide (s.b=0)&&decide (s.c=0)
 else if s.kd=3 then decide (s.a=0)&&decide (s.b=0)&&decide (s.c=0)
 else true
theorem ac2(s:Stm):Den Tryz.prog 213 [.agg (sm s)] [] (.bool (ef s)) [] []:=by
 refine aa Tryz.func213 rfl Tryz.call213 Tryz.ntmps213 Tryz.results213 (by simp) (by kernel_rfl) [] (exts:=[]) rfl rfl ?_;by_cases h1:s.kd=1
 ·have hm:ef s=(inB s.a 0 63&&decide (s.a≠s.au)&&inB s.b 1 3&&inB s.c s.ti 2147483648):=if_pos h1;rw[hm];simp only[go_sem,h1];refine call (gh s.a 0 63) [] ?_
  cases e1:inB s.a 0 63
  ·simp only[go_sem]
  ·by_cases e2:s.a=s.au
   ·simp only[go_sem,e2]
   ·simp only[go_sem,e2];refine call (gh s.b 1 3) [] ?_
    cases e3:inB s.b 1 3
    ·simp only[go_sem]
    ·simp only[go_sem];refine call (gh s.c s.ti 2147483648) [] ?_;simp only[go_sem]
 ·by_cases h2:s.kd=2
  ·have hm:ef s=(inB s.a 0 199&&decide (s.b=0)&&decide (s.c=0)):=by rw[ef,if_neg h1,if_pos h2]
   rw[hm];simp only[go_sem,h1,h2];refine call (gh s.a 0 199) [] ?_
   cases e1:inB s.a 0 199
   ·simp only[go_sem]
   ·by_cases e2:s.b=0
    ·simp only[go_sem,e2]
    ·simp only[go_sem,e2]
  ·by_cases h3:s.kd=3
   ·have hm:ef s=(decide (s.a=0)&&decide (s.b=0)&&decide (s.c=0)):=by rw[ef,if_neg h1,if_neg h2,if_pos h3]
    rw[hm];by_cases e1:s.a=0
    ·by_cases e2:s.b=0
     ·simp only[go_sem,h3,e1,e2]
     ·simp only[go_sem,h3,e1,e2]
    ·simp only[go_sem,h3,e1]
   ·have hm:ef s=true:=by rw[ef,if_neg h1,if_neg h2,if_neg h3]
    rw[hm];simp only[go_sem,h1,h2,h3]
def lh(l:List Pn)(i:Nat):Bool:=inB (el l i).au 0 63&& !(decide (0<i)&&decide ((el l i).au<=(el l (i - 1)).au))&&inB (el l i).he 1 200&&decide ((el l i).di.length=32)
def j1(l:List Pn):Bool:=decide (∀i,i<l.length->lh l i=true)
theorem q8{l:List Pn}(h: ∀i,i<l.length->lh l i=true):j1 l=true:=decide_eq_true h
theorem bu{l:List Pn}{i:Nat}(hi:i<l.length)(h:lh l i=false):j1 l=false:=
 decide_eq_false fun h'=>by rw[h' i hi]at h;cases h
theorem m7(l:List Pn)(hl:big l.length):Den Tryz.prog 215 [.vs (l.map pn)] [] (.bool (j1 l)) [] []:=by
 refine aa Tryz.func215 rfl Tryz.call215 Tryz.ntmps215 Tryz.results215 (by simp) (by kernel_rfl) [] (exts:=[]) rfl rfl ?_;simp only[go_sem];refine loop Tryz.mixed 0 (fun i:Nat=>[(0,.vs (l.map pn)),(5,.vs (l.map pn)),(6,.int .i64 l.length),(7,.int .i64 i)]) (fun i=>[]) (fun i=>i<=l.length/\∀j,j<i->lh l j=true) (fun i=>l.length - i) (by kernel_rfl) ?_ ?_ ?_
 ·simp
 ·simp only[go_sem]
 ·rintro i ⟨hi,hp⟩;by_cases hi':i<l.length
  ·have hlt:(i:Int)<(l.length:Int):=by omega
   simp only[go_sem,hlt,hi'];refine call (gh (el l i).au 0 63) [] ?_
   cases e1:inB (el l i).au 0 63
   ·have hq:lh l i=false:=by simp[lh,e1]
    simp only[go_sem];exact⟨ae (by kernel_rfl),(bu hi' hq).symm⟩
   ·have tail: ∀(_:(decide (0<i)&&decide ((el l i).au<=(el l (i - 1)).au))=false),∀b,b=(inB (el l i).he 1 200&&decide ((el l i).di.length=32))->lh l i=b:=fun h b hb=>by
     rw[hb,lh,e1,h];simp
    by_cases e2:0<i
    ·have e2':(0:Int)<(i:Int):=by omega
     have e3:IntKind.i64.wrap ((i:Int) - 1)=((i - 1:Nat):Int):=by rw[ai]<;>omega
     have e4:i - 1<l.length:=by omega
     by_cases e5:(el l i).au<=(el l (i - 1)).au
     ·have hq:lh l i=false:=by simp[lh,e1,e2,e5]
      simp only[go_sem,e2',e3,e4,e5];exact⟨ae (by kernel_rfl),(bu hi' hq).symm⟩
     ·have tail:=tail (by simp[e5]);simp only[go_sem,e2',e3,e4,e5];refine call (gh (el l i).he 1 200) [] ?_
      cases e6:inB (el l i).he 1 200
      ·have hq:=tail false (by simp[e6]);simp only[go_sem];exact⟨ae (by kernel_rfl),(bu hi' hq).symm⟩
      ·by_cases e7:(el l i).di.length=32
       ·have hq:=tail true (by simp[e6,e7]);have e7':((el l i).di.length:Int)=32:=by omega
        simp only[go_sem,e7'];refine⟨ae (by kernel_rfl),i+1,⟨⟨by omega,fun j hj=> ?_⟩,by omega⟩,by rw[ai]<;>omega⟩;by_cases hji:j=i
        ·rw[hji];exact hq
        ·exact hp j (by omega)
       ·have hq:=tail false (by simp[e7]);have e7': ¬((el l i).di.length:Int)=32:=by omega
        simp only[go_sem,e7'];exact⟨ae (by kernel_rfl),(bu hi' hq).symm⟩
    ·have e2': ¬(0:Int)<(i:Int):=by omega
     have tail:=tail (by simp[e2]);simp only[go_sem,e2'];refine call (gh (el l i).he 1 200) [] ?_
     cases e6:inB (el l i).he 1 200
     ·have hq:=tail false (by simp[e6]);simp only[go_sem];exact⟨ae (by kernel_rfl),(bu hi' hq).symm⟩
     ·by_cases e7:(el l i).di.length=32
      ·have hq:=tail true (by simp[e6,e7]);have e7':((el l i).di.length:Int)=32:=by omega
       simp only[go_sem,e7'];refine⟨ae (by kernel_rfl),i+1,⟨⟨by omega,fun j hj=> ?_⟩,by omega⟩,by rw[ai]<;>omega⟩;by_cases hji:j=i
       ·rw[hji];exact hq
       ·exact hp j (by omega)
      ·have hq:=tail false (by simp[e7]);have e7': ¬((el l i).di.length:Int)=32:=by omega
       simp only[go_sem,e7'];exact⟨ae (by kernel_rfl),(bu hi' hq).symm⟩
  ·have hf: ¬((i:Int)<(l.length:Int)):=by omega
   have:i=l.length:=by omega
   subst this;simp only[go_sem,hf];exact(q8 hp).symm
theorem zk{α:Type} [Inhabited α](l:List α)(i:Nat)(h:i<l.length):el l i=l[i]:=by simp[el,bq,h]
def az2(p:Int->Bool)(l:List Int):Int:=match l.findIdx? p with|some i=>(i:Int)|none=> -1
theorem a2x{p:Int->Bool}{l:List Int}{i:Nat}(hi:i<l.length)(h:p (el l i)=true)(hb: ∀j,j<i->p (el l j)=false):az2 p l=i:=by
 have:l.findIdx? p=some i:=by
  rw[List.findIdx?_eq_some_iff_getElem];refine⟨hi,by rw[<-zk];exact h,fun j hj=> ?_⟩;have:=hb j hj;rw[zk l j (by omega)]at this;simp[this]
 rw[az2,this]
theorem aq4{p:Int->Bool}{l:List Int}(hb: ∀j,j<l.length->p (el l j)=false):az2 p l= -1:=by
 have:l.findIdx? p=none:=by
  rw[List.findIdx?_eq_none_iff];intro x hx;obtain⟨j,hj,rfl⟩:=List.getElem_of_mem hx;have:=hb j hj;rw[zk l j hj]at this;exact this
 rw[az2,this]
theorem axg(p:Int->Bool)(l:List Int):decide (0<=az2 p l)=l.any p:=by
 cases h:l.any p with
 |false=>
  have:l.findIdx? p=none:=by
   rw[List.findIdx?_eq_none_iff];intro x hx;rw[List.any_eq_false]at h;simpa using h x hx
  rw[az2,this];rfl
 |true=>
  cases hf:l.findIdx? p with
  |none=>
   rw[List.findIdx?_eq_none_iff]at hf;rw[List.any_eq_true]at h;obtain⟨x,hx,hp⟩:=h;rw[hf x hx]at hp
   cases hp
  |some i=>rw[az2,hf];simp
theorem am9(p:Int->Bool)(f:FuncId)(hf: ∀x,Den Tryz.prog f [.int .i64 x] [] (.bool (p x)) [] [])(l:List Int)(hl:big l.length):Den Tryz.prog 120 [.vs (l.map i1),.fn f []] [] (.int .i64 (az2 p l)) [] []:=by
 refine aa Tryz.func120 rfl Tryz.call120 Tryz.ntmps120 Tryz.results120 (by simp) (by kernel_rfl) [] (exts:=[]) rfl rfl ?_;simp only[go_sem];refine loop Tryz.mixed 0 (fun i:Nat=>[(0,.vs (l.map i1)),(1,.fn f []),(7,.int .i64 l.length),(8,.int .i64 i)]) (fun i=>[]) (fun i=>i<=l.length/\∀j,j<i->p (el l j)=false) (fun i=>l.length - i) (by kernel_rfl) ?_ ?_ ?_
 ·simp
 ·simp only[go_sem]
 ·rintro i ⟨hi,hp⟩;by_cases hi':i<l.length
  ·have hlt:(i:Int)<(l.length:Int):=by omega
   simp only[go_sem,hlt,hi'];refine call (hf (el l i)) [] ?_
   cases e:p (el l i)
   ·simp only[go_sem];refine⟨i+1,⟨⟨by omega,fun j hj=> ?_⟩,by omega⟩,by rw[ai]<;>omega⟩;by_cases hji:j=i
    ·rw[hji];exact e
    ·exact hp j (by omega)
   ·simp only[go_sem];rw[a2x hi' e hp]
  ·have hf: ¬((i:Int)<(l.length:Int)):=by omega
   have:i=l.length:=by omega
   subst this;simp only[go_sem,hf];rw[aq4 hp]
theorem k9(p:Int->Bool)(f:FuncId)(hf: ∀x,Den Tryz.prog f [.int .i64 x] [] (.bool (p x)) [] [])(l:List Int)(hl:big l.length):Den Tryz.prog 91 [.vs (l.map i1),.fn f []] [] (.bool (l.any p)) [] []:=by
 refine aa Tryz.func91 rfl Tryz.call91 Tryz.ntmps91 Tryz.results91 (by simp) (by kernel_rfl) [] (exts:=[]) rfl rfl ?_;simp only[go_sem];refine call (am9 p f hf l hl) [] ?_;simp only[go_sem];exact axg p l
theorem z0:inB 0 0 199=true:=rfl
def am(s:Stm):Int:=
 if inB s.au 0 63=false then 4
 else if(!inB s.kd 1 3&& !inB s.kd 10 31)=true then 5
 else if inB s.ti 0 2147483648=false then 9
 else if(!inB s.nu 0 199|| !ja s.a|| !ja s.b|| !ja s.c|| !ef s||s.li.any fun x=> !ja x)=true then 2
 else if(decide (64<s.li.length)||decide (64<s.pins.length)||decide (4096<s.body.length))=true then 3
 else if((decide (s.nu=0)&&decide (s.prev≠[]))||(decide (0<s.nu)&&decide (s.prev.length≠32))|| !j1 s.pins||(decide (s.kd<=3)&&decide (0<s.li.length+s.pins.length+s.body.length)))=true then 1
 else 0
def uv(s:Stm):Prop:=big s.li.length/\big s.pins.length
theorem okS.big{s:Stm}(hs:okS s):uv s:=by
 simp only[okS,stB,ui,aan,hdB,List.length_append,dw,aw,fe,l5,List.length_cons,List.length_nil]at hs;have hfg:=n8 s.pins;exact⟨by simp only[Am.big];omega,by simp only[Am.big];omega⟩
theorem aae(s:Stm)(hs:uv s):Den Tryz.prog 189 [.agg (sm s)] [] (.int .i64 (am s)) [] []:=by
 obtain⟨hbl,hbp⟩:=hs;refine aa Tryz.func189 rfl Tryz.call189 Tryz.ntmps189 Tryz.results189 (by simp) (by kernel_rfl) [] (exts:=[]) rfl rfl ?_;generalize hm:am s=m;simp only[go_sem];refine call (gh s.au 0 63) [] ?_
 cases e1:inB s.au 0 63
 ·simp only[go_sem];rw[<-hm];simp only[am,e1];rfl
 simp only[go_sem];refine call (gh s.kd 1 3) [] ?_
 cases e2:inB s.kd 1 3
 ·simp only[go_sem];refine call (gh s.kd 10 31) [] ?_
  cases e3:inB s.kd 10 31
  ·simp only[go_sem];rw[<-hm];simp[am,e1,e2,e3]
  have ek:(!inB s.kd 1 3&& !inB s.kd 10 31)=false:=by simp[e2,e3]
  simp only[go_sem];refine call (gh s.ti 0 2147483648) [] ?_
  cases e4:inB s.ti 0 2147483648
  ·simp only[go_sem];rw[<-hm];simp[am,e1,ek,e4]
  simp only[go_sem];refine call (gh s.nu 0 199) [] ?_
  cases e5:inB s.nu 0 199
  ·simp only[go_sem];rw[<-hm];simp[am,e1,ek,e4,e5]
  simp only[go_sem];refine call (jp s.a) [] ?_
  cases e6:ja s.a
  ·simp only[go_sem];rw[<-hm];simp[am,e1,ek,e4,e5,e6]
  simp only[go_sem];refine call (jp s.b) [] ?_
  cases e7:ja s.b
  ·simp only[go_sem];rw[<-hm];simp[am,e1,ek,e4,e5,e6,e7]
  simp only[go_sem];refine call (jp s.c) [] ?_
  cases e8:ja s.c
  ·simp only[go_sem];rw[<-hm];simp[am,e1,ek,e4,e5,e6,e7,e8]
  simp only[go_sem];refine call (ac2 s) [] ?_
  cases e9:ef s
  ·simp only[go_sem];rw[<-hm];simp[am,e1,ek,e4,e5,e6,e7,e8,e9]
  simp only[go_sem];refine call (k9 (fun x=> !ja x) 214 z8 s.li hbl) [] ?_
  cases e10:(s.li.any fun x=> !ja x)
  rotate_left
  ·simp only[go_sem];rw[<-hm];simp[am,e1,ek,e4,e5,e6,e7,e8,e9,e10]
  by_cases e11:(64:Int)<(s.li.length:Int)
  ·have e11':64<s.li.length:=by omega
   simp only[go_sem,e11];rw[<-hm];simp[am,e1,ek,e4,e5,e6,e7,e8,e9,e10,(show(decide (64<s.li.length)||decide (64<s.pins.length)||decide (4096<s.body.length))=true by simp[e11'])]
  by_cases e12:(64:Int)<(s.pins.length:Int)
  ·have e12':64<s.pins.length:=by omega
   simp only[go_sem,e11,e12];rw[<-hm];simp[am,e1,ek,e4,e5,e6,e7,e8,e9,e10,(show(decide (64<s.li.length)||decide (64<s.pins.length)||decide (4096<s.body.length))=true by simp[e12'])]
  by_cases e13:(4096:Int)<(s.body.length:Int)
  ·have e13':4096<s.body.length:=by omega
   simp only[go_sem,e11,e12,e13];rw[<-hm];simp[am,e1,ek,e4,e5,e6,e7,e8,e9,e10,(show(decide (64<s.li.length)||decide (64<s.pins.length)||decide (4096<s.body.length))=true by simp[e13'])]
  have elen:(decide (64<s.li.length)||decide (64<s.pins.length)||decide (4096<s.body.length))=false:=by simp;omega
  by_cases n0:s.nu=0
  ·by_cases n1:s.prev=[]
   ·simp only[go_sem,e11,e12,e13,n0,n1];refine call (m7 s.pins hbp) [] ?_
    cases e14:j1 s.pins
    ·simp only[go_sem];rw[<-hm];simp[am,e1,ek,e4,e5,e6,e7,e8,e9,e10,elen,n0,z0,n1,e14]
    by_cases e15:s.kd<=3
    ·have w1:IntKind.i64.wrap ((s.li.length:Int)+s.pins.length)=((s.li.length+s.pins.length:Nat):Int):=by rw[ai]<;>omega
     have w2:IntKind.i64.wrap (((s.li.length+s.pins.length:Nat):Int)+s.body.length)=((s.li.length+s.pins.length+s.body.length:Nat):Int):=by rw[ai]<;>omega
     by_cases e16:0<s.li.length+s.pins.length+s.body.length
     ·have e16':(0:Int)<((s.li.length+s.pins.length+s.body.length:Nat):Int):=by omega
      simp only[go_sem,e15,w1,w2,e16'];rw[<-hm];simp[am,e1,ek,e4,e5,e6,e7,e8,e9,e10,elen,n0,z0,n1,e14,e15,e16]
      try omega
     ·have e16': ¬(0:Int)<((s.li.length+s.pins.length+s.body.length:Nat):Int):=by omega
      simp only[go_sem,e15,w1,w2,e16'];rw[<-hm];simp[am,e1,ek,e4,e5,e6,e7,e8,e9,e10,elen,n0,z0,n1,e14,e15,e16]
      try omega
    ·simp only[go_sem,e15];rw[<-hm];simp[am,e1,ek,e4,e5,e6,e7,e8,e9,e10,elen,n0,z0,n1,e14,e15]
   ·simp only[go_sem,e11,e12,e13,n0,n1];rw[<-hm];simp[am,e1,ek,e4,e5,e6,e7,e8,e9,e10,elen,n0,z0,n1]
  ·have n2:0<s.nu:=by simp only[inB,decide_eq_true_eq]at e5;omega
   by_cases n3:(s.prev.length:Int)=32
   ·have n3':s.prev.length=32:=by omega
    simp only[go_sem,e11,e12,e13,n0,n2,n3];refine call (m7 s.pins hbp) [] ?_
    cases e14:j1 s.pins
    ·simp only[go_sem];rw[<-hm];simp[am,e1,ek,e4,e5,e6,e7,e8,e9,e10,elen,n0,n3',e14]
    by_cases e15:s.kd<=3
    ·have w1:IntKind.i64.wrap ((s.li.length:Int)+s.pins.length)=((s.li.length+s.pins.length:Nat):Int):=by rw[ai]<;>omega
     have w2:IntKind.i64.wrap (((s.li.length+s.pins.length:Nat):Int)+s.body.length)=((s.li.length+s.pins.length+s.body.length:Nat):Int):=by rw[ai]<;>omega
     by_cases e16:0<s.li.length+s.pins.length+s.body.length
     ·have e16':(0:Int)<((s.li.length+s.pins.length+s.body.length:Nat):Int):=by omega
      simp only[go_sem,e15,w1,w2,e16'];rw[<-hm];simp[am,e1,ek,e4,e5,e6,e7,e8,e9,e10,elen,n0,n3',e14,e15,e16]
      try omega
     ·have e16': ¬(0:Int)<((s.li.length+s.pins.length+s.body.length:Nat):Int):=by omega
      simp only[go_sem,e15,w1,w2,e16'];rw[<-hm];simp[am,e1,ek,e4,e5,e6,e7,e8,e9,e10,elen,n0,n3',e14,e15,e16]
      try omega
    ·simp only[go_sem,e15];rw[<-hm];simp[am,e1,ek,e4,e5,e6,e7,e8,e9,e10,elen,n0,n3',e14,e15]
   ·have n3': ¬s.prev.length=32:=by omega
    simp only[go_sem,e11,e12,e13,n0,n2,n3];rw[<-hm];simp[am,e1,ek,e4,e5,e6,e7,e8,e9,e10,elen,n0,n2,n3']
 have ek:(!inB s.kd 1 3&& !inB s.kd 10 31)=false:=by simp[e2]
 simp only[go_sem];refine call (gh s.ti 0 2147483648) [] ?_
 cases e4:inB s.ti 0 2147483648
 ·simp only[go_sem];rw[<-hm];simp[am,e1,ek,e4]
 simp only[go_sem];refine call (gh s.nu 0 199) [] ?_
 cases e5:inB s.nu 0 199
 ·simp only[go_sem];rw[<-hm];simp[am,e1,ek,e4,e5]
 simp only[go_sem];refine call (jp s.a) [] ?_
 cases e6:ja s.a
 ·simp only[go_sem];rw[<-hm];simp[am,e1,ek,e4,e5,e6]
 simp only[go_sem];refine call (jp s.b) [] ?_
 cases e7:ja s.b
 ·simp only[go_sem];rw[<-hm];simp[am,e1,ek,e4,e5,e6,e7]
 simp only[go_sem];refine call (jp s.c) [] ?_
 cases e8:ja s.c
 ·simp only[go_sem];rw[<-hm];simp[am,e1,ek,e4,e5,e6,e7,e8]
 simp only[go_sem];refine call (ac2 s) [] ?_
 cases e9:ef s
 ·simp only[go_sem];rw[<-hm];simp[am,e1,ek,e4,e5,e6,e7,e8,e9]
 simp only[go_sem];refine call (k9 (fun x=> !ja x) 214 z8 s.li hbl) [] ?_
 cases e10:(s.li.any fun x=> !ja x)
 rotate_left
 ·simp only[go_sem];rw[<-hm];simp[am,e1,ek,e4,e5,e6,e7,e8,e9,e10]
 by_cases e11:(64:Int)<(s.li.length:Int)
 ·have e11':64<s.li.length:=by omega
  simp only[go_sem,e11];rw[<-hm];simp[am,e1,ek,e4,e5,e6,e7,e8,e9,e10,(show(decide (64<s.li.length)||decide (64<s.pins.length)||decide (4096<s.body.length))=true by simp[e11'])]
 by_cases e12:(64:Int)<(s.pins.length:Int)
 ·have e12':64<s.pins.length:=by omega
  simp only[go_sem,e11,e12];rw[<-hm];simp[am,e1,ek,e4,e5,e6,e7,e8,e9,e10,(show(decide (64<s.li.length)||decide (64<s.pins.length)||decide (4096<s.body.length))=true by simp[e12'])]
 by_cases e13:(4096:Int)<(s.body.length:Int)
 ·have e13':4096<s.body.length:=by omega
  simp only[go_sem,e11,e12,e13];rw[<-hm];simp[am,e1,ek,e4,e5,e6,e7,e8,e9,e10,(show(decide (64<s.li.length)||decide (64<s.pins.length)||decide (4096<s.body.length))=true by simp[e13'])]
 have elen:(decide (64<s.li.length)||decide (64<s.pins.length)||decide (4096<s.body.length))=false:=by simp;omega
 by_cases n0:s.nu=0
 ·by_cases n1:s.prev=[]
  ·simp only[go_sem,e11,e12,e13,n0,n1];refine call (m7 s.pins hbp) [] ?_
   cases e14:j1 s.pins
   ·simp only[go_sem];rw[<-hm];simp[am,e1,ek,e4,e5,e6,e7,e8,e9,e10,elen,n0,z0,n1,e14]
   by_cases e15:s.kd<=3
   ·have w1:IntKind.i64.wrap ((s.li.length:Int)+s.pins.length)=((s.li.length+s.pins.length:Nat):Int):=by rw[ai]<;>omega
    have w2:IntKind.i64.wrap (((s.li.length+s.pins.length:Nat):Int)+s.body.length)=((s.li.length+s.pins.length+s.body.length:Nat):Int):=by rw[ai]<;>omega
    by_cases e16:0<s.li.length+s.pins.length+s.body.length
    ·have e16':(0:Int)<((s.li.length+s.pins.length+s.body.length:Nat):Int):=by omega
     simp only[go_sem,e15,w1,w2,e16'];rw[<-hm];simp[am,e1,ek,e4,e5,e6,e7,e8,e9,e10,elen,n0,z0,n1,e14,e15,e16]
     try omega
    ·have e16': ¬(0:Int)<((s.li.length+s.pins.length+s.body.length:Nat):Int):=by omega
     simp only[go_sem,e15,w1,w2,e16'];rw[<-hm];simp[am,e1,ek,e4,e5,e6,e7,e8,e9,e10,elen,n0,z0,n1,e14,e15,e16]
     try omega
   ·simp only[go_sem,e15];rw[<-hm];simp[am,e1,ek,e4,e5,e6,e7,e8,e9,e10,elen,n0,z0,n1,e14,e15]
  ·simp only[go_sem,e11,e12,e13,n0,n1];rw[<-hm];simp[am,e1,ek,e4,e5,e6,e7,e8,e9,e10,elen,n0,z0,n1]
 ·have n2:0<s.nu:=by simp only[inB,decide_eq_true_eq]at e5;omega
  by_cases n3:(s.prev.length:Int)=32
  ·have n3':s.prev.length=32:=by omega
   simp only[go_sem,e11,e12,e13,n0,n2,n3];refine call (m7 s.pins hbp) [] ?_
   cases e14:j1 s.pins
   ·simp only[go_sem];rw[<-hm];simp[am,e1,ek,e4,e5,e6,e7,e8,e9,e10,elen,n0,n3',e14]
   by_cases e15:s.kd<=3
   ·have w1:IntKind.i64.wrap ((s.li.length:Int)+s.pins.length)=((s.li.length+s.pins.length:Nat):Int):=by rw[ai]<;>omega
    have w2:IntKind.i64.wrap (((s.li.length+s.pins.length:Nat):Int)+s.body.length)=((s.li.length+s.pins.length+s.body.length:Nat):Int):=by rw[ai]<;>omega
    by_cases e16:0<s.li.length+s.pins.length+s.body.length
    ·have e16':(0:Int)<((s.li.length+s.pins.length+s.body.length:Nat):Int):=by omega
     simp only[go_sem,e15,w1,w2,e16'];rw[<-hm];simp[am,e1,ek,e4,e5,e6,e7,e8,e9,e10,elen,n0,n3',e14,e15,e16]
     try omega
    ·have e16': ¬(0:Int)<((s.li.length+s.pins.length+s.body.length:Nat):Int):=by omega
     simp only[go_sem,e15,w1,w2,e16'];rw[<-hm];simp[am,e1,ek,e4,e5,e6,e7,e8,e9,e10,elen,n0,n3',e14,e15,e16]
     try omega
   ·simp only[go_sem,e15];rw[<-hm];simp[am,e1,ek,e4,e5,e6,e7,e8,e9,e10,elen,n0,n3',e14,e15]
  ·have n3': ¬s.prev.length=32:=by omega
   simp only[go_sem,e11,e12,e13,n0,n2,n3];rw[<-hm];simp[am,e1,ek,e4,e5,e6,e7,e8,e9,e10,elen,n0,n2,n3']
theorem aqs(s:Stm)(hs:okS s):Den Tryz.prog 189 [.agg (sm s)] [] (.int .i64 (am s)) [] []:=aae s hs.big
structure Drf where
 kd:Int
 a:Int
 b:Int
 c:Int
 li:List Int
 pins:List Pn
deriving Inhabited,DecidableEq
def dr(d:Drf):List PV:=[.int .i64 d.kd,.int .i64 d.a,.int .i64 d.b,.int .i64 d.c,.vs (d.li.map i1),.vs (d.pins.map pn)]
theorem a5x(d:Drf):dr d=[.int .i64 d.kd,.int .i64 d.a,.int .i64 d.b,.int .i64 d.c,.vs (d.li.map i1),.vs (d.pins.map pn)]:=(rfl)
attribute [go_sem] a5x
def aoq(au nu ti:Int)(d:Drf):Stm:=al4 ⟨au,nu,if 0<nu then List.replicate 32 0 else [],ti,d.kd,d.a,d.b,d.c,d.li,d.pins,[],0,[]⟩
end Go.Proofs.Am
