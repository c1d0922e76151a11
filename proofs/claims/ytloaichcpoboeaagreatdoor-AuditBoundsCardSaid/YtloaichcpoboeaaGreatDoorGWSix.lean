/- GWSix. -/
import Derived.Test.YtloaichcpoboeaaGreatDoorCThree
import Derived.Test.YtloaichcpoboeaaGreatDoorGWTwo
import Derived.Test.YtloaichcpoboeaaGreatDoorAmQT
import Derived.Test.YtloaichcpoboeaaGreatDoorGWFour
set_option maxHeartbeats 1000000
set_option maxRecDepth 100000
set_option linter.unusedSimpArgs false
set_option linter.unusedVariables false
namespace Go.Proofs.Am
open Go Go.RowKit
open Go.Proofs
def lsT(a b:Stm):Bool:=if a.au≠b.au then decide (a.au<b.au)else if a.nu≠b.nu then decide (a.nu<b.nu)else Op.bytesLess a.sd b.sd
theorem agn(a b:Stm):Den Tryz.prog 160 [.agg (sm a),.agg (sm b)] [] (.bool (lsT a b)) [] []:=by
 refine aa Tryz.func160 rfl Tryz.call160 Tryz.ntmps160 Tryz.results160 (by simp) (by kernel_rfl) [] (exts:=[]) rfl rfl ?_;unfold lsT;by_cases h1:a.au=b.au
 ·rw[if_neg (by simp[h1])];by_cases h2:a.nu=b.nu
  ·rw[if_neg (by simp[h2])];simp only[go_sem,h1,h2]
  ·rw[if_pos h2];simp only[go_sem,h1,h2]
 ·rw[if_pos h1];simp only[go_sem,h1]
def kT(l:List Stm)(x:Stm):Nat:=(l.takeWhile fun a=>lsT a x).length
def a26(l:List Stm)(x:Stm):List Stm:=l.take (kT l x)++x::l.drop (kT l x)
theorem a2u(l:List Stm)(x:Stm)(h:l.length<=900)(hx:okS x)(hS:kT l x<l.length->Den Tryz.prog 161 [.agg (sm (el l (kT l x))),.agg (sm x)] [] (.bool false) [] []):
  Den Tryz.prog 118 [.vs (l.map sm),.agg (sm x)] [] (.tup [.vs ((a26 l x).map sm),.bool true]) [] []:=by
 refine aa Tryz.func118 rfl Tryz.call118 Tryz.ntmps118 Tryz.results118 (by simp) (by kernel_rfl) [] (exts:=[]) rfl rfl ?_
 have hle:kT l x<=l.length:=by
  unfold kT;exact(List.takeWhile_sublist _).length_le
 have hb: ∀i,i<kT l x->lsT (el l i) x=true:=fun i hi=>by
  have hm:el l i∈l.takeWhile fun a=>lsT a x:=by
   have e:l.takeWhile (fun a=>lsT a x)=l.take (kT l x):=List.prefix_iff_eq_take.1 (List.takeWhile_prefix _);rw[e,List.mem_take_iff_getElem];exact⟨i,by omega,by simp[el,aw,show i<l.length by omega]⟩
  exact List.all_eq_true.1 (List.all_takeWhile (p:=fun a=>lsT a x) (l:=l)) _ hm
 have hst:kT l x<l.length->lsT (el l (kT l x)) x=false:=fun hlt=>by
  have h1:l.drop (kT l x)=el l (kT l x)::l.drop (kT l x+1):=by
   rw[List.drop_eq_getElem_cons hlt];congr 1;simp[el,aw,hlt]
  exact kx (p:=fun a=>lsT a x) (l:=l) h1
 unfold a26;have cC:=aql x hx;rw[kg]at cC;generalize kT l x=k at*;simp only[go_sem];refine loop Tryz.mixed 0 (fun i:Nat=>[(0,.vs (l.map sm)),(3,.ptr 3 0),(6,.int .i64 i)]) (fun i=>[(3,.cells (sm x))]) (fun i=>i<=k) (fun i=>k - i) (by kernel_rfl) (Nat.zero_le _) ?_ ?_
 ·simp only[go_sem]
 ·intro i hi;have cB:=agn (el l i) x;rw[kg,kg]at cB;by_cases hk:i<k
  ·have g0:i<l.length:=by omega
   have g1:(i:Int)<(l.length:Int):=by omega
   have g2:=hb i hk;rw[g2]at cB;simp only[go_sem,g0,g1];refine call cB [] ?_;simp only[go_sem];exact⟨ag (by kernel_rfl),i+1,⟨by omega,by omega⟩,by rw[ae]<;>omega⟩
  have:i=k:=by omega
  subst this;by_cases g0:i<l.length
  ·have g1:(i:Int)<(l.length:Int):=by omega
   rw[hst g0]at cB;have cS:=hS g0;rw[kg,kg]at cS;simp only[go_sem,g0,g1];refine call cB [] ?_;simp only[go_sem];refine⟨ag (by kernel_rfl),?_⟩;simp only[go_sem,g0,g1];refine call cS [] ?_;simp only[go_sem];refine⟨ag (by kernel_rfl),?_⟩;refine⟨⟨by omega,by omega⟩,by rw[List.length_take];omega,?_⟩;refine call cC [] ?_;simp only[go_sem];refine⟨by rw[List.length_take];omega,⟨by omega,by omega,by omega⟩,by rw[List.length_take,List.length_drop,List.length_take];omega,ag (by kernel_rfl),?_⟩;rw[List.take_length,List.map_append,List.map_cons,List.append_assoc];rfl
  ·have g1: ¬(i:Int)<(l.length:Int):=by omega
   simp only[go_sem,g0,g1];refine⟨ag (by kernel_rfl),ag (by kernel_rfl),?_⟩;refine⟨⟨by omega,by omega⟩,by rw[List.length_take];omega,?_⟩;refine call cC [] ?_;simp only[go_sem];refine⟨by rw[List.length_take];omega,⟨by omega,by omega,by omega⟩,by rw[List.length_take,List.length_drop,List.length_take];omega,ag (by kernel_rfl),?_⟩;rw[List.take_length,List.map_append,List.map_cons,List.append_assoc];rfl
theorem a7g(l:List Stm)(x:Stm):(a26 l x).length=l.length+1:=by
 unfold a26;rw[List.length_append,List.length_cons,List.length_take,List.length_drop];have:kT l x<=l.length:=by unfold kT;exact(List.takeWhile_sublist _).length_le
 omega
theorem acn(l:List Stm)(x:Stm)(h:l.length<=900)(hx:okS x)(hc:am x=0)(hs:x.sk=x.au/\x.sd=dig x)(hS:kT l x<l.length->Den Tryz.prog 161 [.agg (sm (el l (kT l x))),.agg (sm x)] [] (.bool false) [] []):
  Den Tryz.prog 82 [.agg [.vs (l.map sm)],.agg (sm x)] [] (.agg [.vs ((a26 l x).map sm)]) [] []:=by
 refine aa Tryz.func82 rfl Tryz.call82 Tryz.ntmps82 Tryz.results82 (by simp) (by kernel_rfl) [] (exts:=[]) rfl rfl ?_;have c1:=auo x hx;have c2:=ak2 x hx;have c3:=a2u l x h hx hS;rw[hc]at c1;rw[decide_eq_true hs]at c2;rw[kg]at c1 c2 c3;have hl:=a7g l x;generalize a26 l x=L at*;have g1:(L.length:Int)<=1000:=by omega
 simp only[go_sem];refine call c1 [] ?_;simp only[go_sem];refine call c2 [] ?_;simp only[go_sem];refine call c3 [] ?_;simp only[go_sem,g1]
theorem v8(au nu ti:Int):okS (mz au nu ti s5):=by
 have:okS (aam ⟨au,nu,if 0<nu then List.replicate 32 0 else [],ti,11,0,0,0,[],[],[],0,[]⟩):=by
  simp only[okS,aam,stB,uu,acp,hdB,List.length_append,dw,az,gh,l5,List.length_cons,List.length_nil,List.flatMap_nil];split<;>simp
 exact this
theorem k9(au nu ti:Int)(h1:inB au 0 63=true)(h2:inB nu 0 199=true)(h3:inB ti 0 2147483648=true):am (mz au nu ti s5)=0:=by
 have e:mz au nu ti s5=aam ⟨au,nu,if 0<nu then List.replicate 32 0 else [],ti,11,0,0,0,[],[],[],0,[]⟩:=rfl;rw[e];simp only[am,aam,h1,h2,h3];have h0:0<=nu:=by simp[inB]at h2;omega
 by_cases hn:0<nu
 ·simp[hn,show¬nu=0 by omega,inB,jo,ef,ku]
 ·have:nu=0:=by omega
  simp[this,inB,jo,ef,ku]
theorem at1(a b:Stm)(h1:a.au=b.au)(h2:a.nu=b.nu)(h3:a.prev=b.prev)(h4:a.ti≠b.ti):Den Tryz.prog 161 [.agg (sm a),.agg (sm b)] [] (.bool false) [] []:=by
 refine aa Tryz.func161 rfl Tryz.call161 Tryz.ntmps161 Tryz.results161 (by simp) (by kernel_rfl) [] (exts:=[]) rfl rfl ?_;simp only[go_sem,h1,h2,h3,h4,List.append_eq,List.cons_append,List.nil_append]
def t45(i:Int):Stm:=mz 4 0 i s5
def L45:List Stm:=if lsT (t45 0) (t45 1)=true then [t45 0,t45 1]else [t45 1,t45 0]
theorem bfv(a b:Stm):kT [a] b=if lsT a b=true then 1 else 0:=by
 unfold kT;by_cases h:lsT a b=true
 ·simp[h]
 ·simp[h]
theorem a4q(a b:Stm):a26 [a] b=if lsT a b=true then [a,b]else [b,a]:=by
 unfold a26;rw[bfv];by_cases h:lsT a b=true
 ·simp[h]
 ·simp[h]
def S45(i:Nat):List Stm:=if i=0 then []else if i=1 then [t45 0]else L45
theorem anr:Den Tryz.prog 49 [.vs ([t45 0,t45 1].map sm)] [] (.agg [.vs (L45.map sm)]) [] []:=by
 refine aa Tryz.func49 rfl Tryz.call49 Tryz.ntmps49 Tryz.results49 (by simp) (by kernel_rfl) [] (exts:=[]) rfl rfl ?_;have k0:=v8 4 0 0;have k1:=v8 4 0 1;have a0:=acn [] (t45 0) (by simp) k0 (k9 4 0 0 rfl rfl rfl) ⟨rfl,rfl⟩ (fun h=>absurd h (by simp[kT]))
 have a1:=acn [t45 0] (t45 1) (by simp) k1 (k9 4 0 1 rfl rfl rfl) ⟨rfl,rfl⟩ (fun h=>by
  have e:kT [t45 0] (t45 1)=0:=by simpa using h
  rw[e];exact at1 (t45 0) (t45 1) rfl rfl rfl (by show(0:Int)≠1;omega))
 have e0:a26 [] (t45 0)=[t45 0]:=rfl;have e1:a26 [t45 0] (t45 1)=L45:=a4q _ _;rw[e0]at a0;rw[e1]at a1;have s0:S45 0=[]:=rfl;have s1:S45 1=[t45 0]:=rfl;have s2:S45 2=L45:=rfl;generalize hL:[t45 0,t45 1]=L;have l0:el L 0=t45 0:=by rw[<-hL];rfl
 have l1:el L 1=t45 1:=by rw[<-hL];rfl
 have ll:L.length=2:=by rw[<-hL];rfl
 have cA: ∀i,i<2->Den Tryz.prog 82 [.agg [.vs ((S45 i).map sm)],.agg (sm (el L i))] [] (.agg [.vs ((S45 (i+1)).map sm)]) [] []:=fun i hi=>by
  match i,hi with
  |0,_=>rw[l0,s0,s1];exact a0
  |1,_=>rw[l1,s1,s2];exact a1
 clear a0 a1 l0 l1;generalize L45=M at*;generalize S45=S at*;simp only[go_sem];refine jf (Cv.cellNil (m:=3) (j:=0) (by rfl) (by rfl)) ?_;refine loop Tryz.mixed 0 (fun i:Nat=>[(0,.vs (L.map sm)),(2,.ptr 2 0),(3,.ptr 3 0),(4,.int .i64 i)]) (fun i=>[(2,.cells [.nils]),(3,.cells [.vs ((S i).map sm)])]) (fun i=>i<=2) (fun i=>2 - i) (by kernel_rfl) (Nat.zero_le _) ?_ ?_
 ·rw[s0];simp only[go_sem]
 intro i hi;by_cases hlt:i<2
 ·have g1:(i:Int)<2:=by omega
  have g0:i<L.length:=by omega
  have c:=cA i hlt;rw[kg]at c;have w1:IntKind.i64.wrap ((i:Int)+1)=((i+1:Nat):Int):=by rw[ae]<;>omega
  have ll':(L.length:Int)=2:=by omega
  simp only[go_sem,g1,g0,ll,ll'];refine call c [] ?_;simp only[go_sem];exact⟨ag (by kernel_rfl),i+1,⟨by omega,by omega⟩,w1,rfl⟩
 ·have:i=2:=by omega
  subst this;have ll':(L.length:Int)=2:=by omega
  simp only[go_sem,ll,ll'];rw[s2]
theorem a79:Den Tryz.prog 20 [.int .i64 0] [] (.agg [.vs (L45.map sm)]) [] []:=by
 refine aa Tryz.func20 rfl Tryz.call20 Tryz.ntmps20 Tryz.results20 (by simp) (by kernel_rfl) [] (exts:=[]) rfl rfl ?_;have c0:=aq5 4 0 0 s5 (by simp[s5]) rfl;have c1:=aq5 4 0 1 s5 (by simp[s5]) rfl;have cs:=anr;have e:([t45 0,t45 1].map sm)=[sm (mz 4 0 0 s5),sm (mz 4 0 1 s5)]:=rfl;rw[e]at cs;have hd:dr s5=[.int .i64 11,.int .i64 0,.int .i64 0,.int .i64 0,.vs [],.vs []]:=rfl;rw[hd]at c0 c1;generalize mz 4 0 0 s5=a at*;generalize mz 4 0 1 s5=b at*;generalize hM:L45.map sm=M at*;rw[kg]at c0 c1;rw[kg,kg]at cs;have w1:IntKind.i64.wrap (0+1)=1:=rfl;simp only[go_sem];refine call c0 [] ?_;simp only[go_sem,w1];refine call c1 [] ?_;simp only[go_sem];refine⟨rfl,?_⟩;refine call cs [] ?_;simp only[go_sem]
theorem yd: ∀a b:List UInt8,¬Op.bytesLess a b=true->¬Op.bytesLess b a=true->a=b
 |[],[],_,_=>rfl
 |[],_::_,h,_=>absurd rfl h
 |_::_,[],_,h=>absurd rfl h
 |a::r,b::s,h,k=>by
  simp only[Op.bytesLess,Bool.or_eq_true,Bool.and_eq_true,decide_eq_true_eq,not_or,not_and,beq_iff_eq]at h k;have e:a=b:=UInt8.le_antisymm (UInt8.not_lt.1 k.1) (UInt8.not_lt.1 h.1);subst e;rw[yd r s (h.2 rfl) (k.2 rfl)]
def anu(a b:List UInt8):Int:=if Op.bytesLess a b=true then -1 else if Op.bytesLess b a=true then 1 else 0
theorem aji(a:List UInt8):Den Tryz.prog 233 [.str a] [] (.bool false) [] []:=by
 refine aa Tryz.func233 rfl Tryz.call233 Tryz.ntmps233 Tryz.results233 (by simp) (by kernel_rfl) [] (exts:=[]) rfl rfl ?_;simp only[go_sem]
theorem avw(a b:List UInt8):Den Tryz.prog 186 [.str a,.str b] [] (.int .i64 (anu a b)) [] []:=by
 refine aa Tryz.func186 rfl Tryz.call186 Tryz.ntmps186 Tryz.results186 (by simp) (by kernel_rfl) [] (exts:=[]) rfl rfl ?_;unfold anu;simp only[go_sem];refine call (aji a) [] ?_;simp only[go_sem];refine call (aji b) [] ?_;by_cases h1:Op.bytesLess a b=true
 ·simp only[go_sem,h1]
 ·by_cases h2:Op.bytesLess b a=true
  ·simp only[go_sem,h1,h2];exact fun e=>h1 (by rw[e]at h2 ⊢;exact h2)
  ·simp only[go_sem,h1,h2];exact fun hn=>hn (yd a b h1 h2)
def bfl(a b:Stm):Int:=orL [gv a.au b.au,gv a.nu b.nu,anu a.sd b.sd]
theorem awl(a b:Stm):Den Tryz.prog 130 [.agg (sm a),.agg (sm b)] [] (.int .i64 (bfl a b)) [] []:=by
 refine aa Tryz.func130 rfl Tryz.call130 Tryz.ntmps130 Tryz.results130 (by simp) (by kernel_rfl) [] (exts:=[]) rfl rfl ?_;have c4:=yo [gv a.au b.au,gv a.nu b.nu,anu a.sd b.sd] (by simp[big]);rw[show orL [gv a.au b.au,gv a.nu b.nu,anu a.sd b.sd]=bfl a b from rfl]at c4;simp only[go_sem];refine call (eb a.au b.au) [] ?_;simp only[go_sem];refine call (eb a.nu b.nu) [] ?_;simp only[go_sem];refine call (avw a.sd b.sd) [] ?_;generalize gv a.au b.au=x at*;generalize gv a.nu b.nu=y at*;generalize anu a.sd b.sd=z at*;simp only[go_sem];refine call c4 [] ?_;simp only[go_sem];exact ag (by kernel_rfl)
structure OkSto(L:List Stm):Prop where
 len:L.length<=900
 ok: ∀s∈L,okS s/\am s=0/\s.sk=s.au/\s.sd=dig s
 ord: ∀i,0<i->i<L.length->bfl (el L (i - 1)) (el L i)<0
theorem as7(L:List Stm)(h:OkSto L):Den Tryz.prog 99 [.agg [.vs (L.map sm)]] [] (.bool true) [] []:=by
 refine aa Tryz.func99 rfl Tryz.call99 Tryz.ntmps99 Tryz.results99 (by simp) (by kernel_rfl) [] (exts:=[]) rfl rfl ?_;obtain⟨hl,ho,hc⟩:=h;have g0: ¬(1000:Int)<(L.length:Int):=by omega
 simp only[go_sem,g0];refine loop Tryz.mixed 0 (fun i:Nat=>[(1,.ptr 1 0),(10,.vs (L.map sm)),(11,.int .i64 L.length),(12,.int .i64 i)]) (fun _=>[(1,.cells [.vs (L.map sm)])]) (fun i=>i<=L.length) (fun i=>L.length - i) (by kernel_rfl) (Nat.zero_le _) ?_ ?_
 ·simp only[go_sem]
 intro i hi;by_cases hlt:i<L.length
 rotate_left
 ·have g1: ¬(i:Int)<(L.length:Int):=by omega
  simp only[go_sem,g1]
 have g1:(i:Int)<(L.length:Int):=by omega
 obtain⟨o1,o2,o3⟩:=ho _ (dl hlt);have c1:=agc (el L i) o1;have c2:=tb (el L i) o1;rw[o2]at c1;rw[decide_eq_true o3]at c2;have w1:IntKind.i64.wrap ((i:Int)+1)=((i+1:Nat):Int):=by rw[ae]<;>omega
 have c3:=awl (el L (i - 1)) (el L i);rw[kg]at c1 c2;rw[kg,kg]at c3;by_cases h0:0<i
 ·have h0':(0:Int)<(i:Int):=by omega
  have w2:IntKind.i64.wrap ((i:Int) - 1)=((i - 1:Nat):Int):=by rw[ae]<;>omega
  have h2:i - 1<L.length:=by omega
  have h3:=hc i h0 hlt;generalize bfl (el L (i - 1)) (el L i)=C at*;have h4: ¬0<=C:=by omega
  simp only[go_sem,g1,hlt];refine call c1 [] ?_;simp only[go_sem];refine call c2 [] ?_;simp only[go_sem,h0',w2,h2];refine call c3 [] ?_;simp only[go_sem,h4];exact⟨ag (by kernel_rfl),i+1,⟨by omega,by omega⟩,w1⟩
 ·have h0': ¬(0:Int)<(i:Int):=by omega
  simp only[go_sem,g1,hlt];refine call c1 [] ?_;simp only[go_sem];refine call c2 [] ?_;simp only[go_sem,h0'];exact⟨ag (by kernel_rfl),i+1,⟨by omega,by omega⟩,w1⟩
theorem a1c(r:Rl)(L:List Stm)(t:Tm)(h:t.dec=false):Den Tryz.prog 75 [.agg (rl r),.agg [.vs (L.map sm)],.agg (tm t)] [] (.int .i64 0) [] []:=by
 refine aa Tryz.func75 rfl Tryz.call75 Tryz.ntmps75 Tryz.results75 (by simp) (by kernel_rfl) [] (exts:=[]) rfl rfl ?_;simp only[go_sem,h]
theorem asj(r:Rl)(L:List Stm)(t:Tm)(hL:OkSto L)
  (cR:Den Tryz.prog 98 [.agg (rl r)] [] (.int .i64 0) [] [])
  (cT:Den Tryz.prog 100 [.agg (rl r),.vs (L.map sm)] [] (.tup [.vs ([t].map tm),.int .i64 0]) [] []):
  Den Tryz.prog 74 [.agg (rl r),.agg [.vs (L.map sm)]] [] (.tup [.vs ([t].map tm),.int .i64 0]) [] []:=by
 refine aa Tryz.func74 rfl Tryz.call74 Tryz.ntmps74 Tryz.results74 (by simp) (by kernel_rfl) [] (exts:=[]) rfl rfl ?_;have cV:=as7 L hL;rw[p5]at cR cT;generalize [t].map tm=T at*;simp only[go_sem];refine call cR [] ?_;simp only[go_sem];refine call cV [] ?_;simp only[go_sem];refine call cT [] ?_;simp only[go_sem]
theorem arj(r:Rl)(L:List Stm)(t:Tm)(h:t.dec=false)
  (cA:Den Tryz.prog 74 [.agg (rl r),.agg [.vs (L.map sm)]] [] (.tup [.vs ([t].map tm),.int .i64 0]) [] []):
  Den Tryz.prog 45 [.agg (rl r),.agg [.vs (L.map sm)]] [] (.tup [.os 0 0,.int .i64 0]) [.arr 62 3 false []] []:=by
 refine ak4 Tryz.mixed Tryz.func45 rfl Tryz.call45 Tryz.ntmps45 (congrArg Array.toList Tryz.results45) (by simp) (by kernel_rfl) (exts:=[]) rfl rfl ?_;have cF:=a1c r L t h;generalize hT:[t]=T at*
 have ht: ∀i,i<1->el T i=t:=fun i hi=>by
  have:i=0:=by omega
  rw[this,<-hT];rfl
 have hl:T.length=1:=by rw[<-hT];rfl
 rw[p5]at cA cF;rw[amo]at cF;simp only[go_sem];refine call cA [] ?_;have hl':(T.length:Int)=1:=by omega
 simp only[go_sem,hl,hl'];refine loop Tryz.mixed 0 (fun i:Nat=>[(2,.ptr 2 0),(3,.ptr 3 0),(4,.nils),(5,.int .i64 0),(8,.nils),(21,.vs (T.map tm)),(22,.int .i64 1),(23,.int .i64 i)]) (fun _=>[(2,.cells (rl r)),(3,.cells [.vs (L.map sm)])]) (fun i=>i<=1) (fun i=>1 - i) (by kernel_rfl) (Nat.zero_le _) ?_ ?_
 ·simp only[go_sem]
 intro i hi;by_cases hlt:i<1
 ·have g1:(i:Int)<1:=by omega
  have g0:i<T.length:=by omega
  have e:=ht i hlt;have w1:IntKind.i64.wrap ((i:Int)+1)=((i+1:Nat):Int):=by rw[ae]<;>omega
  simp only[go_sem,g1,g0,e];refine call cF [] ?_;simp only[go_sem];exact⟨i+1,⟨by omega,by omega⟩,w1⟩
 ·have g1: ¬(i:Int)<1:=by omega
  simp only[go_sem,g1];refine aea [(4,99,62,3)] [99] ?_ ?_
  ·simp only[go_sem]
  ·simp only[go_sem]
theorem a3h(X:List (List PV))(ep kd key:Int)(hX:X.length<=1000):Den Tryz.prog 47 [.int .i64 ep,.int .i64 kd,.int .i64 key,.ptr 1000000 0] [.cells [.os 1000001 X.length],.arr 62 3 false X] (.tup []) [] [.cells [.os 1000001 (X.length+1)],.arr 62 3 false (X++[[.int .i64 ep,.int .i64 kd,.int .i64 key]])]:=by
 refine s8 Tryz.mixed Tryz.func47 rfl Tryz.call47 Tryz.ntmps47 (congrArg Array.toList Tryz.results47) (by simp) (by kernel_rfl) [] [] 1000000 1000001 [] (exts:=[1000000,1000001]) rfl rfl rfl rfl ?_;simp only[go_sem];omega
theorem akl(r:Rl)(L:List Stm)(t:Tm)
  (cA:Den Tryz.prog 74 [.agg (rl r),.agg [.vs (L.map sm)]] [] (.tup [.vs ([t].map tm),.int .i64 0]) [] [])
  (cC:Den Tryz.prog 76 [.vs (L.map sm)] [] (.vs []) [] []):
  Den Tryz.prog 46 [.agg (rl r),.agg [.vs (L.map sm)]] [] (.tup [.vs [],.int .i64 0]) [] []:=by
 refine aa Tryz.func46 rfl Tryz.call46 Tryz.ntmps46 Tryz.results46 (by simp) (by kernel_rfl) [] (exts:=[]) rfl rfl ?_;rw[p5]at cA;generalize [t].map tm=T at*;simp only[go_sem];refine call cA [] ?_;simp only[go_sem];refine call cC [] ?_;simp only[go_sem];refine loop Tryz.mixed () (fun _:Unit=>[(4,.nils),(5,.int .i64 0),(8,.nils),(26,.vs []),(27,.int .i64 0),(28,.int .i64 0)]) (fun _=>[(2,.cells (rl r)),(3,.cells [.vs (L.map sm)])]) (fun _=>True) (fun _=>0) (by kernel_rfl) trivial ?_ ?_
 ·simp only[go_sem]
 intro _ _;simp only[go_sem]
theorem azl(r:Rl)(L:List Stm)
  (cT:Den Tryz.prog 45 [.agg (rl r),.agg [.vs (L.map sm)]] [] (.tup [.os 0 0,.int .i64 0]) [.arr 62 3 false []] [])
  (cS:Den Tryz.prog 46 [.agg (rl r),.agg [.vs (L.map sm)]] [] (.tup [.vs [],.int .i64 0]) [] [])
  (cG:Den Tryz.prog 48 [.vs (L.map sm)] [] (.vs ([4].map i1)) [] []):
  Den Tryz.prog 19 [.agg (rl r),.agg [.vs (L.map sm)]] [] (.tup [.vs [[.int .i64 0,.int .i64 2,.int .i64 4]],.int .i64 0]) [] []:=by
 refine aa Tryz.func19 rfl Tryz.call19 Tryz.ntmps19 Tryz.results19 (by simp) (by kernel_rfl) [] (exts:=[]) rfl rfl ?_;rw[p5]at cT cS;have cN:=a3h [] 0 2 4 (by simp);generalize L.map sm=M at*;simp only[go_sem];refine call cT [] ?_;simp only[go_sem];refine call cS [] ?_;simp only[go_sem];refine loop Tryz.mixed () (fun _:Unit=>[(3,.ptr 3 0),(4,.nils),(5,.int .i64 0),(6,.ptr 6 0),(9,.fn 47 [.ptr 6 0]),(33,.vs []),(34,.int .i64 0),(35,.int .i64 0)]) (fun _=>[(3,.cells [.vs M]),(6,.cells [.os 17 0]),(17,.arr 62 3 false [])]) (fun _=>True) (fun _=>0) (by kernel_rfl) trivial ?_ ?_
 ·simp only[go_sem]
 intro _ _;simp only[go_sem];refine call cG [] ?_;generalize hK:([4]:List Int)=K at*;have hl:K.length=1:=by rw[<-hK];rfl
 have hl':(K.length:Int)=1:=by omega
 have h0: ∀i,i<1->el K i=4:=fun i hi=>by
  have:i=0:=by omega
  rw[this,<-hK];rfl
 obtain⟨X,x0,x1⟩: ∃X:Nat->List (List PV),X 0=[]/\X 1=[[.int .i64 0,.int .i64 2,.int .i64 4]]:=⟨fun i=>if i=0 then []else [[.int .i64 0,.int .i64 2,.int .i64 4]],rfl,rfl⟩;simp only[go_sem,hl,hl'];refine loop Tryz.mixed 0 (fun i:Nat=>[(4,.nils),(5,.int .i64 0),(6,.ptr 6 0),(9,.fn 47 [.ptr 6 0]),(48,.vs (K.map i1)),(49,.int .i64 1),(50,.int .i64 i)]) (fun i=>[(6,.cells [.os 17 i]),(17,.arr 62 3 false (X i))]) (fun i=>i<=1) (fun i=>1 - i) (by kernel_rfl) (Nat.zero_le _) ?_ ?_
 ·rw[x0];simp only[go_sem]
 intro i hi;by_cases hlt:i<1
 ·have:i=0:=by omega
  subst this;have g0:0<K.length:=by omega
  have e:=h0 0 hlt;rw[x0];simp only[go_sem,g0,e];refine⟨by omega,?_⟩;refine bjr cN [] [] [] 6 17 [6,17] rfl rfl (by simp) rfl ?_;simp only[go_sem];exact⟨1,⟨Nat.le_refl _,by omega⟩,rfl,rfl,x1.symm⟩
 ·have:i=1:=by omega
  subst this;rw[x1];simp only[go_sem]
theorem ann:Den Tryz.prog 51 [.vs [],.vs []] [] (.bool true) [] []:=by
 refine aa Tryz.func51 rfl Tryz.call51 Tryz.ntmps51 Tryz.results51 (by simp) (by kernel_rfl) [] (exts:=[]) rfl rfl ?_;simp only[go_sem];refine loop Tryz.mixed () (fun _:Unit=>[(4,.bool false),(13,.vs []),(14,.int .i64 0),(15,.int .i64 0)]) (fun _=>[]) (fun _=>True) (fun _=>0) (by kernel_rfl) trivial ?_ ?_
 ·simp only[go_sem]
 intro _ _;simp only[go_sem]
theorem aub:Den Tryz.prog 21 [.vs [],.vs []] [] (.bool true) [] []:=by
 refine aa Tryz.func21 rfl Tryz.call21 Tryz.ntmps21 Tryz.results21 (by simp) (by kernel_rfl) [] (exts:=[]) rfl rfl ?_;simp only[go_sem];refine call ann [] ?_;simp only[go_sem]
def g45:Gr:=⟨2,[⟨0,1,1⟩],[]⟩
def p45:Pol:=⟨[0],[3,2],1⟩
def r45:Rl:=⟨[0],p45,1,5,0⟩
theorem aox:alv g45 p45 [1]=(1,0)/\alv g45 p45 [0,1]=(3,0):=by decide+kernel
theorem as6(hD: ∀(g:Gr) (p:Pol),qr g p=0->g.ed.length<=1000->Den Tryz.prog 29 [.agg (gr (bz g p.lv)),.vs (p.se.map i1)] [] (.os 0 (bg (bz g p.lv) p.se).length) [.arr 3 1 false ((bg (bz g p.lv) p.se).map i1)] [])
  (cF:Den Tryz.prog 19 [.agg (rl r45),.agg [.vs (L45.map sm)]] [] (.tup [.vs [[.int .i64 0,.int .i64 2,.int .i64 4]],.int .i64 0]) [] []):
  Den Tryz.prog 7 [] [] (.bool true) [] []:=by
 refine aa Tryz.func7 rfl Tryz.call7 Tryz.ntmps7 Tryz.results7 (by simp) (by kernel_rfl) [] (exts:=[]) rfl rfl ?_;have c1:=zk g45 p45 [1] (by decide) (by decide) (by decide) (by decide) (by decide) (fun h=>hD g45 p45 h (by decide));have c2:=zk g45 p45 [0,1] (by decide) (by decide) (by decide) (by decide) (by decide) (fun h=>hD g45 p45 h (by decide));rw[aox.1]at c1;rw[aox.2]at c2;have cM:=a79;have cA:=aub;generalize L45.map sm=M at*;have eg:gr g45=[.int .i64 2,.vs [[.int .i64 0,.int .i64 1,.int .i64 1]],.vs []]:=rfl;have ep:pl p45=[.vs [[.int .i64 0],],.vs [[.int .i64 3],[.int .i64 2]],.int .i64 1]:=rfl;have er:rl r45=[.vs [[.int .i64 0]],.vs [[.int .i64 0]],.vs [[.int .i64 3],[.int .i64 2]],.int .i64 1,.int .i64 1,.int .i64 5,.int .i64 0]:=rfl;have e1:([1]:List Int).map i1=[[.int .i64 1]]:=rfl;have e2:([0,1]:List Int).map i1=[[.int .i64 0],[.int .i64 1]]:=rfl;rw[eg,ep,e1]at c1;rw[eg,ep,e2]at c2;rw[er]at cF;simp only[go_sem];refine call c1 [] ?_;simp only[go_sem];refine call c2 [] ?_;simp only[go_sem];refine call cM [] ?_;simp only[go_sem];refine call cF [] ?_;simp only[go_sem];refine⟨ag (by kernel_rfl),?_⟩;refine call cA [] ?_;simp only[go_sem]
end Go.Proofs.Am
