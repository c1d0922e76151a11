/- GWSix. -/
import Derived.Test.YtloaichcpoboeaaGreatDoorCThree
import Derived.Test.YtloaichcpoboeaaGreatDoorGWTwo
import Derived.Test.YtloaichcpoboeaaGreatDoorAmQT
import Derived.Test.YtloaichcpoboeaaGreatDoorGWFour
set_option maxHeartbeats 1000000
set_option maxRecDepth 100000
set_option linter.unusedSimpArgs false
set_option linter.unusedVariables false
namespace Go.Proofs.Am
open Go Go.RowKit
open Go.Proofs
def lsT(a b:Stm):Bool:=if a.au≠b.au then decide (a.au<b.au)else if a.nu≠b.nu then decide (a.nu<b.nu)else Op.bytesLess a.sd b.sd
theorem af1(a b:Stm):Den Tryz.prog 160 [.agg (sm a),.agg (sm b)] [] (.bool (lsT a b)) [] []:=by
 refine aa Tryz.mixed Tryz.func160 rfl Tryz.call160 Tryz.ntmps160 (congrArg Array.toList Tryz.results160) (by simp) (by kernel_rfl) [] (exts:=[]) rfl rfl ?_
 unfold lsT
 by_cases h1:a.au=b.au
 ·rw[if_neg (by simp[h1])]
  by_cases h2:a.nu=b.nu
  ·rw[if_neg (by simp[h2])]
   simp only[go_sem,h1,h2]
  ·rw[if_pos h2]
   simp only[go_sem,h1,h2]
 ·rw[if_pos h1]
  simp only[go_sem,h1]
def kT(l:List Stm)(x:Stm):Nat:=(l.takeWhile fun a=>lsT a x).length
def aye(l:List Stm)(x:Stm):List Stm:=l.take (kT l x)++x::l.drop (kT l x)
theorem ark(l:List Stm)(x:Stm)(h:l.length≤900)(hx:okS x)(hS:kT l x<l.length→Den Tryz.prog 161 [.agg (sm (el l (kT l x))),.agg (sm x)] [] (.bool false) [] []):
  Den Tryz.prog 118 [.vs (l.map sm),.agg (sm x)] [] (.tup [.vs ((aye l x).map sm),.bool true]) [] []:=by
 refine aa Tryz.mixed Tryz.func118 rfl Tryz.call118 Tryz.ntmps118 (congrArg Array.toList Tryz.results118) (by simp) (by kernel_rfl) [] (exts:=[]) rfl rfl ?_
 have hle:kT l x≤l.length:=by
  unfold kT
  exact(List.takeWhile_sublist _).length_le
 have hb: ∀i,i<kT l x→lsT (el l i) x=true:=fun i hi=>by
  have hm:el l i∈l.takeWhile fun a=>lsT a x:=by
   have e:l.takeWhile (fun a=>lsT a x)=l.take (kT l x):=List.prefix_iff_eq_take.1 (List.takeWhile_prefix _)
   rw[e,List.mem_take_iff_getElem]
   exact⟨i,by omega,by simp[el,List.getD_eq_getElem?_getD,show i<l.length by omega]⟩
  exact List.all_eq_true.1 (List.all_takeWhile (p:=fun a=>lsT a x) (l:=l)) _ hm
 have hst:kT l x<l.length→lsT (el l (kT l x)) x=false:=fun hlt=>by
  have h1:l.drop (kT l x)=el l (kT l x)::l.drop (kT l x+1):=by
   rw[List.drop_eq_getElem_cons hlt]
   congr 1
   simp[el,List.getD_eq_getElem?_getD,hlt]
  exact mw (p:=fun a=>lsT a x) (l:=l) h1
 unfold aye
 have cC:=amm x hx
 rw[jo]at cC
 generalize kT l x=k at*
 simp only[go_sem]
 refine loop Tryz.mixed 0 (fun i:Nat=>[(0,.vs (l.map sm)),(3,.ptr 3 0),(6,.int .i64 i)]) (fun i=>[(3,.cells (sm x))]) (fun i=>i≤k) (fun i=>k - i) (by kernel_rfl) (Nat.zero_le _) ?_ ?_
 ·simp only[go_sem]
 ·intro i hi
  have cB:=af1 (el l i) x
  rw[jo,jo]at cB
  by_cases hk:i<k
  ·have g0:i<l.length:=by omega
   have g1:(i:Int)<(l.length:Int):=by omega
   have g2:=hb i hk
   rw[g2]at cB
   simp only[go_sem,g0,g1]
   refine call cB [] ?_
   simp only[go_sem]
   exact⟨ag (by kernel_rfl),i+1,⟨by omega,by omega⟩,by rw[ae]<;>omega⟩
  have:i=k:=by omega
  subst this
  by_cases g0:i<l.length
  ·have g1:(i:Int)<(l.length:Int):=by omega
   rw[hst g0]at cB
   have cS:=hS g0
   rw[jo,jo]at cS
   simp only[go_sem,g0,g1]
   refine call cB [] ?_
   simp only[go_sem]
   refine⟨ag (by kernel_rfl),?_⟩
   simp only[go_sem,g0,g1]
   refine call cS [] ?_
   simp only[go_sem]
   refine⟨ag (by kernel_rfl),?_⟩
   refine⟨⟨by omega,by omega⟩,by rw[List.length_take];omega,?_⟩
   refine call cC [] ?_
   simp only[go_sem]
   refine⟨by rw[List.length_take];omega,⟨by omega,by omega,by omega⟩,by rw[List.length_take,List.length_drop,List.length_take];omega,ag (by kernel_rfl),?_⟩
   rw[List.take_length,List.map_append,List.map_cons,List.append_assoc]
   rfl
  ·have g1: ¬(i:Int)<(l.length:Int):=by omega
   simp only[go_sem,g0,g1]
   refine⟨ag (by kernel_rfl),ag (by kernel_rfl),?_⟩
   refine⟨⟨by omega,by omega⟩,by rw[List.length_take];omega,?_⟩
   refine call cC [] ?_
   simp only[go_sem]
   refine⟨by rw[List.length_take];omega,⟨by omega,by omega,by omega⟩,by rw[List.length_take,List.length_drop,List.length_take];omega,ag (by kernel_rfl),?_⟩
   rw[List.take_length,List.map_append,List.map_cons,List.append_assoc]
   rfl
theorem a2v(l:List Stm)(x:Stm):(aye l x).length=l.length+1:=by
 unfold aye
 rw[List.length_append,List.length_cons,List.length_take,List.length_drop]
 have:kT l x≤l.length:=by unfold kT;exact(List.takeWhile_sublist _).length_le
 omega
theorem zy(l:List Stm)(x:Stm)(h:l.length≤900)(hx:okS x)(hc:aj x=0)(hs:x.sk=x.au∧x.sd=dig x)(hS:kT l x<l.length→Den Tryz.prog 161 [.agg (sm (el l (kT l x))),.agg (sm x)] [] (.bool false) [] []):
  Den Tryz.prog 82 [.agg [.vs (l.map sm)],.agg (sm x)] [] (.agg [.vs ((aye l x).map sm)]) [] []:=by
 refine aa Tryz.mixed Tryz.func82 rfl Tryz.call82 Tryz.ntmps82 (congrArg Array.toList Tryz.results82) (by simp) (by kernel_rfl) [] (exts:=[]) rfl rfl ?_
 have c1:=aqs x hx
 have c2:=ai8 x hx
 have c3:=ark l x h hx hS
 rw[hc]at c1
 rw[decide_eq_true hs]at c2
 rw[jo]at c1 c2 c3
 have hl:=a2v l x
 generalize aye l x=L at*
 have g1:(L.length:Int)≤1000:=by omega
 simp only[go_sem]
 refine call c1 [] ?_
 simp only[go_sem]
 refine call c2 [] ?_
 simp only[go_sem]
 refine call c3 [] ?_
 simp only[go_sem,g1]
theorem tz(au nu ti:Int):okS (lr au nu ti qr):=by
 have:okS (ye ⟨au,nu,if 0<nu then List.replicate 32 0 else [],ti,11,0,0,0,[],[],[],0,[]⟩):=by
  simp only[okS,ye,stB,r8,ze,hdB,List.length_append,c7,aq,fj,l5,List.length_cons,List.length_nil,List.flatMap_nil]
  split<;>simp
 exact this
theorem kb(au nu ti:Int)(h1:inB au 0 63=true)(h2:inB nu 0 199=true)(h3:inB ti 0 2147483648=true):aj (lr au nu ti qr)=0:=by
 have e:lr au nu ti qr=ye ⟨au,nu,if 0<nu then List.replicate 32 0 else [],ti,11,0,0,0,[],[],[],0,[]⟩:=rfl
 rw[e]
 simp only[aj,ye,h1,h2,h3]
 have h0:0≤nu:=by simp[inB]at h2;omega
 by_cases hn:0<nu
 ·simp[hn,show¬nu=0 by omega,inB,iy,du,ju]
 ·have:nu=0:=by omega
  simp[this,inB,iy,du,ju]
theorem aqe(a b:Stm)(h1:a.au=b.au)(h2:a.nu=b.nu)(h3:a.prev=b.prev)(h4:a.ti≠b.ti):Den Tryz.prog 161 [.agg (sm a),.agg (sm b)] [] (.bool false) [] []:=by
 refine aa Tryz.mixed Tryz.func161 rfl Tryz.call161 Tryz.ntmps161 (congrArg Array.toList Tryz.results161) (by simp) (by kernel_rfl) [] (exts:=[]) rfl rfl ?_
 simp only[go_sem,h1,h2,h3,h4,List.append_eq,List.cons_append,List.nil_append]
def t45(i:Int):Stm:=lr 4 0 i qr
def L45:List Stm:=if lsT (t45 0) (t45 1)=true then [t45 0,t45 1]else [t45 1,t45 0]
theorem a9x(a b:Stm):kT [a] b=if lsT a b=true then 1 else 0:=by
 unfold kT
 by_cases h:lsT a b=true
 ·simp[h]
 ·simp[h]
theorem az7(a b:Stm):aye [a] b=if lsT a b=true then [a,b]else [b,a]:=by
 unfold aye
 rw[a9x]
 by_cases h:lsT a b=true
 ·simp[h]
 ·simp[h]
def S45(i:Nat):List Stm:=if i=0 then []else if i=1 then [t45 0]else L45
theorem aju:Den Tryz.prog 49 [.vs ([t45 0,t45 1].map sm)] [] (.agg [.vs (L45.map sm)]) [] []:=by
 refine aa Tryz.mixed Tryz.func49 rfl Tryz.call49 Tryz.ntmps49 (congrArg Array.toList Tryz.results49) (by simp) (by kernel_rfl) [] (exts:=[]) rfl rfl ?_
 have k0:=tz 4 0 0
 have k1:=tz 4 0 1
 have a0:=zy [] (t45 0) (by simp) k0 (kb 4 0 0 rfl rfl rfl) ⟨rfl,rfl⟩ (fun h=>absurd h (by simp[kT]))
 have a1:=zy [t45 0] (t45 1) (by simp) k1 (kb 4 0 1 rfl rfl rfl) ⟨rfl,rfl⟩ (fun h=>by
  have e:kT [t45 0] (t45 1)=0:=by simpa using h
  rw[e]
  exact aqe (t45 0) (t45 1) rfl rfl rfl (by show(0:Int)≠1;omega))
 have e0:aye [] (t45 0)=[t45 0]:=rfl
 have e1:aye [t45 0] (t45 1)=L45:=az7 _ _
 rw[e0]at a0
 rw[e1]at a1
 have s0:S45 0=[]:=rfl
 have s1:S45 1=[t45 0]:=rfl
 have s2:S45 2=L45:=rfl
 generalize hL:[t45 0,t45 1]=L
 have l0:el L 0=t45 0:=by rw[←hL];rfl
 have l1:el L 1=t45 1:=by rw[←hL];rfl
 have ll:L.length=2:=by rw[←hL];rfl
 have cA: ∀i,i<2→Den Tryz.prog 82 [.agg [.vs ((S45 i).map sm)],.agg (sm (el L i))] [] (.agg [.vs ((S45 (i+1)).map sm)]) [] []:=fun i hi=>by
  match i,hi with
  |0,_=>rw[l0,s0,s1];exact a0
  |1,_=>rw[l1,s1,s2];exact a1
 clear a0 a1 l0 l1
 generalize L45=M at*
 generalize S45=S at*
 simp only[go_sem]
 refine lp (Cv.cellNil (m:=3) (j:=0) (by rfl) (by rfl)) ?_
 refine loop Tryz.mixed 0 (fun i:Nat=>[(0,.vs (L.map sm)),(2,.ptr 2 0),(3,.ptr 3 0),(4,.int .i64 i)]) (fun i=>[(2,.cells [.nils]),(3,.cells [.vs ((S i).map sm)])]) (fun i=>i≤2) (fun i=>2 - i) (by kernel_rfl) (Nat.zero_le _) ?_ ?_
 ·rw[s0]
  simp only[go_sem]
 intro i hi
 by_cases hlt:i<2
 ·have g1:(i:Int)<2:=by omega
  have g0:i<L.length:=by omega
  have c:=cA i hlt
  rw[jo]at c
  have w1:IntKind.i64.wrap ((i:Int)+1)=((i+1:Nat):Int):=by rw[ae]<;>omega
  have ll':(L.length:Int)=2:=by omega
  simp only[go_sem,g1,g0,ll,ll']
  refine call c [] ?_
  simp only[go_sem]
  exact⟨ag (by kernel_rfl),i+1,⟨by omega,by omega⟩,w1,rfl⟩
 ·have:i=2:=by omega
  subst this
  have ll':(L.length:Int)=2:=by omega
  simp only[go_sem,ll,ll']
  rw[s2]
theorem a1k:Den Tryz.prog 20 [.int .i64 0] [] (.agg [.vs (L45.map sm)]) [] []:=by
 refine aa Tryz.mixed Tryz.func20 rfl Tryz.call20 Tryz.ntmps20 (congrArg Array.toList Tryz.results20) (by simp) (by kernel_rfl) [] (exts:=[]) rfl rfl ?_
 have c0:=alh 4 0 0 qr (by simp[qr]) rfl
 have c1:=alh 4 0 1 qr (by simp[qr]) rfl
 have cs:=aju
 have e:([t45 0,t45 1].map sm)=[sm (lr 4 0 0 qr),sm (lr 4 0 1 qr)]:=rfl
 rw[e]at cs
 have hd:dr qr=[.int .i64 11,.int .i64 0,.int .i64 0,.int .i64 0,.vs [],.vs []]:=rfl
 rw[hd]at c0 c1
 generalize lr 4 0 0 qr=a at*
 generalize lr 4 0 1 qr=b at*
 generalize hM:L45.map sm=M at*
 rw[jo]at c0 c1
 rw[jo,jo]at cs
 have w1:IntKind.i64.wrap (0+1)=1:=rfl
 simp only[go_sem]
 refine call c0 [] ?_
 simp only[go_sem,w1]
 refine call c1 [] ?_
 simp only[go_sem]
 refine⟨rfl,?_⟩
 refine call cs [] ?_
 simp only[go_sem]
theorem vg: ∀a b:List UInt8,¬Op.bytesLess a b=true→¬Op.bytesLess b a=true→a=b
 |[],[],_,_=>rfl
 |[],_::_,h,_=>absurd rfl h
 |_::_,[],_,h=>absurd rfl h
 |a::r,b::s,h,k=>by
  simp only[Op.bytesLess,Bool.or_eq_true,Bool.and_eq_true,decide_eq_true_eq,not_or,not_and,beq_iff_eq]at h k
  have e:a=b:=UInt8.le_antisymm (UInt8.not_lt.1 k.1) (UInt8.not_lt.1 h.1)
  subst e
  rw[vg r s (h.2 rfl) (k.2 rfl)]
def aka(a b:List UInt8):Int:=if Op.bytesLess a b=true then -1 else if Op.bytesLess b a=true then 1 else 0
theorem aer(a:List UInt8):Den Tryz.prog 233 [.str a] [] (.bool false) [] []:=by
 refine aa Tryz.mixed Tryz.func233 rfl Tryz.call233 Tryz.ntmps233 (congrArg Array.toList Tryz.results233) (by simp) (by kernel_rfl) [] (exts:=[]) rfl rfl ?_
 simp only[go_sem]
theorem aub(a b:List UInt8):Den Tryz.prog 186 [.str a,.str b] [] (.int .i64 (aka a b)) [] []:=by
 refine aa Tryz.mixed Tryz.func186 rfl Tryz.call186 Tryz.ntmps186 (congrArg Array.toList Tryz.results186) (by simp) (by kernel_rfl) [] (exts:=[]) rfl rfl ?_
 unfold aka
 simp only[go_sem]
 refine call (aer a) [] ?_
 simp only[go_sem]
 refine call (aer b) [] ?_
 by_cases h1:Op.bytesLess a b=true
 ·simp only[go_sem,h1]
 ·by_cases h2:Op.bytesLess b a=true
  ·simp only[go_sem,h1,h2]
   exact fun e=>h1 (by rw[e]at h2 ⊢;exact h2)
  ·simp only[go_sem,h1,h2]
   exact fun hn=>hn (vg a b h1 h2)
def a9c(a b:Stm):Int:=orL [fu a.au b.au,fu a.nu b.nu,aka a.sd b.sd]
theorem av5(a b:Stm):Den Tryz.prog 130 [.agg (sm a),.agg (sm b)] [] (.int .i64 (a9c a b)) [] []:=by
 refine aa Tryz.mixed Tryz.func130 rfl Tryz.call130 Tryz.ntmps130 (congrArg Array.toList Tryz.results130) (by simp) (by kernel_rfl) [] (exts:=[]) rfl rfl ?_
 have c4:=um [fu a.au b.au,fu a.nu b.nu,aka a.sd b.sd] (by simp[big])
 rw[show orL [fu a.au b.au,fu a.nu b.nu,aka a.sd b.sd]=a9c a b from rfl]at c4
 simp only[go_sem]
 refine call (dp a.au b.au) [] ?_
 simp only[go_sem]
 refine call (dp a.nu b.nu) [] ?_
 simp only[go_sem]
 refine call (aub a.sd b.sd) [] ?_
 generalize fu a.au b.au=x at*
 generalize fu a.nu b.nu=y at*
 generalize aka a.sd b.sd=z at*
 simp only[go_sem]
 refine call c4 [] ?_
 simp only[go_sem]
 exact ag (by kernel_rfl)
structure OkSto(L:List Stm):Prop where
 len:L.length≤900
 ok: ∀s∈L,okS s∧aj s=0∧s.sk=s.au∧s.sd=dig s
 ord: ∀i,0<i→i<L.length→a9c (el L (i - 1)) (el L i)<0
theorem aqn(L:List Stm)(h:OkSto L):Den Tryz.prog 99 [.agg [.vs (L.map sm)]] [] (.bool true) [] []:=by
 refine aa Tryz.mixed Tryz.func99 rfl Tryz.call99 Tryz.ntmps99 (congrArg Array.toList Tryz.results99) (by simp) (by kernel_rfl) [] (exts:=[]) rfl rfl ?_
 obtain⟨hl,ho,hc⟩:=h
 have g0: ¬(1000:Int)<(L.length:Int):=by omega
 simp only[go_sem,g0]
 refine loop Tryz.mixed 0 (fun i:Nat=>[(1,.ptr 1 0),(10,.vs (L.map sm)),(11,.int .i64 L.length),(12,.int .i64 i)]) (fun _=>[(1,.cells [.vs (L.map sm)])]) (fun i=>i≤L.length) (fun i=>L.length - i) (by kernel_rfl) (Nat.zero_le _) ?_ ?_
 ·simp only[go_sem]
 intro i hi
 by_cases hlt:i<L.length
 rotate_left
 ·have g1: ¬(i:Int)<(L.length:Int):=by omega
  simp only[go_sem,g1]
 have g1:(i:Int)<(L.length:Int):=by omega
 obtain⟨o1,o2,o3⟩:=ho _ (lc hlt)
 have c1:=af9 (el L i) o1
 have c2:=qm (el L i) o1
 rw[o2]at c1
 rw[decide_eq_true o3]at c2
 have w1:IntKind.i64.wrap ((i:Int)+1)=((i+1:Nat):Int):=by rw[ae]<;>omega
 have c3:=av5 (el L (i - 1)) (el L i)
 rw[jo]at c1 c2
 rw[jo,jo]at c3
 by_cases h0:0<i
 ·have h0':(0:Int)<(i:Int):=by omega
  have w2:IntKind.i64.wrap ((i:Int) - 1)=((i - 1:Nat):Int):=by rw[ae]<;>omega
  have h2:i - 1<L.length:=by omega
  have h3:=hc i h0 hlt
  generalize a9c (el L (i - 1)) (el L i)=C at*
  have h4: ¬0≤C:=by omega
  simp only[go_sem,g1,hlt]
  refine call c1 [] ?_
  simp only[go_sem]
  refine call c2 [] ?_
  simp only[go_sem,h0',w2,h2]
  refine call c3 [] ?_
  simp only[go_sem,h4]
  exact⟨ag (by kernel_rfl),i+1,⟨by omega,by omega⟩,w1⟩
 ·have h0': ¬(0:Int)<(i:Int):=by omega
  simp only[go_sem,g1,hlt]
  refine call c1 [] ?_
  simp only[go_sem]
  refine call c2 [] ?_
  simp only[go_sem,h0']
  exact⟨ag (by kernel_rfl),i+1,⟨by omega,by omega⟩,w1⟩
theorem aso(r:Rl)(L:List Stm)(t:Tm)(h:t.dec=false):Den Tryz.prog 75 [.agg (rl r),.agg [.vs (L.map sm)],.agg (tm t)] [] (.int .i64 0) [] []:=by
 refine aa Tryz.mixed Tryz.func75 rfl Tryz.call75 Tryz.ntmps75 (congrArg Array.toList Tryz.results75) (by simp) (by kernel_rfl) [] (exts:=[]) rfl rfl ?_
 simp only[go_sem,h]
theorem aqk(r:Rl)(L:List Stm)(t:Tm)(hL:OkSto L)
  (cR:Den Tryz.prog 98 [.agg (rl r)] [] (.int .i64 0) [] [])
  (cT:Den Tryz.prog 100 [.agg (rl r),.vs (L.map sm)] [] (.tup [.vs ([t].map tm),.int .i64 0]) [] []):
  Den Tryz.prog 74 [.agg (rl r),.agg [.vs (L.map sm)]] [] (.tup [.vs ([t].map tm),.int .i64 0]) [] []:=by
 refine aa Tryz.mixed Tryz.func74 rfl Tryz.call74 Tryz.ntmps74 (congrArg Array.toList Tryz.results74) (by simp) (by kernel_rfl) [] (exts:=[]) rfl rfl ?_
 have cV:=aqn L hL
 rw[oa]at cR cT
 generalize [t].map tm=T at*
 simp only[go_sem]
 refine call cR [] ?_
 simp only[go_sem]
 refine call cV [] ?_
 simp only[go_sem]
 refine call cT [] ?_
 simp only[go_sem]
theorem aqc(r:Rl)(L:List Stm)(t:Tm)(h:t.dec=false)
  (cA:Den Tryz.prog 74 [.agg (rl r),.agg [.vs (L.map sm)]] [] (.tup [.vs ([t].map tm),.int .i64 0]) [] []):
  Den Tryz.prog 45 [.agg (rl r),.agg [.vs (L.map sm)]] [] (.tup [.os 0 0,.int .i64 0]) [.arr 62 3 false []] []:=by
 refine ai7 Tryz.mixed Tryz.func45 rfl Tryz.call45 Tryz.ntmps45 (congrArg Array.toList Tryz.results45) (by simp) (by kernel_rfl) (exts:=[]) rfl rfl ?_
 have cF:=aso r L t h
 generalize hT:[t]=T at*
 have ht: ∀i,i<1→el T i=t:=fun i hi=>by
  have:i=0:=by omega
  rw[this,←hT];rfl
 have hl:T.length=1:=by rw[←hT];rfl
 rw[oa]at cA cF
 rw[ahm]at cF
 simp only[go_sem]
 refine call cA [] ?_
 have hl':(T.length:Int)=1:=by omega
 simp only[go_sem,hl,hl']
 refine loop Tryz.mixed 0 (fun i:Nat=>[(2,.ptr 2 0),(3,.ptr 3 0),(4,.nils),(5,.int .i64 0),(8,.nils),(21,.vs (T.map tm)),(22,.int .i64 1),(23,.int .i64 i)]) (fun _=>[(2,.cells (rl r)),(3,.cells [.vs (L.map sm)])]) (fun i=>i≤1) (fun i=>1 - i) (by kernel_rfl) (Nat.zero_le _) ?_ ?_
 ·simp only[go_sem]
 intro i hi
 by_cases hlt:i<1
 ·have g1:(i:Int)<1:=by omega
  have g0:i<T.length:=by omega
  have e:=ht i hlt
  have w1:IntKind.i64.wrap ((i:Int)+1)=((i+1:Nat):Int):=by rw[ae]<;>omega
  simp only[go_sem,g1,g0,e]
  refine call cF [] ?_
  simp only[go_sem]
  exact⟨i+1,⟨by omega,by omega⟩,w1⟩
 ·have g1: ¬(i:Int)<1:=by omega
  simp only[go_sem,g1]
  refine acr [(4,99,62,3)] [99] ?_ ?_
  ·simp only[go_sem]
  ·simp only[go_sem]
theorem a0i(X:List (List PV))(ep kd key:Int)(hX:X.length≤1000):Den Tryz.prog 47 [.int .i64 ep,.int .i64 kd,.int .i64 key,.ptr 1000000 0] [.cells [.os 1000001 X.length],.arr 62 3 false X] (.tup []) [] [.cells [.os 1000001 (X.length+1)],.arr 62 3 false (X++[[.int .i64 ep,.int .i64 kd,.int .i64 key]])]:=by
 refine qx Tryz.mixed Tryz.func47 rfl Tryz.call47 Tryz.ntmps47 (congrArg Array.toList Tryz.results47) (by simp) (by kernel_rfl) [] [] 1000000 1000001 [] (exts:=[1000000,1000001]) rfl rfl rfl rfl ?_
 simp only[go_sem]
 omega
theorem ajq(r:Rl)(L:List Stm)(t:Tm)
  (cA:Den Tryz.prog 74 [.agg (rl r),.agg [.vs (L.map sm)]] [] (.tup [.vs ([t].map tm),.int .i64 0]) [] [])
  (cC:Den Tryz.prog 76 [.vs (L.map sm)] [] (.vs []) [] []):
  Den Tryz.prog 46 [.agg (rl r),.agg [.vs (L.map sm)]] [] (.tup [.vs [],.int .i64 0]) [] []:=by
 refine aa Tryz.mixed Tryz.func46 rfl Tryz.call46 Tryz.ntmps46 (congrArg Array.toList Tryz.results46) (by simp) (by kernel_rfl) [] (exts:=[]) rfl rfl ?_
 rw[oa]at cA
 generalize [t].map tm=T at*
 simp only[go_sem]
 refine call cA [] ?_
 simp only[go_sem]
 refine call cC [] ?_
 simp only[go_sem]
 refine loop Tryz.mixed () (fun _:Unit=>[(4,.nils),(5,.int .i64 0),(8,.nils),(26,.vs []),(27,.int .i64 0),(28,.int .i64 0)]) (fun _=>[(2,.cells (rl r)),(3,.cells [.vs (L.map sm)])]) (fun _=>True) (fun _=>0) (by kernel_rfl) trivial ?_ ?_
 ·simp only[go_sem]
 intro _ _
 simp only[go_sem]
theorem awl(r:Rl)(L:List Stm)
  (cT:Den Tryz.prog 45 [.agg (rl r),.agg [.vs (L.map sm)]] [] (.tup [.os 0 0,.int .i64 0]) [.arr 62 3 false []] [])
  (cS:Den Tryz.prog 46 [.agg (rl r),.agg [.vs (L.map sm)]] [] (.tup [.vs [],.int .i64 0]) [] [])
  (cG:Den Tryz.prog 48 [.vs (L.map sm)] [] (.vs ([4].map i1)) [] []):
  Den Tryz.prog 19 [.agg (rl r),.agg [.vs (L.map sm)]] [] (.tup [.vs [[.int .i64 0,.int .i64 2,.int .i64 4]],.int .i64 0]) [] []:=by
 refine aa Tryz.mixed Tryz.func19 rfl Tryz.call19 Tryz.ntmps19 (congrArg Array.toList Tryz.results19) (by simp) (by kernel_rfl) [] (exts:=[]) rfl rfl ?_
 rw[oa]at cT cS
 have cN:=a0i [] 0 2 4 (by simp)
 generalize L.map sm=M at*
 simp only[go_sem]
 refine call cT [] ?_
 simp only[go_sem]
 refine call cS [] ?_
 simp only[go_sem]
 refine loop Tryz.mixed () (fun _:Unit=>[(3,.ptr 3 0),(4,.nils),(5,.int .i64 0),(6,.ptr 6 0),(9,.fn 47 [.ptr 6 0]),(33,.vs []),(34,.int .i64 0),(35,.int .i64 0)]) (fun _=>[(3,.cells [.vs M]),(6,.cells [.os 17 0]),(17,.arr 62 3 false [])]) (fun _=>True) (fun _=>0) (by kernel_rfl) trivial ?_ ?_
 ·simp only[go_sem]
 intro _ _
 simp only[go_sem]
 refine call cG [] ?_
 generalize hK:([4]:List Int)=K at*
 have hl:K.length=1:=by rw[←hK];rfl
 have hl':(K.length:Int)=1:=by omega
 have h0: ∀i,i<1→el K i=4:=fun i hi=>by
  have:i=0:=by omega
  rw[this,←hK];rfl
 obtain⟨X,x0,x1⟩: ∃X:Nat→List (List PV),X 0=[]∧X 1=[[.int .i64 0,.int .i64 2,.int .i64 4]]:=⟨fun i=>if i=0 then []else [[.int .i64 0,.int .i64 2,.int .i64 4]],rfl,rfl⟩
 simp only[go_sem,hl,hl']
 refine loop Tryz.mixed 0 (fun i:Nat=>[(4,.nils),(5,.int .i64 0),(6,.ptr 6 0),(9,.fn 47 [.ptr 6 0]),(48,.vs (K.map i1)),(49,.int .i64 1),(50,.int .i64 i)]) (fun i=>[(6,.cells [.os 17 i]),(17,.arr 62 3 false (X i))]) (fun i=>i≤1) (fun i=>1 - i) (by kernel_rfl) (Nat.zero_le _) ?_ ?_
 ·rw[x0]
  simp only[go_sem]
 intro i hi
 by_cases hlt:i<1
 ·have:i=0:=by omega
  subst this
  have g0:0<K.length:=by omega
  have e:=h0 0 hlt
  rw[x0]
  simp only[go_sem,g0,e]
  refine⟨by omega,?_⟩
  refine bc4 cN [] [] [] 6 17 [6,17] rfl rfl (by simp) rfl ?_
  simp only[go_sem]
  exact⟨1,⟨Nat.le_refl _,by omega⟩,rfl,rfl,x1.symm⟩
 ·have:i=1:=by omega
  subst this
  rw[x1]
  simp only[go_sem]
theorem ai3:Den Tryz.prog 51 [.vs [],.vs []] [] (.bool true) [] []:=by
 refine aa Tryz.mixed Tryz.func51 rfl Tryz.call51 Tryz.ntmps51 (congrArg Array.toList Tryz.results51) (by simp) (by kernel_rfl) [] (exts:=[]) rfl rfl ?_
 simp only[go_sem]
 refine loop Tryz.mixed () (fun _:Unit=>[(4,.bool false),(13,.vs []),(14,.int .i64 0),(15,.int .i64 0)]) (fun _=>[]) (fun _=>True) (fun _=>0) (by kernel_rfl) trivial ?_ ?_
 ·simp only[go_sem]
 intro _ _
 simp only[go_sem]
theorem ao8:Den Tryz.prog 21 [.vs [],.vs []] [] (.bool true) [] []:=by
 refine aa Tryz.mixed Tryz.func21 rfl Tryz.call21 Tryz.ntmps21 (congrArg Array.toList Tryz.results21) (by simp) (by kernel_rfl) [] (exts:=[]) rfl rfl ?_
 simp only[go_sem]
 refine call ai3 [] ?_
 simp only[go_sem]
def g45:Gr:=⟨2,[⟨0,1,1⟩],[]⟩
def p45:Pol:=⟨[0],[3,2],1⟩
def r45:Rl:=⟨[0],p45,1,5,0⟩
theorem ak2:ma g45 p45 [1]=(1,0)∧ma g45 p45 [0,1]=(3,0):=by decide+kernel
theorem ao1(hD: ∀(g:Gr) (p:Pol),qe g p=0→g.ed.length≤1000→Den Tryz.prog 29 [.agg (gr (gn g p.lv)),.vs (p.se.map i1)] [] (.os 0 (dv (gn g p.lv) p.se).length) [.arr 3 1 false ((dv (gn g p.lv) p.se).map i1)] [])
  (cF:Den Tryz.prog 19 [.agg (rl r45),.agg [.vs (L45.map sm)]] [] (.tup [.vs [[.int .i64 0,.int .i64 2,.int .i64 4]],.int .i64 0]) [] []):
  Den Tryz.prog 7 [] [] (.bool true) [] []:=by
 refine aa Tryz.mixed Tryz.func7 rfl Tryz.call7 Tryz.ntmps7 (congrArg Array.toList Tryz.results7) (by simp) (by kernel_rfl) [] (exts:=[]) rfl rfl ?_
 have c1:=xe g45 p45 [1] (by decide) (by decide) (by decide) (by decide) (by decide) (fun h=>hD g45 p45 h (by decide))
 have c2:=xe g45 p45 [0,1] (by decide) (by decide) (by decide) (by decide) (by decide) (fun h=>hD g45 p45 h (by decide))
 rw[ak2.1]at c1
 rw[ak2.2]at c2
 have cM:=a1k
 have cA:=ao8
 generalize L45.map sm=M at*
 have eg:gr g45=[.int .i64 2,.vs [[.int .i64 0,.int .i64 1,.int .i64 1]],.vs []]:=rfl
 have ep:pl p45=[.vs [[.int .i64 0],],.vs [[.int .i64 3],[.int .i64 2]],.int .i64 1]:=rfl
 have er:rl r45=[.vs [[.int .i64 0]],.vs [[.int .i64 0]],.vs [[.int .i64 3],[.int .i64 2]],.int .i64 1,.int .i64 1,.int .i64 5,.int .i64 0]:=rfl
 have e1:([1]:List Int).map i1=[[.int .i64 1]]:=rfl
 have e2:([0,1]:List Int).map i1=[[.int .i64 0],[.int .i64 1]]:=rfl
 rw[eg,ep,e1]at c1
 rw[eg,ep,e2]at c2
 rw[er]at cF
 simp only[go_sem]
 refine call c1 [] ?_
 simp only[go_sem]
 refine call c2 [] ?_
 simp only[go_sem]
 refine call cM [] ?_
 simp only[go_sem]
 refine call cF [] ?_
 simp only[go_sem]
 refine⟨ag (by kernel_rfl),?_⟩
 refine call cA [] ?_
 simp only[go_sem]
end Go.Proofs.Am
