/- QTwo. -/
import Derived.Test.YteakcpfdfglndaaGreatDoorPOne
import Derived.Laws.BitsAllLaws
import Derived.Test.YteakcpfdfglndaaGreatDoorXOne
import Derived.Test.YteakcpfdfglndaaGreatDoorPTwo
set_option maxRecDepth 1000000
set_option linter.unusedSimpArgs false
set_option linter.unusedVariables false
namespace Go.Proofs.Am
open Go Go.RowKit
open Go.Proofs
def icQ(l:List Nat):List Int:=l.map fun n=>((n:Nat):Int)
def r3Q(x a b c:Nat):Nat:=Nat.mod (Nat.xor (Nat.xor (Nat.shiftRight (Nat.mul x 4294967297) a) (Nat.shiftRight (Nat.mul x 4294967297) b)) (Nat.shiftRight (Nat.mul x 4294967297) c)) 4294967296
def r2Q(x a b c:Nat):Nat:=Nat.mod (Nat.xor (Nat.xor (Nat.shiftRight (Nat.mul x 4294967297) a) (Nat.shiftRight (Nat.mul x 4294967297) b)) (Nat.shiftRight x c)) 4294967296
def nwQ(a b c d:Nat):Nat:=Nat.mod (Nat.add (Nat.add (Nat.add a (r2Q b 7 18 3)) c) (r2Q d 17 19 10)) 4294967296
def t1Q(e f g h k w:Nat):Nat:=Nat.mod (Nat.add (Nat.add (Nat.add (Nat.add h (r3Q e 6 11 25)) (Nat.xor (Nat.land e f) (Nat.land (Nat.xor 4294967295 e) g))) k) w) 4294967296
def t2Q(a b c:Nat):Nat:=Nat.add (r3Q a 2 13 22) (Nat.xor (Nat.xor (Nat.land a b) (Nat.land a c)) (Nat.land b c))
theorem u1(n:Nat):IntKind.u32.wrap (n:Int)=((n % 4294967296:Nat):Int):=by
 rw[Go.IntKind.wrap_u32'];omega
theorem gy(a b:Nat):ad (a:Int) (b:Int)=(((a+b) % 4294967296:Nat):Int):=by
 rw[ad,←Int.natCast_add,u1]
theorem vg{a b:Nat}(ha:a<4294967296)(hb:b<4294967296):xo (a:Int) (b:Int)=((a^^^b:Nat):Int):=u32_xor_nat a b ha hb
theorem af4{a b:Nat}(ha:a<4294967296)(hb:b<4294967296):an (a:Int) (b:Int)=((a&&&b:Nat):Int):=u32_and_nat a b ha hb
theorem a94{a:Nat}(ha:a<4294967296):nt (a:Int)=((4294967295^^^a:Nat):Int):=u32_xor_nat 4294967295 a (by omega) ha
theorem yl{a b:Nat}(ha:a<4294967296)(hb:b<4294967296):a^^^b<4294967296:=Nat.xor_lt_two_pow (n:=32) ha hb
theorem pe{a b:Nat}(ha:a<4294967296):a&&&b<4294967296:=Nat.lt_of_le_of_lt Nat.and_le_left ha
theorem a4n(a n:Nat):sr (a:Int) n=((a>>>n:Nat):Int):=by
 rw[sr,Nat.shiftRight_eq_div_pow,Int.fdiv_eq_ediv_of_nonneg _ (Int.pow_nonneg (by omega))]
 have:((2:Int)^n)=((2^n:Nat):Int):=by simp
 rw[this,←Int.natCast_ediv]
theorem xy{x n:Nat}(hx:x<4294967296)(h0:0<n)(hn:n<32):rot (x:Int) n=(((x*4294967297)>>>n % 4294967296:Nat):Int):=by
 have hp:2^n*2^(32 - n)=4294967296:=by rw[←Nat.pow_add,(show n+(32 - n)=32 by omega)]
 have p0:0<2^n:=Nat.two_pow_pos n
 have q0:0<2^(32 - n):=Nat.two_pow_pos _
 have e1:(x:Int).fdiv (2^n)=((x/2^n:Nat):Int):=by
  have:=a4n x n
  rw[sr,Nat.shiftRight_eq_div_pow]at this
  exact this
 have e2:IntKind.u32.wrap ((x:Int)*2^(32 - n))=((x*2^(32 - n) % 4294967296:Nat):Int):=by
  rw[←u1,Int.natCast_mul]
  simp
 rw[rot,e1,e2]
 generalize hP:2^n=p at*
 generalize hQ:2^(32 - n)=q at*
 have hd:x/p<4294967296:=Nat.lt_of_le_of_lt (Nat.div_le_self _ _) hx
 have hm:x*q % 4294967296<4294967296:=Nat.mod_lt _ (by omega)
 rw[u32_or_nat _ _ hd hm]
 have hxp:x/p<q:=by rw[Nat.div_lt_iff_lt_mul p0,Nat.mul_comm q p,hp];exact hx
 have hmq:x*q % 4294967296 % q=0:=by
  rw[←hp,Nat.mod_mod_of_dvd _ (Nat.dvd_mul_left q p),Nat.mul_mod_left]
 have hj:=nat_join (32 - n) (x*q % 4294967296) (x/p) (by rw[hQ];exact hmq) (by rw[hQ];exact hxp)
 rw[Nat.or_comm,hj,Nat.shiftRight_eq_div_pow,hP]
 congr 1
 have h1:x*4294967297=x+p*(x*q):=by
  have:p*(x*q)=x*(p*q):=by rw[Nat.mul_left_comm]
  rw[this,hp];omega
 rw[h1,Nat.add_mul_div_left _ _ p0,Nat.add_mod]
 rw[Nat.mod_eq_of_lt hd]
 have hlt:x*q % 4294967296+x/p<4294967296:=by
  have h2:x*q % 4294967296=q*(x*q % 4294967296/q):=by
   have:=Nat.div_add_mod (x*q % 4294967296) q
   rw[hmq]at this;omega
  have h3:x*q % 4294967296/q<p:=by
   rw[Nat.div_lt_iff_lt_mul q0,hp];exact hm
  have h4:q*(x*q % 4294967296/q)≤q*(p - 1):=Nat.mul_le_mul_left q (by omega)
  have h5:q*(p - 1)+q=4294967296:=by
   rw[←hp,Nat.mul_comm p q]
   have:q*(p - 1)+q*1=q*(p - 1+1):=by rw[←Nat.mul_add]
   rw[Nat.mul_one]at this
   rw[this]
   congr 1;omega
  omega
 rw[Nat.mod_eq_of_lt (a:=x/p+_) (by omega)]
 omega
theorem a4d{x a b c:Nat}(hx:x<4294967296)(ha:0<a∧a<32)(hb:0<b∧b<32)(hc:0<c∧c<32):xo (xo (rot (x:Int) a) (rot (x:Int) b)) (rot (x:Int) c)=((r3Q x a b c:Nat):Int):=by
 have hl: ∀y:Nat,y % 4294967296<4294967296:=fun y=>Nat.mod_lt _ (by omega)
 rw[xy hx ha.1 ha.2,xy hx hb.1 hb.2,xy hx hc.1 hc.2,vg (hl _) (hl _),vg (yl (hl _) (hl _)) (hl _)]
 congr 1
 show _=((((x*4294967297)>>>a)^^^((x*4294967297)>>>b))^^^((x*4294967297)>>>c)) % 2^32
 rw[Nat.xor_mod_two_pow,Nat.xor_mod_two_pow]
theorem a44{x a b c:Nat}(hx:x<4294967296)(ha:0<a∧a<32)(hb:0<b∧b<32):xo (xo (rot (x:Int) a) (rot (x:Int) b)) (sr (x:Int) c)=((r2Q x a b c:Nat):Int):=by
 have hl: ∀y:Nat,y % 4294967296<4294967296:=fun y=>Nat.mod_lt _ (by omega)
 have hs:x>>>c<4294967296:=by rw[Nat.shiftRight_eq_div_pow];exact Nat.lt_of_le_of_lt (Nat.div_le_self _ _) hx
 rw[xy hx ha.1 ha.2,xy hx hb.1 hb.2,a4n,vg (hl _) (hl _),vg (yl (hl _) (hl _)) hs]
 congr 1
 show _=((((x*4294967297)>>>a)^^^((x*4294967297)>>>b))^^^(x>>>c)) % 2^32
 rw[Nat.xor_mod_two_pow,Nat.xor_mod_two_pow,Nat.mod_eq_of_lt (a:=x>>>c) hs]
theorem bfc(a b c d:Nat):nwQ a b c d<4294967296:=Nat.mod_lt _ (by omega)
theorem ba5{w:List Int}{m a b c d:Nat}(hb:b<4294967296)(hd:d<4294967296)(e0:el w m=a)(e1:el w (m+1)=b)(e9:el w (m+9)=c)(e14:el w (m+14)=d):wst w m=((nwQ a b c d:Nat):Int):=by
 rw[wst,e0,e1,e9,e14,a44 hb (by omega) (by omega),a44 hd (by omega) (by omega),gy,gy,gy]
 congr 1
 show _=(a+r2Q b 7 18 3+c+r2Q d 17 19 10) % 4294967296
 omega
theorem bcb{a b c d e f g h k w:Nat}(he:e<4294967296)(hf:f<4294967296)(hg:g<4294967296):rx (icQ [a,b,c,d,e,f,g,h]) (k:Int) (w:Int)=((t1Q e f g h k w:Nat):Int):=by
 show ad (ad (ad (ad (h:Int) (xo (xo (rot (e:Int) 6) (rot (e:Int) 11)) (rot (e:Int) 25))) (xo (an (e:Int) (f:Int)) (an (nt (e:Int)) (g:Int)))) (k:Int)) (w:Int)=_
 rw[a4d he (by omega) (by omega) (by omega),a94 he,af4 he hf,af4 (yl (by omega) he) hg,vg (pe he) (pe (yl (by omega) he)),gy,gy,gy,gy]
 congr 1
 show _=(h+r3Q e 6 11 25+((e&&&f)^^^((4294967295^^^e)&&&g))+k+w) % 4294967296
 omega
theorem a60{a b c d e f g h t:Nat}(ha:a<4294967296)(hb:b<4294967296)(hc:c<4294967296):ad (ad (t:Int) (rs (icQ [a,b,c,d,e,f,g,h]))) (rm (icQ [a,b,c,d,e,f,g,h]))=((Nat.mod (Nat.add t (t2Q a b c)) 4294967296:Nat):Int):=by
 show ad (ad (t:Int) (xo (xo (rot (a:Int) 2) (rot (a:Int) 13)) (rot (a:Int) 22))) (xo (xo (an (a:Int) (b:Int)) (an (a:Int) (c:Int))) (an (b:Int) (c:Int)))=_
 rw[a4d ha (by omega) (by omega) (by omega),af4 ha hb,af4 ha hc,af4 hb hc,vg (pe ha) (pe ha),vg (yl (pe ha) (pe ha)) (pe hb),gy,gy]
 congr 1
 show _=(t+(r3Q a 2 13 22+(((a&&&b)^^^(a&&&c))^^^(b&&&c)))) % 4294967296
 omega
theorem a6u{a b c d e f g h k w:Nat}(ha:a<4294967296)(hb:b<4294967296)(hc:c<4294967296)(he:e<4294967296)(hf:f<4294967296)(hg:g<4294967296):rnd (icQ [a,b,c,d,e,f,g,h]) (k:Int) (w:Int)=icQ [Nat.mod (Nat.add (t1Q e f g h k w) (t2Q a b c)) 4294967296,a,b,c,Nat.mod (Nat.add d (t1Q e f g h k w)) 4294967296,e,f,g]:=by
 rw[rnd,bcb he hf hg,a60 ha hb hc]
 show [_,(a:Int),(b:Int),(c:Int),ad (d:Int) _,(e:Int),(f:Int),(g:Int)]=_
 rw[gy]
 rfl
noncomputable def sqQ {α:Type} (n:Nat) (f:Nat→α):α:=Nat.rec (motive:=fun _=>α) (f 0) (fun m _=>f (Nat.succ m)) n
theorem aot{α:Type}(n:Nat)(f:Nat→α):sqQ n f=f n:=by cases n<;>rfl
noncomputable def aw1 {α:Type} (m:Nat) (l:List Nat) (f:List Nat→α):α:=
 Nat.rec (motive:=fun _=>List Nat→α) (fun l=>f l) (fun _ ih l=>sqQ (nwQ (l.getD 15 0) (l.getD 14 0) (l.getD 6 0) (l.getD 1 0)) fun x=>ih (x::l)) m l
def ads:Nat→List Nat→List Nat
 |0,l=>l
 |m+1,l=>ads m (nwQ (l.getD 15 0) (l.getD 14 0) (l.getD 6 0) (l.getD 1 0)::l)
theorem a3e{α:Type}(m:Nat): ∀(l:List Nat) (f:List Nat→α),aw1 m l f=f (ads m l):=by
 induction m with
 |zero=>intro l f;rfl
 |succ m ih=>
  intro l f
  show sqQ _ (fun x=>aw1 m (x::l) f)=_
  rw[aot,ih];rfl
theorem atz(m:Nat): ∀l,ads (m+1) l=nwQ ((ads m l).getD 15 0) ((ads m l).getD 14 0) ((ads m l).getD 6 0) ((ads m l).getD 1 0)::ads m l:=by
 induction m with
 |zero=>intro l;rfl
 |succ m ih=>intro l;rw[ads,ih];rfl
def okW(l:List Nat):Prop:= ∀x∈l,x<4294967296
theorem okW.at{l:List Nat}(h:okW l)(i:Nat):l.getD i 0<4294967296:=by
 rw[List.getD_eq_getElem?_getD]
 by_cases hi:i<l.length
 ·rw[List.getElem?_eq_getElem hi];exact h _ (List.getElem_mem hi)
 ·rw[List.getElem?_eq_none (by omega)];simp
theorem bcr(l:List Nat)(i:Nat):el (icQ l) i=((l.getD i 0:Nat):Int):=by
 unfold el icQ
 rw[List.getD_eq_getElem?_getD,List.getD_eq_getElem?_getD,List.getElem?_map]
 cases l[i]?<;>rfl
theorem a0s{l:List Int}{n i:Nat}(h:i<n):el (l.take n) i=el l i:=by
 unfold el
 rw[List.getD_eq_getElem?_getD,List.getD_eq_getElem?_getD,List.getElem?_take,if_pos h]
theorem a7m{l:List Int}{i:Nat}(h:i<l.length):el l.reverse i=el l (l.length - 1 - i):=by
 unfold el
 rw[List.getD_eq_getElem?_getD,List.getD_eq_getElem?_getD,List.getElem?_reverse h]
theorem ahj{b:List UInt8}{l:List Nat}(h0:icQ l=((wB b 0).take 16).reverse)(hw:okW l): ∀m,m≤48→icQ (ads m l)=((wB b m).take (16+m)).reverse∧okW (ads m l)
 |0,_=>⟨h0,hw⟩
 |m+1,hm=>by
  obtain⟨e,w⟩:=ahj h0 hw m (by omega)
  rw[atz]
  have hl:(wB b m).length=64:=afx b m
  have htl:((wB b m).take (16+m)).length=16+m:=by rw[List.length_take];omega
  have ga: ∀j,j<16→el (wB b m) (m+15 - j)=(((ads m l).getD j 0:Nat):Int):=fun j hj=>by
   rw[←bcr,e,a7m (by omega),a0s (by omega),htl]
   congr 1;omega
  have g0:=ga 15 (by omega)
  have g1:=ga 14 (by omega)
  have g9:=ga 6 (by omega)
  have g14:=ga 1 (by omega)
  rw[(by omega:m+15 - 15=m)]at g0
  rw[(by omega:m+15 - 14=m+1)]at g1
  rw[(by omega:m+15 - 6=m+9)]at g9
  rw[(by omega:m+15 - 1=m+14)]at g14
  refine⟨?_,fun x hx=> ?_⟩
  ·have hn:=ba5 (w.at 14) (w.at 1) g0 g1 g9 g14
   show((nwQ _ _ _ _:Nat):Int)::icQ (ads m l)=_
   rw[←hn,e,wB]
   have h1:((wB b m).set (16+m) (wst (wB b m) m)).take (16+(m+1))=(wB b m).take (16+m)++[wst (wB b m) m]:=by
    rw[(by omega:16+(m+1)=16+m+1),List.take_add_one,List.take_set_of_le (by omega),List.getElem?_set_self (by omega)]
    rfl
   rw[h1,List.reverse_append]
   rfl
  ·rcases List.mem_cons.1 hx with rfl|hx
   ·exact bfc _ _ _ _
   ·exact w x hx
noncomputable def ab7 {α:Type} (ks:List Nat):(ws:List Nat)→(a b c d e f g h:Nat)→(Nat→Nat→Nat→Nat→Nat→Nat→Nat→Nat→α)→α:=
 List.rec (motive:=fun _=>(ws:List Nat)→(a b c d e f g h:Nat)→(Nat→Nat→Nat→Nat→Nat→Nat→Nat→Nat→α)→α)
  (fun _ a b c d e f g h q=>q a b c d e f g h)
  (fun k _ ih ws a b c d e f g h q=>sqQ (t1Q e f g h k (ws.headD 0)) fun t=>sqQ (Nat.mod (Nat.add d t) 4294967296) fun e'=>sqQ (Nat.mod (Nat.add t (t2Q a b c)) 4294967296) fun a'=>ih ws.tail a' a b c e' e f g q) ks
def frQ(v:List Int):List Int→List Int→List Int
 |k::ks,w::ws=>frQ (rnd v k w) ks ws
 |_,_=>v
theorem ave(k w:Int): ∀(ks ws:List Int) (v:List Int),ks.length=ws.length→frQ v (ks++[k]) (ws++[w])=rnd (frQ v ks ws) k w
 |[],[],v,_=>rfl
 |x::ks,y::ws,v,h=>by
  show frQ (rnd v x y) (ks++[k]) (ws++[w])=rnd (frQ (rnd v x y) ks ws) k w
  exact ave k w ks ws _ (by simpa using h)
theorem amd{l:List Int}{i:Nat}(h:i<l.length):l.take (i+1)=l.take i++[el l i]:=by
 rw[List.take_add_one,List.getElem?_eq_getElem h]
 unfold el
 rw[List.getD_eq_getElem?_getD,List.getElem?_eq_getElem h]
 rfl
theorem auu(h k w:List Int): ∀m,m≤k.length→m≤w.length→aeu h k w m=frQ h (k.take m) (w.take m)
 |0,_,_=>rfl
 |m+1,hk,hw=>by
  rw[amd (by omega),amd (by omega),ave _ _ _ _ _ (by rw[List.length_take,List.length_take];omega),←auu h k w m (by omega) (by omega)]
  rfl
theorem asr(n:Nat):Nat.mod n 4294967296<4294967296:=Nat.mod_lt _ (by omega)
theorem yn: ∀(ks ws:List Nat) (a b c d e f g h:Nat),ks.length=ws.length→okW [a,b,c,d,e,f,g,h]→
  ∃a' b' c' d' e' f' g' h',okW [a',b',c',d',e',f',g',h']∧icQ [a',b',c',d',e',f',g',h']=frQ (icQ [a,b,c,d,e,f,g,h]) (icQ ks) (icQ ws)∧∀(α:Type) (q:Nat→Nat→Nat→Nat→Nat→Nat→Nat→Nat→α),ab7 ks ws a b c d e f g h q=q a' b' c' d' e' f' g' h'
 |[],ws,a,b,c,d,e,f,g,h,_,hw=>⟨a,b,c,d,e,f,g,h,hw,by cases ws<;>rfl,fun _ _=>rfl⟩
 |k::ks,[],a,b,c,d,e,f,g,h,hl,_=>by simp at hl
 |k::ks,w::ws,a,b,c,d,e,f,g,h,hl,hw=>by
  have l1:a<4294967296∧b<4294967296∧c<4294967296∧d<4294967296∧e<4294967296∧f<4294967296∧g<4294967296∧h<4294967296:=by
   refine⟨hw _ ?_,hw _ ?_,hw _ ?_,hw _ ?_,hw _ ?_,hw _ ?_,hw _ ?_,hw _ ?_⟩<;>simp
  obtain⟨la,lb,lc,ld,le,lf,lg,lh⟩:=l1
  have h2:okW [Nat.mod (Nat.add (t1Q e f g h k w) (t2Q a b c)) 4294967296,a,b,c,Nat.mod (Nat.add d (t1Q e f g h k w)) 4294967296,e,f,g]:=fun x hx=>by
   simp only[List.mem_cons,List.not_mem_nil,or_false]at hx
   rcases hx with rfl|rfl|rfl|rfl|rfl|rfl|rfl|rfl
   ·exact asr _
   ·exact la
   ·exact lb
   ·exact lc
   ·exact asr _
   ·exact le
   ·exact lf
   ·exact lg
  obtain⟨a',b',c',d',e',f',g',h',w',s1,s2⟩:=yn ks ws _ _ _ _ _ _ _ _ (by simpa using hl) h2
  refine⟨a',b',c',d',e',f',g',h',w',?_,fun α q=> ?_⟩
  ·rw[s1,←a6u la lb lc le lf lg]
   rfl
  ·rw[←s2 α q]
   have e0:ab7 (k::ks) (w::ws) a b c d e f g h q=sqQ (t1Q e f g h k w) fun t=>sqQ (Nat.mod (Nat.add d t) 4294967296) fun e'=>sqQ (Nat.mod (Nat.add t (t2Q a b c)) 4294967296) fun a'=>ab7 ks ws a' a b c e' e f g q:=rfl
   rw[e0,aot,aot,aot]
noncomputable def bdn {α:Type} (ks:List Nat) (a b c d e f g h:Nat) (l:List Nat) (q:Nat→Nat→Nat→Nat→Nat→Nat→Nat→Nat→α):α:=
 aw1 48 l.reverse fun ws=>ab7 ks ws.reverse a b c d e f g h fun a' b' c' d' e' f' g' h'=>
  sqQ (Nat.mod (Nat.add a' a) 4294967296) fun a=>sqQ (Nat.mod (Nat.add b' b) 4294967296) fun b=>sqQ (Nat.mod (Nat.add c' c) 4294967296) fun c=>sqQ (Nat.mod (Nat.add d' d) 4294967296) fun d=>
  sqQ (Nat.mod (Nat.add e' e) 4294967296) fun e=>sqQ (Nat.mod (Nat.add f' f) 4294967296) fun f=>sqQ (Nat.mod (Nat.add g' g) 4294967296) fun g=>sqQ (Nat.mod (Nat.add h' h) 4294967296) fun h=>q a b c d e f g h
theorem a7w(a b c d e f g h a' b' c' d' e' f' g' h':Nat):fin (icQ [a',b',c',d',e',f',g',h']) (icQ [a,b,c,d,e,f,g,h]) 8=icQ [Nat.mod (Nat.add a' a) 4294967296,Nat.mod (Nat.add b' b) 4294967296,Nat.mod (Nat.add c' c) 4294967296,Nat.mod (Nat.add d' d) 4294967296,Nat.mod (Nat.add e' e) 4294967296,Nat.mod (Nat.add f' f) 4294967296,Nat.mod (Nat.add g' g) 4294967296,Nat.mod (Nat.add h' h) 4294967296]:=by
 show [ad (a':Int) a,ad (b':Int) b,ad (c':Int) c,ad (d':Int) d,ad (e':Int) e,ad (f':Int) f,ad (g':Int) g,ad (h':Int) h]=_
 rw[gy,gy,gy,gy,gy,gy,gy,gy]
 rfl
theorem a3f{ks l:List Nat}{bs:List UInt8}{a b c d e f g h:Nat}(hk:ks.length=64)(hl:icQ l=(wB bs 0).take 16)(hw:okW l)(hv:okW [a,b,c,d,e,f,g,h]):
  ∃a' b' c' d' e' f' g' h',okW [a',b',c',d',e',f',g',h']∧icQ [a',b',c',d',e',f',g',h']=ayq (icQ [a,b,c,d,e,f,g,h]) bs (icQ ks)∧∀(α:Type) (q:Nat→Nat→Nat→Nat→Nat→Nat→Nat→Nat→α),bdn ks a b c d e f g h l q=q a' b' c' d' e' f' g' h':=by
 have hr:icQ l.reverse=((wB bs 0).take 16).reverse:=by rw[←hl];unfold icQ;rw[List.map_reverse]
 obtain⟨e1,w1⟩:=ahj hr (fun x hx=>hw x (List.mem_reverse.1 hx)) 48 (by omega)
 have hB:(wB bs 48).length=64:=afx bs 48
 have e2:icQ (ads 48 l.reverse).reverse=wB bs 48:=by
  have:icQ (ads 48 l.reverse).reverse=(icQ (ads 48 l.reverse)).reverse:=by unfold icQ;rw[List.map_reverse]
  rw[this,e1,List.reverse_reverse,List.take_of_length_le (by omega)]
 have hlen:(ads 48 l.reverse).reverse.length=64:=by
  have:=congrArg List.length e2
  rw[hB]at this
  rw[←this];unfold icQ;rw[List.length_map]
 obtain⟨a',b',c',d',e',f',g',h',v',s1,s2⟩:=yn ks (ads 48 l.reverse).reverse a b c d e f g h (by omega) hv
 refine⟨_,_,_,_,_,_,_,_,?_,(?_:icQ [Nat.mod (Nat.add a' a) 4294967296,Nat.mod (Nat.add b' b) 4294967296,Nat.mod (Nat.add c' c) 4294967296,Nat.mod (Nat.add d' d) 4294967296,Nat.mod (Nat.add e' e) 4294967296,Nat.mod (Nat.add f' f) 4294967296,Nat.mod (Nat.add g' g) 4294967296,Nat.mod (Nat.add h' h) 4294967296]=_),fun α q=> ?_⟩
 ·intro x hx
  simp only[List.mem_cons,List.not_mem_nil,or_false]at hx
  rcases hx with rfl|rfl|rfl|rfl|rfl|rfl|rfl|rfl<;>exact asr _
 ·have hkl:(icQ ks).length=64:=by unfold icQ;rw[List.length_map];exact hk
  rw[←a7w,s1,e2,ayq,auu _ _ _ 64 (by omega) (by omega),List.take_of_length_le (by omega),List.take_of_length_le (by omega)]
 ·unfold bdn
  rw[a3e,s2]
  simp only[aot]
def wdN:List UInt8→List Nat
 |b0::b1::b2::b3::r=>(b0.toNat*16777216+b1.toNat*65536+b2.toNat*256+b3.toNat)::wdN r
 |_=>[]
theorem a4m: ∀l:List UInt8,okW (wdN l)
 |b0::b1::b2::b3::r=>fun x hx=>by
  rcases List.mem_cons.1 hx with rfl|hx
  ·have h0:=b0.toNat_lt
   have h1:=b1.toNat_lt
   have h2:=b2.toNat_lt
   have h3:=b3.toNat_lt
   omega
  ·exact a4m r x hx
 |[]=>fun x hx=>by simp[wdN]at hx
 |[_]=>fun x hx=>by simp[wdN]at hx
 |[_,_]=>fun x hx=>by simp[wdN]at hx
 |[_,_,_]=>fun x hx=>by simp[wdN]at hx
theorem alk: ∀(k:Nat) (l:List UInt8),wdN (l.drop (4*k))=(wdN l).drop k
 |0,l=>rfl
 |k+1,b0::b1::b2::b3::r=>alk k r
 |k+1,[]=>by simp[wdN]
 |k+1,[_]=>by simp[wdN,Nat.mul_succ]
 |k+1,[_,_]=>by simp[wdN,Nat.mul_succ]
 |k+1,[_,_,_]=>by simp[wdN,Nat.mul_succ]
theorem al5: ∀(k:Nat) (l:List UInt8),wdN (l.take (4*k))=(wdN l).take k
 |0,l=>rfl
 |k+1,b0::b1::b2::b3::r=>by
  show wdN (b0::b1::b2::b3::r.take (4*k))=_::(wdN r).take k
  rw[←al5 k r];rfl
 |k+1,[]=>rfl
 |k+1,[_]=>rfl
 |k+1,[_,_]=>rfl
 |k+1,[_,_,_]=>rfl
theorem a6b(b:List UInt8)(i:Nat):w16 b i=(((el b (4*i)).toNat*16777216+(el b (4*i+1)).toNat*65536+(el b (4*i+2)).toNat*256+(el b (4*i+3)).toNat:Nat):Int):=by
 have h0:=(el b (4*i)).toNat_lt
 have h1:=(el b (4*i+1)).toNat_lt
 have h2:=(el b (4*i+2)).toNat_lt
 have h3:=(el b (4*i+3)).toNat_lt
 unfold w16
 generalize (el b (4*i)).toNat=x0 at*
 generalize (el b (4*i+1)).toNat=x1 at*
 generalize (el b (4*i+2)).toNat=x2 at*
 generalize (el b (4*i+3)).toNat=x3 at*
 have e: ∀(x k:Nat),x<256→k≤16777216→IntKind.u32.wrap ((x:Int)*(k:Int))=((x*k:Nat):Int):=fun x k hx hk=>by
  rw[←Int.natCast_mul,u1,Nat.mod_eq_of_lt]
  have:x*k≤255*16777216:=Nat.mul_le_mul (by omega) hk
  omega
 have e1: ∀x:Nat,x<256→IntKind.u32.wrap (x:Int)=(x:Int):=fun x hx=>by rw[u1,Nat.mod_eq_of_lt (by omega)]
 rw[e1 _ h0,e1 _ h1,e1 _ h2,e1 _ h3]
 have p0:=e x0 16777216 h0 (by omega)
 have p1:=e x1 65536 h1 (by omega)
 have p2:=e x2 256 h2 (by omega)
 have q0:((2:Int)^24)=((16777216:Nat):Int):=by decide
 have q1:((2:Int)^16)=((65536:Nat):Int):=by decide
 have q2:((2:Int)^8)=((256:Nat):Int):=by decide
 rw[q0,q1,q2,p0,p1,p2,u32_or_nat _ _ (by omega) (by omega),nat_join 24 _ _ (by omega) (by omega),u32_or_nat _ _ (by omega) (by omega),nat_join 16 _ _ (by omega) (by omega),u32_or_nat _ _ (by omega) (by omega),nat_join 8 _ _ (by omega) (by omega)]
theorem arq: ∀(n:Nat) (c:List UInt8),c.length=4*n→icQ (wdN c)=(List.range n).map (w16 c)
 |0,c,h=>by
  have:c=[]:=List.eq_nil_of_length_eq_zero (by omega)
  subst this;rfl
 |n+1,b0::b1::b2::b3::r,h=>by
  rw[List.range_succ_eq_map,List.map_cons,List.map_map]
  have h1:=arq n r (by simp only[List.length_cons]at h;omega)
  show((_:Nat):Int)::icQ (wdN r)=_
  rw[h1,a6b]
  congr 1
 |n+1,[],h=>by simp at h
 |n+1,[_],h=>by simp at h;omega
 |n+1,[_,_],h=>by simp at h;omega
 |n+1,[_,_,_],h=>by simp at h;omega
theorem a0h(c:List UInt8):(wB c 0).take 16=(List.range 16).map (w16 c):=rfl
noncomputable def itN {α:Type} (s:Nat→Nat→Nat→Nat→Nat→Nat→Nat→Nat→Nat→(Nat→Nat→Nat→Nat→Nat→Nat→Nat→Nat→α)→α) (z:(Nat→Nat→Nat→Nat→Nat→Nat→Nat→Nat→α)→α) (m:Nat):(Nat→Nat→Nat→Nat→Nat→Nat→Nat→Nat→α)→α:=
 Nat.rec (motive:=fun _=>(Nat→Nat→Nat→Nat→Nat→Nat→Nat→Nat→α)→α) z (fun m ih q=>ih fun a b c d e f g h=>s m a b c d e f g h q) m
theorem a3s{α:Type}(s:Nat→Nat→Nat→Nat→Nat→Nat→Nat→Nat→Nat→(Nat→Nat→Nat→Nat→Nat→Nat→Nat→Nat→α)→α)(z:(Nat→Nat→Nat→Nat→Nat→Nat→Nat→Nat→α)→α)(q:Nat→Nat→Nat→Nat→Nat→Nat→Nat→Nat→α):itN s z 0 q=z q:=rfl
theorem a3q{α:Type}(s:Nat→Nat→Nat→Nat→Nat→Nat→Nat→Nat→Nat→(Nat→Nat→Nat→Nat→Nat→Nat→Nat→Nat→α)→α)(z:(Nat→Nat→Nat→Nat→Nat→Nat→Nat→Nat→α)→α)(m:Nat)(q:Nat→Nat→Nat→Nat→Nat→Nat→Nat→Nat→α):itN s z (m+1) q=itN s z m fun a b c d e f g h=>s m a b c d e f g h q:=rfl
noncomputable def hNQ {α:Type} (ks ws:List Nat) (m:Nat):(Nat→Nat→Nat→Nat→Nat→Nat→Nat→Nat→α)→α:=
 itN (fun m a b c d e f g h q=>bdn ks a b c d e f g h ((ws.drop (16*m)).take 16) q) (fun q=>q 0x6a09e667 0xbb67ae85 0x3c6ef372 0xa54ff53a 0x510e527f 0x9b05688c 0x1f83d9ab 0x5be0cd19) m
theorem a8x{α:Type}(ks ws:List Nat)(q:Nat→Nat→Nat→Nat→Nat→Nat→Nat→Nat→α):hNQ ks ws 0 q=q 0x6a09e667 0xbb67ae85 0x3c6ef372 0xa54ff53a 0x510e527f 0x9b05688c 0x1f83d9ab 0x5be0cd19:=by
 unfold hNQ
 rw[a3s]
theorem a6t{α:Type}(ks ws:List Nat)(m:Nat)(q:Nat→Nat→Nat→Nat→Nat→Nat→Nat→Nat→α):hNQ ks ws (m+1) q=hNQ ks ws m fun a b c d e f g h=>bdn ks a b c d e f g h ((ws.drop (16*m)).take 16) q:=by
 unfold hNQ
 rw[a3q]
def kNQ:List Nat:=kK.map Int.toNat
theorem bft:icQ kNQ=kK:=by decide
theorem bbx:kNQ.length=64:=by decide
theorem auz(b:List UInt8): ∀m,64*m≤(oo b).length→∃a c d e f g h i,okW [a,c,d,e,f,g,h,i]∧icQ [a,c,d,e,f,g,h,i]=hs b m∧∀(α:Type) (q:Nat→Nat→Nat→Nat→Nat→Nat→Nat→Nat→α),hNQ kNQ (wdN (oo b)) m q=q a c d e f g h i
 |0,_=>⟨0x6a09e667,0xbb67ae85,0x3c6ef372,0xa54ff53a,0x510e527f,0x9b05688c,0x1f83d9ab,0x5be0cd19,by unfold okW;decide,by rw[asp];rfl,fun _ _=>a8x _ _ _⟩
 |m+1,hm=>by
  obtain⟨a,c,d,e,f,g,h,i,w,s1,s2⟩:=auz b m (by omega)
  have hc:(((oo b).take (64*m+64)).drop (64*m)).length=4*16:=by rw[List.length_drop,List.length_take];omega
  have hl:icQ (((wdN (oo b)).drop (16*m)).take 16)=(wB (((oo b).take (64*m+64)).drop (64*m)) 0).take 16:=by
   rw[a0h,←arq 16 _ hc]
   have h1:((oo b).take (64*m+64)).drop (64*m)=((oo b).drop (4*(16*m))).take (4*16):=by
    rw[List.drop_take];congr 1<;>first|omega|(congr 1;omega)
   rw[h1,al5,alk]
  obtain⟨a',c',d',e',f',g',h',i',w',t1Q,t2Q⟩:=a3f (ks:=kNQ) (l:=((wdN (oo b)).drop (16*m)).take 16) bbx hl (fun x hx=>a4m _ x (List.mem_of_mem_drop (List.mem_of_mem_take hx))) w
  refine⟨a',c',d',e',f',g',h',i',w',?_,fun α q=> ?_⟩
  ·rw[t1Q,s1,bft,aut]
  ·rw[←t2Q α q]
   rw[a6t,s2]
theorem aby{n:Nat}(k:Nat)(j:Nat)(hk:2^j=k):(bAt (n:Int) j).toNat=n/k % 256:=by
 have hp:((2:Int)^j)=((k:Nat):Int):=by rw[←hk];simp
 have:((n:Int)/2^j % 256).toNat=n/k % 256:=by
  rw[hp]
  have:((n:Int)/(k:Int) % 256)=((n/k % 256:Nat):Int):=by omega
  rw[this];rfl
 unfold bAt
 rw[this]
 simp only[UInt8.toNat_ofNat']
 omega
theorem awo: ∀l:List Nat,okW l→wdN ((icQ l).flatMap ae6)=l
 |[],_=>rfl
 |n::r,h=>by
  have hn:=h n (by simp)
  have ih:=awo r fun x hx=>h x (by simp[hx])
  have e:(icQ (n::r)).flatMap ae6=bAt n 24::bAt n 16::bAt n 8::bAt n 0::(icQ r).flatMap ae6:=rfl
  rw[e,wdN,ih,aby 16777216 24 rfl,aby 65536 16 rfl,aby 256 8 rfl,aby 1 0 rfl]
  congr 1
  omega
def kyL(l:List UInt8):Nat:=Nat.add (Nat.mul ((wdN l).getD 0 0) 4294967296) ((wdN l).getD 1 0)
noncomputable def kyN (ws:List Nat) (n:Nat):Nat:=hNQ kNQ ws n fun a b _ _ _ _ _ _=>Nat.add (Nat.mul a 4294967296) b
theorem bce(b:List UInt8)(n:Nat)(hn:(oo b).length=64*n):kyN (wdN (oo b)) n=kyL (sha b):=by
 obtain⟨a,c,d,e,f,g,h,i,w,s1,s2⟩:=auz b n (by omega)
 have hd:(oo b).length/64=n:=by omega
 unfold kyN kyL sha
 rw[hd,←s1,awo _ w,s2]
 rfl
noncomputable def kyS (s:Stm):Nat:=kyN (wdN (oo (stB s))) 3
theorem zz{s:Stm}(h:(stB s).length=120∨(stB s).length=128):kyS s=kyL (dig s):=by
 have hl:(oo (stB s)).length=(stB s).length+1+wn (stB s).length+8:=by simp only[oo,List.length_append,ur,aq]
 have hp:wn (stB s).length=(119 - (stB s).length % 64) % 64:=rfl
 exact bce (stB s) 3 (by rcases h with h|h<;>rw[h]at hp hl<;>rw[hl,hp])
noncomputable def ndQ (f:Nat→Nat) (n:Nat):List Nat→Bool:=Nat.rec (motive:=fun _=>List Nat→Bool) (fun _=>true) (fun n ih acc=>sqQ (f n) fun x=>(!(acc.any (Nat.beq x)))&&ih (x::acc)) n
theorem az(f:Nat→Nat): ∀(n:Nat) (acc:List Nat),ndQ f n acc=true→(∀i,i<n→f i∉acc)∧∀i j,i<n→j<n→f i=f j→i=j
 |0,_,_=>⟨fun i hi=>by omega,fun i j hi=>by omega⟩
 |n+1,acc,h=>by
  have h1:sqQ (f n) (fun x=>(!(acc.any (Nat.beq x)))&&ndQ f n (x::acc))=true:=h
  rw[aot,Bool.and_eq_true]at h1
  obtain⟨h2,h3⟩:=h1
  obtain⟨i1,i2⟩:=az f n _ h3
  have hn:f n∉acc:=fun hm=>by
   have:acc.any (Nat.beq (f n))=true:=List.any_eq_true.2 ⟨f n,hm,Nat.beq_refl _⟩
   rw[this]at h2
   cases h2
  refine⟨fun i hi hm=> ?_,fun i j hi hj he=> ?_⟩
  ·by_cases hin:i=n
   ·rw[hin]at hm;exact hn hm
   ·exact i1 i (by omega) (List.mem_cons_of_mem _ hm)
  ·by_cases hin:i=n<;>by_cases hjn:j=n
   ·omega
   ·exact absurd (by rw[←he,hin];exact List.mem_cons_self) (i1 j (by omega))
   ·exact absurd (by rw[he,hjn];exact List.mem_cons_self) (i1 i (by omega))
   ·exact i2 i j (by omega) (by omega) he
def frJ(a:Int)(i:Nat):Stm:=gn a 30 (i:Int) m6
def apI(a:Int)(i:Nat):Stm:=gn a 20 0 (apD ⟨0,3,(i:Int),0⟩)
def vtI(k rd:Int)(i:Nat):Stm:=vt k (10+rd) ⟨0,3,((i/2:Nat):Int),rd⟩ ⟨[((i % 2:Nat):Int)],[]⟩
theorem acs(au nu ti:Int)(d:Drf)(hn:0<nu)(hp:d.pins=[]):(stB (gn au nu ti d)).length=120+8*d.li.length:=by
 have e:gn au nu ti d=nw ⟨au,nu,if 0<nu then List.replicate 32 0 else [],ti,d.kd,d.a,d.b,d.c,d.li,d.pins,[],0,[]⟩:=rfl
 rw[e,if_pos hn,hp]
 simp only[nw,stB,qj,ww,hdB,List.length_append,db,aq,er,l5,List.length_cons,List.length_nil,List.flatMap_nil,List.length_replicate]
 omega
theorem axt{c:Cs}{x:Ct}(h1:dl c=true)(h2:fq c x=true):(dz c x).1=⟨10,c.ep,c.kd+16*c.ro,c.su,x.li,x.pi⟩:=by
 unfold dz
 rw[if_neg (by rw[h1];simp),if_neg (by rw[h2];simp)]
theorem aw6{su rd:Int}(h:0≤su∧su<64)(hr:rd=0∨rd=1):dl ⟨0,3,su,rd⟩=true:=
 kj ⟨by show(0:Int)≤0;omega,by show(0:Int)<40;omega,h.1,h.2,by show(0:Int)≤rd;omega,by show rd≤1;omega,.inr (.inr rfl)⟩
theorem ax8{k rd:Int}{i:Nat}(hr:rd=0∨rd=1)(hi:i<16):(stB (vtI k rd i)).length=128:=by
 have hc:=aw6 (su:=((i/2:Nat):Int)) (rd:=rd) (by omega) hr
 unfold vtI vt
 rw[axt hc (awb hc (by show(3:Int)≠1;omega) (by omega)),acs _ _ _ _ (by omega) rfl]
 rfl
theorem ayf(a:Int)(i:Nat):(stB (frJ a i)).length=120:=acs _ _ _ _ (by omega) rfl
theorem atc(a:Int)(i:Nat):(stB (apI a i)).length=120:=acs _ _ _ _ (by omega) rfl
theorem bfv:ndQ (fun i=>kyS (frJ 0 i)) 2 []=true:=by decide+kernel
theorem be0:ndQ (fun i=>kyS (frJ 1 i)) 2 []=true:=by decide+kernel
theorem bev:ndQ (fun i=>kyS (frJ 2 i)) 2 []=true:=by decide+kernel
theorem be1:ndQ (fun i=>kyS (frJ 3 i)) 2 []=true:=by decide+kernel
theorem bef:ndQ (fun i=>kyS (frJ 4 i)) 2 []=true:=by decide+kernel
theorem bet:ndQ (fun i=>kyS (frJ 5 i)) 2 []=true:=by decide+kernel
theorem bf2:ndQ (fun i=>kyS (frJ 6 i)) 2 []=true:=by decide+kernel
theorem bee:ndQ (fun i=>kyS (frJ 7 i)) 2 []=true:=by decide+kernel
theorem bd1:ndQ (fun i=>kyS (apI 0 i)) 8 []=true:=by decide+kernel
theorem bfy:ndQ (fun i=>kyS (apI 1 i)) 8 []=true:=by decide+kernel
theorem bd9:ndQ (fun i=>kyS (apI 2 i)) 8 []=true:=by decide+kernel
theorem bd7:ndQ (fun i=>kyS (apI 3 i)) 8 []=true:=by decide+kernel
theorem bdy:ndQ (fun i=>kyS (apI 4 i)) 8 []=true:=by decide+kernel
theorem be6:ndQ (fun i=>kyS (apI 5 i)) 8 []=true:=by decide+kernel
theorem bfd:ndQ (fun i=>kyS (apI 6 i)) 8 []=true:=by decide+kernel
theorem bfs:ndQ (fun i=>kyS (apI 7 i)) 8 []=true:=by decide+kernel
theorem ba3:ndQ (fun i=>kyS (vtI 0 0 i)) 16 []=true:=by decide+kernel
theorem bcf:ndQ (fun i=>kyS (vtI 0 1 i)) 16 []=true:=by decide+kernel
theorem bcv:ndQ (fun i=>kyS (vtI 1 0 i)) 16 []=true:=by decide+kernel
theorem bak:ndQ (fun i=>kyS (vtI 1 1 i)) 16 []=true:=by decide+kernel
theorem bbj:ndQ (fun i=>kyS (vtI 2 0 i)) 16 []=true:=by decide+kernel
theorem bac:ndQ (fun i=>kyS (vtI 2 1 i)) 16 []=true:=by decide+kernel
theorem bbo:ndQ (fun i=>kyS (vtI 3 0 i)) 16 []=true:=by decide+kernel
theorem ba8:ndQ (fun i=>kyS (vtI 3 1 i)) 16 []=true:=by decide+kernel
theorem bab:ndQ (fun i=>kyS (vtI 4 0 i)) 16 []=true:=by decide+kernel
theorem a95:ndQ (fun i=>kyS (vtI 4 1 i)) 16 []=true:=by decide+kernel
theorem bbv:ndQ (fun i=>kyS (vtI 5 0 i)) 16 []=true:=by decide+kernel
theorem bco:ndQ (fun i=>kyS (vtI 5 1 i)) 16 []=true:=by decide+kernel
theorem ban:ndQ (fun i=>kyS (vtI 6 0 i)) 16 []=true:=by decide+kernel
theorem bch:ndQ (fun i=>kyS (vtI 6 1 i)) 16 []=true:=by decide+kernel
theorem a57{a:Int}(ha:0≤a∧a<8){i j:Nat}(hi:i<2)(hj:j<2)(hd:dig (frJ a i)=dig (frJ a j)):i=j:=by
 have hk:kyS (frJ a i)=kyS (frJ a j):=by rw[zz (.inl (ayf a i)),zz (.inl (ayf a j)),hd]
 have h1:a=0∨a=1∨a=2∨a=3∨a=4∨a=5∨a=6∨a=7:=by omega
 rcases h1 with rfl|rfl|rfl|rfl|rfl|rfl|rfl|rfl
 ·exact(az _ _ _ bfv).2 i j hi hj hk
 ·exact(az _ _ _ be0).2 i j hi hj hk
 ·exact(az _ _ _ bev).2 i j hi hj hk
 ·exact(az _ _ _ be1).2 i j hi hj hk
 ·exact(az _ _ _ bef).2 i j hi hj hk
 ·exact(az _ _ _ bet).2 i j hi hj hk
 ·exact(az _ _ _ bf2).2 i j hi hj hk
 ·exact(az _ _ _ bee).2 i j hi hj hk
theorem a5y{a:Int}(ha:0≤a∧a<8){i j:Nat}(hi:i<8)(hj:j<8)(hd:dig (apI a i)=dig (apI a j)):i=j:=by
 have hk:kyS (apI a i)=kyS (apI a j):=by rw[zz (.inl (atc a i)),zz (.inl (atc a j)),hd]
 have h1:a=0∨a=1∨a=2∨a=3∨a=4∨a=5∨a=6∨a=7:=by omega
 rcases h1 with rfl|rfl|rfl|rfl|rfl|rfl|rfl|rfl
 ·exact(az _ _ _ bd1).2 i j hi hj hk
 ·exact(az _ _ _ bfy).2 i j hi hj hk
 ·exact(az _ _ _ bd9).2 i j hi hj hk
 ·exact(az _ _ _ bd7).2 i j hi hj hk
 ·exact(az _ _ _ bdy).2 i j hi hj hk
 ·exact(az _ _ _ be6).2 i j hi hj hk
 ·exact(az _ _ _ bfd).2 i j hi hj hk
 ·exact(az _ _ _ bfs).2 i j hi hj hk
theorem a9h{a rd:Int}(ha:0≤a∧a<7)(hr:rd=0∨rd=1){i j:Nat}(hi:i<16)(hj:j<16)(hd:dig (vtI a rd i)=dig (vtI a rd j)):i=j:=by
 have hk:kyS (vtI a rd i)=kyS (vtI a rd j):=by rw[zz (.inr (ax8 hr hi)),zz (.inr (ax8 hr hj)),hd]
 have h1:a=0∨a=1∨a=2∨a=3∨a=4∨a=5∨a=6:=by omega
 rcases h1 with rfl|rfl|rfl|rfl|rfl|rfl|rfl<;>rcases hr with rfl|rfl
 ·exact(az _ _ _ ba3).2 i j hi hj hk
 ·exact(az _ _ _ bcf).2 i j hi hj hk
 ·exact(az _ _ _ bcv).2 i j hi hj hk
 ·exact(az _ _ _ bak).2 i j hi hj hk
 ·exact(az _ _ _ bbj).2 i j hi hj hk
 ·exact(az _ _ _ bac).2 i j hi hj hk
 ·exact(az _ _ _ bbo).2 i j hi hj hk
 ·exact(az _ _ _ ba8).2 i j hi hj hk
 ·exact(az _ _ _ bab).2 i j hi hj hk
 ·exact(az _ _ _ a95).2 i j hi hj hk
 ·exact(az _ _ _ bbv).2 i j hi hj hk
 ·exact(az _ _ _ bco).2 i j hi hj hk
 ·exact(az _ _ _ ban).2 i j hi hj hk
 ·exact(az _ _ _ bch).2 i j hi hj hk
def CT(y:Stm):Prop:=(∃(a:Int) (i:Nat),(0≤a∧a<8)∧i<2∧y=frJ a i)∨(∃(a rd:Int) (i:Nat),(0≤a∧a<7)∧(rd=0∨rd=1)∧i<16∧y=vtI a rd i)∨(∃(a:Int) (i:Nat),(0≤a∧a<8)∧i<8∧y=apI a i)
theorem ais(au nu ti:Int)(d:Drf):(gn au nu ti d).sd=dig (gn au nu ti d):=rfl
theorem aga(a:Int)(i:Nat):(frJ a i).au=a∧(frJ a i).nu=30∧(frJ a i).sd=dig (frJ a i):=⟨rfl,rfl,ais _ _ _ _⟩
theorem ahm(a:Int)(i:Nat):(apI a i).au=a∧(apI a i).nu=20∧(apI a i).sd=dig (apI a i):=⟨rfl,rfl,ais _ _ _ _⟩
theorem v7(a rd:Int)(i:Nat):(vtI a rd i).au=a∧(vtI a rd i).nu=10+rd∧(vtI a rd i).sd=dig (vtI a rd i):=⟨rfl,rfl,ais _ _ _ _⟩
theorem beo{y z:Stm}(hy:CT y)(hz:CT z)(hau:y.au=z.au)(hnu:y.nu=z.nu)(hsd:y.sd=z.sd):y=z:=by
 rcases hy with ⟨a,i,ha,hi,rfl⟩|⟨a,rd,i,ha,hr,hi,rfl⟩|⟨a,i,ha,hi,rfl⟩
 ·rcases hz with ⟨b,j,hb,hj,rfl⟩|⟨b,rd,j,hb,hr,hj,rfl⟩|⟨b,j,hb,hj,rfl⟩
  ·rw[(aga a i).1,(aga b j).1]at hau
   subst hau
   rw[(aga a i).2.2,(aga a j).2.2]at hsd
   rw[a57 ha hi hj hsd]
  ·rw[(aga a i).2.1,(v7 b rd j).2.1]at hnu
   omega
  ·rw[(aga a i).2.1,(ahm b j).2.1]at hnu
   omega
 ·rcases hz with ⟨b,j,hb,hj,rfl⟩|⟨b,re,j,hb,hs,hj,rfl⟩|⟨b,j,hb,hj,rfl⟩
  ·rw[(v7 a rd i).2.1,(aga b j).2.1]at hnu
   omega
  ·rw[(v7 a rd i).1,(v7 b re j).1]at hau
   subst hau
   rw[(v7 a rd i).2.1,(v7 a re j).2.1]at hnu
   have hre:rd=re:=by omega
   subst hre
   rw[(v7 a rd i).2.2,(v7 a rd j).2.2]at hsd
   rw[a9h ha hr hi hj hsd]
  ·rw[(v7 a rd i).2.1,(ahm b j).2.1]at hnu
   omega
 ·rcases hz with ⟨b,j,hb,hj,rfl⟩|⟨b,re,j,hb,hs,hj,rfl⟩|⟨b,j,hb,hj,rfl⟩
  ·rw[(ahm a i).2.1,(aga b j).2.1]at hnu
   omega
  ·rw[(ahm a i).2.1,(v7 b re j).2.1]at hnu
   omega
  ·rw[(ahm a i).1,(ahm b j).1]at hau
   subst hau
   rw[(ahm a i).2.2,(ahm a j).2.2]at hsd
   rw[a5y ha hi hj hsd]
theorem bep{L:List Stm}(h: ∀y∈L,CT y):CF L:=fun y hy z hz _ _ hau hnu hd=>beo (h y hy) (h z hz) hau hnu hd
theorem bb5(a:Int)(i:Nat)(c:Cs):okV c (frJ a i)=false:=at8 (by show(11:Int)≠10;omega)
theorem bcj(a:Int)(i:Nat)(c:Cs):okV c (apI a i)=false:=at8 (by show(15:Int)≠10;omega)
theorem beu{a rd:Int}{i:Nat}{c:Cs}(ha:0≤a∧a<7)(hr:rd=0∨rd=1)(hi:i<16)(h:okV c (vtI a rd i)=true):c=⟨0,3,((i/2:Nat):Int),rd⟩:=by
 have hc:=aw6 (su:=((i/2:Nat):Int)) (rd:=rd) (by omega) hr
 have hv:=ay8 (k:=a) (nu:=10+rd) (by omega) (by omega) (awb (n:=((i % 2:Nat):Int)) hc (by show(3:Int)≠1;omega) (by omega))
 unfold okV at h
 have e:vtI a rd i=vt a (10+rd) ⟨0,3,((i/2:Nat):Int),rd⟩ ⟨[((i % 2:Nat):Int)],[]⟩:=rfl
 rw[e,hv,Bool.true_and]at h
 exact(of_decide_eq_true h).symm
theorem bah{y:Stm}{c:Cs}(hy:CT y)(h:okV c y=true):y.nu=10+c.ro:=by
 rcases hy with ⟨a,i,ha,hi,rfl⟩|⟨a,rd,i,ha,hr,hi,rfl⟩|⟨a,i,ha,hi,rfl⟩
 ·rw[bb5]at h;cases h
 ·rw[(v7 a rd i).2.1,beu ha hr hi h]
 ·rw[bcj]at h;cases h
theorem bcc{L:List Stm}(h: ∀y∈L,CT y):UNI L:=fun c y hy z hz h1 h2 _=>by rw[bah (h y hy) h1,bah (h z hz) h2]
theorem bbi{y:Stm}(hy:CT y):plS y∧gx y:=by
 rcases hy with ⟨a,i,ha,hi,rfl⟩|⟨a,rd,i,ha,hr,hi,rfl⟩|⟨a,i,ha,hi,rfl⟩
 ·exact⟨ajq (by show(11:Int)≠10;omega),(avk _ _ _).big⟩
 ·have:=bey (c:=⟨0,3,((i/2:Nat):Int),rd⟩) (nu:=10+rd) (x:=⟨[((i % 2:Nat):Int)],[]⟩) (s:=[a]) (by show(3:Int)≠1;omega) rfl (vtI a rd i) (aaf.2 ⟨a,by simp,rfl⟩)
  exact⟨this.1,(this.2 ⟨by simp,by simp⟩).big⟩
 ·exact⟨ajq (by show(15:Int)≠10;omega),(a0e _ _ _ _ (a4l _)).big⟩
theorem aom{r:Rl}{t:Tm}{c:Cs}{k:Int}(h:k∈(cu r t c).1):k∈t.ros:=by
 unfold cu at h
 split at h
 ·simp at h
 rw[ya]at h
 split at h
 ·simp at h
 split at h
 ·simp at h
 split at h
 ·simp at h
 split at h
 ·exact(lw.1 (uk h)).2.1
 split at h
 ·simp at h
 ·exact(lw.1 (uk h)).2.1
theorem bgm{n:Int}(h:n=0∨n=1)(su:Nat):((2*su+n.toNat)/2=su)∧(((2*su+n.toNat) % 2:Nat):Int)=n:=by
 rcases h with rfl|rfl
 ·exact⟨by show(2*su+0)/2=su;omega,by show(((2*su+0) % 2:Nat):Int)=0;omega⟩
 ·exact⟨by show(2*su+1)/2=su;omega,by show(((2*su+1) % 2:Nat):Int)=1;omega⟩
theorem bdz{k su rd n:Int}(hk:0≤k∧k<7)(hs:0≤su∧su<8)(hr:rd=0∨rd=1)(hn:n=0∨n=1):CT (vt k (10+rd) ⟨0,3,su,rd⟩ ⟨[n],[]⟩):=by
 obtain⟨m1,m2⟩:=bgm hn su.toNat
 refine .inr (.inl ⟨k,rd,2*su.toNat+n.toNat,hk,hr,by omega,?_⟩)
 have e:vtI k rd (2*su.toNat+n.toNat)=vt k (10+rd) ⟨0,3,(((2*su.toNat+n.toNat)/2:Nat):Int),rd⟩ ⟨[(((2*su.toNat+n.toNat) % 2:Nat):Int)],[]⟩:=rfl
 rw[e,m1,m2,Int.toNat_of_nonneg hs.1]
theorem au7{a b:List Stm}(ha: ∀y∈a,CT y)(hb: ∀y∈b,CT y): ∀y∈a++b,CT y:=fun y hy=>(List.mem_append.1 hy).elim (ha y) (hb y)
theorem asm{l:List Int}{su rd n:Int}{seats:List Int}{p:Nat}{o:List Stm}(hse: ∀k∈seats,0≤k∧k<7)(hs:0≤su∧su<8)(hr:rd=0∨rd=1)(hn:n=0∨n=1)(ho: ∀y∈o,CT y):
  ∀i,i≤seats.length→∀y∈(akw l ⟨0,3,su,rd⟩ ⟨[n],[]⟩ seats (10+rd) p o i).2,CT y
 |0,_=>ho
 |i+1,hi=>by
  have ih:=asm (l:=l) (p:=p) hse hs hr hn ho i (by omega)
  refine au7 ih ?_
  split
  ·intro y hy;simp at hy
  ·intro y hy
   rw[List.mem_singleton]at hy
   rw[hy]
   exact bdz (hse _ (aw (by omega))) hs hr hn
theorem a7z{l:List Int}{r:Rl}{t:Tm}{su rd:Int}{st:Nat×List Stm}(ht: ∀k∈t.ros,0≤k∧k<7)(hs:0≤su∧su<8)(hr:rd=0∨rd=1)(ho: ∀y∈st.2,CT y):
  ∀y∈(a2g l r t ⟨0,3,su,0⟩ rd st).2,CT y:=by
 unfold a2g
 split
 ·exact ho
 ·have hm:(kr l st.1 ⟨0,3,su,rd⟩).1=⟨[ai l st.1 2],[]⟩:=by
   unfold kr
   rw[if_pos (by show(3:Int)≠1;omega)]
  have b:=bi (l:=l) (p:=st.1) (n:=2) (by omega)
  have e:({(⟨0,3,su,0⟩:Cs)with ro:=rd}:Cs)=⟨0,3,su,rd⟩:=rfl
  rw[e,hm]
  exact asm (fun k hk=>ht k (aom hk)) hs hr (by omega) ho _ (Nat.le_refl _)
theorem bcm{a:Int}(ha:0≤a∧a<8){ti:Int}(i:Nat)(hi:i<2)(h:(i:Int)=ti):CT (gn a 30 ti m6):= .inl ⟨a,i,ha,hi,by rw[←h];rfl⟩
theorem bay{l:List Int}{st:Nat×List Stm}: ∀y∈ctB l st,CT y:=by
 have b:=bi (l:=l) (p:=st.1) (n:=8) (by omega)
 unfold ctB
 split
 ·intro y hy
  simp only[List.mem_cons,List.not_mem_nil,or_false]at hy
  rcases hy with rfl|rfl
  ·exact bcm (by show 0≤ai l st.1 8∧ai l st.1 8<8;omega) 0 (by omega) rfl
  ·exact bcm (by show 0≤ai l st.1 8∧ai l st.1 8<8;omega) 1 (by omega) rfl
 ·intro y hy;simp at hy
theorem a38{l:List Int}{r:Rl}{t:Tm}{st:Nat×List Stm}(ht: ∀k∈t.ros,0≤k∧k<7)(ho: ∀y∈st.2,CT y): ∀i,i≤2→∀y∈(ctA l r t st i).2,CT y
 |0,_=>au7 ho bay
 |i+1,hi=>by
  have ih:=a38 (l:=l) (r:=r) ht ho i (by omega)
  have b:=bi (l:=l) (p:=st.1) (n:=8) (by omega)
  exact a7z (su:=ai l st.1 8) (rd:=(i:Int)) ht (by omega) (by omega) ih
theorem bes{a su:Int}(ha:0≤a∧a<8)(hs:0≤su∧su<8):CT (gn a 20 0 (apD ⟨0,3,su,0⟩)):=by
 refine .inr (.inr ⟨a,su.toNat,ha,by omega,?_⟩)
 have e:apI a su.toNat=gn a 20 0 (apD ⟨0,3,((su.toNat:Nat):Int),0⟩):=rfl
 rw[e,Int.toNat_of_nonneg hs.1]
theorem bad{l:List Int}{r:Rl}{t:Tm}{st:Nat×List Stm}(ht: ∀k∈t.ros,0≤k∧k<7)(ho: ∀y∈st.2,CT y): ∀y∈(ctI l r t st).2,CT y:=by
 have h2:=a38 (l:=l) (r:=r) ht ho 2 (Nat.le_refl _)
 have b:=bi (l:=l) (p:=st.1) (n:=8) (by omega)
 have b2:=bi (l:=l) (p:=dgo l (ctA l r t st 2).1 1) (n:=8) (by omega)
 unfold ctI
 split
 ·refine au7 h2 fun y hy=> ?_
  rw[List.mem_singleton]at hy
  rw[hy]
  exact bes (by omega) (by omega)
 ·exact h2
theorem bfn{l:List Int}{p:Nat}: ∀k∈(ctT l p).ros,0≤k∧k<7:=fun k hk=>by
 have:=List.mem_of_mem_take hk
 simp only[List.mem_cons,List.not_mem_nil,or_false]at this
 omega
theorem a4q{l:List Int}{p:Nat}: ∀i,∀y∈(ctS l p i).2,CT y
 |0=>fun y hy=>absurd hy (by show y∉[];simp)
 |i+1=>bad bfn (a4q i)
theorem bby{l:List Int}{p:Nat}: ∀y∈(ctF l p).2,CT y:=a4q _
theorem a8q{l:List Int}{p:Nat}:(ctF l p).2.length≤262:=by
 have h1:=aju (l:=l) (p:=p) (ctN l p)
 have h2:=a36 (l:=l) (p:=p)
 show(ctS l p (ctN l p)).2.length≤262
 omega
end Go.Proofs.Am
