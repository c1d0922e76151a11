/- MOne. -/
import Derived.Test.YtlaoaleoeknhoaaGreatDoorHOne
set_option linter.unusedSimpArgs false
set_option linter.unusedVariables false
set_option maxHeartbeats 1000000
set_option maxRecDepth 100000
namespace Go.Proofs.Am
open Go Go.RowKit Tryz
open Go.Proofs
variable {i m n:Nat}{l seats:LI}{L:LS}{r:Rl}{c:Cs}{t u:Tm}{v:LB}{x:Ct}{α:Type}
theorem ber{l:LS}:(aj8 seats (br l c)).length<=l.length:=by have e:=acj l c;have a:=(ak8 seats (λy d=>(r5 (l:=l) (c:=c) y d).1) _ (b0f _)).1;have f:(aj8 seats (br l c)).length<=(cnR seats (br l c)).length:=(by unfold aj8;rw[b0x];exact b05 _ _);have b:cnI seats (br l c) (br l c).length=cnR seats (br l c):=rfl;rw[b]at a;omega
def zS:LP:=[.int .i64 0,.int .i64 0,.str [],.int .i64 0,.int .i64 0,.int .i64 0,.int .i64 0,.int .i64 0,.vs [],.vs [],.str [],.int .i64 0,.str []]
theorem brp:zS=[PV.int .i64 0,PV.int .i64 0,PV.str [],PV.int .i64 0,PV.int .i64 0,PV.int .i64 0,PV.int .i64 0,PV.int .i64 0,.nils,.nils,PV.str [],PV.int .i64 0,PV.str []].map aap:=(rfl)
theorem ajb{l:LS}:qg (aan (aj8 seats (br l c))):=by unfold aan;split;{rename_i h;have f:el (aj8 seats (br l c)) 0∈aj8 seats (br l c):=cr Aa;obtain⟨n,b,e,i⟩:=avl.1 f;have a:n.ks≠[]:=(aav seats (br l c)).r4 n b;obtain⟨k,r,a⟩:=b3n a;obtain⟨_,y,d,g,_⟩:=ao6 b (k:=k) D3;rw[<-e,<-g];exact lm (r5 y d).1};.exact⟨by simp[noC,big],by simp[noC,big]⟩
structure RV1(c:Cs)(x:Ct)(S:LI)(P:LS):Prop where
 ok: ∀s∈P,okV c s=true/\s.au∈S/\(eh s).1.x=x
 up:P.Pairwise λa b=>a.au<b.au
theorem RV1.nil{S:LI}:RV1 c x S []:=⟨Ad,List.Pairwise.nil⟩
theorem RV1.skip{P:LS}(h:RV1 c x (seats.take i) P):RV1 c x (seats.take (i+1)) P:=by refine⟨λs hs=> ?_,h.up⟩;obtain⟨a,b,d⟩:=h.ok s hs;exact⟨a,List.take_subset_take_left _ (Nat.le_succ i) b,d⟩
structure MiS where
 r:Nat
 S:LS
 T:LI
structure MiI(l:LI)(c:Cs)(seats:LI)(i:Nat)(s:MiS):Prop where
 r:s.r<=l.length
 len:s.S.length<=2*i
 ok: ∀t∈s.S,okS t/\t.au∈seats.take i
 two: ∀t∈s.S,∀u∈s.S,t.au=u.au->(eh t).1.x=(eh u).1.x\/t.au∈s.T
 half:2*s.T.length<=seats.length
def sc(l:LI)(k:Int):Bool:=(el l (k.toNat/32)).toNat.testBit (k.toNat % 32)
def pr(l:LI):Prop:=l.length=2/\0<=el l 0/\el l 0<4294967296/\0<=el l 1/\el l 1<4294967296/\¬(el l 0=0/\el l 1=0)
instance (l:LI):Decidable (pr l):=by unfold pr;infer_instance
def aez(l:LI):LI×Int:=if pr l then(bj (sc l) 64,0)else([],43)
theorem pt(h:pr l):aez l=(bj (sc l) 64,0):=if_pos h
theorem jn(h: ¬pr l):aez l=([],43):=if_neg h
theorem bfv(h0:n≠0)(h:n<4294967296): ∃i,i<32/\n.testBit i=true:=by
 obtain⟨i,b⟩:=Nat.exists_testBit_of_ne_zero h0;refine⟨i,?_,b⟩;rcases b5u i 32 with a|a
 .exact a
 .have h2:n<2^i:=b24 h (by
   have:(4294967296:Nat)=2^32:=Al
   rw[this];exact Nat.pow_le_pow_right Aa a)
  rw[Nat.testBit_lt_two_pow h2]at b
  cases b
theorem bco{j:Nat}(c:j<2)(hi:i<32)(h:(el l j).toNat.testBit i=true):((32*j+i:Nat):Int)∈bj (sc l) 64:=by refine w9.2 ⟨Aa,?_⟩;unfold sc;rw[b19];have a:(32*j+i)/32=j:=Aa;have b:(32*j+i) % 32=i:=Aa;rw[a,b];exact h
theorem blm(h:pr l):lk (bj (sc l) 64)=true:=by obtain⟨_,b,d,k,f,c⟩:=h;have a: ∀j,j<2->el l j≠0->0<=el l j->el l j<4294967296->bj (sc l) 64≠[]:=λj m h0 q p e=>(by obtain⟨i,g,o⟩:=bfv (n:=(el l j).toNat) Aa Aa;have:=bco m g o;rw[e]at this;cases this);refine wz ?_;by_cases h0:el l 0=0;{exact a 1 Aa (λh=>c ⟨h0,h⟩) k f};.exact a 0 Aa h0 b d
theorem bcm(h:(aez l).2=0):pr l/\aez l=(bj (sc l) 64,0)/\lk (aez l).1=true:=by by_cases a:pr l;{rw[pt a];exact⟨a,rfl,blm a⟩};.rw[jn a]at h;cases h
def smallN(l:LI):Prop:=l.length=2/\1<=el l 0/\el l 0<=127/\0<=el l 1/\el l 1<=1
theorem smallN.ok(h:smallN l):pr l:=⟨h.1,A9,A9,A9,A9,A9⟩
def qm(v:LB)(ep:Int)(l:LI):LB:=sha ((v++be8 ep)++lsB l)
theorem a14(v:LB)(a:Int)(l:LI):(qm v a l).length=32:=xw _
def nw(ep:Int):Cs:=⟨ep,1,0,0⟩
theorem auy{a:Int}(h0:0<=a)(b:a<40):gg (nw a)=true:=qx ⟨h0,b,by simp[nw],by simp[nw],by simp[nw],by simp[nw],.inl ⟨rfl,rfl,rfl⟩⟩
structure OkT(t:Tm):Prop where
 lo:0<=t.ep
 hi:t.ep<40
 ros:lk t.ros=true
 bea:t.bea.length=32
theorem OkT.len(h:OkT t):t.ros.length<=64:=(ky h.ros).2.2.2
theorem ao0{d:Cs}{j:Int}{prev:LI}(f:c9 r=0)(a:ff l prev≠[])(hd:gg d=true):ckS d (s5 r v l c j prev)=0:=by have h:=(azg f).2.2;have b:=abb (r:=r) (v:=v) (l:=l) (c:=c) (j:=j) (prev:=prev);have i:0<(ff l prev).length:=b2q.2 a;rw[wb,if_neg (by simp[hd]),if_pos];refine mn.2 ⟨λe=> ?_,λk g=> ?_,af4,Aa⟩;{rw[e]at b;simp only[b0r]at b;omega};.exact jz.2 (by have:=(vy.1 (aug g)).1;omega)
theorem a7s(b:c9 r=0)(d:OkT t)(a:gg c=true)(e:c.ep=t.ep)(h0:c.ro=0):ku r t c=(s5 r t.bea t.ros c 0 [],0):=by unfold ku;rw[if_neg D4,agq,if_neg Bf,if_neg (by simp[d.ros]),if_neg Dw,if_pos h0]
theorem axi(d:c9 r=0)(g:OkT t)(e:gg c=true)(i:c.ep=t.ep):((ku r t c).2=0\/(ku r t c).2=44)/\(ku r t c).1.Nodup/\(∀k∈(ku r t c).1,k∈t.ros)/\((ku r t c).2=0->ckS c (ku r t c).1=0):=by have b: ∀j a,(s5 r t.bea t.ros c j a).Nodup/\∀k∈s5 r t.bea t.ros c j a,k∈t.ros:=λj a=>⟨af4,λk f=>(vy.1 (aug f)).2.1⟩;unfold ku;rw[if_neg (by simp[i]),agq,if_neg Bi,if_neg (by simp[g.ros]),if_neg D4];split;{exact⟨.inl rfl,(b _ _).1,(b _ _).2,λ_=>ao0 d (ac0 g.ros) e⟩};.split;{exact⟨.inr rfl,List.Pairwise.nil,λk f=>absurd f Ad,λh=>D1⟩};.rename_i h;exact⟨.inl rfl,(b _ _).1,(b _ _).2,λ_=>ao0 d h e⟩
def stS(r:Rl)(t:Tm):LI:=s5 r t.bea t.ros (nw t.ep) 0 []
def stA(r:Rl)(L:LS)(t:Tm):List Ct:=aj8 (stS r t) (br L (nw t.ep))
theorem a8w(b:c9 r=0)(a:OkT t):ku r t (nw t.ep)=(stS r t,0):=a7s b a (auy a.lo a.hi) rfl rfl
theorem bom(b:c9 r=0)(a:OkT t):ckS (nw t.ep) (stS r t)=0:=ao0 b (ac0 a.ros) (auy a.lo a.hi)
def xi(L:LS)(c:Cs)(seats:LI):List Ct:=if ckS c seats=0 then aj8 seats (br L c)else []
def bqr(r:Rl)(L:LS)(t:Tm)(c:Cs):Ct×Bool×Int:=
 if(ku r t c).2≠0 then(noC,false,(ku r t c).2)else(aan (xi L c (ku r t c).1),decide ((xi L c (ku r t c).1).length=1),ckS c (ku r t c).1)
theorem bmd(a:c9 r=0)(b:OkT t):bqr r L t (nw t.ep)=(aan (stA r L t),decide ((stA r L t).length=1),0):=by unfold bqr xi;rw[a8w a b];simp only[ne_eq,not_true_eq_false,b25,bom a b,b4i];rfl
def bz(r:Rl)(L:LS)(t:Tm):Tm:={t with dec:=decide ((stA r L t).length=1),nx:=aan (stA r L t)}
theorem uz(h:OkT t):OkT (bz r L t):=⟨h.lo,h.hi,h.ros,h.bea⟩
theorem bpo(r:Rl)(L M:LS)(t:Tm):bz r L (bz r M t)=bz r L t:=rfl
theorem bqu(r:Rl)(L M:LS)(t:Tm):stA r L (bz r M t)=stA r L t:=rfl
theorem bqw(r:Rl)(M:LS)(t:Tm):stS r (bz r M t)=stS r t:=rfl
def kw(t:Tm):Option Tm:=if t.dec=true/\(aez t.nx.li).2=0 then some ⟨t.ep+1,(aez t.nx.li).1,qm t.bea t.ep t.nx.li,false,noC⟩else none
theorem p9(h:kw t=some u):t.dec=true/\(aez t.nx.li).2=0/\u=⟨t.ep+1,(aez t.nx.li).1,qm t.bea t.ep t.nx.li,false,noC⟩:=by unfold kw at h;split at h;{rename_i h1;exact⟨h1.1,h1.2,(b3v h).symm⟩};.cases h
theorem ac8(b:OkT t)(h:kw t=some u)(c:t.ep<39):OkT u:=by obtain⟨_,a,rfl⟩:=p9 h;exact⟨by have:=b.lo;show 0<=t.ep+1;omega,by show t.ep+1<40;omega,(bcm a).2.2,a14 _ _ _⟩
def d9(r:Rl)(L:LS):Nat->Tm->LT
 |0,_=>[]
 |n+1,t=>bz r L t::(match kw (bz r L t)with|none=>[]|some u=>d9 r L n u)
def dw(r:Rl)(L:LS):LT:=d9 r L 40 (wd r)
theorem w5(a:c9 r=0):OkT (wd r):=⟨b3g _,by show(0:Int)<40;omega,(azg a).1,xw _⟩
theorem agp(r:Rl)(L:LS): ∀n t,(d9 r L n t).length<=n
 |0,_=>b0f _
 |n+1,t=>by
  simp only[d9,b0q];split
  .simp
  .have:=agp r L n;rename_i u _;have:=this u;omega
theorem azs(r:Rl)(L:LS)(n:Nat)(t:Tm):0<(d9 r L (n+1) t).length:=by simp[d9]
theorem a58 [Inhabited α](a:α)(l:List α):el (a::l) 0=a:=rfl
theorem a00 [Inhabited α](a:α)(l:List α)(i:Nat):el (a::l) (i+1)=el l i:=rfl
theorem adx(r:Rl)(L:LS): ∀(n:Nat) t,OkT t->t.ep+n=40->∀i,i<(d9 r L n t).length->
  OkT (el (d9 r L n t) i)/\(el (d9 r L n t) i).ep=t.ep+i/\bz r L (el (d9 r L n t) i)=el (d9 r L n t) i/\
  (i+1<(d9 r L n t).length->∃w,kw (el (d9 r L n t) i)=some w/\el (d9 r L n t) (i+1)=bz r L w)
 |0,_,_,_,i,hi=>by simp[d9]at hi
 |n+1,t,ht,hn,i,hi=>by
  simp only[d9]at hi ⊢
  cases ha:kw (bz r L t)with
  |none=>
   rw[ha]at hi;simp only[b1j]at hi;obtain rfl:i=0:=Aa
   simp only[a58,b1j]
   exact⟨uz ht,by show t.ep=t.ep+0;omega,rfl,λh=>Aa⟩
  |some u=>
   rw[ha]at hi;simp only[b0q]at hi ⊢;have c:u.ep=t.ep+1:=by rw[(p9 ha).2.2];rfl
   cases i with
   |zero=>
    simp only[a58,a00];refine⟨uz ht,by show t.ep=t.ep+0;omega,rfl,λh=>⟨u,ha,?_⟩⟩
    cases n with
    |zero=>simp[d9]at h
    |succ n=>rfl
   |succ i=>
    simp only[a00];have a:i<(d9 r L n u).length:=Aa
    have h0:0<n:=by
     cases n with
     |zero=>simp[d9]at a
     |succ n=>omega
    have b:=adx r L n u (ac8 (uz ht) ha (by show t.ep<39;omega)) Aa i a;refine⟨b.1,by rw[b.2.1,c];omega,b.2.2.1,λh=>b.2.2.2 Aa⟩
theorem asl(a:c9 r=0)(L:LS)(hi:i<(dw r L).length):
  OkT (el (dw r L) i)/\(el (dw r L) i).ep=i/\bz r L (el (dw r L) i)=el (dw r L) i/\
  (i+1<(dw r L).length->∃w,kw (el (dw r L) i)=some w/\el (dw r L) (i+1)=bz r L w):=by have:=adx r L 40 (wd r) (w5 a) rfl i hi;refine⟨this.1,this.2.1.trans ?_,this.2.2⟩;show(0:Int)+i=i;omega
theorem bf4(r:Rl)(L:LS):el (dw r L) 0=bz r L (wd r):=rfl
theorem td(r:Rl)(L:LS):0<(dw r L).length:=azs r L 39 _
theorem sx(r:Rl)(L:LS):(dw r L).length<=40:=agp r L 40 _
theorem ab2(a:c9 r=0)(h:u∈dw r L):OkT u/\u.ep<40/\bz r L u=u:=by obtain⟨i,b,rfl⟩:=ac7 h;have:=asl a L b;exact⟨this.1,this.1.hi,this.2.2.1⟩
structure ChS where
 p:Nat
 L:LS
 ros:LI
 v:LB
deriving Inhabited
def chS(r:Rl)(ep:Int)(s:ChS):LI:=s5 r s.v s.ros (nw ep) 0 []
def bor(l:LI)(ep:Int)(x y:Ct)(k:Int)(st:Nat×LS):Nat×LS:=
 (dgo l st.1 1,st.2++(if am l st.1 14=0 then []else if am l st.1 14=1 then [vt k ep (nw ep) y]else if am l st.1 14=2 then [vt k ep (nw ep) x,vt k (ep+9) (nw ep) y]else [vt k ep (nw ep) x]))
def bnl(l:LI)(ep:Int)(x y:Ct)(seats:LI)(st:Nat×LS):Nat->Nat×LS
 |0=>st
 |i+1=>bor l ep x y (el seats i) (bnl l ep x y seats st i)
def chX(l:LI)(ep:Int)(s:ChS):Ct×Nat:=t8 l (dgo l s.p 1) (nw ep)
def chY(l:LI)(ep:Int)(s:ChS):Ct×Nat:=t8 l (chX l ep s).2 (nw ep)
def bp3(l:LI)(r:Rl)(ep:Int)(s:ChS):ChS:=
 ⟨(bnl l ep (chX l ep s).1 (chY l ep s).1 (chS r ep s) ((chY l ep s).2,s.L) (chS r ep s).length).1,
  (bnl l ep (chX l ep s).1 (chY l ep s).1 (chS r ep s) ((chY l ep s).2,s.L) (chS r ep s).length).2,
  (aez (chX l ep s).1.li).1,qm s.v ep (chX l ep s).1.li⟩
def ChV(t:Stm):Prop:= ∃k nu e x,t=vt k nu (nw e) x/\(0<=k/\k<=63)/\(0<=nu/\nu<=199)/\(0<=e/\e<40)/\aaf x/\kr (nw e) x=true/\smallN x.li
theorem ChV.ok{t:Stm}(h:ChV t):okS t:=by obtain⟨k,a,e,x,rfl,_,_,_,hx,_⟩:=h;exact a3j _ _ _ hx
structure ChI(l:LI)(ep:Nat)(s:ChS):Prop where
 p:s.p<=l.length
 ros:lk s.ros=true
 low: ∀k∈s.ros,0<=k/\k<=32
 v:s.v.length=32
 len:s.L.length<=18*ep
 ok: ∀t∈s.L,ChV t
theorem ChI.mono{b a:Nat}{s:ChS}(h:ChI l b s)(c:b<=a):ChI l a s:=⟨h.p,h.ros,h.low,h.v,by have:=h.len;omega,h.ok⟩
structure EndP(c:Cs)(seats:LI):Prop where
 c:gg c=true
 nd:seats.Nodup
 n0:1<=seats.length
 n9:seats.length<=9
 k: ∀k∈seats,0<=k/\k<=63
theorem EndP.of(h:ckS c seats=0):EndP c seats:=by obtain⟨a,d,g,e⟩:=bbf h;have b:ny seats=true:=(by rw[wb,if_neg Dw]at h;split at h;{assumption};.cases h);have i:=(mn.1 b).1;exact⟨a,g,b2q.2 i,d,λk f=>by have:=e k f;omega⟩
theorem a86(l:LI):o5 l=lk l:=by rw[b3s];constructor;{intro h;obtain⟨c,d,a⟩:=yh.1 h;have b: ∀x∈l,0<=x/\x<64:=λx hx=>jz.1 (d x hx);refine a3l a b c ?_;have:=a02 (l:=l) (m:=(List.range 64).map λi:Nat=>(i:Int)) (a.imp λh=>Aa) λx hx=>(by have:=b x hx;exact b0z.2 ⟨x.toNat,b2k.2 Aa,Aa⟩);simpa using this};.intro h;obtain⟨c,d,a,_⟩:=ky h;exact yh.2 ⟨a,λk b=>jz.2 (d k b),c⟩
theorem yy(l:LI)(a:big l.length):DN 174 [.vs (l.map i1)] (.bool (lk l)):=a86 l ▸ ako l a
theorem bfu(p:Pol)(a:big p.se.length)(b:big p.ta.length):DN 32 [.agg [.int .i64 64,.vs [],.vs []],.agg (pl p)] (.int .i64 (if a6o p then 0 else 15)):=
 bte p ▸ atj ⟨64,[],[]⟩ p Ap Ap a b
theorem ahw(r:Rl)(h0:big r.gen.length)(g:big r.pol.se.length)(h:big r.pol.ta.length):DN 129 [.agg (rl r)] (.int .i64 (c9 r)):=by refine ag_ func129 ntmps129 results129 ?_;generalize a:c9 r=m;simp only[go_sem];refine Qq (yy r.gen h0) [] ?_;cases a1:lk r.gen;{rw[c9,if_pos a1]at a;simp only[go_sem];exact a};rw[c9,if_neg F2]at a;have b:=bfu r.pol g h;rw[uf]at b;simp only[go_sem];refine Qq b [] ?_;cases a2:a6o r.pol;{rw[if_pos a2]at a;simp only[go_sem];exact a};rw[if_neg D5]at a;by_cases b:r.seats<1;{rw[if_neg Aa]at a;simp only[go_sem,b];exact a};by_cases c:9<r.seats;{rw[if_neg Aa]at a;simp only[go_sem,b,c];exact a};by_cases d:r.span<1;{rw[if_neg Aa]at a;simp only[go_sem,b,c,d];exact a};by_cases c4:1000000<r.span;{rw[if_neg Aa]at a;simp only[go_sem,b,c,d,c4];exact a};by_cases e:r.quota<0;{rw[if_neg Aa]at a;simp only[go_sem,b,c,d,c4,e];exact a};by_cases f:64<r.quota;{rw[if_neg Aa]at a;simp only[go_sem,b,c,d,c4,e,f];exact a};rw[if_pos Aa]at a;simp only[go_sem,b,c,d,c4,e,f];exact a
theorem avq(v:Int)(h:m<8):(be8 v).take (m+1)=(be8 v).take m++[bAt v (56 - 8*m)]:=by have:m=0\/m=1\/m=2\/m=3\/m=4\/m=5\/m=6\/m=7:=Aa;rcases this with rfl|rfl|rfl|rfl|rfl|rfl|rfl|rfl<;>rfl
theorem atn(v:Int)(h:m<=8):((be8 v).take m).length=m:=Cu
theorem bbt(h:i<l.length):beL (l.take (i+1))=beL (l.take i)++be8 (el l i):=by rw[bt h,l9];simp[beL]
theorem ym(a:LB)(l:LI)(s:a.length<=2000000000)(u:l.length<=1000000000):Den prog 297 [.os 1000000 a.length,.vs (l.map i1)] [.arr 5 1 false (a.map u8)] (.os 1000000 (a++beL l).length) [] [.arr 5 1 false ((a++beL l).map u8)]:=by refine ah_ [] [1000000] func297 ntmps297 results297 ?_;simp only[go_sem];refine lo_ 0 (λi:Nat=>[(0,.os 1000000 (a++beL (l.take i)).length),(8,.vs (l.map i1)),(9,.int .i64 l.length),(10,.int .i64 i)]) (λi=>[(1000000,.arr 5 1 false ((a++beL (l.take i)).map u8))]) (λi=>i<=l.length) (λi=>l.length - i) (b0k _) ?_ ?_;{simp only[go_sem,b2d,beL,b17,b00]};.intro i hi;have d:(l.take i).length=i:=Ag;have o:(a++beL (l.take i)).length<=2000000000+8000000000:=(by simp only[b0a,d5,d];omega);by_cases h:i<l.length;{have h1:(i:Int)<(l.length:Int):=Aa;have b:=bbt h;generalize k:el l i=v at*;generalize g:a++beL (l.take i)=B at*;simp only[go_sem,h1,h,k];refine lo_ 0 (λm:Nat=>[(0,.os 1000000 (B++(be8 v).take m).length),(6,.int .i64 v),(7,.int .i64 (56 - 8*(m:Int))),(8,.vs (l.map i1)),(9,.int .i64 l.length),(10,.int .i64 i)]) (λm=>[(1000000,.arr 5 1 false ((B++(be8 v).take m).map u8))]) (λm=>m<=8) (λm=>8 - m) (b0k _) ?_ ?_;{simp only[go_sem,b2d,b00]};.intro m hm;have c:=atn v hm;by_cases f:m<8;{have e1:(56 - 8*(m:Int))=((56 - 8*m:Nat):Int):=Aa;have p:min (56 - 8*m) 64=56 - 8*m:=Aa;have r:=ahv v (56 - 8*m) Aa;have n:=avq v f;have e:(0:Int)<=((56 - 8*m:Nat):Int):=Aa;rw[e1];generalize t:56 - 8*m=q at*;simp only[go_sem,e,p,r,c];refine⟨Aa,m+1,Aa,⟨by rw[atn v f];omega,Ab⟩,?_⟩;rw[n];simp[u8]};.have:m=8:=Aa;subst this;have j:(be8 v).take 8=be8 v:=rfl;have e: ¬(0:Int)<=56 - 8*((8:Nat):Int):=Aa;rw[j];simp only[go_sem,e];refine⟨i+1,Aa,⟨?_,Ab⟩,by rw[b,<-b0m,g]⟩;rw[b,b0a,<-g,b0a];omega};.have h1: ¬(i:Int)<(l.length:Int):=Aa;have:i=l.length:=Aa;subst this;simp only[go_sem,h1,b0n]
theorem oc(a:LB)(l:LI)(f:a.length<=1000000000)(e:l.length<=10000000):Den prog 244 [.os 1000000 a.length,.vs (l.map i1)] [.arr 5 1 false (a.map u8)] (.os 1000000 (a++lsB l).length) [] [.arr 5 1 false ((a++lsB l).map u8)]:=by
 refine ah_ [] [1000000] func244 ntmps244 results244 ?_;have b:=ym a [(l.length:Int)] Aa Ad;have d:beL [(l.length:Int)]=be8 l.length:=by simp[beL]
 rw[d]at b;have c:=ym (a++be8 l.length) l Cw Aa;simp only[go_sem];refine Qq b [1000000] ?_;simp only[go_sem];refine⟨Aa,Qq c [1000000] ?_⟩;simp only[go_sem,lsB,b0m];omega
def bxV(bs:LB)(v:Int):Nat->PV
 |0=> .vx (bs.map u8)
 |m+1=> .os 25 (bs++(be8 v).take (m+1)).length
def bxB(bs:LB)(v:Int):Nat->ASt
 |0=>[]
 |m+1=>[(25,.arr 5 1 false ((bs++(be8 v).take (m+1)).map u8))]
theorem avy(a:LB)(v:Int):bxV a v 0= .vx (a.map u8):=rfl
theorem biw(a:LB)(v:Int):bxV a v 1= .os 25 (a++(be8 v).take 1).length:=rfl
theorem au4(a:LB)(v:Int)(m:Nat):bxV a v (m+1)= .os 25 (a++(be8 v).take (m+1)).length:=rfl
theorem au9(a:LB)(v:Int):bxB a v 0=[]:=rfl
theorem bh8(a:LB)(v:Int):bxB a v 1=[(25,.arr 5 1 false ((a++(be8 v).take 1).map u8))]:=rfl
theorem at4(a:LB)(v:Int)(m:Nat):bxB a v (m+1)=[(25,.arr 5 1 false ((a++(be8 v).take (m+1)).map u8))]:=rfl
theorem awi(a:LB)(v:Int)(n:a.length<=2000000000):DN 297 [.vx (a.map u8),.vs [i1 v]] (.vs ((a++be8 v).map u8)):=by refine ag_ func297 ntmps297 results297 ?_;have w:IntKind.i64.wrap 1=1:=Ab;simp only[go_sem];(refine lo_ 0 (λi:Nat=>match i with|0=>[(0,.vx (a.map u8)),(8,.vs [i1 v]),(9,.int .i64 1),(10,.int .i64 0)]|_=>[(0,.os 25 (a++be8 v).length),(8,.vs [i1 v]),(9,.int .i64 1),(10,.int .i64 1)]) (λi=>match i with|0=>[]|_=>[(25,.arr 5 1 false ((a++be8 v).map u8))]) (λi=>i<=1) (λi=>1 - i) (b0k _) ?_ ?_);{simp only[go_sem]};.intro i hi;cases i with|zero=>simp only[go_sem];refine lo_ 0 (λm:Nat=>[(0,bxV a v m),(6,.int .i64 v),(7,.int .i64 (56 - 8*(m:Int))),(8,.vs [i1 v]),(9,.int .i64 1),(10,.int .i64 0)]) (λm=>bxB a v m) (λm=>m<=8) (λm=>8 - m) (b0k _) ?_ ?_;{simp only[go_sem,avy,au9]};.intro m hm;have b:=atn v hm;by_cases e:m<8;{have e1:(56 - 8*(m:Int))=((56 - 8*m:Nat):Int):=Aa;have h:min (56 - 8*m) 64=56 - 8*m:=Aa;have f:=ahv v (56 - 8*m) Aa;have g:=avq v e;have d:(0:Int)<=((56 - 8*m:Nat):Int):=Aa;rw[e1];generalize o:56 - 8*m=q at*;cases m with|zero=>simp only[go_sem,d,h,f,b,avy,au9];refine⟨Aa,1,Aa,?_⟩;simp only[go_sem,biw,bh8];have c:(be8 v).take 1=[bAt v q]:=g;refine⟨⟨by rw[c];rfl,Ab⟩,?_⟩;rw[c];simp[u8]|succ m=>simp only[go_sem,d,h,f,b,au4,at4];refine⟨Aa,m+1+1,Aa,?_⟩;simp only[go_sem,au4,at4];refine⟨⟨by rw[atn v e];omega,Ab⟩,?_⟩;rw[g];simp[u8]};.have:m=8:=Aa;subst this;have l:(be8 v).take 8=be8 v:=rfl;have d: ¬(0:Int)<=56 - 8*((8:Nat):Int):=Aa;have k:bxV a v 8= .os 25 (a++be8 v).length:=rfl;have j:bxB a v 8=[(25,.arr 5 1 false ((a++be8 v).map u8))]:=rfl;simp only[go_sem,d,k,j];refine⟨1,Aa,?_⟩;simp only[go_sem,w]|succ i=>simp only[go_sem]
theorem a8l(v:LB)(a:Int)(l:LI)(hv:v.length=32)(h0:0<=a)(j:a<40)(k:l.length<=64):DN 247 [.str v,.int .i64 a,.vs (l.map i1)] (.tup [.str (qm v a l),.int .i64 0]):=by refine ag_ func247 ntmps247 results247 ?_;have i:(v.length:Int)=32:=Aa;have h: ¬a<0:=Aa;have g: ¬(40:Int)<=a:=Aa;have d: ¬(64:Int)<(l.length:Int):=Aa;have b:=ym v [a] Aa Ad;have e:beL [a]=be8 a:=(by simp[beL]);rw[e]at b;have c:=oc (v++be8 a) l Cw Aa;have f:=abc ((v++be8 a)++lsB l) Dz;simp only[go_sem,i,h,g,d];refine⟨Aa,Qq b [24] ?_⟩;simp only[go_sem];refine⟨Aa,Qq c [24] ?_⟩;simp only[go_sem];refine⟨Aa,Qq f [] ?_⟩;simp only[go_sem,qm]
def bas(S:LB):Nat->Int
 |0=>0
 |k+1=>bits .or .i64 (IntKind.i64.wrap (bas S k*2^min 8 64)) (IntKind.i64.wrap ((S.getD k 0).toNat:Int))
theorem atu{a b:Nat}(h:b<2^i):2^i*a|||b=2^i*a+b:=(Nat.two_pow_add_eq_or_of_lt h a).symm
theorem vk(a b:Nat)(f:a<16777216)(c:b<256):bits .or .i64 (IntKind.i64.wrap ((a:Int)*2^min 8 64)) (IntKind.i64.wrap (b:Int))=((a*256+b:Nat):Int):=by have d:IntKind.i64.wrap ((a:Int)*2^min 8 64)=((a*256:Nat):Int):=(by have:(2:Int)^min 8 64=256:=Al;rw[this,ah]<;>omega);have e:IntKind.i64.wrap (b:Int)=((b:Nat):Int):=Ab;rw[d,e,acb _ _ Aa Aa];have:=atu (a:=a) (b:=b) (i:=8) c;rw[show(2:Nat)^8*a=a*256 from Aa]at this;rw[this]
theorem ayo(S:LB):bas S 4=anp S:=by have c: ∀k,(S.getD k 0).toNat<256:=λk=>(S.getD k 0).toNat_lt;have b0:=c 0;have d:=c 1;have h:=c 2;have e:=c 3;unfold anp;simp only[bas];generalize (S.getD 0 0).toNat=x0 at*;generalize (S.getD 1 0).toNat=x1 at*;generalize (S.getD 2 0).toNat=x2 at*;generalize (S.getD 3 0).toNat=x3 at*;have p:=vk 0 x0 Aa b0;have r:=vk (0*256+x0) x1 Aa d;have m:=vk ((0*256+x0)*256+x1) x2 Aa h;have n:=vk (((0*256+x0)*256+x1)*256+x2) x3 Aa e;rw[show(0:Int)=((0:Nat):Int) from rfl,p,r,m,n];have w: ∀k:Nat,k<256->IntKind.i64.wrap (k:Int)=(k:Int):=λk s=>Ab;rw[w x0 b0,w x1 d,w x2 h,w x3 e];have q:IntKind.i64.wrap ((x0:Int)*2^min 24 64)=((x0*16777216:Nat):Int):=(by have:(2:Int)^min 24 64=16777216:=Al;rw[this,ah]<;>omega);have l:IntKind.i64.wrap ((x1:Int)*2^min 16 64)=((x1*65536:Nat):Int):=(by have:(2:Int)^min 16 64=65536:=Al;rw[this,ah]<;>omega);have o:IntKind.i64.wrap ((x2:Int)*2^min 8 64)=((x2*256:Nat):Int):=(by have:(2:Int)^min 8 64=256:=Al;rw[this,ah]<;>omega);have j:=atu (a:=x0) (b:=x1*65536) (i:=24) Aa;have g:=atu (a:=x0*256+x1) (b:=x2*256) (i:=16) Aa;have f:=atu (a:=(x0*256+x1)*256+x2) (b:=x3) (i:=8) Aa;rw[show(2:Nat)^24*x0=x0*16777216 from Aa]at j;rw[show(2:Nat)^16*(x0*256+x1)=x0*16777216+x1*65536 from Aa]at g;rw[show(2:Nat)^8*((x0*256+x1)*256+x2)=x0*16777216+x1*65536+x2*256 from Aa]at f;rw[q,l,o,acb _ _ Aa Aa,j,acb _ _ Aa Aa,g,acb _ _ Aa Aa,f];omega
theorem aku(v:LB)(a:LI)(n:Nat)(hv:v.length=32)(s:a.length<=64)(q:n<=64):DN 261 [.str v,.vs (a.map i1),.int .i64 n] (.tup [.vs ((yf v a n).map i1),.int .i64 0]):=by refine ag_ func261 ntmps261 results261 ?_;have p:(v.length:Int)=32:=Aa;have m: ¬(64:Int)<(a.length:Int):=Aa;have l: ¬(n:Int)<0:=Aa;have e: ¬(64:Int)<(n:Int):=Aa;have o:=oc v a Aa Aa;have r:(v++lsB a).length<=1000:=(by simp only[b0a,jw];omega);have d:v.length<=(v++lsB a).length:=(by rw[b0a];omega);have b: ∀i:Nat,bc0 v a i=anp (sha ((v++lsB a)++be8 i)):=λ_=>rfl;simp only[go_sem,p,m,l,e];refine⟨Aa,Qq o [30] ?_⟩;generalize v++lsB a=B at*;simp only[go_sem];refine⟨d,?_⟩;refine bm 8 99 3 1 false ?_ ?_ ?_ Aa;{refine lo_ 0 (λi:Nat=>[(9,.vs (B.map u8)),(8,.os 99 (yf v a i).length),(33,.int .i64 n),(34,.int .i64 i)]) (λi=>[(99,.arr 3 1 false ((yf v a i).map i1))]) (λi=>i<=n) (λi=>n - i) (b0k _) ?_ ?_;{simp only[go_sem,yf,b0o,b0r]};.intro i hi;have g:=nj v a i;by_cases h:i<n;{have hlt:(i:Int)<(n:Int):=Aa;simp only[go_sem,hlt,b0n];refine⟨b0f _,Qq (awi B i Aa) [] ?_⟩;simp only[go_sem];refine Qq (abc (B++be8 i) Cw) [] ?_;have hs:=xw (B++be8 i);have b:=b i;generalize sha (B++be8 i)=S at*;simp only[go_sem];refine lo_ 0 (λk:Nat=>[(9,.vs (B.map u8)),(8,.os 99 (yf v a i).length),(33,.int .i64 n),(34,.int .i64 i),(11,.str S),(12,.int .i64 (bas S k)),(47,.int .i64 k)]) (λk=>[(99,.arr 3 1 false ((yf v a i).map i1))]) (λk=>k<=4) (λk=>4 - k) (b0k _) ?_ ?_;{simp only[go_sem];rfl};.intro k hk;by_cases f:k<4;{have hkt:(k:Int)<4:=Aa;have c:k<S.length:=Aa;simp only[go_sem,hkt,c];exact⟨k+1,Aa,rfl,Ab⟩};.have:k=4:=Aa;subst this;simp only[go_sem];refine⟨Aa,i+1,Aa,⟨by rw[nj,nj],Ab⟩,?_⟩;rw[yf,b,ayo];simp[i1]};.have hm2:i=n:=Aa;subst hm2;have j: ¬(i:Int)<(i:Int):=Aa;simp only[go_sem,j]};{simp only[go_sem]};.simp only[go_sem]
theorem bi5(a b:Nat)(f:a<9223372036854775808)(e:b<9223372036854775808):bits .and .i64 (a:Int) (b:Int)=((a&&&b:Nat):Int):=by have hx:a&&&b<2^63:=Nat.lt_of_le_of_lt Nat.and_le_left Aa;have c:(BitVec.ofInt 64 (a:Int)).toNat=a:=(by rw[b40,b5c];exact b3y Aa);have d:(BitVec.ofInt 64 (b:Int)).toNat=b:=(by rw[b40,b5c];exact b3y Aa);show IntKind.i64.wrap ((BitVec.ofInt 64 (a:Int)&&&BitVec.ofInt 64 (b:Int)).toNat:Int)=_;rw[BitVec.toNat_and,c,d,b6x];omega
theorem ag9(n i:Nat)(d:n<4294967296):bits .and .i64 ((n:Int).fdiv ((2:Int)^i)) 1=if n.testBit i then 1 else 0:=by have h0:(0:Int)<=(2:Int)^i:=Int.pow_nonneg Aa;have c:(n:Int).fdiv ((2:Int)^i)=((n/2^i:Nat):Int):=(by rw[b4z _ h0];have:((2:Int)^i)=((2^i:Nat):Int):=Ad;rw[this];rfl);have b:n/2^i<=n:=Nat.div_le_self _ _;have:=bi5 (n/2^i) 1 Aa Aa;rw[c];rw[show(1:Int)=((1:Nat):Int) from rfl,this,Nat.and_one_is_mod,Nat.testBit_eq_decide_div_mod_eq];have a:n/2^i % 2=0\/n/2^i % 2=1:=Aa;rcases a with a|a<;>rw[a]<;>simp
theorem ahd(a:el l (i/32)=(n:Int)):sc l (i:Int)=n.testBit (i % 32):=by unfold sc;rw[b19,a,b19]
theorem vj(h:pr l)(hi:i<64): ∃n:Nat,el l (i/32)=(n:Int)/\n<4294967296:=by obtain⟨_,b,c,e,d,_⟩:=h;have a:i/32=0\/i/32=1:=Aa;rcases a with a|a<;>rw[a];{exact⟨(el l 0).toNat,Aa⟩};.exact⟨(el l 1).toNat,Aa⟩
theorem ato(l:LI)(D:big l.length):DN 27 [.vs (l.map i1)] (.tup [.vs ((aez l).1.map i1),.int .i64 (aez l).2]):=by refine ag_ func27 ntmps27 results27 ?_;by_cases A:l.length=2;rotate_left;{have b: ¬(l.length:Int)=2:=Aa;rw[jn λh=>A h.1];simp only[go_sem,b,b0o]};have b:(l.length:Int)=2:=Aa;have b0:0<l.length:=Aa;have d:1<l.length:=Aa;by_cases e:el l 0<0;{rw[jn λh=>A9];simp only[go_sem,b,b0,d,e,b0o]};by_cases m:4294967296<=el l 0;{rw[jn λh=>A9];simp only[go_sem,b,b0,d,e,m,b0o]};by_cases p:el l 1<0;{rw[jn λh=>A9];simp only[go_sem,b,b0,d,e,m,p,b0o]};by_cases x:4294967296<=el l 1;{rw[jn λh=>A9];simp only[go_sem,b,b0,d,e,m,p,x,b0o]};by_cases r:el l 0=0;{by_cases a6:el l 1=0;{rw[jn λh=>h.2.2.2.2.2 ⟨r,a6⟩];simp only[go_sem,b,b0,d,e,m,p,x,r,a6,b0o]};have u:pr l:=⟨A,Aa,Aa,Aa,Aa,λh=>a6 h.2⟩;simp only[go_sem,b,b0,d,e,m,p,x,r,a6];rw[pt u];refine bm 4 99 3 1 false ?_ ?_ ?_ Aa;{refine lo_ 0 (λi:Nat=>[(0,.vs (l.map i1)),(4,.os 99 (bj (sc l) i).length),(5,.int .i64 i)]) (λi=>[(99,.arr 3 1 false ((bj (sc l) i).map i1))]) (λi=>i<=64) (λi=>64 - i) (b0k _) ?_ ?_;{simp only[go_sem];exact⟨rfl,rfl⟩};.intro i hi;have a:=jg (sc l) i;have z:=du (sc l) i;by_cases f:i<64;{have h1:(i:Int)<64:=Aa;obtain⟨n,g,c⟩:=vj u f;have y:=ahd g;have hs:=ag9 n (i % 32) c;have q:IntKind.i64.wrap ((i:Int).tdiv 32)=((i/32:Nat):Int):=Ba;have s:(i:Int).tmod 32=((i % 32:Nat):Int):=C9;have v:min (i % 32) 64=i % 32:=Aa;have w:IntKind.u64.wrap ((i % 32:Nat):Int)=((i % 32:Nat):Int):=Ax;have t:i/32<l.length:=Aa;rw[y]at a;generalize bj (sc l) i=o at*;generalize C:i/32=j at*;generalize B:i % 32=k at*;cases ht:n.testBit k;{rw[ht]at a hs;simp only[go_sem,h1,q,s,v,w,t,g,hs];(repeat refine an_ ?_);refine⟨i+1,Aa,?_⟩;rw[a];simp only[go_sem,b00];rw[ah]<;>omega};.rw[ht]at a hs;simp only[go_sem,h1,q,s,v,w,t,g,hs];(repeat refine an_ ?_);refine⟨i+1,Aa,?_⟩;rw[a];simp only[go_sem,b0d,b0a];rw[ah]<;>omega};.have h1: ¬(i:Int)<64:=Aa;have:i=64:=Aa;subst this;simp only[go_sem,h1];done};{simp only[go_sem]};.simp only[go_sem]};have u:pr l:=⟨A,Aa,Aa,Aa,Aa,λh=>r h.1⟩;simp only[go_sem,b,b0,d,e,m,p,x,r];rw[pt u];refine bm 4 99 3 1 false ?_ ?_ ?_ Aa;{refine lo_ 0 (λi:Nat=>[(0,.vs (l.map i1)),(4,.os 99 (bj (sc l) i).length),(5,.int .i64 i)]) (λi=>[(99,.arr 3 1 false ((bj (sc l) i).map i1))]) (λi=>i<=64) (λi=>64 - i) (b0k _) ?_ ?_;{simp only[go_sem];exact⟨rfl,rfl⟩};.intro i hi;have a:=jg (sc l) i;have z:=du (sc l) i;by_cases f:i<64;{have h1:(i:Int)<64:=Aa;obtain⟨n,g,c⟩:=vj u f;have y:=ahd g;have hs:=ag9 n (i % 32) c;have q:IntKind.i64.wrap ((i:Int).tdiv 32)=((i/32:Nat):Int):=Ba;have s:(i:Int).tmod 32=((i % 32:Nat):Int):=C9;have v:min (i % 32) 64=i % 32:=Aa;have w:IntKind.u64.wrap ((i % 32:Nat):Int)=((i % 32:Nat):Int):=Ax;have t:i/32<l.length:=Aa;rw[y]at a;generalize bj (sc l) i=o at*;generalize C:i/32=j at*;generalize B:i % 32=k at*;cases ht:n.testBit k;{rw[ht]at a hs;simp only[go_sem,h1,q,s,v,w,t,g,hs];(repeat refine an_ ?_);refine⟨i+1,Aa,?_⟩;rw[a];simp only[go_sem,b00];rw[ah]<;>omega};.rw[ht]at a hs;simp only[go_sem,h1,q,s,v,w,t,g,hs];(repeat refine an_ ?_);refine⟨i+1,Aa,?_⟩;rw[a];simp only[go_sem,b0d,b0a];rw[ah]<;>omega};.have h1: ¬(i:Int)<64:=Aa;have:i=64:=Aa;subst this;simp only[go_sem,h1];done};{simp only[go_sem]};.simp only[go_sem]
def nq(x:Int):Bool:=decide (x<0)||decide (4294967296<=x)
theorem a79(x:Int):DN 300 [.int .i64 x] (.bool (nq x)):=by refine ag_ func300 ntmps300 results300 ?_;by_cases a:x<0;{simp only[go_sem,a,nq]};.by_cases h2:4294967296<=x;{simp only[go_sem,a,h2,nq]};.simp only[go_sem,a,h2,nq]
theorem a0q(h:l.length=2):l.any nq=(nq (el l 0)||nq (el l 1)):=by match l,h with|[x,y],_=>simp[el]
theorem bet(l:LI)(B:big l.length):DN 246 [.vs (l.map i1)] (.tup [.vs ((aez l).1.map i1),.int .i64 (aez l).2]):=by
 refine ag_ func246 ntmps246 results246 ?_;by_cases w:l.length=2
 rotate_left
 .have b: ¬(l.length:Int)=2:=Aa;rw[jn λh=>w h.1];simp only[go_sem,b,b0o]
 have b:(l.length:Int)=2:=Aa
 have b0:0<l.length:=Aa
 have v:1<l.length:=Aa
 have D:=pp nq 300 a79 l B;have s:=a0q w;simp only[go_sem,b,b0,v];refine Qq D [] ?_
 cases hq:l.any nq
 rotate_left
 .rw[hq]at s
  rw[jn λh=>by
   obtain⟨_,c,g,H,G,_⟩:=h;have E:nq (el l 0)=false:=by simp[nq];omega
   have A:nq (el l 1)=false:=by simp[nq];omega
   rw[E,A]at s
   cases s]
  simp only[go_sem,b0o]
 have F:(0<=el l 0/\el l 0<4294967296)/\0<=el l 1/\el l 1<4294967296:=by rw[hq]at s;have:=s.symm;simp[nq]at this;omega
 by_cases p:el l 0=0
 .by_cases a6:el l 1=0;{rw[jn λh=>h.2.2.2.2.2 ⟨p,a6⟩];simp only[go_sem,b,b0,v,p,a6,b0o]};have r:pr l:=⟨w,Aa,Aa,Aa,Aa,λh=>a6 h.2⟩;simp only[go_sem,b,b0,v,p,a6];rw[pt r];refine bm 5 99 3 1 false ?_ ?_ ?_ Aa;{refine lo_ 0 (λi:Nat=>[(0,.vs (l.map i1)),(5,.os 99 (bj (sc l) i).length),(27,.int .i64 i)]) (λi=>[(99,.arr 3 1 false ((bj (sc l) i).map i1))]) (λi=>i<=64) (λi=>64 - i) (b0k _) ?_ ?_;{simp only[go_sem];exact⟨rfl,rfl⟩};.intro i hi;have a:=jg (sc l) i;have y:=du (sc l) i;by_cases e:i<64;{have c:(i:Int)<64:=Aa;obtain⟨n,f,d⟩:=vj r e;have x:=ahd f;have hs:=ag9 n (i % 32) d;have m:IntKind.i64.wrap ((i:Int).tdiv 32)=((i/32:Nat):Int):=Ba;have q:(i:Int).tmod 32=((i % 32:Nat):Int):=C9;have t:min (i % 32) 64=i % 32:=Aa;have u:IntKind.u64.wrap ((i % 32:Nat):Int)=((i % 32:Nat):Int):=Ax;have g:i/32<l.length:=Aa;rw[x]at a;generalize bj (sc l) i=o at*;generalize C:i/32=j at*;generalize z:i % 32=k at*;cases ht:n.testBit k;{rw[ht]at a hs;simp only[go_sem,c,m,q,t,u,g,f,hs];(repeat refine an_ ?_);refine⟨i+1,Aa,?_⟩;rw[a];simp only[go_sem,b00];rw[ah]<;>omega};.rw[ht]at a hs;simp only[go_sem,c,m,q,t,u,g,f,hs];(repeat refine an_ ?_);refine⟨i+1,Aa,?_⟩;rw[a];simp only[go_sem,b0d,b0a];rw[ah]<;>omega};.have c: ¬(i:Int)<64:=Aa;have:i=64:=Aa;subst this;simp only[go_sem,c];done};{simp only[go_sem]};.simp only[go_sem]
 have r:pr l:=⟨w,Aa,Aa,Aa,Aa,λh=>p h.1⟩;simp only[go_sem,b,b0,v,p];rw[pt r];refine bm 5 99 3 1 false ?_ ?_ ?_ Aa
 .refine lo_ 0 (λi:Nat=>[(0,.vs (l.map i1)),(5,.os 99 (bj (sc l) i).length),(27,.int .i64 i)]) (λi=>[(99,.arr 3 1 false ((bj (sc l) i).map i1))]) (λi=>i<=64) (λi=>64 - i) (b0k _) ?_ ?_;{simp only[go_sem];exact⟨rfl,rfl⟩};.intro i hi;have a:=jg (sc l) i;have y:=du (sc l) i;by_cases e:i<64;{have c:(i:Int)<64:=Aa;obtain⟨n,f,d⟩:=vj r e;have x:=ahd f;have hs:=ag9 n (i % 32) d;have m:IntKind.i64.wrap ((i:Int).tdiv 32)=((i/32:Nat):Int):=Ba;have q:(i:Int).tmod 32=((i % 32:Nat):Int):=C9;have t:min (i % 32) 64=i % 32:=Aa;have u:IntKind.u64.wrap ((i % 32:Nat):Int)=((i % 32:Nat):Int):=Ax;have g:i/32<l.length:=Aa;rw[x]at a;generalize bj (sc l) i=o at*;generalize C:i/32=j at*;generalize z:i % 32=k at*;cases ht:n.testBit k;{rw[ht]at a hs;simp only[go_sem,c,m,q,t,u,g,f,hs];(repeat refine an_ ?_);refine⟨i+1,Aa,?_⟩;rw[a];simp only[go_sem,b00];rw[ah]<;>omega};.rw[ht]at a hs;simp only[go_sem,c,m,q,t,u,g,f,hs];(repeat refine an_ ?_);refine⟨i+1,Aa,?_⟩;rw[a];simp only[go_sem,b0d,b0a];rw[ah]<;>omega};.have c: ¬(i:Int)<64:=Aa;have:i=64:=Aa;subst this;simp only[go_sem,c];done
 .simp only[go_sem]
 .simp only[go_sem]
theorem at6: ∀(l:LI) (s:List Bool) (k:Nat),s.length=64->k<64->(azn l s)[k]? =if(k:Int)∈l then some true else s[k]?
 |[],s,k,_,_=>by simp[azn]
 |a::l,s,k,hs,hk=>by
  have ih:=at6 l (if abe a=true then s.set a.toNat true else s) k (by split<;>simp[hs]) hk;have e:azn (a::l) s=azn l (if abe a=true then s.set a.toNat true else s):=rfl;rw[e,ih];by_cases hm:(k:Int)∈l
  .rw[if_pos hm,if_pos Dg]
  .rw[if_neg hm];by_cases ha:(k:Int)=a
   .subst ha;have hkb:abe (k:Int)=true:=jz.2 Aa;rw[if_pos hkb,if_pos Ad,b19];simp[b2x,hs,hk]
   .have hm2:(k:Int)∉a::l:=λh=>by
     rcases b0p.1 h with h|h
     .exact ha h
     .exact hm h
    rw[if_neg hm2];by_cases hkb:abe a=true
    .rw[if_pos hkb];have:=jz.1 hkb;have hne:a.toNat≠k:=Aa
     simp[b2x,hne]
    .rw[if_neg hkb]
theorem a7a(l:LI){k:Nat}(b:k<64):el (aot l) k=decide ((k:Int)∈l):=by have h:=at6 (l.take l.length) (List.replicate 64 false) k Ad b;have e:aot l=azn (l.take l.length) (List.replicate 64 false):=rfl;rw[el,bd,e,h,b0n];by_cases a:(k:Int)∈l;{simp[a]};.rw[if_neg a,b5e,if_pos b];simp[a]
theorem azz(x y:List Bool)(hx:x.length=64)(e:y.length=64)(k:Nat)(b:k<64):Den prog 264 [.int .i64 k,.ptr 1000000 0,.ptr 1000001 0] [.cells (x.map cb),.cells (y.map cb)] (.bool (el x k&& !el y k)) [] [.cells (x.map cb),.cells (y.map cb)]:=by refine ah_ [] [1000000,1000001] func264 ntmps264 results264 ?_;have c:k<x.length:=Aa;have d:k<y.length:=Aa;have a:(k:Int)<64:=Aa;cases h1:el x k;{simp only[go_sem,b,c,d,h1,a]};.simp only[go_sem,b,c,d,h1,a]
theorem a17(x y:List Bool)(hx:x.length=64)(g:y.length=64)(c:Int->Bool)(e: ∀k:Nat,k<64->c k=(el x k&& !el y k)):Den prog 263 [.fn 264 [.ptr 1000000 0,.ptr 1000001 0]] [.cells (x.map cb),.cells (y.map cb)] (.vs ((bj c 64).map i1)) [] [.cells (x.map cb),.cells (y.map cb)]:=by refine ah_ [] [1000000,1000001] func263 ntmps263 results263 ?_;simp only[go_sem];refine bm 3 99 3 1 false ?_ ?_ ?_ Aa;{refine lo_ 0 (λi:Nat=>[(0,.fn 264 [.ptr 1000000 0,.ptr 1000001 0]),(3,.os 99 (bj c i).length),(5,.int .i64 i)]) (λi=>[(99,.arr 3 1 false ((bj c i).map i1)),(1000000,.cells (x.map cb)),(1000001,.cells (y.map cb))]) (λi=>i<=64) (λi=>64 - i) (b0k _) ?_ ?_;{simp only[go_sem];exact⟨rfl,rfl⟩};.intro i hi;have a:=jg c i;have f:=du c i;by_cases b:i<64;{have h1:(i:Int)<64:=Aa;have d:=azz x y hx g i b;rw[e i b]at a;generalize bj c i=o at*;cases hb:(el x i&& !el y i);{rw[hb]at d a;simp only[go_sem,h1];refine Qq d [1000000,1000001] ?_;simp only[go_sem];refine⟨i+1,Aa,⟨D3,Ab⟩,D3⟩};.rw[hb]at d a;simp only[go_sem,h1];refine Qq d [1000000,1000001] ?_;simp only[go_sem];refine⟨Aa,i+1,Aa,⟨D3,Ab⟩,by rw[a];simp[i1]⟩};.have h1: ¬(i:Int)<64:=Aa;have:i=64:=Aa;subst this;simp only[go_sem,h1]};{simp only[go_sem]};.simp only[go_sem]
theorem awo(a b:LI)(j:big a.length)(g:big b.length):DN 187 [.vs (a.map i1),.vs (b.map i1)] (.vs ((bj (λk=>decide (k∈a)&& !decide (k∈b)) 64).map i1)):=by
 refine ag_ func187 ntmps187 results187 ?_;have d:(aot a).length=64:=uw a a.length (b0f _);have c:(aot b).length=64:=uw b b.length (b0f _);have h:=a17 (aot a) (aot b) d c (λk=>decide (k∈a)&& !decide (k∈b)) λk e=>by rw[a7a a e,a7a b e]
 have i:=ahm a j;have f:=ahm b g;generalize aot a=x at*;generalize aot b=y at*;simp only[go_sem];refine Qq i [] ?_;simp only[go_sem];refine Qq f [] ?_;simp only[go_sem,d,c];refine Qq h [5,6] ?_;simp only[go_sem]
theorem ae9(l:LI)(h0:0<l.length)(a:l.length<=1000000):DN 127 [.vs (l.map i1)] (.vs (l.map i1)):=by refine ag_ func127 ntmps127 results127 ?_;simp only[go_sem,h0];omega
theorem a41(l nu:LI)(s:Int)(v:lk l=true)(Q:1<=s)(P:s<=9)(hs:9<=nu.length)(A:big nu.length)(y: ∀x∈nu,0<=x):DN 262 [.vs (l.map i1),.vs (nu.map i1),.int .i64 s] (.tup [.vs ((db l nu (min s.toNat l.length)).1.map i1),.int .i64 0]):=by refine ag_ func262 ntmps262 results262 ?_;obtain⟨_,_,p,t⟩:=ky v;have e:0<l.length:=b2q.2 p;simp only[go_sem];refine Qq (yy l Af) [] ?_;rw[v];have E: ¬s<1:=Aa;have I: ¬9<s:=Aa;generalize M:min s.toNat l.length=m;have J:(if(l.length:Int)<s then(l.length:Int)else s)=(m:Int):=(by split<;>omega);have D: ¬(nu.length:Int)<(m:Int):=Aa;have L:m<=nu.length:=Aa;have d:(nu.take m).length=m:=Ak;simp only[go_sem,J,E,I,D];refine Qq (ae9 l e Aa) [] ?_;simp only[go_sem];refine⟨Aa,?_⟩;refine bm 10 99 3 1 false ?_ ?_ ?_ Aa;{refine lo_ 0 (λi:Nat=>[(9,.vs ((db l nu i).2.map i1)),(10,.os 99 (db l nu i).1.length),(37,.vs ((nu.take m).map i1)),(38,.int .i64 m),(39,.int .i64 i)]) (λi=>[(99,.arr 3 1 false ((db l nu i).1.map i1))]) (λi=>i<=m) (λi=>m - i) (b0k _) ?_ ?_;{simp only[go_sem,db,b0o,b0r];rw[d]};.intro i hi;obtain⟨C,K⟩:=wx (l:=l) y i Aa;by_cases h:i<m;{have hlt:(i:Int)<(m:Int):=Aa;have r:i<nu.length:=Aa;have c:i<(nu.take m).length:=Aa;have g:el (nu.take m) i=el nu i:=(by simp[el,bd,b04,h]);have h0:0<=el nu i:=y _ (i9 r);have G: ¬el nu i<0:=Aa;have a:(db l nu (i+1)).1=(db l nu i).1++[el (db l nu i).2 ((el nu i).tmod (db l nu i).2.length).toNat]:=rfl;have b:(db l nu (i+1)).2=(db l nu i).2.take ((el nu i).tmod (db l nu i).2.length).toNat++(db l nu i).2.drop (((el nu i).tmod (db l nu i).2.length).toNat+1):=rfl;have F:=ais (n:=(db l nu i).2.length) h0 Aa;generalize (db l nu i).1=o at*;generalize (db l nu i).2=f at*;obtain⟨k,w⟩: ∃k:Nat,(el nu i).tmod f.length=(k:Int):=⟨((el nu i).tmod f.length).toNat,Aa⟩;rw[w]at F a b;have B:=wq_ k;have j: ¬(f.length:Int)=0:=Aa;have q:k<f.length:=Aa;simp only[go_sem,hlt,c,g,G,w,j,B,q,b0n];rw[b19]at a b;have O:(List.take k f).length<=64:=Ak;have N:(List.drop (k+1) f).length<=64:=(by rw[b1b];omega);have u:o.length+1=(db l nu (i+1)).1.length:=D3;have z:List.map i1 o++[[PV.int IntKind.i64 (el f k)]]=List.map i1 (db l nu (i+1)).1:=(by rw[a];simp[i1]);refine⟨Aa,Aa,Aa,Aa,λh=>⟨ok_,i+1,Aa,⟨?_,u,Ab⟩,z⟩,λ_=>⟨ok_,i+1,Aa,⟨?_,u,Ab⟩,z⟩⟩;{rw[b,b0d,h,b00]};.rw[b,b0d]};.have hm2:i=m:=Aa;subst hm2;have H: ¬(i:Int)<(i:Int):=Aa;simp only[go_sem,H]};{simp only[go_sem]};.simp only[go_sem]
theorem awt(h:lk l=true):ff l []=l:=by obtain⟨a,b,_,_⟩:=ky h;refine a6b (ah5 _ _) a λx=> ?_;rw[vy];constructor;{exact λh=>h.2.1};.exact λh=>⟨b x h,h,Ad⟩
def ofG(r:Rl)(v:LB)(l:LI)(c:Cs):LI×Int:=
 if c9 r=0/\lk l=true/\gg c=true/\v.length≠32 then([],1)else ofR r v l c
theorem bf8(h:v.length=32):ofG r v l c=ofR r v l c:=if_neg λa=>a.2.2.2 h
theorem an3(v:LB)(a:LI)(n:Int)(hv:v.length≠32):DN 100 [.str v,.vs (a.map i1),.int .i64 n] (.tup [.vs [],.int .i64 1]):=by refine ag_ func100 ntmps100 results100 ?_;have b: ¬(v.length:Int)=32:=Aa;simp only[go_sem,b]
theorem aik(v:LB)(a:LI)(n:Int)(hv:v.length≠32):DN 261 [.str v,.vs (a.map i1),.int .i64 n] (.tup [.vs [],.int .i64 1]):=by refine ag_ func261 ntmps261 results261 ?_;have b: ¬(v.length:Int)=32:=Aa;simp only[go_sem,b]
theorem a1e(r:Rl)(v:LB)(l:LI)(c:Cs)(h0:big r.gen.length)(f:big r.pol.se.length)(g:big r.pol.ta.length)(k:big l.length):DN 49 [.agg (rl r),.str v,.vs (l.map i1),.agg (cs c)] (.tup [.vs ((ofG r v l c).1.map i1),.int .i64 (ofG r v l c).2]):=by by_cases e:v.length=32;{rw[bf8 e];exact bl2 r v l c h0 f g k λ_=>e};refine ag_ func49 ntmps49 results49 ?_;have b:ofG r v l c=if c9 r=0/\lk l=true/\gg c=true/\v.length≠32 then([],1)else ofR r v l c:=rfl;have a:=agq r v l c;generalize ofR r v l c=q at*;generalize ofG r v l c=m at*;have n:=nh r h0 f g;rw[fc]at n;simp only[go_sem];refine Qq n [] ?_;by_cases d:c9 r=0;rotate_left;{rw[if_pos d]at a;rw[if_neg (λh=>d h.1)]at b;subst b a;simp only[go_sem,d,b0o]};rw[if_neg Aq]at a;simp only[go_sem,d];refine Qq (aky l k) [] ?_;cases a2:lk l;{rw[if_pos a2]at a;rw[if_neg (λh=>by rw[a2]at h;cases h.2.1)]at b;subst b a;simp only[go_sem,b0o]};rw[if_neg D5]at a;have j:=ni c;rw[dh]at j;simp only[go_sem];refine Qq j [] ?_;cases a3:gg c;{rw[if_pos a3]at a;rw[if_neg (λh=>by rw[a3]at h;cases h.2.2.1)]at b;subst b a;simp only[go_sem,b0o]};rw[if_pos ⟨d,a2,a3,e⟩]at b;subst b;have p:=b0g a3;simp only[go_sem];refine lo_ 0 (λi:Nat=>[(1,.str v),(2,.vs (l.map i1)),(4,.ptr 4 0),(7,.ptr 7 0),(11,.vs []),(12,.int .i64 0)]) (λi=>[(4,.cells (rl r)),(7,.cells (cs c))]) (λi=>True) (λi=>0) trivial ?_ ?_;{simp only[go_sem,b0o]};.rintro i -;have o:(0:Int)<=c.ro:=Aa;simp only[go_sem,o];refine Qq (an3 v (ab0 c 0) 9 e) [] ?_;simp only[go_sem,b0o];rfl
theorem am0(r:Rl)(v:LB)(l:LI)(c:Cs)(j:Int)(b:lk l=true)(hs:1<=r.seats/\r.seats<=9)(hv:v.length=32):DN 186 [.agg (rl r),.str v,.vs (l.map i1),.agg (cs c),.int .i64 j] (.tup [.vs ((db l (yf v (ab0 c j) 9) (min r.seats.toNat l.length)).1.map i1),.int .i64 0]):=by refine ag_ func186 ntmps186 results186 ?_;have d:=nj v (ab0 c j) 9;have a:=ud v (ab0 c j) 9;simp only[go_sem];refine Qq (aku v (ab0 c j) 9 hv (by simp[ab0]) Aa) [] ?_;generalize yf v (ab0 c j) 9=N at*;simp only[go_sem];refine⟨rfl,Qq (a41 l N r.seats b hs.1 hs.2 Aa Af a) [] ?_⟩;simp only[go_sem]
theorem awu(r:Rl)(v:LB)(l:LI)(c:Cs)(j:Int)(hv:v.length≠32):DN 186 [.agg (rl r),.str v,.vs (l.map i1),.agg (cs c),.int .i64 j] (.tup [.vs [],.int .i64 1]):=by refine ag_ func186 ntmps186 results186 ?_;simp only[go_sem];refine Qq (aik v (ab0 c j) 9 hv) [] ?_;simp only[go_sem,b0o];rfl
theorem bk0(r:Rl)(v:LB)(l:LI)(c:Cs)(h0:big r.gen.length)(z:big r.pol.se.length)(B:big r.pol.ta.length)(w:big l.length):DN 139 [.agg (rl r),.str v,.vs (l.map i1),.agg (cs c)] (.tup [.vs ((ofG r v l c).1.map i1),.int .i64 (ofG r v l c).2]):=by refine ag_ func139 ntmps139 results139 ?_;have e:ofG r v l c=if c9 r=0/\lk l=true/\gg c=true/\v.length≠32 then([],1)else ofR r v l c:=rfl;have d:=agq r v l c;generalize ofR r v l c=q at*;generalize ofG r v l c=m at*;have y:=ahw r h0 z B;rw[fc]at y;simp only[go_sem];refine Qq y [] ?_;by_cases i:c9 r=0;rotate_left;{rw[if_pos i]at d;rw[if_neg (λh=>i h.1)]at e;subst e d;simp only[go_sem,i,b0o]};rw[if_neg (by simpa using i)]at d;have I:=(azg i).2.2;simp only[go_sem,i];refine Qq (yy l w) [] ?_;cases a2:lk l;{rw[if_pos a2]at d;rw[if_neg (λh=>by rw[a2]at h;cases h.2.1)]at e;subst e d;simp only[go_sem,b0o]};rw[if_neg D5]at d;have t:=ao9 c;rw[dh]at t;simp only[go_sem];refine Qq t [] ?_;cases a3:gg c;{rw[if_pos a3]at d;rw[if_neg (λh=>by rw[a3]at h;cases h.2.2.1)]at e;subst e d;simp only[go_sem,b0o]};rw[if_neg (by simp[a3])]at d;have H:=b0g a3;by_cases n:v.length=32;rotate_left;{rw[if_pos ⟨i,a2,a3,n⟩]at e;subst e;have ce:=awu r v l c 0 n;rw[fc,dh]at ce;simp only[go_sem];refine Qq ce [] ?_;simp only[go_sem,b0o]};rw[if_neg λh=>h.2.2.2 n]at e;have u:=am0 r v l c 0 a2 Aa n;have F:s5 r v l c 0 []=(db l (yf v (ab0 c 0) 9) (min r.seats.toNat l.length)).1:=(by unfold s5;rw[awt a2]);rw[<-F,fc,dh]at u;have E:=abb (r:=r) (v:=v) (l:=l) (c:=c) (j:=0) (prev:=[]);have G:=acp l [];have A:s5 r v l c 1 (s5 r v l c 0 [])=(db (ff l (s5 r v l c 0 [])) (yf v (ab0 c 1) 9) (min r.seats.toNat (ff l (s5 r v l c 0 [])).length)).1:=rfl;generalize s5 r v l c 0 []=a at*;simp only[go_sem];refine Qq u [] ?_;by_cases g:c.ro=0;{rw[if_pos g]at d;subst e d;simp only[go_sem,g]};rw[if_neg g]at d;have x:=awo l a w Af;have C:bj (λk=>decide (k∈l)&& !decide (k∈(a:LI))) 64=ff l a:=rfl;rw[C]at x;simp only[go_sem,g];refine Qq x [] ?_;by_cases f:ff l a=[];{rw[if_pos f]at d;subst e d;have s:((ff l a).length:Int)=0:=(by rw[f];rfl);simp only[go_sem,s,b0o]};rw[if_neg f]at d;have p:lk (ff l a)=true:=wz f;have D:0<(ff l a).length:=b2q.2 f;have s: ¬((ff l a).length:Int)=0:=Aa;have o:=am0 r v (ff l a) c 1 p Aa n;rw[<-A,fc,dh]at o;generalize s5 r v l c 1 a=b at*;generalize ff l a=W at*;subst e d;simp only[go_sem,s];refine Qq o [] ?_;simp only[go_sem]
end Go.Proofs.Am
