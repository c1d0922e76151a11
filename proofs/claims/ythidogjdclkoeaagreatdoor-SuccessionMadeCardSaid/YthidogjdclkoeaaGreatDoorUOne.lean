/- UOne. -/
import Derived.Test.YthidogjdclkoeaaGreatDoorCThree
import Derived.Test.YthidogjdclkoeaaGreatDoorMOne
set_option linter.unusedSimpArgs false
set_option linter.unusedVariables false
namespace Go.Proofs.Am
open Go Go.RowKit
open Go.Proofs
def gl(l:List Int)(k:Int):Bool:=(el l (k.toNat/32)).toNat.testBit (k.toNat % 32)
def js(l:List Int):Prop:=l.length=2/\0<=el l 0/\el l 0<4294967296/\0<=el l 1/\el l 1<4294967296/\¬(el l 0=0/\el l 1=0)
instance (l:List Int):Decidable (js l):=by unfold js;infer_instance
def ut(l:List Int):List Int×Int:=if js l then(bm (gl l) 64,0)else([],43)
theorem gw{l:List Int}(h:js l):ut l=(bm (gl l) 64,0):=if_pos h
theorem fk{l:List Int}(h: ¬js l):ut l=([],43):=if_neg h
theorem ax6{n:Nat}(h0:n≠0)(h:n<4294967296): ∃i,i<32/\n.testBit i=true:=by
 obtain⟨i,hi⟩:=Nat.exists_testBit_of_ne_zero h0;refine⟨i,?_,hi⟩;rcases Nat.lt_or_ge i 32 with h1|h1
 ·exact h1
 ·have h2:n<2^i:=Nat.lt_of_lt_of_le h (by
   have:(4294967296:Nat)=2^32:=by rfl
   rw[this];exact Nat.pow_le_pow_right (by omega) h1)
  rw[Nat.testBit_lt_two_pow h2]at hi
  cases hi
theorem awr{l:List Int}{j i:Nat}(hj:j<2)(hi:i<32)(h:(el l j).toNat.testBit i=true):((32*j+i:Nat):Int)∈bm (gl l) 64:=by
 refine qu.2 ⟨⟨by omega,by omega⟩,?_⟩;unfold gl;rw[Int.toNat_natCast];have e1:(32*j+i)/32=j:=by omega
 have e2:(32*j+i) % 32=i:=by omega
 rw[e1,e2];exact h
theorem aqc{l:List Int}(h:js l):j8 (bm (gl l) 64)=true:=by
 obtain⟨_,h1,h2,h3,h4,h5⟩:=h
 have key: ∀j,j<2->el l j≠0->0<=el l j->el l j<4294967296->bm (gl l) 64≠[]:=fun j hj h0 ha hb e=>by
  obtain⟨i,hi,ht⟩:=ax6 (n:=(el l j).toNat) (by omega) (by omega);have:=awr hj hi ht;rw[e]at this
  cases this
 refine pj ?_;by_cases h0:el l 0=0
 ·exact key 1 (by omega) (fun h=>h5 ⟨h0,h⟩) h3 h4
 ·exact key 0 (by omega) h0 h1 h2
theorem axm{l:List Int}(h:(ut l).2=0):js l/\ut l=(bm (gl l) 64,0)/\j8 (ut l).1=true:=by
 by_cases hd:js l
 ·rw[gw hd];exact⟨hd,rfl,aqc hd⟩
 ·rw[fk hd]at h
  cases h
def smallN(l:List Int):Prop:=l.length=2/\1<=el l 0/\el l 0<=127/\0<=el l 1/\el l 1<=1
theorem smallN.ok{l:List Int}(h:smallN l):js l:=⟨h.1,by have:=h.2;omega,by have:=h.2;omega,by have:=h.2;omega,by have:=h.2;omega,by have:=h.2;omega⟩
theorem a5j{n i k:Nat}(h:n<2^k)(hi:n.testBit i=true):i<k:=by
 rcases Nat.lt_or_ge i k with h1|h1
 ·exact h1
 ·rw[Nat.testBit_lt_two_pow (Nat.lt_of_lt_of_le h (Nat.pow_le_pow_right (by omega) h1))]at hi
  cases hi
theorem smallN.keys{l:List Int}(h:smallN l): ∀k∈bm (gl l) 64,0<=k/\k<=32:=fun k hk=>by
 obtain⟨⟨h0,h1⟩,h2⟩:=qu.1 hk;obtain⟨n,rfl⟩: ∃n:Nat,k=n:=⟨k.toNat,by omega⟩;unfold gl at h2;rw[Int.toNat_natCast]at h2;refine⟨h0,?_⟩;obtain⟨_,_,_,h5,h6⟩:=h;have hd:n/32=0\/n/32=1:=by omega
 rcases hd with hd|hd
 ·omega
 ·rw[hd]at h2;have:=a5j (k:=1) (by omega) h2;omega
theorem oa(l:List Int)(p:Nat){c:Cs}(hc:c.kd=1):smallN (aq l p c).1.li:=by
 have b2:=bh (l:=l) (p:=p) (n:=127) (by omega);have b3:=bh (l:=l) (p:=dgo l p 1) (n:=3) (by omega)
 have e3:0<=el ([0,0,1]:List Int) (aj l (dgo l p 1) 3).toNat/\el ([0,0,1]:List Int) (aj l (dgo l p 1) 3).toNat<=1:=by
  have:(aj l (dgo l p 1) 3).toNat=0\/(aj l (dgo l p 1) 3).toNat=1\/(aj l (dgo l p 1) 3).toNat=2:=by omega
  rcases this with h|h|h<;>rw[h]<;>decide
 have fin:smallN [1+aj l p 127,el ([0,0,1]:List Int) (aj l (dgo l p 1) 3).toNat]:=by
  refine⟨rfl,?_,?_,e3.1,e3.2⟩
  ·show 1<=1+aj l p 127;omega
  ·show 1+aj l p 127<=127;omega
 unfold aq;rw[if_neg (by simp[hc])];split
 ·exact fin
 ·exact fin
def j3(v:List UInt8)(ep:Int)(l:List Int):List UInt8:=sha ((v++be8 ep)++lsB l)
theorem adh(v:List UInt8)(ep:Int)(l:List Int):(j3 v ep l).length=32:=rd _
def b9(ep:Int):Cs:=⟨ep,1,0,0⟩
theorem pg{ep:Int}(h0:0<=ep)(h1:ep<40):fq (b9 ep)=true:=om ⟨h0,h1,by simp[b9],by simp[b9],by simp[b9],by simp[b9],.inl ⟨rfl,rfl,rfl⟩⟩
structure OkT(t:Tm):Prop where
 lo:0<=t.ep
 hi:t.ep<40
 ros:j8 t.ros=true
 bea:t.bea.length=32
theorem OkT.len{t:Tm}(h:OkT t):t.ros.length<=64:=(kz h.ros).2.2.2
theorem a23{r:Rl}{v:List UInt8}{l:List Int}{c d:Cs}{j:Int}{prev:List Int}(hr:da r=0)(hne:dx l prev≠[])(hd:fq d=true):ckS d (nq r v l c j prev)=0:=by
 have h1:=(ag9 hr).2.2;have hl:=qf (r:=r) (v:=v) (l:=l) (c:=c) (j:=j) (prev:=prev);have hw:0<(dx l prev).length:=List.length_pos_iff.2 hne;rw[pv,if_neg (by simp[hd]),if_pos];refine jf.2 ⟨fun e=> ?_,fun k hk=> ?_,aow,by omega⟩
 ·rw[e]at hl;simp only[List.length_nil]at hl;omega
 ·exact ig.2 (by have:=(qa.1 (akv hk)).1;omega)
theorem a2n{r:Rl}{t:Tm}{c:Cs}(hr:da r=0)(ht:OkT t)(hc:fq c=true)(he:c.ep=t.ep)(h0:c.ro=0):ny r t c=(nq r t.bea t.ros c 0 [],0):=by
 unfold ny;rw[if_neg (by simp[he]),yp,if_neg (by simp[hr]),if_neg (by simp[ht.ros]),if_neg (by simp[hc]),if_pos h0]
def stS(r:Rl)(t:Tm):List Int:=nq r t.bea t.ros (b9 t.ep) 0 []
def stA(r:Rl)(L:List Stm)(t:Tm):List Ct:=acs (stS r t) (d5 L (b9 t.ep))
theorem aqv{r:Rl}{t:Tm}(hr:da r=0)(ht:OkT t):ny r t (b9 t.ep)=(stS r t,0):=a2n hr ht (pg ht.lo ht.hi) rfl rfl
theorem a5n{r:Rl}{t:Tm}(hr:da r=0)(ht:OkT t):ckS (b9 t.ep) (stS r t)=0:=a23 hr (adr ht.ros) (pg ht.lo ht.hi)
def aa0(L:List Stm)(c:Cs)(seats:List Int):List Ct:=if ckS c seats=0 then acs seats (d5 L c)else []
def a71(r:Rl)(L:List Stm)(t:Tm)(c:Cs):Ct×Bool×Int:=
 if(ny r t c).2≠0 then(noC,false,(ny r t c).2)else(yh (aa0 L c (ny r t c).1),decide ((aa0 L c (ny r t c).1).length=1),ckS c (ny r t c).1)
theorem a17{r:Rl}{L:List Stm}{t:Tm}(hr:da r=0)(ht:OkT t):a71 r L t (b9 t.ep)=(yh (stA r L t),decide ((stA r L t).length=1),0):=by
 unfold a71 aa0;rw[aqv hr ht];simp only[ne_eq,not_true_eq_false,if_false,a5n hr ht,if_true];rfl
def bd(r:Rl)(L:List Stm)(t:Tm):Tm:={t with dec:=decide ((stA r L t).length=1),nx:=yh (stA r L t)}
theorem qp{r:Rl}{L:List Stm}{t:Tm}(h:OkT t):OkT (bd r L t):=⟨h.lo,h.hi,h.ros,h.bea⟩
theorem a48(r:Rl)(L M:List Stm)(t:Tm):bd r L (bd r M t)=bd r L t:=rfl
theorem a73(r:Rl)(L M:List Stm)(t:Tm):stA r L (bd r M t)=stA r L t:=rfl
theorem a7t(r:Rl)(M:List Stm)(t:Tm):stS r (bd r M t)=stS r t:=rfl
def iu(t:Tm):Option Tm:=if t.dec=true/\(ut t.nx.li).2=0 then some ⟨t.ep+1,(ut t.nx.li).1,j3 t.bea t.ep t.nx.li,false,noC⟩else none
theorem ot{t u:Tm}(h:iu t=some u):t.dec=true/\(ut t.nx.li).2=0/\u=⟨t.ep+1,(ut t.nx.li).1,j3 t.bea t.ep t.nx.li,false,noC⟩:=by
 unfold iu at h;split at h
 ·rename_i h1;exact⟨h1.1,h1.2,(Option.some.inj h).symm⟩
 ·cases h
theorem xl{t u:Tm}(ht:OkT t)(h:iu t=some u)(he:t.ep<39):OkT u:=by
 obtain⟨_,h2,rfl⟩:=ot h;exact⟨by have:=ht.lo;show 0<=t.ep+1;omega,by show t.ep+1<40;omega,(axm h2).2.2,adh _ _ _⟩
def cz(r:Rl)(L:List Stm):Nat->Tm->List Tm
 |0,_=>[]
 |n+1,t=>bd r L t::(match iu (bd r L t)with|none=>[]|some u=>cz r L n u)
def dc(r:Rl)(L:List Stm):List Tm:=cz r L 40 (mb r)
theorem uk{r:Rl}(hr:da r=0):OkT (mb r):=⟨Int.le_refl _,by show(0:Int)<40;omega,(ag9 hr).1,rd _⟩
theorem yw(r:Rl)(L:List Stm): ∀n t,(cz r L n t).length<=n
 |0,_=>Nat.le_refl _
 |n+1,t=>by
  simp only[cz,List.length_cons];split
  ·simp
  ·have:=yw r L n;rename_i u _;have:=this u;omega
theorem aoj(r:Rl)(L:List Stm)(n:Nat)(t:Tm):0<(cz r L (n+1) t).length:=by simp[cz]
theorem apn{α:Type} [Inhabited α](a:α)(l:List α):el (a::l) 0=a:=rfl
theorem aux{α:Type} [Inhabited α](a:α)(l:List α)(i:Nat):el (a::l) (i+1)=el l i:=rfl
theorem xq(r:Rl)(L:List Stm): ∀(n:Nat) t,OkT t->t.ep+n=40->∀i,i<(cz r L n t).length->
  OkT (el (cz r L n t) i)/\(el (cz r L n t) i).ep=t.ep+i/\bd r L (el (cz r L n t) i)=el (cz r L n t) i/\
  (i+1<(cz r L n t).length->∃w,iu (el (cz r L n t) i)=some w/\el (cz r L n t) (i+1)=bd r L w)
 |0,_,_,_,i,hi=>by simp[cz]at hi
 |n+1,t,ht,hn,i,hi=>by
  simp only[cz]at hi ⊢
  cases ha:iu (bd r L t)with
  |none=>
   rw[ha]at hi;simp only[List.length_singleton]at hi;obtain rfl:i=0:=by omega
   simp only[apn,List.length_singleton]
   exact⟨qp ht,by show t.ep=t.ep+0;omega,rfl,fun h=>by omega⟩
  |some u=>
   rw[ha]at hi;simp only[List.length_cons]at hi ⊢;have hu:u.ep=t.ep+1:=by rw[(ot ha).2.2];rfl
   cases i with
   |zero=>
    simp only[apn,aux];refine⟨qp ht,by show t.ep=t.ep+0;omega,rfl,fun h=>⟨u,ha,?_⟩⟩
    cases n with
    |zero=>simp[cz]at h
    |succ n=>rfl
   |succ i=>
    simp only[aux];have hi':i<(cz r L n u).length:=by omega
    have h0:0<n:=by
     cases n with
     |zero=>simp[cz]at hi'
     |succ n=>omega
    have ih:=xq r L n u (xl (qp ht) ha (by show t.ep<39;omega)) (by omega) i hi';refine⟨ih.1,by rw[ih.2.1,hu];omega,ih.2.2.1,fun h=>ih.2.2.2 (by omega)⟩
theorem ail{r:Rl}(hr:da r=0)(L:List Stm){i:Nat}(hi:i<(dc r L).length):
  OkT (el (dc r L) i)/\(el (dc r L) i).ep=i/\bd r L (el (dc r L) i)=el (dc r L) i/\
  (i+1<(dc r L).length->∃w,iu (el (dc r L) i)=some w/\el (dc r L) (i+1)=bd r L w):=by
 have:=xq r L 40 (mb r) (uk hr) rfl i hi;refine⟨this.1,this.2.1.trans ?_,this.2.2⟩;show(0:Int)+i=i;omega
theorem az3(r:Rl)(L:List Stm):el (dc r L) 0=bd r L (mb r):=rfl
theorem ank(r:Rl)(L:List Stm):0<(dc r L).length:=aoj r L 39 _
theorem zg(r:Rl)(L:List Stm):(dc r L).length<=40:=yw r L 40 _
theorem aez{r:Rl}{L:List Stm}(hr:da r=0){u:Tm}(h:u∈dc r L):OkT u/\u.ep<40/\bd r L u=u:=by
 obtain⟨i,hi,rfl⟩:=aq9 h;have:=ail hr L hi;exact⟨this.1,this.1.hi,this.2.2.1⟩
structure ChS where
 p:Nat
 L:List Stm
 ros:List Int
 v:List UInt8
deriving Inhabited
def chS(r:Rl)(ep:Int)(s:ChS):List Int:=nq r s.v s.ros (b9 ep) 0 []
def nw(l:List Int)(ep:Int)(x y:Ct)(k:Int)(st:Nat×List Stm):Nat×List Stm:=
 (dgo l st.1 1,st.2++(if aj l st.1 14=0 then []else if aj l st.1 14=1 then [vt k ep (b9 ep) y]else if aj l st.1 14=2 then [vt k ep (b9 ep) x,vt k (ep+9) (b9 ep) y]else [vt k ep (b9 ep) x]))
def adu(l:List Int)(ep:Int)(x y:Ct)(seats:List Int)(st:Nat×List Stm):Nat->Nat×List Stm
 |0=>st
 |i+1=>nw l ep x y (el seats i) (adu l ep x y seats st i)
def chX(l:List Int)(ep:Int)(s:ChS):Ct×Nat:=aq l (dgo l s.p 1) (b9 ep)
def chY(l:List Int)(ep:Int)(s:ChS):Ct×Nat:=aq l (chX l ep s).2 (b9 ep)
def aqu(l:List Int)(r:Rl)(ep:Int)(s:ChS):ChS:=
 ⟨(adu l ep (chX l ep s).1 (chY l ep s).1 (chS r ep s) ((chY l ep s).2,s.L) (chS r ep s).length).1,
  (adu l ep (chX l ep s).1 (chY l ep s).1 (chS r ep s) ((chY l ep s).2,s.L) (chS r ep s).length).2,
  (ut (chX l ep s).1.li).1,j3 s.v ep (chX l ep s).1.li⟩
def ae4(l:List Int)(r:Rl):Nat->Nat->ChS->ChS
 |0,_,s=>s
 |n+1,ep,s=>if(ep:Int)<aj l s.p 4 then ae4 l r n (ep+1) (aqu l r ep s)else {s with p:=dgo l s.p 1}
def zd(l:List Int)(p:Nat):ChS:=⟨dgo l p 8,[],(fy l p).gen,zo (fy l p)⟩
def tt(l:List Int)(p:Nat):ChS:=ae4 l (fy l p) 4 0 (zd l p)
def ChV(t:Stm):Prop:= ∃k nu e x,t=vt k nu (b9 e) x/\(0<=k/\k<=63)/\(0<=nu/\nu<=199)/\(0<=e/\e<40)/\pa x/\et (b9 e) x=true/\smallN x.li
theorem ChV.ok{t:Stm}(h:ChV t):okS t:=by
 obtain⟨k,nu,e,x,rfl,_,_,_,hx,_⟩:=h;exact sj _ _ _ hx
structure ChI(l:List Int)(ep:Nat)(s:ChS):Prop where
 p:s.p<=l.length
 ros:j8 s.ros=true
 low: ∀k∈s.ros,0<=k/\k<=32
 v:s.v.length=32
 len:s.L.length<=18*ep
 ok: ∀t∈s.L,ChV t
theorem al0(l:List Int)(p:Nat): ∀k∈(fy l p).gen,0<=k/\k<=32:=by
 have hsub: ∀(m:Nat),∀k∈([0,1,2,3,4,5,6]:List Int).take m,0<=k/\k<=32:=fun m k hk=>by
  have:=List.mem_of_mem_take hk;simp at this;omega
 unfold fy ej
 first
 |exact hsub _
 |(split<;>exact hsub _)
theorem ati{r:Rl}(hr:da r=0)(ep:Int)(s:ChS):(chS r ep s).length<=9:=by
 have h1:=(ag9 hr).2.2;have:=qf (r:=r) (v:=s.v) (l:=s.ros) (c:=b9 ep) (j:=0) (prev:=[]);unfold chS;omega
theorem a0g{r:Rl}{ep:Int}{s:ChS}{k:Int}(h:k∈chS r ep s):k∈s.ros/\0<=k/\k<64:=by
 have:=qa.1 (akv h);exact⟨this.2.1,this.1.1,this.1.2⟩
theorem asw{l:List Int}{ep:Int}{x y:Ct}{k:Int}{st:Nat×List Stm}(h1:st.1<=l.length)(h2: ∀t∈st.2,ChV t)(hk:0<=k/\k<=63)(he:0<=ep/\ep<40)(hx:pa x)(hy:pa y)(rx:et (b9 ep) x=true)(ry:et (b9 ep) y=true)(sx:smallN x.li)(sy:smallN y.li):
  (nw l ep x y k st).1<=l.length/\(∀t∈(nw l ep x y k st).2,ChV t)/\(nw l ep x y k st).2.length<=st.2.length+2:=by
 have vx: ∀nu,0<=nu/\nu<=199->ChV (vt k nu (b9 ep) x):=fun nu hn=>⟨k,nu,ep,x,rfl,hk,hn,he,hx,rx,sx⟩;have vy: ∀nu,0<=nu/\nu<=199->ChV (vt k nu (b9 ep) y):=fun nu hn=>⟨k,nu,ep,y,rfl,hk,hn,he,hy,ry,sy⟩;refine⟨cy h1 1,fun t ht=> ?_,?_⟩
 ·rcases List.mem_append.1 ht with h|h
  ·exact h2 t h
  ·split at h
   ·simp at h
   split at h
   ·rw[List.mem_singleton]at h;subst h;exact vy _ (by omega)
   split at h
   ·rcases List.mem_cons.1 h with rfl|h
    ·exact vx _ (by omega)
    ·rw[List.mem_singleton]at h;subst h;exact vy _ (by omega)
   ·rw[List.mem_singleton]at h;subst h;exact vx _ (by omega)
 ·simp only[nw,List.length_append]
  (repeat' split)<;>simp
theorem ar0{l:List Int}{ep:Int}{x y:Ct}{seats:List Int}{st:Nat×List Stm}(h1:st.1<=l.length)(h2: ∀t∈st.2,ChV t)(hk: ∀k∈seats,0<=k/\k<=63)(he:0<=ep/\ep<40)(hx:pa x)(hy:pa y)(rx:et (b9 ep) x=true)(ry:et (b9 ep) y=true)(sx:smallN x.li)(sy:smallN y.li):
  ∀i,i<=seats.length->(adu l ep x y seats st i).1<=l.length/\(∀t∈(adu l ep x y seats st i).2,ChV t)/\(adu l ep x y seats st i).2.length<=st.2.length+2*i
 |0,_=>⟨h1,h2,Nat.le_refl _⟩
 |i+1,hi=>by
  obtain⟨a1,a2,a3⟩:=ar0 h1 h2 hk he hx hy rx ry sx sy i (by omega);obtain⟨b1,b2,b3⟩:=asw (l:=l) (ep:=ep) (x:=x) (y:=y) (k:=el seats i) a1 a2 (hk _ (bz (by omega))) he hx hy rx ry sx sy;exact⟨b1,b2,by simp only[adu];omega⟩
theorem aes{l:List Int}{r:Rl}{ep:Nat}{s:ChS}(hr:da r=0)(he:ep<40)(h:ChI l ep s):ChI l (ep+1) (aqu l r ep s):=by
 have hc:fq (b9 (ep:Int))=true:=pg (by omega) (by omega);have x1:=iz l (dgo l s.p 1) (b9 (ep:Int));have x2:=wy l (dgo l s.p 1) hc;have x3:=oa l (dgo l s.p 1) (c:=b9 (ep:Int)) rfl;have x4:=g9 (cy h.p 1) (b9 (ep:Int));have y1:=iz l (chX l ep s).2 (b9 (ep:Int));have y2:=wy l (chX l ep s).2 hc;have y3:=oa l (chX l ep s).2 (c:=b9 (ep:Int)) rfl;have y4:=g9 (l:=l) (p:=(chX l ep s).2) x4 (b9 (ep:Int));have hl:=ati hr (ep:Int) s;have g:=ar0 (l:=l) (ep:=ep) (x:=(chX l ep s).1) (y:=(chY l ep s).1) (seats:=chS r ep s) (st:=((chY l ep s).2,s.L)) y4 h.ok (fun k hk=>by have:=a0g hk;omega) (by omega) x1 y1 x2 y2 x3 y3 _ (Nat.le_refl _);have hd:=gw (smallN.ok x3);refine⟨g.1,?_,?_,adh _ _ _,by have:=g.2.2;have:=h.len;show(adu l ep (chX l ep s).1 (chY l ep s).1 (chS r ep s) ((chY l ep s).2,s.L) (chS r ep s).length).2.length<=_;simp only at*;omega,g.2.1⟩
 ·show j8 (ut (chX l ep s).1.li).1=true;unfold chX;rw[hd];exact aqc (smallN.ok x3)
 ·show∀k∈(ut (chX l ep s).1.li).1,_;unfold chX;rw[hd];exact smallN.keys x3
theorem ChI.mono{l:List Int}{ep ep':Nat}{s:ChS}(h:ChI l ep s)(he:ep<=ep'):ChI l ep' s:=⟨h.p,h.ros,h.low,h.v,by have:=h.len;omega,h.ok⟩
theorem ajw{l:List Int}{r:Rl}(hr:da r=0): ∀n ep s,ep+n<=40->ChI l ep s->ChI l (ep+n) (ae4 l r n ep s)
 |0,_,_,_,h=>h
 |n+1,ep,s,he,h=>by
  unfold ae4;split
  ·have:=ajw hr n (ep+1) _ (by omega) (aes hr (by omega) h)
   rwa [show ep+(n+1)=ep+1+n by omega]
  ·exact⟨cy h.p 1,h.ros,h.low,h.v,by have:=h.len;show s.L.length<=_;omega,h.ok⟩
theorem af3{l:List Int}{p:Nat}(hp:p<=l.length):ChI l 0 (zd l p):=
 ⟨cy hp 8,(ag9 (mt l p)).1,al0 l p,rd _,Nat.le_refl _,fun t ht=>by simp[zd]at ht⟩
theorem aq5{l:List Int}{p:Nat}(hp:p<=l.length):ChI l 4 (tt l p):=ajw (mt l p) 4 0 _ (by omega) (af3 hp)
structure EndP(c:Cs)(seats:List Int):Prop where
 c:fq c=true
 nd:seats.Nodup
 n0:1<=seats.length
 n9:seats.length<=9
 k: ∀k∈seats,0<=k/\k<=63
theorem EndP.of{c:Cs}{seats:List Int}(h:ckS c seats=0):EndP c seats:=by
 obtain⟨h1,h2,h3,h4⟩:=ax2 h
 have h5:j5 seats=true:=by
  rw[pv,if_neg (by simp[h1])]at h;split at h
  ·assumption
  ·cases h
 have h6:=(jf.1 h5).1;exact⟨h1,h3,List.length_pos_iff.2 h6,h2,fun k hk=>by have:=h4 k hk;omega⟩
theorem aov{r:Rl}{L:List Stm}(h:(stA r L (mb r)).length≠1):dc r L=[bd r L (mb r)]/\(bd r L (mb r)).dec=false:=by
 have hd:(bd r L (mb r)).dec=false:=decide_eq_false h;refine⟨?_,hd⟩;show cz r L (39+1) (mb r)=_;simp only[cz];unfold iu;rw[if_neg (by simp[hd])]
end Go.Proofs.Am
