/- UOne. -/
import Derived.Test.YtloaichcpoboeaaGreatDoorCThree
import Derived.Test.YtloaichcpoboeaaGreatDoorMOne
set_option linter.unusedSimpArgs false
set_option linter.unusedVariables false
namespace Go.Proofs.Am
open Go Go.RowKit
open Go.Proofs
def z8(l:List Int)(k:Int):Bool:=(el l (k.toNat/32)).toNat.testBit (k.toNat % 32)
def qz(l:List Int):Prop:=l.length=2∧0≤el l 0∧el l 0<4294967296∧0≤el l 1∧el l 1<4294967296∧¬(el l 0=0∧el l 1=0)
instance (l:List Int):Decidable (qz l):=by unfold qz;infer_instance
def agt(l:List Int):List Int×Int:=if qz l then(cj (z8 l) 64,0)else([],43)
theorem abi{l:List Int}(h:qz l):agt l=(cj (z8 l) 64,0):=if_pos h
theorem wg{l:List Int}(h: ¬qz l):agt l=([],43):=if_neg h
theorem a2l{n:Nat}(h0:n≠0)(h:n<4294967296): ∃i,i<32∧n.testBit i=true:=by
 obtain⟨i,hi⟩:=Nat.exists_testBit_of_ne_zero h0
 refine⟨i,?_,hi⟩
 rcases Nat.lt_or_ge i 32 with h1|h1
 ·exact h1
 ·have h2:n<2^i:=Nat.lt_of_lt_of_le h (by
   have:(4294967296:Nat)=2^32:=by rfl
   rw[this]
   exact Nat.pow_le_pow_right (by omega) h1)
  rw[Nat.testBit_lt_two_pow h2]at hi
  cases hi
theorem ayf{l:List Int}{j i:Nat}(hj:j<2)(hi:i<32)(h:(el l j).toNat.testBit i=true):((32*j+i:Nat):Int)∈cj (z8 l) 64:=by
 refine lz.2 ⟨⟨by omega,by omega⟩,?_⟩
 unfold z8
 rw[Int.toNat_natCast]
 have e1:(32*j+i)/32=j:=by omega
 have e2:(32*j+i) % 32=i:=by omega
 rw[e1,e2]
 exact h
theorem a6d{l:List Int}(h:qz l):tl (cj (z8 l) 64)=true:=by
 obtain⟨_,h1,h2,h3,h4,h5⟩:=h
 have key: ∀j,j<2→el l j≠0→0≤el l j→el l j<4294967296→cj (z8 l) 64≠[]:=fun j hj h0 ha hb e=>by
  obtain⟨i,hi,ht⟩:=a2l (n:=(el l j).toNat) (by omega) (by omega)
  have:=ayf hj hi ht
  rw[e]at this
  cases this
 refine aet ?_
 by_cases h0:el l 0=0
 ·exact key 1 (by omega) (fun h=>h5 ⟨h0,h⟩) h3 h4
 ·exact key 0 (by omega) h0 h1 h2
theorem azh{l:List Int}(h:(agt l).2=0):qz l∧agt l=(cj (z8 l) 64,0)∧tl (agt l).1=true:=by
 by_cases hd:qz l
 ·rw[abi hd]
  exact⟨hd,rfl,a6d hd⟩
 ·rw[wg hd]at h
  cases h
def smallN(l:List Int):Prop:=l.length=2∧1≤el l 0∧el l 0≤127∧0≤el l 1∧el l 1≤1
theorem smallN.ok{l:List Int}(h:smallN l):qz l:=⟨h.1,by have:=h.2;omega,by have:=h.2;omega,by have:=h.2;omega,by have:=h.2;omega,by have:=h.2;omega⟩
def age(v:List UInt8)(ep:Int)(l:List Int):List UInt8:=sha ((v++be8 ep)++lsB l)
theorem auf(v:List UInt8)(ep:Int)(l:List Int):(age v ep l).length=32:=ail _
def s5(ep:Int):Cs:=⟨ep,1,0,0⟩
theorem amu{ep:Int}(h0:0≤ep)(h1:ep<40):kn (s5 ep)=true:=aar ⟨h0,h1,by simp[s5],by simp[s5],by simp[s5],by simp[s5],.inl ⟨rfl,rfl,rfl⟩⟩
structure OkT(t:Tm):Prop where
 lo:0≤t.ep
 hi:t.ep<40
 ros:tl t.ros=true
 bea:t.bea.length=32
theorem OkT.len{t:Tm}(h:OkT t):t.ros.length≤64:=(p9 h.ros).2.2.2
theorem a6g{r:Rl}{v:List UInt8}{l:List Int}{c d:Cs}{j:Int}{prev:List Int}(hr:fj r=0)(hne:ic l prev≠[])(hd:kn d=true):ckS d (xc r v l c j prev)=0:=by
 have h1:=(azk hr).2.2
 have hl:=aa7 (r:=r) (v:=v) (l:=l) (c:=c) (j:=j) (prev:=prev)
 have hw:0<(ic l prev).length:=List.length_pos_iff.2 hne
 rw[o9,if_neg (by simp[hd]),if_pos]
 refine jf.2 ⟨fun e=> ?_,fun k hk=> ?_,ans,by omega⟩
 ·rw[e]at hl
  simp only[List.length_nil]at hl
  omega
 ·exact ga.2 (by have:=(vz.1 (ayt hk)).1;omega)
theorem a5v{r:Rl}{t:Tm}{c:Cs}(hr:fj r=0)(ht:OkT t)(hc:kn c=true)(he:c.ep=t.ep)(h0:c.ro=0):nc r t c=(xc r t.bea t.ros c 0 [],0):=by
 unfold nc
 rw[if_neg (by simp[he]),av1,if_neg (by simp[hr]),if_neg (by simp[ht.ros]),if_neg (by simp[hc]),if_pos h0]
def stS(r:Rl)(t:Tm):List Int:=xc r t.bea t.ros (s5 t.ep) 0 []
def stA(r:Rl)(L:List Stm)(t:Tm):List Ct:=ahj (stS r t) (ay L (s5 t.ep))
theorem arc{r:Rl}{t:Tm}(hr:fj r=0)(ht:OkT t):nc r t (s5 t.ep)=(stS r t,0):=a5v hr ht (amu ht.lo ht.hi) rfl rfl
theorem bae{r:Rl}{t:Tm}(hr:fj r=0)(ht:OkT t):ckS (s5 t.ep) (stS r t)=0:=a6g hr (at6 ht.ros) (amu ht.lo ht.hi)
def ak3(L:List Stm)(c:Cs)(seats:List Int):List Ct:=if ckS c seats=0 then ahj seats (ay L c)else []
def bca(r:Rl)(L:List Stm)(t:Tm)(c:Cs):Ct×Bool×Int:=
 if(nc r t c).2≠0 then(noC,false,(nc r t c).2)else(anm (ak3 L c (nc r t c).1),decide ((ak3 L c (nc r t c).1).length=1),ckS c (nc r t c).1)
theorem a7k{r:Rl}{L:List Stm}{t:Tm}(hr:fj r=0)(ht:OkT t):bca r L t (s5 t.ep)=(anm (stA r L t),decide ((stA r L t).length=1),0):=by
 unfold bca ak3
 rw[arc hr ht]
 simp only[ne_eq,not_true_eq_false,if_false,bae hr ht,if_true]
 rfl
def dx(r:Rl)(L:List Stm)(t:Tm):Tm:={t with dec:=decide ((stA r L t).length=1),nx:=anm (stA r L t)}
theorem a16{r:Rl}{L:List Stm}{t:Tm}(h:OkT t):OkT (dx r L t):=⟨h.lo,h.hi,h.ros,h.bea⟩
theorem ba4(r:Rl)(L M:List Stm)(t:Tm):dx r L (dx r M t)=dx r L t:=rfl
theorem bcc(r:Rl)(L M:List Stm)(t:Tm):stA r L (dx r M t)=stA r L t:=rfl
theorem bb4(r:Rl)(M:List Stm)(t:Tm):stS r (dx r M t)=stS r t:=rfl
def nj(t:Tm):Option Tm:=if t.dec=true∧(agt t.nx.li).2=0 then some ⟨t.ep+1,(agt t.nx.li).1,age t.bea t.ep t.nx.li,false,noC⟩else none
theorem oc{t u:Tm}(h:nj t=some u):t.dec=true∧(agt t.nx.li).2=0∧u=⟨t.ep+1,(agt t.nx.li).1,age t.bea t.ep t.nx.li,false,noC⟩:=by
 unfold nj at h
 split at h
 ·rename_i h1
  exact⟨h1.1,h1.2,(Option.some.inj h).symm⟩
 ·cases h
theorem awr{t u:Tm}(ht:OkT t)(h:nj t=some u)(he:t.ep<39):OkT u:=by
 obtain⟨_,h2,rfl⟩:=oc h
 exact⟨by have:=ht.lo;show 0≤t.ep+1;omega,by show t.ep+1<40;omega,(azh h2).2.2,auf _ _ _⟩
def ng(r:Rl)(L:List Stm):Nat→Tm→List Tm
 |0,_=>[]
 |n+1,t=>dx r L t::(match nj (dx r L t)with|none=>[]|some u=>ng r L n u)
def v8(r:Rl)(L:List Stm):List Tm:=ng r L 40 (xa r)
theorem amg{r:Rl}(hr:fj r=0):OkT (xa r):=⟨Int.le_refl _,by show(0:Int)<40;omega,(azk hr).1,ail _⟩
theorem bdf{α:Type} [Inhabited α](a:α)(l:List α):el (a::l) 0=a:=rfl
theorem bdw{α:Type} [Inhabited α](a:α)(l:List α)(i:Nat):el (a::l) (i+1)=el l i:=rfl
theorem a38(r:Rl)(L:List Stm):el (v8 r L) 0=dx r L (xa r):=rfl
structure ChS where
 p:Nat
 L:List Stm
 ros:List Int
 v:List UInt8
deriving Inhabited
def ChV(t:Stm):Prop:= ∃k nu e x,t=vt k nu (s5 e) x∧(0≤k∧k≤63)∧(0≤nu∧nu≤199)∧(0≤e∧e<40)∧afo x∧nf (s5 e) x=true∧smallN x.li
theorem ChV.ok{t:Stm}(h:ChV t):okS t:=by
 obtain⟨k,nu,e,x,rfl,_,_,_,hx,_⟩:=h
 exact bbr _ _ _ hx
structure ChI(l:List Int)(ep:Nat)(s:ChS):Prop where
 p:s.p≤l.length
 ros:tl s.ros=true
 low: ∀k∈s.ros,0≤k∧k≤32
 v:s.v.length=32
 len:s.L.length≤18*ep
 ok: ∀t∈s.L,ChV t
theorem ChI.mono{l:List Int}{ep ep':Nat}{s:ChS}(h:ChI l ep s)(he:ep≤ep'):ChI l ep' s:=⟨h.p,h.ros,h.low,h.v,by have:=h.len;omega,h.ok⟩
structure EndP(c:Cs)(seats:List Int):Prop where
 c:kn c=true
 nd:seats.Nodup
 n0:1≤seats.length
 n9:seats.length≤9
 k: ∀k∈seats,0≤k∧k≤63
theorem EndP.of{c:Cs}{seats:List Int}(h:ckS c seats=0):EndP c seats:=by
 obtain⟨h1,h2,h3,h4⟩:=ayj h
 have h5:jp seats=true:=by
  rw[o9,if_neg (by simp[h1])]at h
  split at h
  ·assumption
  ·cases h
 have h6:=(jf.1 h5).1
 exact⟨h1,h3,List.length_pos_iff.2 h6,h2,fun k hk=>by have:=h4 k hk;omega⟩
end Go.Proofs.Am
