/- UOne. -/
import Derived.Test.YtloaichcpoboeaaGreatDoorCThree
import Derived.Test.YtloaichcpoboeaaGreatDoorMOne
set_option linter.unusedSimpArgs false
set_option linter.unusedVariables false
namespace Go.Proofs.Am
open Go Go.RowKit
open Go.Proofs
def abm(l:List Int)(k:Int):Bool:=(el l (k.toNat/32)).toNat.testBit (k.toNat % 32)
def ql(l:List Int):Prop:=l.length=2∧0≤el l 0∧el l 0<4294967296∧0≤el l 1∧el l 1<4294967296∧¬(el l 0=0∧el l 1=0)
instance (l:List Int):Decidable (ql l):=by unfold ql;infer_instance
def ag4(l:List Int):List Int×Int:=if ql l then(eh (abm l) 64,0)else([],43)
theorem abq{l:List Int}(h:ql l):ag4 l=(eh (abm l) 64,0):=if_pos h
theorem ux{l:List Int}(h: ¬ql l):ag4 l=([],43):=if_neg h
theorem a0s{n:Nat}(h0:n≠0)(h:n<4294967296): ∃i,i<32∧n.testBit i=true:=by
 obtain⟨i,hi⟩:=Nat.exists_testBit_of_ne_zero h0
 refine⟨i,?_,hi⟩
 rcases Nat.lt_or_ge i 32 with h1|h1
 ·exact h1
 ·have h2:n<2^i:=Nat.lt_of_lt_of_le h (by
   have:(4294967296:Nat)=2^32:=by rfl
   rw[this]
   exact Nat.pow_le_pow_right (by omega) h1)
  rw[Nat.testBit_lt_two_pow h2]at hi
  cases hi
theorem a1d{l:List Int}{j i:Nat}(hj:j<2)(hi:i<32)(h:(el l j).toNat.testBit i=true):((32*j+i:Nat):Int)∈eh (abm l) 64:=by
 refine pd.2 ⟨⟨by omega,by omega⟩,?_⟩
 unfold abm
 rw[Int.toNat_natCast]
 have e1:(32*j+i)/32=j:=by omega
 have e2:(32*j+i) % 32=i:=by omega
 rw[e1,e2]
 exact h
theorem a7i{l:List Int}(h:ql l):tu (eh (abm l) 64)=true:=by
 obtain⟨_,h1,h2,h3,h4,h5⟩:=h
 have key: ∀j,j<2→el l j≠0→0≤el l j→el l j<4294967296→eh (abm l) 64≠[]:=fun j hj h0 ha hb e=>by
  obtain⟨i,hi,ht⟩:=a0s (n:=(el l j).toNat) (by omega) (by omega)
  have:=a1d hj hi ht
  rw[e]at this
  cases this
 refine ag2 ?_
 by_cases h0:el l 0=0
 ·exact key 1 (by omega) (fun h=>h5 ⟨h0,h⟩) h3 h4
 ·exact key 0 (by omega) h0 h1 h2
theorem ay7{l:List Int}(h:(ag4 l).2=0):ql l∧ag4 l=(eh (abm l) 64,0)∧tu (ag4 l).1=true:=by
 by_cases hd:ql l
 ·rw[abq hd]
  exact⟨hd,rfl,a7i hd⟩
 ·rw[ux hd]at h
  cases h
def smallN(l:List Int):Prop:=l.length=2∧1≤el l 0∧el l 0≤127∧0≤el l 1∧el l 1≤1
theorem smallN.ok{l:List Int}(h:smallN l):ql l:=⟨h.1,by have:=h.2;omega,by have:=h.2;omega,by have:=h.2;omega,by have:=h.2;omega,by have:=h.2;omega⟩
def aek(v:List UInt8)(ep:Int)(l:List Int):List UInt8:=sha ((v++be8 ep)++lsB l)
theorem aw2(v:List UInt8)(ep:Int)(l:List Int):(aek v ep l).length=32:=aik _
def s5(ep:Int):Cs:=⟨ep,1,0,0⟩
theorem al0{ep:Int}(h0:0≤ep)(h1:ep<40):kn (s5 ep)=true:=ac2 ⟨h0,h1,by simp[s5],by simp[s5],by simp[s5],by simp[s5],.inl ⟨rfl,rfl,rfl⟩⟩
structure OkT(t:Tm):Prop where
 lo:0≤t.ep
 hi:t.ep<40
 ros:tu t.ros=true
 bea:t.bea.length=32
theorem OkT.len{t:Tm}(h:OkT t):t.ros.length≤64:=(qt h.ros).2.2.2
theorem a41{r:Rl}{v:List UInt8}{l:List Int}{c d:Cs}{j:Int}{prev:List Int}(hr:fi r=0)(hne:ig l prev≠[])(hd:kn d=true):ckS d (wb r v l c j prev)=0:=by
 have h1:=(azo hr).2.2
 have hl:=ab1 (r:=r) (v:=v) (l:=l) (c:=c) (j:=j) (prev:=prev)
 have hw:0<(ig l prev).length:=List.length_pos_iff.2 hne
 rw[ot,if_neg (by simp[hd]),if_pos]
 refine i8.2 ⟨fun e=> ?_,fun k hk=> ?_,anh,by omega⟩
 ·rw[e]at hl
  simp only[List.length_nil]at hl
  omega
 ·exact gd.2 (by have:=(vy.1 (ayy hk)).1;omega)
theorem a78{r:Rl}{t:Tm}{c:Cs}(hr:fi r=0)(ht:OkT t)(hc:kn c=true)(he:c.ep=t.ep)(h0:c.ro=0):nj r t c=(wb r t.bea t.ros c 0 [],0):=by
 unfold nj
 rw[if_neg (by simp[he]),aw9,if_neg (by simp[hr]),if_neg (by simp[ht.ros]),if_neg (by simp[hc]),if_pos h0]
def stS(r:Rl)(t:Tm):List Int:=wb r t.bea t.ros (s5 t.ep) 0 []
def stA(r:Rl)(L:List Stm)(t:Tm):List Ct:=ail (stS r t) (ay L (s5 t.ep))
theorem axy{r:Rl}{t:Tm}(hr:fi r=0)(ht:OkT t):nj r t (s5 t.ep)=(stS r t,0):=a78 hr ht (al0 ht.lo ht.hi) rfl rfl
theorem a97{r:Rl}{t:Tm}(hr:fi r=0)(ht:OkT t):ckS (s5 t.ep) (stS r t)=0:=a41 hr (ar5 ht.ros) (al0 ht.lo ht.hi)
def am1(L:List Stm)(c:Cs)(seats:List Int):List Ct:=if ckS c seats=0 then ail seats (ay L c)else []
def bb9(r:Rl)(L:List Stm)(t:Tm)(c:Cs):Ct×Bool×Int:=
 if(nj r t c).2≠0 then(noC,false,(nj r t c).2)else(apd (am1 L c (nj r t c).1),decide ((am1 L c (nj r t c).1).length=1),ckS c (nj r t c).1)
theorem a82{r:Rl}{L:List Stm}{t:Tm}(hr:fi r=0)(ht:OkT t):bb9 r L t (s5 t.ep)=(apd (stA r L t),decide ((stA r L t).length=1),0):=by
 unfold bb9 am1
 rw[axy hr ht]
 simp only[ne_eq,not_true_eq_false,if_false,a97 hr ht,if_true]
 rfl
def dz(r:Rl)(L:List Stm)(t:Tm):Tm:={t with dec:=decide ((stA r L t).length=1),nx:=apd (stA r L t)}
theorem a0w{r:Rl}{L:List Stm}{t:Tm}(h:OkT t):OkT (dz r L t):=⟨h.lo,h.hi,h.ros,h.bea⟩
theorem a9y(r:Rl)(L M:List Stm)(t:Tm):dz r L (dz r M t)=dz r L t:=rfl
theorem bb7(r:Rl)(L M:List Stm)(t:Tm):stA r L (dz r M t)=stA r L t:=rfl
theorem bcc(r:Rl)(M:List Stm)(t:Tm):stS r (dz r M t)=stS r t:=rfl
def nh(t:Tm):Option Tm:=if t.dec=true∧(ag4 t.nx.li).2=0 then some ⟨t.ep+1,(ag4 t.nx.li).1,aek t.bea t.ep t.nx.li,false,noC⟩else none
theorem nq{t u:Tm}(h:nh t=some u):t.dec=true∧(ag4 t.nx.li).2=0∧u=⟨t.ep+1,(ag4 t.nx.li).1,aek t.bea t.ep t.nx.li,false,noC⟩:=by
 unfold nh at h
 split at h
 ·rename_i h1
  exact⟨h1.1,h1.2,(Option.some.inj h).symm⟩
 ·cases h
theorem awr{t u:Tm}(ht:OkT t)(h:nh t=some u)(he:t.ep<39):OkT u:=by
 obtain⟨_,h2,rfl⟩:=nq h
 exact⟨by have:=ht.lo;show 0≤t.ep+1;omega,by show t.ep+1<40;omega,(ay7 h2).2.2,aw2 _ _ _⟩
def ni(r:Rl)(L:List Stm):Nat→Tm→List Tm
 |0,_=>[]
 |n+1,t=>dz r L t::(match nh (dz r L t)with|none=>[]|some u=>ni r L n u)
def vj(r:Rl)(L:List Stm):List Tm:=ni r L 40 (xg r)
theorem al9{r:Rl}(hr:fi r=0):OkT (xg r):=⟨Int.le_refl _,by show(0:Int)<40;omega,(azo hr).1,aik _⟩
theorem bdm{α:Type} [Inhabited α](a:α)(l:List α):el (a::l) 0=a:=rfl
theorem bcz{α:Type} [Inhabited α](a:α)(l:List α)(i:Nat):el (a::l) (i+1)=el l i:=rfl
theorem a3m(r:Rl)(L:List Stm):el (vj r L) 0=dz r L (xg r):=rfl
structure ChS where
 p:Nat
 L:List Stm
 ros:List Int
 v:List UInt8
deriving Inhabited
def ChV(t:Stm):Prop:= ∃k nu e x,t=vt k nu (s5 e) x∧(0≤k∧k≤63)∧(0≤nu∧nu≤199)∧(0≤e∧e<40)∧ade x∧nc (s5 e) x=true∧smallN x.li
theorem ChV.ok{t:Stm}(h:ChV t):okS t:=by
 obtain⟨k,nu,e,x,rfl,_,_,_,hx,_⟩:=h
 exact bby _ _ _ hx
structure ChI(l:List Int)(ep:Nat)(s:ChS):Prop where
 p:s.p≤l.length
 ros:tu s.ros=true
 low: ∀k∈s.ros,0≤k∧k≤32
 v:s.v.length=32
 len:s.L.length≤18*ep
 ok: ∀t∈s.L,ChV t
theorem ChI.mono{l:List Int}{ep ep':Nat}{s:ChS}(h:ChI l ep s)(he:ep≤ep'):ChI l ep' s:=⟨h.p,h.ros,h.low,h.v,by have:=h.len;omega,h.ok⟩
structure EndP(c:Cs)(seats:List Int):Prop where
 c:kn c=true
 nd:seats.Nodup
 n0:1≤seats.length
 n9:seats.length≤9
 k: ∀k∈seats,0≤k∧k≤63
theorem EndP.of{c:Cs}{seats:List Int}(h:ckS c seats=0):EndP c seats:=by
 obtain⟨h1,h2,h3,h4⟩:=a1i h
 have h5:js seats=true:=by
  rw[ot,if_neg (by simp[h1])]at h
  split at h
  ·assumption
  ·cases h
 have h6:=(i8.1 h5).1
 exact⟨h1,h3,List.length_pos_iff.2 h6,h2,fun k hk=>by have:=h4 k hk;omega⟩
end Go.Proofs.Am
