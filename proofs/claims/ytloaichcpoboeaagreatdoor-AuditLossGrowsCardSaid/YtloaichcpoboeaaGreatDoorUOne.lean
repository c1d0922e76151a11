/- UOne. -/
import Derived.Test.YtloaichcpoboeaaGreatDoorCThree
import Derived.Test.YtloaichcpoboeaaGreatDoorMOne
set_option linter.unusedSimpArgs false
set_option linter.unusedVariables false
namespace Go.Proofs.Am
open Go Go.RowKit
open Go.Proofs
def aa5(l:List Int)(k:Int):Bool:=(el l (k.toNat/32)).toNat.testBit (k.toNat % 32)
def qe(l:List Int):Prop:=l.length=2∧0≤el l 0∧el l 0<4294967296∧0≤el l 1∧el l 1<4294967296∧¬(el l 0=0∧el l 1=0)
instance (l:List Int):Decidable (qe l):=by unfold qe;infer_instance
def agp(l:List Int):List Int×Int:=if qe l then(cr (aa5 l) 64,0)else([],43)
theorem aad{l:List Int}(h:qe l):agp l=(cr (aa5 l) 64,0):=if_pos h
theorem wg{l:List Int}(h: ¬qe l):agp l=([],43):=if_neg h
theorem aye{n:Nat}(h0:n≠0)(h:n<4294967296): ∃i,i<32∧n.testBit i=true:=by
 obtain⟨i,hi⟩:=Nat.exists_testBit_of_ne_zero h0
 refine⟨i,?_,hi⟩
 rcases Nat.lt_or_ge i 32 with h1|h1
 ·exact h1
 ·have h2:n<2^i:=Nat.lt_of_lt_of_le h (by
   have:(4294967296:Nat)=2^32:=by rfl
   rw[this]
   exact Nat.pow_le_pow_right (by omega) h1)
  rw[Nat.testBit_lt_two_pow h2]at hi
  cases hi
theorem a03{l:List Int}{j i:Nat}(hj:j<2)(hi:i<32)(h:(el l j).toNat.testBit i=true):((32*j+i:Nat):Int)∈cr (aa5 l) 64:=by
 refine l8.2 ⟨⟨by omega,by omega⟩,?_⟩
 unfold aa5
 rw[Int.toNat_natCast]
 have e1:(32*j+i)/32=j:=by omega
 have e2:(32*j+i) % 32=i:=by omega
 rw[e1,e2]
 exact h
theorem a8p{l:List Int}(h:qe l):uf (cr (aa5 l) 64)=true:=by
 obtain⟨_,h1,h2,h3,h4,h5⟩:=h
 have key: ∀j,j<2→el l j≠0→0≤el l j→el l j<4294967296→cr (aa5 l) 64≠[]:=fun j hj h0 ha hb e=>by
  obtain⟨i,hi,ht⟩:=aye (n:=(el l j).toNat) (by omega) (by omega)
  have:=a03 hj hi ht
  rw[e]at this
  cases this
 refine aet ?_
 by_cases h0:el l 0=0
 ·exact key 1 (by omega) (fun h=>h5 ⟨h0,h⟩) h3 h4
 ·exact key 0 (by omega) h0 h1 h2
theorem aza{l:List Int}(h:(agp l).2=0):qe l∧agp l=(cr (aa5 l) 64,0)∧uf (agp l).1=true:=by
 by_cases hd:qe l
 ·rw[aad hd]
  exact⟨hd,rfl,a8p hd⟩
 ·rw[wg hd]at h
  cases h
def smallN(l:List Int):Prop:=l.length=2∧1≤el l 0∧el l 0≤127∧0≤el l 1∧el l 1≤1
theorem smallN.ok{l:List Int}(h:smallN l):qe l:=⟨h.1,by have:=h.2;omega,by have:=h.2;omega,by have:=h.2;omega,by have:=h.2;omega,by have:=h.2;omega⟩
def adp(v:List UInt8)(ep:Int)(l:List Int):List UInt8:=sha ((v++be8 ep)++lsB l)
theorem awl(v:List UInt8)(ep:Int)(l:List Int):(adp v ep l).length=32:=ai0 _
def sy(ep:Int):Cs:=⟨ep,1,0,0⟩
theorem al2{ep:Int}(h0:0≤ep)(h1:ep<40):kb (sy ep)=true:=acv ⟨h0,h1,by simp[sy],by simp[sy],by simp[sy],by simp[sy],.inl ⟨rfl,rfl,rfl⟩⟩
structure OkT(t:Tm):Prop where
 lo:0≤t.ep
 hi:t.ep<40
 ros:uf t.ros=true
 bea:t.bea.length=32
theorem OkT.len{t:Tm}(h:OkT t):t.ros.length≤64:=(qr h.ros).2.2.2
theorem a7a{r:Rl}{v:List UInt8}{l:List Int}{c d:Cs}{j:Int}{prev:List Int}(hr:fk r=0)(hne:gx l prev≠[])(hd:kb d=true):ckS d (ut r v l c j prev)=0:=by
 have h1:=(ay4 hr).2.2
 have hl:=abs (r:=r) (v:=v) (l:=l) (c:=c) (j:=j) (prev:=prev)
 have hw:0<(gx l prev).length:=List.length_pos_iff.2 hne
 rw[pv,if_neg (by simp[hd]),if_pos]
 refine iz.2 ⟨fun e=> ?_,fun k hk=> ?_,ap7,by omega⟩
 ·rw[e]at hl
  simp only[List.length_nil]at hl
  omega
 ·exact gd.2 (by have:=(wj.1 (a09 hk)).1;omega)
theorem a4j{r:Rl}{t:Tm}{c:Cs}(hr:fk r=0)(ht:OkT t)(hc:kb c=true)(he:c.ep=t.ep)(h0:c.ro=0):nf r t c=(ut r t.bea t.ros c 0 [],0):=by
 unfold nf
 rw[if_neg (by simp[he]),awj,if_neg (by simp[hr]),if_neg (by simp[ht.ros]),if_neg (by simp[hc]),if_pos h0]
def stS(r:Rl)(t:Tm):List Int:=ut r t.bea t.ros (sy t.ep) 0 []
def stA(r:Rl)(L:List Stm)(t:Tm):List Ct:=aj2 (stS r t) (ay L (sy t.ep))
theorem avq{r:Rl}{t:Tm}(hr:fk r=0)(ht:OkT t):nf r t (sy t.ep)=(stS r t,0):=a4j hr ht (al2 ht.lo ht.hi) rfl rfl
theorem bbu{r:Rl}{t:Tm}(hr:fk r=0)(ht:OkT t):ckS (sy t.ep) (stS r t)=0:=a7a hr (avt ht.ros) (al2 ht.lo ht.hi)
def aj8(L:List Stm)(c:Cs)(seats:List Int):List Ct:=if ckS c seats=0 then aj2 seats (ay L c)else []
def bb6(r:Rl)(L:List Stm)(t:Tm)(c:Cs):Ct×Bool×Int:=
 if(nf r t c).2≠0 then(noC,false,(nf r t c).2)else(aox (aj8 L c (nf r t c).1),decide ((aj8 L c (nf r t c).1).length=1),ckS c (nf r t c).1)
theorem a8o{r:Rl}{L:List Stm}{t:Tm}(hr:fk r=0)(ht:OkT t):bb6 r L t (sy t.ep)=(aox (stA r L t),decide ((stA r L t).length=1),0):=by
 unfold bb6 aj8
 rw[avq hr ht]
 simp only[ne_eq,not_true_eq_false,if_false,bbu hr ht,if_true]
 rfl
def dz(r:Rl)(L:List Stm)(t:Tm):Tm:={t with dec:=decide ((stA r L t).length=1),nx:=aox (stA r L t)}
theorem a1a{r:Rl}{L:List Stm}{t:Tm}(h:OkT t):OkT (dz r L t):=⟨h.lo,h.hi,h.ros,h.bea⟩
theorem a9w(r:Rl)(L M:List Stm)(t:Tm):dz r L (dz r M t)=dz r L t:=rfl
theorem bb4(r:Rl)(L M:List Stm)(t:Tm):stA r L (dz r M t)=stA r L t:=rfl
theorem bbz(r:Rl)(M:List Stm)(t:Tm):stS r (dz r M t)=stS r t:=rfl
def na(t:Tm):Option Tm:=if t.dec=true∧(agp t.nx.li).2=0 then some ⟨t.ep+1,(agp t.nx.li).1,adp t.bea t.ep t.nx.li,false,noC⟩else none
theorem n4{t u:Tm}(h:na t=some u):t.dec=true∧(agp t.nx.li).2=0∧u=⟨t.ep+1,(agp t.nx.li).1,adp t.bea t.ep t.nx.li,false,noC⟩:=by
 unfold na at h
 split at h
 ·rename_i h1
  exact⟨h1.1,h1.2,(Option.some.inj h).symm⟩
 ·cases h
theorem auk{t u:Tm}(ht:OkT t)(h:na t=some u)(he:t.ep<39):OkT u:=by
 obtain⟨_,h2,rfl⟩:=n4 h
 exact⟨by have:=ht.lo;show 0≤t.ep+1;omega,by show t.ep+1<40;omega,(aza h2).2.2,awl _ _ _⟩
def ni(r:Rl)(L:List Stm):Nat→Tm→List Tm
 |0,_=>[]
 |n+1,t=>dz r L t::(match na (dz r L t)with|none=>[]|some u=>ni r L n u)
def u1(r:Rl)(L:List Stm):List Tm:=ni r L 40 (u2 r)
theorem alj{r:Rl}(hr:fk r=0):OkT (u2 r):=⟨Int.le_refl _,by show(0:Int)<40;omega,(ay4 hr).1,ai0 _⟩
theorem bcs{α:Type} [Inhabited α](a:α)(l:List α):el (a::l) 0=a:=rfl
theorem bcq{α:Type} [Inhabited α](a:α)(l:List α)(i:Nat):el (a::l) (i+1)=el l i:=rfl
theorem a35(r:Rl)(L:List Stm):el (u1 r L) 0=dz r L (u2 r):=rfl
structure ChS where
 p:Nat
 L:List Stm
 ros:List Int
 v:List UInt8
deriving Inhabited
def ChV(t:Stm):Prop:= ∃k nu e x,t=vt k nu (sy e) x∧(0≤k∧k≤63)∧(0≤nu∧nu≤199)∧(0≤e∧e<40)∧afs x∧nh (sy e) x=true∧smallN x.li
theorem ChV.ok{t:Stm}(h:ChV t):okS t:=by
 obtain⟨k,nu,e,x,rfl,_,_,_,hx,_⟩:=h
 exact ba6 _ _ _ hx
structure ChI(l:List Int)(ep:Nat)(s:ChS):Prop where
 p:s.p≤l.length
 ros:uf s.ros=true
 low: ∀k∈s.ros,0≤k∧k≤32
 v:s.v.length=32
 len:s.L.length≤18*ep
 ok: ∀t∈s.L,ChV t
theorem ChI.mono{l:List Int}{ep ep':Nat}{s:ChS}(h:ChI l ep s)(he:ep≤ep'):ChI l ep' s:=⟨h.p,h.ros,h.low,h.v,by have:=h.len;omega,h.ok⟩
structure EndP(c:Cs)(seats:List Int):Prop where
 c:kb c=true
 nd:seats.Nodup
 n0:1≤seats.length
 n9:seats.length≤9
 k: ∀k∈seats,0≤k∧k≤63
theorem EndP.of{c:Cs}{seats:List Int}(h:ckS c seats=0):EndP c seats:=by
 obtain⟨h1,h2,h3,h4⟩:=ayg h
 have h5:jn seats=true:=by
  rw[pv,if_neg (by simp[h1])]at h
  split at h
  ·assumption
  ·cases h
 have h6:=(iz.1 h5).1
 exact⟨h1,h3,List.length_pos_iff.2 h6,h2,fun k hk=>by have:=h4 k hk;omega⟩
end Go.Proofs.Am
