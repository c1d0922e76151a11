/- UOne. -/
import Derived.Test.YteakcpfdfglndaaGreatDoorCThree
import Derived.Test.YteakcpfdfglndaaGreatDoorMOne
set_option linter.unusedSimpArgs false
set_option linter.unusedVariables false
namespace Go.Proofs.Am
open Go Go.RowKit
open Go.Proofs
def bgf(l:List Int)(k:Int):Bool:=(el l (k.toNat/32)).toNat.testBit (k.toNat % 32)
def azl(l:List Int):Prop:=l.length=2∧0≤el l 0∧el l 0<4294967296∧0≤el l 1∧el l 1<4294967296∧¬(el l 0=0∧el l 1=0)
instance (l:List Int):Decidable (azl l):=by unfold azl;infer_instance
def bdl(l:List Int):List Int×Int:=if azl l then(dh (bgf l) 64,0)else([],43)
def smallN(l:List Int):Prop:=l.length=2∧1≤el l 0∧el l 0≤127∧0≤el l 1∧el l 1≤1
theorem smallN.ok{l:List Int}(h:smallN l):azl l:=⟨h.1,by have:=h.2;omega,by have:=h.2;omega,by have:=h.2;omega,by have:=h.2;omega,by have:=h.2;omega⟩
def a8z(v:List UInt8)(ep:Int)(l:List Int):List UInt8:=sha ((v++be8 ep)++lsB l)
def xz(ep:Int):Cs:=⟨ep,1,0,0⟩
structure OkT(t:Tm):Prop where
 lo:0≤t.ep
 hi:t.ep<40
 ros:i8 t.ros=true
 bea:t.bea.length=32
theorem OkT.len{t:Tm}(h:OkT t):t.ros.length≤64:=(gh h.ros).2.2.2
theorem awm{r:Rl}{v:List UInt8}{l:List Int}{c d:Cs}{j:Int}{prev:List Int}(hr:dp r=0)(hne:dw l prev≠[])(hd:dl d=true):ckS d (oe r v l c j prev)=0:=by
 have h1:=(a2k hr).2.2
 have hl:=vc (r:=r) (v:=v) (l:=l) (c:=c) (j:=j) (prev:=prev)
 have hw:0<(dw l prev).length:=List.length_pos_iff.2 hne
 rw[qy,if_neg (by simp[hd]),if_pos]
 refine jt.2 ⟨fun e=> ?_,fun k hk=> ?_,zy,by omega⟩
 ·rw[e]at hl
  simp only[List.length_nil]at hl
  omega
 ·exact ir.2 (by have:=(lw.1 (uk hk)).1;omega)
theorem a6f{r:Rl}{t:Tm}{c:Cs}(hr:dp r=0)(ht:OkT t)(hc:dl c=true)(he:c.ep=t.ep)(h0:c.ro=0):cu r t c=(oe r t.bea t.ros c 0 [],0):=by
 unfold cu
 rw[if_neg (by simp[he]),ya,if_neg (by simp[hr]),if_neg (by simp[ht.ros]),if_neg (by simp[hc]),if_pos h0]
theorem arb{r:Rl}{t:Tm}{c:Cs}(hr:dp r=0)(ht:OkT t)(hc:dl c=true)(he:c.ep=t.ep):((cu r t c).2=0∨(cu r t c).2=44)∧(cu r t c).1.Nodup∧(∀k∈(cu r t c).1,k∈t.ros)∧((cu r t c).2=0→ckS c (cu r t c).1=0):=by
 have hn: ∀j prev,(oe r t.bea t.ros c j prev).Nodup∧∀k∈oe r t.bea t.ros c j prev,k∈t.ros:=fun j prev=>⟨zy,fun k hk=>(lw.1 (uk hk)).2.1⟩
 unfold cu
 rw[if_neg (by simp[he]),ya,if_neg (by simp[hr]),if_neg (by simp[ht.ros]),if_neg (by simp[hc])]
 split
 ·exact⟨.inl rfl,(hn _ _).1,(hn _ _).2,fun _=>awm hr (ags ht.ros) hc⟩
 ·split
  ·exact⟨.inr rfl,List.Pairwise.nil,fun k hk=>absurd hk (by simp),fun h=>by cases h⟩
  ·rename_i h
   exact⟨.inl rfl,(hn _ _).1,(hn _ _).2,fun _=>awm hr h hc⟩
def stS(r:Rl)(t:Tm):List Int:=oe r t.bea t.ros (xz t.ep) 0 []
def stA(r:Rl)(L:List Stm)(t:Tm):List Ct:=adw (stS r t) (am L (xz t.ep))
def va(L:List Stm)(c:Cs)(seats:List Int):List Ct:=if ckS c seats=0 then adw seats (am L c)else []
def agk(r:Rl)(L:List Stm)(t:Tm):Tm:={t with dec:=decide ((stA r L t).length=1),nx:=yv (stA r L t)}
theorem a91(r:Rl)(L M:List Stm)(t:Tm):agk r L (agk r M t)=agk r L t:=rfl
theorem bdf(r:Rl)(L M:List Stm)(t:Tm):stA r L (agk r M t)=stA r L t:=rfl
theorem bdg(r:Rl)(M:List Stm)(t:Tm):stS r (agk r M t)=stS r t:=rfl
def bbd(t:Tm):Option Tm:=if t.dec=true∧(bdl t.nx.li).2=0 then some ⟨t.ep+1,(bdl t.nx.li).1,a8z t.bea t.ep t.nx.li,false,noC⟩else none
def a4z(r:Rl)(L:List Stm):Nat→Tm→List Tm
 |0,_=>[]
 |n+1,t=>agk r L t::(match bbd (agk r L t)with|none=>[]|some u=>a4z r L n u)
def bc2(r:Rl)(L:List Stm):List Tm:=a4z r L 40 (lu r)
theorem ak1{r:Rl}(hr:dp r=0):OkT (lu r):=⟨Int.le_refl _,by show(0:Int)<40;omega,(a2k hr).1,abq _⟩
theorem bdx{α:Type} [Inhabited α](a:α)(l:List α):el (a::l) 0=a:=rfl
theorem beb{α:Type} [Inhabited α](a:α)(l:List α)(i:Nat):el (a::l) (i+1)=el l i:=rfl
theorem a4i(r:Rl)(L:List Stm):el (bc2 r L) 0=agk r L (lu r):=rfl
structure ChS where
 p:Nat
 L:List Stm
 ros:List Int
 v:List UInt8
deriving Inhabited
def chS(r:Rl)(ep:Int)(s:ChS):List Int:=oe r s.v s.ros (xz ep) 0 []
def a9y(l:List Int)(ep:Int)(x y:Ct)(k:Int)(st:Nat×List Stm):Nat×List Stm:=
 (dgo l st.1 1,st.2++(if ai l st.1 14=0 then []else if ai l st.1 14=1 then [vt k ep (xz ep) y]else if ai l st.1 14=2 then [vt k ep (xz ep) x,vt k (ep+9) (xz ep) y]else [vt k ep (xz ep) x]))
def a9t(l:List Int)(ep:Int)(x y:Ct)(seats:List Int)(st:Nat×List Stm):Nat→Nat×List Stm
 |0=>st
 |i+1=>a9y l ep x y (el seats i) (a9t l ep x y seats st i)
def chX(l:List Int)(ep:Int)(s:ChS):Ct×Nat:=kr l (dgo l s.p 1) (xz ep)
def chY(l:List Int)(ep:Int)(s:ChS):Ct×Nat:=kr l (chX l ep s).2 (xz ep)
def bb4(l:List Int)(r:Rl)(ep:Int)(s:ChS):ChS:=
 ⟨(a9t l ep (chX l ep s).1 (chY l ep s).1 (chS r ep s) ((chY l ep s).2,s.L) (chS r ep s).length).1,
  (a9t l ep (chX l ep s).1 (chY l ep s).1 (chS r ep s) ((chY l ep s).2,s.L) (chS r ep s).length).2,
  (bdl (chX l ep s).1.li).1,a8z s.v ep (chX l ep s).1.li⟩
def ChV(t:Stm):Prop:= ∃k nu e x,t=vt k nu (xz e) x∧(0≤k∧k≤63)∧(0≤nu∧nu≤199)∧(0≤e∧e<40)∧uz x∧fq (xz e) x=true∧smallN x.li
theorem ChV.ok{t:Stm}(h:ChV t):okS t:=by
 obtain⟨k,nu,e,x,rfl,_,_,_,hx,_⟩:=h
 exact a49 _ _ _ hx
structure ChI(l:List Int)(ep:Nat)(s:ChS):Prop where
 p:s.p≤l.length
 ros:i8 s.ros=true
 low: ∀k∈s.ros,0≤k∧k≤32
 v:s.v.length=32
 len:s.L.length≤18*ep
 ok: ∀t∈s.L,ChV t
theorem ChI.mono{l:List Int}{ep ep':Nat}{s:ChS}(h:ChI l ep s)(he:ep≤ep'):ChI l ep' s:=⟨h.p,h.ros,h.low,h.v,by have:=h.len;omega,h.ok⟩
def tg(c:Cs)(nu:Int)(x:Ct)(seats:List Int):List Stm:=seats.map fun k=>vt k nu c x
theorem aaf{c:Cs}{nu:Int}{x:Ct}{seats:List Int}{s:Stm}:s∈tg c nu x seats↔∃k∈seats,vt k nu c x=s:=by simp[tg]
structure EndP(c:Cs)(seats:List Int):Prop where
 c:dl c=true
 nd:seats.Nodup
 n0:1≤seats.length
 n9:seats.length≤9
 k: ∀k∈seats,0≤k∧k≤63
theorem EndP.of{c:Cs}{seats:List Int}(h:ckS c seats=0):EndP c seats:=by
 obtain⟨h1,h2,h3,h4⟩:=az7 h
 have h5:kg seats=true:=by
  rw[qy,if_neg (by simp[h1])]at h
  split at h
  ·assumption
  ·cases h
 have h6:=(jt.1 h5).1
 exact⟨h1,h3,List.length_pos_iff.2 h6,h2,fun k hk=>by have:=h4 k hk;omega⟩
end Go.Proofs.Am
