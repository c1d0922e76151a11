/- UOne. -/
import Derived.Test.YteakcpfdfglndaaGreatDoorCThree
import Derived.Test.YteakcpfdfglndaaGreatDoorMOne
set_option linter.unusedSimpArgs false
set_option linter.unusedVariables false
namespace Go.Proofs.Am
open Go Go.RowKit
open Go.Proofs
def bey(l:List Int)(k:Int):Bool:=(el l (k.toNat/32)).toNat.testBit (k.toNat % 32)
def azu(l:List Int):Prop:=l.length=2∧0≤el l 0∧el l 0<4294967296∧0≤el l 1∧el l 1<4294967296∧¬(el l 0=0∧el l 1=0)
instance (l:List Int):Decidable (azu l):=by unfold azu;infer_instance
def bbz(l:List Int):List Int×Int:=if azu l then(db (bey l) 64,0)else([],43)
def smallN(l:List Int):Prop:=l.length=2∧1≤el l 0∧el l 0≤127∧0≤el l 1∧el l 1≤1
theorem smallN.ok{l:List Int}(h:smallN l):azu l:=⟨h.1,by have:=h.2;omega,by have:=h.2;omega,by have:=h.2;omega,by have:=h.2;omega,by have:=h.2;omega⟩
def a7f(v:List UInt8)(ep:Int)(l:List Int):List UInt8:=sha ((v++be8 ep)++lsB l)
def v6(ep:Int):Cs:=⟨ep,1,0,0⟩
structure OkT(t:Tm):Prop where
 lo:0≤t.ep
 hi:t.ep<40
 ros:j8 t.ros=true
 bea:t.bea.length=32
theorem OkT.len{t:Tm}(h:OkT t):t.ros.length≤64:=(jf h.ros).2.2.2
theorem aw6{r:Rl}{v:List UInt8}{l:List Int}{c d:Cs}{j:Int}{prev:List Int}(hr:d6 r=0)(hne:dp l prev≠[])(hd:dh d=true):ckS d (mo r v l c j prev)=0:=by
 have h1:=(azv hr).2.2
 have hl:=qe (r:=r) (v:=v) (l:=l) (c:=c) (j:=j) (prev:=prev)
 have hw:0<(dp l prev).length:=List.length_pos_iff.2 hne
 rw[qo,if_neg (by simp[hd]),if_pos]
 refine jg.2 ⟨fun e=> ?_,fun k hk=> ?_,qw,by omega⟩
 ·rw[e]at hl
  simp only[List.length_nil]at hl
  omega
 ·exact gz.2 (by have:=(ii.1 (pv hk)).1;omega)
theorem a7o{r:Rl}{t:Tm}{c:Cs}(hr:d6 r=0)(ht:OkT t)(hc:dh c=true)(he:c.ep=t.ep)(h0:c.ro=0):bp r t c=(mo r t.bea t.ros c 0 [],0):=by
 unfold bp
 rw[if_neg (by simp[he]),sj,if_neg (by simp[hr]),if_neg (by simp[ht.ros]),if_neg (by simp[hc]),if_pos h0]
theorem ans{r:Rl}{t:Tm}{c:Cs}(hr:d6 r=0)(ht:OkT t)(hc:dh c=true)(he:c.ep=t.ep):((bp r t c).2=0∨(bp r t c).2=44)∧(bp r t c).1.Nodup∧(∀k∈(bp r t c).1,k∈t.ros)∧((bp r t c).2=0→ckS c (bp r t c).1=0):=by
 have hn: ∀j prev,(mo r t.bea t.ros c j prev).Nodup∧∀k∈mo r t.bea t.ros c j prev,k∈t.ros:=fun j prev=>⟨qw,fun k hk=>(ii.1 (pv hk)).2.1⟩
 unfold bp
 rw[if_neg (by simp[he]),sj,if_neg (by simp[hr]),if_neg (by simp[ht.ros]),if_neg (by simp[hc])]
 split
 ·exact⟨.inl rfl,(hn _ _).1,(hn _ _).2,fun _=>aw6 hr (adr ht.ros) hc⟩
 ·split
  ·exact⟨.inr rfl,List.Pairwise.nil,fun k hk=>absurd hk (by simp),fun h=>by cases h⟩
  ·rename_i h
   exact⟨.inl rfl,(hn _ _).1,(hn _ _).2,fun _=>aw6 hr h hc⟩
def stS(r:Rl)(t:Tm):List Int:=mo r t.bea t.ros (v6 t.ep) 0 []
def stA(r:Rl)(L:List Stm)(t:Tm):List Ct:=ac9 (stS r t) (al L (v6 t.ep))
def ya(L:List Stm)(c:Cs)(seats:List Int):List Ct:=if ckS c seats=0 then ac9 seats (al L c)else []
def afx(r:Rl)(L:List Stm)(t:Tm):Tm:={t with dec:=decide ((stA r L t).length=1),nx:=yl (stA r L t)}
theorem a9l(r:Rl)(L M:List Stm)(t:Tm):afx r L (afx r M t)=afx r L t:=rfl
theorem bb1(r:Rl)(L M:List Stm)(t:Tm):stA r L (afx r M t)=stA r L t:=rfl
theorem bb7(r:Rl)(M:List Stm)(t:Tm):stS r (afx r M t)=stS r t:=rfl
def a94(t:Tm):Option Tm:=if t.dec=true∧(bbz t.nx.li).2=0 then some ⟨t.ep+1,(bbz t.nx.li).1,a7f t.bea t.ep t.nx.li,false,noC⟩else none
def a3l(r:Rl)(L:List Stm):Nat→Tm→List Tm
 |0,_=>[]
 |n+1,t=>afx r L t::(match a94 (afx r L t)with|none=>[]|some u=>a3l r L n u)
def bab(r:Rl)(L:List Stm):List Tm:=a3l r L 40 (kj r)
theorem ak5{r:Rl}(hr:d6 r=0):OkT (kj r):=⟨Int.le_refl _,by show(0:Int)<40;omega,(azv hr).1,abp _⟩
theorem bcq{α:Type} [Inhabited α](a:α)(l:List α):el (a::l) 0=a:=rfl
theorem bd2{α:Type} [Inhabited α](a:α)(l:List α)(i:Nat):el (a::l) (i+1)=el l i:=rfl
theorem a3k(r:Rl)(L:List Stm):el (bab r L) 0=afx r L (kj r):=rfl
structure ChS where
 p:Nat
 L:List Stm
 ros:List Int
 v:List UInt8
deriving Inhabited
def chS(r:Rl)(ep:Int)(s:ChS):List Int:=mo r s.v s.ros (v6 ep) 0 []
def ba8(l:List Int)(ep:Int)(x y:Ct)(k:Int)(st:Nat×List Stm):Nat×List Stm:=
 (dgo l st.1 1,st.2++(if ai l st.1 14=0 then []else if ai l st.1 14=1 then [vt k ep (v6 ep) y]else if ai l st.1 14=2 then [vt k ep (v6 ep) x,vt k (ep+9) (v6 ep) y]else [vt k ep (v6 ep) x]))
def bak(l:List Int)(ep:Int)(x y:Ct)(seats:List Int)(st:Nat×List Stm):Nat→Nat×List Stm
 |0=>st
 |i+1=>ba8 l ep x y (el seats i) (bak l ep x y seats st i)
def chX(l:List Int)(ep:Int)(s:ChS):Ct×Nat:=kg l (dgo l s.p 1) (v6 ep)
def chY(l:List Int)(ep:Int)(s:ChS):Ct×Nat:=kg l (chX l ep s).2 (v6 ep)
def bas(l:List Int)(r:Rl)(ep:Int)(s:ChS):ChS:=
 ⟨(bak l ep (chX l ep s).1 (chY l ep s).1 (chS r ep s) ((chY l ep s).2,s.L) (chS r ep s).length).1,
  (bak l ep (chX l ep s).1 (chY l ep s).1 (chS r ep s) ((chY l ep s).2,s.L) (chS r ep s).length).2,
  (bbz (chX l ep s).1.li).1,a7f s.v ep (chX l ep s).1.li⟩
def ChV(t:Stm):Prop:= ∃k nu e x,t=vt k nu (v6 e) x∧(0≤k∧k≤63)∧(0≤nu∧nu≤199)∧(0≤e∧e<40)∧ue x∧fg (v6 e) x=true∧smallN x.li
theorem ChV.ok{t:Stm}(h:ChV t):okS t:=by
 obtain⟨k,nu,e,x,rfl,_,_,_,hx,_⟩:=h
 exact a3h _ _ _ hx
structure ChI(l:List Int)(ep:Nat)(s:ChS):Prop where
 p:s.p≤l.length
 ros:j8 s.ros=true
 low: ∀k∈s.ros,0≤k∧k≤32
 v:s.v.length=32
 len:s.L.length≤18*ep
 ok: ∀t∈s.L,ChV t
theorem ChI.mono{l:List Int}{ep ep':Nat}{s:ChS}(h:ChI l ep s)(he:ep≤ep'):ChI l ep' s:=⟨h.p,h.ros,h.low,h.v,by have:=h.len;omega,h.ok⟩
def rr(c:Cs)(nu:Int)(x:Ct)(seats:List Int):List Stm:=seats.map fun k=>vt k nu c x
theorem aak{c:Cs}{nu:Int}{x:Ct}{seats:List Int}{s:Stm}:s∈rr c nu x seats↔∃k∈seats,vt k nu c x=s:=by simp[rr]
structure EndP(c:Cs)(seats:List Int):Prop where
 c:dh c=true
 nd:seats.Nodup
 n0:1≤seats.length
 n9:seats.length≤9
 k: ∀k∈seats,0≤k∧k≤63
theorem EndP.of{c:Cs}{seats:List Int}(h:ckS c seats=0):EndP c seats:=by
 obtain⟨h1,h2,h3,h4⟩:=axz h
 have h5:jz seats=true:=by
  rw[qo,if_neg (by simp[h1])]at h
  split at h
  ·assumption
  ·cases h
 have h6:=(jg.1 h5).1
 exact⟨h1,h3,List.length_pos_iff.2 h6,h2,fun k hk=>by have:=h4 k hk;omega⟩
end Go.Proofs.Am
