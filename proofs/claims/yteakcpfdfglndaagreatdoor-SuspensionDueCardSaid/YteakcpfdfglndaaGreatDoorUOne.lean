/- UOne. -/
import Derived.Test.YteakcpfdfglndaaGreatDoorCThree
import Derived.Test.YteakcpfdfglndaaGreatDoorMTwo
set_option linter.unusedSimpArgs false
set_option linter.unusedVariables false
namespace Go.Proofs.Am
open Go Go.RowKit
open Go.Proofs
def bch(l:List Int)(k:Int):Bool:=(el l (k.toNat/32)).toNat.testBit (k.toNat % 32)
def ayq(l:List Int):Prop:=l.length=2∧0≤el l 0∧el l 0<4294967296∧0≤el l 1∧el l 1<4294967296∧¬(el l 0=0∧el l 1=0)
instance (l:List Int):Decidable (ayq l):=by unfold ayq;infer_instance
def bai(l:List Int):List Int×Int:=if ayq l then(dl (bch l) 64,0)else([],43)
def smallN(l:List Int):Prop:=l.length=2∧1≤el l 0∧el l 0≤127∧0≤el l 1∧el l 1≤1
theorem smallN.ok{l:List Int}(h:smallN l):ayq l:=⟨h.1,by have:=h.2;omega,by have:=h.2;omega,by have:=h.2;omega,by have:=h.2;omega,by have:=h.2;omega⟩
def a5l(v:List UInt8)(ep:Int)(l:List Int):List UInt8:=sha ((v++be8 ep)++lsB l)
def vv(ep:Int):Cs:=⟨ep,1,0,0⟩
structure OkT(t:Tm):Prop where
 lo:0≤t.ep
 hi:t.ep<40
 ros:ju t.ros=true
 bea:t.bea.length=32
theorem OkT.len{t:Tm}(h:OkT t):t.ros.length≤64:=(i8 h.ros).2.2.2
theorem av6{r:Rl}{v:List UInt8}{l:List Int}{c d:Cs}{j:Int}{prev:List Int}(hr:dw r=0)(hne:dv l prev≠[])(hd:dq d=true):ckS d (nr r v l c j prev)=0:=by
 have h1:=(a1g hr).2.2
 have hl:=tz (r:=r) (v:=v) (l:=l) (c:=c) (j:=j) (prev:=prev)
 have hw:0<(dv l prev).length:=List.length_pos_iff.2 hne
 rw[pv,if_neg (by simp[hd]),if_pos]
 refine i7.2 ⟨fun e=> ?_,fun k hk=> ?_,yf,by omega⟩
 ·rw[e]at hl
  simp only[List.length_nil]at hl
  omega
 ·exact gw.2 (by have:=(pp.1 (ak6 hk)).1;omega)
theorem a5d{r:Rl}{t:Tm}{c:Cs}(hr:dw r=0)(ht:OkT t)(hc:dq c=true)(he:c.ep=t.ep)(h0:c.ro=0):cu r t c=(nr r t.bea t.ros c 0 [],0):=by
 unfold cu
 rw[if_neg (by simp[he]),yu,if_neg (by simp[hr]),if_neg (by simp[ht.ros]),if_neg (by simp[hc]),if_pos h0]
theorem al9{r:Rl}{t:Tm}{c:Cs}(hr:dw r=0)(ht:OkT t)(hc:dq c=true)(he:c.ep=t.ep):((cu r t c).2=0∨(cu r t c).2=44)∧(cu r t c).1.Nodup∧(∀k∈(cu r t c).1,k∈t.ros)∧((cu r t c).2=0→ckS c (cu r t c).1=0):=by
 have hn: ∀j prev,(nr r t.bea t.ros c j prev).Nodup∧∀k∈nr r t.bea t.ros c j prev,k∈t.ros:=fun j prev=>⟨yf,fun k hk=>(pp.1 (ak6 hk)).2.1⟩
 unfold cu
 rw[if_neg (by simp[he]),yu,if_neg (by simp[hr]),if_neg (by simp[ht.ros]),if_neg (by simp[hc])]
 split
 ·exact⟨.inl rfl,(hn _ _).1,(hn _ _).2,fun _=>av6 hr (af2 ht.ros) hc⟩
 ·split
  ·exact⟨.inr rfl,List.Pairwise.nil,fun k hk=>absurd hk (by simp),fun h=>by cases h⟩
  ·rename_i h
   exact⟨.inl rfl,(hn _ _).1,(hn _ _).2,fun _=>av6 hr h hc⟩
def stS(r:Rl)(t:Tm):List Int:=nr r t.bea t.ros (vv t.ep) 0 []
def stA(r:Rl)(L:List Stm)(t:Tm):List Ct:=tj (stS r t) (al L (vv t.ep))
def aal(L:List Stm)(c:Cs)(seats:List Int):List Ct:=if ckS c seats=0 then tj seats (al L c)else []
def ae0(r:Rl)(L:List Stm)(t:Tm):Tm:={t with dec:=decide ((stA r L t).length=1),nx:=ags (stA r L t)}
theorem a7m(r:Rl)(L M:List Stm)(t:Tm):ae0 r L (ae0 r M t)=ae0 r L t:=rfl
theorem baj(r:Rl)(L M:List Stm)(t:Tm):stA r L (ae0 r M t)=stA r L t:=rfl
theorem bae(r:Rl)(M:List Stm)(t:Tm):stS r (ae0 r M t)=stS r t:=rfl
def a8l(t:Tm):Option Tm:=if t.dec=true∧(bai t.nx.li).2=0 then some ⟨t.ep+1,(bai t.nx.li).1,a5l t.bea t.ep t.nx.li,false,noC⟩else none
def a2n(r:Rl)(L:List Stm):Nat→Tm→List Tm
 |0,_=>[]
 |n+1,t=>ae0 r L t::(match a8l (ae0 r L t)with|none=>[]|some u=>a2n r L n u)
def a7h(r:Rl)(L:List Stm):List Tm:=a2n r L 40 (j9 r)
theorem ajl{r:Rl}(hr:dw r=0):OkT (j9 r):=⟨Int.le_refl _,by show(0:Int)<40;omega,(a1g hr).1,aax _⟩
theorem bbl{α:Type} [Inhabited α](a:α)(l:List α):el (a::l) 0=a:=rfl
theorem ba2{α:Type} [Inhabited α](a:α)(l:List α)(i:Nat):el (a::l) (i+1)=el l i:=rfl
theorem a2g(r:Rl)(L:List Stm):el (a7h r L) 0=ae0 r L (j9 r):=rfl
structure ChS where
 p:Nat
 L:List Stm
 ros:List Int
 v:List UInt8
deriving Inhabited
def chS(r:Rl)(ep:Int)(s:ChS):List Int:=nr r s.v s.ros (vv ep) 0 []
def a97(l:List Int)(ep:Int)(x y:Ct)(k:Int)(st:Nat×List Stm):Nat×List Stm:=
 (dgo l st.1 1,st.2++(if aj l st.1 14=0 then []else if aj l st.1 14=1 then [vt k ep (vv ep) y]else if aj l st.1 14=2 then [vt k ep (vv ep) x,vt k (ep+9) (vv ep) y]else [vt k ep (vv ep) x]))
def a9j(l:List Int)(ep:Int)(x y:Ct)(seats:List Int)(st:Nat×List Stm):Nat→Nat×List Stm
 |0=>st
 |i+1=>a97 l ep x y (el seats i) (a9j l ep x y seats st i)
def chX(l:List Int)(ep:Int)(s:ChS):Ct×Nat:=l4 l (dgo l s.p 1) (vv ep)
def chY(l:List Int)(ep:Int)(s:ChS):Ct×Nat:=l4 l (chX l ep s).2 (vv ep)
def a8m(l:List Int)(r:Rl)(ep:Int)(s:ChS):ChS:=
 ⟨(a9j l ep (chX l ep s).1 (chY l ep s).1 (chS r ep s) ((chY l ep s).2,s.L) (chS r ep s).length).1,
  (a9j l ep (chX l ep s).1 (chY l ep s).1 (chS r ep s) ((chY l ep s).2,s.L) (chS r ep s).length).2,
  (bai (chX l ep s).1.li).1,a5l s.v ep (chX l ep s).1.li⟩
def ChV(t:Stm):Prop:= ∃k nu e x,t=vt k nu (vv e) x∧(0≤k∧k≤63)∧(0≤nu∧nu≤199)∧(0≤e∧e<40)∧vf x∧cz (vv e) x=true∧smallN x.li
theorem ChV.ok{t:Stm}(h:ChV t):okS t:=by
 obtain⟨k,nu,e,x,rfl,_,_,_,hx,_⟩:=h
 exact a2z _ _ _ hx
structure ChI(l:List Int)(ep:Nat)(s:ChS):Prop where
 p:s.p≤l.length
 ros:ju s.ros=true
 low: ∀k∈s.ros,0≤k∧k≤32
 v:s.v.length=32
 len:s.L.length≤18*ep
 ok: ∀t∈s.L,ChV t
theorem ChI.mono{l:List Int}{ep ep':Nat}{s:ChS}(h:ChI l ep s)(he:ep≤ep'):ChI l ep' s:=⟨h.p,h.ros,h.low,h.v,by have:=h.len;omega,h.ok⟩
def dh(c:Cs)(nu:Int)(x:Ct)(seats:List Int):List Stm:=seats.map fun k=>vt k nu c x
theorem q7{c:Cs}{nu:Int}{x:Ct}{seats:List Int}{s:Stm}:s∈dh c nu x seats↔∃k∈seats,vt k nu c x=s:=by simp[dh]
theorem asl{α:Type}{l:List α}{x:α}(hn:l.Nodup)(hx:x∈l)(h: ∀y∈l,y=x):l=[x]:=by
 match l,hn,hx,h with
 |[],_,hx,_=>simp at hx
 |[y],_,_,h=>rw[h y (by simp)]
 |y::z::r,hn,_,h=>
  have h1:=h y (by simp)
  have h2:=h z (by simp)
  subst h1
  subst h2
  simp at hn
theorem aw8{n:Nat}(h1:1≤n)(h9:n≤9):afa n n=true:=decide_eq_true (by omega)
structure EndP(c:Cs)(seats:List Int):Prop where
 c:dq c=true
 nd:seats.Nodup
 n0:1≤seats.length
 n9:seats.length≤9
 k: ∀k∈seats,0≤k∧k≤63
theorem EndP.of{c:Cs}{seats:List Int}(h:ckS c seats=0):EndP c seats:=by
 obtain⟨h1,h2,h3,h4⟩:=a0g h
 have h5:j8 seats=true:=by
  rw[pv,if_neg (by simp[h1])]at h
  split at h
  ·assumption
  ·cases h
 have h6:=(i7.1 h5).1
 exact⟨h1,h3,List.length_pos_iff.2 h6,h2,fun k hk=>by have:=h4 k hk;omega⟩
theorem air{c:Cs}{seats:List Int}{nu:Int}{x:Ct}(hE:EndP c seats)(hn:0≤nu∧nu≤199)(hx:cz c x=true){k:Int}(hk:k∈seats): ∀L,(∀s∈dh c nu x seats,s∈L)→∃y∈al L c,y.x=x∧y.k=k:=fun L hL=>by
 have hv:=aaj (hE.k k hk) hn hx
 refine⟨⟨k,c,x⟩,bo.2 ⟨vt k nu c x,hL _ (q7.2 ⟨k,hk,rfl⟩),a7x (hE.k k hk) hn hx,by rw[hv]⟩,rfl,rfl⟩
theorem awd{c:Cs}{seats:List Int}{nu:Int}{x:Ct}(hE:EndP c seats)(hn:0≤nu∧nu≤199)(hx:cz c x=true){L:List Stm}(hL: ∀s∈dh c nu x seats,s∈L):x∈tj seats (al L c):=
 a5w hE.nd (fun k hk=>⟨hk,air hE hn hx hk L hL⟩) (aw8 hE.n0 hE.n9)
theorem af5{c d:Cs}{seats:List Int}{nu:Int}{x:Ct}(hE:EndP c seats)(hn:0≤nu∧nu≤199)(hx:cz c x=true){s:Stm}(hs:s∈dh c nu x seats):(bh s).1.x=x∧(okV d s=true→d=c)∧s.au∈seats:=by
 obtain⟨k,hk,rfl⟩:=q7.1 hs
 have hv:=aaj (hE.k k hk) hn hx
 refine⟨by rw[hv],fun h=> ?_,hk⟩
 unfold okV at h
 rw[hv]at h
 simpa using (Eq.symm (of_decide_eq_true (Bool.and_eq_true_iff.1 h).2))
theorem aym{seats:List Int}{L:List Stm}{c:Cs}{u:Ct}(h:u∈tj seats (al L c)): ∃s∈L,okV c s=true∧(bh s).1.x=u:=by
 obtain⟨n,hn,e1,he⟩:=s8.1 h
 have hk:n.ks≠[]:=(eu _ _).r4 n hn
 obtain⟨k,ks,hk⟩:=List.exists_cons_of_ne_nil hk
 obtain⟨_,y,hy,e,_⟩:=aas hn (k:=k) (by rw[hk];simp)
 obtain⟨s,s1,s2,s3⟩:=bo.1 hy
 exact⟨s,s1,s2,by rw[s3,e,e1]⟩
end Go.Proofs.Am
