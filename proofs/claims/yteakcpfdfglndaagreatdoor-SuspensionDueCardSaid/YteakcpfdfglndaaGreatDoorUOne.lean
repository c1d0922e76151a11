/- UOne. -/
import Derived.Test.YteakcpfdfglndaaGreatDoorCThree
import Derived.Test.YteakcpfdfglndaaGreatDoorMTwo
set_option linter.unusedSimpArgs false
set_option linter.unusedVariables false
namespace Go.Proofs.Am
open Go Go.RowKit
open Go.Proofs
def bcq(l:List Int)(k:Int):Bool:=(el l (k.toNat/32)).toNat.testBit (k.toNat % 32)
def ayu(l:List Int):Prop:=l.length=2∧0≤el l 0∧el l 0<4294967296∧0≤el l 1∧el l 1<4294967296∧¬(el l 0=0∧el l 1=0)
instance (l:List Int):Decidable (ayu l):=by unfold ayu;infer_instance
def bad(l:List Int):List Int×Int:=if ayu l then(dl (bcq l) 64,0)else([],43)
def smallN(l:List Int):Prop:=l.length=2∧1≤el l 0∧el l 0≤127∧0≤el l 1∧el l 1≤1
theorem smallN.ok{l:List Int}(h:smallN l):ayu l:=⟨h.1,by have:=h.2;omega,by have:=h.2;omega,by have:=h.2;omega,by have:=h.2;omega,by have:=h.2;omega⟩
def a6g(v:List UInt8)(ep:Int)(l:List Int):List UInt8:=sha ((v++be8 ep)++lsB l)
def u2(ep:Int):Cs:=⟨ep,1,0,0⟩
structure OkT(t:Tm):Prop where
 lo:0≤t.ep
 hi:t.ep<40
 ros:j7 t.ros=true
 bea:t.bea.length=32
theorem OkT.len{t:Tm}(h:OkT t):t.ros.length≤64:=(i8 h.ros).2.2.2
theorem au8{r:Rl}{v:List UInt8}{l:List Int}{c d:Cs}{j:Int}{prev:List Int}(hr:du r=0)(hne:dw l prev≠[])(hd:dq d=true):ckS d (nr r v l c j prev)=0:=by
 have h1:=(ay0 hr).2.2
 have hl:=tk (r:=r) (v:=v) (l:=l) (c:=c) (j:=j) (prev:=prev)
 have hw:0<(dw l prev).length:=List.length_pos_iff.2 hne
 rw[pq,if_neg (by simp[hd]),if_pos]
 refine i9.2 ⟨fun e=> ?_,fun k hk=> ?_,zl,by omega⟩
 ·rw[e]at hl
  simp only[List.length_nil]at hl
  omega
 ·exact gz.2 (by have:=(pu.1 (ajs hk)).1;omega)
theorem a5y{r:Rl}{t:Tm}{c:Cs}(hr:du r=0)(ht:OkT t)(hc:dq c=true)(he:c.ep=t.ep)(h0:c.ro=0):cr r t c=(nr r t.bea t.ros c 0 [],0):=by
 unfold cr
 rw[if_neg (by simp[he]),zk,if_neg (by simp[hr]),if_neg (by simp[ht.ros]),if_neg (by simp[hc]),if_pos h0]
theorem anm{r:Rl}{t:Tm}{c:Cs}(hr:du r=0)(ht:OkT t)(hc:dq c=true)(he:c.ep=t.ep):((cr r t c).2=0∨(cr r t c).2=44)∧(cr r t c).1.Nodup∧(∀k∈(cr r t c).1,k∈t.ros)∧((cr r t c).2=0→ckS c (cr r t c).1=0):=by
 have hn: ∀j prev,(nr r t.bea t.ros c j prev).Nodup∧∀k∈nr r t.bea t.ros c j prev,k∈t.ros:=fun j prev=>⟨zl,fun k hk=>(pu.1 (ajs hk)).2.1⟩
 unfold cr
 rw[if_neg (by simp[he]),zk,if_neg (by simp[hr]),if_neg (by simp[ht.ros]),if_neg (by simp[hc])]
 split
 ·exact⟨.inl rfl,(hn _ _).1,(hn _ _).2,fun _=>au8 hr (aev ht.ros) hc⟩
 ·split
  ·exact⟨.inr rfl,List.Pairwise.nil,fun k hk=>absurd hk (by simp),fun h=>by cases h⟩
  ·rename_i h
   exact⟨.inl rfl,(hn _ _).1,(hn _ _).2,fun _=>au8 hr h hc⟩
def stS(r:Rl)(t:Tm):List Int:=nr r t.bea t.ros (u2 t.ep) 0 []
def stA(r:Rl)(L:List Stm)(t:Tm):List Ct:=tc (stS r t) (al L (u2 t.ep))
def abk(L:List Stm)(c:Cs)(seats:List Int):List Ct:=if ckS c seats=0 then tc seats (al L c)else []
def afz(r:Rl)(L:List Stm)(t:Tm):Tm:={t with dec:=decide ((stA r L t).length=1),nx:=aja (stA r L t)}
theorem a7w(r:Rl)(L M:List Stm)(t:Tm):afz r L (afz r M t)=afz r L t:=rfl
theorem bah(r:Rl)(L M:List Stm)(t:Tm):stA r L (afz r M t)=stA r L t:=rfl
theorem bak(r:Rl)(M:List Stm)(t:Tm):stS r (afz r M t)=stS r t:=rfl
def a8m(t:Tm):Option Tm:=if t.dec=true∧(bad t.nx.li).2=0 then some ⟨t.ep+1,(bad t.nx.li).1,a6g t.bea t.ep t.nx.li,false,noC⟩else none
def a2i(r:Rl)(L:List Stm):Nat→Tm→List Tm
 |0,_=>[]
 |n+1,t=>afz r L t::(match a8m (afz r L t)with|none=>[]|some u=>a2i r L n u)
def a7v(r:Rl)(L:List Stm):List Tm:=a2i r L 40 (kr r)
theorem alc{r:Rl}(hr:du r=0):OkT (kr r):=⟨Int.le_refl _,by show(0:Int)<40;omega,(ay0 hr).1,zz _⟩
theorem ba0{α:Type} [Inhabited α](a:α)(l:List α):el (a::l) 0=a:=rfl
theorem ba5{α:Type} [Inhabited α](a:α)(l:List α)(i:Nat):el (a::l) (i+1)=el l i:=rfl
theorem a1w(r:Rl)(L:List Stm):el (a7v r L) 0=afz r L (kr r):=rfl
structure ChS where
 p:Nat
 L:List Stm
 ros:List Int
 v:List UInt8
deriving Inhabited
def chS(r:Rl)(ep:Int)(s:ChS):List Int:=nr r s.v s.ros (u2 ep) 0 []
def a9u(l:List Int)(ep:Int)(x y:Ct)(k:Int)(st:Nat×List Stm):Nat×List Stm:=
 (dgo l st.1 1,st.2++(if aj l st.1 14=0 then []else if aj l st.1 14=1 then [vt k ep (u2 ep) y]else if aj l st.1 14=2 then [vt k ep (u2 ep) x,vt k (ep+9) (u2 ep) y]else [vt k ep (u2 ep) x]))
def a7y(l:List Int)(ep:Int)(x y:Ct)(seats:List Int)(st:Nat×List Stm):Nat→Nat×List Stm
 |0=>st
 |i+1=>a9u l ep x y (el seats i) (a7y l ep x y seats st i)
def chX(l:List Int)(ep:Int)(s:ChS):Ct×Nat:=lz l (dgo l s.p 1) (u2 ep)
def chY(l:List Int)(ep:Int)(s:ChS):Ct×Nat:=lz l (chX l ep s).2 (u2 ep)
def a93(l:List Int)(r:Rl)(ep:Int)(s:ChS):ChS:=
 ⟨(a7y l ep (chX l ep s).1 (chY l ep s).1 (chS r ep s) ((chY l ep s).2,s.L) (chS r ep s).length).1,
  (a7y l ep (chX l ep s).1 (chY l ep s).1 (chS r ep s) ((chY l ep s).2,s.L) (chS r ep s).length).2,
  (bad (chX l ep s).1.li).1,a6g s.v ep (chX l ep s).1.li⟩
def ChV(t:Stm):Prop:= ∃k nu e x,t=vt k nu (u2 e) x∧(0≤k∧k≤63)∧(0≤nu∧nu≤199)∧(0≤e∧e<40)∧w9 x∧cz (u2 e) x=true∧smallN x.li
theorem ChV.ok{t:Stm}(h:ChV t):okS t:=by
 obtain⟨k,nu,e,x,rfl,_,_,_,hx,_⟩:=h
 exact a18 _ _ _ hx
structure ChI(l:List Int)(ep:Nat)(s:ChS):Prop where
 p:s.p≤l.length
 ros:j7 s.ros=true
 low: ∀k∈s.ros,0≤k∧k≤32
 v:s.v.length=32
 len:s.L.length≤18*ep
 ok: ∀t∈s.L,ChV t
theorem ChI.mono{l:List Int}{ep ep':Nat}{s:ChS}(h:ChI l ep s)(he:ep≤ep'):ChI l ep' s:=⟨h.p,h.ros,h.low,h.v,by have:=h.len;omega,h.ok⟩
def da(c:Cs)(nu:Int)(x:Ct)(seats:List Int):List Stm:=seats.map fun k=>vt k nu c x
theorem rc{c:Cs}{nu:Int}{x:Ct}{seats:List Int}{s:Stm}:s∈da c nu x seats↔∃k∈seats,vt k nu c x=s:=by simp[da]
theorem auo{α:Type}{l:List α}{x:α}(hn:l.Nodup)(hx:x∈l)(h: ∀y∈l,y=x):l=[x]:=by
 match l,hn,hx,h with
 |[],_,hx,_=>simp at hx
 |[y],_,_,h=>rw[h y (by simp)]
 |y::z::r,hn,_,h=>
  have h1:=h y (by simp)
  have h2:=h z (by simp)
  subst h1
  subst h2
  simp at hn
theorem axz{n:Nat}(h1:1≤n)(h9:n≤9):ae9 n n=true:=decide_eq_true (by omega)
structure EndP(c:Cs)(seats:List Int):Prop where
 c:dq c=true
 nd:seats.Nodup
 n0:1≤seats.length
 n9:seats.length≤9
 k: ∀k∈seats,0≤k∧k≤63
theorem EndP.of{c:Cs}{seats:List Int}(h:ckS c seats=0):EndP c seats:=by
 obtain⟨h1,h2,h3,h4⟩:=axu h
 have h5:ju seats=true:=by
  rw[pq,if_neg (by simp[h1])]at h
  split at h
  ·assumption
  ·cases h
 have h6:=(i9.1 h5).1
 exact⟨h1,h3,List.length_pos_iff.2 h6,h2,fun k hk=>by have:=h4 k hk;omega⟩
theorem ah1{c:Cs}{seats:List Int}{nu:Int}{x:Ct}(hE:EndP c seats)(hn:0≤nu∧nu≤199)(hx:cz c x=true){k:Int}(hk:k∈seats): ∀L,(∀s∈da c nu x seats,s∈L)→∃y∈al L c,y.x=x∧y.k=k:=fun L hL=>by
 have hv:=aag (hE.k k hk) hn hx
 refine⟨⟨k,c,x⟩,bo.2 ⟨vt k nu c x,hL _ (rc.2 ⟨k,hk,rfl⟩),a9t (hE.k k hk) hn hx,by rw[hv]⟩,rfl,rfl⟩
theorem aua{c:Cs}{seats:List Int}{nu:Int}{x:Ct}(hE:EndP c seats)(hn:0≤nu∧nu≤199)(hx:cz c x=true){L:List Stm}(hL: ∀s∈da c nu x seats,s∈L):x∈tc seats (al L c):=
 a3u hE.nd (fun k hk=>⟨hk,ah1 hE hn hx hk L hL⟩) (axz hE.n0 hE.n9)
theorem afq{c d:Cs}{seats:List Int}{nu:Int}{x:Ct}(hE:EndP c seats)(hn:0≤nu∧nu≤199)(hx:cz c x=true){s:Stm}(hs:s∈da c nu x seats):(bh s).1.x=x∧(okV d s=true→d=c)∧s.au∈seats:=by
 obtain⟨k,hk,rfl⟩:=rc.1 hs
 have hv:=aag (hE.k k hk) hn hx
 refine⟨by rw[hv],fun h=> ?_,hk⟩
 unfold okV at h
 rw[hv]at h
 simpa using (Eq.symm (of_decide_eq_true (Bool.and_eq_true_iff.1 h).2))
theorem aw0{seats:List Int}{L:List Stm}{c:Cs}{u:Ct}(h:u∈tc seats (al L c)): ∃s∈L,okV c s=true∧(bh s).1.x=u:=by
 obtain⟨n,hn,e1,he⟩:=td.1 h
 have hk:n.ks≠[]:=(ez _ _).r4 n hn
 obtain⟨k,ks,hk⟩:=List.exists_cons_of_ne_nil hk
 obtain⟨_,y,hy,e,_⟩:=aa0 hn (k:=k) (by rw[hk];simp)
 obtain⟨s,s1,s2,s3⟩:=bo.1 hy
 exact⟨s,s1,s2,by rw[s3,e,e1]⟩
end Go.Proofs.Am
