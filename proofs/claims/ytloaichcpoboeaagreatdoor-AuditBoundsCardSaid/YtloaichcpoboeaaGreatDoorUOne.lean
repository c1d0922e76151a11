/- UOne. -/
import Derived.Test.YtloaichcpoboeaaGreatDoorCThree
import Derived.Test.YtloaichcpoboeaaGreatDoorMOne
set_option linter.unusedSimpArgs false
set_option linter.unusedVariables false
namespace Go.Proofs.Am
open Go Go.RowKit
open Go.Proofs
def ad8(l:List Int)(k:Int):Bool:=(el l (k.toNat/32)).toNat.testBit (k.toNat % 32)
def tl(l:List Int):Prop:=l.length=2/\0<=el l 0/\el l 0<4294967296/\0<=el l 1/\el l 1<4294967296/\¬(el l 0=0/\el l 1=0)
instance (l:List Int):Decidable (tl l):=by unfold tl;infer_instance
def aj6(l:List Int):List Int×Int:=if tl l then(fc (ad8 l) 64,0)else([],43)
theorem aeh{l:List Int}(h:tl l):aj6 l=(fc (ad8 l) 64,0):=if_pos h
theorem yg{l:List Int}(h: ¬tl l):aj6 l=([],43):=if_neg h
theorem a57{n:Nat}(h0:n≠0)(h:n<4294967296): ∃i,i<32/\n.testBit i=true:=by
 obtain⟨i,hi⟩:=Nat.exists_testBit_of_ne_zero h0;refine⟨i,?_,hi⟩;rcases Nat.lt_or_ge i 32 with h1|h1
 ·exact h1
 ·have h2:n<2^i:=Nat.lt_of_lt_of_le h (by
   have:(4294967296:Nat)=2^32:=by rfl
   rw[this];exact Nat.pow_le_pow_right (by omega) h1)
  rw[Nat.testBit_lt_two_pow h2]at hi
  cases hi
theorem a5w{l:List Int}{j i:Nat}(hj:j<2)(hi:i<32)(h:(el l j).toNat.testBit i=true):((32*j+i:Nat):Int)∈fc (ad8 l) 64:=by
 refine qq.2 ⟨⟨by omega,by omega⟩,?_⟩;unfold ad8;rw[Int.toNat_natCast];have e1:(32*j+i)/32=j:=by omega
 have e2:(32*j+i) % 32=i:=by omega
 rw[e1,e2];exact h
theorem bav{l:List Int}(h:tl l):vy (fc (ad8 l) 64)=true:=by
 obtain⟨_,h1,h2,h3,h4,h5⟩:=h
 have key: ∀j,j<2->el l j≠0->0<=el l j->el l j<4294967296->fc (ad8 l) 64≠[]:=fun j hj h0 ha hb e=>by
  obtain⟨i,hi,ht⟩:=a57 (n:=(el l j).toNat) (by omega) (by omega);have:=a5w hj hi ht;rw[e]at this
  cases this
 refine ajd ?_;by_cases h0:el l 0=0
 ·exact key 1 (by omega) (fun h=>h5 ⟨h0,h⟩) h3 h4
 ·exact key 0 (by omega) h0 h1 h2
theorem a3o{l:List Int}(h:(aj6 l).2=0):tl l/\aj6 l=(fc (ad8 l) 64,0)/\vy (aj6 l).1=true:=by
 by_cases hd:tl l
 ·rw[aeh hd];exact⟨hd,rfl,bav hd⟩
 ·rw[yg hd]at h
  cases h
def smallN(l:List Int):Prop:=l.length=2/\1<=el l 0/\el l 0<=127/\0<=el l 1/\el l 1<=1
theorem smallN.ok{l:List Int}(h:smallN l):tl l:=⟨h.1,by have:=h.2;omega,by have:=h.2;omega,by have:=h.2;omega,by have:=h.2;omega,by have:=h.2;omega⟩
def ai4(v:List UInt8)(ep:Int)(l:List Int):List UInt8:=sha ((v++be8 ep)++lsB l)
theorem a0f(v:List UInt8)(ep:Int)(l:List Int):(ai4 v ep l).length=32:=amc _
def vg(ep:Int):Cs:=⟨ep,1,0,0⟩
theorem aqn{ep:Int}(h0:0<=ep)(h1:ep<40):l6 (vg ep)=true:=ady ⟨h0,h1,by simp[vg],by simp[vg],by simp[vg],by simp[vg],.inl ⟨rfl,rfl,rfl⟩⟩
structure OkT(t:Tm):Prop where
 lo:0<=t.ep
 hi:t.ep<40
 ros:vy t.ros=true
 bea:t.bea.length=32
theorem OkT.len{t:Tm}(h:OkT t):t.ros.length<=64:=(tu h.ros).2.2.2
theorem be4{r:Rl}{v:List UInt8}{l:List Int}{c d:Cs}{j:Int}{prev:List Int}(hr:gq r=0)(hne:i8 l prev≠[])(hd:l6 d=true):ckS d (xr r v l c j prev)=0:=by
 have h1:=(a7s hr).2.2;have hl:=ae9 (r:=r) (v:=v) (l:=l) (c:=c) (j:=j) (prev:=prev);have hw:0<(i8 l prev).length:=List.length_pos_iff.2 hne;rw[q8,if_neg (by simp[hd]),if_pos];refine jt.2 ⟨fun e=> ?_,fun k hk=> ?_,aua,by omega⟩
 ·rw[e]at hl;simp only[List.length_nil]at hl;omega
 ·exact im.2 (by have:=(yn.1 (a8g hk)).1;omega)
theorem bcf{r:Rl}{t:Tm}{c:Cs}(hr:gq r=0)(ht:OkT t)(hc:l6 c=true)(he:c.ep=t.ep)(h0:c.ro=0):o7 r t c=(xr r t.bea t.ros c 0 [],0):=by
 unfold o7;rw[if_neg (by simp[he]),avm,if_neg (by simp[hr]),if_neg (by simp[ht.ros]),if_neg (by simp[hc]),if_pos h0]
def stS(r:Rl)(t:Tm):List Int:=xr r t.bea t.ros (vg t.ep) 0 []
def stA(r:Rl)(L:List Stm)(t:Tm):List Ct:=ams (stS r t) (bj L (vg t.ep))
theorem ax8{r:Rl}{t:Tm}(hr:gq r=0)(ht:OkT t):o7 r t (vg t.ep)=(stS r t,0):=bcf hr ht (aqn ht.lo ht.hi) rfl rfl
theorem bhf{r:Rl}{t:Tm}(hr:gq r=0)(ht:OkT t):ckS (vg t.ep) (stS r t)=0:=be4 hr (a1m ht.ros) (aqn ht.lo ht.hi)
def aqo(L:List Stm)(c:Cs)(seats:List Int):List Ct:=if ckS c seats=0 then ams seats (bj L c)else []
def biz(r:Rl)(L:List Stm)(t:Tm)(c:Cs):Ct×Bool×Int:=
 if(o7 r t c).2≠0 then(noC,false,(o7 r t c).2)else(auj (aqo L c (o7 r t c).1),decide ((aqo L c (o7 r t c).1).length=1),ckS c (o7 r t c).1)
theorem bbv{r:Rl}{L:List Stm}{t:Tm}(hr:gq r=0)(ht:OkT t):biz r L t (vg t.ep)=(auj (stA r L t),decide ((stA r L t).length=1),0):=by
 unfold biz aqo;rw[ax8 hr ht];simp only[ne_eq,not_true_eq_false,if_false,bhf hr ht,if_true];rfl
def eo(r:Rl)(L:List Stm)(t:Tm):Tm:={t with dec:=decide ((stA r L t).length=1),nx:=auj (stA r L t)}
theorem a3u{r:Rl}{L:List Stm}{t:Tm}(h:OkT t):OkT (eo r L t):=⟨h.lo,h.hi,h.ros,h.bea⟩
theorem bf7(r:Rl)(L M:List Stm)(t:Tm):eo r L (eo r M t)=eo r L t:=rfl
theorem bis(r:Rl)(L M:List Stm)(t:Tm):stA r L (eo r M t)=stA r L t:=rfl
theorem bi0(r:Rl)(M:List Stm)(t:Tm):stS r (eo r M t)=stS r t:=rfl
def o6(t:Tm):Option Tm:=if t.dec=true/\(aj6 t.nx.li).2=0 then some ⟨t.ep+1,(aj6 t.nx.li).1,ai4 t.bea t.ep t.nx.li,false,noC⟩else none
theorem pg{t u:Tm}(h:o6 t=some u):t.dec=true/\(aj6 t.nx.li).2=0/\u=⟨t.ep+1,(aj6 t.nx.li).1,ai4 t.bea t.ep t.nx.li,false,noC⟩:=by
 unfold o6 at h;split at h
 ·rename_i h1;exact⟨h1.1,h1.2,(Option.some.inj h).symm⟩
 ·cases h
theorem a1f{t u:Tm}(ht:OkT t)(h:o6 t=some u)(he:t.ep<39):OkT u:=by
 obtain⟨_,h2,rfl⟩:=pg h;exact⟨by have:=ht.lo;show 0<=t.ep+1;omega,by show t.ep+1<40;omega,(a3o h2).2.2,a0f _ _ _⟩
def o5(r:Rl)(L:List Stm):Nat->Tm->List Tm
 |0,_=>[]
 |n+1,t=>eo r L t::(match o6 (eo r L t)with|none=>[]|some u=>o5 r L n u)
def xa(r:Rl)(L:List Stm):List Tm:=o5 r L 40 (yl r)
theorem apy{r:Rl}(hr:gq r=0):OkT (yl r):=⟨Int.le_refl _,by show(0:Int)<40;omega,(a7s hr).1,amc _⟩
theorem bkc{α:Type} [Inhabited α](a:α)(l:List α):el (a::l) 0=a:=rfl
theorem bj8{α:Type} [Inhabited α](a:α)(l:List α)(i:Nat):el (a::l) (i+1)=el l i:=rfl
theorem a9j(r:Rl)(L:List Stm):el (xa r L) 0=eo r L (yl r):=rfl
structure ChS where
 p:Nat
 L:List Stm
 ros:List Int
 v:List UInt8
deriving Inhabited
def ChV(t:Stm):Prop:= ∃k nu e x,t=vt k nu (vg e) x/\(0<=k/\k<=63)/\(0<=nu/\nu<=199)/\(0<=e/\e<40)/\ajv x/\o4 (vg e) x=true/\smallN x.li
theorem ChV.ok{t:Stm}(h:ChV t):okS t:=by
 obtain⟨k,nu,e,x,rfl,_,_,_,hx,_⟩:=h;exact bh2 _ _ _ hx
structure ChI(l:List Int)(ep:Nat)(s:ChS):Prop where
 p:s.p<=l.length
 ros:vy s.ros=true
 low: ∀k∈s.ros,0<=k/\k<=32
 v:s.v.length=32
 len:s.L.length<=18*ep
 ok: ∀t∈s.L,ChV t
theorem ChI.mono{l:List Int}{ep ep':Nat}{s:ChS}(h:ChI l ep s)(he:ep<=ep'):ChI l ep' s:=⟨h.p,h.ros,h.low,h.v,by have:=h.len;omega,h.ok⟩
structure EndP(c:Cs)(seats:List Int):Prop where
 c:l6 c=true
 nd:seats.Nodup
 n0:1<=seats.length
 n9:seats.length<=9
 k: ∀k∈seats,0<=k/\k<=63
theorem EndP.of{c:Cs}{seats:List Int}(h:ckS c seats=0):EndP c seats:=by
 obtain⟨h1,h2,h3,h4⟩:=a3q h
 have h5:kv seats=true:=by
  rw[q8,if_neg (by simp[h1])]at h;split at h
  ·assumption
  ·cases h
 have h6:=(jt.1 h5).1;exact⟨h1,h3,List.length_pos_iff.2 h6,h2,fun k hk=>by have:=h4 k hk;omega⟩
end Go.Proofs.Am
