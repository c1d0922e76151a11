/- MTwo. -/
import Derived.Test.YteakcpfdfglndaaGreatDoorMOne
import Derived.Test.YteakcpfdfglndaaGreatDoorNOne
set_option linter.unusedSimpArgs false
set_option linter.unusedVariables false
namespace Go.Proofs.Am
open Go Go.RowKit
open Go.Proofs
theorem an6{l:List Pn}(h:ah (ap0 l)=0):jj l=true∧l.length≤64:=by
 obtain⟨_,h2,h3,_⟩:=jc h
 exact⟨h3,h2⟩
theorem aag{k nu:Int}{c:Cs}{x:Ct}(hk:0≤k∧k≤63)(hn:0≤nu∧nu≤199)(hr:cz c x=true):bh (vt k nu c x)=(⟨k,c,x⟩,true):=by
 have hr':=hr
 unfold cz at hr'
 simp only[Bool.and_eq_true,decide_eq_true_eq]at hr'
 obtain⟨hc,hp,hl⟩:=hr'
 obtain⟨p1,p2⟩:=an6 hp
 have hc':=of_decide_eq_true hc
 have hd:(dx c x).1=⟨10,c.ep,c.kd+16*c.ro,c.su,x.li,x.pi⟩:=by
  unfold dx
  rw[if_neg (by simp[hc]),if_neg (by simp[hr])]
 have a1:(vt k nu c x).au=k:=rfl
 have a2:(vt k nu c x).kd=10:=by show(dx c x).1.kd=10;rw[hd]
 have a3:(vt k nu c x).ti=1:=rfl
 have a4:(vt k nu c x).nu=nu:=rfl
 have a5:(vt k nu c x).a=c.ep:=by show(dx c x).1.a=_;rw[hd]
 have a6:(vt k nu c x).b=c.kd+16*c.ro:=by show(dx c x).1.b=_;rw[hd]
 have a7:(vt k nu c x).c=c.su:=by show(dx c x).1.c=_;rw[hd]
 have a8:(vt k nu c x).li=x.li:=by show(dx c x).1.li=_;rw[hd]
 have a9:(vt k nu c x).pins=x.pi:=by show(dx c x).1.pins=_;rw[hd]
 have a10:(vt k nu c x).body=[]:=rfl
 have a11:(vt k nu c x).prev=if 0<nu then List.replicate 32 0 else []:=rfl
 have a12:(vt k nu c x).sk=(vt k nu c x).au∧(vt k nu c x).sd=dig (vt k nu c x):=lf _ _ _ _
 have hmk:mkV (vt k nu c x)=⟨k,c,x⟩:=by
  unfold mkV
  rw[a1,a5,a6,a7,a8,a9]
  have e1:(c.kd+16*c.ro).tmod 16=c.kd:=by rw[Int.tmod_eq_emod_of_nonneg (by omega)];omega
  have e2:(c.kd+16*c.ro).tdiv 16=c.ro:=by rw[Int.tdiv_eq_ediv_of_nonneg (by omega)];omega
  rw[e1,e2]
 have b8:x.li.length≤64∧(x.li.any fun x=> !gn x)=false:=by
  unfold aa2 at hl
  split at hl
  ·have h:=of_decide_eq_true hl
   match hx:x.li,h.1 with
   |[u,v],_=>
    rw[hx]at h
    have h2:(0:Int)≤u∧u<4294967296∧0≤v∧v<4294967296:=⟨h.2.1,h.2.2.1,h.2.2.2.1,h.2.2.2.2⟩
    refine⟨by simp,?_⟩
    have e1:gn u=true:=decide_eq_true (by omega)
    have e2:gn v=true:=decide_eq_true (by omega)
    simp[e1,e2]
  ·have h:=of_decide_eq_true hl
   match hx:x.li,h.1 with
   |[u],_=>
    rw[hx]at h
    have h2:u=0∨u=1:=h.2
    refine⟨by simp,?_⟩
    have e1:gn u=true:=decide_eq_true (by omega)
    simp[e1]
 have hch:ah (vt k nu c x)=0:=by
  generalize vt k nu c x=s at*
  have b1:inB s.au 0 63=true:=decide_eq_true (by omega)
  have b2:inB s.kd 10 31=true:=decide_eq_true (by omega)
  have b3:inB s.ti 0 2147483648=true:=decide_eq_true (by omega)
  have b4:inB s.nu 0 199=true:=decide_eq_true (by omega)
  have b5:gn s.a=true:=decide_eq_true (by omega)
  have b6:gn s.b=true:=decide_eq_true (by omega)
  have b7:gn s.c=true:=decide_eq_true (by omega)
  have b9:d8 s=true:=by rw[d8,if_neg (by omega),if_neg (by omega),if_neg (by omega)]
  have b10:(decide (s.nu=0)&&decide (s.prev≠[]))=false:=by
   by_cases h:s.nu=0
   ·rw[a11,if_neg (by omega)];simp
   ·simp[h]
  have b11:(decide (0<s.nu)&&decide (s.prev.length≠32))=false:=by
   by_cases h:0<s.nu
   ·rw[a11,if_pos (by omega)];simp
   ·simp[h]
  have b12:decide (s.kd≤3)=false:=decide_eq_false (by omega)
  have b13:decide (64<x.li.length)=false:=decide_eq_false (by omega)
  have b14:decide (64<x.pi.length)=false:=decide_eq_false (by omega)
  simp only[ah,b1,b2,b3,b4,b5,b6,b7,b8.2,b9,b10,b11,b12,b13,b14,a8,a9,a10,p1]
  simp
 exact tt hch ⟨a2,a10⟩ (by rw[hmk];exact hr) hmk a12
theorem a9t{k nu:Int}{c:Cs}{x:Ct}(hk:0≤k∧k≤63)(hn:0≤nu∧nu≤199)(hr:cz c x=true):okV c (vt k nu c x)=true:=by
 simp[okV,aag hk hn hr]
structure RV1(c:Cs)(x:Ct)(S:List Int)(P:List Stm):Prop where
 ok: ∀s∈P,okV c s=true∧s.au∈S∧(bh s).1.x=x
 up:P.Pairwise fun a b=>a.au<b.au
theorem RV1.nil{c:Cs}{x:Ct}{S:List Int}:RV1 c x S []:=⟨by simp,List.Pairwise.nil⟩
theorem RV1.skip{c:Cs}{x:Ct}{seats:List Int}{P:List Stm}{i:Nat}(h:RV1 c x (seats.take i) P):RV1 c x (seats.take (i+1)) P:=by
 refine⟨fun s hs=> ?_,h.up⟩
 obtain⟨h1,h2,h3⟩:=h.ok s hs
 exact⟨h1,List.take_subset_take_left _ (Nat.le_succ i) h2,h3⟩
structure MiS where
 r:Nat
 S:List Stm
 T:List Int
structure MiI(l:List Int)(c:Cs)(seats:List Int)(i:Nat)(s:MiS):Prop where
 r:s.r≤l.length
 len:s.S.length≤2*i
 ok: ∀t∈s.S,okS t∧t.au∈seats.take i
 two: ∀t∈s.S,∀u∈s.S,t.au=u.au→(bh t).1.x=(bh u).1.x∨t.au∈s.T
 half:2*s.T.length≤seats.length
end Go.Proofs.Am
