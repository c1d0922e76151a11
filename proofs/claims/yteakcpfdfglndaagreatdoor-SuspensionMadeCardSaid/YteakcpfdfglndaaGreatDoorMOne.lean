/- MOne. -/
import Derived.Test.YteakcpfdfglndaaGreatDoorHOne
import Derived.Test.YteakcpfdfglndaaGreatDoorEOne
import Derived.Test.YteakcpfdfglndaaGreatDoorGOne
set_option linter.unusedSimpArgs false
set_option linter.unusedVariables false
namespace Go.Proofs.Am
open Go Go.RowKit
open Go.Proofs
theorem a3y{seats:List Int}{l:List Stm}{c:Cs}:(adw seats (am l c)).length≤l.length:=by
 have h1:=wz l c
 have h2:=(ae4 seats (fun y hy=>(ob (l:=l) (c:=c) y hy).1) _ (Nat.le_refl _)).1
 have h3:(adw seats (am l c)).length≤(cnR seats (am l c)).length:=by
  unfold adw
  rw[List.length_map]
  exact List.length_filter_le _ _
 have h4:cnI seats (am l c) (am l c).length=cnR seats (am l c):=rfl
 rw[h4]at h2
 omega
def zS:List PV:=[.int .i64 0,.int .i64 0,.str [],.int .i64 0,.int .i64 0,.int .i64 0,.int .i64 0,.int .i64 0,.vs [],.vs [],.str [],.int .i64 0,.str []]
theorem bdu:zS=[PV.int .i64 0,PV.int .i64 0,PV.str [],PV.int .i64 0,PV.int .i64 0,PV.int .i64 0,PV.int .i64 0,PV.int .i64 0,.nils,.nils,PV.str [],PV.int .i64 0,PV.str []].map zf:=(rfl)
theorem a1b(a b:Ct):decide (jx a b=0)=decide (a=b):=by
 rw[Bool.eq_iff_iff,decide_eq_true_eq,decide_eq_true_eq]
 exact pa a b
theorem al3{seats:List Int}{l:List Stm}{c:Cs}:ml (yv (adw seats (am l c))):=by
 unfold yv
 split
 ·rename_i h
  have hm:el (adw seats (am l c)) 0∈adw seats (am l c):=aw (by omega)
  obtain⟨n,hn,e,he⟩:=ame.1 hm
  have hk:n.ks≠[]:=(vd seats (am l c)).r4 n hn
  obtain⟨k,r,hk⟩:=List.exists_cons_of_ne_nil hk
  obtain⟨_,y,hy,e2,_⟩:=akq hn (k:=k) (by rw[hk];simp)
  rw[←e,←e2]
  exact io (ob y hy).1
 ·exact⟨by simp[noC,big],by simp[noC,big]⟩
theorem ao4{l:List Pn}(h:aj (arl l)=0):jv l=true∧l.length≤64:=by
 obtain⟨_,h2,h3,_⟩:=jk h
 exact⟨h3,h2⟩
theorem ay8{k nu:Int}{c:Cs}{x:Ct}(hk:0≤k∧k≤63)(hn:0≤nu∧nu≤199)(hr:fq c x=true):cw (vt k nu c x)=(⟨k,c,x⟩,true):=by
 have hr':=hr
 unfold fq at hr'
 simp only[Bool.and_eq_true,decide_eq_true_eq]at hr'
 obtain⟨hc,hp,hl⟩:=hr'
 obtain⟨p1,p2⟩:=ao4 hp
 have hc':=of_decide_eq_true hc
 have hd:(dz c x).1=⟨10,c.ep,c.kd+16*c.ro,c.su,x.li,x.pi⟩:=by
  unfold dz
  rw[if_neg (by simp[hc]),if_neg (by simp[hr])]
 have a1:(vt k nu c x).au=k:=rfl
 have a2:(vt k nu c x).kd=10:=by show(dz c x).1.kd=10;rw[hd]
 have a3:(vt k nu c x).ti=1:=rfl
 have a4:(vt k nu c x).nu=nu:=rfl
 have a5:(vt k nu c x).a=c.ep:=by show(dz c x).1.a=_;rw[hd]
 have a6:(vt k nu c x).b=c.kd+16*c.ro:=by show(dz c x).1.b=_;rw[hd]
 have a7:(vt k nu c x).c=c.su:=by show(dz c x).1.c=_;rw[hd]
 have a8:(vt k nu c x).li=x.li:=by show(dz c x).1.li=_;rw[hd]
 have a9:(vt k nu c x).pins=x.pi:=by show(dz c x).1.pins=_;rw[hd]
 have a10:(vt k nu c x).body=[]:=rfl
 have a11:(vt k nu c x).prev=if 0<nu then List.replicate 32 0 else []:=rfl
 have a12:(vt k nu c x).sk=(vt k nu c x).au∧(vt k nu c x).sd=dig (vt k nu c x):=mc _ _ _ _
 have hmk:mkV (vt k nu c x)=⟨k,c,x⟩:=by
  unfold mkV
  rw[a1,a5,a6,a7,a8,a9]
  have e1:(c.kd+16*c.ro).tmod 16=c.kd:=by rw[Int.tmod_eq_emod_of_nonneg (by omega)];omega
  have e2:(c.kd+16*c.ro).tdiv 16=c.ro:=by rw[Int.tdiv_eq_ediv_of_nonneg (by omega)];omega
  rw[e1,e2]
 have b8:x.li.length≤64∧(x.li.any fun x=> !gw x)=false:=by
  unfold abu at hl
  split at hl
  ·have h:=of_decide_eq_true hl
   match hx:x.li,h.1 with
   |[u,v],_=>
    rw[hx]at h
    have h2:(0:Int)≤u∧u<4294967296∧0≤v∧v<4294967296:=⟨h.2.1,h.2.2.1,h.2.2.2.1,h.2.2.2.2⟩
    refine⟨by simp,?_⟩
    have e1:gw u=true:=decide_eq_true (by omega)
    have e2:gw v=true:=decide_eq_true (by omega)
    simp[e1,e2]
  ·have h:=of_decide_eq_true hl
   match hx:x.li,h.1 with
   |[u],_=>
    rw[hx]at h
    have h2:u=0∨u=1:=h.2
    refine⟨by simp,?_⟩
    have e1:gw u=true:=decide_eq_true (by omega)
    simp[e1]
 have hch:aj (vt k nu c x)=0:=by
  generalize vt k nu c x=s at*
  have b1:inB s.au 0 63=true:=decide_eq_true (by omega)
  have b2:inB s.kd 10 31=true:=decide_eq_true (by omega)
  have b3:inB s.ti 0 2147483648=true:=decide_eq_true (by omega)
  have b4:inB s.nu 0 199=true:=decide_eq_true (by omega)
  have b5:gw s.a=true:=decide_eq_true (by omega)
  have b6:gw s.b=true:=decide_eq_true (by omega)
  have b7:gw s.c=true:=decide_eq_true (by omega)
  have b9:d9 s=true:=by rw[d9,if_neg (by omega),if_neg (by omega),if_neg (by omega)]
  have b10:(decide (s.nu=0)&&decide (s.prev≠[]))=false:=by
   by_cases h:s.nu=0
   ·rw[a11,if_neg (by omega)];simp
   ·simp[h]
  have b11:(decide (0<s.nu)&&decide (s.prev.length≠32))=false:=by
   by_cases h:0<s.nu
   ·rw[a11,if_pos (by omega)];simp
   ·simp[h]
  have b12:decide (s.kd≤3)=false:=decide_eq_false (by omega)
  have b13:decide (64<x.li.length)=false:=decide_eq_false (by omega)
  have b14:decide (64<x.pi.length)=false:=decide_eq_false (by omega)
  simp only[aj,b1,b2,b3,b4,b5,b6,b7,b8.2,b9,b10,b11,b12,b13,b14,a8,a9,a10,p1]
  simp
 exact u9 hch ⟨a2,a10⟩ (by rw[hmk];exact hr) hmk a12
structure RV1(c:Cs)(x:Ct)(S:List Int)(P:List Stm):Prop where
 ok: ∀s∈P,okV c s=true∧s.au∈S∧(cw s).1.x=x
 up:P.Pairwise fun a b=>a.au<b.au
theorem RV1.nil{c:Cs}{x:Ct}{S:List Int}:RV1 c x S []:=⟨by simp,List.Pairwise.nil⟩
theorem RV1.skip{c:Cs}{x:Ct}{seats:List Int}{P:List Stm}{i:Nat}(h:RV1 c x (seats.take i) P):RV1 c x (seats.take (i+1)) P:=by
 refine⟨fun s hs=> ?_,h.up⟩
 obtain⟨h1,h2,h3⟩:=h.ok s hs
 exact⟨h1,List.take_subset_take_left _ (Nat.le_succ i) h2,h3⟩
structure MiS where
 r:Nat
 S:List Stm
 T:List Int
structure MiI(l:List Int)(c:Cs)(seats:List Int)(i:Nat)(s:MiS):Prop where
 r:s.r≤l.length
 len:s.S.length≤2*i
 ok: ∀t∈s.S,okS t∧t.au∈seats.take i
 two: ∀t∈s.S,∀u∈s.S,t.au=u.au→(cw t).1.x=(cw u).1.x∨t.au∈s.T
 half:2*s.T.length≤seats.length
end Go.Proofs.Am
