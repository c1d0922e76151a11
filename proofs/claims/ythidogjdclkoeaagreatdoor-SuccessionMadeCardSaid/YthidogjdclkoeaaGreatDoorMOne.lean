/- MOne. -/
import Derived.Test.YthidogjdclkoeaaGreatDoorHOne
import Derived.Test.YthidogjdclkoeaaGreatDoorEOne
import Derived.Test.YthidogjdclkoeaaGreatDoorGOne
set_option linter.unusedSimpArgs false
set_option linter.unusedVariables false
namespace Go.Proofs.Am
open Go Go.RowKit
open Go.Proofs
theorem ajg{seats:List Int}{l:List Stm}{c:Cs}:(acs seats (d5 l c)).length<=l.length:=by
 have h1:=w8 l c;have h2:=(adw seats (fun y hy=>(po (l:=l) (c:=c) y hy).1) _ (Nat.le_refl _)).1
 have h3:(acs seats (d5 l c)).length<=(cnR seats (d5 l c)).length:=by
  unfold acs;rw[List.length_map];exact List.length_filter_le _ _
 have h4:cnI seats (d5 l c) (d5 l c).length=cnR seats (d5 l c):=rfl;rw[h4]at h2;omega
theorem ak8{seats:List Int}{l:List Stm}{c:Cs}:re (yh (acs seats (d5 l c))):=by
 unfold yh;split
 ·rename_i h;have hm:el (acs seats (d5 l c)) 0∈acs seats (d5 l c):=bz (by omega);obtain⟨n,hn,e,he⟩:=ayb.1 hm;have hk:n.ks≠[]:=(ab1 seats (d5 l c)).r4 n hn;obtain⟨k,r,hk⟩:=List.exists_cons_of_ne_nil hk;obtain⟨_,y,hy,e2,_⟩:=aqt hn (k:=k) (by rw[hk];simp);rw[<-e,<-e2];exact ky (po y hy).1
 ·exact⟨by simp[noC,big],by simp[noC,big]⟩
theorem avm(p:Pn)(h1:j1 [p]=true):am (adb [p])=0:=by
 have b8:ef (adb [p])=true:=by rw[ef,if_neg (by simp[adb]),if_neg (by simp[adb]),if_neg (by simp[adb])]
 simp only[am,b8];simp[adb,h1,inB,ja]
theorem wy(l:List Int)(p:Nat){c:Cs}(hc:fq c=true):et c (aq l p c).1=true:=by
 have b1:=bh (l:=l) (p:=p) (n:=2) (by omega);have b2:=bh (l:=l) (p:=p) (n:=127) (by omega);have b3:=bh (l:=l) (p:=dgo l p 1) (n:=3) (by omega);have b4:=bh (l:=l) (p:=dgo l p 3) (n:=4) (by omega);have b5:=bh (l:=l) (p:=dgo l p 4) (n:=3) (by omega);have hnil:am (adb [])=0:=by decide
 have e3:0<=el ([0,0,1]:List Int) (aj l (dgo l p 1) 3).toNat/\el ([0,0,1]:List Int) (aj l (dgo l p 1) 3).toNat<4294967296:=by
  have:(aj l (dgo l p 1) 3).toNat=0\/(aj l (dgo l p 1) 3).toNat=1\/(aj l (dgo l p 1) 3).toNat=2:=by omega
  rcases this with h|h|h<;>rw[h]<;>decide
 unfold et aq;rw[hc,Bool.true_and];split
 ·rename_i h;have hk: ¬c.kd=1:=h;simp only[hnil,decide_true,Bool.true_and,abi,if_neg hk];exact decide_eq_true ⟨rfl,by show aj l p 2=0\/aj l p 2=1;omega⟩
 ·rename_i h;have hk:c.kd=1:=by simpa using h
  split
  ·have hp:j1 [⟨aj l (dgo l p 3) 4,1+aj l (dgo l p 4) 3,a1n l (dgo l p 5)⟩]=true:=by
    refine q8 fun i hi=> ?_;obtain rfl:i=0:=by simpa using hi
    have q1:inB (aj l (dgo l p 3) 4) 0 63=true:=decide_eq_true (by omega);have q2:inB (1+aj l (dgo l p 4) 3) 1 200=true:=decide_eq_true (by omega);show(inB (aj l (dgo l p 3) 4) 0 63&& !(decide (0<0)&&_)&&inB (1+aj l (dgo l p 4) 3) 1 200&&decide ((a1n l (dgo l p 5)).length=32))=true;rw[q1,q2,ake];rfl
   simp only[avm _ hp,decide_true,Bool.true_and,abi,if_pos hk];exact decide_eq_true ⟨rfl,by show(0:Int)<=1+aj l p 127;omega,by show 1+aj l p 127<4294967296;omega,e3.1,e3.2⟩
  ·simp only[hnil,decide_true,Bool.true_and,abi,if_pos hk];exact decide_eq_true ⟨rfl,by show(0:Int)<=1+aj l p 127;omega,by show 1+aj l p 127<4294967296;omega,e3.1,e3.2⟩
structure RV1(c:Cs)(x:Ct)(S:List Int)(P:List Stm):Prop where
 ok: ∀s∈P,okV c s=true/\s.au∈S/\(ez s).1.x=x
 up:P.Pairwise fun a b=>a.au<b.au
theorem RV1.nil{c:Cs}{x:Ct}{S:List Int}:RV1 c x S []:=⟨by simp,List.Pairwise.nil⟩
theorem RV1.skip{c:Cs}{x:Ct}{seats:List Int}{P:List Stm}{i:Nat}(h:RV1 c x (seats.take i) P):RV1 c x (seats.take (i+1)) P:=by
 refine⟨fun s hs=> ?_,h.up⟩;obtain⟨h1,h2,h3⟩:=h.ok s hs;exact⟨h1,List.take_subset_take_left _ (Nat.le_succ i) h2,h3⟩
structure MiS where
 r:Nat
 S:List Stm
 T:List Int
structure MiI(l:List Int)(c:Cs)(seats:List Int)(i:Nat)(s:MiS):Prop where
 r:s.r<=l.length
 len:s.S.length<=2*i
 ok: ∀t∈s.S,okS t/\t.au∈seats.take i
 two: ∀t∈s.S,∀u∈s.S,t.au=u.au->(ez t).1.x=(ez u).1.x\/t.au∈s.T
 half:2*s.T.length<=seats.length
end Go.Proofs.Am
