/- MOne. -/
import Derived.Test.YtloaichcpoboeaaGreatDoorHOne
import Derived.Test.YtloaichcpoboeaaGreatDoorEOne
import Derived.Test.YtloaichcpoboeaaGreatDoorGOne
set_option linter.unusedSimpArgs false
set_option linter.unusedVariables false
namespace Go.Proofs.Am
open Go Go.RowKit
open Go.Proofs
theorem a0g{seats:List Int}{l:List Stm}{c:Cs}:(ail seats (ay l c)).length≤l.length:=by
 have h1:=ae7 l c
 have h2:=(arb seats (fun y hy=>(pa (l:=l) (c:=c) y hy).1) _ (Nat.le_refl _)).1
 have h3:(ail seats (ay l c)).length≤(cnR seats (ay l c)).length:=by
  unfold ail
  rw[List.length_map]
  exact List.length_filter_le _ _
 have h4:cnI seats (ay l c) (ay l c).length=cnR seats (ay l c):=rfl
 rw[h4]at h2
 omega
def zS:List PV:=[.int .i64 0,.int .i64 0,.str [],.int .i64 0,.int .i64 0,.int .i64 0,.int .i64 0,.int .i64 0,.vs [],.vs [],.str [],.int .i64 0,.str []]
theorem bci:zS=[PV.int .i64 0,PV.int .i64 0,PV.str [],PV.int .i64 0,PV.int .i64 0,PV.int .i64 0,PV.int .i64 0,PV.int .i64 0,.nils,.nils,PV.str [],PV.int .i64 0,PV.str []].map aab:=(rfl)
theorem a3a{seats:List Int}{l:List Stm}{c:Cs}:xq (apd (ail seats (ay l c))):=by
 unfold apd
 split
 ·rename_i h
  have hm:el (ail seats (ay l c)) 0∈ail seats (ay l c):=bj (by omega)
  obtain⟨n,hn,e,he⟩:=alt.1 hm
  have hk:n.ks≠[]:=(ug seats (ay l c)).r4 n hn
  obtain⟨k,r,hk⟩:=List.exists_cons_of_ne_nil hk
  obtain⟨_,y,hy,e2,_⟩:=ake hn (k:=k) (by rw[hk];simp)
  rw[←e,←e2]
  exact my (pa y hy).1
 ·exact⟨by simp[noC,big],by simp[noC,big]⟩
structure RV1(c:Cs)(x:Ct)(S:List Int)(P:List Stm):Prop where
 ok: ∀s∈P,okV c s=true∧s.au∈S∧(d4 s).1.x=x
 up:P.Pairwise fun a b=>a.au<b.au
theorem RV1.nil{c:Cs}{x:Ct}{S:List Int}:RV1 c x S []:=⟨by simp,List.Pairwise.nil⟩
theorem RV1.skip{c:Cs}{x:Ct}{seats:List Int}{P:List Stm}{i:Nat}(h:RV1 c x (seats.take i) P):RV1 c x (seats.take (i+1)) P:=by
 refine⟨fun s hs=> ?_,h.up⟩
 obtain⟨h1,h2,h3⟩:=h.ok s hs
 exact⟨h1,List.take_subset_take_left _ (Nat.le_succ i) h2,h3⟩
structure MiS where
 r:Nat
 S:List Stm
 T:List Int
structure MiI(l:List Int)(c:Cs)(seats:List Int)(i:Nat)(s:MiS):Prop where
 r:s.r≤l.length
 len:s.S.length≤2*i
 ok: ∀t∈s.S,okS t∧t.au∈seats.take i
 two: ∀t∈s.S,∀u∈s.S,t.au=u.au→(d4 t).1.x=(d4 u).1.x∨t.au∈s.T
 half:2*s.T.length≤seats.length
end Go.Proofs.Am
