/- MOne. -/
import Derived.Test.YtloaichcpoboeaaGreatDoorHOne
import Derived.Test.YtloaichcpoboeaaGreatDoorEOne
import Derived.Test.YtloaichcpoboeaaGreatDoorGOne
set_option linter.unusedSimpArgs false
set_option linter.unusedVariables false
namespace Go.Proofs.Am
open Go Go.RowKit
open Go.Proofs
theorem a32{seats:List Int}{l:List Stm}{c:Cs}:(ams seats (bj l c)).length<=l.length:=by
 have h1:=agm l c;have h2:=(a1y seats (fun y hy=>(ra (l:=l) (c:=c) y hy).1) _ (Nat.le_refl _)).1
 have h3:(ams seats (bj l c)).length<=(cnR seats (bj l c)).length:=by
  unfold ams;rw[List.length_map];exact List.length_filter_le _ _
 have h4:cnI seats (bj l c) (bj l c).length=cnR seats (bj l c):=rfl;rw[h4]at h2;omega
def zS:List PV:=[.int .i64 0,.int .i64 0,.str [],.int .i64 0,.int .i64 0,.int .i64 0,.int .i64 0,.int .i64 0,.vs [],.vs [],.str [],.int .i64 0,.str []]
theorem bi9:zS=[PV.int .i64 0,PV.int .i64 0,PV.str [],PV.int .i64 0,PV.int .i64 0,PV.int .i64 0,PV.int .i64 0,PV.int .i64 0,.nils,.nils,PV.str [],PV.int .i64 0,PV.str []].map vd:=(rfl)
theorem a60{seats:List Int}{l:List Stm}{c:Cs}:aac (auj (ams seats (bj l c))):=by
 unfold auj;split
 ·rename_i h;have hm:el (ams seats (bj l c)) 0∈ams seats (bj l c):=cj (by omega);obtain⟨n,hn,e,he⟩:=aqt.1 hm;have hk:n.ks≠[]:=(vq seats (bj l c)).r4 n hn;obtain⟨k,r,hk⟩:=List.exists_cons_of_ne_nil hk;obtain⟨_,y,hy,e2,_⟩:=ak8 hn (k:=k) (by rw[hk];simp);rw[<-e,<-e2];exact om (ra y hy).1
 ·exact⟨by simp[noC,big],by simp[noC,big]⟩
structure RV1(c:Cs)(x:Ct)(S:List Int)(P:List Stm):Prop where
 ok: ∀s∈P,okV c s=true/\s.au∈S/\(ej s).1.x=x
 up:P.Pairwise fun a b=>a.au<b.au
theorem RV1.nil{c:Cs}{x:Ct}{S:List Int}:RV1 c x S []:=⟨by simp,List.Pairwise.nil⟩
theorem RV1.skip{c:Cs}{x:Ct}{seats:List Int}{P:List Stm}{i:Nat}(h:RV1 c x (seats.take i) P):RV1 c x (seats.take (i+1)) P:=by
 refine⟨fun s hs=> ?_,h.up⟩;obtain⟨h1,h2,h3⟩:=h.ok s hs;exact⟨h1,List.take_subset_take_left _ (Nat.le_succ i) h2,h3⟩
structure MiS where
 r:Nat
 S:List Stm
 T:List Int
structure MiI(l:List Int)(c:Cs)(seats:List Int)(i:Nat)(s:MiS):Prop where
 r:s.r<=l.length
 len:s.S.length<=2*i
 ok: ∀t∈s.S,okS t/\t.au∈seats.take i
 two: ∀t∈s.S,∀u∈s.S,t.au=u.au->(ej t).1.x=(ej u).1.x\/t.au∈s.T
 half:2*s.T.length<=seats.length
end Go.Proofs.Am
