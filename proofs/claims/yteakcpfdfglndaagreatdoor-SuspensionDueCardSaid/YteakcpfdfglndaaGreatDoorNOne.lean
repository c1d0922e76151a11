/- NOne. -/
import Derived.Test.YteakcpfdfglndaaGreatDoorEOne
import Derived.Test.YteakcpfdfglndaaGreatDoorGOne
import Derived.Test.YteakcpfdfglndaaGreatDoorHOne
set_option linter.unusedSimpArgs false
set_option linter.unusedVariables false
namespace Go.Proofs.Am
open Go Go.RowKit
open Go.Proofs
def zS:List PV:=[.int .i64 0,.int .i64 0,.str [],.int .i64 0,.int .i64 0,.int .i64 0,.int .i64 0,.int .i64 0,.vs [],.vs [],.str [],.int .i64 0,.str []]
theorem bb3:zS=[PV.int .i64 0,PV.int .i64 0,PV.str [],PV.int .i64 0,PV.int .i64 0,PV.int .i64 0,PV.int .i64 0,PV.int .i64 0,.nils,.nils,PV.str [],PV.int .i64 0,PV.str []].map za:=(rfl)
theorem ax9(a b:Ct):decide (kz a b=0)=decide (a=b):=by
 rw[Bool.eq_iff_iff,decide_eq_true_eq,decide_eq_true_eq]
 exact uw a b
theorem al0{seats:List Int}{l:List Stm}{c:Cs}:lw (aja (tc seats (al l c))):=by
 unfold aja
 split
 ·rename_i h
  have hm:el (tc seats (al l c)) 0∈tc seats (al l c):=aw (by omega)
  obtain⟨n,hn,e,he⟩:=td.1 hm
  have hk:n.ks≠[]:=(ez seats (al l c)).r4 n hn
  obtain⟨k,r,hk⟩:=List.exists_cons_of_ne_nil hk
  obtain⟨_,y,hy,e2,_⟩:=aa0 hn (k:=k) (by rw[hk];simp)
  rw[←e,←e2]
  exact jr (qd y hy).1
 ·exact⟨by simp[noC,big],by simp[noC,big]⟩
end Go.Proofs.Am
