/- DFour. -/
import Derived.Test.YtloaichcpoboeaaGreatDoorBTwo
import Derived.Test.YtloaichcpoboeaaGreatDoorShP
import Derived.Test.YtloaichcpoboeaaGreatDoorDOne
set_option linter.unusedSimpArgs false
set_option linter.unusedVariables false
namespace Go.Proofs.Am
open Go Go.RowKit Go.Sort
open Go.Proofs
def srt(l:List Int):List Int:=l.mergeSort fun x y=>decide (x<=y)
theorem gx(l:List Int):(srt l).length=l.length:=List.length_mergeSort l
theorem ap9(l:List Int)(hl:l.length<4611686018427387904):Den Tryz.prog 88 [.os 1000000 l.length] [.arr 3 1 false (l.map i1)] (.tup []) [] [.arr 3 1 false ((srt l).map i1)]:=
 al9 (e:=3) (l:=l) (new:=srt l) (enters_of Tryz.func88 (by kernel_rfl) rfl) (gx l)
  (fun g cap w hH hlt _=>Any.slices_Sort_int Tryz.laysSort g 0 cap l w hH hlt hl)
  (fun h p cap w=>Any.slices_Sort_int_none Tryz.laysSort p cap w)
def a3b(l:List Int):List Int:=Lib.compact l
theorem bbq(l:List Int):(a3b l).length<=l.length:=by
 simp only[a3b,Lib.compact,Lib.compactUpTo,List.length_map];exact Nat.le_trans (List.length_filter_le _ _) (by simp)
def bgv(l:List Int):List Int:=a3b l++List.replicate (l.length - (a3b l).length) 0
theorem aev(l:List Int):(bgv l).length=l.length:=by
 have:=bbq l;simp[bgv];omega
theorem xe(l:List Int)(hl:l.length<=9223372036854775807):Den Tryz.prog 81 [.os 1000000 l.length] [.arr 3 1 false (l.map i1)] (.vs ((a3b l).map i1)) [] [.arr 3 1 true ((bgv l).map i1)]:=
 beh (e:=3) (l:=l) (enters_of Tryz.func81 (by kernel_rfl) rfl) (aev l) (by simp[bgv]) (fun g cap w hH hlt hc=>Any.slices_Compact_int Tryz.laysCompact g 0 cap l w hH hl hc)
  fun h p cap w=>Any.slices_Compact_int_empty Tryz.laysCompact p cap w
end Go.Proofs.Am

/- Who votes twice: the program's. -/
namespace Go.Proofs.Am
open Go Go.RowKit
open Go.Proofs
end Go.Proofs.Am
