/- DFour. -/
import Derived.Test.YtloaichcpoboeaaGreatDoorBTwo
import Derived.Test.YtloaichcpoboeaaGreatDoorShP
import Derived.Test.YtloaichcpoboeaaGreatDoorDOne
set_option linter.unusedSimpArgs false
set_option linter.unusedVariables false
namespace Go.Proofs.Am
open Go Go.RowKit Go.Sort
open Go.Proofs
def srt(l:List Int):List Int:=l.mergeSort fun x y=>decide (x≤y)
theorem fy(l:List Int):(srt l).length=l.length:=List.length_mergeSort l
theorem alw(l:List Int)(hl:l.length<4611686018427387904):Den Tryz.prog 88 [.os 1000000 l.length] [.arr 3 1 false (l.map i1)] (.tup []) [] [.arr 3 1 false ((srt l).map i1)]:=
 agy (e:=3) (l:=l) (new:=srt l) (enters_of Tryz.func88 (by kernel_rfl) rfl) (fy l)
  (fun g cap w hH hlt _=>Any.slices_Sort_int Tryz.laysSort g 0 cap l w hH hlt hl)
  (fun h p cap w=>Any.slices_Sort_int_none Tryz.laysSort p cap w)
def axv(l:List Int):List Int:=Lib.compact l
theorem a6l(l:List Int):(axv l).length≤l.length:=by
 simp only[axv,Lib.compact,Lib.compactUpTo,List.length_map]
 exact Nat.le_trans (List.length_filter_le _ _) (by simp)
def ba0(l:List Int):List Int:=axv l++List.replicate (l.length - (axv l).length) 0
theorem ab3(l:List Int):(ba0 l).length=l.length:=by
 have:=a6l l
 simp[ba0];omega
theorem va(l:List Int)(hl:l.length≤9223372036854775807):Den Tryz.prog 81 [.os 1000000 l.length] [.arr 3 1 false (l.map i1)] (.vs ((axv l).map i1)) [] [.arr 3 1 true ((ba0 l).map i1)]:=
 a49 (e:=3) (l:=l) (enters_of Tryz.func81 (by kernel_rfl) rfl) (ab3 l) (by simp[ba0]) (fun g cap w hH hlt hc=>Any.slices_Compact_int Tryz.laysCompact g 0 cap l w hH hl hc)
  fun h p cap w=>Any.slices_Compact_int_empty Tryz.laysCompact p cap w
end Go.Proofs.Am

/- Who votes twice: the program's. -/
namespace Go.Proofs.Am
open Go Go.RowKit
open Go.Proofs
end Go.Proofs.Am
