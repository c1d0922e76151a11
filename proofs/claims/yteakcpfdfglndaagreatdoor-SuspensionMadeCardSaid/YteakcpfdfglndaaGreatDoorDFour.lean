/- DFour. -/
import Derived.Test.YteakcpfdfglndaaGreatDoorBTwo
import Derived.Test.YteakcpfdfglndaaGreatDoorShP
import Derived.Test.YteakcpfdfglndaaGreatDoorDOne
set_option linter.unusedSimpArgs false
set_option linter.unusedVariables false
namespace Go.Proofs.Am
open Go Go.RowKit Go.Sort
open Go.Proofs
def srt(l:List Int):List Int:=l.mergeSort fun x y=>decide (x≤y)
theorem ju(l:List Int):(srt l).length=l.length:=List.length_mergeSort l
theorem a20(l:List Int)(hl:l.length<4611686018427387904):Den Tryz.prog 184 [.os 1000000 l.length] [.arr 3 1 false (l.map i1)] (.tup []) [] [.arr 3 1 false ((srt l).map i1)]:=
 akj (e:=3) (l:=l) (new:=srt l) (enters_of Tryz.func184 (by kernel_rfl) rfl) (ju l)
  (fun g cap w hH hlt _=>Any.slices_Sort_int Tryz.laysSort g 0 cap l w hH hlt hl)
  (fun h p cap w=>Any.slices_Sort_int_none Tryz.laysSort p cap w)
def ayt(l:List Int):List Int:=Lib.compact l
theorem a59(l:List Int):(ayt l).length≤l.length:=by
 simp only[ayt,Lib.compact,Lib.compactUpTo,List.length_map]
 exact Nat.le_trans (List.length_filter_le _ _) (by simp)
def bbf(l:List Int):List Int:=ayt l++List.replicate (l.length - (ayt l).length) 0
theorem ab0(l:List Int):(bbf l).length=l.length:=by
 have:=a59 l
 simp[bbf];omega
theorem xh(l:List Int)(hl:l.length≤9223372036854775807):Den Tryz.prog 65 [.os 1000000 l.length] [.arr 3 1 false (l.map i1)] (.vs ((ayt l).map i1)) [] [.arr 3 1 true ((bbf l).map i1)]:=
 a6s (e:=3) (l:=l) (enters_of Tryz.func65 (by kernel_rfl) rfl) (ab0 l) (by simp[bbf]) (fun g cap w hH hlt hc=>Any.slices_Compact_int Tryz.laysCompact g 0 cap l w hH hl hc)
  fun h p cap w=>Any.slices_Compact_int_empty Tryz.laysCompact p cap w
end Go.Proofs.Am

/- Who votes twice: the program's. -/
namespace Go.Proofs.Am
open Go Go.RowKit
open Go.Proofs
end Go.Proofs.Am
