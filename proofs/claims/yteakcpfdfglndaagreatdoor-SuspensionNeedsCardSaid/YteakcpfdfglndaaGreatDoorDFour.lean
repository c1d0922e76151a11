/- DFour. -/
import Derived.Test.YteakcpfdfglndaaGreatDoorBTwo
import Derived.Test.YteakcpfdfglndaaGreatDoorShP
import Derived.Test.YteakcpfdfglndaaGreatDoorDOne
set_option linter.unusedSimpArgs false
set_option linter.unusedVariables false
namespace Go.Proofs.Am
open Go Go.RowKit Go.Sort
open Go.Proofs
def srt(l:List Int):List Int:=l.mergeSort fun x y=>decide (x≤y)
theorem jd(l:List Int):(srt l).length=l.length:=List.length_mergeSort l
theorem az0(l:List Int)(hl:l.length<4611686018427387904):Den Tryz.prog 184 [.os 1000000 l.length] [.arr 3 1 false (l.map i1)] (.tup []) [] [.arr 3 1 false ((srt l).map i1)]:=
 ajn (e:=3) (l:=l) (new:=srt l) (enters_of Tryz.func184 (by kernel_rfl) rfl) (jd l)
  (fun g cap w hH hlt _=>Any.slices_Sort_int Tryz.laysSort g 0 cap l w hH hlt hl)
  (fun h p cap w=>Any.slices_Sort_int_none Tryz.laysSort p cap w)
def axb(l:List Int):List Int:=Lib.compact l
theorem a7l(l:List Int):(axb l).length≤l.length:=by
 simp only[axb,Lib.compact,Lib.compactUpTo,List.length_map]
 exact Nat.le_trans (List.length_filter_le _ _) (by simp)
def a9i(l:List Int):List Int:=axb l++List.replicate (l.length - (axb l).length) 0
theorem ab8(l:List Int):(a9i l).length=l.length:=by
 have:=a7l l
 simp[a9i];omega
theorem xe(l:List Int)(hl:l.length≤9223372036854775807):Den Tryz.prog 65 [.os 1000000 l.length] [.arr 3 1 false (l.map i1)] (.vs ((axb l).map i1)) [] [.arr 3 1 true ((a9i l).map i1)]:=
 a6e (e:=3) (l:=l) (enters_of Tryz.func65 (by kernel_rfl) rfl) (ab8 l) (by simp[a9i]) (fun g cap w hH hlt hc=>Any.slices_Compact_int Tryz.laysCompact g 0 cap l w hH hl hc)
  fun h p cap w=>Any.slices_Compact_int_empty Tryz.laysCompact p cap w
end Go.Proofs.Am

/- Who votes twice: the program's. -/
namespace Go.Proofs.Am
open Go Go.RowKit
open Go.Proofs
end Go.Proofs.Am
