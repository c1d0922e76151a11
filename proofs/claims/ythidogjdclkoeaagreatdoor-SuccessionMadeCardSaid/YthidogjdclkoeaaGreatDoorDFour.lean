/- DFour. -/
import Derived.Test.YthidogjdclkoeaaGreatDoorBTwo
import Derived.Test.YthidogjdclkoeaaGreatDoorShP
import Derived.Test.YthidogjdclkoeaaGreatDoorDOne
set_option linter.unusedSimpArgs false
set_option linter.unusedVariables false
namespace Go.Proofs.Am
open Go Go.RowKit Go.Sort
open Go.Proofs
def srt(l:List Int):List Int:=l.mergeSort fun x y=>decide (x<=y)
theorem jj(l:List Int):(srt l).length=l.length:=List.length_mergeSort l
theorem ax4(l:List Int)(hl:l.length<4611686018427387904):Den Tryz.prog 136 [.os 1000000 l.length] [.arr 3 1 false (l.map i1)] (.tup []) [] [.arr 3 1 false ((srt l).map i1)]:=
 ahj (e:=3) (l:=l) (new:=srt l) (enters_of Tryz.func136 (by kernel_rfl) rfl) (jj l)
  (fun g cap w hH hlt _=>Any.slices_Sort_int Tryz.laysSort g 0 cap l w hH hlt hl)
  (fun h p cap w=>Any.slices_Sort_int_none Tryz.laysSort p cap w)
def a4d(l:List Int):List Int:=Lib.compact l
theorem a3k(l:List Int):(a4d l).length<=l.length:=by
 simp only[a4d,Lib.compact,Lib.compactUpTo,List.length_map];exact Nat.le_trans (List.length_filter_le _ _) (by simp)
def a5w(l:List Int):List Int:=a4d l++List.replicate (l.length - (a4d l).length) 0
theorem ak3(l:List Int):(a5w l).length=l.length:=by
 have:=a3k l;simp[a5w];omega
theorem ag7(l:List Int)(hl:l.length<=9223372036854775807):Den Tryz.prog 137 [.os 1000000 l.length] [.arr 3 1 false (l.map i1)] (.vs ((a4d l).map i1)) [] [.arr 3 1 true ((a5w l).map i1)]:=
 a2b (e:=3) (l:=l) (enters_of Tryz.func137 (by kernel_rfl) rfl) (ak3 l) (by simp[a5w]) (fun g cap w hH hlt hc=>Any.slices_Compact_int Tryz.laysCompact g 0 cap l w hH hl hc)
  fun h p cap w=>Any.slices_Compact_int_empty Tryz.laysCompact p cap w
end Go.Proofs.Am

/- Who votes twice: the program's. -/
namespace Go.Proofs.Am
open Go Go.RowKit
open Go.Proofs
end Go.Proofs.Am
