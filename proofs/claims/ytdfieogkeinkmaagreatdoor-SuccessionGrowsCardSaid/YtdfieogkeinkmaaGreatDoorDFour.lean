/- slices.Sort and slices.Compact: the kit's contracts, on abstract values. -/
import Derived.Test.YtdfieogkeinkmaaGreatDoorBTwo
import Derived.Test.YtdfieogkeinkmaaGreatDoorShP
import Derived.Test.YtdfieogkeinkmaaGreatDoorDOne
set_option linter.unusedSimpArgs false
set_option linter.unusedVariables false
namespace Go.Proofs.Am
open Go Go.RowKit Go.Sort
open Go.Proofs

/-- Sorted. -/
def srt (l : List Int) : List Int := l.mergeSort fun x y => decide (x ≤ y)
theorem srt_len (l : List Int) : (srt l).length = l.length := List.length_mergeSort l
theorem sort_den (l : List Int) (hl : l.length < 4611686018427387904) : Den Tryz.prog 161 [.os 1000000 l.length] [.arr 3 1 false (l.map i1)] (.tup []) [] [.arr 3 1 false ((srt l).map i1)] :=
  den_inplace (e := 3) (l := l) (new := srt l) (enters_of Tryz.func161 (by kernel_rfl) rfl) (srt_len l)
    (fun g cap w hH hlt _ => Any.slices_Sort_int Tryz.laysSort g 0 cap l w hH hlt hl)
    (fun h p cap w => Any.slices_Sort_int_none Tryz.laysSort p cap w)

/-- The first of each run of equal numbers. -/
def cmpc (l : List Int) : List Int := Lib.compact l
theorem cmpc_le (l : List Int) : (cmpc l).length ≤ l.length := by
  simp only [cmpc, Lib.compact, Lib.compactUpTo, List.length_map]
  exact Nat.le_trans (List.length_filter_le _ _) (by simp)
/-- What lies in the row then. -/
def cmpz (l : List Int) : List Int := cmpc l ++ List.replicate (l.length - (cmpc l).length) 0
theorem cmpz_len (l : List Int) : (cmpz l).length = l.length := by
  have := cmpc_le l
  simp [cmpz]; omega
theorem compact_den (l : List Int) (hl : l.length ≤ 9223372036854775807) : Den Tryz.prog 162 [.os 1000000 l.length] [.arr 3 1 false (l.map i1)] (.vs ((cmpc l).map i1)) [] [.arr 3 1 true ((cmpz l).map i1)] :=
  den_cut (e := 3) (l := l) (enters_of Tryz.func162 (by kernel_rfl) rfl) (cmpz_len l) (by simp [cmpz]) (fun g cap w hH hlt hc => Any.slices_Compact_int Tryz.laysCompact g 0 cap l w hH hl hc)
    fun h p cap w => Any.slices_Compact_int_empty Tryz.laysCompact p cap w
end Go.Proofs.Am

/- Who votes twice: the program's. -/
namespace Go.Proofs.Am
open Go Go.RowKit
open Go.Proofs

def kidx {β : Type} (k : Int) (M : List (Int × β)) : Option Nat := M.findIdx? fun p => decide (p.1 = k)
/-- The maps, as lists. -/
def fE (p : Int × Ct) : PV × PV := (.int .i64 p.1, .agg (ct p.2))
def tE (p : Int × Unit) : PV × PV := (.int .i64 p.1, .bool true)
def twP (st : List (Int × Ct) × List (Int × Unit)) (y : Vt) : List (Int × Ct) × List (Int × Unit) :=
  match kidx y.k st.1 with
  | none => (st.1 ++ [(y.k, y.x)], st.2)
  | some i => if ordC y.x (st.1.getD i (0, default)).2 = 0 then st else (st.1, if kidx y.k st.2 = none then st.2 ++ [(y.k, ())] else st.2)
def twF (v : List Vt) (i : Nat) : List (Int × Ct) × List (Int × Unit) := (v.take i).foldl twP ([], [])
def twC (v : List Vt) : List Int := srt ((twF v v.length).2.map (·.1))

end Go.Proofs.Am
