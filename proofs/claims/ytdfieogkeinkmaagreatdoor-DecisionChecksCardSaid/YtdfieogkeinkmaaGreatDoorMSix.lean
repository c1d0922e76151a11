/- MSix. -/
import Derived.Test.YtdfieogkeinkmaaGreatDoorMOne
set_option linter.unusedSimpArgs false
set_option linter.unusedVariables false
namespace Go.Proofs.Am
open Go Go.RowKit
open Go.Proofs
end Go.Proofs.Am

/- Seats of the caller's own. -/
namespace Go.Proofs.Am
open Go Go.RowKit
open Go.Proofs
set_option maxHeartbeats 1000000 in
set_option maxRecDepth 100000 in
theorem keysO_den (l : List Int) (p : Nat) (n : Nat) (hl : big l.length) (hp : p ≤ l.length) (hn : n ≤ 1000) : Den Tryz.prog 13 [.ptr 1000000 0, .int .i64 n] [dbox l p] (.os 0 (dkeys l n p).length) [.arr 3 1 false ((dkeys l n p).map i1)] [dbox l (dkpos l n p)] := by
  by_cases h : (dsome l n 0 p).length = 0
  · refine den_of Tryz.mixed Tryz.func13 rfl Tryz.call13 Tryz.ntmps13 (congrArg Array.toList Tryz.results13) (by simp) (by kernel_rfl) [15] (exts := [1000000]) rfl rfl ?_
    have e1 : dkeys l n p = [dnext l (dskip l n p) n] := by rw [dkeys, if_pos h]
    have e2 : dkpos l n p = dpos l (dskip l n p) := by rw [dkpos, if_pos h]
    have h2 : ((dsome l n 0 p).length : Int) = 0 := by omega
    rw [e1, e2]
    simp only [go_sem]
    refine call (some_den l p n hl hp hn) [1000000] ?_
    simp only [go_sem, h2]
    refine call (next_den l (dskip l n p) n hl (dskip_le l n p hp) (by omega)) [1000000] ?_
    simp only [go_sem]
  · refine den_of Tryz.mixed Tryz.func13 rfl Tryz.call13 Tryz.ntmps13 (congrArg Array.toList Tryz.results13) (by simp) (by kernel_rfl) [8] (exts := [1000000]) rfl rfl ?_
    have e1 : dkeys l n p = dsome l n 0 p := by rw [dkeys, if_neg h]
    have e2 : dkpos l n p = dskip l n p := by rw [dkpos, if_neg h]
    have h2 : ¬ ((dsome l n 0 p).length : Int) = 0 := by omega
    rw [e1, e2]
    simp only [go_sem]
    refine call (some_den l p n hl hp hn) [1000000] ?_
    simp only [go_sem, h2]
end Go.Proofs.Am
