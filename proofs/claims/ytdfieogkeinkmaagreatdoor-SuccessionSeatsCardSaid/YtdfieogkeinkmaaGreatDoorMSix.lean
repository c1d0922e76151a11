/- MSix. -/
import Derived.Test.YtdfieogkeinkmaaGreatDoorNOne
set_option linter.unusedSimpArgs false
set_option linter.unusedVariables false
namespace Go.Proofs.Am
open Go Go.RowKit
open Go.Proofs
def bestC : Option Stm → List PV
  | none => [.int .i64 0, .int .i64 0, .str [], .int .i64 0, .int .i64 0, .int .i64 0, .int .i64 0, .int .i64 0, .nils, .nils, .str [], .int .i64 0, .str []]
  | some s => sm s
theorem bestC_none : bestC none = [.int .i64 0, .int .i64 0, .str [], .int .i64 0, .int .i64 0, .int .i64 0, .int .i64 0, .int .i64 0, .nils, .nils, .str [], .int .i64 0, .str []] := rfl
theorem bestC_some (s : Stm) : bestC (some s) = sm s := rfl
end Go.Proofs.Am

/- The document's certificate; certificates are compared. -/
namespace Go.Proofs.Am
open Go Go.RowKit
open Go.Proofs
def ceI (l : List Stm) (c : Cs) (x : Ct) (seats : List Int) (i : Nat) : List Stm := (List.range i).filterMap fun (k : Nat) => if (k : Int) ∈ seats then leastL l k c x else none
theorem ceI_all {l : List Stm} {c : Cs} {x : Ct} {seats : List Int} : ceI l c x seats 64 = certR l c x seats := rfl
def celV : List Stm → PV
  | [] => .nils
  | s :: r => .os 54 (s :: r).length
def celB : List Stm → ASt
  | [] => []
  | s :: r => [(54, .arr 41 13 false ((s :: r).map sm))]
theorem celV_nil : celV [] = .nils := rfl
theorem celV_cons (s : Stm) (r : List Stm) : celV (s :: r) = .os 54 (s :: r).length := rfl
theorem celB_nil : celB [] = [] := rfl
theorem celB_cons (s : Stm) (r : List Stm) : celB (s :: r) = [(54, .arr 41 13 false ((s :: r).map sm))] := rfl
end Go.Proofs.Am
