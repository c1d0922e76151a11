/- Who comes in. -/
import Derived.Test.YthcphdogfdghkaaGreatB3
set_option linter.unusedSimpArgs false
set_option linter.unusedVariables false
namespace Go.Proofs.Am
open Go Go.RowKit
open Go.Proofs

/-- The first keys of an order that are not in a roster. -/
def newc (roster : List Int) (q : Int) : List Int → List Int → List Int
  | [], out => out
  | k :: r, out => if q ≤ out.length then out else newc roster q r (if k ∈ roster ∨ k ∈ out then out else out ++ [k])
theorem newc_full {roster : List Int} {q : Int} {r out : List Int} (h : q ≤ out.length) : newc roster q r out = out := by
  cases r with
  | nil => rfl
  | cons k r => simp [newc, h]
theorem drop_el {l : List Int} {i : Nat} (h : i < l.length) : l.drop i = el l i :: l.drop (i + 1) := by
  simp [el, List.getD_eq_getElem?_getD, h]

/-- mill.Keys -/
def dkeys (l : List Int) (n p : Nat) : List Int := if (dsome l n 0 p).length = 0 then [dnext l (dskip l n p) n] else dsome l n 0 p
def dkpos (l : List Int) (n p : Nat) : Nat := if (dsome l n 0 p).length = 0 then dpos l (dskip l n p) else dskip l n p
end Go.Proofs.Am
