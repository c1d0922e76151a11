/- The mill's cases and turned lists. -/
import Derived.Test.YtdfieogkeinkmaaGreatDoorCThree
import Derived.Test.YtdfieogkeinkmaaGreatDoorDThree
import Derived.Test.YtdfieogkeinkmaaGreatDoorETwo
set_option linter.unusedSimpArgs false
set_option linter.unusedVariables false
namespace Go.Proofs.Am
open Go Go.RowKit
open Go.Proofs

/-- The mill's case. -/
def mcase (l : List Int) (p : Nat) (ep : Int) : Cs × Nat :=
  if dnext l p 3 ≠ 0 then (⟨ep, 1 + dnext l p 3, dnext l (dgo l p 1) 7, dnext l (dgo l p 2) 2⟩, dgo l p 3) else (⟨ep, 1, 0, 0⟩, dgo l p 1)
/-- A list that begins at another place. -/
def turnS (l : List Stm) (n : Int) : List Stm := (List.range l.length).map fun i => el l ((i + (mmod n l.length).toNat) % l.length)
def turnP (l : List Stm) (n : Int) (i : Nat) : List Stm := (List.range i).map fun i => el l ((i + (mmod n l.length).toNat) % l.length)
end Go.Proofs.Am

/- The document's votes and cases: what they are made of. -/
namespace Go.Proofs.Am
open Go Go.RowKit
open Go.Proofs

/-- A case comes ahead of another one. -/
def earlC (a b : Cs) : Bool := if a.ep ≠ b.ep then decide (a.ep < b.ep) else if a.kd ≠ b.kd then decide (a.kd < b.kd) else if a.su ≠ b.su then decide (a.su < b.su) else decide (a.ro < b.ro)
end Go.Proofs.Am

/- slices.Compact of cases. -/
namespace Go.Proofs.Am
open Go Go.RowKit
open Go.Proofs

theorem kp_full {α : Type} [Inhabited α] (q : α → α → Bool) (l : List α) (h : ∀ j, 0 < j → j < l.length → q (el l j) (el l (j - 1)) = false) : kp q l l.length = l := by
  rw [kp_take q l l.length (Nat.le_refl _) h, List.take_length]
def sameC (a b : Cs) : Bool := decide (a = b)
def zC : List PV := [.int .i64 0, .int .i64 0, .int .i64 0, .int .i64 0]
theorem set_take {α : Type} [Inhabited α] {L o : List α} {v : α} (h1 : o.length < L.length) (h2 : L.take o.length = o) : (L.set o.length v).take (o ++ [v]).length = o ++ [v] := by
  rw [List.length_append, List.length_singleton, List.take_add_one, List.take_set_of_le (Nat.le_refl _), h2]
  simp [h1]
theorem set_el {α : Type} [Inhabited α] {L : List α} {v : α} {k a : Nat} (h : k < a) : el (L.set k v) a = el L a := by
  simp only [el, List.getD_eq_getElem?_getD, List.getElem?_set]
  rw [if_neg (by omega)]
end Go.Proofs.Am
