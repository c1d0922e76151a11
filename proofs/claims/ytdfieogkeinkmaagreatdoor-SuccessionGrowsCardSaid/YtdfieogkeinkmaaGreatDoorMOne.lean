/- The example of the chapter on decisions. -/
import Derived.Test.YtdfieogkeinkmaaGreatDoorHOne
set_option linter.unusedSimpArgs false
set_option linter.unusedVariables false
namespace Go.Proofs.Am
open Go Go.RowKit
open Go.Proofs

def LB : List Stm := [vt 0 0 cA yesA, vt 1 0 cA yesA, vt 2 0 cA yesA, vt 3 0 cA yesA]
def VB : List Vt := [⟨0, cA, yesA⟩, ⟨1, cA, yesA⟩, ⟨2, cA, yesA⟩, ⟨3, cA, yesA⟩]
end Go.Proofs.Am

/- The mill's seats and cases are right. -/
namespace Go.Proofs.Am
open Go Go.RowKit
open Go.Proofs

theorem allV_len {seats : List Int} {l : List Stm} {c : Cs} : (allV seats (votesL l c)).length ≤ l.length := by
  have h1 := votes_len l c
  have h2 := (cnI_ok seats (fun y hy => (votes_okX (l := l) (c := c) y hy).1) _ (Nat.le_refl _)).1
  have h3 : (allV seats (votesL l c)).length ≤ (cnR seats (votesL l c)).length := by
    unfold allV
    rw [List.length_map]
    exact List.length_filter_le _ _
  have h4 : cnI seats (votesL l c) (votesL l c).length = cnR seats (votesL l c) := rfl
  rw [h4] at h2
  omega
end Go.Proofs.Am

/- DecisionUnion, walked. -/
namespace Go.Proofs.Am
open Go Go.RowKit
open Go.Proofs

/-- Votes of seats, nearly all for one content. -/
def mostGo (l : List Int) (c : Cs) (x : Ct) (seats : List Int) (p : Nat) : Nat → Nat × List Stm
  | 0 => (p, [])
  | i + 1 => if dnext l (mostGo l c x seats p i).1 7 = 6 then (dgo l (mostGo l c x seats p i).1 1, (mostGo l c x seats p i).2) else (dgo l (mostGo l c x seats p i).1 2, (mostGo l c x seats p i).2 ++ [vt (el seats i) (dnext l (dgo l (mostGo l c x seats p i).1 1) 3) c x])
def mostX (l : List Int) (p : Nat) (c : Cs) (seats : List Int) : Nat × List Stm := mostGo l c (mcont l p c).1 seats (mcont l p c).2 seats.length
def mostP (l : List Int) (p : Nat) (c : Cs) (seats : List Int) : Nat := dgo l (mvotes l (mostX l p c seats).1 c seats).2 1
/-- The votes of others, one after the other. -/
def extX (l : List Int) (c : Cs) (p : Nat) : Nat → Nat × List Stm
  | 0 => (p, [])
  | i + 1 => ((mcont l (extX l c p i).1 c).2, (extX l c p i).2 ++ [vt (20 + (i : Int)) 0 c (mcont l (extX l c p i).1 c).1])
end Go.Proofs.Am
