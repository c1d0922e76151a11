/- Certificates are checked: the program and the document. -/
import Derived.Test.YteheffakmcpdjaaGreatDoorHTwo
set_option linter.unusedSimpArgs false
set_option linter.unusedVariables false
namespace Go.Proofs.Am
open Go Go.RowKit
open Go.Proofs

def chkOK (c : Cs) (l : List Stm) (seats : List Int) (i : Nat) : Bool := okV c (el l i) && (decide ((el l i).au ∈ seats) && (decide (i = 0) || (decide ((el l (i - 1)).au < (el l i).au) && decide ((voteE (el l i)).1.x = (voteE (el l 0)).1.x))))
def chkB (c : Cs) (l : List Stm) (seats : List Int) : Bool := allI (chkOK c l seats) l.length && enoB l.length seats.length
/-- What a certificate says. -/
def chkX (c : Cs) (l : List Stm) (seats : List Int) : Ct × Int := if ckS c seats ≠ 0 then (noC, ckS c seats) else if chkB c l seats = true then ((voteE (el l 0)).1.x, 0) else (noC, 45)
theorem okV_of {c : Cs} {s : Stm} : okV c s = (decide ((ofE s).2 = 0) && (decide (s.sk = s.au ∧ s.sd = dig s) && decide ((ofE s).1.c = c))) := by
  unfold okV voteE
  exact Bool.and_assoc _ _ _
theorem ofE_k {s : Stm} (h : (ofE s).2 = 0) : (ofE s).1.k = s.au := by
  unfold ofE at h ⊢
  split
  · rename_i h1
    rw [if_pos h1] at h
    exact absurd h h1
  · rename_i h1
    rw [if_neg h1] at h
    split
    · rfl
    · rename_i h2
      rw [if_neg h2] at h
      cases h

/-- A certificate. -/
def ce (c : Cs) (l : List Stm) : List PV := [.int .i64 c.ep, .int .i64 c.kd, .int .i64 c.su, .int .i64 c.ro, .vs (l.map sm)]
theorem ce_eq (c : Cs) (l : List Stm) : ce c l = [.int .i64 c.ep, .int .i64 c.kd, .int .i64 c.su, .int .i64 c.ro, .vs (l.map sm)] := (rfl)
/-- The content that the checks ahead have seen. -/
def zx (l : List Stm) (i : Nat) : List PV := if i = 0 then [.nils, .nils] else ct (voteE (el l 0)).1.x
theorem zx_zero (l : List Stm) : zx l 0 = [.nils, .nils] := rfl
end Go.Proofs.Am

/- Certificates are checked: the document. -/
namespace Go.Proofs.Am
open Go Go.RowKit
open Go.Proofs

end Go.Proofs.Am
