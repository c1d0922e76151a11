/- MTwo. -/
import Derived.Test.YtdodifpogaoioaaGreatMOne
import Derived.Test.YtdodifpogaoioaaGreatNOne
set_option linter.unusedSimpArgs false
set_option linter.unusedVariables false
namespace Go.Proofs.Am
open Go Go.RowKit
open Go.Proofs
end Go.Proofs.Am

/- DecisionLiars, walked. -/
namespace Go.Proofs.Am
open Go Go.RowKit
open Go.Proofs
structure RV1 (c : Cs) (x : Ct) (S : List Int) (P : List Stm) : Prop where
 ok : ∀ s ∈ P, okV c s = true ∧ s.au ∈ S ∧ (voteE s).1.x = x
 up : P.Pairwise fun a b => a.au < b.au
theorem RV1.nil {c : Cs} {x : Ct} {S : List Int} : RV1 c x S [] := ⟨by simp, List.Pairwise.nil⟩
theorem RV1.skip {c : Cs} {x : Ct} {seats : List Int} {P : List Stm} {i : Nat} (h : RV1 c x (seats.take i) P) : RV1 c x (seats.take (i + 1)) P := by
 refine ⟨fun s hs => ?_, h.up⟩
 obtain ⟨h1, h2, h3⟩ := h.ok s hs
 exact ⟨h1, List.take_subset_take_left _ (Nat.le_succ i) h2, h3⟩
end Go.Proofs.Am

/- DecisionStays, walked. -/
namespace Go.Proofs.Am
open Go Go.RowKit
open Go.Proofs
end Go.Proofs.Am

/- Liars in the minority: plain laws. -/
namespace Go.Proofs.Am
open Go Go.RowKit
open Go.Proofs
structure MiS where
 r : Nat
 S : List Stm
 T : List Int
structure MiI (l : List Int) (c : Cs) (seats : List Int) (i : Nat) (s : MiS) : Prop where
 r : s.r ≤ l.length
 len : s.S.length ≤ 2 * i
 ok : ∀ t ∈ s.S, okS t ∧ t.au ∈ seats.take i
 two : ∀ t ∈ s.S, ∀ u ∈ s.S, t.au = u.au → (voteE t).1.x = (voteE u).1.x ∨ t.au ∈ s.T
 half : 2 * s.T.length ≤ seats.length
end Go.Proofs.Am
