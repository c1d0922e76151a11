/- MTwo. -/
import Derived.Test.YtdfieogkeinkmaaGreatDoorMOne
set_option linter.unusedSimpArgs false
set_option linter.unusedVariables false
namespace Go.Proofs.Am
open Go Go.RowKit
open Go.Proofs
end Go.Proofs.Am

/- DecisionLiars, walked. -/
namespace Go.Proofs.Am
open Go Go.RowKit
open Go.Proofs
structure RV1 (c : Cs) (x : Ct) (S : List Int) (P : List Stm) : Prop where
  ok : ∀ s ∈ P, okV c s = true ∧ s.au ∈ S ∧ (voteE s).1.x = x
  up : P.Pairwise fun a b => a.au < b.au
theorem RV1.nil {c : Cs} {x : Ct} {S : List Int} : RV1 c x S [] := ⟨by simp, List.Pairwise.nil⟩
theorem RV1.skip {c : Cs} {x : Ct} {seats : List Int} {P : List Stm} {i : Nat} (h : RV1 c x (seats.take i) P) : RV1 c x (seats.take (i + 1)) P := by
  refine ⟨fun s hs => ?_, h.up⟩
  obtain ⟨h1, h2, h3⟩ := h.ok s hs
  exact ⟨h1, List.take_subset_take_left _ (Nat.le_succ i) h2, h3⟩
theorem RV1.chk {c : Cs} {x : Ct} {seats : List Int} {P : List Stm} (h : RV1 c x seats P) (he : enoB P.length seats.length = true) : ChkP c P seats x := ⟨h.ok, h.up, he⟩
theorem RV1.chkX {c : Cs} {x : Ct} {seats : List Int} {P : List Stm} (h : RV1 c x seats P) (hc : ckS c seats = 0) : ((Am.chkX c P seats).2 = 0 ↔ enoB P.length seats.length = true) := by
  constructor
  · intro h1
    exact (chkX_ok h1).2.en
  · intro h1
    rw [chkX_of hc (h.chk h1)]
theorem chkX_big {c : Cs} {l : List Stm} {seats : List Int} : bigC (Am.chkX c l seats).1 := by
  have h0 : bigC noC := ⟨by simp [noC, big], by simp [noC, big]⟩
  unfold Am.chkX
  split
  · exact h0
  · split
    · exact okCt_big voteE_ok
    · exact h0
end Go.Proofs.Am
