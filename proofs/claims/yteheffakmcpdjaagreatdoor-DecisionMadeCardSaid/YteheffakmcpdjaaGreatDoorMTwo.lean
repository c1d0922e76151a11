/- DecisionStays, walked. -/
import Derived.Test.YteheffakmcpdjaaGreatDoorNOne
import Derived.Test.YteheffakmcpdjaaGreatDoorMOne
set_option linter.unusedSimpArgs false
set_option linter.unusedVariables false
namespace Go.Proofs.Am
open Go Go.RowKit
open Go.Proofs

theorem certX_one {l : List Stm} {c : Cs} {seats : List Int} (h : ckS c seats = 0) (h1 : (allV seats (votesL l c)).length = 1) : certX l c seats = (c, certL l c (oneC (allV seats (votesL l c))) seats, 0) := by
  unfold certX
  rw [if_neg (by simp [h]), if_pos h1]
theorem certX_no {l : List Stm} {c : Cs} {seats : List Int} (h : ckS c seats = 0) (h1 : ¬ (allV seats (votesL l c)).length = 1) : certX l c seats = (noCs, [], 11) := by
  unfold certX
  rw [if_neg (by simp [h]), if_neg h1]
theorem certL_big {l : List Stm} {c : Cs} {x : Ct} {seats : List Int} (hs : ∀ k ∈ seats, 0 ≤ k ∧ k < 64) (h : ∀ s ∈ l, bigS s) : ∀ s ∈ certL l c x seats, bigS s := fun s hs' => h s (certL_mem hs hs').1
theorem certL_le {l : List Stm} {c : Cs} {x : Ct} {seats : List Int} : (certL l c x seats).length ≤ l.length := by
  unfold certL kpf
  have h1 := kp_len (fun a b : Stm => decide (a.au = b.au)) (insL ltS (l.filter (forX c x seats))) (insL ltS (l.filter (forX c x seats))).length
  have h2 := insL_len woS (l.filter (forX c x seats))
  have h3 := List.length_filter_le (forX c x seats) l
  omega
end Go.Proofs.Am
