/- NOne. -/
import Derived.Test.YtdfieogkeinkmaaGreatDoorEOne
import Derived.Test.YtdfieogkeinkmaaGreatDoorGOne
import Derived.Test.YtdfieogkeinkmaaGreatDoorHOne
set_option linter.unusedSimpArgs false
set_option linter.unusedVariables false
namespace Go.Proofs.Am
open Go Go.RowKit
open Go.Proofs
end Go.Proofs.Am

/- slices.SortStableFunc of statements, where these are few. -/
namespace Go.Proofs.Am
open Go Go.RowKit
open Go.Proofs
end Go.Proofs.Am

/- slices.CompactFunc of statements: the first of each author. -/
namespace Go.Proofs.Am
open Go Go.RowKit
open Go.Proofs
end Go.Proofs.Am

/- Certificates of what was decided. -/
namespace Go.Proofs.Am
open Go Go.RowKit
open Go.Proofs
theorem ordC_dec (a b : Ct) : decide (ordC a b = 0) = decide (a = b) := by
  rw [Bool.eq_iff_iff, decide_eq_true_eq, decide_eq_true_eq]
  exact ordC_eq a b
def noCs : Cs := ⟨0, 0, 0, 0⟩
def certX (l : List Stm) (c : Cs) (seats : List Int) : Cs × List Stm × Int :=
  if ckS c seats ≠ 0 then (noCs, [], ckS c seats) else if (allV seats (votesL l c)).length = 1 then (c, certL l c (oneC (allV seats (votesL l c))) seats, 0) else (noCs, [], 11)
theorem oneC_big {seats : List Int} {l : List Stm} {c : Cs} : bigC (oneC (allV seats (votesL l c))) := by
  unfold oneC
  split
  · rename_i h
    have hm : el (allV seats (votesL l c)) 0 ∈ allV seats (votesL l c) := el_mem (by omega)
    obtain ⟨n, hn, e, he⟩ := mem_allV.1 hm
    have hk : n.ks ≠ [] := (cnR_spec seats (votesL l c)).r4 n hn
    obtain ⟨k, r, hk⟩ := List.exists_cons_of_ne_nil hk
    obtain ⟨_, y, hy, e2, _⟩ := ks_vote hn (k := k) (by rw [hk]; simp)
    rw [← e, ← e2]
    exact okCt_big (votes_okX y hy).1
  · exact ⟨by simp [noC, big], by simp [noC, big]⟩
theorem allV_lenX {seats : List Int} {l : List Stm} {c : Cs} : (allV seats (votesL l c)).length ≤ l.length := by
  have h1 := votes_len l c
  have h2 := (cnI_ok seats (fun y hy => (votes_okX (l := l) (c := c) y hy).1) _ (Nat.le_refl _)).1
  have h3 : (allV seats (votesL l c)).length ≤ (cnR seats (votesL l c)).length := by
    unfold allV
    rw [List.length_map]
    exact List.length_filter_le _ _
  have h4 : cnI seats (votesL l c) (votesL l c).length = cnR seats (votesL l c) := rfl
  rw [h4] at h2
  omega
end Go.Proofs.Am
