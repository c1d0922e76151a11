/- NOne. -/
import Derived.Test.YteakcpfdfglndaaGreatDoorEOne
import Derived.Test.YteakcpfdfglndaaGreatDoorGOne
import Derived.Test.YteakcpfdfglndaaGreatDoorHOne
set_option linter.unusedSimpArgs false
set_option linter.unusedVariables false
namespace Go.Proofs.Am
open Go Go.RowKit
open Go.Proofs
end Go.Proofs.Am

/- slices.SortStableFunc of statements, where these are few. -/
namespace Go.Proofs.Am
open Go Go.RowKit
open Go.Proofs
end Go.Proofs.Am

/- slices.CompactFunc of statements: the first of each author. -/
namespace Go.Proofs.Am
open Go Go.RowKit
open Go.Proofs
def zS : List PV := [.int .i64 0, .int .i64 0, .str [], .int .i64 0, .int .i64 0, .int .i64 0, .int .i64 0, .int .i64 0, .vs [], .vs [], .str [], .int .i64 0, .str []]
theorem zS_eq : zS = [PV.int .i64 0, PV.int .i64 0, PV.str [], PV.int .i64 0, PV.int .i64 0, PV.int .i64 0, PV.int .i64 0, PV.int .i64 0, .nils, .nils, PV.str [], PV.int .i64 0, PV.str []].map purZ := (rfl)
end Go.Proofs.Am

/- Certificates of what was decided. -/
namespace Go.Proofs.Am
open Go Go.RowKit
open Go.Proofs
theorem oneC_big {seats : List Int} {l : List Stm} {c : Cs} : bigC (oneC (allV seats (votesL l c))) := by
 unfold oneC
 split
 ·rename_i h
  have hm : el (allV seats (votesL l c)) 0 ∈ allV seats (votesL l c) := el_mem (by omega)
  obtain ⟨n, hn, e, he⟩ := mem_allV.1 hm
  have hk : n.ks ≠ [] := (cnR_spec seats (votesL l c)).r4 n hn
  obtain ⟨k, r, hk⟩ := List.exists_cons_of_ne_nil hk
  obtain ⟨_, y, hy, e2, _⟩ := ks_vote hn (k := k) (by rw [hk]; simp)
  rw [← e, ← e2]
  exact okCt_big (votes_okX y hy).1
 ·exact ⟨by simp [noC, big], by simp [noC, big]⟩
end Go.Proofs.Am
