/- Y1. -/
import Derived.Test.YtdodifpogaoioaaGreatWOne
set_option linter.unusedSimpArgs false
set_option linter.unusedVariables false
namespace Go.Proofs.Am
open Go Go.RowKit
open Go.Proofs
def dofX (l : List Int) (p : Nat) (xs : List Int) : Int := el xs (dnext l p xs.length).toNat
def oddR (l : List Int) (p : Nat) (r : Rl) : Rl × Nat :=
 if dnext l p 7 = 0 then ({ r with gen := el [[], [1, 1], [-1], [64], [3, 2]] (dnext l (dgo l p 1) 5).toNat }, dgo l p 2)
 else if dnext l p 7 = 1 then ({ r with seats := dofX l (dgo l p 1) [0, -1, 9, 10] }, dgo l p 2)
 else if dnext l p 7 = 2 then ({ r with span := dofX l (dgo l p 1) [0, -1, 1000000, 1000001] }, dgo l p 2)
 else if dnext l p 7 = 3 then ({ r with quota := dofX l (dgo l p 1) [-1, 64, 65] }, dgo l p 2)
 else if dnext l p 7 = 4 then ({ r with pol := { r.pol with se := el [[], [64], [1, 0]] (dnext l (dgo l p 1) 3).toNat } }, dgo l p 2)
 else if dnext l p 7 = 5 then ({ r with pol := { r.pol with ta := el [[], [1, 2], [0], [1001]] (dnext l (dgo l p 1) 4).toNat } }, dgo l p 2)
 else ({ r with pol := { r.pol with lv := dofX l (dgo l p 1) [0, 4, -1] } }, dgo l p 2)
theorem oddR_RlB {l : List Int} {p : Nat} {r : Rl} (h : RlB r) : RlB (oddR l p r).1 := by
 have hm : ∀ (L : List (List Int)) (i : Nat), (∀ x ∈ L, x.length ≤ 2) → (el L i).length ≤ 1000000 := fun L i hL => by
  by_cases hi : i < L.length
  ·have := hL _ (el_mem hi)
   omega
  ·rw [show el L i = default by simp [el, List.getD_eq_getElem?_getD, List.getElem?_eq_none (Nat.le_of_not_lt hi)]]
   exact Nat.zero_le _
 obtain ⟨h1, h2, h3⟩ := h
 unfold oddR
 (repeat' split)
 ·exact ⟨hm _ _ (by simp), h2, h3⟩
 ·exact ⟨h1, h2, h3⟩
 ·exact ⟨h1, h2, h3⟩
 ·exact ⟨h1, h2, h3⟩
 ·exact ⟨h1, hm _ _ (by simp), h3⟩
 ·exact ⟨h1, h2, hm _ _ (by simp)⟩
 ·exact ⟨h1, h2, h3⟩
set_option maxHeartbeats 1000000 in
set_option maxRecDepth 100000 in
theorem modd_den (l : List Int) (p : Nat) (r : Rl) (hl : big l.length) (hp : p ≤ l.length) : Den Tryz.prog 13 [.ptr 1000000 0, .agg (rl r)] [dbox l p] (.agg (rl (oddR l p r).1)) [] [dbox l (oddR l p r).2] := by
 refine den_of Tryz.mixed Tryz.func13 rfl Tryz.call13 Tryz.ntmps13 (congrArg Array.toList Tryz.results13) (by simp) (by kernel_rfl) [] (exts := [1000000]) rfl rfl ?_
 have hp1 := dgo_le hp 1
 have e0 : dpos l p = dgo l p 1 := rfl
 have b7 := dnext_lt (l := l) (p := p) (n := 7) (by omega)
 have cof : ∀ xs : List Int, 0 < xs.length → big xs.length → Den Tryz.prog 15 [.ptr 1000000 0, .vs (xs.map i1)] [dbox l (dgo l p 1)] (.int .i64 (dofX l (dgo l p 1) xs)) [] [dbox l (dgo l p 2)] := fun xs h0 h1 => of_den l (dgo l p 1) xs hl hp1 h0 h1
 rw [rl_eq r]
 by_cases k0 : dnext l p 7 = 0
 ·have hR : oddR l p r = ({ r with gen := el [[], [1, 1], [-1], [64], [3, 2]] (dnext l (dgo l p 1) 5).toNat }, dgo l p 2) := by unfold oddR; rw [if_pos k0]
  rw [hR, rl_eq]
  have b := dnext_lt (l := l) (p := dgo l p 1) (n := 5) (by omega)
  obtain ⟨j, hj⟩ : ∃ j : Nat, dnext l (dgo l p 1) 5 = (j : Int) := ⟨(dnext l (dgo l p 1) 5).toNat, by omega⟩
  have cn := next_den l (dgo l p 1) 5 hl hp1 (by omega)
  rw [hj] at b cn ⊢
  have hj5 : j = 0 ∨ j = 1 ∨ j = 2 ∨ j = 3 ∨ j = 4 := by omega
  rcases hj5 with rfl | rfl | rfl | rfl | rfl
  all_goals
   simp only [go_sem]
   refine call (next_den l p 7 hl hp (by omega)) [1000000] ?_
   simp only [go_sem, k0, e0]
   refine call cn [1000000] ?_
   simp only [go_sem, dgo_succ]
   rfl
 by_cases k1 : dnext l p 7 = 1
 ·have hR : oddR l p r = ({ r with seats := dofX l (dgo l p 1) [0, -1, 9, 10] }, dgo l p 2) := by unfold oddR; rw [if_neg k0, if_pos k1]
  rw [hR, rl_eq]
  have c := cof [0, -1, 9, 10] (by simp) (by simp [big])
  generalize dofX l (dgo l p 1) [0, -1, 9, 10] = v at *
  simp only [go_sem]
  refine call (next_den l p 7 hl hp (by omega)) [1000000] ?_
  simp only [go_sem, k1, e0]
  refine call c [1000000] ?_
  simp only [go_sem]
 by_cases k2 : dnext l p 7 = 2
 ·have hR : oddR l p r = ({ r with span := dofX l (dgo l p 1) [0, -1, 1000000, 1000001] }, dgo l p 2) := by unfold oddR; rw [if_neg k0, if_neg k1, if_pos k2]
  rw [hR, rl_eq]
  have c := cof [0, -1, 1000000, 1000001] (by simp) (by simp [big])
  generalize dofX l (dgo l p 1) [0, -1, 1000000, 1000001] = v at *
  simp only [go_sem]
  refine call (next_den l p 7 hl hp (by omega)) [1000000] ?_
  simp only [go_sem, k2, e0]
  refine call c [1000000] ?_
  simp only [go_sem]
 by_cases k3 : dnext l p 7 = 3
 ·have hR : oddR l p r = ({ r with quota := dofX l (dgo l p 1) [-1, 64, 65] }, dgo l p 2) := by unfold oddR; rw [if_neg k0, if_neg k1, if_neg k2, if_pos k3]
  rw [hR, rl_eq]
  have c := cof [-1, 64, 65] (by simp) (by simp [big])
  generalize dofX l (dgo l p 1) [-1, 64, 65] = v at *
  simp only [go_sem]
  refine call (next_den l p 7 hl hp (by omega)) [1000000] ?_
  simp only [go_sem, k3, e0]
  refine call c [1000000] ?_
  simp only [go_sem]
 by_cases k4 : dnext l p 7 = 4
 ·have hR : oddR l p r = ({ r with pol := { r.pol with se := el [[], [64], [1, 0]] (dnext l (dgo l p 1) 3).toNat } }, dgo l p 2) := by unfold oddR; rw [if_neg k0, if_neg k1, if_neg k2, if_neg k3, if_pos k4]
  rw [hR, rl_eq]
  have b := dnext_lt (l := l) (p := dgo l p 1) (n := 3) (by omega)
  obtain ⟨j, hj⟩ : ∃ j : Nat, dnext l (dgo l p 1) 3 = (j : Int) := ⟨(dnext l (dgo l p 1) 3).toNat, by omega⟩
  have cn := next_den l (dgo l p 1) 3 hl hp1 (by omega)
  rw [hj] at b cn ⊢
  have hj5 : j = 0 ∨ j = 1 ∨ j = 2 := by omega
  rcases hj5 with rfl | rfl | rfl
  all_goals
   simp only [go_sem]
   refine call (next_den l p 7 hl hp (by omega)) [1000000] ?_
   simp only [go_sem, k4, e0]
   refine call cn [1000000] ?_
   simp only [go_sem, dgo_succ]
   rfl
 by_cases k5 : dnext l p 7 = 5
 ·have hR : oddR l p r = ({ r with pol := { r.pol with ta := el [[], [1, 2], [0], [1001]] (dnext l (dgo l p 1) 4).toNat } }, dgo l p 2) := by unfold oddR; rw [if_neg k0, if_neg k1, if_neg k2, if_neg k3, if_neg k4, if_pos k5]
  rw [hR, rl_eq]
  have b := dnext_lt (l := l) (p := dgo l p 1) (n := 4) (by omega)
  obtain ⟨j, hj⟩ : ∃ j : Nat, dnext l (dgo l p 1) 4 = (j : Int) := ⟨(dnext l (dgo l p 1) 4).toNat, by omega⟩
  have cn := next_den l (dgo l p 1) 4 hl hp1 (by omega)
  rw [hj] at b cn ⊢
  have hj5 : j = 0 ∨ j = 1 ∨ j = 2 ∨ j = 3 := by omega
  rcases hj5 with rfl | rfl | rfl | rfl
  all_goals
   simp only [go_sem]
   refine call (next_den l p 7 hl hp (by omega)) [1000000] ?_
   simp only [go_sem, k5, e0]
   refine call cn [1000000] ?_
   simp only [go_sem, dgo_succ]
   rfl
 ·have hR : oddR l p r = ({ r with pol := { r.pol with lv := dofX l (dgo l p 1) [0, 4, -1] } }, dgo l p 2) := by unfold oddR; rw [if_neg k0, if_neg k1, if_neg k2, if_neg k3, if_neg k4, if_neg k5]
  rw [hR, rl_eq]
  have c := cof [0, 4, -1] (by simp) (by simp [big])
  generalize dofX l (dgo l p 1) [0, 4, -1] = v at *
  simp only [go_sem]
  refine call (next_den l p 7 hl hp (by omega)) [1000000] ?_
  simp only [go_sem, k0, k1, k2, k3, k4, k5, e0]
  refine call c [1000000] ?_
  simp only [go_sem]
end Go.Proofs.Am
