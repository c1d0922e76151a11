/- B18. -/
import Derived.Test.YtdodifpogaoioaaGreatBThree
set_option linter.unusedSimpArgs false
set_option linter.unusedVariables false
namespace Go.Proofs.Am
open Go Go.RowKit
open Go.Proofs
def isApp (s : Stm) : Bool := decide (s.kd = 11) && decide (s.a = 0) && decide (s.b = 0) && decide (s.c = 0) && decide (s.li.length = 0) && decide (s.pins.length = 0) && decide (s.body = [])
def counts (s : Stm) : Bool := isApp s && (decide (checkE s = 0) && decide (s.sk = s.au ∧ s.sd = dig s))
def apps (ss : List Stm) : List Int := (ss.filter counts).map Stm.au
theorem apps_take {ss : List Stm} {i : Nat} (h : i < ss.length) : apps (ss.take (i + 1)) = apps (ss.take i) ++ (if counts (el ss i) then [(el ss i).au] else []) := by
 rw [take_el h, apps, List.filter_append, List.map_append, List.filter_cons, List.filter_nil]
 cases counts (el ss i) <;> rfl
theorem apps_len (ss : List Stm) (i : Nat) : (apps (ss.take i)).length ≤ ss.length := by
 simp only [apps, List.length_map]
 refine Nat.le_trans (List.length_filter_le _ _) ?_
 simp; omega
theorem apps_len' (ss : List Stm) : (apps ss).length ≤ ss.length := by
 simp only [apps, List.length_map]
 exact List.length_filter_le _ _
theorem el_memB {α : Type} [Inhabited α] (l : List α) (i : Nat) (h : i < l.length) : el l i ∈ l := by
 rw [el_get l i h]; exact List.getElem_mem h
set_option maxHeartbeats 1000000 in
set_option maxRecDepth 100000 in
theorem applicants_den (ss : List Stm) (hok : ∀ s ∈ ss, okS s) (hl : ss.length ≤ 1000000) : Den Tryz.prog 47 [.vs (ss.map sm)] [] (.vs ((cmpc (srt (apps ss))).map i1)) [] [] := by
 refine den_of Tryz.mixed Tryz.func47 rfl Tryz.call47 Tryz.ntmps47 (congrArg Array.toList Tryz.results47) (by simp) (by kernel_rfl) [] (exts := []) rfl rfl ?_
 simp only [go_sem]
 refine promote 3 99 3 1 false ?_ ?_ ?_ (by omega)
 ·refine loop Tryz.mixed 0 (fun i : Nat => [(3, .os 99 (apps (ss.take i)).length), (6, .vs (ss.map sm)), (7, .int .i64 ss.length), (8, .int .i64 i)]) (fun i => [(99, .arr 3 1 false ((apps (ss.take i)).map i1))]) (fun i => i ≤ ss.length) (fun i => ss.length - i) (by kernel_rfl) ?_ ?_ ?_
  ·simp
  ·simp only [go_sem, List.take_zero, apps, List.filter_nil, List.map_nil]
  ·intro i hi
   have hwl := apps_len ss i
   by_cases hi' : i < ss.length
   ·have hlt : (i : Int) < (ss.length : Int) := by omega
    have hs := apps_take hi'
    have hoks := hok _ (el_memB ss i hi')
    by_cases h1 : (el ss i).kd = 11
    rotate_left
    ·simp only [go_sem, hlt, h1]
     have hc : counts (el ss i) = false := by simp [counts, isApp, h1]
     rw [hc] at hs
     refine ⟨i + 1, ⟨by omega, by omega⟩, ?_⟩
     simp only [go_sem, hs, List.map_append, List.length_append]
     rw [wrapI] <;> omega
    by_cases h2 : (el ss i).a = 0
    rotate_left
    ·simp only [go_sem, hlt, h1, h2]
     have hc : counts (el ss i) = false := by simp [counts, isApp, h1, h2]
     rw [hc] at hs
     refine ⟨i + 1, ⟨by omega, by omega⟩, ?_⟩
     simp only [go_sem, hs, List.map_append, List.length_append]
     rw [wrapI] <;> omega
    by_cases h3 : (el ss i).b = 0
    rotate_left
    ·simp only [go_sem, hlt, h1, h2, h3]
     have hc : counts (el ss i) = false := by simp [counts, isApp, h1, h2, h3]
     rw [hc] at hs
     refine ⟨i + 1, ⟨by omega, by omega⟩, ?_⟩
     simp only [go_sem, hs, List.map_append, List.length_append]
     rw [wrapI] <;> omega
    by_cases h4 : (el ss i).c = 0
    rotate_left
    ·simp only [go_sem, hlt, h1, h2, h3, h4]
     have hc : counts (el ss i) = false := by simp [counts, isApp, h1, h2, h3, h4]
     rw [hc] at hs
     refine ⟨i + 1, ⟨by omega, by omega⟩, ?_⟩
     simp only [go_sem, hs, List.map_append, List.length_append]
     rw [wrapI] <;> omega
    by_cases h5 : (el ss i).li.length = 0
    rotate_left
    ·have h5' : (0 : Int) < ((el ss i).li.length : Int) := by omega
     simp only [go_sem, hlt, h1, h2, h3, h4, h5']
     have hc : counts (el ss i) = false := by simp only [counts, isApp, h5]; simp
     rw [hc] at hs
     refine ⟨i + 1, ⟨by omega, by omega⟩, ?_⟩
     simp only [go_sem, hs, List.map_append, List.length_append]
     rw [wrapI] <;> omega
    have h5' : ¬ (0 : Int) < ((el ss i).li.length : Int) := by omega
    by_cases h6 : (el ss i).pins.length = 0
    rotate_left
    ·have h6' : (0 : Int) < ((el ss i).pins.length : Int) := by omega
     simp only [go_sem, hlt, h1, h2, h3, h4, h5', h6']
     have hc : counts (el ss i) = false := by simp only [counts, isApp, h6]; simp
     rw [hc] at hs
     refine ⟨i + 1, ⟨by omega, by omega⟩, ?_⟩
     simp only [go_sem, hs, List.map_append, List.length_append]
     rw [wrapI] <;> omega
    have h6' : ¬ (0 : Int) < ((el ss i).pins.length : Int) := by omega
    by_cases h7 : (el ss i).body = []
    rotate_left
    ·simp only [go_sem, hlt, h1, h2, h3, h4, h5', h6', h7]
     have hc : counts (el ss i) = false := by simp [counts, isApp, h7]
     rw [hc] at hs
     refine ⟨i + 1, ⟨by omega, by omega⟩, ?_⟩
     simp only [go_sem, hs, List.map_append, List.length_append]
     rw [wrapI] <;> omega
    simp only [go_sem, hlt, h1, h2, h3, h4, h5', h6', h7]
    have hia : isApp (el ss i) = true := by simp only [isApp, h1, h2, h3, h4, h5, h6, h7]; rfl
    refine call (check_den (el ss i) hoks) [] ?_
    by_cases k1 : checkE (el ss i) = 0
    ·simp only [go_sem, h1, h2, h3, h4, h7, k1]
     refine call (sealed_den (el ss i) hoks) [] ?_
     by_cases k2 : (el ss i).sk = (el ss i).au ∧ (el ss i).sd = dig (el ss i)
     ·have hc : counts (el ss i) = true := by simp [counts, hia, k1, k2]
      rw [hc] at hs
      generalize hb : decide ((el ss i).sk = (el ss i).au ∧ (el ss i).sd = dig (el ss i)) = b
      have hb2 : b = true := by rw [← hb]; exact decide_eq_true k2
      subst hb2
      simp only [go_sem, h1, h2, h3, h4, h7]
      refine ⟨by omega, i + 1, ⟨by omega, by omega⟩, ?_⟩
      simp only [go_sem, hs, List.map_append, List.length_append]
      rw [wrapI] <;> omega
     ·have hc : counts (el ss i) = false := by simp only [counts, k1, k2, decide_false, Bool.and_false]
      rw [hc] at hs
      generalize hb : decide ((el ss i).sk = (el ss i).au ∧ (el ss i).sd = dig (el ss i)) = b
      have hb2 : b = false := by rw [← hb]; exact decide_eq_false k2
      subst hb2
      simp only [go_sem, h1, h2, h3, h4, h7]
      refine ⟨i + 1, ⟨by omega, by omega⟩, ?_⟩
      simp only [go_sem, hs, List.map_append, List.length_append]
      rw [wrapI] <;> omega
    ·have hc : counts (el ss i) = false := by simp only [counts, k1, decide_false, Bool.and_false, Bool.false_and]
     rw [hc] at hs
     simp only [go_sem, h1, h2, h3, h4, h7, k1]
     refine ⟨i + 1, ⟨by omega, by omega⟩, ?_⟩
     simp only [go_sem, hs, List.map_append, List.length_append]
     rw [wrapI] <;> omega
   ·have : i = ss.length := by omega
    have hff : ¬ ((i : Int) < (ss.length : Int)) := by omega
    simp only [go_sem, hff]
    subst this
    rw [List.take_length]
    have hwl := apps_len' ss
    refine call (sort_den (apps ss) (by omega)) [99] ?_
    simp only [go_sem, srt_len]
    have hzs := compact_den (srt (apps ss)) (by rw [srt_len]; omega)
    rw [srt_len] at hzs
    refine ⟨Nat.le_refl _, call hzs [99] ?_⟩
    simp only [go_sem, srt_len, cmpz_len]
    exact Nat.le_refl _
 ·simp only [go_sem]
 ·simp only [go_sem]
end Go.Proofs.Am
