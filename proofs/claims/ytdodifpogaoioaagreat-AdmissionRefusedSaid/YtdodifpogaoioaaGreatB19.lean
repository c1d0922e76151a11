/- B19. -/
import Derived.Test.YtdodifpogaoioaaGreatPL1
set_option linter.unusedSimpArgs false
set_option linter.unusedVariables false
namespace Go.Proofs.Am
open Go Go.RowKit
open Go.Proofs
theorem dig_seal (s : Stm) : dig (sealS s) = dig s := rfl
theorem okS_app (au nu ti : Int) : okS (stmt au nu ti appD) := by
 have : okS (sealS ⟨au, nu, if 0 < nu then List.replicate 32 0 else [], ti, 11, 0, 0, 0, [], [], [], 0, []⟩) := by
  simp only [okS, sealS, stB, pre2, pre1, hdB, List.length_append, beL_len, be8_len, txB_len, l5, List.length_cons, List.length_nil, List.flatMap_nil]
  split <;> simp
 exact this
theorem check_app (au nu ti : Int) (h1 : inB au 0 63 = true) (h2 : inB nu 0 199 = true) (h3 : inB ti 0 2147483648 = true) : checkE (stmt au nu ti appD) = 0 := by
 have e : stmt au nu ti appD = sealS ⟨au, nu, if 0 < nu then List.replicate 32 0 else [], ti, 11, 0, 0, 0, [], [], [], 0, []⟩ := rfl
 rw [e]
 simp only [checkE, sealS, h1, h2, h3]
 have h0 : 0 ≤ nu := by simp [inB] at h2; omega
 by_cases hn : 0 < nu
 ·simp [hn, show ¬ nu = 0 by omega, inB, valB, meantB, pinsB]
 ·have : nu = 0 := by omega
  simp [this, inB, valB, meantB, pinsB]
theorem counts_app (au nu ti : Int) (h1 : inB au 0 63 = true) (h2 : inB nu 0 199 = true) (h3 : inB ti 0 2147483648 = true) : counts (stmt au nu ti appD) = true := by
 have hi : isApp (stmt au nu ti appD) = true := rfl
 have hs : (stmt au nu ti appD).sk = (stmt au nu ti appD).au ∧ (stmt au nu ti appD).sd = dig (stmt au nu ti appD) := ⟨rfl, rfl⟩
 rw [counts, hi, check_app au nu ti h1 h2 h3, decide_eq_true hs]
 rfl
set_option maxRecDepth 100000 in
theorem awake_den : Den Tryz.prog 38 [] [] (.bool true) [] [] := by
 refine den_of Tryz.mixed Tryz.func38 rfl Tryz.call38 Tryz.ntmps38 (congrArg Array.toList Tryz.results38) (by simp) (by kernel_rfl) [] (exts := []) rfl rfl ?_
 simp only [go_sem]
 refine call adraft_den [] ?_
 simp only [go_sem]
 refine call (stmt_den 7 0 0 appD (by simp [appD]) rfl) [] ?_
 simp only [go_sem]
 refine call (stmt_den 5 0 0 appD (by simp [appD]) rfl) [] ?_
 simp only [go_sem]
 have happ : cmpc (srt (apps [stmt 7 0 0 appD, stmt 5 0 0 appD])) = [5, 7] := by
  have : apps [stmt 7 0 0 appD, stmt 5 0 0 appD] = [7, 5] := by
   rw [apps, List.filter_cons, counts_app 7 0 0 rfl rfl rfl, List.filter_cons, counts_app 5 0 0 rfl rfl rfl]
   rfl
  rw [this, cmpc_srt _ (by simp)]
  decide
 refine call (applicants_den [stmt 7 0 0 appD, stmt 5 0 0 appD] (by simp [okS_app]) (by simp)) [] ?_
 rw [happ]
 simp only [go_sem]
 (repeat refine And.intro (by first | omega | exact okD_of (by kernel_rfl)) ?_)
 refine call (sameInts_den [5, 7] [5, 7] (by simp [big]) (by simp [big])) [] ?_
 simp only [go_sem]
 have hadm : newc [] 1 (want [5, 6, 7] [5] [5, 6, 7]) [] = [6] := by decide
 refine call (admit_den [5, 6, 7] [] [5, 6, 7] [5] 1 (by simp) (by simp [big]) (by simp [big]) (by simp [big])) [] ?_
 rw [hadm]
 simp only [go_sem]
 refine call (sameInts_den [6] [6] (by simp [big]) (by simp [big])) [] ?_
 simp only [go_sem]
end Go.Proofs.Am
