/- C10. -/
import Derived.Test.YteakcpfdfglndaaGreatDoorC9
set_option linter.unusedSimpArgs false
set_option linter.unusedVariables false
namespace Go.Proofs.Am
open Go Go.RowKit
open Go.Proofs
theorem sealS_ok (s : Stm) : (sealS s).sk = (sealS s).au ∧ (sealS s).sd = dig (sealS s) := ⟨rfl, rfl⟩
theorem check_ap (k nu ti : Int) (c : Cs) (hk : 0 ≤ k ∧ k ≤ 63) (hn : 0 ≤ nu ∧ nu ≤ 199) (ht : 0 ≤ ti ∧ ti ≤ 2147483648) (hc : caseV c = true) : checkE (stmt k nu ti (apD c)) = 0 := by
 have hc := of_decide_eq_true hc
 have a1 : (stmt k nu ti (apD c)).au = k := rfl
 have a2 : (stmt k nu ti (apD c)).kd = 15 := rfl
 have a3 : (stmt k nu ti (apD c)).ti = ti := rfl
 have a4 : (stmt k nu ti (apD c)).nu = nu := rfl
 have a5 : (stmt k nu ti (apD c)).a = c.ep := rfl
 have a6 : (stmt k nu ti (apD c)).b = c.kd := rfl
 have a7 : (stmt k nu ti (apD c)).c = c.su := rfl
 have a8 : (stmt k nu ti (apD c)).li = [] := rfl
 have a9 : (stmt k nu ti (apD c)).pins = [] := rfl
 have a10 : (stmt k nu ti (apD c)).body = [] := rfl
 have a11 : (stmt k nu ti (apD c)).prev = if 0 < nu then List.replicate 32 0 else [] := rfl
 generalize stmt k nu ti (apD c) = s at *
 have b1 : inB s.au 0 63 = true := decide_eq_true (by omega)
 have b2 : inB s.kd 10 31 = true := decide_eq_true (by omega)
 have b3 : inB s.ti 0 2147483648 = true := decide_eq_true (by omega)
 have b4 : inB s.nu 0 199 = true := decide_eq_true (by omega)
 have b5 : valB s.a = true := decide_eq_true (by omega)
 have b6 : valB s.b = true := decide_eq_true (by omega)
 have b7 : valB s.c = true := decide_eq_true (by omega)
 have b8 : meantB s = true := by rw [meantB, if_neg (by omega), if_neg (by omega), if_neg (by omega)]
 have b9 : pinsB ([] : List Pn) = true := pinsB_true fun i h => by simp at h
 have b10 : (decide (s.nu = 0) && decide (s.prev ≠ [])) = false := by
  by_cases h : s.nu = 0
  ·rw [a11, if_neg (by omega)]; simp
  ·simp [h]
 have b11 : (decide (0 < s.nu) && decide (s.prev.length ≠ 32)) = false := by
  by_cases h : 0 < s.nu
  ·rw [a11, if_pos (by omega)]; simp
  ·simp [h]
 have b12 : decide (s.kd ≤ 3) = false := decide_eq_false (by omega)
 simp only [checkE, b1, b2, b3, b4, b5, b6, b7, b8, b9, b10, b11, b12, a8, a9, a10]
 simp
theorem ask_stmt (ros : List Int) (k nu ti : Int) (c c' : Cs) (hk : 0 ≤ k ∧ k ≤ 63) (hn : 0 ≤ nu ∧ nu ≤ 199) (ht : 0 ≤ ti ∧ ti ≤ 2147483648) (hc : caseV c = true) :
  askB ros c' (stmt k nu ti (apD c)) = (decide (k ∈ ros) && (decide (c.ep = c'.ep) && (decide (c.kd = c'.kd) && decide (c.su = c'.su)))) := by
 have h1 := check_ap k nu ti c hk hn ht hc
 have h2 : (stmt k nu ti (apD c)).sk = (stmt k nu ti (apD c)).au ∧ (stmt k nu ti (apD c)).sd = dig (stmt k nu ti (apD c)) := sealS_ok _
 have a1 : (stmt k nu ti (apD c)).au = k := rfl
 have a2 : (stmt k nu ti (apD c)).kd = 15 := rfl
 have a5 : (stmt k nu ti (apD c)).a = c.ep := rfl
 have a6 : (stmt k nu ti (apD c)).b = c.kd := rfl
 have a7 : (stmt k nu ti (apD c)).c = c.su := rfl
 have a8 : (stmt k nu ti (apD c)).li = [] := rfl
 have a9 : (stmt k nu ti (apD c)).pins = [] := rfl
 have a10 : (stmt k nu ti (apD c)).body = [] := rfl
 generalize stmt k nu ti (apD c) = s at *
 rw [askB, decide_eq_true h1, decide_eq_true h2, decide_eq_true a2, a1, a5, a6, a7, a8, a9, a10]
 simp
theorem stmt_okS (k nu ti : Int) (d : Drf) (hd : okDr d) : okS (stmt k nu ti d) := by
 obtain ⟨h1, h2⟩ := hd
 have hxp := flat_ge d.pins
 have hp : (if 0 < nu then List.replicate 32 (0 : UInt8) else []).length ≤ 32 := by split <;> simp
 show okS (sealS _)
 simp only [sealS, okS, stB, pre2, pre1, hdB, List.length_append, beL_len, be8_len, txB_len, l5, List.length_cons, List.length_nil]
 omega
theorem apD_ok (c : Cs) : okDr (apD c) := ⟨by simp [apD], by simp [apD]⟩
theorem mrules_sz (l : List Int) (p : Nat) : (mrules l p).gen.length ≤ 7 ∧ (mrules l p).pol.se.length ≤ 2 ∧ (mrules l p).pol.ta.length ≤ 2 := by
 refine ⟨?_, ?_, ?_⟩
 ·show (([0, 1, 2, 3, 4, 5, 6] : List Int).take _).length ≤ 7
  rw [List.length_take]
  exact Nat.min_le_right _ _
 ·show (if _ then [0, 1] else [0] : List Int).length ≤ 2
  split <;> simp
 ·exact Nat.le_refl 2
end Go.Proofs.Am
