/- The laws of terms: their sanity check, the mill's chain of votes, and that all functions agree. -/
import Derived.Test.YtdfieogkeinkmaaGreatDoorUOne
import Derived.Test.YtdfieogkeinkmaaGreatDoorVTwo
set_option linter.unusedSimpArgs false
set_option linter.unusedVariables false
namespace Go.Proofs.Am
open Go Go.RowKit
open Go.Proofs

theorem stA_nil (r : Rl) (t : Tm) : stA r [] t = [] := List.eq_nil_of_length_eq_zero (by
  have := allV_len (seats := stS r t) (l := []) (c := rcase t.ep)
  unfold stA
  simp only [List.length_nil] at this
  omega)
theorem terms_nil {r : Rl} : termsX r [] = [term0 r] := by
  have h := (terms_stop (r := r) (L := []) (by rw [stA_nil]; simp)).1
  rw [h]
  unfold fillT
  rw [stA_nil]
  rfl
def r29 : Rl := ⟨[0, 1], ⟨[0], [2], 1⟩, 2, 5, 0⟩
theorem r29_ok : ruleE r29 = 0 := by decide
set_option maxHeartbeats 1000000 in
set_option maxRecDepth 100000 in
theorem awake29_den : Den Tryz.prog 21 [] [] (.bool true) [] [] := by
  refine den_of Tryz.mixed Tryz.func21 rfl Tryz.call21 Tryz.ntmps21 (congrArg Array.toList Tryz.results21) (by simp) (by kernel_rfl) [] (exts := []) rfl rfl ?_
  have c1 := termsP_den r29 [] ⟨by decide, by decide, by decide⟩ (by simp) (by simp)
  rw [termsE_ok r29_ok, terms_nil, rl_eq] at c1
  have h1 : (term0 r29).bea.length = 32 := sha_len _
  have ht : [term0 r29].map tm = [[.int .i64 0, .vs [i1 0, i1 1], .str (term0 r29).bea, .bool false, .vs [], .vs []]] := rfl
  simp only [ht] at c1
  generalize (term0 r29).bea = v at *
  have h2 : (v.length : Int) = 32 := by omega
  simp only [go_sem]
  refine call c1 [] ?_
  simp only [go_sem]
  refine ⟨⟨rfl, rfl, rfl, rfl, rfl, rfl, rfl⟩, ?_⟩
  refine call (sameInts_den [0, 1] [0, 1] (by simp [big]) (by simp [big])) [] ?_
  simp only [go_sem, h2]
  done

end Go.Proofs.Am

/- The mill's chain of votes for rosters: the walk. -/
namespace Go.Proofs.Am
open Go Go.RowKit
open Go.Proofs

theorem mrules_sz (l : List Int) (p : Nat) : (mrules l p).gen.length ≤ 7 ∧ (mrules l p).pol.se.length ≤ 2 ∧ (mrules l p).pol.ta.length ≤ 2 := by
  refine ⟨?_, ?_, ?_⟩
  · show (([0, 1, 2, 3, 4, 5, 6] : List Int).take _).length ≤ 7
    rw [List.length_take]
    exact Nat.min_le_right _ _
  · show (if _ then [0, 1] else [0] : List Int).length ≤ 2
    split <;> simp
  · exact Nat.le_refl 2
theorem mrules_RlB (l : List Int) (p : Nat) : RlB (mrules l p) := by
  obtain ⟨h0, h1, h2⟩ := mrules_sz l p
  exact ⟨by omega, by omega, by omega⟩
theorem chStep_eq (l : List Int) (r : Rl) (ep : Int) (s : ChS) : chStep l r ep s = ⟨(chGo l ep (chX l ep s).1 (chY l ep s).1 (chS r ep s) ((chY l ep s).2, s.L) (chS r ep s).length).1,
   (chGo l ep (chX l ep s).1 (chY l ep s).1 (chS r ep s) ((chY l ep s).2, s.L) (chS r ep s).length).2,
   (decL (chX l ep s).1.li).1, nextV s.v ep (chX l ep s).1.li⟩ := rfl

end Go.Proofs.Am
