/- The law SuccessionLinks, walked. -/
import Derived.Test.YtdfieogkeinkmaaGreatDoorW3
import Derived.Test.YtdfieogkeinkmaaGreatDoorMTwo
import Derived.Test.YtdfieogkeinkmaaGreatDoorMSix
set_option linter.unusedSimpArgs false
set_option linter.unusedVariables false
namespace Go.Proofs.Am
open Go Go.RowKit
open Go.Proofs

/-- What is known of each term. -/
structure LinkP (r : Rl) (L : List Stm) (T : List Tm) (i : Nat) : Prop where
  ok : OkT (el T i)
  ep : (el T i).ep = i
  of : ofG r (el T i).bea (el T i).ros (rcase i) = (stS r (el T i), 0)
  ck : ckS (rcase i) (stS r (el T i)) = 0
  dec : (el T i).dec = decide ((stA r L (el T i)).length = 1)
  nx : (el T i).nx = oneC (stA r L (el T i))
  next : i + 1 < T.length → (el T i).dec = true ∧ decL (el T i).nx.li = ((el T (i + 1)).ros, 0) ∧ nextV (el T i).bea i (el T i).nx.li = (el T (i + 1)).bea ∧ (el T i).nx.li.length = 2
theorem linkP {r : Rl} {L : List Stm} (hr : ruleE r = 0) {i : Nat} (hi : i < (termsX r L).length) : LinkP r L (termsX r L) i := by
  obtain ⟨h1, h2, h3, h4⟩ := termsX_spec hr L hi
  have h5 := seatsR_st hr h1
  unfold seatsR at h5
  rw [if_neg (by simp [rcase]), h2, ← ofG_32 h1.bea] at h5
  have h6 := stS_ck hr h1
  rw [h2] at h6
  have hf : fillT r L (el (termsX r L) i) = { el (termsX r L) i with dec := decide ((stA r L (el (termsX r L) i)).length = 1), nx := oneC (stA r L (el (termsX r L) i)) } := rfl
  refine ⟨h1, h2, h5, h6, ?_, ?_, fun h => ?_⟩
  · conv => lhs; rw [← h3, hf]
  · conv => lhs; rw [← h3, hf]
  · obtain ⟨w, a1, a2⟩ := h4 h
    obtain ⟨b1, b2, rfl⟩ := afterT_some a1
    rw [a2]
    refine ⟨b1, by rw [show (fillT r L _).ros = (decL (el (termsX r L) i).nx.li).1 from rfl, ← b2], by rw [← h2]; rfl, (decL_ros b2).1.1⟩
end Go.Proofs.Am
