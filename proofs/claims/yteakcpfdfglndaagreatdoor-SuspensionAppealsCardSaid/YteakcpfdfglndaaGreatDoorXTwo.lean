/- XTwo. -/
import Derived.Test.YteakcpfdfglndaaGreatDoorXOne
import Derived.Test.YteakcpfdfglndaaGreatDoorWOne
import Derived.Test.YteakcpfdfglndaaGreatDoorEOne
import Derived.Test.YteakcpfdfglndaaGreatDoorVTwo
import Derived.Test.YteakcpfdfglndaaGreatDoorCThree
import Derived.Test.YteakcpfdfglndaaGreatDoorBThree
set_option linter.unusedSimpArgs false
set_option linter.unusedVariables false
namespace Go.Proofs.Am
open Go Go.RowKit
open Go.Proofs
end Go.Proofs.Am

/- Keys that a committee refuses: the program's way; gates. -/
namespace Go.Proofs.Am
open Go Go.RowKit
open Go.Proofs
end Go.Proofs.Am

/- Gates: rules, a term, and votes on the refusal of some keys, with appeals. -/
namespace Go.Proofs.Am
open Go Go.RowKit
open Go.Proofs
end Go.Proofs.Am

/- The law AdmissionRefused, walked. -/
namespace Go.Proofs.Am
open Go Go.RowKit
open Go.Proofs
theorem allFor_len {c : Cs} {nu : Int} {x : Ct} {s : List Int} : (allFor c nu x s).length = s.length := by simp [allFor]
theorem allFor_succ {c : Cs} {nu : Int} {x : Ct} {s : List Int} {i : Nat} (h : i < s.length) : allFor c nu x (s.take (i + 1)) = allFor c nu x (s.take i) ++ [vt (el s i) nu c x] := by
 unfold allFor
 rw [take_el h, List.map_append, List.map_singleton]
theorem vt_pl {c : Cs} {nu : Int} {x : Ct} {s : List Int} (hk : c.kd ≠ 1) (hx : x.pi = []) : ∀ y ∈ allFor c nu x s, plS y ∧ (okCt x → okS y) := fun y hy => by
 obtain ⟨k, _, rfl⟩ := mem_allFor.1 hy
 exact ⟨pl_vt hk hx, fun h => vt_okS _ _ _ h⟩
def rfL (r : Rl) (t : Tm) (c : Cs) (x0 x1 : Ct) : Nat → List Stm
 | 0 => []
 | 1 => allFor c 0 x0 (seatsG r t c).1
 | _ => allFor c 0 x0 (seatsG r t c).1 ++ (if (seatsG r t (sec1 c)).2 = 0 then allFor (sec1 c) 1 x1 (seatsG r t (sec1 c)).1 else [])
theorem rfL_two (r : Rl) (t : Tm) (c : Cs) (x0 x1 : Ct) : rfL r t c x0 x1 2 = allFor c 0 x0 (seatsG r t c).1 ++ (if (seatsG r t (sec1 c)).2 = 0 then allFor (sec1 c) 1 x1 (seatsG r t (sec1 c)).1 else []) := rfl
theorem right01 {c : Cs} {n : Int} (hc : caseV c = true) (hk : c.kd ≠ 1) (hn : n = 0 ∨ n = 1) : rightB c ⟨[n], []⟩ = true := by
 unfold rightB
 rw [hc]
 have h1 : checkE (pinS []) = 0 := by decide +kernel
 rw [show (⟨[n], []⟩ : Ct).pi = [] from rfl, h1]
 unfold listV
 rw [if_neg hk]
 rcases hn with rfl | rfl <;> rfl
end Go.Proofs.Am
