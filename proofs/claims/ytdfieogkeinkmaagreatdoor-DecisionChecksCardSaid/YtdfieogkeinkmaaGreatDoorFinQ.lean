/- A statement's input that is a certificate: what it holds. -/
import Derived.Test.YtdfieogkeinkmaaGreatDoorFinP
import Derived.Test.YtdfieogkeinkmaaGreatDoorHOne
set_option linter.unusedSimpArgs false
set_option linter.unusedVariables false
namespace Go.Proofs.Am
open Go Go.RowKit
open Go.Proofs
section
variable {H : Type} {enc : TypeId × Value → H} {P : Program} {w : World} {base : Nat} {sp : Nat → Bool} {held : Bool}
theorem opens_caseB {t : TypeId} {f0 f1 f2 f3 : Field} (ht : P.underlying t = some (.struct #[f0, f1, f2, f3]))
    (h0 : P.underlying f0.type = some (.int .i64)) (h1 : P.underlying f1.type = some (.int .i64)) (h2 : P.underlying f2.type = some (.int .i64)) (h3 : P.underlying f3.type = some (.int .i64))
    (o0 : f0.offset = 0) (o1 : f1.offset = 1) (o2 : f2.offset = 2) (o3 : f3.offset = 3) : OpensB enc P w base sp held t 4 cs (fun _ => True) := by
  intro fuel cs x h hw
  obtain ⟨xs, n, rfl, rfl, hl, hxl, hall⟩ := DataW.trod_struct ht h
  have hwt : ∀ n ∈ DataW.weightsEach P ((#[f0, f1, f2, f3] : Array Field).toList.map (·.type)) (xs.map (·.1)), n ≤ 140737488351232 := fun n hn => hw n (by unfold DataW.weights; rw [ht]; exact hn)
  obtain ⟨y0, _, _, _, r0⟩ := opensB_fld hall hxl hwt 0 f0 rfl (opens_int h0).b
  obtain ⟨y1, _, _, _, r1⟩ := opensB_fld hall hxl hwt 1 f1 rfl (opens_int h1).b
  obtain ⟨y2, _, _, _, r2⟩ := opensB_fld hall hxl hwt 2 f2 rfl (opens_int h2).b
  obtain ⟨y3, _, _, _, r3⟩ := opensB_fld hall hxl hwt 3 f3 rfl (opens_int h3).b
  rw [o0] at r0
  rw [o1] at r1
  rw [o2] at r2
  rw [o3] at r3
  refine ⟨⟨y0, y1, y2, y3⟩, trivial, rfl, rfl, fun j u hu => ?_⟩
  match j, hu with
  | 0, hu => exact r0 0 u hu
  | 1, hu => exact r1 0 u hu
  | 2, hu => exact r2 0 u hu
  | 3, hu => exact r3 0 u hu
  | j + 4, hu => simp [Am.cs] at hu
theorem opens_cert {t : TypeId} {f0 f1 : Field} {G : List Stm → Prop} (ht : P.underlying t = some (.struct #[f0, f1]))
    (h0 : OpensB enc P w base sp held f0.type 4 cs (fun _ => True)) (h1 : OpensB enc P w base sp held f1.type 1 (fun l : List Stm => [.vs (l.map sm)]) G)
    (o0 : f0.offset = 0) (o1 : f1.offset = 4) : OpensB enc P w base sp held t 5 (fun y : Cs × List Stm => ce y.1 y.2) (fun y => G y.2) := by
  intro fuel cs x h hw
  obtain ⟨xs, n, rfl, rfl, hl, hxl, hall⟩ := DataW.trod_struct ht h
  have hwt : ∀ n ∈ DataW.weightsEach P ((#[f0, f1] : Array Field).toList.map (·.type)) (xs.map (·.1)), n ≤ 140737488351232 := fun n hn => hw n (by unfold DataW.weights; rw [ht]; exact hn)
  obtain ⟨y0, _, _, _, r0⟩ := opensB_fld hall hxl hwt 0 f0 rfl h0
  obtain ⟨y1, p1, _, _, r1⟩ := opensB_fld hall hxl hwt 1 f1 rfl h1
  rw [o0] at r0
  rw [o1] at r1
  refine ⟨⟨y0, y1⟩, p1, rfl, rfl, fun j u hu => ?_⟩
  match j, hu with
  | 0, hu => exact r0 0 u hu
  | 1, hu => exact r0 1 u hu
  | 2, hu => exact r0 2 u hu
  | 3, hu => exact r0 3 u hu
  | 4, hu => exact r1 0 u hu
  | j + 5, hu => simp [ce] at hu
end
end Go.Proofs.Am
