/- From contracts on abstract values to the given statements: rows of numbers that come in; a law that is true, at whatever world. -/
import Derived.Test.YtdodifpogaoioaaGreatBOne
import Derived.Test.YtdodifpogaoioaaGreatAmZ
import Derived.Below
set_option linter.unusedSimpArgs false
set_option linter.unusedVariables false
namespace Go.Proofs.Am
open Go Go.RowKit
open Go.Proofs
theorem row_nums {w : World} {a : Option Addr} {len cap : Nat} {zs : List Int}
  (h : (a = none ∧ len = 0 ∧ cap = 0 ∧ zs = []) ∨ ∃ x, a = some x ∧ len ≤ cap ∧ cap ≤ maxLen ∧ zs.length = cap ∧ (∀ i, i < zs.length → w.cell? (x.add i) = some (.int .i64 (zs.getD i 0))) ∧ ∀ n ∈ zs, (Lit.int .i64 n).wf = true) :
  RP (fun b u => w.cell? b = some u ∧ True) (.slice a len cap) (.vs ((zs.take len).map i1)) := by
 rcases h with ⟨rfl, rfl, rfl, rfl⟩ | ⟨x, rfl, hl, _, hz, hc, _⟩
 ·exact .vs (sz := 0) (fun _ _ => Go.undef) rfl (Nat.le_refl _) (by simp) (by simp) (by omega) fun i x j u hx hu => by simp at hx
 ·have hi : ∀ (i : Nat) (y : List PV) (j : Nat) (u : PV), ((zs.take len).map i1)[i]? = some y → y[j]? = some u → i < len ∧ j = 0 ∧ u = .int .i64 (zs.getD i 0) := fun i y j u hx hu => by
   rw [List.getElem?_map] at hx
   cases hl : (zs.take len)[i]? with
   | none => rw [hl] at hx; cases hx
   | some z =>
    rw [hl] at hx
    simp only [Option.map_some, Option.some.injEq] at hx
    subst hx
    rw [List.getElem?_take] at hl
    split at hl
    ·rename_i hil
     cases j with
     | zero => simp [i1] at hu; exact ⟨hil, rfl, by rw [← hu, List.getD_eq_getElem?_getD, hl]; rfl⟩
     | succ j => simp [i1] at hu
    ·cases hl
  have hr : ∀ y ∈ (zs.take len).map i1, y.length = 1 ∧ y.all oneP = true := fun y hy => by
   obtain ⟨z, _, rfl⟩ := List.mem_map.1 hy
   exact ⟨rfl, rfl⟩
  refine .vs (sz := 1) (fun i _ => .int .i64 (zs.getD i 0)) (by simp; omega) hl (fun y hy => (hr y hy).1) (fun y hy => (hr y hy).2) (fun _ => ⟨_, rfl, fun i y j u hx hu => ?_⟩) fun i y j u hx hu => ?_
  ·obtain ⟨h1, rfl, _⟩ := hi i y j u hx hu
   rw [Nat.mul_one, Nat.add_zero]
   exact ⟨hc i (by omega), trivial⟩
  ·obtain ⟨h1, rfl, rfl⟩ := hi i y j u hx hu
   exact .int _ _
theorem u8_nat {a : Int} (h : (Lit.int .u8 a).wf = true) : ∃ n : Nat, n < 256 ∧ a = (n : Int) := by
 have h2 : 0 ≤ a ∧ a ≤ 255 := by
  simp [Lit.wf, IntKind.min, IntKind.max, IntKind.signed, IntKind.bits] at h
  omega
 exact ⟨a.toNat, by omega, by omega⟩
theorem law_calls {P : Program} {k : FuncId} {args : List PV} (D : Den P k args [] (.bool true) [] []) (w : World) (vals : List Value) (hl : vals.length = args.length)
  (h : ∀ (i : Nat) (v : Value) (u : PV), vals[i]? = some v → args[i]? = some u → RP (fun a x => w.cell? a = some x ∧ True) v u) :
  Calls P k vals.toArray w fun e w' => e = .returned (.bool true) ∧ Below w.heap.size w w' := by
 refine (den_calls D w ⟨trivial⟩ (fun _ => True) vals hl h).mono fun e w' => ?_
 rintro ⟨v, rfl, hg, E, hR, _⟩
 rw [hR.bool_inv]
 exact ⟨rfl, (Below.refl _ w).grown hg (Nat.le_refl _) fun k hk => by cases hk⟩
end Go.Proofs.Am
