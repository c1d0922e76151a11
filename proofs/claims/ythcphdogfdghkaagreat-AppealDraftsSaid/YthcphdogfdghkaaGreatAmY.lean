/- A nil slice handed back may be taken as an empty list. -/
import Derived.Test.YthcphdogfdghkaaGreatAmX
set_option linter.unusedSimpArgs false
set_option linter.unusedVariables false
namespace Go.Proofs.Am
open Go Go.RowKit

def nv : PV → PV
  | .nils => .vs []
  | u => u
theorem RV.nv {E : Env} {v : Value} {u : PV} (h : RV E v u) : RV E v (nv u) := by
  cases u with
  | nils =>
    have := h.nils_inv
    subst this
    exact .pure (.vs (sz := 0) (fun _ _ => Go.undef) rfl (Nat.le_refl _) (by simp) (by simp) (by omega) fun i x j u hx hu => by simp at hx)
  | _ => exact h
theorem RV.nvs {E : Env} {v : Value} {cs : List PV} (h : RV E v (.agg cs)) : RV E v (.agg (cs.map Am.nv)) := by
  obtain ⟨vs, rfl, hl, hr⟩ := h.agg_inv
  refine .agg (by simp [hl]) fun i u hu => ?_
  rw [List.getElem?_map] at hu
  cases hc : cs[i]? with
  | none => rw [hc] at hu; cases hu
  | some c =>
    rw [hc] at hu
    simp only [Option.map_some, Option.some.injEq] at hu
    subst hu
    exact (hr i c hc).nv
theorem Den.nvs {P : Program} {k : FuncId} {args : List PV} {ext nb ext' : List Box} {cs : List PV} (D : Den P k args ext (.agg cs) nb ext') : Den P k args ext (.agg (cs.map nv)) nb ext' := by
  refine ⟨D.enter, fun w V hv vals h1 h2 h3 => (D.run w V hv vals h1 h2 h3).mono fun en w' => ?_⟩
  rintro ⟨v, hv', he, hS, hR⟩
  exact ⟨v, hv', he, hS, hR.nvs⟩
theorem nv_nils : nv .nils = .vs [] := (rfl)
theorem nv_vs (xs : List (List PV)) : nv (.vs xs) = .vs xs := (rfl)
theorem nv_int (k : IntKind) (n : Int) : nv (.int k n) = .int k n := (rfl)
theorem nv_str (l : List UInt8) : nv (.str l) = .str l := (rfl)
theorem nv_bool (b : Bool) : nv (.bool b) = .bool b := (rfl)
attribute [go_sem] nv_nils nv_vs nv_int nv_str nv_bool
end Go.Proofs.Am
