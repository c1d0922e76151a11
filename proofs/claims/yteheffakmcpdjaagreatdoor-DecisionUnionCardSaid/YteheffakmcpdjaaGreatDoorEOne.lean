/- The mill's cases and turned lists. -/
import Derived.Test.YteheffakmcpdjaaGreatDoorCThree
import Derived.Test.YteheffakmcpdjaaGreatDoorDThree
import Derived.Test.YteheffakmcpdjaaGreatDoorETwo
set_option linter.unusedSimpArgs false
set_option linter.unusedVariables false
namespace Go.Proofs.Am
open Go Go.RowKit
open Go.Proofs

/-- The mill's case. -/
def mcase (l : List Int) (p : Nat) (ep : Int) : Cs × Nat :=
  if dnext l p 3 ≠ 0 then (⟨ep, 1 + dnext l p 3, dnext l (dgo l p 1) 7, dnext l (dgo l p 2) 2⟩, dgo l p 3) else (⟨ep, 1, 0, 0⟩, dgo l p 1)
theorem mcase_le {l : List Int} {p : Nat} (hp : p ≤ l.length) (ep : Int) : (mcase l p ep).2 ≤ l.length := by
  unfold mcase
  split <;> exact dgo_le hp _
set_option maxHeartbeats 1000000 in
set_option maxRecDepth 100000 in
theorem mcase_den (l : List Int) (p : Nat) (ep : Int) (hl : big l.length) (hp : p ≤ l.length) : Den Tryz.prog 12 [.ptr 1000000 0, .int .i64 ep] [dbox l p] (.agg (cs (mcase l p ep).1)) [] [dbox l (mcase l p ep).2] := by
  refine den_of Tryz.mixed Tryz.func12 rfl Tryz.call12 Tryz.ntmps12 (congrArg Array.toList Tryz.results12) (by simp) (by kernel_rfl) [] (exts := [1000000]) rfl rfl ?_
  have hp1 := dgo_le hp 1
  have hp2 := dgo_le hp 2
  have e0 : dpos l p = dgo l p 1 := rfl
  have b1 := dnext_lt (l := l) (p := p) (n := 3) (by omega)
  have w1 : IntKind.i64.wrap (1 + dnext l p 3) = 1 + dnext l p 3 := by rw [wrapI] <;> omega
  have hm : mcase l p ep = if dnext l p 3 ≠ 0 then (⟨ep, 1 + dnext l p 3, dnext l (dgo l p 1) 7, dnext l (dgo l p 2) 2⟩, dgo l p 3) else (⟨ep, 1, 0, 0⟩, dgo l p 1) := rfl
  generalize mcase l p ep = m at *
  simp only [go_sem]
  refine call (next_den l p 3 hl hp (by omega)) [1000000] ?_
  generalize hk : dnext l p 3 = k at *
  by_cases k0 : k = 0
  · subst k0
    rw [if_neg (by simp)] at hm
    subst hm
    have w0 : IntKind.i64.wrap 1 = 1 := by rw [wrapI] <;> omega
    simp only [go_sem, e0, w0, cs_eq]
  · rw [if_pos k0] at hm
    subst hm
    have k1 : ¬ 1 + k = 1 := by omega
    simp only [go_sem, e0, w1, k1, cs_eq]
    refine call (next_den l (dgo l p 1) 7 hl hp1 (by omega)) [1000000] ?_
    simp only [go_sem, dgo_succ]
    refine call (next_den l (dgo l p 2) 2 hl hp2 (by omega)) [1000000] ?_
    simp only [go_sem, dgo_succ]

/-- A list that begins at another place. -/
def turnS (l : List Stm) (n : Int) : List Stm := (List.range l.length).map fun i => el l ((i + (mmod n l.length).toNat) % l.length)
def turnP (l : List Stm) (n : Int) (i : Nat) : List Stm := (List.range i).map fun i => el l ((i + (mmod n l.length).toNat) % l.length)
end Go.Proofs.Am

/- The document's votes and cases: what they are made of. -/
namespace Go.Proofs.Am
open Go Go.RowKit
open Go.Proofs

/-- A case comes ahead of another one. -/
def earlC (a b : Cs) : Bool := if a.ep ≠ b.ep then decide (a.ep < b.ep) else if a.kd ≠ b.kd then decide (a.kd < b.kd) else if a.su ≠ b.su then decide (a.su < b.su) else decide (a.ro < b.ro)
end Go.Proofs.Am

/- slices.Compact of cases. -/
namespace Go.Proofs.Am
open Go Go.RowKit
open Go.Proofs

theorem kp_full {α : Type} [Inhabited α] (q : α → α → Bool) (l : List α) (h : ∀ j, 0 < j → j < l.length → q (el l j) (el l (j - 1)) = false) : kp q l l.length = l := by
  rw [kp_take q l l.length (Nat.le_refl _) h, List.take_length]
def sameC (a b : Cs) : Bool := decide (a = b)
def zC : List PV := [.int .i64 0, .int .i64 0, .int .i64 0, .int .i64 0]
theorem set_take {α : Type} [Inhabited α] {L o : List α} {v : α} (h1 : o.length < L.length) (h2 : L.take o.length = o) : (L.set o.length v).take (o ++ [v]).length = o ++ [v] := by
  rw [List.length_append, List.length_singleton, List.take_add_one, List.take_set_of_le (Nat.le_refl _), h2]
  simp [h1]
theorem set_el {α : Type} [Inhabited α] {L : List α} {v : α} {k a : Nat} (h : k < a) : el (L.set k v) a = el L a := by
  simp only [el, List.getD_eq_getElem?_getD, List.getElem?_set]
  rw [if_neg (by omega)]
end Go.Proofs.Am
