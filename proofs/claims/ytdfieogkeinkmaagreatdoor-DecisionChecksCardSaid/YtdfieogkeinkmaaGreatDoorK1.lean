/- K1. -/
import Derived.Test.YtdfieogkeinkmaaGreatDoorMSix
import Derived.Test.YtdfieogkeinkmaaGreatDoorHOne
import Derived.Test.YtdfieogkeinkmaaGreatDoorAmCut
set_option linter.unusedSimpArgs false
set_option linter.unusedVariables false
namespace Go.Proofs.Am
open Go Go.RowKit
open Go.Proofs
def ckGo (l : List Int) (c : Cs) (x : Ct) (seats : List Int) (p : Nat) : Nat → Nat × List Stm
  | 0 => (p, [])
  | i + 1 => (dgo l (ckGo l c x seats p i).1 1, (ckGo l c x seats p i).2 ++ [vt (el seats i) (dnext l (ckGo l c x seats p i).1 2) c x])
theorem ckGo_le {l : List Int} {c : Cs} {x : Ct} {seats : List Int} {p : Nat} (hp : p ≤ l.length) : ∀ i, (ckGo l c x seats p i).1 ≤ l.length
  | 0 => hp
  | i + 1 => dgo_le (ckGo_le hp i) 1
theorem ckGo_len {l : List Int} {c : Cs} {x : Ct} {seats : List Int} {p : Nat} : ∀ i, (ckGo l c x seats p i).2.length = i
  | 0 => rfl
  | i + 1 => by simp [ckGo, ckGo_len i]
theorem ckGo_big {l : List Int} {c : Cs} {x : Ct} {seats : List Int} {p : Nat} (hx : okCt x) : ∀ i, ∀ s ∈ (ckGo l c x seats p i).2, bigS s
  | 0 => by simp [ckGo]
  | i + 1 => by
    have ih := ckGo_big (l := l) (c := c) (seats := seats) (p := p) hx i
    intro s hs
    simp only [ckGo] at hs
    rcases List.mem_append.1 hs with hs | hs
    · exact ih s hs
    · rw [List.mem_singleton] at hs; subst hs; exact (vt_okS _ _ _ hx).big
def ckV (m : Nat) : List Stm → PV
  | [] => .nils
  | s :: r => .os m (s :: r).length
def ckB (m : Nat) : List Stm → ASt
  | [] => []
  | s :: r => [(m, .arr 41 13 false ((s :: r).map sm))]
theorem ckV_nil (m : Nat) : ckV m [] = .nils := rfl
theorem ckV_cons (m : Nat) (s : Stm) (r : List Stm) : ckV m (s :: r) = .os m (s :: r).length := rfl
theorem ckB_nil (m : Nat) : ckB m [] = [] := rfl
theorem ckB_cons (m : Nat) (s : Stm) (r : List Stm) : ckB m (s :: r) = [(m, .arr 41 13 false ((s :: r).map sm))] := rfl
def okQ (L : List Stm) (S : List Int) : Prop := L.length ≤ 1000000 ∧ (∀ s ∈ L, bigS s) ∧ S.length ≤ 1000000
theorem okQ_drop {L : List Stm} {S : List Int} {i : Nat} (h : okQ L S) : okQ (L.take i ++ L.drop (i + 1)) S :=
  ⟨by have := h.1; simp only [List.length_append, List.length_take, List.length_drop]; omega, fun s hs => by
    rcases List.mem_append.1 hs with hs | hs
    · exact h.2.1 s (List.mem_of_mem_take hs)
    · exact h.2.1 s (List.mem_of_mem_drop hs), h.2.2⟩
theorem okQ_set {L : List Stm} {S : List Int} {i : Nat} {t : Stm} (h : okQ L S) (ht : bigS t) : okQ (L.set i t) S :=
  ⟨by rw [List.length_set]; exact h.1, fun s hs => by
    rcases List.mem_or_eq_of_mem_set hs with hs | hs
    · exact h.2.1 s hs
    · rw [hs]; exact ht, h.2.2⟩
end Go.Proofs.Am
