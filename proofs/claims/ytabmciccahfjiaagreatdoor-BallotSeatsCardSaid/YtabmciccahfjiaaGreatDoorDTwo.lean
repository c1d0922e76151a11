/- Who votes twice: the document's. -/
import Derived.Test.YtabmciccahfjiaaGreatDoorDOne
set_option linter.unusedSimpArgs false
set_option linter.unusedVariables false
namespace Go.Proofs.Am
open Go Go.RowKit
open Go.Proofs

def twK (v : List Vt) (i : Nat) (out : List Int) (k : Nat) : List Int :=
  (List.range k).foldl (fun o k => if (el v i).k = (el v k).k ∧ (el v i).x ≠ (el v k).x then putI o (el v i).k else o) out
def twI (v : List Vt) (i : Nat) : List Int := (List.range i).foldl (fun o i => twK v i o i) []
def twR (v : List Vt) : List Int := twI v v.length
theorem twK_zero (v : List Vt) (i : Nat) (out : List Int) : twK v i out 0 = out := rfl
theorem twK_succ (v : List Vt) (i : Nat) (out : List Int) (k : Nat) : twK v i out (k + 1) = if (el v i).k = (el v k).k ∧ (el v i).x ≠ (el v k).x then putI (twK v i out k) (el v i).k else twK v i out k := by
  simp only [twK, List.range_succ, List.foldl_append, List.foldl_cons, List.foldl_nil]
theorem twI_succ (v : List Vt) (i : Nat) : twI v (i + 1) = twK v i (twI v i) i := by
  simp only [twI, List.range_succ, List.foldl_append, List.foldl_cons, List.foldl_nil]
end Go.Proofs.Am

/- Counts: the document's. -/
namespace Go.Proofs.Am
open Go Go.RowKit
open Go.Proofs

/-- A vote is put into the counts. -/
def insC : List Cn → Vt → List Cn
  | [], y => [⟨y.x, [y.k]⟩]
  | n :: r, y => if ordC n.x y.x < 0 then n :: insC r y else if n.x = y.x then ⟨n.x, putI n.ks y.k⟩ :: r else ⟨y.x, [y.k]⟩ :: n :: r
def cnI (seats : List Int) (v : List Vt) (i : Nat) : List Cn := (v.take i).foldl (fun o y => if y.k ∈ seats then insC o y else o) []
def cnR (seats : List Int) (v : List Vt) : List Cn := cnI seats v v.length
theorem cnI_succ {seats : List Int} {v : List Vt} {i : Nat} (h : i < v.length) : cnI seats v (i + 1) = if (el v i).k ∈ seats then insC (cnI seats v i) (el v i) else cnI seats v i := by
  simp only [cnI, take_el h, List.foldl_append, List.foldl_cons, List.foldl_nil]
theorem insC_len : ∀ (o : List Cn) (y : Vt), (insC o y).length ≤ o.length + 1
  | [], y => by simp [insC]
  | n :: r, y => by
    have := insC_len r y
    simp only [insC]
    split
    · simp; omega
    · split <;> simp
theorem insC_ok {m : Nat} : ∀ {o : List Cn} {y : Vt}, (∀ n ∈ o, okCt n.x ∧ n.ks.length ≤ m) → okCt y.x → ∀ n ∈ insC o y, okCt n.x ∧ n.ks.length ≤ m + 1
  | [], y, _, hy, n, hn => by
    simp only [insC, List.mem_singleton] at hn
    subst hn
    exact ⟨hy, by simp⟩
  | a :: r, y, ho, hy, n, hn => by
    have ha := ho a (by simp)
    simp only [insC] at hn
    split at hn
    · rcases List.mem_cons.1 hn with rfl | h
      · exact ⟨ha.1, by omega⟩
      · exact insC_ok (fun n hn => ho n (by simp [hn])) hy n h
    · split at hn
      · rcases List.mem_cons.1 hn with rfl | h
        · exact ⟨ha.1, by have := putI_len a.ks y.k; simp only; omega⟩
        · have := ho n (by simp [h])
          exact ⟨this.1, by omega⟩
      · rcases List.mem_cons.1 hn with rfl | h
        · exact ⟨hy, by simp⟩
        · have := ho n h
          exact ⟨this.1, by omega⟩
theorem cnI_ok (seats : List Int) {v : List Vt} (hx : ∀ y ∈ v, okCt y.x) : ∀ i, i ≤ v.length → (cnI seats v i).length ≤ i ∧ ∀ n ∈ cnI seats v i, okCt n.x ∧ n.ks.length ≤ i
  | 0, _ => by simp [cnI]
  | i + 1, h => by
    have ih := cnI_ok seats hx i (by omega)
    have hlt : i < v.length := by omega
    rw [cnI_succ hlt]
    split
    · exact ⟨Nat.le_trans (insC_len _ _) (by omega), insC_ok ih.2 (hx _ (el_mem hlt))⟩
    · exact ⟨by omega, fun n hn => ⟨(ih.2 n hn).1, by have := (ih.2 n hn).2; omega⟩⟩
theorem okCt_big {x : Ct} (h : okCt x) : bigC x := ⟨by have := h.1; simp only [big]; omega, by have := Nat.le_trans (pn_len x.pi) h.2; simp only [big]; omega⟩

end Go.Proofs.Am
