/- Who votes twice: the document's. -/
import Derived.Test.YtabmciccahfjiaaGreatDoorDOne
set_option linter.unusedSimpArgs false
set_option linter.unusedVariables false
namespace Go.Proofs.Am
open Go Go.RowKit
open Go.Proofs

def twK (v : List Vt) (i : Nat) (out : List Int) (k : Nat) : List Int :=
  (List.range k).foldl (fun o k => if (el v i).k = (el v k).k ∧ (el v i).x ≠ (el v k).x then putI o (el v i).k else o) out
def twI (v : List Vt) (i : Nat) : List Int := (List.range i).foldl (fun o i => twK v i o i) []
def twR (v : List Vt) : List Int := twI v v.length
theorem twK_zero (v : List Vt) (i : Nat) (out : List Int) : twK v i out 0 = out := rfl
theorem twK_succ (v : List Vt) (i : Nat) (out : List Int) (k : Nat) : twK v i out (k + 1) = if (el v i).k = (el v k).k ∧ (el v i).x ≠ (el v k).x then putI (twK v i out k) (el v i).k else twK v i out k := by
  simp only [twK, List.range_succ, List.foldl_append, List.foldl_cons, List.foldl_nil]
theorem twI_succ (v : List Vt) (i : Nat) : twI v (i + 1) = twK v i (twI v i) i := by
  simp only [twI, List.range_succ, List.foldl_append, List.foldl_cons, List.foldl_nil]
end Go.Proofs.Am

/- Counts: the document's. -/
namespace Go.Proofs.Am
open Go Go.RowKit
open Go.Proofs

/-- A vote is put into the counts. -/
def insC : List Cn → Vt → List Cn
  | [], y => [⟨y.x, [y.k]⟩]
  | n :: r, y => if ordC n.x y.x < 0 then n :: insC r y else if n.x = y.x then ⟨n.x, putI n.ks y.k⟩ :: r else ⟨y.x, [y.k]⟩ :: n :: r
def cnI (seats : List Int) (v : List Vt) (i : Nat) : List Cn := (v.take i).foldl (fun o y => if y.k ∈ seats then insC o y else o) []
def cnR (seats : List Int) (v : List Vt) : List Cn := cnI seats v v.length
theorem cnI_succ {seats : List Int} {v : List Vt} {i : Nat} (h : i < v.length) : cnI seats v (i + 1) = if (el v i).k ∈ seats then insC (cnI seats v i) (el v i) else cnI seats v i := by
  simp only [cnI, take_el h, List.foldl_append, List.foldl_cons, List.foldl_nil]
theorem okCt_big {x : Ct} (h : okCt x) : bigC x := ⟨by have := h.1; simp only [big]; omega, by have := Nat.le_trans (pn_len x.pi) h.2; simp only [big]; omega⟩

end Go.Proofs.Am
