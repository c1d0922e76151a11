/- COne. -/
import Derived.Test.YtdfieogkeinkmaaGreatDoorBTwo
set_option linter.unusedSimpArgs false
set_option linter.unusedVariables false
namespace Go.Proofs.Am
open Go Go.RowKit
open Go.Proofs
structure Cs where
  ep : Int
  kd : Int
  su : Int
  ro : Int
deriving Inhabited, DecidableEq
def cs (c : Cs) : List PV := [.int .i64 c.ep, .int .i64 c.kd, .int .i64 c.su, .int .i64 c.ro]
theorem cs_eq (c : Cs) : cs c = [.int .i64 c.ep, .int .i64 c.kd, .int .i64 c.su, .int .i64 c.ro] := (rfl)
attribute [go_sem] cs_eq
def caseV (c : Cs) : Bool := decide (0 ≤ c.ep ∧ c.ep < 40 ∧ 0 ≤ c.su ∧ c.su < 64 ∧ 0 ≤ c.ro ∧ c.ro ≤ 1 ∧ (c.kd = 1 ∧ c.su = 0 ∧ c.ro = 0 ∨ c.kd = 2 ∨ c.kd = 3))
theorem caseV_f {c : Cs} (h : ¬ (0 ≤ c.ep ∧ c.ep < 40 ∧ 0 ≤ c.su ∧ c.su < 64 ∧ 0 ≤ c.ro ∧ c.ro ≤ 1 ∧ (c.kd = 1 ∧ c.su = 0 ∧ c.ro = 0 ∨ c.kd = 2 ∨ c.kd = 3))) : caseV c = false := decide_eq_false h
theorem caseV_t {c : Cs} (h : 0 ≤ c.ep ∧ c.ep < 40 ∧ 0 ≤ c.su ∧ c.su < 64 ∧ 0 ≤ c.ro ∧ c.ro ≤ 1 ∧ (c.kd = 1 ∧ c.su = 0 ∧ c.ro = 0 ∨ c.kd = 2 ∨ c.kd = 3)) : caseV c = true := decide_eq_true h
set_option maxHeartbeats 1000000 in
set_option maxRecDepth 100000 in
theorem cvalid23 (c : Cs) : Den Tryz.prog 75 [.agg (cs c)] [] (.bool (caseV c)) [] [] := by
  refine den_of Tryz.mixed Tryz.func75 rfl Tryz.call75 Tryz.ntmps75 (congrArg Array.toList Tryz.results75) (by simp) (by kernel_rfl) [] (exts := []) rfl rfl ?_
  by_cases h0 : c.ep < 0
  · rw [caseV_f (c := c) (by omega)]
    simp only [go_sem, h0]
  by_cases h1 : 40 ≤ c.ep
  · rw [caseV_f (c := c) (by omega)]
    simp only [go_sem, h0, h1]
  by_cases h2 : c.su < 0
  · rw [caseV_f (c := c) (by omega)]
    simp only [go_sem, h0, h1, h2]
  by_cases h3 : 64 ≤ c.su
  · rw [caseV_f (c := c) (by omega)]
    simp only [go_sem, h0, h1, h2, h3]
  by_cases h4 : c.ro < 0
  · rw [caseV_f (c := c) (by omega)]
    simp only [go_sem, h0, h1, h2, h3, h4]
  by_cases h5 : 1 < c.ro
  · rw [caseV_f (c := c) (by omega)]
    simp only [go_sem, h0, h1, h2, h3, h4, h5]
  by_cases k1 : c.kd = 1
  · by_cases k2 : c.su = 0
    · by_cases k3 : c.ro = 0
      · rw [caseV_t (c := c) (by omega)]
        simp only [go_sem, h0, h1, h2, h3, h4, h5, k1, k2, k3]
      · rw [caseV_f (c := c) (by omega)]
        simp only [go_sem, h0, h1, h2, h3, h4, h5, k1, k2, k3]
    · rw [caseV_f (c := c) (by omega)]
      simp only [go_sem, h0, h1, h2, h3, h4, h5, k1, k2]
  by_cases k2 : c.kd = 2
  · rw [caseV_t (c := c) (by omega)]
    simp only [go_sem, h0, h1, h2, h3, h4, h5, k1, k2]
  by_cases k3 : c.kd = 3
  · rw [caseV_t (c := c) (by omega)]
    simp only [go_sem, h0, h1, h2, h3, h4, h5, k1, k2, k3]
  rw [caseV_f (c := c) (by omega)]
  simp only [go_sem, h0, h1, h2, h3, h4, h5, k1, k2, k3]
set_option maxHeartbeats 1000000 in
set_option maxRecDepth 100000 in
theorem cvalidP (c : Cs) : Den Tryz.prog 94 [.agg (cs c)] [] (.bool (caseV c)) [] [] := by
  refine den_of Tryz.mixed Tryz.func94 rfl Tryz.call94 Tryz.ntmps94 (congrArg Array.toList Tryz.results94) (by simp) (by kernel_rfl) [] (exts := []) rfl rfl ?_
  by_cases h0 : c.ep < 0
  · rw [caseV_f (c := c) (by omega)]
    simp only [go_sem, h0]
  by_cases h1 : 40 ≤ c.ep
  · rw [caseV_f (c := c) (by omega)]
    simp only [go_sem, h0, h1]
  by_cases h2 : c.su < 0
  · rw [caseV_f (c := c) (by omega)]
    simp only [go_sem, h0, h1, h2]
  by_cases h3 : 64 ≤ c.su
  · rw [caseV_f (c := c) (by omega)]
    simp only [go_sem, h0, h1, h2, h3]
  by_cases h4 : c.ro < 0
  · rw [caseV_f (c := c) (by omega)]
    simp only [go_sem, h0, h1, h2, h3, h4]
  by_cases h5 : 1 < c.ro
  · rw [caseV_f (c := c) (by omega)]
    simp only [go_sem, h0, h1, h2, h3, h4, h5]
  by_cases k1 : c.kd = 1
  · by_cases k2 : c.su = 0
    · by_cases k3 : c.ro = 0
      · rw [caseV_t (c := c) (by omega)]
        simp only [go_sem, h0, h1, h2, h3, h4, h5, k1, k2, k3]
      · rw [caseV_f (c := c) (by omega)]
        simp only [go_sem, h0, h1, h2, h3, h4, h5, k1, k2, k3]
    · rw [caseV_f (c := c) (by omega)]
      simp only [go_sem, h0, h1, h2, h3, h4, h5, k1, k2]
  by_cases k2 : c.kd = 2
  · rw [caseV_t (c := c) (by omega)]
    simp only [go_sem, h0, h1, h2, h3, h4, h5, k1, k2]
  by_cases k3 : c.kd = 3
  · rw [caseV_t (c := c) (by omega)]
    simp only [go_sem, h0, h1, h2, h3, h4, h5, k1, k2, k3]
  rw [caseV_f (c := c) (by omega)]
  simp only [go_sem, h0, h1, h2, h3, h4, h5, k1, k2, k3]
def noD : Drf := ⟨0, 0, 0, 0, [], []⟩
end Go.Proofs.Am

/- Rosters, policies, rules: what is well formed. -/
namespace Go.Proofs.Am
open Go Go.RowKit
open Go.Proofs
def allI (p : Nat → Bool) (n : Nat) : Bool := decide (∀ i, i < n → p i = true)
theorem allI_t {p : Nat → Bool} {n : Nat} (h : ∀ i, i < n → p i = true) : allI p n = true := decide_eq_true h
theorem allI_f {p : Nat → Bool} {n i : Nat} (hi : i < n) (h : p i = false) : allI p n = false := decide_eq_false fun h' => by rw [h' i hi] at h; cases h
theorem upto_succ {p : Nat → Bool} {i : Nat} (h : ∀ j, j < i → p j = true) (hq : p i = true) : ∀ j, j < i + 1 → p j = true := fun j hj => by
  by_cases hji : j = i
  · rw [hji]; exact hq
  · exact h j (by omega)
def okKey (n : Int) (l : List Int) (i : Nat) : Bool := decide (0 ≤ el l i ∧ el l i < n ∧ (0 < i → el l (i - 1) < el l i))
def setV (l : List Int) (n : Int) : Bool := allI (okKey n l) l.length
def rosV (l : List Int) : Bool := decide (0 < l.length ∧ l.length ≤ 64) && setV l 64
end Go.Proofs.Am

/- Policies and rules. -/
namespace Go.Proofs.Am
open Go Go.RowKit
open Go.Proofs
structure Pol where
  se : List Int
  ta : List Int
  lv : Int
deriving Inhabited, DecidableEq
structure Rl where
  gen : List Int
  pol : Pol
  seats : Int
  span : Int
  quota : Int
deriving Inhabited, DecidableEq
def pl (p : Pol) : List PV := [.vs (p.se.map i1), .vs (p.ta.map i1), .int .i64 p.lv]
def okTab (ta : List Int) (i : Nat) : Bool := decide (1 ≤ el ta i ∧ el ta i ≤ 1000 ∧ (0 < i → el ta i ≤ el ta (i - 1)))
def polV (p : Pol) : Bool := decide (0 < p.se.length) && (setV p.se 64 && (decide (1 ≤ p.ta.length ∧ p.ta.length ≤ 8 ∧ 1 ≤ p.lv ∧ p.lv ≤ 3) && allI (okTab p.ta) p.ta.length))
def ruleE (r : Rl) : Int := if rosV r.gen = false then 43 else if polV r.pol = false then 15 else if (1 ≤ r.seats ∧ r.seats ≤ 9 ∧ 1 ≤ r.span ∧ r.span ≤ 1000000 ∧ 0 ≤ r.quota ∧ r.quota ≤ 64) then 0 else 40
end Go.Proofs.Am

/- Rules of the mill; the numbers of a committee. -/
namespace Go.Proofs.Am
open Go Go.RowKit
open Go.Proofs
def dgo (l : List Int) (p : Nat) : Nat → Nat
  | 0 => p
  | n + 1 => dpos l (dgo l p n)
theorem dgo_le {l : List Int} {p : Nat} (hp : p ≤ l.length) : ∀ n, dgo l p n ≤ l.length
  | 0 => hp
  | n + 1 => dpos_le (dgo_le hp n)
theorem dgo_succ (l : List Int) (p n : Nat) : dpos l (dgo l p n) = dgo l p (n + 1) := (rfl)
def mdig (l : List Int) (p : Nat) : List UInt8 := [bAt (dnext l p 4) 0] ++ (List.replicate 30 0 ++ [bAt (dnext l (dgo l p 1) 256) 0])
theorem mdig_len (l : List Int) (p : Nat) : (mdig l p).length = 32 := rfl
set_option maxHeartbeats 1000000 in
set_option maxRecDepth 100000 in
theorem digest_den (l : List Int) (p : Nat) (hl : big l.length) (hp : p ≤ l.length) : Den Tryz.prog 17 [.ptr 1000000 0] [dbox l p] (.str (mdig l p)) [] [dbox l (dgo l p 2)] := by
  refine den_of Tryz.mixed Tryz.func17 rfl Tryz.call17 Tryz.ntmps17 (congrArg Array.toList Tryz.results17) (by simp) (by kernel_rfl) [] (exts := [1000000]) rfl rfl ?_
  have hp1 := dgo_le hp 1
  have e0 : dpos l p = dgo l p 1 := rfl
  simp only [go_sem]
  refine call (next_den l p 4 hl hp (by omega)) [1000000] ?_
  simp only [go_sem, e0]
  refine call (next_den l (dgo l p 1) 256 hl hp1 (by omega)) [1000000] ?_
  simp only [go_sem, dgo_succ, wrapB0]
  exact ⟨⟨rfl, by show (31 : Int) < 32; omega⟩, rfl, rfl, mdig l p, rfl, rfl⟩
def lsB (l : List Int) : List UInt8 := be8 l.length ++ beL l
def b0 (r : Rl) : List UInt8 := (((([116, 114, 117, 115, 116, 102, 108, 111, 119] : List UInt8) ++ lsB r.gen) ++ lsB r.pol.se) ++ lsB r.pol.ta) ++ lsB [r.pol.lv, r.seats, r.span, r.quota]
def num32 (s : List UInt8) : Int := bits .or .i64 (bits .or .i64 (bits .or .i64 (IntKind.i64.wrap (IntKind.i64.wrap ((s.getD 0 0).toNat : Int) * 2 ^ min 24 64)) (IntKind.i64.wrap (IntKind.i64.wrap ((s.getD 1 0).toNat : Int) * 2 ^ min 16 64))) (IntKind.i64.wrap (IntKind.i64.wrap ((s.getD 2 0).toNat : Int) * 2 ^ min 8 64))) (IntKind.i64.wrap ((s.getD 3 0).toNat : Int))
def numAt (v : List UInt8) (tag : List Int) (i : Nat) : Int := num32 (sha ((v ++ lsB tag) ++ be8 i))
def nums (v : List UInt8) (tag : List Int) : Nat → List Int
  | 0 => []
  | n + 1 => nums v tag n ++ [numAt v tag n]
end Go.Proofs.Am

/- Committees. -/
namespace Go.Proofs.Am
open Go Go.RowKit
open Go.Proofs
def enoughB (v s : Int) : Bool := decide (1 ≤ s ∧ s ≤ 9 ∧ 0 ≤ v ∧ v ≤ s ∧ 3 * s < 4 * v)
set_option maxHeartbeats 1000000 in
set_option maxRecDepth 100000 in
theorem enough_den (v s : Int) : Den Tryz.prog 62 [.int .i64 v, .int .i64 s] [] (.bool (enoughB v s)) [] [] := by
  refine den_of Tryz.mixed Tryz.func62 rfl Tryz.call62 Tryz.ntmps62 (congrArg Array.toList Tryz.results62) (by simp) (by kernel_rfl) [] (exts := []) rfl rfl ?_
  by_cases h1 : 1 ≤ s
  · by_cases h2 : s ≤ 9
    · by_cases h3 : 0 ≤ v
      · by_cases h4 : v ≤ s
        · have e1 : IntKind.i64.wrap (4 * v) = 4 * v := by rw [wrapI] <;> omega
          have e2 : IntKind.i64.wrap (3 * s) = 3 * s := by rw [wrapI] <;> omega
          simp only [go_sem, h1, h2, h3, h4, e1, e2]
          simp [enoughB, h1, h2, h3, h4]
        · have : enoughB v s = false := decide_eq_false (by omega)
          simp only [go_sem, h1, h2, h3, h4, this]
      · have : enoughB v s = false := decide_eq_false (by omega)
        simp only [go_sem, h1, h2, h3, this]
    · have : enoughB v s = false := decide_eq_false (by omega)
      simp only [go_sem, h1, h2, this]
  · have : enoughB v s = false := decide_eq_false (by omega)
    simp only [go_sem, h1, this]
def drawS (l nu : List Int) : Nat → List Int × List Int
  | 0 => ([], l)
  | i + 1 =>
    ((drawS l nu i).1 ++ [el (drawS l nu i).2 ((el nu i).tmod (drawS l nu i).2.length).toNat],
     (drawS l nu i).2.take ((el nu i).tmod (drawS l nu i).2.length).toNat ++ (drawS l nu i).2.drop (((el nu i).tmod (drawS l nu i).2.length).toNat + 1))
def restW (l prev : List Int) : List Int := keysW (fun k => decide (k ∈ l) && !decide (k ∈ prev)) 64
def tagC (c : Cs) (j : Int) : List Int := [c.ep, c.kd, c.su, j]
def ofRd (r : Rl) (v : List UInt8) (l : List Int) (c : Cs) (j : Int) (prev : List Int) : List Int :=
  (drawS (restW l prev) (nums v (tagC c j) 9) (min r.seats.toNat (restW l prev).length)).1
def ofR (r : Rl) (v : List UInt8) (l : List Int) (c : Cs) : List Int × Int :=
  if ruleE r ≠ 0 then ([], ruleE r) else if rosV l = false then ([], 43) else if caseV c = false then ([], 41)
  else if c.ro = 0 then (ofRd r v l c 0 [], 0)
  else if restW l (ofRd r v l c 0 []) = [] then ([], 44)
  else (ofRd r v l c 1 (ofRd r v l c 0 []), 0)
theorem ofR_eq (r : Rl) (v : List UInt8) (l : List Int) (c : Cs) : ofR r v l c = (if ruleE r ≠ 0 then ([], ruleE r) else if rosV l = false then ([], 43) else if caseV c = false then ([], 41)
  else if c.ro = 0 then (ofRd r v l c 0 [], 0)
  else if restW l (ofRd r v l c 0 []) = [] then ([], 44)
  else (ofRd r v l c 1 (ofRd r v l c 0 []), 0)) := rfl
end Go.Proofs.Am
