/- Terms without statements. -/
import Derived.Test.YthcphdogfdghkaaGreatC7
set_option linter.unusedSimpArgs false
set_option linter.unusedVariables false
namespace Go.Proofs.Am
open Go Go.RowKit
open Go.Proofs

/-- A term. -/
structure Tm where
  ep : Int
  ros : List Int
  bea : List UInt8
  dec : Bool
  nx : Ct
deriving Inhabited, DecidableEq
def tm (t : Tm) : List PV := [.int .i64 t.ep, .vs (t.ros.map i1), .str t.bea, .bool t.dec, .vs (t.nx.li.map i1), .vs (t.nx.pi.map pn)]
theorem tm_eq (t : Tm) : tm t = [.int .i64 t.ep, .vs (t.ros.map i1), .str t.bea, .bool t.dec, .vs (t.nx.li.map i1), .vs (t.nx.pi.map pn)] := (rfl)
attribute [go_sem] tm_eq

def seatOK (s : List Int) (i : Nat) : Bool := decide (0 ≤ el s i ∧ el s i < 64 ∧ el s i ∉ s.take i)
def ckS (c : Cs) (s : List Int) : Int := if caseV c = false then 41 else if s.length < 1 ∨ 9 < s.length then 44 else if allI (seatOK s) s.length then 0 else 44
set_option maxHeartbeats 1000000 in
set_option maxRecDepth 100000 in
theorem check28_den (c : Cs) (s : List Int) (hs : big s.length) : Den Tryz.prog 98 [.agg (cs c), .vs (s.map i1)] [] (.int .i64 (ckS c s)) [] [] := by
  refine den_of Tryz.mixed Tryz.func98 rfl Tryz.call98 Tryz.ntmps98 (congrArg Array.toList Tryz.results98) (by simp) (by kernel_rfl) [] (exts := []) rfl rfl ?_
  have c1 := cvalid23 c
  rw [cs_eq] at c1
  generalize hm : ckS c s = m
  simp only [go_sem, ↓reduceIte, reduceCtorEq, Nat.reduceEqDiff, Nat.reduceAdd, Nat.reduceSub, Nat.reduceMul, Nat.reduceLT, Nat.reduceLeDiff, Int.reduceLT, Int.reduceLE, Int.reduceEq, Int.reduceNe, Int.reduceToNat, Int.reduceAdd, Int.reduceSub, Int.reduceMul, Int.natCast_zero]
  refine call c1 [] ?_
  cases a1 : caseV c
  · simp only [go_sem, ↓reduceIte, reduceCtorEq, Nat.reduceEqDiff, Nat.reduceAdd, Nat.reduceSub, Nat.reduceMul, Nat.reduceLT, Nat.reduceLeDiff, Int.reduceLT, Int.reduceLE, Int.reduceEq, Int.reduceNe, Int.reduceToNat, Int.reduceAdd, Int.reduceSub, Int.reduceMul, Int.natCast_zero]
    rw [← hm, ckS, if_pos a1]
  rw [ckS, if_neg (by simp [a1])] at hm
  by_cases a2 : (s.length : Int) < 1
  · simp only [go_sem, ↓reduceIte, reduceCtorEq, Nat.reduceEqDiff, Nat.reduceAdd, Nat.reduceSub, Nat.reduceMul, Nat.reduceLT, Nat.reduceLeDiff, Int.reduceLT, Int.reduceLE, Int.reduceEq, Int.reduceNe, Int.reduceToNat, Int.reduceAdd, Int.reduceSub, Int.reduceMul, Int.natCast_zero, a2]
    rw [if_pos (.inl (by omega))] at hm
    exact hm
  by_cases a3 : 9 < (s.length : Int)
  · simp only [go_sem, ↓reduceIte, reduceCtorEq, Nat.reduceEqDiff, Nat.reduceAdd, Nat.reduceSub, Nat.reduceMul, Nat.reduceLT, Nat.reduceLeDiff, Int.reduceLT, Int.reduceLE, Int.reduceEq, Int.reduceNe, Int.reduceToNat, Int.reduceAdd, Int.reduceSub, Int.reduceMul, Int.natCast_zero, a2, a3]
    rw [if_pos (.inr (by omega))] at hm
    exact hm
  rw [if_neg (by omega)] at hm
  have hbad : allI (seatOK s) s.length = false → m = 44 := fun h => by rw [← hm, h]; rfl
  have hgood : allI (seatOK s) s.length = true → m = 0 := fun h => by rw [← hm, h]; rfl
  simp only [go_sem, ↓reduceIte, reduceCtorEq, Nat.reduceEqDiff, Nat.reduceAdd, Nat.reduceSub, Nat.reduceMul, Nat.reduceLT, Nat.reduceLeDiff, Int.reduceLT, Int.reduceLE, Int.reduceEq, Int.reduceNe, Int.reduceToNat, Int.reduceAdd, Int.reduceSub, Int.reduceMul, Int.natCast_zero, a2, a3]
  refine loop Tryz.mixed 0 (fun i : Nat => [(1, .vs (s.map i1)), (5, .int .i64 i)]) (fun i => []) (fun i => i ≤ s.length ∧ ∀ j, j < i → seatOK s j = true) (fun i => s.length - i) (by kernel_rfl) ?_ ?_ ?_
  · simp
  · simp only [go_sem, ↓reduceIte, reduceCtorEq, Nat.reduceEqDiff, Nat.reduceAdd, Nat.reduceSub, Nat.reduceMul, Nat.reduceLT, Nat.reduceLeDiff, Int.reduceLT, Int.reduceLE, Int.reduceEq, Int.reduceNe, Int.reduceToNat, Int.reduceAdd, Int.reduceSub, Int.reduceMul, Int.natCast_zero]
  · rintro i ⟨hi, hp⟩
    by_cases hi' : i < s.length
    · have hlt : (i : Int) < (s.length : Int) := by omega
      by_cases b1 : el s i < 0
      · have hq : seatOK s i = false := decide_eq_false (by omega)
        simp only [go_sem, ↓reduceIte, reduceCtorEq, Nat.reduceEqDiff, Nat.reduceAdd, Nat.reduceSub, Nat.reduceMul, Nat.reduceLT, Nat.reduceLeDiff, Int.reduceLT, Int.reduceLE, Int.reduceEq, Int.reduceNe, Int.reduceToNat, Int.reduceAdd, Int.reduceSub, Int.reduceMul, Int.natCast_zero, hlt, hi', b1]
        exact ⟨okD_of (by kernel_rfl), (hbad (allI_f hi' hq)).symm⟩
      by_cases b2 : 64 ≤ el s i
      · have hq : seatOK s i = false := decide_eq_false (by omega)
        simp only [go_sem, ↓reduceIte, reduceCtorEq, Nat.reduceEqDiff, Nat.reduceAdd, Nat.reduceSub, Nat.reduceMul, Nat.reduceLT, Nat.reduceLeDiff, Int.reduceLT, Int.reduceLE, Int.reduceEq, Int.reduceNe, Int.reduceToNat, Int.reduceAdd, Int.reduceSub, Int.reduceMul, Int.natCast_zero, hlt, hi', b1, b2]
        exact ⟨okD_of (by kernel_rfl), (hbad (allI_f hi' hq)).symm⟩
      simp only [go_sem, ↓reduceIte, reduceCtorEq, Nat.reduceEqDiff, Nat.reduceAdd, Nat.reduceSub, Nat.reduceMul, Nat.reduceLT, Nat.reduceLeDiff, Int.reduceLT, Int.reduceLE, Int.reduceEq, Int.reduceNe, Int.reduceToNat, Int.reduceAdd, Int.reduceSub, Int.reduceMul, Int.natCast_zero, hlt, hi', b1, b2]
      refine ⟨⟨by omega, by omega⟩, call (has24 (s.take i) (el s i) (by rw [List.length_take]; simp only [big] at *; omega)) [] ?_⟩
      by_cases b3 : el s i ∈ s.take i
      · have hq : seatOK s i = false := decide_eq_false (by simp [b3])
        simp only [go_sem, ↓reduceIte, reduceCtorEq, Nat.reduceEqDiff, Nat.reduceAdd, Nat.reduceSub, Nat.reduceMul, Nat.reduceLT, Nat.reduceLeDiff, Int.reduceLT, Int.reduceLE, Int.reduceEq, Int.reduceNe, Int.reduceToNat, Int.reduceAdd, Int.reduceSub, Int.reduceMul, Int.natCast_zero, b3]
        exact ⟨okD_of (by kernel_rfl), (hbad (allI_f hi' hq)).symm⟩
      · have hq : seatOK s i = true := decide_eq_true ⟨by omega, by omega, b3⟩
        simp only [go_sem, ↓reduceIte, reduceCtorEq, Nat.reduceEqDiff, Nat.reduceAdd, Nat.reduceSub, Nat.reduceMul, Nat.reduceLT, Nat.reduceLeDiff, Int.reduceLT, Int.reduceLE, Int.reduceEq, Int.reduceNe, Int.reduceToNat, Int.reduceAdd, Int.reduceSub, Int.reduceMul, Int.natCast_zero, b3]
        exact ⟨okD_of (by kernel_rfl), i + 1, ⟨⟨by omega, upto_succ hp hq⟩, by omega⟩, by rw [wrapI] <;> omega⟩
    · have hf : ¬ ((i : Int) < (s.length : Int)) := by omega
      have : i = s.length := by omega
      subst this
      simp only [go_sem, ↓reduceIte, reduceCtorEq, Nat.reduceEqDiff, Nat.reduceAdd, Nat.reduceSub, Nat.reduceMul, Nat.reduceLT, Nat.reduceLeDiff, Int.reduceLT, Int.reduceLE, Int.reduceEq, Int.reduceNe, Int.reduceToNat, Int.reduceAdd, Int.reduceSub, Int.reduceMul, Int.natCast_zero, hf]
      exact (hgood (allI_t hp)).symm

set_option maxHeartbeats 1000000 in
set_option maxRecDepth 100000 in
theorem votes0_den (c : Cs) : Den Tryz.prog 100 [.vs [], .agg (cs c)] [] (.vs []) [] [] := by
  refine den_of Tryz.mixed Tryz.func100 rfl Tryz.call100 Tryz.ntmps100 (congrArg Array.toList Tryz.results100) (by simp) (by kernel_rfl) [] (exts := []) rfl rfl ?_
  simp only [go_sem, ↓reduceIte, reduceCtorEq, Nat.reduceEqDiff, Nat.reduceAdd, Nat.reduceSub, Nat.reduceMul, Nat.reduceLT, Nat.reduceLeDiff, Int.reduceLT, Int.reduceLE, Int.reduceEq, Int.reduceNe, Int.reduceToNat, Int.reduceAdd, Int.reduceSub, Int.reduceMul, Int.natCast_zero]
  refine loop Tryz.mixed 0 (fun i : Nat => [(0, .vs []), (5, .vs []), (6, .int .i64 0)]) (fun i => []) (fun i => True) (fun i => 0) (by kernel_rfl) ?_ ?_ ?_
  · trivial
  · simp only [go_sem, ↓reduceIte, reduceCtorEq, Nat.reduceEqDiff, Nat.reduceAdd, Nat.reduceSub, Nat.reduceMul, Nat.reduceLT, Nat.reduceLeDiff, Int.reduceLT, Int.reduceLE, Int.reduceEq, Int.reduceNe, Int.reduceToNat, Int.reduceAdd, Int.reduceSub, Int.reduceMul, Int.natCast_zero]
  · intro i _
    simp only [go_sem, ↓reduceIte, reduceCtorEq, Nat.reduceEqDiff, Nat.reduceAdd, Nat.reduceSub, Nat.reduceMul, Nat.reduceLT, Nat.reduceLeDiff, Int.reduceLT, Int.reduceLE, Int.reduceEq, Int.reduceNe, Int.reduceToNat, Int.reduceAdd, Int.reduceSub, Int.reduceMul, Int.natCast_zero]
set_option maxHeartbeats 1000000 in
set_option maxRecDepth 100000 in
theorem count0_den (s : List Int) : Den Tryz.prog 99 [.vs [], .vs (s.map i1)] [] (.vs []) [] [] := by
  refine den_of Tryz.mixed Tryz.func99 rfl Tryz.call99 Tryz.ntmps99 (congrArg Array.toList Tryz.results99) (by simp) (by kernel_rfl) [] (exts := []) rfl rfl ?_
  simp only [go_sem, ↓reduceIte, reduceCtorEq, Nat.reduceEqDiff, Nat.reduceAdd, Nat.reduceSub, Nat.reduceMul, Nat.reduceLT, Nat.reduceLeDiff, Int.reduceLT, Int.reduceLE, Int.reduceEq, Int.reduceNe, Int.reduceToNat, Int.reduceAdd, Int.reduceSub, Int.reduceMul, Int.natCast_zero]
  refine loop Tryz.mixed 0 (fun i : Nat => [(0, .vs []), (5, .vs []), (6, .int .i64 0)]) (fun i => []) (fun i => True) (fun i => 0) (by kernel_rfl) ?_ ?_ ?_
  · trivial
  · simp only [go_sem, ↓reduceIte, reduceCtorEq, Nat.reduceEqDiff, Nat.reduceAdd, Nat.reduceSub, Nat.reduceMul, Nat.reduceLT, Nat.reduceLeDiff, Int.reduceLT, Int.reduceLE, Int.reduceEq, Int.reduceNe, Int.reduceToNat, Int.reduceAdd, Int.reduceSub, Int.reduceMul, Int.natCast_zero]
  · intro i _
    simp only [go_sem, ↓reduceIte, reduceCtorEq, Nat.reduceEqDiff, Nat.reduceAdd, Nat.reduceSub, Nat.reduceMul, Nat.reduceLT, Nat.reduceLeDiff, Int.reduceLT, Int.reduceLE, Int.reduceEq, Int.reduceNe, Int.reduceToNat, Int.reduceAdd, Int.reduceSub, Int.reduceMul, Int.natCast_zero]
set_option maxHeartbeats 1000000 in
set_option maxRecDepth 100000 in
theorem all0_den (c : Cs) (s : List Int) (hs : big s.length) : Den Tryz.prog 85 [.vs [], .agg (cs c), .vs (s.map i1)] [] (.tup [.vs [], .int .i64 (ckS c s)]) [] [] := by
  refine den_of Tryz.mixed Tryz.func85 rfl Tryz.call85 Tryz.ntmps85 (congrArg Array.toList Tryz.results85) (by simp) (by kernel_rfl) [] (exts := []) rfl rfl ?_
  have c1 := check28_den c s hs
  have c2 := votes0_den c
  rw [cs_eq] at c1 c2
  generalize ckS c s = m at *
  simp only [go_sem, ↓reduceIte, reduceCtorEq, Nat.reduceEqDiff, Nat.reduceAdd, Nat.reduceSub, Nat.reduceMul, Nat.reduceLT, Nat.reduceLeDiff, Int.reduceLT, Int.reduceLE, Int.reduceEq, Int.reduceNe, Int.reduceToNat, Int.reduceAdd, Int.reduceSub, Int.reduceMul, Int.natCast_zero]
  refine call c1 [] ?_
  by_cases h : m = 0
  rotate_left
  · simp only [go_sem, ↓reduceIte, reduceCtorEq, Nat.reduceEqDiff, Nat.reduceAdd, Nat.reduceSub, Nat.reduceMul, Nat.reduceLT, Nat.reduceLeDiff, Int.reduceLT, Int.reduceLE, Int.reduceEq, Int.reduceNe, Int.reduceToNat, Int.reduceAdd, Int.reduceSub, Int.reduceMul, Int.natCast_zero, h]
  simp only [go_sem, ↓reduceIte, reduceCtorEq, Nat.reduceEqDiff, Nat.reduceAdd, Nat.reduceSub, Nat.reduceMul, Nat.reduceLT, Nat.reduceLeDiff, Int.reduceLT, Int.reduceLE, Int.reduceEq, Int.reduceNe, Int.reduceToNat, Int.reduceAdd, Int.reduceSub, Int.reduceMul, Int.natCast_zero, h]
  refine call c2 [] ?_
  simp only [go_sem, ↓reduceIte, reduceCtorEq, Nat.reduceEqDiff, Nat.reduceAdd, Nat.reduceSub, Nat.reduceMul, Nat.reduceLT, Nat.reduceLeDiff, Int.reduceLT, Int.reduceLE, Int.reduceEq, Int.reduceNe, Int.reduceToNat, Int.reduceAdd, Int.reduceSub, Int.reduceMul, Int.natCast_zero]
  refine call (count0_den s) [] ?_
  simp only [go_sem, ↓reduceIte, reduceCtorEq, Nat.reduceEqDiff, Nat.reduceAdd, Nat.reduceSub, Nat.reduceMul, Nat.reduceLT, Nat.reduceLeDiff, Int.reduceLT, Int.reduceLE, Int.reduceEq, Int.reduceNe, Int.reduceToNat, Int.reduceAdd, Int.reduceSub, Int.reduceMul, Int.natCast_zero]
  refine loop Tryz.mixed 0 (fun i : Nat => [(9, .vs []), (10, .vs []), (11, .int .i64 0)]) (fun i => []) (fun i => True) (fun i => 0) (by kernel_rfl) ?_ ?_ ?_
  · trivial
  · simp only [go_sem, ↓reduceIte, reduceCtorEq, Nat.reduceEqDiff, Nat.reduceAdd, Nat.reduceSub, Nat.reduceMul, Nat.reduceLT, Nat.reduceLeDiff, Int.reduceLT, Int.reduceLE, Int.reduceEq, Int.reduceNe, Int.reduceToNat, Int.reduceAdd, Int.reduceSub, Int.reduceMul, Int.natCast_zero]
  · intro i _
    simp only [go_sem, ↓reduceIte, reduceCtorEq, Nat.reduceEqDiff, Nat.reduceAdd, Nat.reduceSub, Nat.reduceMul, Nat.reduceLT, Nat.reduceLeDiff, Int.reduceLT, Int.reduceLE, Int.reduceEq, Int.reduceNe, Int.reduceToNat, Int.reduceAdd, Int.reduceSub, Int.reduceMul, Int.natCast_zero, h]
def noC : Ct := ⟨[], []⟩
set_option maxHeartbeats 1000000 in
set_option maxRecDepth 100000 in
theorem of0_den (c : Cs) (s : List Int) (hs : big s.length) : Den Tryz.prog 70 [.vs [], .agg (cs c), .vs (s.map i1)] [] (.tup [.agg (ct noC), .bool false, .int .i64 (ckS c s)]) [] [] := by
  refine den_of Tryz.mixed Tryz.func70 rfl Tryz.call70 Tryz.ntmps70 (congrArg Array.toList Tryz.results70) (by simp) (by kernel_rfl) [] (exts := []) rfl rfl ?_
  have c1 := all0_den c s hs
  rw [cs_eq] at c1
  generalize ckS c s = m at *
  simp only [go_sem, ↓reduceIte, reduceCtorEq, Nat.reduceEqDiff, Nat.reduceAdd, Nat.reduceSub, Nat.reduceMul, Nat.reduceLT, Nat.reduceLeDiff, Int.reduceLT, Int.reduceLE, Int.reduceEq, Int.reduceNe, Int.reduceToNat, Int.reduceAdd, Int.reduceSub, Int.reduceMul, Int.natCast_zero]
  refine call c1 [] ?_
  by_cases h : m = 0
  · simp only [go_sem, ↓reduceIte, reduceCtorEq, Nat.reduceEqDiff, Nat.reduceAdd, Nat.reduceSub, Nat.reduceMul, Nat.reduceLT, Nat.reduceLeDiff, Int.reduceLT, Int.reduceLE, Int.reduceEq, Int.reduceNe, Int.reduceToNat, Int.reduceAdd, Int.reduceSub, Int.reduceMul, Int.natCast_zero, h, noC, List.map_nil]
  · simp only [go_sem, ↓reduceIte, reduceCtorEq, Nat.reduceEqDiff, Nat.reduceAdd, Nat.reduceSub, Nat.reduceMul, Nat.reduceLT, Nat.reduceLeDiff, Int.reduceLT, Int.reduceLE, Int.reduceEq, Int.reduceNe, Int.reduceToNat, Int.reduceAdd, Int.reduceSub, Int.reduceMul, Int.natCast_zero, h, noC, List.map_nil]

def seatsR (r : Rl) (t : Tm) (c : Cs) : List Int × Int := if c.ep ≠ t.ep then ([], 46) else ofR r t.bea t.ros c
set_option maxHeartbeats 1000000 in
set_option maxRecDepth 100000 in
theorem seats_den (r : Rl) (t : Tm) (c : Cs) (h0 : big r.gen.length) (h1 : big r.pol.se.length) (h2 : big r.pol.ta.length) (hl : big t.ros.length) (hv : rosV t.ros = true → t.bea.length = 32) : Den Tryz.prog 17 [.agg (rl r), .agg (tm t), .agg (cs c)] [] (.tup [.vs ((seatsR r t c).1.map i1), .int .i64 (seatsR r t c).2]) [] [] := by
  refine den_of Tryz.mixed Tryz.func17 rfl Tryz.call17 Tryz.ntmps17 (congrArg Array.toList Tryz.results17) (by simp) (by kernel_rfl) [] (exts := []) rfl rfl ?_
  have c1 := ofR_den r t.bea t.ros c h0 h1 h2 hl hv
  rw [cs_eq, rl_eq] at c1
  have hm : seatsR r t c = if c.ep ≠ t.ep then ([], 46) else ofR r t.bea t.ros c := rfl
  generalize seatsR r t c = m at *
  by_cases h : c.ep = t.ep
  · rw [if_neg (by simpa using h)] at hm
    rw [← hm] at c1
    simp only [go_sem, ↓reduceIte, reduceCtorEq, Nat.reduceEqDiff, Nat.reduceAdd, Nat.reduceSub, Nat.reduceMul, Nat.reduceLT, Nat.reduceLeDiff, Int.reduceLT, Int.reduceLE, Int.reduceEq, Int.reduceNe, Int.reduceToNat, Int.reduceAdd, Int.reduceSub, Int.reduceMul, Int.natCast_zero, h]
    rw [h] at c1
    refine call c1 [] ?_
    simp only [go_sem, ↓reduceIte, reduceCtorEq, Nat.reduceEqDiff, Nat.reduceAdd, Nat.reduceSub, Nat.reduceMul, Nat.reduceLT, Nat.reduceLeDiff, Int.reduceLT, Int.reduceLE, Int.reduceEq, Int.reduceNe, Int.reduceToNat, Int.reduceAdd, Int.reduceSub, Int.reduceMul, Int.natCast_zero]
  · rw [if_pos h] at hm
    subst hm
    simp only [go_sem, ↓reduceIte, reduceCtorEq, Nat.reduceEqDiff, Nat.reduceAdd, Nat.reduceSub, Nat.reduceMul, Nat.reduceLT, Nat.reduceLeDiff, Int.reduceLT, Int.reduceLE, Int.reduceEq, Int.reduceNe, Int.reduceToNat, Int.reduceAdd, Int.reduceSub, Int.reduceMul, Int.natCast_zero, h, List.map_nil]
set_option maxHeartbeats 1000000 in
set_option maxRecDepth 100000 in
theorem roster_den (k : Int) : Den Tryz.prog 52 [.int .i64 k] [] (.agg (cs ⟨k, 1, 0, 0⟩)) [] [] := by
  refine den_of Tryz.mixed Tryz.func52 rfl Tryz.call52 Tryz.ntmps52 (congrArg Array.toList Tryz.results52) (by simp) (by kernel_rfl) [] (exts := []) rfl rfl ?_
  simp only [go_sem, ↓reduceIte, reduceCtorEq, Nat.reduceEqDiff, Nat.reduceAdd, Nat.reduceSub, Nat.reduceMul, Nat.reduceLT, Nat.reduceLeDiff, Int.reduceLT, Int.reduceLE, Int.reduceEq, Int.reduceNe, Int.reduceToNat, Int.reduceAdd, Int.reduceSub, Int.reduceMul, Int.natCast_zero]

def dec0 (r : Rl) (t : Tm) (c : Cs) : Int := if (seatsR r t c).2 ≠ 0 then (seatsR r t c).2 else ckS c (seatsR r t c).1
theorem ofR_len (r : Rl) (v : List UInt8) (l : List Int) (c : Cs) : (ofR r v l c).1.length ≤ 64 := by
  have h : ∀ j prev, (ofRd r v l c j prev).length ≤ 64 := fun j prev => by
    rw [ofRd_len]
    have := restW_len l prev
    omega
  rw [ofR_eq]
  (repeat' split) <;> first | exact h _ _ | simp
theorem seatsR_len (r : Rl) (t : Tm) (c : Cs) : (seatsR r t c).1.length ≤ 64 := by
  unfold seatsR
  split
  · simp
  · exact ofR_len _ _ _ _
set_option maxHeartbeats 1000000 in
set_option maxRecDepth 100000 in
theorem decided0_den (r : Rl) (t : Tm) (c : Cs) (h0 : big r.gen.length) (h1 : big r.pol.se.length) (h2 : big r.pol.ta.length) (hl : big t.ros.length) (hv : rosV t.ros = true → t.bea.length = 32) : Den Tryz.prog 51 [.agg (rl r), .vs [], .agg (tm t), .agg (cs c)] [] (.tup [.agg (ct noC), .bool false, .int .i64 (dec0 r t c)]) [] [] := by
  refine den_of Tryz.mixed Tryz.func51 rfl Tryz.call51 Tryz.ntmps51 (congrArg Array.toList Tryz.results51) (by simp) (by kernel_rfl) [] (exts := []) rfl rfl ?_
  have hsl := seatsR_len r t c
  have c1 := seats_den r t c h0 h1 h2 hl hv
  have c2 := of0_den c (seatsR r t c).1 (by simp only [big]; omega)
  have hm : dec0 r t c = if (seatsR r t c).2 ≠ 0 then (seatsR r t c).2 else ckS c (seatsR r t c).1 := rfl
  generalize dec0 r t c = m at *
  generalize seatsR r t c = S at *
  obtain ⟨s, k⟩ := S
  simp only at hm c1 c2
  rw [cs_eq, rl_eq, tm_eq] at c1
  rw [cs_eq] at c2
  simp only [go_sem, ↓reduceIte, reduceCtorEq, Nat.reduceEqDiff, Nat.reduceAdd, Nat.reduceSub, Nat.reduceMul, Nat.reduceLT, Nat.reduceLeDiff, Int.reduceLT, Int.reduceLE, Int.reduceEq, Int.reduceNe, Int.reduceToNat, Int.reduceAdd, Int.reduceSub, Int.reduceMul, Int.natCast_zero]
  refine call c1 [] ?_
  by_cases h : k = 0
  · rw [if_neg (by simpa using h)] at hm
    rw [← hm] at c2
    simp only [go_sem, ↓reduceIte, reduceCtorEq, Nat.reduceEqDiff, Nat.reduceAdd, Nat.reduceSub, Nat.reduceMul, Nat.reduceLT, Nat.reduceLeDiff, Int.reduceLT, Int.reduceLE, Int.reduceEq, Int.reduceNe, Int.reduceToNat, Int.reduceAdd, Int.reduceSub, Int.reduceMul, Int.natCast_zero, h]
    refine call c2 [] ?_
    simp only [go_sem, ↓reduceIte, reduceCtorEq, Nat.reduceEqDiff, Nat.reduceAdd, Nat.reduceSub, Nat.reduceMul, Nat.reduceLT, Nat.reduceLeDiff, Int.reduceLT, Int.reduceLE, Int.reduceEq, Int.reduceNe, Int.reduceToNat, Int.reduceAdd, Int.reduceSub, Int.reduceMul, Int.natCast_zero]
  · rw [if_pos h] at hm
    subst hm
    simp only [go_sem, ↓reduceIte, reduceCtorEq, Nat.reduceEqDiff, Nat.reduceAdd, Nat.reduceSub, Nat.reduceMul, Nat.reduceLT, Nat.reduceLeDiff, Int.reduceLT, Int.reduceLE, Int.reduceEq, Int.reduceNe, Int.reduceToNat, Int.reduceAdd, Int.reduceSub, Int.reduceMul, Int.natCast_zero, h, noC, List.map_nil]
    done

/-- The first term. -/
def term0 (r : Rl) : Tm := ⟨0, r.gen, firstV r, false, noC⟩
set_option maxHeartbeats 1000000 in
set_option maxRecDepth 100000 in
theorem terms0_den (r : Rl) (hr : ruleE r = 0) (h0 : r.gen.length ≤ 1000000) (h1 : r.pol.se.length ≤ 1000000) (h2 : r.pol.ta.length ≤ 1000000) : Den Tryz.prog 32 [.agg (rl r), .vs []] [] (.tup [.vs [tm (term0 r)], .int .i64 0]) [] [] := by
  refine den_of Tryz.mixed Tryz.func32 rfl Tryz.call32 Tryz.ntmps32 (congrArg Array.toList Tryz.results32) (by simp) (by kernel_rfl) [] (exts := []) rfl rfl ?_
  have c0 := rcheck24 r (by simp only [big]; omega) (by simp only [big]; omega) (by simp only [big]; omega)
  have c1 := first_den r hr h0 h1 h2
  have c2 := decided0_den r (term0 r) ⟨0, 1, 0, 0⟩ (by simp only [big]; omega) (by simp only [big]; omega) (by simp only [big]; omega) (by show big r.gen.length; simp only [big]; omega) (fun _ => sha_len _)
  have c3 := roster_den 0
  have ht : tm (term0 r) = [.int .i64 0, .vs (r.gen.map i1), .str (firstV r), .bool false, .vs [], .vs []] := rfl
  rw [ht] at c2 ⊢
  generalize dec0 r (term0 r) ⟨0, 1, 0, 0⟩ = k at *
  generalize firstV r = v at *
  rw [hr] at c0
  rw [rl_eq] at c0 c1 c2
  rw [cs_eq] at c2 c3
  have hn : ct noC = [.vs [], .vs []] := rfl
  rw [hn] at c2
  clear hn ht
  simp only [go_sem, ↓reduceIte, reduceCtorEq, Nat.reduceEqDiff, Nat.reduceAdd, Nat.reduceSub, Nat.reduceMul, Nat.reduceLT, Nat.reduceLeDiff, Int.reduceLT, Int.reduceLE, Int.reduceEq, Int.reduceNe, Int.reduceToNat, Int.reduceAdd, Int.reduceSub, Int.reduceMul, Int.natCast_zero]
  refine call c0 [] ?_
  simp only [go_sem, ↓reduceIte, reduceCtorEq, Nat.reduceEqDiff, Nat.reduceAdd, Nat.reduceSub, Nat.reduceMul, Nat.reduceLT, Nat.reduceLeDiff, Int.reduceLT, Int.reduceLE, Int.reduceEq, Int.reduceNe, Int.reduceToNat, Int.reduceAdd, Int.reduceSub, Int.reduceMul, Int.natCast_zero]
  refine call c1 [] ?_
  simp only [go_sem, ↓reduceIte, reduceCtorEq, Nat.reduceEqDiff, Nat.reduceAdd, Nat.reduceSub, Nat.reduceMul, Nat.reduceLT, Nat.reduceLeDiff, Int.reduceLT, Int.reduceLE, Int.reduceEq, Int.reduceNe, Int.reduceToNat, Int.reduceAdd, Int.reduceSub, Int.reduceMul, Int.natCast_zero]
  refine ⟨by omega, ?_⟩
  refine loop Tryz.mixed 0 (fun i : Nat => [(2, .ptr 2 0), (1, .vs []), (7, .str v), (9, .vs (r.gen.map i1)), (10, .nils), (11, .int .i64 0)]) (fun i => [(2, .cells (rl r))]) (fun i => True) (fun i => 0) (by kernel_rfl) ?_ ?_ ?_
  · trivial
  · simp only [go_sem, ↓reduceIte, reduceCtorEq, Nat.reduceEqDiff, Nat.reduceAdd, Nat.reduceSub, Nat.reduceMul, Nat.reduceLT, Nat.reduceLeDiff, Int.reduceLT, Int.reduceLE, Int.reduceEq, Int.reduceNe, Int.reduceToNat, Int.reduceAdd, Int.reduceSub, Int.reduceMul, Int.natCast_zero]
  · intro i _
    simp only [go_sem, ↓reduceIte, reduceCtorEq, Nat.reduceEqDiff, Nat.reduceAdd, Nat.reduceSub, Nat.reduceMul, Nat.reduceLT, Nat.reduceLeDiff, Int.reduceLT, Int.reduceLE, Int.reduceEq, Int.reduceNe, Int.reduceToNat, Int.reduceAdd, Int.reduceSub, Int.reduceMul, Int.natCast_zero]
    refine call c3 [] ?_
    simp only [go_sem, ↓reduceIte, reduceCtorEq, Nat.reduceEqDiff, Nat.reduceAdd, Nat.reduceSub, Nat.reduceMul, Nat.reduceLT, Nat.reduceLeDiff, Int.reduceLT, Int.reduceLE, Int.reduceEq, Int.reduceNe, Int.reduceToNat, Int.reduceAdd, Int.reduceSub, Int.reduceMul, Int.natCast_zero]
    refine call c2 [] ?_
    simp only [go_sem, ↓reduceIte, reduceCtorEq, Nat.reduceEqDiff, Nat.reduceAdd, Nat.reduceSub, Nat.reduceMul, Nat.reduceLT, Nat.reduceLeDiff, Int.reduceLT, Int.reduceLE, Int.reduceEq, Int.reduceNe, Int.reduceToNat, Int.reduceAdd, Int.reduceSub, Int.reduceMul, Int.natCast_zero]
    exact ⟨okD_of (by kernel_rfl), okD_of (by kernel_rfl)⟩

set_option maxHeartbeats 1000000 in
set_option maxRecDepth 100000 in
theorem at0_den (r : Rl) (hr : ruleE r = 0) (h0 : r.gen.length ≤ 1000000) (h1 : r.pol.se.length ≤ 1000000) (h2 : r.pol.ta.length ≤ 1000000) : Den Tryz.prog 16 [.agg (rl r), .vs [], .int .i64 0] [] (.tup [.agg (tm (term0 r)), .int .i64 0]) [] [] := by
  refine den_of Tryz.mixed Tryz.func16 rfl Tryz.call16 Tryz.ntmps16 (congrArg Array.toList Tryz.results16) (by simp) (by kernel_rfl) [] (exts := []) rfl rfl ?_
  have c1 := terms0_den r hr h0 h1 h2
  rw [rl_eq] at c1
  have ht : tm (term0 r) = [.int .i64 0, .vs (r.gen.map i1), .str (firstV r), .bool false, .vs [], .vs []] := rfl
  rw [ht] at c1 ⊢
  simp only [go_sem, ↓reduceIte, reduceCtorEq, Nat.reduceEqDiff, Nat.reduceAdd, Nat.reduceSub, Nat.reduceMul, Nat.reduceLT, Nat.reduceLeDiff, Int.reduceLT, Int.reduceLE, Int.reduceEq, Int.reduceNe, Int.reduceToNat, Int.reduceAdd, Int.reduceSub, Int.reduceMul, Int.natCast_zero]
  refine call c1 [] ?_
  simp only [go_sem, ↓reduceIte, reduceCtorEq, Nat.reduceEqDiff, Nat.reduceAdd, Nat.reduceSub, Nat.reduceMul, Nat.reduceLT, Nat.reduceLeDiff, Int.reduceLT, Int.reduceLE, Int.reduceEq, Int.reduceNe, Int.reduceToNat, Int.reduceAdd, Int.reduceSub, Int.reduceMul, Int.natCast_zero]
  done
end Go.Proofs.Am
