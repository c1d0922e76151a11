/- Rules of the mill; the numbers of a committee. -/
import Derived.Test.YthcphdogfdghkaaGreatC3
set_option linter.unusedSimpArgs false
set_option linter.unusedVariables false
namespace Go.Proofs.Am
open Go Go.RowKit
open Go.Proofs

def mrulesQ (l : List Int) (p p1 p2 q q1 q2 q3 q4 : Nat) : Rl :=
  ⟨([0, 1, 2, 3, 4, 5, 6] : List Int).take (2 + dnext l q 5).toNat,
   ⟨if dnext l q4 3 = 2 then [0, 1] else [0],
    [1 + el ([4, 8, 2] : List Int) (dnext l q1 3).toNat, if 1 + el ([2, 1, 0] : List Int) (dnext l q2 3).toNat < 1 + el ([4, 8, 2] : List Int) (dnext l q1 3).toNat then 1 + el ([2, 1, 0] : List Int) (dnext l q2 3).toNat else 1 + el ([4, 8, 2] : List Int) (dnext l q1 3).toNat],
    el [1, 1, 2] (dnext l q3 3).toNat⟩,
   el [3, 1, 4, 5, 2] (dnext l p 5).toNat, el [10, 20, 5, 1] (dnext l p1 4).toNat, el [1, 2, 0, 5] (dnext l p2 4).toNat⟩
/-- Many steps of the dice. -/
def dgo (l : List Int) (p : Nat) : Nat → Nat
  | 0 => p
  | n + 1 => dpos l (dgo l p n)
theorem dgo_le {l : List Int} {p : Nat} (hp : p ≤ l.length) : ∀ n, dgo l p n ≤ l.length
  | 0 => hp
  | n + 1 => dpos_le (dgo_le hp n)
theorem dgo_zero (l : List Int) (p : Nat) : dgo l p 0 = p := (rfl)
theorem dgo_succ (l : List Int) (p n : Nat) : dpos l (dgo l p n) = dgo l p (n + 1) := (rfl)
def mrules (l : List Int) (p : Nat) : Rl := mrulesQ l p (dgo l p 1) (dgo l p 2) (dgo l p 3) (dgo l p 4) (dgo l p 5) (dgo l p 6) (dgo l p 7)

theorem mrulesQ_ok (l : List Int) (p p1 p2 q q1 q2 q3 q4 : Nat) : ruleE (mrulesQ l p p1 p2 q q1 q2 q3 q4) = 0 := by
  have h1 := dnext_lt (l := l) (p := p) (n := 5) (by omega)
  have h2 := dnext_lt (l := l) (p := p1) (n := 4) (by omega)
  have h3 := dnext_lt (l := l) (p := p2) (n := 4) (by omega)
  have h4 := dnext_lt (l := l) (p := q) (n := 5) (by omega)
  have h5 := dnext_lt (l := l) (p := q1) (n := 3) (by omega)
  have h6 := dnext_lt (l := l) (p := q2) (n := 3) (by omega)
  have h7 := dnext_lt (l := l) (p := q3) (n := 3) (by omega)
  have h8 := dnext_lt (l := l) (p := q4) (n := 3) (by omega)
  have a1 : rosV (mrulesQ l p p1 p2 q q1 q2 q3 q4).gen = true := by
    show rosV (([0, 1, 2, 3, 4, 5, 6] : List Int).take (2 + dnext l q 5).toNat) = true
    have : dnext l q 5 = 0 ∨ dnext l q 5 = 1 ∨ dnext l q 5 = 2 ∨ dnext l q 5 = 3 ∨ dnext l q 5 = 4 := by omega
    rcases this with h | h | h | h | h <;> rw [h] <;> decide
  have a2 : polV (mrulesQ l p p1 p2 q q1 q2 q3 q4).pol = true := by
    show polV ⟨if dnext l q4 3 = 2 then [0, 1] else [0], _, _⟩ = true
    have c5 : dnext l q1 3 = 0 ∨ dnext l q1 3 = 1 ∨ dnext l q1 3 = 2 := by omega
    have c6 : dnext l q2 3 = 0 ∨ dnext l q2 3 = 1 ∨ dnext l q2 3 = 2 := by omega
    have c7 : dnext l q3 3 = 0 ∨ dnext l q3 3 = 1 ∨ dnext l q3 3 = 2 := by omega
    by_cases c8 : dnext l q4 3 = 2
    · rw [if_pos c8]
      rcases c5 with h | h | h <;> rcases c6 with h' | h' | h' <;> rcases c7 with h'' | h'' | h'' <;> rw [h, h', h''] <;> decide
    · rw [if_neg c8]
      rcases c5 with h | h | h <;> rcases c6 with h' | h' | h' <;> rcases c7 with h'' | h'' | h'' <;> rw [h, h', h''] <;> decide
  have a3 : 1 ≤ (mrulesQ l p p1 p2 q q1 q2 q3 q4).seats ∧ (mrulesQ l p p1 p2 q q1 q2 q3 q4).seats ≤ 9 ∧ 1 ≤ (mrulesQ l p p1 p2 q q1 q2 q3 q4).span ∧ (mrulesQ l p p1 p2 q q1 q2 q3 q4).span ≤ 1000000 ∧ 0 ≤ (mrulesQ l p p1 p2 q q1 q2 q3 q4).quota ∧ (mrulesQ l p p1 p2 q q1 q2 q3 q4).quota ≤ 64 := by
    show 1 ≤ el [3, 1, 4, 5, 2] (dnext l p 5).toNat ∧ el [3, 1, 4, 5, 2] (dnext l p 5).toNat ≤ 9 ∧ 1 ≤ el [10, 20, 5, 1] (dnext l p1 4).toNat ∧ el [10, 20, 5, 1] (dnext l p1 4).toNat ≤ 1000000 ∧ 0 ≤ el [1, 2, 0, 5] (dnext l p2 4).toNat ∧ el [1, 2, 0, 5] (dnext l p2 4).toNat ≤ 64
    have c1 : dnext l p 5 = 0 ∨ dnext l p 5 = 1 ∨ dnext l p 5 = 2 ∨ dnext l p 5 = 3 ∨ dnext l p 5 = 4 := by omega
    have c2 : dnext l p1 4 = 0 ∨ dnext l p1 4 = 1 ∨ dnext l p1 4 = 2 ∨ dnext l p1 4 = 3 := by omega
    have c3 : dnext l p2 4 = 0 ∨ dnext l p2 4 = 1 ∨ dnext l p2 4 = 2 ∨ dnext l p2 4 = 3 := by omega
    refine ⟨?_, ?_, ?_, ?_, ?_, ?_⟩
    · rcases c1 with h | h | h | h | h <;> rw [h] <;> decide
    · rcases c1 with h | h | h | h | h <;> rw [h] <;> decide
    · rcases c2 with h | h | h | h <;> rw [h] <;> decide
    · rcases c2 with h | h | h | h <;> rw [h] <;> decide
    · rcases c3 with h | h | h | h <;> rw [h] <;> decide
    · rcases c3 with h | h | h | h <;> rw [h] <;> decide
  rw [ruleE, if_neg (by simp [a1]), if_neg (by simp [a2]), if_pos a3]
theorem mrules_ok (l : List Int) (p : Nat) : ruleE (mrules l p) = 0 := mrulesQ_ok _ _ _ _ _ _ _ _ _
theorem el_le {l : List Int} {a b : Int} (h0 : a ≤ 0 ∧ 0 ≤ b) (h : ∀ x ∈ l, a ≤ x ∧ x ≤ b) (i : Nat) : a ≤ el l i ∧ el l i ≤ b := by
  by_cases hi : i < l.length
  · exact h _ (mem_of_el hi)
  · have : el l i = 0 := by simp [el, List.getD_eq_getElem?_getD, List.getElem?_eq_none (by omega : l.length ≤ i)]
    rw [this]; exact h0

set_option maxHeartbeats 1000000 in
set_option maxRecDepth 100000 in
theorem mrules_den (l : List Int) (p : Nat) (hl : big l.length) (hp : p ≤ l.length) : Den Tryz.prog 15 [.ptr 1000000 0] [dbox l p] (.agg (rl (mrules l p))) [] [dbox l (dgo l p 8)] := by
  refine den_of Tryz.mixed Tryz.func15 rfl Tryz.call15 Tryz.ntmps15 (congrArg Array.toList Tryz.results15) (by simp) (by kernel_rfl) [] (exts := [1000000]) rfl rfl ?_
  have hp1 := dgo_le hp 1
  have hp2 := dgo_le hp 2
  have hp3 := dgo_le hp 3
  have hp4 := dgo_le hp 4
  have hp5 := dgo_le hp 5
  have hp6 := dgo_le hp 6
  have hp7 := dgo_le hp 7
  generalize hm : mrules l p = m
  have hm : mrulesQ l p (dgo l p 1) (dgo l p 2) (dgo l p 3) (dgo l p 4) (dgo l p 5) (dgo l p 6) (dgo l p 7) = m := hm
  have e0 : dpos l p = dgo l p 1 := rfl
  simp only [go_sem, ↓reduceIte, reduceCtorEq, Nat.reduceEqDiff, Nat.reduceAdd, Nat.reduceSub, Nat.reduceMul, Nat.reduceLT, Nat.reduceLeDiff, Int.reduceLT, Int.reduceLE, Int.reduceEq, Int.reduceNe, Int.reduceToNat, Int.reduceAdd, Int.reduceSub, Int.reduceMul, Int.natCast_zero]
  refine call (of_den l p [3, 1, 4, 5, 2] hl hp (by simp) (by simp [big])) [1000000] ?_
  simp only [go_sem, ↓reduceIte, reduceCtorEq, Nat.reduceEqDiff, Nat.reduceAdd, Nat.reduceSub, Nat.reduceMul, Nat.reduceLT, Nat.reduceLeDiff, Int.reduceLT, Int.reduceLE, Int.reduceEq, Int.reduceNe, Int.reduceToNat, Int.reduceAdd, Int.reduceSub, Int.reduceMul, Int.natCast_zero, e0]
  refine call (of_den l (dgo l p 1) [10, 20, 5, 1] hl hp1 (by simp) (by simp [big])) [1000000] ?_
  simp only [go_sem, ↓reduceIte, reduceCtorEq, Nat.reduceEqDiff, Nat.reduceAdd, Nat.reduceSub, Nat.reduceMul, Nat.reduceLT, Nat.reduceLeDiff, Int.reduceLT, Int.reduceLE, Int.reduceEq, Int.reduceNe, Int.reduceToNat, Int.reduceAdd, Int.reduceSub, Int.reduceMul, Int.natCast_zero, dgo_succ]
  refine call (of_den l (dgo l p 2) [1, 2, 0, 5] hl hp2 (by simp) (by simp [big])) [1000000] ?_
  simp only [go_sem, ↓reduceIte, reduceCtorEq, Nat.reduceEqDiff, Nat.reduceAdd, Nat.reduceSub, Nat.reduceMul, Nat.reduceLT, Nat.reduceLeDiff, Int.reduceLT, Int.reduceLE, Int.reduceEq, Int.reduceNe, Int.reduceToNat, Int.reduceAdd, Int.reduceSub, Int.reduceMul, Int.natCast_zero, dgo_succ]
  refine call (next_den l (dgo l p 3) 5 hl hp3 (by omega)) [1000000] ?_
  have hn := dnext_lt (l := l) (p := dgo l p 3) (n := 5) (by omega)
  have e1 : IntKind.i64.wrap (2 + dnext l (dgo l p 3) 5) = 2 + dnext l (dgo l p 3) 5 := by rw [wrapI] <;> omega
  simp only [go_sem, ↓reduceIte, reduceCtorEq, Nat.reduceEqDiff, Nat.reduceAdd, Nat.reduceSub, Nat.reduceMul, Nat.reduceLT, Nat.reduceLeDiff, Int.reduceLT, Int.reduceLE, Int.reduceEq, Int.reduceNe, Int.reduceToNat, Int.reduceAdd, Int.reduceSub, Int.reduceMul, Int.natCast_zero, e1, dgo_succ]
  refine ⟨⟨by omega, by omega⟩, ?_⟩
  refine call (of_den l (dgo l p 4) [4, 8, 2] hl hp4 (by simp) (by simp [big])) [1000000] ?_
  simp only [go_sem, ↓reduceIte, reduceCtorEq, Nat.reduceEqDiff, Nat.reduceAdd, Nat.reduceSub, Nat.reduceMul, Nat.reduceLT, Nat.reduceLeDiff, Int.reduceLT, Int.reduceLE, Int.reduceEq, Int.reduceNe, Int.reduceToNat, Int.reduceAdd, Int.reduceSub, Int.reduceMul, Int.natCast_zero, dgo_succ]
  refine call (of_den l (dgo l p 5) [2, 1, 0] hl hp5 (by simp) (by simp [big])) [1000000] ?_
  simp only [go_sem, ↓reduceIte, reduceCtorEq, Nat.reduceEqDiff, Nat.reduceAdd, Nat.reduceSub, Nat.reduceMul, Nat.reduceLT, Nat.reduceLeDiff, Int.reduceLT, Int.reduceLE, Int.reduceEq, Int.reduceNe, Int.reduceToNat, Int.reduceAdd, Int.reduceSub, Int.reduceMul, Int.natCast_zero, dgo_succ]
  refine call (of_den l (dgo l p 6) [1, 1, 2] hl hp6 (by simp) (by simp [big])) [1000000] ?_
  simp only [go_sem, ↓reduceIte, reduceCtorEq, Nat.reduceEqDiff, Nat.reduceAdd, Nat.reduceSub, Nat.reduceMul, Nat.reduceLT, Nat.reduceLeDiff, Int.reduceLT, Int.reduceLE, Int.reduceEq, Int.reduceNe, Int.reduceToNat, Int.reduceAdd, Int.reduceSub, Int.reduceMul, Int.natCast_zero, dgo_succ]
  refine call (one_den l (dgo l p 7) 3 hl hp7 (by omega) (by omega)) [1000000] ?_
  have w1 : IntKind.i64.wrap (1 + el [4, 8, 2] (dnext l (dgo l p 4) 3).toNat) = 1 + el [4, 8, 2] (dnext l (dgo l p 4) 3).toNat := by
    have := el_le (l := [4, 8, 2]) (a := 0) (b := 8) (by omega) (by simp) (dnext l (dgo l p 4) 3).toNat
    rw [wrapI] <;> omega
  have w2 : IntKind.i64.wrap (1 + el [2, 1, 0] (dnext l (dgo l p 5) 3).toNat) = 1 + el [2, 1, 0] (dnext l (dgo l p 5) 3).toNat := by
    have := el_le (l := [2, 1, 0]) (a := 0) (b := 8) (by omega) (by simp) (dnext l (dgo l p 5) 3).toNat
    rw [wrapI] <;> omega
  have htk : ∀ k : Nat, List.take k [[PV.int IntKind.i64 0], [PV.int IntKind.i64 1], [PV.int IntKind.i64 2], [PV.int IntKind.i64 3], [PV.int IntKind.i64 4], [PV.int IntKind.i64 5], [PV.int IntKind.i64 6]] = List.map i1 (([0, 1, 2, 3, 4, 5, 6] : List Int).take k) := fun k => by
    rw [List.map_take]; rfl
  cases h : decide (dnext l (dgo l p 7) 3 = 3 - 1)
  · have hc : ¬ dnext l (dgo l p 7) 3 = 2 := of_decide_eq_false h
    simp only [go_sem, ↓reduceIte, reduceCtorEq, Nat.reduceEqDiff, Nat.reduceAdd, Nat.reduceSub, Nat.reduceMul, Nat.reduceLT, Nat.reduceLeDiff, Int.reduceLT, Int.reduceLE, Int.reduceEq, Int.reduceNe, Int.reduceToNat, Int.reduceAdd, Int.reduceSub, Int.reduceMul, Int.natCast_zero, dgo_succ, w1, w2]
    refine ⟨okD_of (by kernel_rfl), by decide, ?_⟩
    subst hm
    refine ⟨htk _, ?_, ?_, rfl, rfl, rfl, rfl⟩
    · simp only [mrulesQ, if_neg hc]
      rfl
    · by_cases hx : (1 : Int) + el ([2, 1, 0] : List Int) (dnext l (dgo l p 5) 3).toNat < 1 + el ([4, 8, 2] : List Int) (dnext l (dgo l p 4) 3).toNat
      · simp only [mrulesQ, if_pos hx, List.map_cons, List.map_nil, i1_eq]
      · simp only [mrulesQ, if_neg hx, List.map_cons, List.map_nil, i1_eq]
  · have hc : dnext l (dgo l p 7) 3 = 2 := of_decide_eq_true h
    simp only [go_sem, ↓reduceIte, reduceCtorEq, Nat.reduceEqDiff, Nat.reduceAdd, Nat.reduceSub, Nat.reduceMul, Nat.reduceLT, Nat.reduceLeDiff, Int.reduceLT, Int.reduceLE, Int.reduceEq, Int.reduceNe, Int.reduceToNat, Int.reduceAdd, Int.reduceSub, Int.reduceMul, Int.natCast_zero, dgo_succ, w1, w2]
    refine ⟨okD_of (by kernel_rfl), by decide, ?_⟩
    subst hm
    refine ⟨htk _, ?_, ?_, rfl, rfl, rfl, rfl⟩
    · simp only [mrulesQ, if_pos hc]
      rfl
    · by_cases hx : (1 : Int) + el ([2, 1, 0] : List Int) (dnext l (dgo l p 5) 3).toNat < 1 + el ([4, 8, 2] : List Int) (dnext l (dgo l p 4) 3).toNat
      · simp only [mrulesQ, if_pos hx, List.map_cons, List.map_nil, i1_eq]
      · simp only [mrulesQ, if_neg hx, List.map_cons, List.map_nil, i1_eq]

/-- A digest of the mill. -/
def mdig (l : List Int) (p : Nat) : List UInt8 := [bAt (dnext l p 4) 0] ++ (List.replicate 30 0 ++ [bAt (dnext l (dgo l p 1) 256) 0])
theorem mdig_len (l : List Int) (p : Nat) : (mdig l p).length = 32 := rfl
set_option maxHeartbeats 1000000 in
set_option maxRecDepth 100000 in
theorem digest_den (l : List Int) (p : Nat) (hl : big l.length) (hp : p ≤ l.length) : Den Tryz.prog 34 [.ptr 1000000 0] [dbox l p] (.str (mdig l p)) [] [dbox l (dgo l p 2)] := by
  refine den_of Tryz.mixed Tryz.func34 rfl Tryz.call34 Tryz.ntmps34 (congrArg Array.toList Tryz.results34) (by simp) (by kernel_rfl) [] (exts := [1000000]) rfl rfl ?_
  have hp1 := dgo_le hp 1
  have e0 : dpos l p = dgo l p 1 := rfl
  simp only [go_sem, ↓reduceIte, reduceCtorEq, Nat.reduceEqDiff, Nat.reduceAdd, Nat.reduceSub, Nat.reduceMul, Nat.reduceLT, Nat.reduceLeDiff, Int.reduceLT, Int.reduceLE, Int.reduceEq, Int.reduceNe, Int.reduceToNat, Int.reduceAdd, Int.reduceSub, Int.reduceMul, Int.natCast_zero]
  refine call (next_den l p 4 hl hp (by omega)) [1000000] ?_
  simp only [go_sem, ↓reduceIte, reduceCtorEq, Nat.reduceEqDiff, Nat.reduceAdd, Nat.reduceSub, Nat.reduceMul, Nat.reduceLT, Nat.reduceLeDiff, Int.reduceLT, Int.reduceLE, Int.reduceEq, Int.reduceNe, Int.reduceToNat, Int.reduceAdd, Int.reduceSub, Int.reduceMul, Int.natCast_zero, e0]
  refine call (next_den l (dgo l p 1) 256 hl hp1 (by omega)) [1000000] ?_
  simp only [go_sem, ↓reduceIte, reduceCtorEq, Nat.reduceEqDiff, Nat.reduceAdd, Nat.reduceSub, Nat.reduceMul, Nat.reduceLT, Nat.reduceLeDiff, Int.reduceLT, Int.reduceLE, Int.reduceEq, Int.reduceNe, Int.reduceToNat, Int.reduceAdd, Int.reduceSub, Int.reduceMul, Int.natCast_zero, dgo_succ, wrapB0]
  exact ⟨⟨rfl, by show (31 : Int) < 32; omega⟩, rfl, rfl, mdig l p, rfl, rfl⟩

set_option maxHeartbeats 1000000 in
set_option maxRecDepth 100000 in
theorem number_den (bs : List UInt8) (v : Int) (hb : small bs.length) : Den Tryz.prog 71 [.os 1000000 bs.length, .int .i64 v] [.arr 5 1 false (bs.map u8)] (.os 1000000 (bs ++ be8 v).length) [] [.arr 5 1 false ((bs ++ be8 v).map u8)] := by
  refine den_of Tryz.mixed Tryz.func71 rfl Tryz.call71 Tryz.ntmps71 (congrArg Array.toList Tryz.results71) (by simp) (by kernel_rfl) [] (exts := [1000000]) rfl rfl ?_
  simp only [go_sem, ↓reduceIte, reduceCtorEq, Nat.reduceEqDiff, Nat.reduceAdd, Nat.reduceSub, Nat.reduceMul, Nat.reduceLT, Nat.reduceLeDiff, Int.reduceLT, Int.reduceLE, Int.reduceEq, Int.reduceNe, Int.reduceToNat, Int.reduceAdd, Int.reduceSub, Int.reduceMul, Int.natCast_zero]
  refine loop Tryz.mixed 0 (fun m : Nat => [(5, .int .u64 (IntKind.u64.wrap v)), (0, .os 1000000 (bs ++ (be8 v).take m).length), (6, .int .i64 (7 - (m : Int)))]) (fun m => [(1000000, .arr 5 1 false ((bs ++ (be8 v).take m).map u8))]) (fun m => m ≤ 8) (fun m => 8 - m) (by kernel_rfl) ?_ ?_ ?_
  · simp
  · simp only [go_sem, ↓reduceIte, reduceCtorEq, Nat.reduceEqDiff, Nat.reduceAdd, Nat.reduceSub, Nat.reduceMul, Nat.reduceLT, Nat.reduceLeDiff, Int.reduceLT, Int.reduceLE, Int.reduceEq, Int.reduceNe, Int.reduceToNat, Int.reduceAdd, Int.reduceSub, Int.reduceMul, Int.natCast_zero, List.take_zero, List.append_nil]
  · intro m hm
    have hl : ((be8 v).take m).length = m := by simp [be8]; omega
    by_cases h : m < 8
    · have e1 : IntKind.u64.wrap (IntKind.i64.wrap (8 * (7 - (m : Int)))) = ((56 - 8 * m : Nat) : Int) := by rw [wrapI (by omega) (by omega), IntKind.wrap_u64]; omega
      have e0 : (be8 v).take (m + 1) = (be8 v).take m ++ [bAt v (56 - 8 * m)] := by
        have : m = 0 ∨ m = 1 ∨ m = 2 ∨ m = 3 ∨ m = 4 ∨ m = 5 ∨ m = 6 ∨ m = 7 := by omega
        rcases this with rfl | rfl | rfl | rfl | rfl | rfl | rfl | rfl <;> rfl
      have e2 : min (56 - 8 * m) 64 = 56 - 8 * m := by omega
      have hc : (0 : Int) ≤ 7 - (m : Int) := by omega
      simp only [go_sem, ↓reduceIte, reduceCtorEq, Nat.reduceEqDiff, Nat.reduceAdd, Nat.reduceSub, Nat.reduceMul, Nat.reduceLT, Nat.reduceLeDiff, Int.reduceLT, Int.reduceLE, Int.reduceEq, Int.reduceNe, Int.reduceToNat, Int.reduceAdd, Int.reduceSub, Int.reduceMul, Int.natCast_zero, hc, e1, e2, wrapB64 v (56 - 8 * m) (by omega), hl]
      (repeat refine And.intro (by first | omega | exact okD_of (by kernel_rfl)) ?_)
      refine ⟨m + 1, ⟨by omega, by omega⟩, ?_⟩
      rw [e0]
      simp only [go_sem, ↓reduceIte, reduceCtorEq, Nat.reduceEqDiff, Nat.reduceAdd, Nat.reduceSub, Nat.reduceMul, Nat.reduceLT, Nat.reduceLeDiff, Int.reduceLT, Int.reduceLE, Int.reduceEq, Int.reduceNe, Int.reduceToNat, Int.reduceAdd, Int.reduceSub, Int.reduceMul, Int.natCast_zero, List.map_append, List.append_assoc, hl]
      rw [wrapI] <;> omega
    · have hm2 : m = 8 := by omega
      subst hm2
      have h8 : (be8 v).take 8 = be8 v := rfl
      have hc : ¬ (0 : Int) ≤ 7 - ((8 : Nat) : Int) := by omega
      rw [h8]
      simp only [go_sem, ↓reduceIte, reduceCtorEq, Nat.reduceEqDiff, Nat.reduceAdd, Nat.reduceSub, Nat.reduceMul, Nat.reduceLT, Nat.reduceLeDiff, Int.reduceLT, Int.reduceLE, Int.reduceEq, Int.reduceNe, Int.reduceToNat, Int.reduceAdd, Int.reduceSub, Int.reduceMul, Int.natCast_zero, hc]

/-- A list of numbers, with its length ahead. -/
def lsB (l : List Int) : List UInt8 := be8 l.length ++ beL l
theorem lsB_len (l : List Int) : (lsB l).length = 8 * l.length + 8 := by simp only [lsB, List.length_append, be8_len, beL_len]; omega
set_option maxHeartbeats 1000000 in
set_option maxRecDepth 100000 in
theorem list_den (bs : List UInt8) (l : List Int) (hb : bs.length ≤ 1000000000) (hl : l.length ≤ 1000000000) : Den Tryz.prog 69 [.os 1000000 bs.length, .vs (l.map i1)] [.arr 5 1 false (bs.map u8)] (.os 1000000 (bs ++ lsB l).length) [] [.arr 5 1 false ((bs ++ lsB l).map u8)] := by
  refine den_of Tryz.mixed Tryz.func69 rfl Tryz.call69 Tryz.ntmps69 (congrArg Array.toList Tryz.results69) (by simp) (by kernel_rfl) [] (exts := [1000000]) rfl rfl ?_
  simp only [go_sem, ↓reduceIte, reduceCtorEq, Nat.reduceEqDiff, Nat.reduceAdd, Nat.reduceSub, Nat.reduceMul, Nat.reduceLT, Nat.reduceLeDiff, Int.reduceLT, Int.reduceLE, Int.reduceEq, Int.reduceNe, Int.reduceToNat, Int.reduceAdd, Int.reduceSub, Int.reduceMul, Int.natCast_zero]
  refine call (number_den bs l.length (by simp only [small]; omega)) [1000000] ?_
  simp only [go_sem, ↓reduceIte, reduceCtorEq, Nat.reduceEqDiff, Nat.reduceAdd, Nat.reduceSub, Nat.reduceMul, Nat.reduceLT, Nat.reduceLeDiff, Int.reduceLT, Int.reduceLE, Int.reduceEq, Int.reduceNe, Int.reduceToNat, Int.reduceAdd, Int.reduceSub, Int.reduceMul, Int.natCast_zero]
  refine ⟨by omega, ?_⟩
  refine loop Tryz.mixed 0 (fun i : Nat => [(1, .vs (l.map i1)), (0, .os 1000000 (bs ++ (be8 l.length ++ beL (l.take i))).length), (5, .int .i64 i)]) (fun i => [(1000000, .arr 5 1 false ((bs ++ (be8 l.length ++ beL (l.take i))).map u8))]) (fun i => i ≤ l.length) (fun i => l.length - i) (by kernel_rfl) ?_ ?_ ?_
  · simp
  · simp only [go_sem, ↓reduceIte, reduceCtorEq, Nat.reduceEqDiff, Nat.reduceAdd, Nat.reduceSub, Nat.reduceMul, Nat.reduceLT, Nat.reduceLeDiff, Int.reduceLT, Int.reduceLE, Int.reduceEq, Int.reduceNe, Int.reduceToNat, Int.reduceAdd, Int.reduceSub, Int.reduceMul, Int.natCast_zero, List.take_zero, beL, List.flatMap_nil, List.append_nil]
  · intro i hi
    have hti : (l.take i).length = i := by simp; omega
    simp only [go_sem, ↓reduceIte, reduceCtorEq, Nat.reduceEqDiff, Nat.reduceAdd, Nat.reduceSub, Nat.reduceMul, Nat.reduceLT, Nat.reduceLeDiff, Int.reduceLT, Int.reduceLE, Int.reduceEq, Int.reduceNe, Int.reduceToNat, Int.reduceAdd, Int.reduceSub, Int.reduceMul, Int.natCast_zero]
    refine ⟨fun h => ⟨by omega, call (number_den (bs ++ (be8 l.length ++ beL (l.take i))) (el l i) (by simp only [small, List.length_append, be8_len, beL_len, hti]; omega)) [1000000] ?_⟩, fun h => ?_⟩
    · simp only [go_sem, ↓reduceIte, reduceCtorEq, Nat.reduceEqDiff, Nat.reduceAdd, Nat.reduceSub, Nat.reduceMul, Nat.reduceLT, Nat.reduceLeDiff, Int.reduceLT, Int.reduceLE, Int.reduceEq, Int.reduceNe, Int.reduceToNat, Int.reduceAdd, Int.reduceSub, Int.reduceMul, Int.natCast_zero]
      refine ⟨by omega, i + 1, ⟨by omega, by omega⟩, ?_⟩
      rw [take_el h, beL_append]
      simp only [go_sem, ↓reduceIte, reduceCtorEq, Nat.reduceEqDiff, Nat.reduceAdd, Nat.reduceSub, Nat.reduceMul, Nat.reduceLT, Nat.reduceLeDiff, Int.reduceLT, Int.reduceLE, Int.reduceEq, Int.reduceNe, Int.reduceToNat, Int.reduceAdd, Int.reduceSub, Int.reduceMul, Int.natCast_zero, List.map_append, List.append_assoc, beL, List.flatMap_cons, List.flatMap_nil]
      refine ⟨by omega, ?_⟩
      rw [wrapI] <;> omega
    · have : i = l.length := by omega
      subst this
      simp only [go_sem, ↓reduceIte, reduceCtorEq, Nat.reduceEqDiff, Nat.reduceAdd, Nat.reduceSub, Nat.reduceMul, Nat.reduceLT, Nat.reduceLeDiff, Int.reduceLT, Int.reduceLE, Int.reduceEq, Int.reduceNe, Int.reduceToNat, Int.reduceAdd, Int.reduceSub, Int.reduceMul, Int.natCast_zero, List.take_length, lsB]

def b0 (r : Rl) : List UInt8 := (((([116, 114, 117, 115, 116, 102, 108, 111, 119] : List UInt8) ++ lsB r.gen) ++ lsB r.pol.se) ++ lsB r.pol.ta) ++ lsB [r.pol.lv, r.seats, r.span, r.quota]
def firstV (r : Rl) : List UInt8 := sha (b0 r)
theorem rule0 {r : Rl} (h : ruleE r = 0) : rosV r.gen = true ∧ polV r.pol = true ∧ (1 ≤ r.seats ∧ r.seats ≤ 9 ∧ 1 ≤ r.span ∧ r.span ≤ 1000000 ∧ 0 ≤ r.quota ∧ r.quota ≤ 64) := by
  unfold ruleE at h
  split at h
  · omega
  split at h
  · omega
  split at h
  · rename_i a b c
    exact ⟨by simpa using a, by simpa using b, c⟩
  · omega
set_option maxHeartbeats 1000000 in
set_option maxRecDepth 100000 in
theorem first_den (r : Rl) (hr : ruleE r = 0) (h0 : r.gen.length ≤ 1000000) (h1 : r.pol.se.length ≤ 1000000) (h2 : r.pol.ta.length ≤ 1000000) : Den Tryz.prog 50 [.agg (rl r)] [] (.tup [.str (firstV r), .int .i64 0]) [] [] := by
  refine den_of Tryz.mixed Tryz.func50 rfl Tryz.call50 Tryz.ntmps50 (congrArg Array.toList Tryz.results50) (by simp) (by kernel_rfl) [] (exts := []) rfl rfl ?_
  have c0 := rcheck24 r (by simp only [big]; omega) (by simp only [big]; omega) (by simp only [big]; omega)
  rw [hr, rl_eq] at c0
  simp only [go_sem, ↓reduceIte, reduceCtorEq, Nat.reduceEqDiff, Nat.reduceAdd, Nat.reduceSub, Nat.reduceMul, Nat.reduceLT, Nat.reduceLeDiff, Int.reduceLT, Int.reduceLE, Int.reduceEq, Int.reduceNe, Int.reduceToNat, Int.reduceAdd, Int.reduceSub, Int.reduceMul, Int.natCast_zero]
  refine call c0 [] ?_
  simp only [go_sem, ↓reduceIte, reduceCtorEq, Nat.reduceEqDiff, Nat.reduceAdd, Nat.reduceSub, Nat.reduceMul, Nat.reduceLT, Nat.reduceLeDiff, Int.reduceLT, Int.reduceLE, Int.reduceEq, Int.reduceNe, Int.reduceToNat, Int.reduceAdd, Int.reduceSub, Int.reduceMul, Int.natCast_zero]
  refine call (list_den [116, 114, 117, 115, 116, 102, 108, 111, 119] r.gen (by simp) (by omega)) [11] ?_
  simp only [go_sem, ↓reduceIte, reduceCtorEq, Nat.reduceEqDiff, Nat.reduceAdd, Nat.reduceSub, Nat.reduceMul, Nat.reduceLT, Nat.reduceLeDiff, Int.reduceLT, Int.reduceLE, Int.reduceEq, Int.reduceNe, Int.reduceToNat, Int.reduceAdd, Int.reduceSub, Int.reduceMul, Int.natCast_zero]
  refine call (list_den ([116, 114, 117, 115, 116, 102, 108, 111, 119] ++ lsB r.gen) r.pol.se (by simp only [List.length_append, lsB_len, List.length_cons, List.length_nil]; omega) (by omega)) [11] ?_
  simp only [go_sem, ↓reduceIte, reduceCtorEq, Nat.reduceEqDiff, Nat.reduceAdd, Nat.reduceSub, Nat.reduceMul, Nat.reduceLT, Nat.reduceLeDiff, Int.reduceLT, Int.reduceLE, Int.reduceEq, Int.reduceNe, Int.reduceToNat, Int.reduceAdd, Int.reduceSub, Int.reduceMul, Int.natCast_zero]
  refine ⟨by omega, call (list_den (([116, 114, 117, 115, 116, 102, 108, 111, 119] ++ lsB r.gen) ++ lsB r.pol.se) r.pol.ta (by simp only [List.length_append, lsB_len, List.length_cons, List.length_nil]; omega) (by omega)) [11] ?_⟩
  simp only [go_sem, ↓reduceIte, reduceCtorEq, Nat.reduceEqDiff, Nat.reduceAdd, Nat.reduceSub, Nat.reduceMul, Nat.reduceLT, Nat.reduceLeDiff, Int.reduceLT, Int.reduceLE, Int.reduceEq, Int.reduceNe, Int.reduceToNat, Int.reduceAdd, Int.reduceSub, Int.reduceMul, Int.natCast_zero]
  refine ⟨by omega, call (list_den ((([116, 114, 117, 115, 116, 102, 108, 111, 119] ++ lsB r.gen) ++ lsB r.pol.se) ++ lsB r.pol.ta) [r.pol.lv, r.seats, r.span, r.quota] (by simp only [List.length_append, lsB_len, List.length_cons, List.length_nil]; omega) (by simp)) [11] ?_⟩
  simp only [go_sem, ↓reduceIte, reduceCtorEq, Nat.reduceEqDiff, Nat.reduceAdd, Nat.reduceSub, Nat.reduceMul, Nat.reduceLT, Nat.reduceLeDiff, Int.reduceLT, Int.reduceLE, Int.reduceEq, Int.reduceNe, Int.reduceToNat, Int.reduceAdd, Int.reduceSub, Int.reduceMul, Int.natCast_zero]
  refine ⟨by omega, call (sum_den (b0 r) (by simp only [b0, List.length_append, lsB_len, List.length_cons, List.length_nil]; omega)) [] ?_⟩
  simp only [go_sem, ↓reduceIte, reduceCtorEq, Nat.reduceEqDiff, Nat.reduceAdd, Nat.reduceSub, Nat.reduceMul, Nat.reduceLT, Nat.reduceLeDiff, Int.reduceLT, Int.reduceLE, Int.reduceEq, Int.reduceNe, Int.reduceToNat, Int.reduceAdd, Int.reduceSub, Int.reduceMul, Int.natCast_zero]
  refine ⟨?_, rfl⟩
  simp only [b0, List.map_append, List.append_assoc]
  rfl

/-- The numbers of a committee. -/
def num32 (s : List UInt8) : Int := bits .or .i64 (bits .or .i64 (bits .or .i64 (IntKind.i64.wrap (IntKind.i64.wrap ((s.getD 0 0).toNat : Int) * 2 ^ min 24 64)) (IntKind.i64.wrap (IntKind.i64.wrap ((s.getD 1 0).toNat : Int) * 2 ^ min 16 64))) (IntKind.i64.wrap (IntKind.i64.wrap ((s.getD 2 0).toNat : Int) * 2 ^ min 8 64))) (IntKind.i64.wrap ((s.getD 3 0).toNat : Int))
def numAt (v : List UInt8) (tag : List Int) (i : Nat) : Int := num32 (sha ((v ++ lsB tag) ++ be8 i))
def nums (v : List UInt8) (tag : List Int) : Nat → List Int
  | 0 => []
  | n + 1 => nums v tag n ++ [numAt v tag n]
theorem nums_len (v : List UInt8) (tag : List Int) : ∀ n, (nums v tag n).length = n
  | 0 => rfl
  | n + 1 => by simp [nums, nums_len v tag n]
theorem sha_len (b : List UInt8) : (sha b).length = 32 := by rw [sha, outL_len, hs_len]
def numbersR (v : List UInt8) (tag : List Int) (n : Int) : List Int × Int := if v.length ≠ 32 then ([], 1) else if 64 < tag.length then ([], 3) else if n < 0 ∨ 64 < n then ([], 2) else (nums v tag n.toNat, 0)

set_option maxHeartbeats 1000000 in
set_option maxRecDepth 100000 in
theorem numbers_den (v : List UInt8) (tag : List Int) (n : Nat) (hv : v.length = 32) (ht : tag.length ≤ 64) (hn : n ≤ 64) : Den Tryz.prog 57 [.str v, .vs (tag.map i1), .int .i64 n] [] (.tup [.vs ((nums v tag n).map i1), .int .i64 0]) [] [] := by
  refine den_of Tryz.mixed Tryz.func57 rfl Tryz.call57 Tryz.ntmps57 (congrArg Array.toList Tryz.results57) (by simp) (by kernel_rfl) [] (exts := []) rfl rfl ?_
  have g1 : (v.length : Int) = 32 := by omega
  have g2 : ¬ (64 : Int) < (tag.length : Int) := by omega
  have g3 : ¬ (n : Int) < 0 := by omega
  have g4 : ¬ (64 : Int) < (n : Int) := by omega
  simp only [go_sem, ↓reduceIte, reduceCtorEq, Nat.reduceEqDiff, Nat.reduceAdd, Nat.reduceSub, Nat.reduceMul, Nat.reduceLT, Nat.reduceLeDiff, Int.reduceLT, Int.reduceLE, Int.reduceEq, Int.reduceNe, Int.reduceToNat, Int.reduceAdd, Int.reduceSub, Int.reduceMul, Int.natCast_zero, g1, g2, g3, g4]
  refine promote 8 99 3 1 false ?_ ?_ ?_ (by omega)
  · refine loop Tryz.mixed 0 (fun i : Nat => [(0, .str v), (1, .vs (tag.map i1)), (2, .int .i64 n), (8, .os 99 (nums v tag i).length), (9, .int .i64 i)]) (fun i => [(99, .arr 3 1 false ((nums v tag i).map i1))]) (fun i => i ≤ n) (fun i => n - i) (by kernel_rfl) ?_ ?_ ?_
    · simp
    · simp only [go_sem, ↓reduceIte, reduceCtorEq, Nat.reduceEqDiff, Nat.reduceAdd, Nat.reduceSub, Nat.reduceMul, Nat.reduceLT, Nat.reduceLeDiff, Int.reduceLT, Int.reduceLE, Int.reduceEq, Int.reduceNe, Int.reduceToNat, Int.reduceAdd, Int.reduceSub, Int.reduceMul, Int.natCast_zero, nums, List.map_nil, List.length_nil]
    · intro i hi
      have hnl := nums_len v tag i
      by_cases h : i < n
      · have hlt : (i : Int) < (n : Int) := by omega
        simp only [go_sem, ↓reduceIte, reduceCtorEq, Nat.reduceEqDiff, Nat.reduceAdd, Nat.reduceSub, Nat.reduceMul, Nat.reduceLT, Nat.reduceLeDiff, Int.reduceLT, Int.reduceLE, Int.reduceEq, Int.reduceNe, Int.reduceToNat, Int.reduceAdd, Int.reduceSub, Int.reduceMul, Int.natCast_zero, hlt]
        refine ⟨by omega, call (list_den v tag (by omega) (by omega)) [28] ?_⟩
        simp only [go_sem, ↓reduceIte, reduceCtorEq, Nat.reduceEqDiff, Nat.reduceAdd, Nat.reduceSub, Nat.reduceMul, Nat.reduceLT, Nat.reduceLeDiff, Int.reduceLT, Int.reduceLE, Int.reduceEq, Int.reduceNe, Int.reduceToNat, Int.reduceAdd, Int.reduceSub, Int.reduceMul, Int.natCast_zero]
        refine ⟨by omega, call (number_den (v ++ lsB tag) i (by simp only [small, List.length_append, lsB_len]; omega)) [28] ?_⟩
        simp only [go_sem, ↓reduceIte, reduceCtorEq, Nat.reduceEqDiff, Nat.reduceAdd, Nat.reduceSub, Nat.reduceMul, Nat.reduceLT, Nat.reduceLeDiff, Int.reduceLT, Int.reduceLE, Int.reduceEq, Int.reduceNe, Int.reduceToNat, Int.reduceAdd, Int.reduceSub, Int.reduceMul, Int.natCast_zero]
        refine ⟨by omega, call (sum_den ((v ++ lsB tag) ++ be8 i) (by simp only [List.length_append, lsB_len, be8_len]; omega)) [] ?_⟩
        have hs := sha_len ((v ++ lsB tag) ++ be8 i)
        have hna : numAt v tag i = num32 (sha ((v ++ lsB tag) ++ be8 i)) := rfl
        generalize hS : sha ((v ++ lsB tag) ++ be8 i) = S at *
        simp only [go_sem, ↓reduceIte, reduceCtorEq, Nat.reduceEqDiff, Nat.reduceAdd, Nat.reduceSub, Nat.reduceMul, Nat.reduceLT, Nat.reduceLeDiff, Int.reduceLT, Int.reduceLE, Int.reduceEq, Int.reduceNe, Int.reduceToNat, Int.reduceAdd, Int.reduceSub, Int.reduceMul, Int.natCast_zero, hs]
        (repeat refine And.intro (by first | omega | exact okD_of (by kernel_rfl)) ?_)
        refine ⟨i + 1, ⟨by omega, by omega⟩, ?_⟩
        rw [nums, hna, num32]
        simp only [go_sem, ↓reduceIte, reduceCtorEq, Nat.reduceEqDiff, Nat.reduceAdd, Nat.reduceSub, Nat.reduceMul, Nat.reduceLT, Nat.reduceLeDiff, Int.reduceLT, Int.reduceLE, Int.reduceEq, Int.reduceNe, Int.reduceToNat, Int.reduceAdd, Int.reduceSub, Int.reduceMul, Int.natCast_zero, List.map_append]
        rw [wrapI] <;> omega
      · have hm2 : i = n := by omega
        subst hm2
        have hc : ¬ (i : Int) < (i : Int) := by omega
        simp only [go_sem, ↓reduceIte, reduceCtorEq, Nat.reduceEqDiff, Nat.reduceAdd, Nat.reduceSub, Nat.reduceMul, Nat.reduceLT, Nat.reduceLeDiff, Int.reduceLT, Int.reduceLE, Int.reduceEq, Int.reduceNe, Int.reduceToNat, Int.reduceAdd, Int.reduceSub, Int.reduceMul, Int.natCast_zero, hc]
  · simp only [go_sem, ↓reduceIte, reduceCtorEq, Nat.reduceEqDiff, Nat.reduceAdd, Nat.reduceSub, Nat.reduceMul, Nat.reduceLT, Nat.reduceLeDiff, Int.reduceLT, Int.reduceLE, Int.reduceEq, Int.reduceNe, Int.reduceToNat, Int.reduceAdd, Int.reduceSub, Int.reduceMul, Int.natCast_zero]
  · simp only [go_sem, ↓reduceIte, reduceCtorEq, Nat.reduceEqDiff, Nat.reduceAdd, Nat.reduceSub, Nat.reduceMul, Nat.reduceLT, Nat.reduceLeDiff, Int.reduceLT, Int.reduceLE, Int.reduceEq, Int.reduceNe, Int.reduceToNat, Int.reduceAdd, Int.reduceSub, Int.reduceMul, Int.natCast_zero]
end Go.Proofs.Am
