/- Lists of numbers: sets of keys, who comes in. -/
import Derived.Test.YthcphdogfdghkaaB2
set_option linter.unusedSimpArgs false
set_option linter.unusedVariables false
namespace Go.Proofs.Am
open Go Go.RowKit
open Go.Proofs

theorem some_vs (l : List Int) (p : Nat) (n : Nat) (hl : big l.length) (hp : p ≤ l.length) (hn : n ≤ 1000) : Den Try.prog 10 [.ptr 1000000 0, .int .i64 n] [dbox l p] (.vs ((dsome l n 0 p).map i1)) [] [dbox l (dskip l n p)] :=
  (some_den l p n hl hp hn).vs (by simp) (by simp only [go_sem, ↓reduceIte, reduceCtorEq, Nat.reduceEqDiff, Nat.reduceAdd, Nat.reduceSub, Nat.reduceMul, Nat.reduceLT, Nat.reduceLeDiff, Int.reduceLT, Int.reduceLE, Int.reduceEq, Int.reduceNe, Int.reduceToNat, Int.reduceAdd, Int.reduceSub, Int.reduceMul, Int.natCast_zero]) rfl

theorem dsome_len (l : List Int) : ∀ (n i p : Nat), (dsome l n i p).length ≤ n
  | 0, _, _ => by simp [dsome]
  | n + 1, i, p => by
    have := dsome_len l n (i + 1) (dpos l p)
    simp only [dsome, List.length_append]
    split <;> simp <;> omega
theorem dskip_le (l : List Int) : ∀ (n p : Nat), p ≤ l.length → dskip l n p ≤ l.length
  | 0, _, h => h
  | n + 1, _, h => dskip_le l n _ (dpos_le h)
theorem dsome_range (l : List Int) : ∀ (n i p : Nat), ∀ x ∈ dsome l n i p, (i : Int) ≤ x ∧ x < i + n
  | 0, _, _, x, h => by simp [dsome] at h
  | n + 1, i, p, x, h => by
    simp only [dsome, List.mem_append] at h
    rcases h with h | h
    · split at h
      · simp at h; omega
      · simp at h
    · have := dsome_range l n (i + 1) (dpos l p) x h
      omega

/-- mill.Light -/
theorem light_den (l : List Int) : Den Try.prog 7 [.vs (l.map i1)] [] (.bool (decide (l.length ≤ 400))) [] [] := by
  refine den_of Try.mixed Try.func7 rfl Try.call7 Try.ntmps7 (congrArg Array.toList Try.results7) (by simp) (by kernel_rfl) [] (exts := []) rfl rfl ?_
  simp only [go_sem, ↓reduceIte, reduceCtorEq, Nat.reduceEqDiff, Nat.reduceAdd, Nat.reduceSub, Nat.reduceMul, Nat.reduceLT, Nat.reduceLeDiff, Int.reduceLT, Int.reduceLE, Int.reduceEq, Int.reduceNe, Int.reduceToNat, Int.reduceAdd, Int.reduceSub, Int.reduceMul, Int.natCast_zero]
  simp only [decide_eq_decide]
  omega

/-- ref23.SameInts -/
theorem sameInts_den (a b : List Int) (ha : big a.length) (hb : big b.length) : Den Try.prog 12 [.vs (a.map i1), .vs (b.map i1)] [] (.bool (decide (a = b))) [] [] := by
  refine den_of Try.mixed Try.func12 rfl Try.call12 Try.ntmps12 (congrArg Array.toList Try.results12) (by simp) (by kernel_rfl) [] (exts := []) rfl rfl ?_
  simp only [go_sem, ↓reduceIte, reduceCtorEq, Nat.reduceEqDiff, Nat.reduceAdd, Nat.reduceSub, Nat.reduceMul, Nat.reduceLT, Nat.reduceLeDiff, Int.reduceLT, Int.reduceLE, Int.reduceEq, Int.reduceNe, Int.reduceToNat, Int.reduceAdd, Int.reduceSub, Int.reduceMul, Int.natCast_zero]
  refine ⟨fun h => ?_, fun h => ?_⟩
  · have : ¬ a = b := fun e => h (by rw [e])
    simp [this]
  have hlen : a.length = b.length := by omega
  refine loop Try.mixed 0 (fun i : Nat => [(0, .vs (a.map i1)), (1, .vs (b.map i1)), (5, .int .i64 i)]) (fun _ => []) (fun i => i ≤ a.length ∧ ∀ j, j < i → el a j = el b j) (fun i => a.length - i) (by kernel_rfl) ?_ ?_ ?_
  · simp
  · simp only [go_sem, ↓reduceIte, reduceCtorEq, Nat.reduceEqDiff, Nat.reduceAdd, Nat.reduceSub, Nat.reduceMul, Nat.reduceLT, Nat.reduceLeDiff, Int.reduceLT, Int.reduceLE, Int.reduceEq, Int.reduceNe, Int.reduceToNat, Int.reduceAdd, Int.reduceSub, Int.reduceMul, Int.natCast_zero]
  · intro i ⟨hi, hn⟩
    simp only [go_sem, ↓reduceIte, reduceCtorEq, Nat.reduceEqDiff, Nat.reduceAdd, Nat.reduceSub, Nat.reduceMul, Nat.reduceLT, Nat.reduceLeDiff, Int.reduceLT, Int.reduceLE, Int.reduceEq, Int.reduceNe, Int.reduceToNat, Int.reduceAdd, Int.reduceSub, Int.reduceMul, Int.natCast_zero]
    refine ⟨fun h => ⟨by omega, by omega, okD_of (by kernel_rfl), fun e => ?_, fun e => ⟨i + 1, ⟨⟨by omega, fun j hj => ?_⟩, by omega⟩, ?_⟩⟩, fun h => ?_⟩
    · have : ¬ a = b := fun e' => e (by rw [e'])
      simp [this]
    · rcases Nat.lt_succ_iff_lt_or_eq.1 hj with h' | h'
      · exact hn j h'
      · rw [h']; exact e
    · rw [wrapI] <;> omega
    · have : a = b := by
        apply List.ext_getElem hlen
        intro j h1 h2
        have := hn j (by omega)
        simpa [el, List.getD_eq_getElem?_getD, h1, h2] using this
      simp [this]

/-- The keys from 0 to 63 that are chosen. -/
def keysW (c : Int → Bool) (n : Nat) : List Int := ((List.range n).map fun i : Nat => (i : Int)).filter c
theorem keysW_succ (c : Int → Bool) (n : Nat) : keysW c (n + 1) = keysW c n ++ (if c n then [(n : Int)] else []) := by
  simp only [keysW, List.range_succ, List.map_append, List.filter_append, List.map_cons, List.map_nil, List.filter_cons, List.filter_nil]
theorem keysW_len (c : Int → Bool) : ∀ n, (keysW c n).length ≤ n := fun n => by
  have := List.length_filter_le c ((List.range n).map fun i : Nat => (i : Int))
  simpa [keysW] using this
theorem mem_keysW {c : Int → Bool} {n : Nat} {x : Int} : x ∈ keysW c n ↔ (0 ≤ x ∧ x < n) ∧ c x = true := by
  simp only [keysW, List.mem_filter, List.mem_map, List.mem_range]
  constructor
  · rintro ⟨⟨i, h1, rfl⟩, h2⟩; exact ⟨⟨by omega, by omega⟩, h2⟩
  · rintro ⟨⟨h0, h1⟩, h2⟩; exact ⟨⟨x.toNat, by omega, by omega⟩, h2⟩

theorem join_den (a b : List Int) (ha : big a.length) (hb : big b.length) : Den Try.prog 16 [.vs (a.map i1), .vs (b.map i1)] [] (.os 0 (keysW (fun k => decide (k ∈ a) || decide (k ∈ b)) 64).length) [.arr 3 1 false ((keysW (fun k => decide (k ∈ a) || decide (k ∈ b)) 64).map i1)] [] := by
  refine den_of Try.mixed Try.func16 rfl Try.call16 Try.ntmps16 (congrArg Array.toList Try.results16) (by simp) (by kernel_rfl) [99] (exts := []) rfl rfl ?_
  simp only [go_sem, ↓reduceIte, reduceCtorEq, Nat.reduceEqDiff, Nat.reduceAdd, Nat.reduceSub, Nat.reduceMul, Nat.reduceLT, Nat.reduceLeDiff, Int.reduceLT, Int.reduceLE, Int.reduceEq, Int.reduceNe, Int.reduceToNat, Int.reduceAdd, Int.reduceSub, Int.reduceMul, Int.natCast_zero]
  generalize hc : (fun k => decide (k ∈ a) || decide (k ∈ b)) = c
  have hc' : ∀ k, c k = (decide (k ∈ a) || decide (k ∈ b)) := fun k => by rw [← hc]
  refine promote 5 99 3 1 false ?_ ?_ ?_ (by omega)
  · simp only [go_sem, ↓reduceIte, reduceCtorEq, Nat.reduceEqDiff, Nat.reduceAdd, Nat.reduceSub, Nat.reduceMul, Nat.reduceLT, Nat.reduceLeDiff, Int.reduceLT, Int.reduceLE, Int.reduceEq, Int.reduceNe, Int.reduceToNat, Int.reduceAdd, Int.reduceSub, Int.reduceMul, Int.natCast_zero]
    refine loop Try.mixed 0 (fun i : Nat => [(0, .vs (a.map i1)), (1, .vs (b.map i1)), (5, .os 99 (keysW c i).length), (6, .int .i64 i)]) (fun i => [(99, .arr 3 1 false ((keysW c i).map i1))]) (fun i => i ≤ 64) (fun i => 64 - i) (by kernel_rfl) ?_ ?_ ?_
    · simp
    · simp only [keysW, List.range_zero, List.map_nil, List.filter_nil]
      simp only [go_sem, ↓reduceIte, reduceCtorEq, Nat.reduceEqDiff, Nat.reduceAdd, Nat.reduceSub, Nat.reduceMul, Nat.reduceLT, Nat.reduceLeDiff, Int.reduceLT, Int.reduceLE, Int.reduceEq, Int.reduceNe, Int.reduceToNat, Int.reduceAdd, Int.reduceSub, Int.reduceMul, Int.natCast_zero]
    · intro i hi
      have hl := keysW_len c i
      simp only [go_sem, ↓reduceIte, reduceCtorEq, Nat.reduceEqDiff, Nat.reduceAdd, Nat.reduceSub, Nat.reduceMul, Nat.reduceLT, Nat.reduceLeDiff, Int.reduceLT, Int.reduceLE, Int.reduceEq, Int.reduceNe, Int.reduceToNat, Int.reduceAdd, Int.reduceSub, Int.reduceMul, Int.natCast_zero]
      have hs := keysW_succ c i
      rw [hc'] at hs
      refine ⟨fun h => call (has24 a i ha) [] ?_, fun h => ?_⟩
      · simp only [go_sem, ↓reduceIte, reduceCtorEq, Nat.reduceEqDiff, Nat.reduceAdd, Nat.reduceSub, Nat.reduceMul, Nat.reduceLT, Nat.reduceLeDiff, Int.reduceLT, Int.reduceLE, Int.reduceEq, Int.reduceNe, Int.reduceToNat, Int.reduceAdd, Int.reduceSub, Int.reduceMul, Int.natCast_zero]
        have fin : ∀ t : Bool, (decide ((i : Int) ∈ a) || decide ((i : Int) ∈ b)) = t → keysW c (i + 1) = keysW c i ++ (if t then [(i : Int)] else []) := fun t ht => by rw [hs, ht]
        refine ⟨fun h1 => call (has24 b i hb) [] ?_, fun h1 => ?_⟩
        · simp only [go_sem, ↓reduceIte, reduceCtorEq, Nat.reduceEqDiff, Nat.reduceAdd, Nat.reduceSub, Nat.reduceMul, Nat.reduceLT, Nat.reduceLeDiff, Int.reduceLT, Int.reduceLE, Int.reduceEq, Int.reduceNe, Int.reduceToNat, Int.reduceAdd, Int.reduceSub, Int.reduceMul, Int.natCast_zero]
          refine ⟨fun h2 => ?_, fun h2 => ?_⟩
          · have := fin true (by simp [h2])
            refine ⟨by omega, i + 1, ⟨by omega, by omega⟩, ?_⟩
            simp only [go_sem, ↓reduceIte, reduceCtorEq, Nat.reduceEqDiff, Nat.reduceAdd, Nat.reduceSub, Nat.reduceMul, Nat.reduceLT, Nat.reduceLeDiff, Int.reduceLT, Int.reduceLE, Int.reduceEq, Int.reduceNe, Int.reduceToNat, Int.reduceAdd, Int.reduceSub, Int.reduceMul, Int.natCast_zero, this, List.map_append, List.length_append]
            rw [wrapI] <;> omega
          · have := fin false (by simp [h1, h2])
            refine ⟨i + 1, ⟨by omega, by omega⟩, ?_⟩
            simp only [go_sem, ↓reduceIte, reduceCtorEq, Nat.reduceEqDiff, Nat.reduceAdd, Nat.reduceSub, Nat.reduceMul, Nat.reduceLT, Nat.reduceLeDiff, Int.reduceLT, Int.reduceLE, Int.reduceEq, Int.reduceNe, Int.reduceToNat, Int.reduceAdd, Int.reduceSub, Int.reduceMul, Int.natCast_zero, this, List.map_append, List.length_append]
            rw [wrapI] <;> omega
        · have := fin true (by simp [h1])
          refine ⟨by omega, i + 1, ⟨by omega, by omega⟩, ?_⟩
          simp only [go_sem, ↓reduceIte, reduceCtorEq, Nat.reduceEqDiff, Nat.reduceAdd, Nat.reduceSub, Nat.reduceMul, Nat.reduceLT, Nat.reduceLeDiff, Int.reduceLT, Int.reduceLE, Int.reduceEq, Int.reduceNe, Int.reduceToNat, Int.reduceAdd, Int.reduceSub, Int.reduceMul, Int.natCast_zero, this, List.map_append, List.length_append]
          rw [wrapI] <;> omega
      · have : i = 64 := by omega
        subst this
        simp only [go_sem, ↓reduceIte, reduceCtorEq, Nat.reduceEqDiff, Nat.reduceAdd, Nat.reduceSub, Nat.reduceMul, Nat.reduceLT, Nat.reduceLeDiff, Int.reduceLT, Int.reduceLE, Int.reduceEq, Int.reduceNe, Int.reduceToNat, Int.reduceAdd, Int.reduceSub, Int.reduceMul, Int.natCast_zero]
  · simp only [go_sem, ↓reduceIte, reduceCtorEq, Nat.reduceEqDiff, Nat.reduceAdd, Nat.reduceSub, Nat.reduceMul, Nat.reduceLT, Nat.reduceLeDiff, Int.reduceLT, Int.reduceLE, Int.reduceEq, Int.reduceNe, Int.reduceToNat, Int.reduceAdd, Int.reduceSub, Int.reduceMul, Int.natCast_zero]
  · simp only [go_sem, ↓reduceIte, reduceCtorEq, Nat.reduceEqDiff, Nat.reduceAdd, Nat.reduceSub, Nat.reduceMul, Nat.reduceLT, Nat.reduceLeDiff, Int.reduceLT, Int.reduceLE, Int.reduceEq, Int.reduceNe, Int.reduceToNat, Int.reduceAdd, Int.reduceSub, Int.reduceMul, Int.natCast_zero]

end Go.Proofs.Am
