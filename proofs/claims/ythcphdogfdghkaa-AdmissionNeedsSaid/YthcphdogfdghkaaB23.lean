/- AdmissionNeeds. -/
import Derived.Test.YthcphdogfdghkaaB21
set_option linter.unusedSimpArgs false
set_option linter.unusedVariables false
namespace Go.Proofs.Am
open Go Go.RowKit
open Go.Proofs

/-- What the law asks. -/
theorem needs_law (order roster appl ref : List Int) (q : Nat) (k : Int) (hn : order.Nodup) (hr : ∀ x ∈ order, 0 ≤ x ∧ x < 12) :
    (newc roster q (want appl ref order) []).length ≤ q ∧
    (∀ i, i < (newc roster q (want appl ref order) []).length → el (newc roster q (want appl ref order) []) i ∈ order ∧ el (newc roster q (want appl ref order) []) i ∉ roster ∧ el (newc roster q (want appl ref order) []) i ∈ appl ∧ el (newc roster q (want appl ref order) []) i ∉ ref ∧ el (newc roster q (want appl ref order) []) i ∉ (newc roster q (want appl ref order) []).take i) ∧
    (∀ i, i < (newc roster q (want appl ref order) []).length → el (newc roster q (want appl ref order) []) i ≠ k → el (newc roster q (want appl ref order) []) i ∈ newc roster q (want appl (keysW (fun x => decide (x ∈ ref) || decide (x ∈ [k])) 64) order) []) ∧
    k ∉ newc roster q (want appl (keysW (fun x => decide (x ∈ ref) || decide (x ∈ [k])) 64) order) [] ∧
    (newc roster q (want appl ref order) []).length ≤ (newc roster q (want appl (keysW (fun x => decide (x ∈ ref) || decide (x ∈ [k])) 64) order) []).length + 1 ∧
    (newc roster q (want appl ref order) []).length ≤ order.length ∧
    (newc roster q (want appl (keysW (fun x => decide (x ∈ ref) || decide (x ∈ [k])) 64) order) []).length ≤ order.length := by
  have hw1 : (want appl ref order).Nodup := hn.filter _
  have hw2 : (want appl (keysW (fun x => decide (x ∈ ref) || decide (x ∈ [k])) 64) order).Nodup := hn.filter _
  rw [newc_take roster q (want appl ref order) [] hw1 (by simp) (by simp), newc_take roster q (want appl (keysW (fun x => decide (x ∈ ref) || decide (x ∈ [k])) 64) order) [] hw2 (by simp) (by simp)]
  simp only [List.nil_append]
  have hG : (want appl (keysW (fun x => decide (x ∈ ref) || decide (x ∈ [k])) 64) order).filter (fun x => !decide (x ∈ roster)) = ((want appl ref order).filter fun x => !decide (x ∈ roster)).filter fun x => !decide (x = k) := by
    simp only [want, List.filter_filter]
    apply List.filter_congr
    intro x hx
    have hx2 := hr x hx
    have : decide (x ∈ keysW (fun x => decide (x ∈ ref) || decide (x ∈ [k])) 64) = (decide (x ∈ ref) || decide (x = k)) := by
      rw [Bool.eq_iff_iff, decide_eq_true_eq, mem_keysW]
      simp only [Bool.or_eq_true, decide_eq_true_eq, List.mem_singleton]
      exact ⟨fun h => h.2, fun h => ⟨by omega, h⟩⟩
    rw [this]
    cases decide (x ∈ roster) <;> cases decide (x ∈ appl) <;> cases decide (x ∈ ref) <;> cases decide (x = k) <;> rfl
  rw [hG]
  have hF : ∀ x, x ∈ (want appl ref order).filter (fun x => !decide (x ∈ roster)) → x ∈ order ∧ x ∉ roster ∧ x ∈ appl ∧ x ∉ ref := fun x hx => by
    simp only [want, List.mem_filter, Bool.and_eq_true, decide_eq_true_eq, Bool.not_eq_true', decide_eq_false_iff_not] at hx
    exact ⟨hx.1.1, hx.2, hx.1.2.1, hx.1.2.2⟩
  have hFn : ((want appl ref order).filter fun x => !decide (x ∈ roster)).Nodup := hw1.filter _
  have hFl : ((want appl ref order).filter fun x => !decide (x ∈ roster)).length ≤ order.length := Nat.le_trans (List.length_filter_le _ _) (List.length_filter_le _ _)
  generalize (want appl ref order).filter (fun x => !decide (x ∈ roster)) = F at *
  have hGl : F.length ≤ (F.filter fun x => !decide (x = k)).length + 1 := by
    clear hFl hF hG
    induction F with
    | nil => simp
    | cons y F ih =>
      obtain ⟨h1, h2⟩ := List.nodup_cons.1 hFn
      by_cases hy : y = k
      · subst hy
        have : F.filter (fun x => !decide (x = y)) = F := List.filter_eq_self.2 fun x hx => by
          have : x ≠ y := fun e => h1 (e ▸ hx)
          simp [this]
        simp [this]
      · have := ih h2
        simp [hy]
        omega
  have hGl2 : (F.filter fun x => !decide (x = k)).length ≤ F.length := List.length_filter_le _ _
  refine ⟨by simp; omega, fun i hi => ?_, fun i hi hik => ?_, ?_, by simp; omega, by simp; omega, by simp; omega⟩
  · have hm := el_mem (F.take q) i hi
    obtain ⟨h1, h2, h3, h4⟩ := hF _ (List.mem_of_mem_take hm)
    refine ⟨h1, h2, h3, h4, fun h5 => ?_⟩
    obtain ⟨j, hj, he⟩ := List.getElem_of_mem h5
    have hnd := (List.take_sublist q F).nodup hFn
    rw [List.getElem_take, el_get _ i hi] at he
    have hj' : j < i := by simp at hj; omega
    have := (List.getElem_inj (h₀ := by omega) (h₁ := hi) hnd).1 he
    omega
  · have hm := el_mem (F.take q) i hi
    have hpre : (F.take q).filter (fun x => !decide (x = k)) <+: F.filter fun x => !decide (x = k) := by
      refine ⟨(F.drop q).filter fun x => !decide (x = k), ?_⟩
      rw [← List.filter_append, List.take_append_drop]
    have hmem : el (F.take q) i ∈ (F.take q).filter fun x => !decide (x = k) := List.mem_filter.2 ⟨hm, by simp [hik]⟩
    have hpl : ((F.take q).filter fun x => !decide (x = k)).length ≤ q := Nat.le_trans (List.length_filter_le _ _) (by simp; omega)
    obtain ⟨t, ht⟩ := hpre
    rw [← ht, List.take_append, List.take_of_length_le hpl]
    exact List.mem_append_left _ hmem
  · intro h
    have := List.mem_of_mem_take h
    simp at this

set_option maxHeartbeats 1000000 in
set_option maxRecDepth 100000 in
theorem needs_den (l : List Int) (who : Nat) (hwho : who < 256) : Den Try.prog 4 [.vs (l.map i1), .int .u8 who] [] (.bool true) [] [] := by
  refine den_of Try.mixed Try.func4 rfl Try.call4 Try.ntmps4 (congrArg Array.toList Try.results4) (by simp) (by kernel_rfl) [] (exts := []) rfl rfl ?_
  simp only [go_sem, ↓reduceIte, reduceCtorEq, Nat.reduceEqDiff, Nat.reduceAdd, Nat.reduceSub, Nat.reduceMul, Nat.reduceLT, Nat.reduceLeDiff, Int.reduceLT, Int.reduceLE, Int.reduceEq, Int.reduceNe, Int.reduceToNat, Int.reduceAdd, Int.reduceSub, Int.reduceMul, Int.natCast_zero]
  refine call (light_den l) [] ?_
  by_cases h1 : l.length ≤ 400
  · simp only [go_sem, ↓reduceIte, reduceCtorEq, Nat.reduceEqDiff, Nat.reduceAdd, Nat.reduceSub, Nat.reduceMul, Nat.reduceLT, Nat.reduceLeDiff, Int.reduceLT, Int.reduceLE, Int.reduceEq, Int.reduceNe, Int.reduceToNat, Int.reduceAdd, Int.reduceSub, Int.reduceMul, Int.natCast_zero, h1]
    have hl : big l.length := by simp only [big]; omega
    refine call (roll9 l) [] ?_
    simp only [go_sem, ↓reduceIte, reduceCtorEq, Nat.reduceEqDiff, Nat.reduceAdd, Nat.reduceSub, Nat.reduceMul, Nat.reduceLT, Nat.reduceLeDiff, Int.reduceLT, Int.reduceLE, Int.reduceEq, Int.reduceNe, Int.reduceToNat, Int.reduceAdd, Int.reduceSub, Int.reduceMul, Int.natCast_zero]
    refine call (next_den l 0 10 hl (by omega) (by omega)) [23] ?_
    have hp0 : dpos l 0 ≤ l.length := dpos_le (by omega)
    have hc := dnext_lt (l := l) (p := 0) (n := 10) (by omega)
    obtain ⟨c, hcc⟩ : ∃ c : Nat, dnext l 0 10 = (c : Int) := ⟨(dnext l 0 10).toNat, by omega⟩
    rw [hcc] at hc ⊢
    generalize dpos l 0 = p0 at *
    simp only [go_sem, ↓reduceIte, reduceCtorEq, Nat.reduceEqDiff, Nat.reduceAdd, Nat.reduceSub, Nat.reduceMul, Nat.reduceLT, Nat.reduceLeDiff, Int.reduceLT, Int.reduceLE, Int.reduceEq, Int.reduceNe, Int.reduceToNat, Int.reduceAdd, Int.reduceSub, Int.reduceMul, Int.natCast_zero]
    refine promote 6 99 3 1 true ?_ ?_ ?_ (by omega)
    · refine loop Try.mixed ((0, p0, []) : Nat × Nat × List Int)
        (fun j => [(1, .int .u8 who), (5, .ptr 23 0), (6, .os 99 j.2.2.length), (7, .int .i64 ((c : Int) - (j.1 : Int)))])
        (fun j => [(23, dbox l j.2.1), (99, .arr 3 1 true (j.2.2.map i1))])
        (fun j => j.1 ≤ c ∧ j.2.1 ≤ l.length ∧ j.2.2.length ≤ j.1 ∧ j.2.2.Nodup ∧ ∀ x ∈ j.2.2, 0 ≤ x ∧ x < 12) (fun j => c - j.1) (by kernel_rfl) ?_ ?_ ?_
      · exact ⟨by simp, hp0, by simp, by simp, by simp⟩
      · simp only [go_sem, ↓reduceIte, reduceCtorEq, Nat.reduceEqDiff, Nat.reduceAdd, Nat.reduceSub, Nat.reduceMul, Nat.reduceLT, Nat.reduceLeDiff, Int.reduceLT, Int.reduceLE, Int.reduceEq, Int.reduceNe, Int.reduceToNat, Int.reduceAdd, Int.reduceSub, Int.reduceMul, Int.natCast_zero]
        omega
      · rintro ⟨j, p, o⟩ ⟨hj, hp, ho, hnd, hrg⟩
        simp only at hj hp ho hnd hrg
        by_cases hj' : j < c
        · have hlt : (0 : Int) < (c : Int) - (j : Int) := by omega
          have wj : IntKind.i64.wrap ((c : Int) - (j : Int) - 1) = (c : Int) - ((j + 1 : Nat) : Int) := by rw [wrapI] <;> omega
          simp only [go_sem, ↓reduceIte, reduceCtorEq, Nat.reduceEqDiff, Nat.reduceAdd, Nat.reduceSub, Nat.reduceMul, Nat.reduceLT, Nat.reduceLeDiff, Int.reduceLT, Int.reduceLE, Int.reduceEq, Int.reduceNe, Int.reduceToNat, Int.reduceAdd, Int.reduceSub, Int.reduceMul, Int.natCast_zero, hlt]
          refine call (next_den l p 12 hl hp (by omega)) [23] ?_
          have hp1 := dpos_le hp
          have hk := dnext_lt (l := l) (p := p) (n := 12) (by omega)
          simp only [go_sem, ↓reduceIte, reduceCtorEq, Nat.reduceEqDiff, Nat.reduceAdd, Nat.reduceSub, Nat.reduceMul, Nat.reduceLT, Nat.reduceLeDiff, Int.reduceLT, Int.reduceLE, Int.reduceEq, Int.reduceNe, Int.reduceToNat, Int.reduceAdd, Int.reduceSub, Int.reduceMul, Int.natCast_zero]
          generalize dnext l p 12 = k at *
          generalize dpos l p = p1 at *
          refine call (has24 o k (by simp only [big]; omega)) [] ?_
          by_cases h2 : k ∈ o
          · simp only [go_sem, ↓reduceIte, reduceCtorEq, Nat.reduceEqDiff, Nat.reduceAdd, Nat.reduceSub, Nat.reduceMul, Nat.reduceLT, Nat.reduceLeDiff, Int.reduceLT, Int.reduceLE, Int.reduceEq, Int.reduceNe, Int.reduceToNat, Int.reduceAdd, Int.reduceSub, Int.reduceMul, Int.natCast_zero, h2]
            refine ⟨(j + 1, p1, o), ⟨⟨by simp only; omega, hp1, by simp; omega, hnd, hrg⟩, by simp only; omega⟩, ?_⟩
            simp only [go_sem, ↓reduceIte, reduceCtorEq, Nat.reduceEqDiff, Nat.reduceAdd, Nat.reduceSub, Nat.reduceMul, Nat.reduceLT, Nat.reduceLeDiff, Int.reduceLT, Int.reduceLE, Int.reduceEq, Int.reduceNe, Int.reduceToNat, Int.reduceAdd, Int.reduceSub, Int.reduceMul, Int.natCast_zero, wj]
          · simp only [go_sem, ↓reduceIte, reduceCtorEq, Nat.reduceEqDiff, Nat.reduceAdd, Nat.reduceSub, Nat.reduceMul, Nat.reduceLT, Nat.reduceLeDiff, Int.reduceLT, Int.reduceLE, Int.reduceEq, Int.reduceNe, Int.reduceToNat, Int.reduceAdd, Int.reduceSub, Int.reduceMul, Int.natCast_zero, h2]
            refine ⟨by omega, (j + 1, p1, o ++ [k]), ⟨⟨by simp only; omega, hp1, by simp; omega, ?_, fun x hx => ?_⟩, by simp only; omega⟩, ?_⟩
            · simp only
              rw [List.nodup_append]
              refine ⟨hnd, by simp, fun a ha b hb => ?_⟩
              simp at hb
              subst hb
              exact fun e => h2 (e ▸ ha)
            · rcases List.mem_append.1 hx with h | h
              · exact hrg x h
              · simp at h; omega
            · simp only [go_sem, ↓reduceIte, reduceCtorEq, Nat.reduceEqDiff, Nat.reduceAdd, Nat.reduceSub, Nat.reduceMul, Nat.reduceLT, Nat.reduceLeDiff, Int.reduceLT, Int.reduceLE, Int.reduceEq, Int.reduceNe, Int.reduceToNat, Int.reduceAdd, Int.reduceSub, Int.reduceMul, Int.natCast_zero, wj, List.map_append, List.length_append]
        · have hlt : ¬ (0 : Int) < (c : Int) - (j : Int) := by omega
          simp only [go_sem, ↓reduceIte, reduceCtorEq, Nat.reduceEqDiff, Nat.reduceAdd, Nat.reduceSub, Nat.reduceMul, Nat.reduceLT, Nat.reduceLeDiff, Int.reduceLT, Int.reduceLE, Int.reduceEq, Int.reduceNe, Int.reduceToNat, Int.reduceAdd, Int.reduceSub, Int.reduceMul, Int.natCast_zero, hlt]
          refine call (some_vs l p 12 hl hp (by omega)) [23] ?_
          have hp1 := dskip_le l 12 p hp
          have hs1 := dsome_len l 12 0 p
          simp only [go_sem, ↓reduceIte, reduceCtorEq, Nat.reduceEqDiff, Nat.reduceAdd, Nat.reduceSub, Nat.reduceMul, Nat.reduceLT, Nat.reduceLeDiff, Int.reduceLT, Int.reduceLE, Int.reduceEq, Int.reduceNe, Int.reduceToNat, Int.reduceAdd, Int.reduceSub, Int.reduceMul, Int.natCast_zero]
          generalize dsome l 12 0 p = r at *
          generalize dskip l 12 p = p1 at *
          refine call (some_vs l p1 12 hl hp1 (by omega)) [23] ?_
          have hp2 := dskip_le l 12 p1 hp1
          have hs2 := dsome_len l 12 0 p1
          simp only [go_sem, ↓reduceIte, reduceCtorEq, Nat.reduceEqDiff, Nat.reduceAdd, Nat.reduceSub, Nat.reduceMul, Nat.reduceLT, Nat.reduceLeDiff, Int.reduceLT, Int.reduceLE, Int.reduceEq, Int.reduceNe, Int.reduceToNat, Int.reduceAdd, Int.reduceSub, Int.reduceMul, Int.natCast_zero]
          generalize dsome l 12 0 p1 = ap at *
          generalize dskip l 12 p1 = p2 at *
          refine call (some_vs l p2 12 hl hp2 (by omega)) [23] ?_
          have hp3 := dskip_le l 12 p2 hp2
          have hs3 := dsome_len l 12 0 p2
          simp only [go_sem, ↓reduceIte, reduceCtorEq, Nat.reduceEqDiff, Nat.reduceAdd, Nat.reduceSub, Nat.reduceMul, Nat.reduceLT, Nat.reduceLeDiff, Int.reduceLT, Int.reduceLE, Int.reduceEq, Int.reduceNe, Int.reduceToNat, Int.reduceAdd, Int.reduceSub, Int.reduceMul, Int.natCast_zero]
          generalize dsome l 12 0 p2 = rf at *
          generalize dskip l 12 p2 = p3 at *
          refine call (next_den l p3 4 hl hp3 (by omega)) [23] ?_
          have hqr := dnext_lt (l := l) (p := p3) (n := 4) (by omega)
          obtain ⟨q, hq⟩ : ∃ q : Nat, dnext l p3 4 = (q : Int) := ⟨(dnext l p3 4).toNat, by omega⟩
          rw [hq] at hqr ⊢
          generalize dpos l p3 = p4 at *
          simp only [go_sem, ↓reduceIte, reduceCtorEq, Nat.reduceEqDiff, Nat.reduceAdd, Nat.reduceSub, Nat.reduceMul, Nat.reduceLT, Nat.reduceLeDiff, Int.reduceLT, Int.reduceLE, Int.reduceEq, Int.reduceNe, Int.reduceToNat, Int.reduceAdd, Int.reduceSub, Int.reduceMul, Int.natCast_zero]
          refine call (admit_den o r ap rf q (by omega) (by simp only [big]; omega) (by simp only [big]; omega) (by simp only [big]; omega)) [] ?_
          have law := needs_law o r ap rf q ((who % 12 : Nat) : Int) hnd hrg
          generalize hB : newc r q (want ap (keysW (fun x => decide (x ∈ rf) || decide (x ∈ [((who % 12 : Nat) : Int)])) 64) o) [] = B at *
          generalize newc r q (want ap rf o) [] = A at *
          obtain ⟨n1, n2, n3, n4, n5, n6, n7⟩ := law
          have g1 : ¬ (q : Int) < (A.length : Int) := by omega
          simp only [go_sem, ↓reduceIte, reduceCtorEq, Nat.reduceEqDiff, Nat.reduceAdd, Nat.reduceSub, Nat.reduceMul, Nat.reduceLT, Nat.reduceLeDiff, Int.reduceLT, Int.reduceLE, Int.reduceEq, Int.reduceNe, Int.reduceToNat, Int.reduceAdd, Int.reduceSub, Int.reduceMul, Int.natCast_zero, g1]
          refine loop Try.mixed 0 (fun i : Nat => [(1, .int .u8 who), (6, .vs (o.map i1)), (9, .vs (r.map i1)), (10, .vs (ap.map i1)), (11, .vs (rf.map i1)), (12, .int .i64 q), (13, .vs (A.map i1)), (14, .int .i64 i)]) (fun i => []) (fun i => i ≤ A.length) (fun i => A.length - i) (by kernel_rfl) ?_ ?_ ?_
          · simp
          · simp only [go_sem, ↓reduceIte, reduceCtorEq, Nat.reduceEqDiff, Nat.reduceAdd, Nat.reduceSub, Nat.reduceMul, Nat.reduceLT, Nat.reduceLeDiff, Int.reduceLT, Int.reduceLE, Int.reduceEq, Int.reduceNe, Int.reduceToNat, Int.reduceAdd, Int.reduceSub, Int.reduceMul, Int.natCast_zero]
          · intro i hi
            by_cases hi' : i < A.length
            · have hli : (i : Int) < (A.length : Int) := by omega
              obtain ⟨m1, m2, m3, m4, m5⟩ := n2 i hi'
              simp only [go_sem, ↓reduceIte, reduceCtorEq, Nat.reduceEqDiff, Nat.reduceAdd, Nat.reduceSub, Nat.reduceMul, Nat.reduceLT, Nat.reduceLeDiff, Int.reduceLT, Int.reduceLE, Int.reduceEq, Int.reduceNe, Int.reduceToNat, Int.reduceAdd, Int.reduceSub, Int.reduceMul, Int.natCast_zero, hli, hi']
              refine call (has24 o (el A i) (by simp only [big]; omega)) [] ?_
              simp only [go_sem, ↓reduceIte, reduceCtorEq, Nat.reduceEqDiff, Nat.reduceAdd, Nat.reduceSub, Nat.reduceMul, Nat.reduceLT, Nat.reduceLeDiff, Int.reduceLT, Int.reduceLE, Int.reduceEq, Int.reduceNe, Int.reduceToNat, Int.reduceAdd, Int.reduceSub, Int.reduceMul, Int.natCast_zero, m1, hi']
              (repeat refine And.intro (by first | omega | exact okD_of (by kernel_rfl)) ?_)
              refine call (has24 r (el A i) (by simp only [big]; omega)) [] ?_
              simp only [go_sem, ↓reduceIte, reduceCtorEq, Nat.reduceEqDiff, Nat.reduceAdd, Nat.reduceSub, Nat.reduceMul, Nat.reduceLT, Nat.reduceLeDiff, Int.reduceLT, Int.reduceLE, Int.reduceEq, Int.reduceNe, Int.reduceToNat, Int.reduceAdd, Int.reduceSub, Int.reduceMul, Int.natCast_zero, m2, hi']
              (repeat refine And.intro (by first | omega | exact okD_of (by kernel_rfl)) ?_)
              refine call (has24 ap (el A i) (by simp only [big]; omega)) [] ?_
              simp only [go_sem, ↓reduceIte, reduceCtorEq, Nat.reduceEqDiff, Nat.reduceAdd, Nat.reduceSub, Nat.reduceMul, Nat.reduceLT, Nat.reduceLeDiff, Int.reduceLT, Int.reduceLE, Int.reduceEq, Int.reduceNe, Int.reduceToNat, Int.reduceAdd, Int.reduceSub, Int.reduceMul, Int.natCast_zero, m3, hi']
              (repeat refine And.intro (by first | omega | exact okD_of (by kernel_rfl)) ?_)
              refine call (has24 rf (el A i) (by simp only [big]; omega)) [] ?_
              simp only [go_sem, ↓reduceIte, reduceCtorEq, Nat.reduceEqDiff, Nat.reduceAdd, Nat.reduceSub, Nat.reduceMul, Nat.reduceLT, Nat.reduceLeDiff, Int.reduceLT, Int.reduceLE, Int.reduceEq, Int.reduceNe, Int.reduceToNat, Int.reduceAdd, Int.reduceSub, Int.reduceMul, Int.natCast_zero, m4, hi']
              (repeat refine And.intro (by first | omega | exact okD_of (by kernel_rfl)) ?_)
              refine call (has24 (A.take i) (el A i) (by simp [big]; omega)) [] ?_
              simp only [go_sem, ↓reduceIte, reduceCtorEq, Nat.reduceEqDiff, Nat.reduceAdd, Nat.reduceSub, Nat.reduceMul, Nat.reduceLT, Nat.reduceLeDiff, Int.reduceLT, Int.reduceLE, Int.reduceEq, Int.reduceNe, Int.reduceToNat, Int.reduceAdd, Int.reduceSub, Int.reduceMul, Int.natCast_zero, m5]
              exact ⟨okD_of (by kernel_rfl), i + 1, ⟨by omega, by omega⟩, by rw [wrapI] <;> omega⟩
            · have hli : ¬ (i : Int) < (A.length : Int) := by omega
              have tw : ((who : Nat) : Int).tmod 12 = ((who % 12 : Nat) : Int) := rfl
              have ww : IntKind.i64.wrap (who : Int) = (who : Int) := by rw [wrapI] <;> omega
              simp only [go_sem, ↓reduceIte, reduceCtorEq, Nat.reduceEqDiff, Nat.reduceAdd, Nat.reduceSub, Nat.reduceMul, Nat.reduceLT, Nat.reduceLeDiff, Int.reduceLT, Int.reduceLE, Int.reduceEq, Int.reduceNe, Int.reduceToNat, Int.reduceAdd, Int.reduceSub, Int.reduceMul, Int.natCast_zero, hli, ww, tw]
              refine call (join_vs rf [((who % 12 : Nat) : Int)] (by simp only [big]; omega) (by simp [big])) [] ?_
              have hkl := keysW_len (fun x => decide (x ∈ rf) || decide (x ∈ [((who % 12 : Nat) : Int)])) 64
              have hadm := admit_den o r ap (keysW (fun x => decide (x ∈ rf) || decide (x ∈ [((who % 12 : Nat) : Int)])) 64) q (by omega) (by simp only [big]; omega) (by simp only [big]; omega) (by simp only [big]; omega)
              rw [hB] at hadm
              generalize keysW (fun x => decide (x ∈ rf) || decide (x ∈ [((who % 12 : Nat) : Int)])) 64 = K at *
              simp only [go_sem, ↓reduceIte, reduceCtorEq, Nat.reduceEqDiff, Nat.reduceAdd, Nat.reduceSub, Nat.reduceMul, Nat.reduceLT, Nat.reduceLeDiff, Int.reduceLT, Int.reduceLE, Int.reduceEq, Int.reduceNe, Int.reduceToNat, Int.reduceAdd, Int.reduceSub, Int.reduceMul, Int.natCast_zero]
              refine call hadm [] ?_
              generalize ((who % 12 : Nat) : Int) = k at *
              simp only [go_sem, ↓reduceIte, reduceCtorEq, Nat.reduceEqDiff, Nat.reduceAdd, Nat.reduceSub, Nat.reduceMul, Nat.reduceLT, Nat.reduceLeDiff, Int.reduceLT, Int.reduceLE, Int.reduceEq, Int.reduceNe, Int.reduceToNat, Int.reduceAdd, Int.reduceSub, Int.reduceMul, Int.natCast_zero]
              refine loop Try.mixed 0 (fun i : Nat => [(13, .vs (A.map i1)), (15, .int .i64 k), (16, .vs (B.map i1)), (17, .int .i64 i)]) (fun i => []) (fun i => i ≤ A.length) (fun i => A.length - i) (by kernel_rfl) ?_ ?_ ?_
              · simp
              · simp only [go_sem, ↓reduceIte, reduceCtorEq, Nat.reduceEqDiff, Nat.reduceAdd, Nat.reduceSub, Nat.reduceMul, Nat.reduceLT, Nat.reduceLeDiff, Int.reduceLT, Int.reduceLE, Int.reduceEq, Int.reduceNe, Int.reduceToNat, Int.reduceAdd, Int.reduceSub, Int.reduceMul, Int.natCast_zero]
              · intro i hi
                by_cases hi' : i < A.length
                · have hli : (i : Int) < (A.length : Int) := by omega
                  by_cases hk : el A i = k
                  · simp only [go_sem, ↓reduceIte, reduceCtorEq, Nat.reduceEqDiff, Nat.reduceAdd, Nat.reduceSub, Nat.reduceMul, Nat.reduceLT, Nat.reduceLeDiff, Int.reduceLT, Int.reduceLE, Int.reduceEq, Int.reduceNe, Int.reduceToNat, Int.reduceAdd, Int.reduceSub, Int.reduceMul, Int.natCast_zero, hli, hi', hk]
                    exact ⟨i + 1, ⟨by omega, by omega⟩, by rw [wrapI] <;> omega⟩
                  · have m := n3 i hi' hk
                    simp only [go_sem, ↓reduceIte, reduceCtorEq, Nat.reduceEqDiff, Nat.reduceAdd, Nat.reduceSub, Nat.reduceMul, Nat.reduceLT, Nat.reduceLeDiff, Int.reduceLT, Int.reduceLE, Int.reduceEq, Int.reduceNe, Int.reduceToNat, Int.reduceAdd, Int.reduceSub, Int.reduceMul, Int.natCast_zero, hli, hi', hk]
                    refine call (has24 B (el A i) (by simp only [big]; omega)) [] ?_
                    simp only [go_sem, ↓reduceIte, reduceCtorEq, Nat.reduceEqDiff, Nat.reduceAdd, Nat.reduceSub, Nat.reduceMul, Nat.reduceLT, Nat.reduceLeDiff, Int.reduceLT, Int.reduceLE, Int.reduceEq, Int.reduceNe, Int.reduceToNat, Int.reduceAdd, Int.reduceSub, Int.reduceMul, Int.natCast_zero, m]
                    exact ⟨i + 1, ⟨by omega, by omega⟩, by rw [wrapI] <;> omega⟩
                · have hli : ¬ (i : Int) < (A.length : Int) := by omega
                  simp only [go_sem, ↓reduceIte, reduceCtorEq, Nat.reduceEqDiff, Nat.reduceAdd, Nat.reduceSub, Nat.reduceMul, Nat.reduceLT, Nat.reduceLeDiff, Int.reduceLT, Int.reduceLE, Int.reduceEq, Int.reduceNe, Int.reduceToNat, Int.reduceAdd, Int.reduceSub, Int.reduceMul, Int.natCast_zero, hli]
                  refine call (has24 B k (by simp only [big]; omega)) [] ?_
                  have wl : IntKind.i64.wrap ((A.length : Int) - 1) = (A.length : Int) - 1 := by rw [wrapI] <;> omega
                  have gl : (A.length : Int) - 1 ≤ (B.length : Int) := by omega
                  simp only [go_sem, ↓reduceIte, reduceCtorEq, Nat.reduceEqDiff, Nat.reduceAdd, Nat.reduceSub, Nat.reduceMul, Nat.reduceLT, Nat.reduceLeDiff, Int.reduceLT, Int.reduceLE, Int.reduceEq, Int.reduceNe, Int.reduceToNat, Int.reduceAdd, Int.reduceSub, Int.reduceMul, Int.natCast_zero, n4, wl, gl]
                  refine call awake_den [] ?_
                  simp only [go_sem, ↓reduceIte, reduceCtorEq, Nat.reduceEqDiff, Nat.reduceAdd, Nat.reduceSub, Nat.reduceMul, Nat.reduceLT, Nat.reduceLeDiff, Int.reduceLT, Int.reduceLE, Int.reduceEq, Int.reduceNe, Int.reduceToNat, Int.reduceAdd, Int.reduceSub, Int.reduceMul, Int.natCast_zero]
    · simp only [go_sem, ↓reduceIte, reduceCtorEq, Nat.reduceEqDiff, Nat.reduceAdd, Nat.reduceSub, Nat.reduceMul, Nat.reduceLT, Nat.reduceLeDiff, Int.reduceLT, Int.reduceLE, Int.reduceEq, Int.reduceNe, Int.reduceToNat, Int.reduceAdd, Int.reduceSub, Int.reduceMul, Int.natCast_zero]
    · simp only [go_sem, ↓reduceIte, reduceCtorEq, Nat.reduceEqDiff, Nat.reduceAdd, Nat.reduceSub, Nat.reduceMul, Nat.reduceLT, Nat.reduceLeDiff, Int.reduceLT, Int.reduceLE, Int.reduceEq, Int.reduceNe, Int.reduceToNat, Int.reduceAdd, Int.reduceSub, Int.reduceMul, Int.natCast_zero]
  · simp only [go_sem, ↓reduceIte, reduceCtorEq, Nat.reduceEqDiff, Nat.reduceAdd, Nat.reduceSub, Nat.reduceMul, Nat.reduceLT, Nat.reduceLeDiff, Int.reduceLT, Int.reduceLE, Int.reduceEq, Int.reduceNe, Int.reduceToNat, Int.reduceAdd, Int.reduceSub, Int.reduceMul, Int.natCast_zero, h1]
    refine call awake_den [] ?_
    simp only [go_sem, ↓reduceIte, reduceCtorEq, Nat.reduceEqDiff, Nat.reduceAdd, Nat.reduceSub, Nat.reduceMul, Nat.reduceLT, Nat.reduceLeDiff, Int.reduceLT, Int.reduceLE, Int.reduceEq, Int.reduceNe, Int.reduceToNat, Int.reduceAdd, Int.reduceSub, Int.reduceMul, Int.natCast_zero]
end Go.Proofs.Am
