/- AdmissionFirst. -/
import Derived.Test.YthcphdogfdghkaaB20
set_option linter.unusedSimpArgs false
set_option linter.unusedVariables false
namespace Go.Proofs.Am
open Go Go.RowKit
open Go.Proofs

theorem dsome_strict (l : List Int) : ∀ (n i p : Nat), (dsome l n i p).Pairwise (· < ·)
  | 0, _, _ => List.Pairwise.nil
  | n + 1, i, p => by
    rw [dsome, List.pairwise_append]
    refine ⟨by split <;> simp, dsome_strict l n (i + 1) (dpos l p), fun a ha b hb => ?_⟩
    have := (dsome_range l n (i + 1) (dpos l p) b hb).1
    split at ha
    · simp at ha; omega
    · simp at ha
theorem dkeys_strict (l : List Int) (n p : Nat) : (dkeys l n p).Pairwise (· < ·) := by
  unfold dkeys
  split
  · simp
  · exact dsome_strict l n 0 p

/-- The newcomers of an order without repetitions. -/
theorem newc_take (roster : List Int) (q : Nat) : ∀ (W out : List Int), W.Nodup → (∀ x ∈ W, x ∉ out) → out.length ≤ q → newc roster q W out = (out ++ W.filter fun k => !decide (k ∈ roster)).take q
  | [], out, _, _, hq => by simp [newc, List.take_of_length_le hq]
  | k :: W, out, hn, hd, hq => by
    obtain ⟨h1, h2⟩ := List.nodup_cons.1 hn
    rw [newc]
    by_cases hf : (q : Int) ≤ out.length
    · rw [if_pos hf]
      have : out.length = q := by omega
      rw [List.take_append_of_le_length (by omega), ← this, List.take_length]
    · rw [if_neg hf]
      have hko : k ∉ out := hd k (by simp)
      by_cases hk : k ∈ roster
      · rw [if_pos (.inl hk), newc_take roster q W out h2 (fun x hx => hd x (List.mem_cons_of_mem _ hx)) hq]
        simp [hk]
      · rw [if_neg (by simp [hk, hko]), newc_take roster q W (out ++ [k]) h2 (fun x hx => ?_) (by simp; omega)]
        · simp [hk]
        · simp only [List.mem_append, List.mem_singleton, not_or]
          exact ⟨hd x (List.mem_cons_of_mem _ hx), fun e => h1 (e ▸ hx)⟩
theorem newc_strict (roster W : List Int) (hW : W.Pairwise (· < ·)) : ∃ F : List Int, F.Pairwise (· < ·) ∧ F.length ≤ W.length ∧ ∀ q : Nat, newc roster q W [] = F.take q := by
  refine ⟨W.filter fun k => !decide (k ∈ roster), hW.filter _, List.length_filter_le _ _, fun q => ?_⟩
  rw [newc_take roster q W [] (hW.imp fun h => by omega) (by simp) (by simp)]
  rfl
theorem tm4 (n : Nat) : ((n : Nat) : Int).tmod 4 = ((n % 4 : Nat) : Int) := rfl

set_option maxHeartbeats 1000000 in
set_option maxRecDepth 100000 in
theorem first_den (l : List Int) (a b : Nat) (ha : a < 256) (hb : b < 256) : Den Try.prog 6 [.vs (l.map i1), .int .u8 a, .int .u8 b] [] (.bool true) [] [] := by
  refine den_of Try.mixed Try.func6 rfl Try.call6 Try.ntmps6 (congrArg Array.toList Try.results6) (by simp) (by kernel_rfl) [] (exts := []) rfl rfl ?_
  simp only [go_sem, ↓reduceIte, reduceCtorEq, Nat.reduceEqDiff, Nat.reduceAdd, Nat.reduceSub, Nat.reduceMul, Nat.reduceLT, Nat.reduceLeDiff, Int.reduceLT, Int.reduceLE, Int.reduceEq, Int.reduceNe, Int.reduceToNat, Int.reduceAdd, Int.reduceSub, Int.reduceMul, Int.natCast_zero]
  refine call (light_den l) [] ?_
  by_cases h1 : l.length ≤ 400
  · simp only [go_sem, ↓reduceIte, reduceCtorEq, Nat.reduceEqDiff, Nat.reduceAdd, Nat.reduceSub, Nat.reduceMul, Nat.reduceLT, Nat.reduceLeDiff, Int.reduceLT, Int.reduceLE, Int.reduceEq, Int.reduceNe, Int.reduceToNat, Int.reduceAdd, Int.reduceSub, Int.reduceMul, Int.natCast_zero, h1]
    have hl : big l.length := by simp only [big]; omega
    refine call (roll9 l) [] ?_
    simp only [go_sem, ↓reduceIte, reduceCtorEq, Nat.reduceEqDiff, Nat.reduceAdd, Nat.reduceSub, Nat.reduceMul, Nat.reduceLT, Nat.reduceLeDiff, Int.reduceLT, Int.reduceLE, Int.reduceEq, Int.reduceNe, Int.reduceToNat, Int.reduceAdd, Int.reduceSub, Int.reduceMul, Int.natCast_zero]
    refine call (keys_den l 0 12 hl (by omega) (by omega)) [22] ?_
    have hp1 := dkpos_le l 12 0 (by omega)
    have ho := dkeys_len l 12 0 (by omega)
    have hos := dkeys_strict l 12 0
    simp only [go_sem, ↓reduceIte, reduceCtorEq, Nat.reduceEqDiff, Nat.reduceAdd, Nat.reduceSub, Nat.reduceMul, Nat.reduceLT, Nat.reduceLeDiff, Int.reduceLT, Int.reduceLE, Int.reduceEq, Int.reduceNe, Int.reduceToNat, Int.reduceAdd, Int.reduceSub, Int.reduceMul, Int.natCast_zero]
    generalize dkeys l 12 0 = o at *
    generalize dkpos l 12 0 = p1 at *
    refine call (some_vs l p1 12 hl hp1 (by omega)) [22] ?_
    have hp2 := dskip_le l 12 p1 hp1
    have hr := dsome_len l 12 0 p1
    simp only [go_sem, ↓reduceIte, reduceCtorEq, Nat.reduceEqDiff, Nat.reduceAdd, Nat.reduceSub, Nat.reduceMul, Nat.reduceLT, Nat.reduceLeDiff, Int.reduceLT, Int.reduceLE, Int.reduceEq, Int.reduceNe, Int.reduceToNat, Int.reduceAdd, Int.reduceSub, Int.reduceMul, Int.natCast_zero]
    generalize dsome l 12 0 p1 = r at *
    generalize dskip l 12 p1 = p2 at *
    refine call (keys_den l p2 12 hl hp2 (by omega)) [22] ?_
    have hp3 := dkpos_le l 12 p2 hp2
    have hap := dkeys_len l 12 p2 (by omega)
    simp only [go_sem, ↓reduceIte, reduceCtorEq, Nat.reduceEqDiff, Nat.reduceAdd, Nat.reduceSub, Nat.reduceMul, Nat.reduceLT, Nat.reduceLeDiff, Int.reduceLT, Int.reduceLE, Int.reduceEq, Int.reduceNe, Int.reduceToNat, Int.reduceAdd, Int.reduceSub, Int.reduceMul, Int.natCast_zero]
    generalize dkeys l 12 p2 = ap at *
    generalize dkpos l 12 p2 = p3 at *
    refine call (some_vs l p3 12 hl hp3 (by omega)) [22] ?_
    have hrf := dsome_len l 12 0 p3
    simp only [go_sem, ↓reduceIte, reduceCtorEq, Nat.reduceEqDiff, Nat.reduceAdd, Nat.reduceSub, Nat.reduceMul, Nat.reduceLT, Nat.reduceLeDiff, Int.reduceLT, Int.reduceLE, Int.reduceEq, Int.reduceNe, Int.reduceToNat, Int.reduceAdd, Int.reduceSub, Int.reduceMul, Int.natCast_zero]
    generalize dsome l 12 0 p3 = rf at *
    have wa : IntKind.i64.wrap (a : Int) = (a : Int) := by rw [wrapI] <;> omega
    have wb : IntKind.i64.wrap (b : Int) = (b : Int) := by rw [wrapI] <;> omega
    have ws : IntKind.i64.wrap (((a % 4 : Nat) : Int) + ((b % 4 : Nat) : Int)) = ((a % 4 + b % 4 : Nat) : Int) := by rw [wrapI] <;> omega
    simp only [go_sem, ↓reduceIte, reduceCtorEq, Nat.reduceEqDiff, Nat.reduceAdd, Nat.reduceSub, Nat.reduceMul, Nat.reduceLT, Nat.reduceLeDiff, Int.reduceLT, Int.reduceLE, Int.reduceEq, Int.reduceNe, Int.reduceToNat, Int.reduceAdd, Int.reduceSub, Int.reduceMul, Int.natCast_zero, wa, wb, tm4, ws]
    have wl : (want ap rf o).length ≤ o.length := List.length_filter_le _ _
    obtain ⟨F, hF, hFl, hq⟩ := newc_strict r (want ap rf o) (hos.filter _)
    refine call (admit_den o r ap rf (a % 4 : Nat) (by omega) (by simp only [big]; omega) (by simp only [big]; omega) (by simp only [big]; omega)) [] ?_
    rw [hq]
    simp only [go_sem, ↓reduceIte, reduceCtorEq, Nat.reduceEqDiff, Nat.reduceAdd, Nat.reduceSub, Nat.reduceMul, Nat.reduceLT, Nat.reduceLeDiff, Int.reduceLT, Int.reduceLE, Int.reduceEq, Int.reduceNe, Int.reduceToNat, Int.reduceAdd, Int.reduceSub, Int.reduceMul, Int.natCast_zero]
    refine call (admit_den o r ap rf (a % 4 + b % 4 : Nat) (by omega) (by simp only [big]; omega) (by simp only [big]; omega) (by simp only [big]; omega)) [] ?_
    rw [hq]
    have hX : F.take (a % 4) = (F.take (a % 4 + b % 4)).take (F.take (a % 4)).length := by
      rw [List.take_take, List.length_take]
      by_cases h : a % 4 ≤ F.length
      · rw [show min (min (a % 4) F.length) (a % 4 + b % 4) = a % 4 by omega]
      · rw [List.take_of_length_le (by omega), show min (min (a % 4) F.length) (a % 4 + b % 4) = F.length by omega, List.take_length]
    have hXY : (F.take (a % 4)).length ≤ (F.take (a % 4 + b % 4)).length := by simp; omega
    have hXm : (F.take (a % 4)).length < (F.take (a % 4 + b % 4)).length → (F.take (a % 4)).length = a % 4 := by simp; omega
    have hY : (F.take (a % 4 + b % 4)).Pairwise (· < ·) := hF.take
    have hYl : (F.take (a % 4 + b % 4)).length ≤ 1000 := by simp; omega
    generalize F.take (a % 4 + b % 4) = Y at *
    generalize F.take (a % 4) = X at *
    generalize a % 4 = m at *
    have g1 : ¬ (Y.length : Int) < (X.length : Int) := by omega
    simp only [go_sem, ↓reduceIte, reduceCtorEq, Nat.reduceEqDiff, Nat.reduceAdd, Nat.reduceSub, Nat.reduceMul, Nat.reduceLT, Nat.reduceLeDiff, Int.reduceLT, Int.reduceLE, Int.reduceEq, Int.reduceNe, Int.reduceToNat, Int.reduceAdd, Int.reduceSub, Int.reduceMul, Int.natCast_zero, g1]
    refine ⟨⟨by omega, by omega⟩, ?_⟩
    rw [← hX]
    refine call (sameInts_den X X (by simp only [big]; omega) (by simp only [big]; omega)) [] ?_
    by_cases g2 : (X.length : Int) < (Y.length : Int)
    · have g3 : (X.length : Int) = (m : Int) := by have := hXm (by omega); omega
      have g4 : m < Y.length := by omega
      simp only [go_sem, ↓reduceIte, reduceCtorEq, Nat.reduceEqDiff, Nat.reduceAdd, Nat.reduceSub, Nat.reduceMul, Nat.reduceLT, Nat.reduceLeDiff, Int.reduceLT, Int.reduceLE, Int.reduceEq, Int.reduceNe, Int.reduceToNat, Int.reduceAdd, Int.reduceSub, Int.reduceMul, Int.natCast_zero, g4, g3]
      refine loop Try.mixed 1 (fun i : Nat => [(15, .vs (Y.map i1)), (16, .int .i64 i)]) (fun i => []) (fun i => 1 ≤ i ∧ (i ≤ Y.length ∨ i = 1)) (fun i => Y.length - i) (by kernel_rfl) ?_ ?_ ?_
      · simp
      · simp only [go_sem, ↓reduceIte, reduceCtorEq, Nat.reduceEqDiff, Nat.reduceAdd, Nat.reduceSub, Nat.reduceMul, Nat.reduceLT, Nat.reduceLeDiff, Int.reduceLT, Int.reduceLE, Int.reduceEq, Int.reduceNe, Int.reduceToNat, Int.reduceAdd, Int.reduceSub, Int.reduceMul, Int.natCast_zero]
      · rintro i ⟨hi1, hi2⟩
        by_cases hi' : i < Y.length
        · have hlt : (i : Int) < (Y.length : Int) := by omega
          have e1 : IntKind.i64.wrap ((i : Int) - 1) = ((i - 1 : Nat) : Int) := by rw [wrapI] <;> omega
          have e2 : i - 1 < Y.length := by omega
          have e3 : ¬ el Y i ≤ el Y (i - 1) := by
            have := List.pairwise_iff_getElem.1 hY (i - 1) i (by omega) hi' (by omega)
            rw [el_get Y i hi', el_get Y (i - 1) (by omega)]
            omega
          simp only [go_sem, ↓reduceIte, reduceCtorEq, Nat.reduceEqDiff, Nat.reduceAdd, Nat.reduceSub, Nat.reduceMul, Nat.reduceLT, Nat.reduceLeDiff, Int.reduceLT, Int.reduceLE, Int.reduceEq, Int.reduceNe, Int.reduceToNat, Int.reduceAdd, Int.reduceSub, Int.reduceMul, Int.natCast_zero, hlt, hi', e1, e2, e3]
          exact ⟨okD_of (by kernel_rfl), i + 1, ⟨⟨by omega, by omega⟩, by omega⟩, by rw [wrapI] <;> omega⟩
        · have hlt : ¬ (i : Int) < (Y.length : Int) := by omega
          simp only [go_sem, ↓reduceIte, reduceCtorEq, Nat.reduceEqDiff, Nat.reduceAdd, Nat.reduceSub, Nat.reduceMul, Nat.reduceLT, Nat.reduceLeDiff, Int.reduceLT, Int.reduceLE, Int.reduceEq, Int.reduceNe, Int.reduceToNat, Int.reduceAdd, Int.reduceSub, Int.reduceMul, Int.natCast_zero, hlt]
          refine call awake_den [] ?_
          simp only [go_sem, ↓reduceIte, reduceCtorEq, Nat.reduceEqDiff, Nat.reduceAdd, Nat.reduceSub, Nat.reduceMul, Nat.reduceLT, Nat.reduceLeDiff, Int.reduceLT, Int.reduceLE, Int.reduceEq, Int.reduceNe, Int.reduceToNat, Int.reduceAdd, Int.reduceSub, Int.reduceMul, Int.natCast_zero]
    · simp only [go_sem, ↓reduceIte, reduceCtorEq, Nat.reduceEqDiff, Nat.reduceAdd, Nat.reduceSub, Nat.reduceMul, Nat.reduceLT, Nat.reduceLeDiff, Int.reduceLT, Int.reduceLE, Int.reduceEq, Int.reduceNe, Int.reduceToNat, Int.reduceAdd, Int.reduceSub, Int.reduceMul, Int.natCast_zero, g2]
      refine loop Try.mixed 1 (fun i : Nat => [(15, .vs (Y.map i1)), (16, .int .i64 i)]) (fun i => []) (fun i => 1 ≤ i ∧ (i ≤ Y.length ∨ i = 1)) (fun i => Y.length - i) (by kernel_rfl) ?_ ?_ ?_
      · simp
      · simp only [go_sem, ↓reduceIte, reduceCtorEq, Nat.reduceEqDiff, Nat.reduceAdd, Nat.reduceSub, Nat.reduceMul, Nat.reduceLT, Nat.reduceLeDiff, Int.reduceLT, Int.reduceLE, Int.reduceEq, Int.reduceNe, Int.reduceToNat, Int.reduceAdd, Int.reduceSub, Int.reduceMul, Int.natCast_zero]
      · rintro i ⟨hi1, hi2⟩
        by_cases hi' : i < Y.length
        · have hlt : (i : Int) < (Y.length : Int) := by omega
          have e1 : IntKind.i64.wrap ((i : Int) - 1) = ((i - 1 : Nat) : Int) := by rw [wrapI] <;> omega
          have e2 : i - 1 < Y.length := by omega
          have e3 : ¬ el Y i ≤ el Y (i - 1) := by
            have := List.pairwise_iff_getElem.1 hY (i - 1) i (by omega) hi' (by omega)
            rw [el_get Y i hi', el_get Y (i - 1) (by omega)]
            omega
          simp only [go_sem, ↓reduceIte, reduceCtorEq, Nat.reduceEqDiff, Nat.reduceAdd, Nat.reduceSub, Nat.reduceMul, Nat.reduceLT, Nat.reduceLeDiff, Int.reduceLT, Int.reduceLE, Int.reduceEq, Int.reduceNe, Int.reduceToNat, Int.reduceAdd, Int.reduceSub, Int.reduceMul, Int.natCast_zero, hlt, hi', e1, e2, e3]
          exact ⟨okD_of (by kernel_rfl), i + 1, ⟨⟨by omega, by omega⟩, by omega⟩, by rw [wrapI] <;> omega⟩
        · have hlt : ¬ (i : Int) < (Y.length : Int) := by omega
          simp only [go_sem, ↓reduceIte, reduceCtorEq, Nat.reduceEqDiff, Nat.reduceAdd, Nat.reduceSub, Nat.reduceMul, Nat.reduceLT, Nat.reduceLeDiff, Int.reduceLT, Int.reduceLE, Int.reduceEq, Int.reduceNe, Int.reduceToNat, Int.reduceAdd, Int.reduceSub, Int.reduceMul, Int.natCast_zero, hlt]
          refine call awake_den [] ?_
          simp only [go_sem, ↓reduceIte, reduceCtorEq, Nat.reduceEqDiff, Nat.reduceAdd, Nat.reduceSub, Nat.reduceMul, Nat.reduceLT, Nat.reduceLeDiff, Int.reduceLT, Int.reduceLE, Int.reduceEq, Int.reduceNe, Int.reduceToNat, Int.reduceAdd, Int.reduceSub, Int.reduceMul, Int.natCast_zero]
  · simp only [go_sem, ↓reduceIte, reduceCtorEq, Nat.reduceEqDiff, Nat.reduceAdd, Nat.reduceSub, Nat.reduceMul, Nat.reduceLT, Nat.reduceLeDiff, Int.reduceLT, Int.reduceLE, Int.reduceEq, Int.reduceNe, Int.reduceToNat, Int.reduceAdd, Int.reduceSub, Int.reduceMul, Int.natCast_zero, h1]
    refine call awake_den [] ?_
    simp only [go_sem, ↓reduceIte, reduceCtorEq, Nat.reduceEqDiff, Nat.reduceAdd, Nat.reduceSub, Nat.reduceMul, Nat.reduceLT, Nat.reduceLeDiff, Int.reduceLT, Int.reduceLE, Int.reduceEq, Int.reduceNe, Int.reduceToNat, Int.reduceAdd, Int.reduceSub, Int.reduceMul, Int.natCast_zero]
end Go.Proofs.Am
