/- BallotUnion, walked. -/
import Derived.Test.YtabmciccahfjiaaGreatDoorEFour
set_option linter.unusedSimpArgs false
set_option linter.unusedVariables false
namespace Go.Proofs.Am
open Go Go.RowKit
open Go.Proofs

set_option maxHeartbeats 1000000 in
set_option maxRecDepth 100000 in
theorem union_den (l : List Int) : Den Tryz.prog 7 [.vs (l.map i1)] [] (.bool true) [] [] := by
  refine den_of Tryz.mixed Tryz.func7 rfl Tryz.call7 Tryz.ntmps7 (congrArg Array.toList Tryz.results7) (by simp) (by kernel_rfl) [] (exts := []) rfl rfl ?_
  by_cases h0 : l.length ≤ 400
  rotate_left
  · simp only [go_sem, ↓reduceIte, reduceCtorEq, Nat.reduceEqDiff, Nat.reduceAdd, Nat.reduceSub, Nat.reduceMul, Nat.reduceLT, Nat.reduceLeDiff, Int.reduceLT, Int.reduceLE, Int.reduceEq, Int.reduceNe, Int.reduceToNat, Int.reduceAdd, Int.reduceSub, Int.reduceMul, Int.natCast_zero]
    refine call (light_den l) [] ?_
    simp only [go_sem, ↓reduceIte, reduceCtorEq, Nat.reduceEqDiff, Nat.reduceAdd, Nat.reduceSub, Nat.reduceMul, Nat.reduceLT, Nat.reduceLeDiff, Int.reduceLT, Int.reduceLE, Int.reduceEq, Int.reduceNe, Int.reduceToNat, Int.reduceAdd, Int.reduceSub, Int.reduceMul, Int.natCast_zero, h0]
    refine call awake27_den [] ?_
    simp only [go_sem, ↓reduceIte, reduceCtorEq, Nat.reduceEqDiff, Nat.reduceAdd, Nat.reduceSub, Nat.reduceMul, Nat.reduceLT, Nat.reduceLeDiff, Int.reduceLT, Int.reduceLE, Int.reduceEq, Int.reduceNe, Int.reduceToNat, Int.reduceAdd, Int.reduceSub, Int.reduceMul, Int.natCast_zero]
  have hl : big l.length := by simp only [big]; omega
  simp only [go_sem, ↓reduceIte, reduceCtorEq, Nat.reduceEqDiff, Nat.reduceAdd, Nat.reduceSub, Nat.reduceMul, Nat.reduceLT, Nat.reduceLeDiff, Int.reduceLT, Int.reduceLE, Int.reduceEq, Int.reduceNe, Int.reduceToNat, Int.reduceAdd, Int.reduceSub, Int.reduceMul, Int.natCast_zero]
  refine call (light_den l) [] ?_
  simp only [go_sem, ↓reduceIte, reduceCtorEq, Nat.reduceEqDiff, Nat.reduceAdd, Nat.reduceSub, Nat.reduceMul, Nat.reduceLT, Nat.reduceLeDiff, Int.reduceLT, Int.reduceLE, Int.reduceEq, Int.reduceNe, Int.reduceToNat, Int.reduceAdd, Int.reduceSub, Int.reduceMul, Int.natCast_zero, h0]
  refine call (roll9 l) [] ?_
  simp only [go_sem, ↓reduceIte, reduceCtorEq, Nat.reduceEqDiff, Nat.reduceAdd, Nat.reduceSub, Nat.reduceMul, Nat.reduceLT, Nat.reduceLeDiff, Int.reduceLT, Int.reduceLE, Int.reduceEq, Int.reduceNe, Int.reduceToNat, Int.reduceAdd, Int.reduceSub, Int.reduceMul, Int.natCast_zero]
  refine call (next_den l 0 2 hl (Nat.zero_le _) (by omega)) [17] ?_
  have p1 : dpos l 0 ≤ l.length := dpos_le (Nat.zero_le _)
  generalize dpos l 0 = q1 at *
  generalize dnext l 0 2 = e1 at *
  have m1 := mcase_le p1 e1
  have cm1 := mcase_den l q1 e1 hl p1
  generalize mcase l q1 e1 = M1 at *
  obtain ⟨c1, q2⟩ := M1
  simp only at m1 cm1
  have n1 := dkpos_le2 l 4 q2 m1
  have n2 := dkeys_le l 4 q2
  have u1 := mvotes_le n1 c1 (dkeys l 4 q2)
  have u2 := mvotes_len l (dkpos l 4 q2) c1 (dkeys l 4 q2)
  have u3 := mvotes_okS l (dkpos l 4 q2) c1 (dkeys l 4 q2)
  have cv1 := votes_den l (dkpos l 4 q2) c1 (dkeys l 4 q2) hl n1 (by omega)
  generalize mvotes l (dkpos l 4 q2) c1 (dkeys l 4 q2) = V1 at *
  obtain ⟨a, q3⟩ := V1
  simp only at u1 u2 u3 cv1
  rw [cs_eq] at cm1 cv1
  simp only [go_sem, ↓reduceIte, reduceCtorEq, Nat.reduceEqDiff, Nat.reduceAdd, Nat.reduceSub, Nat.reduceMul, Nat.reduceLT, Nat.reduceLeDiff, Int.reduceLT, Int.reduceLE, Int.reduceEq, Int.reduceNe, Int.reduceToNat, Int.reduceAdd, Int.reduceSub, Int.reduceMul, Int.natCast_zero]
  refine call cm1 [17] ?_
  simp only [go_sem, ↓reduceIte, reduceCtorEq, Nat.reduceEqDiff, Nat.reduceAdd, Nat.reduceSub, Nat.reduceMul, Nat.reduceLT, Nat.reduceLeDiff, Int.reduceLT, Int.reduceLE, Int.reduceEq, Int.reduceNe, Int.reduceToNat, Int.reduceAdd, Int.reduceSub, Int.reduceMul, Int.natCast_zero]
  refine call (keys_den l q2 4 hl m1 (by omega)) [17] ?_
  simp only [go_sem, ↓reduceIte, reduceCtorEq, Nat.reduceEqDiff, Nat.reduceAdd, Nat.reduceSub, Nat.reduceMul, Nat.reduceLT, Nat.reduceLeDiff, Int.reduceLT, Int.reduceLE, Int.reduceEq, Int.reduceNe, Int.reduceToNat, Int.reduceAdd, Int.reduceSub, Int.reduceMul, Int.natCast_zero]
  refine call cv1 [17] ?_
  simp only [go_sem, ↓reduceIte, reduceCtorEq, Nat.reduceEqDiff, Nat.reduceAdd, Nat.reduceSub, Nat.reduceMul, Nat.reduceLT, Nat.reduceLeDiff, Int.reduceLT, Int.reduceLE, Int.reduceEq, Int.reduceNe, Int.reduceToNat, Int.reduceAdd, Int.reduceSub, Int.reduceMul, Int.natCast_zero]
  refine call (next_den l q3 2 hl u1 (by omega)) [17] ?_
  have p2 : dpos l q3 ≤ l.length := dpos_le u1
  generalize dpos l q3 = q4 at *
  generalize dnext l q3 2 = e2 at *
  have m2 := mcase_le p2 e2
  have cm2 := mcase_den l q4 e2 hl p2
  generalize mcase l q4 e2 = M2 at *
  obtain ⟨c2, q5⟩ := M2
  simp only at m2 cm2
  have n3 := dkpos_le2 l 4 q5 m2
  have n4 := dkeys_le l 4 q5
  have u4 := mvotes_le n3 c2 (dkeys l 4 q5)
  have u5 := mvotes_len l (dkpos l 4 q5) c2 (dkeys l 4 q5)
  have u6 := mvotes_okS l (dkpos l 4 q5) c2 (dkeys l 4 q5)
  have cv2 := votesO_den l (dkpos l 4 q5) c2 (dkeys l 4 q5) hl n3 (by omega)
  generalize mvotes l (dkpos l 4 q5) c2 (dkeys l 4 q5) = V2 at *
  obtain ⟨b1, q6⟩ := V2
  simp only at u4 u5 u6 cv2
  rw [cs_eq] at cm2 cv2
  simp only [go_sem, ↓reduceIte, reduceCtorEq, Nat.reduceEqDiff, Nat.reduceAdd, Nat.reduceSub, Nat.reduceMul, Nat.reduceLT, Nat.reduceLeDiff, Int.reduceLT, Int.reduceLE, Int.reduceEq, Int.reduceNe, Int.reduceToNat, Int.reduceAdd, Int.reduceSub, Int.reduceMul, Int.natCast_zero]
  refine call cm2 [17] ?_
  simp only [go_sem, ↓reduceIte, reduceCtorEq, Nat.reduceEqDiff, Nat.reduceAdd, Nat.reduceSub, Nat.reduceMul, Nat.reduceLT, Nat.reduceLeDiff, Int.reduceLT, Int.reduceLE, Int.reduceEq, Int.reduceNe, Int.reduceToNat, Int.reduceAdd, Int.reduceSub, Int.reduceMul, Int.natCast_zero]
  refine call (keys_den l q5 4 hl m2 (by omega)) [17] ?_
  simp only [go_sem, ↓reduceIte, reduceCtorEq, Nat.reduceEqDiff, Nat.reduceAdd, Nat.reduceSub, Nat.reduceMul, Nat.reduceLT, Nat.reduceLeDiff, Int.reduceLT, Int.reduceLE, Int.reduceEq, Int.reduceNe, Int.reduceToNat, Int.reduceAdd, Int.reduceSub, Int.reduceMul, Int.natCast_zero]
  refine call cv2 [17] ?_
  have m3 := mcase_le u4 2
  have cm3 := mcase_den l q6 2 hl u4
  generalize mcase l q6 2 = M3 at *
  obtain ⟨c3, q7⟩ := M3
  simp only at m3 cm3
  have n5 := dkpos_le2 l 3 q7 m3
  have n6 := dkeys_le l 3 q7
  have u7 := mvotes_le n5 c3 (dkeys l 3 q7)
  have u8 := mvotes_len l (dkpos l 3 q7) c3 (dkeys l 3 q7)
  have u9 := mvotes_okS l (dkpos l 3 q7) c3 (dkeys l 3 q7)
  have cv3 := votes_den l (dkpos l 3 q7) c3 (dkeys l 3 q7) hl n5 (by omega)
  generalize mvotes l (dkpos l 3 q7) c3 (dkeys l 3 q7) = V3 at *
  obtain ⟨b2, q8⟩ := V3
  simp only at u7 u8 u9 cv3
  rw [cs_eq] at cm3 cv3
  simp only [go_sem, ↓reduceIte, reduceCtorEq, Nat.reduceEqDiff, Nat.reduceAdd, Nat.reduceSub, Nat.reduceMul, Nat.reduceLT, Nat.reduceLeDiff, Int.reduceLT, Int.reduceLE, Int.reduceEq, Int.reduceNe, Int.reduceToNat, Int.reduceAdd, Int.reduceSub, Int.reduceMul, Int.natCast_zero]
  refine call cm3 [17] ?_
  simp only [go_sem, ↓reduceIte, reduceCtorEq, Nat.reduceEqDiff, Nat.reduceAdd, Nat.reduceSub, Nat.reduceMul, Nat.reduceLT, Nat.reduceLeDiff, Int.reduceLT, Int.reduceLE, Int.reduceEq, Int.reduceNe, Int.reduceToNat, Int.reduceAdd, Int.reduceSub, Int.reduceMul, Int.natCast_zero]
  refine call (keys_den l q7 3 hl m3 (by omega)) [17] ?_
  simp only [go_sem, ↓reduceIte, reduceCtorEq, Nat.reduceEqDiff, Nat.reduceAdd, Nat.reduceSub, Nat.reduceMul, Nat.reduceLT, Nat.reduceLeDiff, Int.reduceLT, Int.reduceLE, Int.reduceEq, Int.reduceNe, Int.reduceToNat, Int.reduceAdd, Int.reduceSub, Int.reduceMul, Int.natCast_zero]
  refine call cv3 [17] ?_
  clear cm1 cv1 cm2 cv2 cm3 cv3
  simp only [go_sem, ↓reduceIte, reduceCtorEq, Nat.reduceEqDiff, Nat.reduceAdd, Nat.reduceSub, Nat.reduceMul, Nat.reduceLT, Nat.reduceLeDiff, Int.reduceLT, Int.reduceLE, Int.reduceEq, Int.reduceNe, Int.reduceToNat, Int.reduceAdd, Int.reduceSub, Int.reduceMul, Int.natCast_zero]
  (repeat refine And.intro (by first | omega | exact okD_of (by kernel_rfl)) ?_)
  rw [← List.map_append, ← List.length_append]
  have g1 : (b1 ++ b2).length ≤ 30 := by rw [List.length_append]; omega
  have g2 : ∀ x ∈ b1 ++ b2, bigS x := fun x hx => by
    rcases List.mem_append.1 hx with h | h
    · exact (u6 x h).big
    · exact (u9 x h).big
  have g3 : ∀ x ∈ a, bigS x := fun x hx => (u3 x hx).big
  clear u3 u6 u9
  generalize b1 ++ b2 = b at *
  have ca := casesG_den a (by omega) g3
  have cb := casesG_den b (by omega) g2
  have cz := casesG_den (b ++ a) (by simp; omega) (fun x hx => by
    rcases List.mem_append.1 hx with h | h
    · exact g2 x h
    · exact g3 x h)
  have hza : ∀ c, c ∈ casesL (b ++ a) ↔ c ∈ casesL a ∨ c ∈ casesL b := fun c => by
    rw [mem_casesL, mem_casesL, mem_casesL]
    constructor
    · rintro ⟨s, h1, h2⟩
      rcases List.mem_append.1 h1 with h | h
      · exact .inr ⟨s, h, h2⟩
      · exact .inl ⟨s, h, h2⟩
    · rintro (⟨s, h1, h2⟩ | ⟨s, h1, h2⟩)
      · exact ⟨s, List.mem_append.2 (.inr h1), h2⟩
      · exact ⟨s, List.mem_append.2 (.inl h1), h2⟩
  have hzn := ss_nodup ko_C (cases_ss (b ++ a)).1
  have hva : ∀ c, c ∈ casesL a → 0 < (votesL a c).length := fun c => votes_some
  have hvb : ∀ c, c ∈ casesL b → 0 < (votesL b c).length := fun c => votes_some
  have hla := cases_len a
  have hlb := cases_len b
  have hlz := cases_len (b ++ a)
  rw [List.length_append] at hlz
  generalize casesL a = X at *
  generalize casesL b = Y at *
  generalize casesL (b ++ a) = Z at *
  refine call ca [] ?_
  simp only [go_sem, ↓reduceIte, reduceCtorEq, Nat.reduceEqDiff, Nat.reduceAdd, Nat.reduceSub, Nat.reduceMul, Nat.reduceLT, Nat.reduceLeDiff, Int.reduceLT, Int.reduceLE, Int.reduceEq, Int.reduceNe, Int.reduceToNat, Int.reduceAdd, Int.reduceSub, Int.reduceMul, Int.natCast_zero]
  refine call cb [] ?_
  simp only [go_sem, ↓reduceIte, reduceCtorEq, Nat.reduceEqDiff, Nat.reduceAdd, Nat.reduceSub, Nat.reduceMul, Nat.reduceLT, Nat.reduceLeDiff, Int.reduceLT, Int.reduceLE, Int.reduceEq, Int.reduceNe, Int.reduceToNat, Int.reduceAdd, Int.reduceSub, Int.reduceMul, Int.natCast_zero]
  (repeat refine And.intro (by first | omega | exact okD_of (by kernel_rfl)) ?_)
  rw [← List.map_append, ← List.length_append]
  refine call cz [] ?_
  simp only [go_sem, ↓reduceIte, reduceCtorEq, Nat.reduceEqDiff, Nat.reduceAdd, Nat.reduceSub, Nat.reduceMul, Nat.reduceLT, Nat.reduceLeDiff, Int.reduceLT, Int.reduceLE, Int.reduceEq, Int.reduceNe, Int.reduceToNat, Int.reduceAdd, Int.reduceSub, Int.reduceMul, Int.natCast_zero]
  refine loop Tryz.mixed 0 (fun i : Nat => [(4, .vs (a.map sm)), (5, .vs (b.map sm)), (6, .vs (X.map cs)), (7, .vs (Y.map cs)), (8, .vs (Z.map cs)), (9, .int .i64 i)]) (fun _ => []) (fun i => i ≤ Z.length) (fun i => Z.length - i) (by kernel_rfl) (Nat.zero_le _) ?_ ?_
  · simp only [go_sem, ↓reduceIte, reduceCtorEq, Nat.reduceEqDiff, Nat.reduceAdd, Nat.reduceSub, Nat.reduceMul, Nat.reduceLT, Nat.reduceLeDiff, Int.reduceLT, Int.reduceLE, Int.reduceEq, Int.reduceNe, Int.reduceToNat, Int.reduceAdd, Int.reduceSub, Int.reduceMul, Int.natCast_zero]
    try simp
  · intro i hi
    by_cases hlt : i < Z.length
    · have h1 : (i : Int) < (Z.length : Int) := by omega
      have hz := (hza (el Z i)).1 (el_mem hlt)
      have Hx := hasC_den X (el Z i) (by simp only [big]; omega)
      have Hy := hasC_den Y (el Z i) (by simp only [big]; omega)
      have Hs := hasC_den (Z.take i) (el Z i) (by simp only [big]; simp; omega)
      have Va := votesG_den a (el Z i) (by omega) g3
      have Vb := votesG_den b (el Z i) (by omega) g2
      have hsn : decide (el Z i ∈ Z.take i) = false := decide_eq_false fun h => by
        obtain ⟨j, hj, e⟩ := List.mem_iff_getElem.1 h
        have hj' : j < i := by simp at hj; omega
        rw [List.getElem_take] at e
        have e2 : el Z i = Z[i] := by simp [el, List.getD_eq_getElem?_getD, hlt]
        rw [e2] at e
        exact List.pairwise_iff_getElem.1 hzn j i (by omega) hlt hj' e
      rw [hsn] at Hs
      have hl0 : 0 < (votesL a (el Z i)).length + (votesL b (el Z i)).length := by
        rcases hz with h | h
        · have := hva _ h; omega
        · have := hvb _ h; omega
      have hl1 := votes_len a (el Z i)
      have hl2 := votes_len b (el Z i)
      generalize votesL a (el Z i) = A at *
      generalize votesL b (el Z i) = B at *
      have wl : IntKind.i64.wrap ((A.length : Int) + (B.length : Int)) = ((A.length + B.length : Nat) : Int) := by rw [wrapI] <;> omega
      have wn : ¬ ((A.length + B.length : Nat) : Int) = 0 := by omega
      rw [cs_eq] at Hx Hy Hs Va Vb
      have fin : ∀ Q : Prop, (IntKind.i64.wrap ((i : Int) + 1) = ((i + 1 : Nat) : Int) → Q) → Q := fun Q h => h (by rw [wrapI] <;> omega)
      cases hbx : decide (el Z i ∈ X) with
      | true =>
        rw [hbx] at Hx
        cases hby : decide (el Z i ∈ Y) with
        | true =>
          rw [hby] at Hy
          simp only [go_sem, ↓reduceIte, reduceCtorEq, Nat.reduceEqDiff, Nat.reduceAdd, Nat.reduceSub, Nat.reduceMul, Nat.reduceLT, Nat.reduceLeDiff, Int.reduceLT, Int.reduceLE, Int.reduceEq, Int.reduceNe, Int.reduceToNat, Int.reduceAdd, Int.reduceSub, Int.reduceMul, Int.natCast_zero, h1, hlt, cs_eq]
          refine call Hx [] ?_
          simp only [go_sem, ↓reduceIte, reduceCtorEq, Nat.reduceEqDiff, Nat.reduceAdd, Nat.reduceSub, Nat.reduceMul, Nat.reduceLT, Nat.reduceLeDiff, Int.reduceLT, Int.reduceLE, Int.reduceEq, Int.reduceNe, Int.reduceToNat, Int.reduceAdd, Int.reduceSub, Int.reduceMul, Int.natCast_zero, h1, hlt, cs_eq]
          refine call Hy [] ?_
          simp only [go_sem, ↓reduceIte, reduceCtorEq, Nat.reduceEqDiff, Nat.reduceAdd, Nat.reduceSub, Nat.reduceMul, Nat.reduceLT, Nat.reduceLeDiff, Int.reduceLT, Int.reduceLE, Int.reduceEq, Int.reduceNe, Int.reduceToNat, Int.reduceAdd, Int.reduceSub, Int.reduceMul, Int.natCast_zero, h1, hlt, cs_eq]
          refine ⟨Tryz.underlying4, ?_⟩
          refine call Hx [] ?_
          by_cases hi0 : 0 < (i : Int)
          · simp only [go_sem, ↓reduceIte, reduceCtorEq, Nat.reduceEqDiff, Nat.reduceAdd, Nat.reduceSub, Nat.reduceMul, Nat.reduceLT, Nat.reduceLeDiff, Int.reduceLT, Int.reduceLE, Int.reduceEq, Int.reduceNe, Int.reduceToNat, Int.reduceAdd, Int.reduceSub, Int.reduceMul, Int.natCast_zero, h1, hlt, cs_eq, hi0]
            refine ⟨⟨hi, Nat.le_refl _⟩, ?_⟩
            refine call Hs [] ?_
            simp only [go_sem, ↓reduceIte, reduceCtorEq, Nat.reduceEqDiff, Nat.reduceAdd, Nat.reduceSub, Nat.reduceMul, Nat.reduceLT, Nat.reduceLeDiff, Int.reduceLT, Int.reduceLE, Int.reduceEq, Int.reduceNe, Int.reduceToNat, Int.reduceAdd, Int.reduceSub, Int.reduceMul, Int.natCast_zero, h1, hlt, cs_eq]
            refine ⟨okD_of (by kernel_rfl), ?_⟩
            refine call Va [] ?_
            simp only [go_sem, ↓reduceIte, reduceCtorEq, Nat.reduceEqDiff, Nat.reduceAdd, Nat.reduceSub, Nat.reduceMul, Nat.reduceLT, Nat.reduceLeDiff, Int.reduceLT, Int.reduceLE, Int.reduceEq, Int.reduceNe, Int.reduceToNat, Int.reduceAdd, Int.reduceSub, Int.reduceMul, Int.natCast_zero, h1, hlt, cs_eq]
            refine call Vb [] ?_
            simp only [go_sem, ↓reduceIte, reduceCtorEq, Nat.reduceEqDiff, Nat.reduceAdd, Nat.reduceSub, Nat.reduceMul, Nat.reduceLT, Nat.reduceLeDiff, Int.reduceLT, Int.reduceLE, Int.reduceEq, Int.reduceNe, Int.reduceToNat, Int.reduceAdd, Int.reduceSub, Int.reduceMul, Int.natCast_zero, wl, wn]
            exact ⟨okD_of (by kernel_rfl), i + 1, ⟨by omega, by omega⟩, by rw [wrapI] <;> omega⟩
          · simp only [go_sem, ↓reduceIte, reduceCtorEq, Nat.reduceEqDiff, Nat.reduceAdd, Nat.reduceSub, Nat.reduceMul, Nat.reduceLT, Nat.reduceLeDiff, Int.reduceLT, Int.reduceLE, Int.reduceEq, Int.reduceNe, Int.reduceToNat, Int.reduceAdd, Int.reduceSub, Int.reduceMul, Int.natCast_zero, h1, hlt, cs_eq, hi0]
            refine ⟨okD_of (by kernel_rfl), ?_⟩
            refine call Va [] ?_
            simp only [go_sem, ↓reduceIte, reduceCtorEq, Nat.reduceEqDiff, Nat.reduceAdd, Nat.reduceSub, Nat.reduceMul, Nat.reduceLT, Nat.reduceLeDiff, Int.reduceLT, Int.reduceLE, Int.reduceEq, Int.reduceNe, Int.reduceToNat, Int.reduceAdd, Int.reduceSub, Int.reduceMul, Int.natCast_zero, h1, hlt, cs_eq]
            refine call Vb [] ?_
            simp only [go_sem, ↓reduceIte, reduceCtorEq, Nat.reduceEqDiff, Nat.reduceAdd, Nat.reduceSub, Nat.reduceMul, Nat.reduceLT, Nat.reduceLeDiff, Int.reduceLT, Int.reduceLE, Int.reduceEq, Int.reduceNe, Int.reduceToNat, Int.reduceAdd, Int.reduceSub, Int.reduceMul, Int.natCast_zero, wl, wn]
            exact ⟨okD_of (by kernel_rfl), i + 1, ⟨by omega, by omega⟩, by rw [wrapI] <;> omega⟩
        | false =>
          rw [hby] at Hy
          simp only [go_sem, ↓reduceIte, reduceCtorEq, Nat.reduceEqDiff, Nat.reduceAdd, Nat.reduceSub, Nat.reduceMul, Nat.reduceLT, Nat.reduceLeDiff, Int.reduceLT, Int.reduceLE, Int.reduceEq, Int.reduceNe, Int.reduceToNat, Int.reduceAdd, Int.reduceSub, Int.reduceMul, Int.natCast_zero, h1, hlt, cs_eq]
          refine call Hx [] ?_
          simp only [go_sem, ↓reduceIte, reduceCtorEq, Nat.reduceEqDiff, Nat.reduceAdd, Nat.reduceSub, Nat.reduceMul, Nat.reduceLT, Nat.reduceLeDiff, Int.reduceLT, Int.reduceLE, Int.reduceEq, Int.reduceNe, Int.reduceToNat, Int.reduceAdd, Int.reduceSub, Int.reduceMul, Int.natCast_zero, h1, hlt, cs_eq]
          refine call Hy [] ?_
          by_cases hi0 : 0 < (i : Int)
          · simp only [go_sem, ↓reduceIte, reduceCtorEq, Nat.reduceEqDiff, Nat.reduceAdd, Nat.reduceSub, Nat.reduceMul, Nat.reduceLT, Nat.reduceLeDiff, Int.reduceLT, Int.reduceLE, Int.reduceEq, Int.reduceNe, Int.reduceToNat, Int.reduceAdd, Int.reduceSub, Int.reduceMul, Int.natCast_zero, h1, hlt, cs_eq, hi0]
            refine ⟨Tryz.underlying4, ⟨hi, Nat.le_refl _⟩, ?_⟩
            refine call Hs [] ?_
            simp only [go_sem, ↓reduceIte, reduceCtorEq, Nat.reduceEqDiff, Nat.reduceAdd, Nat.reduceSub, Nat.reduceMul, Nat.reduceLT, Nat.reduceLeDiff, Int.reduceLT, Int.reduceLE, Int.reduceEq, Int.reduceNe, Int.reduceToNat, Int.reduceAdd, Int.reduceSub, Int.reduceMul, Int.natCast_zero, h1, hlt, cs_eq]
            refine ⟨okD_of (by kernel_rfl), ?_⟩
            refine call Va [] ?_
            simp only [go_sem, ↓reduceIte, reduceCtorEq, Nat.reduceEqDiff, Nat.reduceAdd, Nat.reduceSub, Nat.reduceMul, Nat.reduceLT, Nat.reduceLeDiff, Int.reduceLT, Int.reduceLE, Int.reduceEq, Int.reduceNe, Int.reduceToNat, Int.reduceAdd, Int.reduceSub, Int.reduceMul, Int.natCast_zero, h1, hlt, cs_eq]
            refine call Vb [] ?_
            simp only [go_sem, ↓reduceIte, reduceCtorEq, Nat.reduceEqDiff, Nat.reduceAdd, Nat.reduceSub, Nat.reduceMul, Nat.reduceLT, Nat.reduceLeDiff, Int.reduceLT, Int.reduceLE, Int.reduceEq, Int.reduceNe, Int.reduceToNat, Int.reduceAdd, Int.reduceSub, Int.reduceMul, Int.natCast_zero, wl, wn]
            exact ⟨okD_of (by kernel_rfl), i + 1, ⟨by omega, by omega⟩, by rw [wrapI] <;> omega⟩
          · simp only [go_sem, ↓reduceIte, reduceCtorEq, Nat.reduceEqDiff, Nat.reduceAdd, Nat.reduceSub, Nat.reduceMul, Nat.reduceLT, Nat.reduceLeDiff, Int.reduceLT, Int.reduceLE, Int.reduceEq, Int.reduceNe, Int.reduceToNat, Int.reduceAdd, Int.reduceSub, Int.reduceMul, Int.natCast_zero, h1, hlt, cs_eq, hi0]
            refine ⟨Tryz.underlying4, okD_of (by kernel_rfl), ?_⟩
            refine call Va [] ?_
            simp only [go_sem, ↓reduceIte, reduceCtorEq, Nat.reduceEqDiff, Nat.reduceAdd, Nat.reduceSub, Nat.reduceMul, Nat.reduceLT, Nat.reduceLeDiff, Int.reduceLT, Int.reduceLE, Int.reduceEq, Int.reduceNe, Int.reduceToNat, Int.reduceAdd, Int.reduceSub, Int.reduceMul, Int.natCast_zero, h1, hlt, cs_eq]
            refine call Vb [] ?_
            simp only [go_sem, ↓reduceIte, reduceCtorEq, Nat.reduceEqDiff, Nat.reduceAdd, Nat.reduceSub, Nat.reduceMul, Nat.reduceLT, Nat.reduceLeDiff, Int.reduceLT, Int.reduceLE, Int.reduceEq, Int.reduceNe, Int.reduceToNat, Int.reduceAdd, Int.reduceSub, Int.reduceMul, Int.natCast_zero, wl, wn]
            exact ⟨okD_of (by kernel_rfl), i + 1, ⟨by omega, by omega⟩, by rw [wrapI] <;> omega⟩
      | false =>
        rw [hbx] at Hx
        have hby : decide (el Z i ∈ Y) = true := by
          rcases hz with h | h
          · exact absurd h (of_decide_eq_false hbx)
          · exact decide_eq_true h
        rw [hby] at Hy
        simp only [go_sem, ↓reduceIte, reduceCtorEq, Nat.reduceEqDiff, Nat.reduceAdd, Nat.reduceSub, Nat.reduceMul, Nat.reduceLT, Nat.reduceLeDiff, Int.reduceLT, Int.reduceLE, Int.reduceEq, Int.reduceNe, Int.reduceToNat, Int.reduceAdd, Int.reduceSub, Int.reduceMul, Int.natCast_zero, h1, hlt, cs_eq]
        refine call Hx [] ?_
        simp only [go_sem, ↓reduceIte, reduceCtorEq, Nat.reduceEqDiff, Nat.reduceAdd, Nat.reduceSub, Nat.reduceMul, Nat.reduceLT, Nat.reduceLeDiff, Int.reduceLT, Int.reduceLE, Int.reduceEq, Int.reduceNe, Int.reduceToNat, Int.reduceAdd, Int.reduceSub, Int.reduceMul, Int.natCast_zero, h1, hlt, cs_eq]
        refine call Hy [] ?_
        by_cases hi0 : 0 < (i : Int)
        · simp only [go_sem, ↓reduceIte, reduceCtorEq, Nat.reduceEqDiff, Nat.reduceAdd, Nat.reduceSub, Nat.reduceMul, Nat.reduceLT, Nat.reduceLeDiff, Int.reduceLT, Int.reduceLE, Int.reduceEq, Int.reduceNe, Int.reduceToNat, Int.reduceAdd, Int.reduceSub, Int.reduceMul, Int.natCast_zero, h1, hlt, cs_eq, hi0]
          refine ⟨Tryz.underlying4, ⟨hi, Nat.le_refl _⟩, ?_⟩
          refine call Hs [] ?_
          simp only [go_sem, ↓reduceIte, reduceCtorEq, Nat.reduceEqDiff, Nat.reduceAdd, Nat.reduceSub, Nat.reduceMul, Nat.reduceLT, Nat.reduceLeDiff, Int.reduceLT, Int.reduceLE, Int.reduceEq, Int.reduceNe, Int.reduceToNat, Int.reduceAdd, Int.reduceSub, Int.reduceMul, Int.natCast_zero, h1, hlt, cs_eq]
          refine ⟨okD_of (by kernel_rfl), ?_⟩
          refine call Va [] ?_
          simp only [go_sem, ↓reduceIte, reduceCtorEq, Nat.reduceEqDiff, Nat.reduceAdd, Nat.reduceSub, Nat.reduceMul, Nat.reduceLT, Nat.reduceLeDiff, Int.reduceLT, Int.reduceLE, Int.reduceEq, Int.reduceNe, Int.reduceToNat, Int.reduceAdd, Int.reduceSub, Int.reduceMul, Int.natCast_zero, h1, hlt, cs_eq]
          refine call Vb [] ?_
          simp only [go_sem, ↓reduceIte, reduceCtorEq, Nat.reduceEqDiff, Nat.reduceAdd, Nat.reduceSub, Nat.reduceMul, Nat.reduceLT, Nat.reduceLeDiff, Int.reduceLT, Int.reduceLE, Int.reduceEq, Int.reduceNe, Int.reduceToNat, Int.reduceAdd, Int.reduceSub, Int.reduceMul, Int.natCast_zero, wl, wn]
          exact ⟨okD_of (by kernel_rfl), i + 1, ⟨by omega, by omega⟩, by rw [wrapI] <;> omega⟩
        · simp only [go_sem, ↓reduceIte, reduceCtorEq, Nat.reduceEqDiff, Nat.reduceAdd, Nat.reduceSub, Nat.reduceMul, Nat.reduceLT, Nat.reduceLeDiff, Int.reduceLT, Int.reduceLE, Int.reduceEq, Int.reduceNe, Int.reduceToNat, Int.reduceAdd, Int.reduceSub, Int.reduceMul, Int.natCast_zero, h1, hlt, cs_eq, hi0]
          refine ⟨Tryz.underlying4, okD_of (by kernel_rfl), ?_⟩
          refine call Va [] ?_
          simp only [go_sem, ↓reduceIte, reduceCtorEq, Nat.reduceEqDiff, Nat.reduceAdd, Nat.reduceSub, Nat.reduceMul, Nat.reduceLT, Nat.reduceLeDiff, Int.reduceLT, Int.reduceLE, Int.reduceEq, Int.reduceNe, Int.reduceToNat, Int.reduceAdd, Int.reduceSub, Int.reduceMul, Int.natCast_zero, h1, hlt, cs_eq]
          refine call Vb [] ?_
          simp only [go_sem, ↓reduceIte, reduceCtorEq, Nat.reduceEqDiff, Nat.reduceAdd, Nat.reduceSub, Nat.reduceMul, Nat.reduceLT, Nat.reduceLeDiff, Int.reduceLT, Int.reduceLE, Int.reduceEq, Int.reduceNe, Int.reduceToNat, Int.reduceAdd, Int.reduceSub, Int.reduceMul, Int.natCast_zero, wl, wn]
          exact ⟨okD_of (by kernel_rfl), i + 1, ⟨by omega, by omega⟩, by rw [wrapI] <;> omega⟩
    · have h1 : ¬ (i : Int) < (Z.length : Int) := by omega
      simp only [go_sem, ↓reduceIte, reduceCtorEq, Nat.reduceEqDiff, Nat.reduceAdd, Nat.reduceSub, Nat.reduceMul, Nat.reduceLT, Nat.reduceLeDiff, Int.reduceLT, Int.reduceLE, Int.reduceEq, Int.reduceNe, Int.reduceToNat, Int.reduceAdd, Int.reduceSub, Int.reduceMul, Int.natCast_zero, h1]
      refine loop Tryz.mixed 0 (fun i : Nat => [(6, .vs (X.map cs)), (7, .vs (Y.map cs)), (8, .vs (Z.map cs)), (10, .int .i64 i)]) (fun _ => []) (fun i => i ≤ X.length) (fun i => X.length - i) (by kernel_rfl) (Nat.zero_le _) ?_ ?_
      · simp only [go_sem, ↓reduceIte, reduceCtorEq, Nat.reduceEqDiff, Nat.reduceAdd, Nat.reduceSub, Nat.reduceMul, Nat.reduceLT, Nat.reduceLeDiff, Int.reduceLT, Int.reduceLE, Int.reduceEq, Int.reduceNe, Int.reduceToNat, Int.reduceAdd, Int.reduceSub, Int.reduceMul, Int.natCast_zero]
      · intro i hi
        by_cases hlt : i < X.length
        · have h1 : (i : Int) < (X.length : Int) := by omega
          have Hz := hasC_den Z (el X i) (by simp only [big]; omega)
          rw [decide_eq_true ((hza _).2 (.inl (el_mem hlt))), cs_eq] at Hz
          simp only [go_sem, ↓reduceIte, reduceCtorEq, Nat.reduceEqDiff, Nat.reduceAdd, Nat.reduceSub, Nat.reduceMul, Nat.reduceLT, Nat.reduceLeDiff, Int.reduceLT, Int.reduceLE, Int.reduceEq, Int.reduceNe, Int.reduceToNat, Int.reduceAdd, Int.reduceSub, Int.reduceMul, Int.natCast_zero, h1, hlt, cs_eq]
          refine call Hz [] ?_
          simp only [go_sem, ↓reduceIte, reduceCtorEq, Nat.reduceEqDiff, Nat.reduceAdd, Nat.reduceSub, Nat.reduceMul, Nat.reduceLT, Nat.reduceLeDiff, Int.reduceLT, Int.reduceLE, Int.reduceEq, Int.reduceNe, Int.reduceToNat, Int.reduceAdd, Int.reduceSub, Int.reduceMul, Int.natCast_zero]
          exact ⟨i + 1, ⟨by omega, by omega⟩, by rw [wrapI] <;> omega⟩
        · have h1 : ¬ (i : Int) < (X.length : Int) := by omega
          simp only [go_sem, ↓reduceIte, reduceCtorEq, Nat.reduceEqDiff, Nat.reduceAdd, Nat.reduceSub, Nat.reduceMul, Nat.reduceLT, Nat.reduceLeDiff, Int.reduceLT, Int.reduceLE, Int.reduceEq, Int.reduceNe, Int.reduceToNat, Int.reduceAdd, Int.reduceSub, Int.reduceMul, Int.natCast_zero, h1]
          refine loop Tryz.mixed 0 (fun i : Nat => [(7, .vs (Y.map cs)), (8, .vs (Z.map cs)), (11, .int .i64 i)]) (fun _ => []) (fun i => i ≤ Y.length) (fun i => Y.length - i) (by kernel_rfl) (Nat.zero_le _) ?_ ?_
          · simp only [go_sem, ↓reduceIte, reduceCtorEq, Nat.reduceEqDiff, Nat.reduceAdd, Nat.reduceSub, Nat.reduceMul, Nat.reduceLT, Nat.reduceLeDiff, Int.reduceLT, Int.reduceLE, Int.reduceEq, Int.reduceNe, Int.reduceToNat, Int.reduceAdd, Int.reduceSub, Int.reduceMul, Int.natCast_zero]
          · intro i hi
            by_cases hlt : i < Y.length
            · have h1 : (i : Int) < (Y.length : Int) := by omega
              have Hz := hasC_den Z (el Y i) (by simp only [big]; omega)
              rw [decide_eq_true ((hza _).2 (.inr (el_mem hlt))), cs_eq] at Hz
              simp only [go_sem, ↓reduceIte, reduceCtorEq, Nat.reduceEqDiff, Nat.reduceAdd, Nat.reduceSub, Nat.reduceMul, Nat.reduceLT, Nat.reduceLeDiff, Int.reduceLT, Int.reduceLE, Int.reduceEq, Int.reduceNe, Int.reduceToNat, Int.reduceAdd, Int.reduceSub, Int.reduceMul, Int.natCast_zero, h1, hlt, cs_eq]
              refine call Hz [] ?_
              simp only [go_sem, ↓reduceIte, reduceCtorEq, Nat.reduceEqDiff, Nat.reduceAdd, Nat.reduceSub, Nat.reduceMul, Nat.reduceLT, Nat.reduceLeDiff, Int.reduceLT, Int.reduceLE, Int.reduceEq, Int.reduceNe, Int.reduceToNat, Int.reduceAdd, Int.reduceSub, Int.reduceMul, Int.natCast_zero]
              exact ⟨i + 1, ⟨by omega, by omega⟩, by rw [wrapI] <;> omega⟩
            · have h1 : ¬ (i : Int) < (Y.length : Int) := by omega
              simp only [go_sem, ↓reduceIte, reduceCtorEq, Nat.reduceEqDiff, Nat.reduceAdd, Nat.reduceSub, Nat.reduceMul, Nat.reduceLT, Nat.reduceLeDiff, Int.reduceLT, Int.reduceLE, Int.reduceEq, Int.reduceNe, Int.reduceToNat, Int.reduceAdd, Int.reduceSub, Int.reduceMul, Int.natCast_zero, h1]
              refine call awake27_den [] ?_
              simp only [go_sem, ↓reduceIte, reduceCtorEq, Nat.reduceEqDiff, Nat.reduceAdd, Nat.reduceSub, Nat.reduceMul, Nat.reduceLT, Nat.reduceLeDiff, Int.reduceLT, Int.reduceLE, Int.reduceEq, Int.reduceNe, Int.reduceToNat, Int.reduceAdd, Int.reduceSub, Int.reduceMul, Int.natCast_zero]
end Go.Proofs.Am
