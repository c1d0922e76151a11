/- BallotSet, walked. -/
import Derived.Test.YtabmciccahfjiaaGreatDoorEFour
set_option linter.unusedSimpArgs false
set_option linter.unusedVariables false
namespace Go.Proofs.Am
open Go Go.RowKit
open Go.Proofs

set_option maxHeartbeats 1000000 in
set_option maxRecDepth 100000 in
theorem mturnO_den (l : List Stm) (n : Int) (hl : l.length ≤ 1000000) : Den Tryz.prog 21 [.vs (l.map sm), .int .i64 n] [] (.os 0 (turnS l n).length) [.arr 63 13 false ((turnS l n).map sm)] [] := by
  refine den_of Tryz.mixed Tryz.func21 rfl Tryz.call21 Tryz.ntmps21 (congrArg Array.toList Tryz.results21) (by simp) (by kernel_rfl) [110] (exts := []) rfl rfl ?_
  simp only [go_sem, ↓reduceIte, reduceCtorEq, Nat.reduceEqDiff, Nat.reduceAdd, Nat.reduceSub, Nat.reduceMul, Nat.reduceLT, Nat.reduceLeDiff, Int.reduceLT, Int.reduceLE, Int.reduceEq, Int.reduceNe, Int.reduceToNat, Int.reduceAdd, Int.reduceSub, Int.reduceMul, Int.natCast_zero]
  refine promote 5 110 63 13 false ?_ ?_ ?_ (by omega)
  · refine loop Tryz.mixed 0 (fun i : Nat => [(0, .vs (l.map sm)), (1, .int .i64 n), (5, .os 110 (turnP l n i).length), (6, .int .i64 i)]) (fun i => [(110, .arr 63 13 false ((turnP l n i).map sm))]) (fun i => i ≤ l.length) (fun i => l.length - i) (by kernel_rfl) (Nat.zero_le _) ?_ ?_
    · simp only [go_sem, ↓reduceIte, reduceCtorEq, Nat.reduceEqDiff, Nat.reduceAdd, Nat.reduceSub, Nat.reduceMul, Nat.reduceLT, Nat.reduceLeDiff, Int.reduceLT, Int.reduceLE, Int.reduceEq, Int.reduceNe, Int.reduceToNat, Int.reduceAdd, Int.reduceSub, Int.reduceMul, Int.natCast_zero]
      simp [turnP]
    · intro i hi
      by_cases hlt : i < l.length
      · have h1 : (i : Int) < (l.length : Int) := by omega
        have hs := turnP_succ l n i
        have hln := turnP_len l n i
        have hm := mmod_lt (n := n) (m := l.length) (by omega)
        have hmn : mmod n l.length = ((mmod n l.length).toNat : Int) := by omega
        generalize turnP l n i = o at *
        generalize hmk : mmod n l.length = m at *
        simp only [go_sem, ↓reduceIte, reduceCtorEq, Nat.reduceEqDiff, Nat.reduceAdd, Nat.reduceSub, Nat.reduceMul, Nat.reduceLT, Nat.reduceLeDiff, Int.reduceLT, Int.reduceLE, Int.reduceEq, Int.reduceNe, Int.reduceToNat, Int.reduceAdd, Int.reduceSub, Int.reduceMul, Int.natCast_zero, h1]
        refine call (mmod29 n l.length (by omega)) [] ?_
        rw [hmk]
        obtain ⟨k, rfl⟩ : ∃ k : Nat, m = k := ⟨m.toNat, hmn⟩
        have hw : IntKind.i64.wrap ((i : Int) + (k : Int)) = ((i + k : Nat) : Int) := by rw [wrapI] <;> omega
        have hw2 : ((i + k : Nat) : Int).tmod (l.length : Int) = (((i + k) % l.length : Nat) : Int) := by rw [Int.tmod_eq_emod_of_nonneg (by omega)]; rfl
        have hlt2 : (i + k) % l.length < l.length := Nat.mod_lt _ (by omega)
        have h0 : ¬ (l.length : Int) = 0 := by omega
        rw [Int.toNat_natCast] at hs
        generalize hj : (i + k) % l.length = j at *
        simp only [go_sem, ↓reduceIte, reduceCtorEq, Nat.reduceEqDiff, Nat.reduceAdd, Nat.reduceSub, Nat.reduceMul, Nat.reduceLT, Nat.reduceLeDiff, Int.reduceLT, Int.reduceLE, Int.reduceEq, Int.reduceNe, Int.reduceToNat, Int.reduceAdd, Int.reduceSub, Int.reduceMul, Int.natCast_zero, hw, hw2, h0, hlt2]
        refine ⟨by omega, i + 1, ⟨by omega, by omega⟩, ⟨by rw [hs]; simp, by rw [wrapI] <;> omega⟩, ?_⟩
        rw [hs]
        simp [sm]
      · have h1 : ¬ (i : Int) < (l.length : Int) := by omega
        have : i = l.length := by omega
        subst this
        simp only [go_sem, ↓reduceIte, reduceCtorEq, Nat.reduceEqDiff, Nat.reduceAdd, Nat.reduceSub, Nat.reduceMul, Nat.reduceLT, Nat.reduceLeDiff, Int.reduceLT, Int.reduceLE, Int.reduceEq, Int.reduceNe, Int.reduceToNat, Int.reduceAdd, Int.reduceSub, Int.reduceMul, Int.natCast_zero, h1]
        exact ⟨rfl, rfl⟩
  · simp only [go_sem, ↓reduceIte, reduceCtorEq, Nat.reduceEqDiff, Nat.reduceAdd, Nat.reduceSub, Nat.reduceMul, Nat.reduceLT, Nat.reduceLeDiff, Int.reduceLT, Int.reduceLE, Int.reduceEq, Int.reduceNe, Int.reduceToNat, Int.reduceAdd, Int.reduceSub, Int.reduceMul, Int.natCast_zero]
  · simp only [go_sem, ↓reduceIte, reduceCtorEq, Nat.reduceEqDiff, Nat.reduceAdd, Nat.reduceSub, Nat.reduceMul, Nat.reduceLT, Nat.reduceLeDiff, Int.reduceLT, Int.reduceLE, Int.reduceEq, Int.reduceNe, Int.reduceToNat, Int.reduceAdd, Int.reduceSub, Int.reduceMul, Int.natCast_zero]

set_option maxHeartbeats 1000000 in
set_option maxRecDepth 100000 in
theorem set_den (l : List Int) (turn : Int) : Den Tryz.prog 4 [.vs (l.map i1), .int .i64 turn] [] (.bool true) [] [] := by
  refine den_of Tryz.mixed Tryz.func4 rfl Tryz.call4 Tryz.ntmps4 (congrArg Array.toList Tryz.results4) (by simp) (by kernel_rfl) [] (exts := []) rfl rfl ?_
  by_cases h0 : l.length ≤ 400
  rotate_left
  · simp only [go_sem, ↓reduceIte, reduceCtorEq, Nat.reduceEqDiff, Nat.reduceAdd, Nat.reduceSub, Nat.reduceMul, Nat.reduceLT, Nat.reduceLeDiff, Int.reduceLT, Int.reduceLE, Int.reduceEq, Int.reduceNe, Int.reduceToNat, Int.reduceAdd, Int.reduceSub, Int.reduceMul, Int.natCast_zero]
    refine call (light_den l) [] ?_
    simp only [go_sem, ↓reduceIte, reduceCtorEq, Nat.reduceEqDiff, Nat.reduceAdd, Nat.reduceSub, Nat.reduceMul, Nat.reduceLT, Nat.reduceLeDiff, Int.reduceLT, Int.reduceLE, Int.reduceEq, Int.reduceNe, Int.reduceToNat, Int.reduceAdd, Int.reduceSub, Int.reduceMul, Int.natCast_zero, h0]
    refine call awake27_den [] ?_
    simp only [go_sem, ↓reduceIte, reduceCtorEq, Nat.reduceEqDiff, Nat.reduceAdd, Nat.reduceSub, Nat.reduceMul, Nat.reduceLT, Nat.reduceLeDiff, Int.reduceLT, Int.reduceLE, Int.reduceEq, Int.reduceNe, Int.reduceToNat, Int.reduceAdd, Int.reduceSub, Int.reduceMul, Int.natCast_zero]
  have hl : big l.length := by simp only [big]; omega
  simp only [go_sem, ↓reduceIte, reduceCtorEq, Nat.reduceEqDiff, Nat.reduceAdd, Nat.reduceSub, Nat.reduceMul, Nat.reduceLT, Nat.reduceLeDiff, Int.reduceLT, Int.reduceLE, Int.reduceEq, Int.reduceNe, Int.reduceToNat, Int.reduceAdd, Int.reduceSub, Int.reduceMul, Int.natCast_zero]
  refine call (light_den l) [] ?_
  simp only [go_sem, ↓reduceIte, reduceCtorEq, Nat.reduceEqDiff, Nat.reduceAdd, Nat.reduceSub, Nat.reduceMul, Nat.reduceLT, Nat.reduceLeDiff, Int.reduceLT, Int.reduceLE, Int.reduceEq, Int.reduceNe, Int.reduceToNat, Int.reduceAdd, Int.reduceSub, Int.reduceMul, Int.natCast_zero, h0]
  refine call (roll9 l) [] ?_
  have m1 := mcase_le (Nat.zero_le l.length) 0
  have cm1 := mcase_den l 0 0 hl (Nat.zero_le _)
  generalize mcase l 0 0 = M1 at *
  obtain ⟨c, q2⟩ := M1
  simp only at m1 cm1
  have n1 := dkpos_le2 l 6 q2 m1
  have n2 := dkeys_le l 6 q2
  have ck := keys_den l q2 6 hl m1 (by omega)
  generalize dkpos l 6 q2 = q3 at *
  generalize dkeys l 6 q2 = seats at *
  have u1 := mvotes_le n1 c seats
  have u2 := mvotes_len l q3 c seats
  have u3 := mvotes_okS l q3 c seats
  have cv1 := votes_den l q3 c seats hl n1 (by omega)
  generalize mvotes l q3 c seats = V1 at *
  obtain ⟨s, q4⟩ := V1
  simp only at u1 u2 u3 cv1
  have u4 := mvotes_le u1 c seats
  have u5 := mvotes_len l q4 c seats
  have u6 := mvotes_okS l q4 c seats
  have cv2 := votes_den l q4 c seats hl u1 (by omega)
  generalize mvotes l q4 c seats = V2 at *
  obtain ⟨more, q5⟩ := V2
  simp only at u4 u5 u6 cv2
  have g1 : ∀ x ∈ s, bigS x := fun x hx => (u3 x hx).big
  have g2 : ∀ x ∈ more, bigS x := fun x hx => (u6 x hx).big
  have tl : (turnS s turn).length = s.length := by simp [turnS]
  have ct := mturnO_den s turn (by omega)
  have e1 : votesL (turnS s turn ++ s) c = votesL s c := votes_same c fun x => by
    rw [List.mem_append]
    exact ⟨fun h => h.elim turnS_mem id, .inr⟩
  have cA := votesG_den s c (by omega) g1
  have cB := votesG_den (turnS s turn ++ s) c (by simp; omega) (fun x hx => by
    rcases List.mem_append.1 hx with h | h
    · exact g1 x (turnS_mem h)
    · exact g1 x h)
  rw [e1] at cB
  have cC := votesG_den (s ++ more) c (by simp; omega) (fun x hx => by
    rcases List.mem_append.1 hx with h | h
    · exact g1 x h
    · exact g2 x h)
  have hsub : ∀ y ∈ votesL s c, y ∈ votesL (s ++ more) c := fun y hy => by
    obtain ⟨x, h1, h2⟩ := mem_votesL.1 hy
    exact mem_votesL.2 ⟨x, List.mem_append.2 (.inl h1), h2⟩
  have lA := votes_len s c
  have lC := votes_len (s ++ more) c
  rw [List.length_append] at lC
  have xA := votes_okX (l := s) (c := c)
  have xC := votes_okX (l := s ++ more) (c := c)
  generalize turnS s turn = ts at *
  generalize votesL s c = A at *
  generalize votesL (s ++ more) c = B at *
  have cX := cn_den A seats (by omega) (by simp only [big]; omega) xA
  have cY := cn_den B seats (by omega) (by simp only [big]; omega) xC
  rw [cn_same' xA] at cX
  rw [cn_same' xC] at cY
  have bA : ∀ y ∈ A, bigC y.x := fun y hy => okCt_big (xA y hy).1
  have cS := sameVs_den A A (by simp only [big]; omega) (by simp only [big]; omega) bA bA
  rw [decide_eq_true (rfl : A = A)] at cS
  have hgrow := cnR_grow (seats := seats) hsub
  have hok := cnI_ok seats (fun y hy => (xA y hy).1) A.length (Nat.le_refl _)
  have hok2 := cnI_ok seats (fun y hy => (xC y hy).1) B.length (Nat.le_refl _)
  have hX : cnI seats A A.length = cnR seats A := rfl
  have hY : cnI seats B B.length = cnR seats B := rfl
  rw [hX] at hok
  rw [hY] at hok2
  have hAe : A.length = 0 → (cnR seats A).length = 0 := fun h => by
    rw [List.eq_nil_of_length_eq_zero h]
    rfl
  clear hX hY hsub
  generalize cnR seats A = X at *
  generalize cnR seats B = Y at *
  rw [cs_eq] at cm1 cv1 cv2 cA cB cC
  simp only [go_sem, ↓reduceIte, reduceCtorEq, Nat.reduceEqDiff, Nat.reduceAdd, Nat.reduceSub, Nat.reduceMul, Nat.reduceLT, Nat.reduceLeDiff, Int.reduceLT, Int.reduceLE, Int.reduceEq, Int.reduceNe, Int.reduceToNat, Int.reduceAdd, Int.reduceSub, Int.reduceMul, Int.natCast_zero]
  refine call cm1 [22] ?_
  simp only [go_sem, ↓reduceIte, reduceCtorEq, Nat.reduceEqDiff, Nat.reduceAdd, Nat.reduceSub, Nat.reduceMul, Nat.reduceLT, Nat.reduceLeDiff, Int.reduceLT, Int.reduceLE, Int.reduceEq, Int.reduceNe, Int.reduceToNat, Int.reduceAdd, Int.reduceSub, Int.reduceMul, Int.natCast_zero]
  refine call ck [22] ?_
  simp only [go_sem, ↓reduceIte, reduceCtorEq, Nat.reduceEqDiff, Nat.reduceAdd, Nat.reduceSub, Nat.reduceMul, Nat.reduceLT, Nat.reduceLeDiff, Int.reduceLT, Int.reduceLE, Int.reduceEq, Int.reduceNe, Int.reduceToNat, Int.reduceAdd, Int.reduceSub, Int.reduceMul, Int.natCast_zero]
  refine call cv1 [22] ?_
  simp only [go_sem, ↓reduceIte, reduceCtorEq, Nat.reduceEqDiff, Nat.reduceAdd, Nat.reduceSub, Nat.reduceMul, Nat.reduceLT, Nat.reduceLeDiff, Int.reduceLT, Int.reduceLE, Int.reduceEq, Int.reduceNe, Int.reduceToNat, Int.reduceAdd, Int.reduceSub, Int.reduceMul, Int.natCast_zero]
  refine call cv2 [22] ?_
  simp only [go_sem, ↓reduceIte, reduceCtorEq, Nat.reduceEqDiff, Nat.reduceAdd, Nat.reduceSub, Nat.reduceMul, Nat.reduceLT, Nat.reduceLeDiff, Int.reduceLT, Int.reduceLE, Int.reduceEq, Int.reduceNe, Int.reduceToNat, Int.reduceAdd, Int.reduceSub, Int.reduceMul, Int.natCast_zero]
  refine ⟨okD_of (by kernel_rfl), ?_⟩
  refine call cA [] ?_
  simp only [go_sem, ↓reduceIte, reduceCtorEq, Nat.reduceEqDiff, Nat.reduceAdd, Nat.reduceSub, Nat.reduceMul, Nat.reduceLT, Nat.reduceLeDiff, Int.reduceLT, Int.reduceLE, Int.reduceEq, Int.reduceNe, Int.reduceToNat, Int.reduceAdd, Int.reduceSub, Int.reduceMul, Int.natCast_zero]
  refine call ct [] ?_
  simp only [go_sem, ↓reduceIte, reduceCtorEq, Nat.reduceEqDiff, Nat.reduceAdd, Nat.reduceSub, Nat.reduceMul, Nat.reduceLT, Nat.reduceLeDiff, Int.reduceLT, Int.reduceLE, Int.reduceEq, Int.reduceNe, Int.reduceToNat, Int.reduceAdd, Int.reduceSub, Int.reduceMul, Int.natCast_zero]
  (repeat refine And.intro (by first | omega | exact okD_of (by kernel_rfl)) ?_)
  rw [← List.map_append, ← List.length_append]
  refine call cB [] ?_
  simp only [go_sem, ↓reduceIte, reduceCtorEq, Nat.reduceEqDiff, Nat.reduceAdd, Nat.reduceSub, Nat.reduceMul, Nat.reduceLT, Nat.reduceLeDiff, Int.reduceLT, Int.reduceLE, Int.reduceEq, Int.reduceNe, Int.reduceToNat, Int.reduceAdd, Int.reduceSub, Int.reduceMul, Int.natCast_zero]
  refine ⟨okD_of (by kernel_rfl), ?_⟩
  refine call cX [] ?_
  simp only [go_sem, ↓reduceIte, reduceCtorEq, Nat.reduceEqDiff, Nat.reduceAdd, Nat.reduceSub, Nat.reduceMul, Nat.reduceLT, Nat.reduceLeDiff, Int.reduceLT, Int.reduceLE, Int.reduceEq, Int.reduceNe, Int.reduceToNat, Int.reduceAdd, Int.reduceSub, Int.reduceMul, Int.natCast_zero]
  (repeat refine And.intro (by first | omega | exact okD_of (by kernel_rfl)) ?_)
  rw [← List.map_append, ← List.length_append]
  refine call cC [] ?_
  simp only [go_sem, ↓reduceIte, reduceCtorEq, Nat.reduceEqDiff, Nat.reduceAdd, Nat.reduceSub, Nat.reduceMul, Nat.reduceLT, Nat.reduceLeDiff, Int.reduceLT, Int.reduceLE, Int.reduceEq, Int.reduceNe, Int.reduceToNat, Int.reduceAdd, Int.reduceSub, Int.reduceMul, Int.natCast_zero]
  refine call cY [] ?_
  simp only [go_sem, ↓reduceIte, reduceCtorEq, Nat.reduceEqDiff, Nat.reduceAdd, Nat.reduceSub, Nat.reduceMul, Nat.reduceLT, Nat.reduceLeDiff, Int.reduceLT, Int.reduceLE, Int.reduceEq, Int.reduceNe, Int.reduceToNat, Int.reduceAdd, Int.reduceSub, Int.reduceMul, Int.natCast_zero]
  refine ⟨okD_of (by kernel_rfl), ?_⟩
  refine call cS [] ?_
  have lX := hok.1
  have lY := hok2.1
  have main : ∀ K : Prop, K → K := fun _ h => h
  by_cases hA0 : (A.length : Int) = 0
  · have hX0 : (X.length : Int) = 0 := by have := hAe (by omega); omega
    have hX1 : X = [] := List.eq_nil_of_length_eq_zero (by omega)
    subst hX1
    simp only [go_sem, ↓reduceIte, reduceCtorEq, Nat.reduceEqDiff, Nat.reduceAdd, Nat.reduceSub, Nat.reduceMul, Nat.reduceLT, Nat.reduceLeDiff, Int.reduceLT, Int.reduceLE, Int.reduceEq, Int.reduceNe, Int.reduceToNat, Int.reduceAdd, Int.reduceSub, Int.reduceMul, Int.natCast_zero, hA0]
    refine loop Tryz.mixed 0 (fun _ : Nat => [(12, .vs []), (14, .int .i64 0)]) (fun _ => []) (fun _ => True) (fun _ => 0) (by kernel_rfl) trivial ?_ ?_
    · simp only [go_sem, ↓reduceIte, reduceCtorEq, Nat.reduceEqDiff, Nat.reduceAdd, Nat.reduceSub, Nat.reduceMul, Nat.reduceLT, Nat.reduceLeDiff, Int.reduceLT, Int.reduceLE, Int.reduceEq, Int.reduceNe, Int.reduceToNat, Int.reduceAdd, Int.reduceSub, Int.reduceMul, Int.natCast_zero]
    · intro i _
      simp only [go_sem, ↓reduceIte, reduceCtorEq, Nat.reduceEqDiff, Nat.reduceAdd, Nat.reduceSub, Nat.reduceMul, Nat.reduceLT, Nat.reduceLeDiff, Int.reduceLT, Int.reduceLE, Int.reduceEq, Int.reduceNe, Int.reduceToNat, Int.reduceAdd, Int.reduceSub, Int.reduceMul, Int.natCast_zero]
      refine call awake27_den [] ?_
      simp only [go_sem, ↓reduceIte, reduceCtorEq, Nat.reduceEqDiff, Nat.reduceAdd, Nat.reduceSub, Nat.reduceMul, Nat.reduceLT, Nat.reduceLeDiff, Int.reduceLT, Int.reduceLE, Int.reduceEq, Int.reduceNe, Int.reduceToNat, Int.reduceAdd, Int.reduceSub, Int.reduceMul, Int.natCast_zero]
  · simp only [go_sem, ↓reduceIte, reduceCtorEq, Nat.reduceEqDiff, Nat.reduceAdd, Nat.reduceSub, Nat.reduceMul, Nat.reduceLT, Nat.reduceLeDiff, Int.reduceLT, Int.reduceLE, Int.reduceEq, Int.reduceNe, Int.reduceToNat, Int.reduceAdd, Int.reduceSub, Int.reduceMul, Int.natCast_zero, hA0]
    refine loop Tryz.mixed 0 (fun i : Nat => [(12, .vs (X.map cn3)), (13, .vs (Y.map cn3)), (14, .int .i64 i)]) (fun _ => []) (fun i => i ≤ X.length) (fun i => X.length - i) (by kernel_rfl) (Nat.zero_le _) ?_ ?_
    · simp only [go_sem, ↓reduceIte, reduceCtorEq, Nat.reduceEqDiff, Nat.reduceAdd, Nat.reduceSub, Nat.reduceMul, Nat.reduceLT, Nat.reduceLeDiff, Int.reduceLT, Int.reduceLE, Int.reduceEq, Int.reduceNe, Int.reduceToNat, Int.reduceAdd, Int.reduceSub, Int.reduceMul, Int.natCast_zero]
    · intro i hi
      by_cases hlt : i < X.length
      · have h1 : (i : Int) < (X.length : Int) := by omega
        obtain ⟨hex, hle⟩ := hgrow (el X i) (el_mem hlt)
        have hbX := okCt_big (hok.2 _ (el_mem hlt)).1
        simp only [go_sem, ↓reduceIte, reduceCtorEq, Nat.reduceEqDiff, Nat.reduceAdd, Nat.reduceSub, Nat.reduceMul, Nat.reduceLT, Nat.reduceLeDiff, Int.reduceLT, Int.reduceLE, Int.reduceEq, Int.reduceNe, Int.reduceToNat, Int.reduceAdd, Int.reduceSub, Int.reduceMul, Int.natCast_zero, h1]
        refine loop Tryz.mixed (0, false) (fun s : Nat × Bool => [(12, .vs (X.map cn3)), (13, .vs (Y.map cn3)), (14, .int .i64 i), (15, .bool s.2), (16, .int .i64 s.1)]) (fun _ => []) (fun s => s.1 ≤ Y.length ∧ (s.2 = true ↔ ∃ j, j < s.1 ∧ (el Y j).x = (el X i).x)) (fun s => Y.length - s.1) (by kernel_rfl) ⟨Nat.zero_le _, by simp⟩ ?_ ?_
        · simp only [go_sem, ↓reduceIte, reduceCtorEq, Nat.reduceEqDiff, Nat.reduceAdd, Nat.reduceSub, Nat.reduceMul, Nat.reduceLT, Nat.reduceLeDiff, Int.reduceLT, Int.reduceLE, Int.reduceEq, Int.reduceNe, Int.reduceToNat, Int.reduceAdd, Int.reduceSub, Int.reduceMul, Int.natCast_zero]
        · rintro ⟨k, b⟩ ⟨hk, hbk⟩
          simp only at hk hbk
          by_cases hkl : k < Y.length
          · have h2 : (k : Int) < (Y.length : Int) := by omega
            have hbY := okCt_big (hok2.2 _ (el_mem hkl)).1
            simp only [go_sem, ↓reduceIte, reduceCtorEq, Nat.reduceEqDiff, Nat.reduceAdd, Nat.reduceSub, Nat.reduceMul, Nat.reduceLT, Nat.reduceLeDiff, Int.reduceLT, Int.reduceLE, Int.reduceEq, Int.reduceNe, Int.reduceToNat, Int.reduceAdd, Int.reduceSub, Int.reduceMul, Int.natCast_zero, h2, hkl, hlt]
            refine call (order23_den (el X i).x (el Y k).x hbX.1 hbX.2 hbY.1 hbY.2) [] ?_
            by_cases z1 : ordC (el X i).x (el Y k).x = 0
            · have z2 := (ordC_eq _ _).1 z1
              have z3 : ((el X i).ks.length : Int) ≤ ((el Y k).ks.length : Int) := by have := hle (el Y k) (el_mem hkl) z2.symm; omega
              simp only [go_sem, ↓reduceIte, reduceCtorEq, Nat.reduceEqDiff, Nat.reduceAdd, Nat.reduceSub, Nat.reduceMul, Nat.reduceLT, Nat.reduceLeDiff, Int.reduceLT, Int.reduceLE, Int.reduceEq, Int.reduceNe, Int.reduceToNat, Int.reduceAdd, Int.reduceSub, Int.reduceMul, Int.natCast_zero, z1, h2, hkl, hlt, z3]
              refine ⟨okD_of (by kernel_rfl), okD_of (by kernel_rfl), (k + 1, true), ⟨⟨by simp only; omega, ⟨fun _ => ⟨k, by simp, z2.symm⟩, fun _ => rfl⟩⟩, by simp only; omega⟩, ?_⟩
              exact ⟨rfl, by simp only; rw [wrapI] <;> omega⟩
            · have z2 : ¬ (el Y k).x = (el X i).x := fun e => z1 ((ordC_eq _ _).2 e.symm)
              simp only [go_sem, ↓reduceIte, reduceCtorEq, Nat.reduceEqDiff, Nat.reduceAdd, Nat.reduceSub, Nat.reduceMul, Nat.reduceLT, Nat.reduceLeDiff, Int.reduceLT, Int.reduceLE, Int.reduceEq, Int.reduceNe, Int.reduceToNat, Int.reduceAdd, Int.reduceSub, Int.reduceMul, Int.natCast_zero, z1]
              refine ⟨okD_of (by kernel_rfl), (k + 1, b), ⟨⟨by simp only; omega, ?_⟩, by simp only; omega⟩, ?_⟩
              · simp only
                rw [hbk]
                constructor
                · rintro ⟨j, h3, h4⟩; exact ⟨j, by omega, h4⟩
                · rintro ⟨j, h3, h4⟩
                  rcases Nat.lt_succ_iff_lt_or_eq.1 h3 with h | rfl
                  · exact ⟨j, h, h4⟩
                  · exact absurd h4 z2
              · exact ⟨rfl, by simp only; rw [wrapI] <;> omega⟩
          · have h2 : ¬ (k : Int) < (Y.length : Int) := by omega
            have hb1 : b = true := hbk.2 (by
              obtain ⟨m, hm, hx⟩ := hex
              obtain ⟨j, hj, rfl⟩ := List.mem_iff_getElem.1 hm
              exact ⟨j, by omega, by simpa [el, List.getD_eq_getElem?_getD, hj] using hx⟩)
            subst hb1
            simp only [go_sem, ↓reduceIte, reduceCtorEq, Nat.reduceEqDiff, Nat.reduceAdd, Nat.reduceSub, Nat.reduceMul, Nat.reduceLT, Nat.reduceLeDiff, Int.reduceLT, Int.reduceLE, Int.reduceEq, Int.reduceNe, Int.reduceToNat, Int.reduceAdd, Int.reduceSub, Int.reduceMul, Int.natCast_zero, h2]
            exact ⟨i + 1, ⟨by omega, by omega⟩, by rw [wrapI] <;> omega⟩
      · have h1 : ¬ (i : Int) < (X.length : Int) := by omega
        simp only [go_sem, ↓reduceIte, reduceCtorEq, Nat.reduceEqDiff, Nat.reduceAdd, Nat.reduceSub, Nat.reduceMul, Nat.reduceLT, Nat.reduceLeDiff, Int.reduceLT, Int.reduceLE, Int.reduceEq, Int.reduceNe, Int.reduceToNat, Int.reduceAdd, Int.reduceSub, Int.reduceMul, Int.natCast_zero, h1]
        refine call awake27_den [] ?_
        simp only [go_sem, ↓reduceIte, reduceCtorEq, Nat.reduceEqDiff, Nat.reduceAdd, Nat.reduceSub, Nat.reduceMul, Nat.reduceLT, Nat.reduceLeDiff, Int.reduceLT, Int.reduceLE, Int.reduceEq, Int.reduceNe, Int.reduceToNat, Int.reduceAdd, Int.reduceSub, Int.reduceMul, Int.natCast_zero]
end Go.Proofs.Am
