/- BallotSeats, walked. -/
import Derived.Test.YtabmciccahfjiaaGreatDoorEFour
set_option linter.unusedSimpArgs false
set_option linter.unusedVariables false
namespace Go.Proofs.Am
open Go Go.RowKit
open Go.Proofs

def ownP (W : List Vt) (seats : List Int) (i : Nat) : List Vt := (W.take i).filter fun y => decide (y.k ∈ seats)
theorem ownP_succ {W : List Vt} {seats : List Int} {i : Nat} (h : i < W.length) : ownP W seats (i + 1) = ownP W seats i ++ if (el W i).k ∈ seats then [el W i] else [] := by
  simp only [ownP, take_el h, List.filter_append, List.filter_cons, List.filter_nil, decide_eq_true_eq]
theorem ownP_len (W : List Vt) (seats : List Int) (i : Nat) : (ownP W seats i).length ≤ W.length := by
  unfold ownP
  refine Nat.le_trans (List.length_filter_le _ _) ?_
  simp; omega
/-- What the inner loop has found. -/
def ownK (seats : List Int) (y : Vt) (k : Nat) : List Vt := if y.k ∈ seats.take k then [y] else []
theorem dsome_strict (l : List Int) : ∀ (n i p : Nat), (dsome l n i p).Pairwise (· < ·)
  | 0, _, _ => List.Pairwise.nil
  | n + 1, i, p => by
    rw [dsome, List.pairwise_append]
    refine ⟨by split <;> simp, dsome_strict l n (i + 1) (dpos l p), fun a ha b hb => ?_⟩
    have := (dsome_range l n (i + 1) (dpos l p) b hb).1
    split at ha
    · simp at ha; omega
    · simp at ha
theorem ownK_succ {seats : List Int} (hn : seats.Nodup) {y : Vt} {k : Nat} (h : k < seats.length) : (y.k = el seats k → ownK seats y k = [] ∧ ownK seats y (k + 1) = [y]) ∧ (¬ y.k = el seats k → ownK seats y (k + 1) = ownK seats y k) := by
  have ht := take_el h
  constructor
  · intro e
    have h1 : ¬ y.k ∈ seats.take k := fun hm => by
      obtain ⟨j, hj, e2⟩ := List.mem_iff_getElem.1 hm
      have hj' : j < k := by simp at hj; omega
      rw [List.getElem_take] at e2
      have e3 : el seats k = seats[k] := by simp [el, List.getD_eq_getElem?_getD, h]
      exact List.pairwise_iff_getElem.1 hn j k (by omega) h hj' (by rw [e2, e, e3])
    refine ⟨if_neg h1, if_pos ?_⟩
    rw [ht, e]
    simp
  · intro e
    unfold ownK
    have : (y.k ∈ seats.take (k + 1)) ↔ y.k ∈ seats.take k := by rw [ht]; simp [e]
    by_cases h1 : y.k ∈ seats.take k
    · rw [if_pos h1, if_pos (this.2 h1)]
    · rw [if_neg h1, if_neg (fun h => h1 (this.1 h))]
theorem sumK_take (N : List Cn) {i : Nat} (h : i < N.length) : sumK (N.take (i + 1)) = sumK (N.take i) + (el N i).ks.length := by
  unfold sumK
  rw [take_el h, List.map_append, List.sum_append]
  simp
theorem sumK_le (N : List Cn) (m : Nat) (h : ∀ n ∈ N, n.ks.length ≤ m) : ∀ i, i ≤ N.length → sumK (N.take i) ≤ i * m
  | 0, _ => by simp [sumK]
  | i + 1, hi => by
    have ih := sumK_le N m h i (by omega)
    have := h (el N i) (el_mem (by omega))
    rw [sumK_take N (by omega), Nat.add_mul]
    omega

set_option maxHeartbeats 1000000 in
set_option maxRecDepth 100000 in
theorem seats27_den (l : List Int) : Den Tryz.prog 5 [.vs (l.map i1)] [] (.bool true) [] [] := by
  refine den_of Tryz.mixed Tryz.func5 rfl Tryz.call5 Tryz.ntmps5 (congrArg Array.toList Tryz.results5) (by simp) (by kernel_rfl) [] (exts := []) rfl rfl ?_
  by_cases h0 : l.length ≤ 400
  rotate_left
  · simp only [go_sem, ↓reduceIte, reduceCtorEq, Nat.reduceEqDiff, Nat.reduceAdd, Nat.reduceSub, Nat.reduceMul, Nat.reduceLT, Nat.reduceLeDiff, Int.reduceLT, Int.reduceLE, Int.reduceEq, Int.reduceNe, Int.reduceToNat, Int.reduceAdd, Int.reduceSub, Int.reduceMul, Int.natCast_zero]
    refine call (light_den l) [] ?_
    simp only [go_sem, ↓reduceIte, reduceCtorEq, Nat.reduceEqDiff, Nat.reduceAdd, Nat.reduceSub, Nat.reduceMul, Nat.reduceLT, Nat.reduceLeDiff, Int.reduceLT, Int.reduceLE, Int.reduceEq, Int.reduceNe, Int.reduceToNat, Int.reduceAdd, Int.reduceSub, Int.reduceMul, Int.natCast_zero, h0]
    refine call awake27_den [] ?_
    simp only [go_sem, ↓reduceIte, reduceCtorEq, Nat.reduceEqDiff, Nat.reduceAdd, Nat.reduceSub, Nat.reduceMul, Nat.reduceLT, Nat.reduceLeDiff, Int.reduceLT, Int.reduceLE, Int.reduceEq, Int.reduceNe, Int.reduceToNat, Int.reduceAdd, Int.reduceSub, Int.reduceMul, Int.natCast_zero]
  have hl : big l.length := by simp only [big]; omega
  simp only [go_sem, ↓reduceIte, reduceCtorEq, Nat.reduceEqDiff, Nat.reduceAdd, Nat.reduceSub, Nat.reduceMul, Nat.reduceLT, Nat.reduceLeDiff, Int.reduceLT, Int.reduceLE, Int.reduceEq, Int.reduceNe, Int.reduceToNat, Int.reduceAdd, Int.reduceSub, Int.reduceMul, Int.natCast_zero]
  refine call (light_den l) [] ?_
  simp only [go_sem, ↓reduceIte, reduceCtorEq, Nat.reduceEqDiff, Nat.reduceAdd, Nat.reduceSub, Nat.reduceMul, Nat.reduceLT, Nat.reduceLeDiff, Int.reduceLT, Int.reduceLE, Int.reduceEq, Int.reduceNe, Int.reduceToNat, Int.reduceAdd, Int.reduceSub, Int.reduceMul, Int.natCast_zero, h0]
  refine call (roll9 l) [] ?_
  have m1 := mcase_le (Nat.zero_le l.length) 0
  have cm1 := mcase_den l 0 0 hl (Nat.zero_le _)
  generalize mcase l 0 0 = M1 at *
  obtain ⟨c, q2⟩ := M1
  simp only at m1 cm1
  have n1 := dkpos_le2 l 8 q2 m1
  have n2 := dkeys_le l 8 q2
  have ck := keys_den l q2 8 hl m1 (by omega)
  generalize dkpos l 8 q2 = q3 at *
  generalize dkeys l 8 q2 = all at *
  have u1 := mvotes_le n1 c all
  have u2 := mvotes_len l q3 c all
  have u3 := mvotes_okS l q3 c all
  have cv1 := votes_den l q3 c all hl n1 (by omega)
  generalize mvotes l q3 c all = V1 at *
  obtain ⟨s, q4⟩ := V1
  simp only at u1 u2 u3 cv1
  have g1 : ∀ x ∈ s, bigS x := fun x hx => (u3 x hx).big
  have cA := votesG_den s c (by omega) g1
  have lA := votes_len s c
  have sA := (votes_ss s c).1
  have xA := votes_okX (l := s) (c := c)
  have csome := some_vs l q4 8 hl u1 (by omega)
  have lsome := dsome_len l 8 0 q4
  have ssome : (dsome l 8 0 q4).Nodup := (dsome_strict l 8 0 q4).imp fun h => by omega
  generalize votesL s c = W at *
  generalize dsome l 8 0 q4 = seats at *
  have hsum := cnR_sum (c := c) (seats := seats) sA W.length (Nat.le_refl _)
  have hown : cnR seats (ownP W seats W.length) = cnR seats W := by unfold ownP; rw [List.take_length]; exact cnR_own
  have hol := ownP_len W seats W.length
  have hox : ∀ y ∈ ownP W seats W.length, okX y.x := fun y hy => xA y (List.mem_of_mem_take (List.mem_filter.1 hy).1)
  have cX := cn_den W seats (by omega) (by simp only [big]; omega) xA
  rw [cn_same' xA] at cX
  have cO := cn_den (ownP W seats W.length) seats (by omega) (by simp only [big]; omega) hox
  rw [cn_same' hox, hown] at cO
  have hsp := cnR_spec seats W
  have hok := cnI_ok seats (fun y hy => (xA y hy).1) W.length (Nat.le_refl _)
  have hX : cnI seats W W.length = cnR seats W := rfl
  rw [hX] at hok hsum
  have hbn : ∀ n ∈ cnR seats W, bigC n.x ∧ big n.ks.length := fun n hn => by
    have := hok.2 n hn
    exact ⟨okCt_big this.1, by simp only [big]; omega⟩
  have cN := sameN_den (cnR seats W) (cnR seats W) (by have := hok.1; simp only [big]; omega) (by have := hok.1; simp only [big]; omega) hbn hbn
  rw [decide_eq_true (rfl : cnR seats W = cnR seats W)] at cN
  clear hX hown
  have hsum : sumK (cnR seats W) = (ownP W seats W.length).length := hsum
  generalize cnR seats W = N at *
  rw [cs_eq] at cm1 cv1 cA
  simp only [go_sem, ↓reduceIte, reduceCtorEq, Nat.reduceEqDiff, Nat.reduceAdd, Nat.reduceSub, Nat.reduceMul, Nat.reduceLT, Nat.reduceLeDiff, Int.reduceLT, Int.reduceLE, Int.reduceEq, Int.reduceNe, Int.reduceToNat, Int.reduceAdd, Int.reduceSub, Int.reduceMul, Int.natCast_zero]
  refine call cm1 [19] ?_
  simp only [go_sem, ↓reduceIte, reduceCtorEq, Nat.reduceEqDiff, Nat.reduceAdd, Nat.reduceSub, Nat.reduceMul, Nat.reduceLT, Nat.reduceLeDiff, Int.reduceLT, Int.reduceLE, Int.reduceEq, Int.reduceNe, Int.reduceToNat, Int.reduceAdd, Int.reduceSub, Int.reduceMul, Int.natCast_zero]
  refine call ck [19] ?_
  simp only [go_sem, ↓reduceIte, reduceCtorEq, Nat.reduceEqDiff, Nat.reduceAdd, Nat.reduceSub, Nat.reduceMul, Nat.reduceLT, Nat.reduceLeDiff, Int.reduceLT, Int.reduceLE, Int.reduceEq, Int.reduceNe, Int.reduceToNat, Int.reduceAdd, Int.reduceSub, Int.reduceMul, Int.natCast_zero]
  refine call cv1 [19] ?_
  simp only [go_sem, ↓reduceIte, reduceCtorEq, Nat.reduceEqDiff, Nat.reduceAdd, Nat.reduceSub, Nat.reduceMul, Nat.reduceLT, Nat.reduceLeDiff, Int.reduceLT, Int.reduceLE, Int.reduceEq, Int.reduceNe, Int.reduceToNat, Int.reduceAdd, Int.reduceSub, Int.reduceMul, Int.natCast_zero]
  refine call cA [] ?_
  simp only [go_sem, ↓reduceIte, reduceCtorEq, Nat.reduceEqDiff, Nat.reduceAdd, Nat.reduceSub, Nat.reduceMul, Nat.reduceLT, Nat.reduceLeDiff, Int.reduceLT, Int.reduceLE, Int.reduceEq, Int.reduceNe, Int.reduceToNat, Int.reduceAdd, Int.reduceSub, Int.reduceMul, Int.natCast_zero]
  refine ⟨okD_of (by kernel_rfl), ?_⟩
  refine call csome [19] ?_
  simp only [go_sem, ↓reduceIte, reduceCtorEq, Nat.reduceEqDiff, Nat.reduceAdd, Nat.reduceSub, Nat.reduceMul, Nat.reduceLT, Nat.reduceLeDiff, Int.reduceLT, Int.reduceLE, Int.reduceEq, Int.reduceNe, Int.reduceToNat, Int.reduceAdd, Int.reduceSub, Int.reduceMul, Int.natCast_zero]
  refine call cX [] ?_
  simp only [go_sem, ↓reduceIte, reduceCtorEq, Nat.reduceEqDiff, Nat.reduceAdd, Nat.reduceSub, Nat.reduceMul, Nat.reduceLT, Nat.reduceLeDiff, Int.reduceLT, Int.reduceLE, Int.reduceEq, Int.reduceNe, Int.reduceToNat, Int.reduceAdd, Int.reduceSub, Int.reduceMul, Int.natCast_zero]
  refine promote 9 110 31 7 false ?_ ?_ ?_ (by omega)
  · refine loop Tryz.mixed 0 (fun i : Nat => [(6, .vs (W.map vt7)), (7, .vs (seats.map i1)), (8, .vs (N.map cn3)), (9, .os 110 (ownP W seats i).length), (10, .int .i64 i)]) (fun i => [(110, .arr 31 7 false ((ownP W seats i).map vt7))]) (fun i => i ≤ W.length) (fun i => W.length - i) (by kernel_rfl) (Nat.zero_le _) ?_ ?_
    · simp only [go_sem, ↓reduceIte, reduceCtorEq, Nat.reduceEqDiff, Nat.reduceAdd, Nat.reduceSub, Nat.reduceMul, Nat.reduceLT, Nat.reduceLeDiff, Int.reduceLT, Int.reduceLE, Int.reduceEq, Int.reduceNe, Int.reduceToNat, Int.reduceAdd, Int.reduceSub, Int.reduceMul, Int.natCast_zero]
      exact ⟨rfl, rfl⟩
    · intro i hi
      by_cases hlt : i < W.length
      · have h1 : (i : Int) < (W.length : Int) := by omega
        have hsu := ownP_succ (seats := seats) hlt
        have hle := ownP_len W seats i
        have hKe : ownK seats (el W i) seats.length = if (el W i).k ∈ seats then [el W i] else [] := by unfold ownK; rw [List.take_length]
        rw [← hKe] at hsu
        generalize hO : ownP W seats i = o at *
        simp only [go_sem, ↓reduceIte, reduceCtorEq, Nat.reduceEqDiff, Nat.reduceAdd, Nat.reduceSub, Nat.reduceMul, Nat.reduceLT, Nat.reduceLeDiff, Int.reduceLT, Int.reduceLE, Int.reduceEq, Int.reduceNe, Int.reduceToNat, Int.reduceAdd, Int.reduceSub, Int.reduceMul, Int.natCast_zero, h1]
        refine loop Tryz.mixed 0 (fun k : Nat => [(6, .vs (W.map vt7)), (7, .vs (seats.map i1)), (8, .vs (N.map cn3)), (9, .os 110 (o ++ ownK seats (el W i) k).length), (10, .int .i64 i), (11, .int .i64 k)]) (fun k => [(110, .arr 31 7 false ((o ++ ownK seats (el W i) k).map vt7))]) (fun k => k ≤ seats.length) (fun k => seats.length - k) (by kernel_rfl) (Nat.zero_le _) ?_ ?_
        · simp only [go_sem, ↓reduceIte, reduceCtorEq, Nat.reduceEqDiff, Nat.reduceAdd, Nat.reduceSub, Nat.reduceMul, Nat.reduceLT, Nat.reduceLeDiff, Int.reduceLT, Int.reduceLE, Int.reduceEq, Int.reduceNe, Int.reduceToNat, Int.reduceAdd, Int.reduceSub, Int.reduceMul, Int.natCast_zero]
          exact ⟨by simp [ownK], by simp [ownK]⟩
        · intro k hk
          by_cases hkl : k < seats.length
          · have h2 : (k : Int) < (seats.length : Int) := by omega
            obtain ⟨k1, k2⟩ := ownK_succ ssome (y := el W i) hkl
            by_cases e : (el W i).k = el seats k
            · obtain ⟨k3, k4⟩ := k1 e
              rw [k3, List.append_nil]
              simp only [go_sem, ↓reduceIte, reduceCtorEq, Nat.reduceEqDiff, Nat.reduceAdd, Nat.reduceSub, Nat.reduceMul, Nat.reduceLT, Nat.reduceLeDiff, Int.reduceLT, Int.reduceLE, Int.reduceEq, Int.reduceNe, Int.reduceToNat, Int.reduceAdd, Int.reduceSub, Int.reduceMul, Int.natCast_zero, h2, hkl, hlt, e]
              refine ⟨okD_of (by kernel_rfl), by omega, k + 1, ⟨by omega, by omega⟩, ⟨by rw [k4]; rfl, by rw [wrapI] <;> omega⟩, ?_⟩
              rw [k4, List.map_append, ← e]
              rfl
            · have k3 := k2 e
              simp only [go_sem, ↓reduceIte, reduceCtorEq, Nat.reduceEqDiff, Nat.reduceAdd, Nat.reduceSub, Nat.reduceMul, Nat.reduceLT, Nat.reduceLeDiff, Int.reduceLT, Int.reduceLE, Int.reduceEq, Int.reduceNe, Int.reduceToNat, Int.reduceAdd, Int.reduceSub, Int.reduceMul, Int.natCast_zero, h2, hkl, hlt, e]
              exact ⟨okD_of (by kernel_rfl), k + 1, ⟨by omega, by omega⟩, ⟨by rw [k3], by rw [wrapI] <;> omega⟩, by rw [k3]⟩
          · have h2 : ¬ (k : Int) < (seats.length : Int) := by omega
            have hk3 : k = seats.length := by omega
            subst hk3
            rw [← hsu]
            simp only [go_sem, ↓reduceIte, reduceCtorEq, Nat.reduceEqDiff, Nat.reduceAdd, Nat.reduceSub, Nat.reduceMul, Nat.reduceLT, Nat.reduceLeDiff, Int.reduceLT, Int.reduceLE, Int.reduceEq, Int.reduceNe, Int.reduceToNat, Int.reduceAdd, Int.reduceSub, Int.reduceMul, Int.natCast_zero, h2]
            exact ⟨i + 1, ⟨by omega, by omega⟩, ⟨rfl, by rw [wrapI] <;> omega⟩, rfl⟩
      · have h1 : ¬ (i : Int) < (W.length : Int) := by omega
        have hi2 : i = W.length := by omega
        subst hi2
        generalize ownP W seats W.length = O at *
        have hk8 : ∀ n ∈ N, n.ks.length ≤ 1000 := fun n hn => by have := (hok.2 n hn).2; omega
        have hs8 := sumK_le N 1000 hk8
        simp only [go_sem, ↓reduceIte, reduceCtorEq, Nat.reduceEqDiff, Nat.reduceAdd, Nat.reduceSub, Nat.reduceMul, Nat.reduceLT, Nat.reduceLeDiff, Int.reduceLT, Int.reduceLE, Int.reduceEq, Int.reduceNe, Int.reduceToNat, Int.reduceAdd, Int.reduceSub, Int.reduceMul, Int.natCast_zero, h1]
        refine loop Tryz.mixed 0 (fun i : Nat => [(7, .vs (seats.map i1)), (8, .vs (N.map cn3)), (9, .os 110 O.length), (12, .int .i64 (sumK (N.take i))), (13, .int .i64 i)]) (fun i => [(110, .arr 31 7 false (O.map vt7))]) (fun i => i ≤ N.length) (fun i => N.length - i) (by kernel_rfl) (Nat.zero_le _) ?_ ?_
        · simp only [go_sem, ↓reduceIte, reduceCtorEq, Nat.reduceEqDiff, Nat.reduceAdd, Nat.reduceSub, Nat.reduceMul, Nat.reduceLT, Nat.reduceLeDiff, Int.reduceLT, Int.reduceLE, Int.reduceEq, Int.reduceNe, Int.reduceToNat, Int.reduceAdd, Int.reduceSub, Int.reduceMul, Int.natCast_zero]
          rfl
        · intro i hi
          have hN := hok.1
          by_cases hlt : i < N.length
          · have h3 : (i : Int) < (N.length : Int) := by omega
            have hne : ¬ ((el N i).ks.length : Int) = 0 := fun e => hsp.r4 _ (el_mem hlt) (List.eq_nil_of_length_eq_zero (by omega))
            have hst := sumK_take N hlt
            have hs9 := hs8 i hi
            have hk9 := hk8 (el N i) (el_mem hlt)
            have hi9 : i * 1000 ≤ 1000000 := by omega
            have w1 : IntKind.i64.wrap ((sumK (N.take i) : Int) + ((el N i).ks.length : Int)) = ((sumK (N.take (i + 1)) : Nat) : Int) := by rw [hst, wrapI] <;> omega
            by_cases hi0 : 0 < (i : Int)
            · obtain ⟨j, rfl⟩ : ∃ j, i = j + 1 := ⟨i - 1, by omega⟩
              have hw : IntKind.i64.wrap (((j + 1 : Nat) : Int) - 1) = (j : Int) := by rw [wrapI] <;> omega
              have hj : j < N.length := by omega
              have b1 := (hbn _ (el_mem hj)).1
              have b2 := (hbn _ (el_mem hlt)).1
              have hlo : ordC (el N j).x (el N (j + 1)).x < 0 := by
                have := List.pairwise_iff_getElem.1 hsp.r1 j (j + 1) hj hlt (by omega)
                simpa [el, List.getD_eq_getElem?_getD, hj, hlt] using this
              have hlo2 : ¬ 0 ≤ ordC (el N j).x (el N (j + 1)).x := by omega
              simp only [go_sem, ↓reduceIte, reduceCtorEq, Nat.reduceEqDiff, Nat.reduceAdd, Nat.reduceSub, Nat.reduceMul, Nat.reduceLT, Nat.reduceLeDiff, Int.reduceLT, Int.reduceLE, Int.reduceEq, Int.reduceNe, Int.reduceToNat, Int.reduceAdd, Int.reduceSub, Int.reduceMul, Int.natCast_zero, h3, hlt, hne, hi0, hw, hj]
              refine call (order23_den (el N j).x (el N (j + 1)).x b1.1 b1.2 b2.1 b2.2) [] ?_
              simp only [go_sem, ↓reduceIte, reduceCtorEq, Nat.reduceEqDiff, Nat.reduceAdd, Nat.reduceSub, Nat.reduceMul, Nat.reduceLT, Nat.reduceLeDiff, Int.reduceLT, Int.reduceLE, Int.reduceEq, Int.reduceNe, Int.reduceToNat, Int.reduceAdd, Int.reduceSub, Int.reduceMul, Int.natCast_zero, hlo2, hlt]
              refine ⟨okD_of (by kernel_rfl), j + 1 + 1, ⟨by omega, by omega⟩, ?_⟩
              exact ⟨w1, by rw [wrapI] <;> omega⟩
            · simp only [go_sem, ↓reduceIte, reduceCtorEq, Nat.reduceEqDiff, Nat.reduceAdd, Nat.reduceSub, Nat.reduceMul, Nat.reduceLT, Nat.reduceLeDiff, Int.reduceLT, Int.reduceLE, Int.reduceEq, Int.reduceNe, Int.reduceToNat, Int.reduceAdd, Int.reduceSub, Int.reduceMul, Int.natCast_zero, h3, hlt, hne, hi0]
              exact ⟨okD_of (by kernel_rfl), i + 1, ⟨by omega, by omega⟩, w1, by rw [wrapI] <;> omega⟩
          · have h3 : ¬ (i : Int) < (N.length : Int) := by omega
            have hi3 : i = N.length := by omega
            subst hi3
            rw [List.take_length, hsum]
            simp only [go_sem, ↓reduceIte, reduceCtorEq, Nat.reduceEqDiff, Nat.reduceAdd, Nat.reduceSub, Nat.reduceMul, Nat.reduceLT, Nat.reduceLeDiff, Int.reduceLT, Int.reduceLE, Int.reduceEq, Int.reduceNe, Int.reduceToNat, Int.reduceAdd, Int.reduceSub, Int.reduceMul, Int.natCast_zero, h3]
            refine call cO [] ?_
            simp only [go_sem, ↓reduceIte, reduceCtorEq, Nat.reduceEqDiff, Nat.reduceAdd, Nat.reduceSub, Nat.reduceMul, Nat.reduceLT, Nat.reduceLeDiff, Int.reduceLT, Int.reduceLE, Int.reduceEq, Int.reduceNe, Int.reduceToNat, Int.reduceAdd, Int.reduceSub, Int.reduceMul, Int.natCast_zero]
            refine call cN [] ?_
            simp only [go_sem, ↓reduceIte, reduceCtorEq, Nat.reduceEqDiff, Nat.reduceAdd, Nat.reduceSub, Nat.reduceMul, Nat.reduceLT, Nat.reduceLeDiff, Int.reduceLT, Int.reduceLE, Int.reduceEq, Int.reduceNe, Int.reduceToNat, Int.reduceAdd, Int.reduceSub, Int.reduceMul, Int.natCast_zero]
            refine call awake27_den [] ?_
            simp only [go_sem, ↓reduceIte, reduceCtorEq, Nat.reduceEqDiff, Nat.reduceAdd, Nat.reduceSub, Nat.reduceMul, Nat.reduceLT, Nat.reduceLeDiff, Int.reduceLT, Int.reduceLE, Int.reduceEq, Int.reduceNe, Int.reduceToNat, Int.reduceAdd, Int.reduceSub, Int.reduceMul, Int.natCast_zero]
  · simp only [go_sem, ↓reduceIte, reduceCtorEq, Nat.reduceEqDiff, Nat.reduceAdd, Nat.reduceSub, Nat.reduceMul, Nat.reduceLT, Nat.reduceLeDiff, Int.reduceLT, Int.reduceLE, Int.reduceEq, Int.reduceNe, Int.reduceToNat, Int.reduceAdd, Int.reduceSub, Int.reduceMul, Int.natCast_zero]
  · simp only [go_sem, ↓reduceIte, reduceCtorEq, Nat.reduceEqDiff, Nat.reduceAdd, Nat.reduceSub, Nat.reduceMul, Nat.reduceLT, Nat.reduceLeDiff, Int.reduceLT, Int.reduceLE, Int.reduceEq, Int.reduceNe, Int.reduceToNat, Int.reduceAdd, Int.reduceSub, Int.reduceMul, Int.natCast_zero]
end Go.Proofs.Am
