/- The law SuccessionGrows, walked. -/
import Derived.Test.YtdfieogkeinkmaaGreatDoorW4
import Derived.Test.YtdfieogkeinkmaaGreatDoorEOne
import Derived.Test.YtdfieogkeinkmaaGreatDoorEFour
set_option linter.unusedSimpArgs false
set_option linter.unusedVariables false
namespace Go.Proofs.Am
open Go Go.RowKit
open Go.Proofs

theorem seatsG_el {r : Rl} {L : List Stm} (hr : ruleE r = 0) {i : Nat} (hi : i < (termsX r L).length) : seatsG r (el (termsX r L) i) (rcase i) = (stS r (el (termsX r L) i), 0) := by
  have h := termsX_spec hr L hi
  have h5 := seatsR_st hr h.1
  rw [seatsG_32 h.1.bea, ← h5, h.2.1]
theorem turnS_iff {l : List Stm} {n : Int} (s : Stm) : s ∈ turnS l n ↔ s ∈ l := ⟨turnS_mem, turnS_has⟩
theorem terms_turn {r : Rl} {L : List Stm} {n : Int} : termsX r (turnS L n) = termsX r L := terms_same (fun s => turnS_iff s) 40 (term0 r)
theorem turnS_len (l : List Stm) (n : Int) : (turnS l n).length = l.length := by simp [turnS]

set_option maxHeartbeats 1000000 in
set_option maxRecDepth 100000 in
theorem grows_den (l : List Int) (z turn : Int) (hz : 0 ≤ z ∧ z < 256) : Den Tryz.prog 4 [.vs (l.map i1), .int .u8 z, .int .i64 turn] [] (.bool true) [] [] := by
  refine den_of Tryz.mixed Tryz.func4 rfl Tryz.call4 Tryz.ntmps4 (congrArg Array.toList Tryz.results4) (by simp) (by kernel_rfl) [] (exts := []) rfl rfl ?_
  by_cases h400 : l.length ≤ 400
  rotate_left
  · have hd : decide (l.length ≤ 400) = false := decide_eq_false h400
    simp only [go_sem]
    refine call (light_den l) [] ?_
    simp only [go_sem, hd]
    refine call awake29_den [] ?_
    simp only [go_sem]
  have hd : decide (l.length ≤ 400) = true := decide_eq_true h400
  have hl : big l.length := by simp only [big]; omega
  have c1 := chain_den l 0 hl (Nat.zero_le _)
  have hB := mrules_RlB l 0
  have hr := mrules_ok l 0
  have hI := chainX_ok (l := l) (p := 0) (Nat.zero_le _)
  have hLl := hI.len
  have hLo : ∀ s ∈ (chainX l 0).L, bigS s := fun s hs => (hI.ok s hs).ok.big
  generalize chainX l 0 = X at *
  obtain ⟨p, L, ros, v⟩ := X
  generalize mrules l 0 = r at *
  simp only at c1 hLl hLo
  clear hI
  obtain ⟨k, hk, hkl⟩ : ∃ k : Nat, z.tmod ((L.length : Int) + 1) = (k : Int) ∧ k ≤ L.length := by
    have h1 := Int.tmod_nonneg ((L.length : Int) + 1) hz.1
    have h2 := Int.tmod_lt_of_pos z (show (0 : Int) < (L.length : Int) + 1 by omega)
    exact ⟨(z.tmod ((L.length : Int) + 1)).toNat, by omega, by omega⟩
  have w0 : IntKind.i64.wrap z = z := by rw [wrapI] <;> omega
  have w1 : IntKind.i64.wrap ((L.length : Int) + 1) = (L.length : Int) + 1 := by rw [wrapI] <;> omega
  have w2 : IntKind.i64.wrap (k : Int) = (k : Int) := by rw [wrapI] <;> omega
  have e1 : ¬ (L.length : Int) + 1 = 0 := by omega
  have t1 := termsP_den r (L.take k) hB (by rw [List.length_take]; omega) fun s hs => hLo s (List.mem_of_mem_take hs)
  have t2 := termsP_den r L hB (by omega) hLo
  have t3 := termsP_den r (turnS L turn) hB (by rw [turnS_len]; omega) fun s hs => hLo s (turnS_mem hs)
  have ct := mturn_den L turn (by omega)
  rw [termsE_ok hr] at t1 t2 t3
  rw [terms_turn] at t3
  have hgrow : (∀ u ∈ termsX r L, (stA r L u).length ≤ 1) → (termsX r (L.take k)).length ≤ (termsX r L).length ∧ ∀ i, i < (termsX r (L.take k)).length →
      el (termsX r (L.take k)) i = if i + 1 = (termsX r (L.take k)).length ∧ (el (termsX r (L.take k)) i).dec = false then { el (termsX r L) i with dec := false, nx := (el (termsX r (L.take k)) i).nx } else el (termsX r L) i := terms_grow (r := r) (a := L.take k) (b := L) (fun s hs => List.mem_of_mem_take hs) 40 (term0 r)
  have hA0 := termsX_pos r (L.take k)
  have hA40 := termsX_len r (L.take k)
  have hT40 := termsX_len r L
  have hTb := terms_bigT (r := r) (L := L) hr
  have hAb := terms_bigT (r := r) (L := L.take k) hr
  have hS := fun i (hi : i < (termsX r L).length) => seatsG_el (L := L) hr hi
  have hP := fun i (hi : i < (termsX r L).length) => linkP (L := L) hr hi
  generalize termsX r (L.take k) = A at *
  generalize hT : termsX r L = T at *
  have cS := sameTs_den T T (by simp only [big]; omega) (by simp only [big]; omega) hTb hTb
  have eA : ¬ (A.length : Int) = 0 := by omega
  have hRl : rl r = [.vs (r.gen.map i1), .vs (r.pol.se.map i1), .vs (r.pol.ta.map i1), .int .i64 r.pol.lv, .int .i64 r.seats, .int .i64 r.span, .int .i64 r.quota] := rfl
  rw [rl_eq] at c1 t1 t2 t3
  simp only [go_sem]
  refine call (light_den l) [] ?_
  simp only [go_sem, hd]
  refine call (roll9 l) [] ?_
  simp only [go_sem]
  refine call c1 [29] ?_
  simp only [go_sem, w0, w1, e1, hk, w2]
  refine ⟨⟨hkl, Nat.le_refl _⟩, call t1 [] ?_⟩
  simp only [go_sem]
  refine ⟨okD_of (by kernel_rfl), call t2 [] ?_⟩
  simp only [go_sem]
  refine call ct [] ?_
  simp only [go_sem]
  refine call t3 [] ?_
  simp only [go_sem]
  refine ⟨okD_of (by kernel_rfl), call cS [] ?_⟩
  simp only [go_sem, eA]
  rw [← hRl]
  refine loop Tryz.mixed (0 : Nat) (fun i : Nat => [(8, .ptr 8 0), (9, .vs (L.map sm)), (11, .vs (A.map tm)), (13, .vs (T.map tm)), (17, .int .i64 i)]) (fun i => [(8, .cells (rl r))]) (fun i => i ≤ T.length ∧ ∀ j < i, (stA r L (el T j)).length ≤ 1) (fun i => T.length - i) (by kernel_rfl) ⟨Nat.zero_le _, fun j hj => absurd hj (Nat.not_lt_zero j)⟩ ?_ ?_
  · simp only [go_sem]
  · rintro i ⟨hi, hone⟩
    by_cases h : i < T.length
    · have hlt : (i : Int) < (T.length : Int) := by omega
      have P := hP i h
      have hep := P.ep
      have cR := roster_den i
      have hC : cs (rcase (i : Int)) = [.int .i64 i, .int .i64 1, .int .i64 0, .int .i64 0] := rfl
      have hC' : cs ⟨(i : Int), 1, 0, 0⟩ = [.int .i64 i, .int .i64 1, .int .i64 0, .int .i64 0] := rfl
      have cP := seatsP_den r (el T i) (rcase i) hB (by have := P.ok.len; simp only [big]; omega)
      rw [hS i h] at cP
      have hSl := stS_len (r := r) (t := el T i) hr
      have cA := rall_den L (rcase i) (stS r (el T i)) (by omega) hLo (by simp only [big]; omega)
      rw [P.ck, if_pos rfl] at cA
      have hA : stA r L (el T i) = allV (stS r (el T i)) (votesL L (rcase i)) := by rw [← hep]; rfl
      rw [← hA] at cA
      rw [hC'] at cR
      rw [hC, tm_eq, hep, rl_eq] at cP
      rw [hC] at cA
      rw [rl_eq]
      simp only [go_sem, hlt, h, hep]
      refine call cR [] ?_
      simp only [go_sem]
      refine call cP [] ?_
      simp only [go_sem, h, hep]
      refine ⟨okD_of (by kernel_rfl), call cR [] ?_⟩
      simp only [go_sem]
      refine call cA [] ?_
      by_cases h1 : (1 : Int) < ((stA r L (el T i)).length : Int)
      · simp only [go_sem, h1]
        refine call awake29_den [] ?_
        simp only [go_sem]
      · simp only [go_sem, h1]
        refine ⟨i + 1, ⟨⟨by omega, fun j hj => ?_⟩, by omega⟩, by rw [wrapI] <;> omega⟩
        by_cases hji : j = i
        · subst hji; omega
        · exact hone j (by omega)
    · have hlt : ¬ (i : Int) < (T.length : Int) := by omega
      obtain ⟨g1, g2⟩ := hgrow fun u hu => by
        obtain ⟨j, hj, rfl⟩ := mem_el hu
        exact hone j (by omega)
      have g3 : ¬ (T.length : Int) < (A.length : Int) := by omega
      simp only [go_sem, hlt, g3]
      refine loop Tryz.mixed (0 : Nat) (fun i : Nat => [(11, .vs (A.map tm)), (13, .vs (T.map tm)), (22, .int .i64 i)]) (fun i => []) (fun i => i ≤ A.length) (fun i => A.length - i) (by kernel_rfl) (Nat.zero_le _) ?_ ?_
      · simp only [go_sem]
      · intro i hi
        by_cases h : i < A.length
        · have hlt : (i : Int) < (A.length : Int) := by omega
          have hT' : i < T.length := by omega
          have g4 := g2 i h
          have hb := hAb _ (el_mem h)
          have cE := sameT_den (el A i) (el A i) hb hb
          rw [decide_eq_true rfl] at cE
          have w4 : IntKind.i64.wrap ((A.length : Int) - 1) = (A.length : Int) - 1 := by rw [wrapI] <;> omega
          by_cases hlast : i + 1 = A.length
          · have w3 : IntKind.i64.wrap ((A.length : Int) - 1) = (i : Int) := by rw [wrapI] <;> omega
            by_cases hdd : (el A i).dec = false
            · rw [if_pos ⟨hlast, hdd⟩] at g4
              have q1 : (el T i).ep = (el A i).ep := by rw [g4]
              have q2 : (el T i).ros = (el A i).ros := by rw [g4]
              have q3 : (el T i).bea = (el A i).bea := by rw [g4]
              rw [tm_eq, hdd] at cE
              simp only [go_sem, hlt, h, hT', w3, hdd, q1, q2, q3]
              refine ⟨okD_of (by kernel_rfl), call cE [] ?_⟩
              simp only [go_sem]
              exact ⟨okD_of (by kernel_rfl), i + 1, ⟨by omega, by omega⟩, by rw [wrapI] <;> omega⟩
            · rw [if_neg fun hh => hdd hh.2] at g4
              have hdd : (el A i).dec = true := by
                rcases Bool.eq_false_or_eq_true (el A i).dec with hh | hh
                · exact hh
                · exact absurd hh hdd
              rw [g4, tm_eq] at cE
              rw [g4] at hdd
              rw [hdd] at cE
              simp only [go_sem, hlt, h, hT', w3, g4, hdd]
              refine call cE [] ?_
              simp only [go_sem]
              exact ⟨okD_of (by kernel_rfl), i + 1, ⟨by omega, by omega⟩, by rw [wrapI] <;> omega⟩
          · have l1 : ¬ (i : Int) = (A.length : Int) - 1 := by omega
            rw [if_neg fun hh => hlast hh.1] at g4
            rw [g4, tm_eq] at cE
            simp only [go_sem, hlt, h, hT', w4, l1, g4]
            refine call cE [] ?_
            simp only [go_sem]
            exact ⟨okD_of (by kernel_rfl), i + 1, ⟨by omega, by omega⟩, by rw [wrapI] <;> omega⟩
        · have hlt : ¬ (i : Int) < (A.length : Int) := by omega
          simp only [go_sem, hlt]
          refine call awake29_den [] ?_
          simp only [go_sem]
end Go.Proofs.Am
