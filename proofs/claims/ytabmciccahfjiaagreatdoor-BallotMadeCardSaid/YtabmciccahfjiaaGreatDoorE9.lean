/- BallotMade, walked. -/
import Derived.Test.YtabmciccahfjiaaGreatDoorEFour
set_option linter.unusedSimpArgs false
set_option linter.unusedVariables false
namespace Go.Proofs.Am
open Go Go.RowKit
open Go.Proofs

set_option maxHeartbeats 1000000 in
set_option maxRecDepth 100000 in
theorem made_den (l : List Int) (more : List Stm) (turn : Int) (hm : big more.length) (hs : ∀ s ∈ more, bigS s) : Den Tryz.prog 6 [.vs (l.map i1), .vs (more.map sm), .int .i64 turn] [] (.bool true) [] [] := by
  refine den_of Tryz.mixed Tryz.func6 rfl Tryz.call6 Tryz.ntmps6 (congrArg Array.toList Tryz.results6) (by simp) (by kernel_rfl) [] (exts := []) rfl rfl ?_
  by_cases h0 : l.length ≤ 400
  rotate_left
  · simp only [go_sem]
    refine call (light_den l) [] ?_
    simp only [go_sem, h0]
    refine call awake27_den [] ?_
    simp only [go_sem]
  by_cases h1 : 10 < (more.length : Int)
  · simp only [go_sem]
    refine call (light_den l) [] ?_
    simp only [go_sem, h0, h1]
    refine call awake27_den [] ?_
    simp only [go_sem]
  have hl : big l.length := by simp only [big]; omega
  simp only [go_sem]
  refine call (light_den l) [] ?_
  simp only [go_sem, h0, h1]
  refine call (roll9 l) [] ?_
  simp only [go_sem]
  refine call (next_den l 0 2 hl (Nat.zero_le _) (by omega)) [21] ?_
  simp only [go_sem]
  have hp1 : dpos l 0 ≤ l.length := dpos_le (Nat.zero_le _)
  refine call (mcase_den l (dpos l 0) (dnext l 0 2) hl hp1) [21] ?_
  have hp2 := mcase_le hp1 (dnext l 0 2)
  generalize mcase l (dpos l 0) (dnext l 0 2) = M at *
  obtain ⟨c, p⟩ := M
  simp only at hp2
  simp only [go_sem, cs_eq]
  refine call (next_den l p 3 hl hp2 (by omega)) [21] ?_
  have b1 := dnext_lt (l := l) (p := p) (n := 3) (by omega)
  have hp3 : dpos l p ≤ l.length := dpos_le hp2
  generalize dnext l p 3 = k at *
  generalize dpos l p = q at *
  obtain ⟨k, rfl⟩ : ∃ m : Nat, k = m := ⟨k.toNat, by omega⟩
  have w1 : IntKind.i64.wrap (1 + (k : Int)) = ((k + 1 : Nat) : Int) := by rw [wrapI] <;> omega
  simp only [go_sem, w1]
  refine promote 8 110 63 13 false ?_ ?_ ?_ (by omega)
  · refine loop Tryz.mixed (k + 1, q, []) (fun s : Nat × Nat × List Stm => [(1, .vs (more.map sm)), (2, .int .i64 turn), (7, .ptr 21 0), (8, .os 110 s.2.2.length), (9, .ptr 9 0), (10, .int .i64 s.1)]) (fun s => [(21, dbox l s.2.1), (9, .cells [.int .i64 c.ep, .int .i64 c.kd, .int .i64 c.su, .int .i64 c.ro]), (110, .arr 63 13 false (s.2.2.map sm))]) (fun s => s.2.1 ≤ l.length ∧ s.2.2.length + 30 * s.1 ≤ 90 ∧ ∀ x ∈ s.2.2, bigS x) (fun s => s.1) (by kernel_rfl) ⟨hp3, by simp only [List.length_nil]; omega, by simp⟩ ?_ ?_
    · simp only [go_sem]
    · rintro ⟨i, p, s⟩ ⟨i1, i2, i3⟩
      simp only at i1 i2 i3
      by_cases hi : 0 < (i : Int)
      · have k1 := dkpos_le2 l 6 p i1
        have k2 := dkeys_le l 6 p
        have v1 := mvotes_le k1 c (dkeys l 6 p)
        have v2 := mvotes_len l (dkpos l 6 p) c (dkeys l 6 p)
        have v3 := mvotes_okS l (dkpos l 6 p) c (dkeys l 6 p)
        have cv := votes_den l (dkpos l 6 p) c (dkeys l 6 p) hl k1 (by omega)
        rw [cs_eq] at cv
        simp only [go_sem, hi]
        refine call (keys_den l p 6 hl i1 (by omega)) [21] ?_
        simp only [go_sem]
        refine call cv [21] ?_
        clear cv
        generalize mvotes l (dkpos l 6 p) c (dkeys l 6 p) = V at *
        obtain ⟨V, p1⟩ := V
        simp only at v1 v2 v3
        simp only [go_sem]
        (repeat refine And.intro (by first | omega | exact okD_of (by kernel_rfl)) ?_)
        rw [← List.map_append, ← List.length_append]
        have g1 : (s ++ V).length ≤ s.length + 15 := by rw [List.length_append]; omega
        have g2 : ∀ x ∈ s ++ V, bigS x := fun x hx => by
          rcases List.mem_append.1 hx with h | h
          · exact i3 x h
          · exact (v3 x h).big
        clear i3 v3
        generalize s ++ V = s1 at *
        obtain ⟨i, rfl⟩ : ∃ m, i = m + 1 := ⟨i - 1, by omega⟩
        have w2 : IntKind.i64.wrap (((i + 1 : Nat) : Int) - 1) = (i : Int) := by rw [wrapI] <;> omega
        have p2 := dpos_le v1
        refine call (one_den l p1 2 hl v1 (by omega) (by omega)) [21] ?_
        cases hb : decide (dnext l p1 2 = 2 - 1) with
        | false =>
          simp only [go_sem, w2]
          refine ⟨(i, dpos l p1, s1), ⟨⟨p2, by simp only; omega, g2⟩, by simp only; omega⟩, ?_⟩
          exact ⟨⟨rfl, rfl⟩, rfl, rfl⟩
        | true =>
          generalize dpos l p1 = q2 at *
          have p3 := dpos_le p2
          have m1 := mcase_le p3 (dnext l q2 2)
          have cm := mcase_den l (dpos l q2) (dnext l q2 2) hl p3
          generalize mcase l (dpos l q2) (dnext l q2 2) = M at *
          obtain ⟨c2, q3⟩ := M
          simp only at m1 cm
          rw [cs_eq] at cm
          have n1 := dkpos_le2 l 4 q3 m1
          have n2 := dkeys_le l 4 q3
          have u1 := mvotes_le n1 c2 (dkeys l 4 q3)
          have u2 := mvotes_len l (dkpos l 4 q3) c2 (dkeys l 4 q3)
          have u3 := mvotes_okS l (dkpos l 4 q3) c2 (dkeys l 4 q3)
          have cv := votes_den l (dkpos l 4 q3) c2 (dkeys l 4 q3) hl n1 (by omega)
          rw [cs_eq] at cv
          simp only [go_sem]
          refine call (next_den l q2 2 hl p2 (by omega)) [21] ?_
          simp only [go_sem]
          refine call cm [21] ?_
          simp only [go_sem]
          refine call (keys_den l q3 4 hl m1 (by omega)) [21] ?_
          simp only [go_sem]
          refine call cv [21] ?_
          clear cv
          generalize mvotes l (dkpos l 4 q3) c2 (dkeys l 4 q3) = V2 at *
          obtain ⟨V2, q4⟩ := V2
          simp only at u1 u2 u3
          simp only [go_sem, w2]
          (repeat refine And.intro (by first | omega | exact okD_of (by kernel_rfl)) ?_)
          refine ⟨(i, q4, s1 ++ V2), ⟨⟨u1, by simp only [List.length_append]; omega, fun x hx => ?_⟩, by simp only; omega⟩, ?_⟩
          · rcases List.mem_append.1 hx with h | h
            · exact g2 x h
            · exact (u3 x h).big
          · simp only [List.length_append, List.map_append]
            exact ⟨⟨trivial, trivial⟩, trivial, trivial⟩
      · have k2 := dskip_le l 7 p i1
        have k3 := dsome_len l 7 0 p
        have hall : ∀ x ∈ turnS (s ++ more) turn, bigS x := fun x hx => by
          rcases List.mem_append.1 (turnS_mem hx) with h | h
          · exact i3 x h
          · exact hs x h
        have hln : (turnS (s ++ more) turn).length ≤ 900 := by simp [turnS]; omega
        have ca := agree_den (turnS (s ++ more) turn) c (dsome l 7 0 p) hln hall (by simp only [big]; omega)
        rw [cs_eq] at ca
        simp only [go_sem, hi]
        (repeat refine And.intro (by first | omega | exact okD_of (by kernel_rfl)) ?_)
        rw [← List.map_append, ← List.length_append]
        refine call (mturn_den (s ++ more) turn (by simp; omega)) [] ?_
        simp only [go_sem]
        refine call (some_vs l p 7 hl i1 (by omega)) [21] ?_
        simp only [go_sem]
        refine call ca [] ?_
        simp only [go_sem]
        refine call awake27_den [] ?_
        simp only [go_sem]
        try exact okD_of (by kernel_rfl)
  · simp only [go_sem]
  · simp only [go_sem]
end Go.Proofs.Am
