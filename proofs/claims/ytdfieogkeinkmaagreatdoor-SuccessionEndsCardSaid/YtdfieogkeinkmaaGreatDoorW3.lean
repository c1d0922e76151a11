/- The law SuccessionEnds, walked. -/
import Derived.Test.YtdfieogkeinkmaaGreatDoorWOne
set_option linter.unusedSimpArgs false
set_option linter.unusedVariables false
namespace Go.Proofs.Am
open Go Go.RowKit
open Go.Proofs

/-- The seats that decide first. -/
def seat0 (r : Rl) : List Int := stS r (term0 r)
theorem atX_nil {r : Rl} (hr : ruleE r = 0) : atX r [] 0 = (term0 r, 0) := by
  unfold atX
  rw [termsE_ok hr, terms_nil]
  rfl
theorem seatsG_first {r : Rl} (hr : ruleE r = 0) : seatsG r (term0 r) (rcase 0) = (seat0 r, 0) := by
  rw [seatsG_32 (term0_ok hr).bea]
  exact seatsR_st hr (term0_ok hr)
theorem seat0_end {r : Rl} (hr : ruleE r = 0) : EndP (rcase 0) (seat0 r) := EndP.of (stS_ck (t := term0 r) hr (term0_ok hr))
theorem allFor_ok {c : Cs} {nu : Int} {x : Ct} {seats : List Int} (hx : okCt x) : ∀ s ∈ allFor c nu x seats, okS s := fun s hs => by
  obtain ⟨k, _, rfl⟩ := mem_allFor.1 hs
  exact vt_okS _ _ _ hx
/-- What the law looks at. -/
theorem ends_law {r : Rl} {x y : Ct} (hr : ruleE r = 0) (hx : rightB (rcase 0) x = true) (hy : rightB (rcase 0) y = true) (sx : smallN x.li) :
    ((termsX r (allFor (rcase 0) 0 x (seat0 r))).length = 2 ∧ (el (termsX r (allFor (rcase 0) 0 x (seat0 r))) 0).dec = true) ∧
    (0 < (termsX r (allFor (rcase 0) 0 x (seat0 r) ++ allFor (rcase 0) 1 y (seat0 r))).length) ∧
    ((termsX r (allFor (rcase 0) 0 x (seat0 r) ++ allFor (rcase 0) 1 y (seat0 r))).length = 2 ↔ x = y) ∧
    (el (termsX r (allFor (rcase 0) 0 x (seat0 r) ++ allFor (rcase 0) 1 y (seat0 r))) 0).dec = decide (x = y) ∧
    ((seat0 r).length ≤ 4 → (termsX r ((allFor (rcase 0) 0 x (seat0 r)).take ((seat0 r).length - 1))).length = 1 ∧ (el (termsX r ((allFor (rcase 0) 0 x (seat0 r)).take ((seat0 r).length - 1))) 0).dec = false) := by
  have hE := seat0_end hr
  have e1 : ∀ L, stA r L (term0 r) = allV (seat0 r) (votesL L (rcase 0)) := fun _ => rfl
  refine ⟨terms_two ((e1 _).trans (ends_one hE hx)) sx fun s hs d hd => (votes_for hE (by omega) hx hs).2.1 hd, termsX_pos _ _, ?_⟩
  have h2 : (termsX r (allFor (rcase 0) 0 x (seat0 r) ++ allFor (rcase 0) 1 y (seat0 r))).length = (if x = y then 2 else 1) ∧ (el (termsX r (allFor (rcase 0) 0 x (seat0 r) ++ allFor (rcase 0) 1 y (seat0 r))) 0).dec = decide (x = y) := by
    by_cases h : x = y
    · subst h
      have := terms_two ((e1 _).trans (ends_same hE hx)) sx fun s hs d hd => by
        rcases List.mem_append.1 hs with hs | hs
        · exact (votes_for hE (by omega) hx hs).2.1 hd
        · exact (votes_for hE (by omega) hx hs).2.1 hd
      rw [if_pos rfl]
      exact ⟨this.1, by rw [this.2]; simp⟩
    · have := terms_stop (r := r) (L := allFor (rcase 0) 0 x (seat0 r) ++ allFor (rcase 0) 1 y (seat0 r)) (by rw [e1]; exact ends_two hE hx hy h)
      rw [this.1, if_neg h]
      exact ⟨rfl, by rw [el_zero, this.2]; simp [h]⟩
  refine ⟨?_, h2.2, fun h4 => ?_⟩
  · rw [h2.1]
    split <;> simp_all
  · have := terms_stop (r := r) (L := (allFor (rcase 0) 0 x (seat0 r)).take ((seat0 r).length - 1)) (by rw [e1, ends_less hE hx h4]; simp)
    rw [this.1]
    exact ⟨rfl, by rw [el_zero, this.2]⟩

set_option maxHeartbeats 1000000 in
set_option maxRecDepth 100000 in
theorem ends_den (l : List Int) : Den Tryz.prog 7 [.vs (l.map i1)] [] (.bool true) [] [] := by
  refine den_of Tryz.mixed Tryz.func7 rfl Tryz.call7 Tryz.ntmps7 (congrArg Array.toList Tryz.results7) (by simp) (by kernel_rfl) [] (exts := []) rfl rfl ?_
  by_cases h400 : l.length ≤ 400
  rotate_left
  · have hd : decide (l.length ≤ 400) = false := decide_eq_false h400
    simp only [go_sem]
    refine call (light_den l) [] ?_
    simp only [go_sem, hd]
    refine call awake29_den [] ?_
    simp only [go_sem]
  have hd : decide (l.length ≤ 400) = true := decide_eq_true h400
  have hl : big l.length := by simp only [big]; omega
  have c1 := mrules_den l 0 hl (Nat.zero_le _)
  have hB := mrules_RlB l 0
  have hr := mrules_ok l 0
  have hp8 := dgo_le (l := l) (p := 0) (Nat.zero_le _) 8
  generalize mrules l 0 = r at *
  generalize dgo l 0 8 = p at *
  have hE := seat0_end hr
  have cA := atP_den r [] 0 hB (by simp) (by simp)
  rw [atX_nil hr] at cA
  have cS := seatsP_den r (term0 r) (rcase 0) hB (by have := (term0_ok hr).len; simp only [big]; omega)
  rw [seatsG_first hr] at cS
  have cX := content_den l p (rcase 0) hl hp8
  have cY := content_den l (mcont l p (rcase 0)).2 (rcase 0) hl (mcont_le hp8 _)
  have oX := mcont_ok l p (rcase 0)
  have oY := mcont_ok l (mcont l p (rcase 0)).2 (rcase 0)
  have hL := ends_law hr (mcont_right l p rfl) (mcont_right l (mcont l p (rcase 0)).2 rfl) (mcont_small l p rfl)
  generalize mcont l p (rcase 0) = X at *
  generalize mcont l X.2 (rcase 0) = Y at *
  obtain ⟨x, q1⟩ := X
  obtain ⟨y, q2⟩ := Y
  simp only at oX oY hL cX cY
  have hC : cs (rcase 0) = [.int .i64 0, .int .i64 1, .int .i64 0, .int .i64 0] := rfl
  have cR := roster_den 0
  have hC' : cs ⟨0, 1, 0, 0⟩ = [.int .i64 0, .int .i64 1, .int .i64 0, .int .i64 0] := rfl
  rw [hC'] at cR
  have cv := fun k => vote_den k 0 (rcase 0) x oX
  have cw := fun k => vote_den k 1 (rcase 0) y oY
  have m1 := allFor_ok (c := rcase 0) (nu := 0) (seats := seat0 r) oX
  have m2 := allFor_ok (c := rcase 0) (nu := 1) (seats := seat0 r) oY
  have n1 : (allFor (rcase 0) 0 x (seat0 r)).length = (seat0 r).length := by simp [allFor]
  have n2 : (allFor (rcase 0) 1 y (seat0 r)).length = (seat0 r).length := by simp [allFor]
  have hn9 := hE.n9
  have hn1 := hE.n0
  have t1 := termsP_den r (allFor (rcase 0) 0 x (seat0 r)) hB (by omega) fun s hs => (m1 s hs).big
  have t2 := termsP_den r (allFor (rcase 0) 0 x (seat0 r) ++ allFor (rcase 0) 1 y (seat0 r)) hB (by rw [List.length_append]; omega) fun s hs => by
    rcases List.mem_append.1 hs with hs | hs
    · exact (m1 s hs).big
    · exact (m2 s hs).big
  have t3 := termsP_den r ((allFor (rcase 0) 0 x (seat0 r)).take ((seat0 r).length - 1)) hB (by rw [List.length_take]; omega) fun s hs => (m1 s (List.mem_of_mem_take hs)).big
  rw [termsE_ok hr] at t1 t2 t3
  have cO := order23_den x y (okCt_big oX).1 (okCt_big oX).2 (okCt_big oY).1 (okCt_big oY).2
  have hOxy := ordC_eq x y
  have f1 : ∀ i, i < (seat0 r).length → (allFor (rcase 0) 0 x (seat0 r)).take (i + 1) = (allFor (rcase 0) 0 x (seat0 r)).take i ++ [vt (el (seat0 r) i) 0 (rcase 0) x] := fun i hi => by
    unfold allFor
    rw [← List.map_take, ← List.map_take, take_el hi, List.map_append]
    rfl
  have f2 : ∀ i, i < (seat0 r).length → (allFor (rcase 0) 1 y (seat0 r)).take (i + 1) = (allFor (rcase 0) 1 y (seat0 r)).take i ++ [vt (el (seat0 r) i) 1 (rcase 0) y] := fun i hi => by
    unfold allFor
    rw [← List.map_take, ← List.map_take, take_el hi, List.map_append]
    rfl
  obtain ⟨⟨A1, A2⟩, A3, A4, A5, A6⟩ := hL
  generalize termsX r (allFor (rcase 0) 0 x (seat0 r)) = T1 at *
  generalize termsX r (allFor (rcase 0) 0 x (seat0 r) ++ allFor (rcase 0) 1 y (seat0 r)) = T2 at *
  generalize termsX r ((allFor (rcase 0) 0 x (seat0 r)).take ((seat0 r).length - 1)) = T3 at *
  generalize allFor (rcase 0) 0 x (seat0 r) = V1 at *
  generalize allFor (rcase 0) 1 y (seat0 r) = V2 at *
  generalize seat0 r = S at *
  rw [hC] at cX cY cS cv cw
  rw [tm_eq] at cA cS
  rw [ct_eq] at cX cY cv cw
  rw [ct_eq, ct_eq] at cO
  rw [rl_eq] at *
  have u4 : Tryz.prog.underlying 4 = some .bool := by kernel_rfl
  simp only [go_sem]
  refine call (light_den l) [] ?_
  simp only [go_sem, hd]
  refine call (roll9 l) [] ?_
  simp only [go_sem]
  refine call c1 [27] ?_
  simp only [go_sem]
  refine call cR [] ?_
  simp only [go_sem]
  refine call cA [] ?_
  simp only [go_sem]
  refine call cS [] ?_
  simp only [go_sem]
  refine call cX [27] ?_
  simp only [go_sem]
  refine call cY [27] ?_
  simp only [go_sem]
  refine ⟨okD_of (by kernel_rfl), ?_⟩
  refine promote 12 120 41 13 false ?_ ?_ ?_ (by omega)
  · refine promote 13 130 41 13 false ?_ ?_ ?_ (by omega)
    · refine loop Tryz.mixed (0 : Nat) (fun i : Nat => [(4, .ptr 4 0), (5, .ptr 5 0), (7, .int .i64 0), (8, .vs (S.map i1)), (9, .int .i64 0), (10, .ptr 10 0), (11, .ptr 11 0), (12, .os 120 (V1.take i).length), (13, .os 130 (V2.take i).length), (14, .int .i64 i)]) (fun i => [(4, .cells [.vs (r.gen.map i1), .vs (r.pol.se.map i1), .vs (r.pol.ta.map i1), .int .i64 r.pol.lv, .int .i64 r.seats, .int .i64 r.span, .int .i64 r.quota]), (5, .cells [.int .i64 0, .int .i64 1, .int .i64 0, .int .i64 0]), (10, .cells (ct x)), (11, .cells (ct y)), (120, .arr 41 13 false ((V1.take i).map sm)), (130, .arr 41 13 false ((V2.take i).map sm))]) (fun i => i ≤ S.length) (fun i => S.length - i) (by kernel_rfl) (Nat.zero_le _) ?_ ?_
      · simp only [go_sem, List.take_zero, List.map_nil, List.length_nil]
      · intro i hi
        by_cases h : i < S.length
        · have hlt : (i : Int) < (S.length : Int) := by omega
          have f1 := f1 i h
          have f2 := f2 i h
          have cv := cv (el S i)
          have cw := cw (el S i)
          have q1 : (V1.take i).length = i := by rw [List.length_take]; omega
          have q2 : (V2.take i).length = i := by rw [List.length_take]; omega
          generalize vt (el S i) 0 (rcase 0) x = v at *
          generalize vt (el S i) 1 (rcase 0) y = w at *
          simp only [go_sem, hlt, h]
          refine call cv [] ?_
          simp only [go_sem]
          refine ⟨by omega, okD_of (by kernel_rfl), h, call cw [] ?_⟩
          simp only [go_sem]
          have q1' : (V1.take (i + 1)).length = i + 1 := by rw [List.length_take]; omega
          have q2' : (V2.take (i + 1)).length = i + 1 := by rw [List.length_take]; omega
          refine ⟨by omega, okD_of (by kernel_rfl), i + 1, ⟨by omega, by omega⟩, ⟨by omega, by omega, by rw [wrapI] <;> omega⟩, ?_, ?_⟩
          · rw [f1, List.map_append]; rfl
          · rw [f2, List.map_append]; rfl
        · have : i = S.length := by omega
          subst this
          have hlt : ¬ (S.length : Int) < (S.length : Int) := by omega
          have g0 : ¬ (V1.length : Int) = 0 := by omega
          have e1 : V1.take S.length = V1 := List.take_of_length_le (by omega)
          have e2 : V2.take S.length = V2 := List.take_of_length_le (by omega)
          rw [e1, e2]
          simp only [go_sem, hlt, g0]
          refine call t1 [] ?_
          simp only [go_sem]
          rw [List.map_append] at t2
          refine ⟨by omega, by omega, call t2 [] ?_⟩
          have w1 : IntKind.i64.wrap ((V1.length : Int) - 1) = ((S.length - 1 : Nat) : Int) := by rw [wrapI] <;> omega
          simp only [go_sem, w1]
          refine ⟨okD_of (by kernel_rfl), ⟨by omega, by omega⟩, call t3 [] ?_⟩
          have z1 : (T1.length : Int) = 2 := by omega
          have z1' : 0 < T1.length := by omega
          have z2 : (0 : Int) < (T2.length : Int) := by omega
          have gS : ¬ (S.length : Int) = 0 := by omega
          simp only [go_sem, gS]
          refine ⟨okD_of (by kernel_rfl), call cO [] ?_⟩
          by_cases hxy : x = y
          · have z3 : (T2.length : Int) = 2 := by have := A4.2 hxy; omega
            rw [decide_eq_true hxy] at A5
            have z4 := hOxy.2 hxy
            by_cases h4 : (S.length : Int) ≤ 4
            · obtain ⟨B1, B2⟩ := A6 (by omega)
              have z5 : (T3.length : Int) = 1 := by omega
              have z5' : 0 < T3.length := by omega
              have z6 : ¬ (4 : Int) < (S.length : Int) := by omega
              simp only [go_sem, z1, z1', z2, z3, z4, A2, A3, A5, u4, z5, z5', z6, B2]
              refine call awake29_den [] ?_
              simp only [go_sem]
              done
            · have z6 : (4 : Int) < (S.length : Int) := by omega
              simp only [go_sem, z1, z1', z2, z3, z4, A2, A3, A5, u4, z6]
              refine call awake29_den [] ?_
              simp only [go_sem]
              done
          · have z3 : ¬ (T2.length : Int) = 2 := fun h => hxy (A4.1 (by omega))
            rw [decide_eq_false hxy] at A5
            have z4 : ¬ ordC x y = 0 := fun h => hxy (hOxy.1 h)
            by_cases h4 : (S.length : Int) ≤ 4
            · obtain ⟨B1, B2⟩ := A6 (by omega)
              have z5 : (T3.length : Int) = 1 := by omega
              have z5' : 0 < T3.length := by omega
              have z6 : ¬ (4 : Int) < (S.length : Int) := by omega
              simp only [go_sem, z1, z1', z2, z3, z4, A2, A3, A5, u4, z5, z5', z6, B2]
              refine call awake29_den [] ?_
              simp only [go_sem]
              done
            · have z6 : (4 : Int) < (S.length : Int) := by omega
              simp only [go_sem, z1, z1', z2, z3, z4, A2, A3, A5, u4, z6]
              refine call awake29_den [] ?_
              simp only [go_sem]
              done
    · simp only [go_sem]
    · simp only [go_sem]
  · simp only [go_sem]
  · simp only [go_sem]
end Go.Proofs.Am
