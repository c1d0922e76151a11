/- AdmissionApplies. -/
import Derived.Test.YthcphdogfdghkaaB21
set_option linter.unusedSimpArgs false
set_option linter.unusedVariables false
namespace Go.Proofs.Am
open Go Go.RowKit
open Go.Proofs

theorem okS_stmt (au nu ti : Int) (d : Drf) (h1 : d.li.length ≤ 1000) (h2 : d.pins = []) : okS (stmt au nu ti d) := by
  have : okS (sealS ⟨au, nu, if 0 < nu then List.replicate 32 0 else [], ti, d.kd, d.a, d.b, d.c, d.li, d.pins, [], 0, []⟩) := by
    simp only [okS, sealS, stB, pre2, pre1, hdB, List.length_append, beL_len, be8_len, txB_len, l5, List.length_cons, List.length_nil, h2, List.flatMap_nil]
    split <;> simp <;> omega
  exact this
theorem counts_kd {au nu ti : Int} {d : Drf} (h : d.kd ≠ 11) : counts (stmt au nu ti d) = false := by
  have : (stmt au nu ti d).kd = d.kd := rfl
  simp [counts, isApp, this, h]
theorem mdraft_small (l : List Int) (p : Nat) (me : Int) (n : Nat) (ti : Int) (hp : p ≤ l.length) (hn : n ≤ 1000) : ((mdraft l p me n ti).1.li.length ≤ 1000 ∧ (mdraft l p me n ti).1.pins = []) ∧ (mdraft l p me n ti).2 ≤ l.length := by
  have h1 := dpos_le hp
  have h2 := dpos_le h1
  have h3 := dpos_le h2
  have h4 := dpos_le h3
  have hg : (mguard l (dpos l (dpos l p)) me n).length ≤ 64 := keysW_len _ 64
  have hd := dsome_len l n 0 (dpos l (dpos l (dpos l p)))
  have hk := dkpos_le l n (dpos l (dpos l p)) h2
  have hk2 := dpos_le hk
  have hs := dskip_le l n (dpos l (dpos l (dpos l p))) h3
  unfold mdraft
  simp only
  split
  · exact ⟨⟨by simp, rfl⟩, h3⟩
  split
  · exact ⟨⟨by simp [appD], rfl⟩, h2⟩
  split
  · exact ⟨⟨by simp only; omega, rfl⟩, hk2⟩
  split
  · exact ⟨⟨by simp, rfl⟩, h3⟩
  split
  · exact ⟨⟨by simp only; omega, rfl⟩, hs⟩
  split
  · exact ⟨⟨by simp, rfl⟩, h4⟩
  · exact ⟨⟨by simp, rfl⟩, h4⟩
theorem apps_snoc (ss : List Stm) (s : Stm) : apps (ss ++ [s]) = apps ss ++ (if counts s then [s.au] else []) := by
  rw [apps, apps, List.filter_append, List.map_append, List.filter_cons, List.filter_nil]
  cases counts s <;> rfl
theorem tm20 (n : Nat) : ((n : Nat) : Int).tmod 20 = ((n % 20 : Nat) : Int) := rfl

set_option maxHeartbeats 1000000 in
set_option maxRecDepth 100000 in
theorem applies_den (l : List Int) (f : Nat) (hf : f < 256) : Den Try.prog 5 [.vs (l.map i1), .int .u8 f] [] (.bool true) [] [] := by
  refine den_of Try.mixed Try.func5 rfl Try.call5 Try.ntmps5 (congrArg Array.toList Try.results5) (by simp) (by kernel_rfl) [] (exts := []) rfl rfl ?_
  simp only [go_sem, ↓reduceIte, reduceCtorEq, Nat.reduceEqDiff, Nat.reduceAdd, Nat.reduceSub, Nat.reduceMul, Nat.reduceLT, Nat.reduceLeDiff, Int.reduceLT, Int.reduceLE, Int.reduceEq, Int.reduceNe, Int.reduceToNat, Int.reduceAdd, Int.reduceSub, Int.reduceMul, Int.natCast_zero]
  refine call (light_den l) [] ?_
  by_cases h1 : l.length ≤ 400
  · simp only [go_sem, ↓reduceIte, reduceCtorEq, Nat.reduceEqDiff, Nat.reduceAdd, Nat.reduceSub, Nat.reduceMul, Nat.reduceLT, Nat.reduceLeDiff, Int.reduceLT, Int.reduceLE, Int.reduceEq, Int.reduceNe, Int.reduceToNat, Int.reduceAdd, Int.reduceSub, Int.reduceMul, Int.natCast_zero, h1]
    have hl : big l.length := by simp only [big]; omega
    refine call (roll9 l) [] ?_
    simp only [go_sem, ↓reduceIte, reduceCtorEq, Nat.reduceEqDiff, Nat.reduceAdd, Nat.reduceSub, Nat.reduceMul, Nat.reduceLT, Nat.reduceLeDiff, Int.reduceLT, Int.reduceLE, Int.reduceEq, Int.reduceNe, Int.reduceToNat, Int.reduceAdd, Int.reduceSub, Int.reduceMul, Int.natCast_zero]
    refine call (next_den l 0 12 hl (by omega) (by omega)) [17] ?_
    have hp0 : dpos l 0 ≤ l.length := dpos_le (by omega)
    have hc := dnext_lt (l := l) (p := 0) (n := 12) (by omega)
    obtain ⟨c, hcc⟩ : ∃ c : Nat, dnext l 0 12 = (c : Int) := ⟨(dnext l 0 12).toNat, by omega⟩
    rw [hcc] at hc ⊢
    generalize dpos l 0 = p0 at *
    simp only [go_sem, ↓reduceIte, reduceCtorEq, Nat.reduceEqDiff, Nat.reduceAdd, Nat.reduceSub, Nat.reduceMul, Nat.reduceLT, Nat.reduceLeDiff, Int.reduceLT, Int.reduceLE, Int.reduceEq, Int.reduceNe, Int.reduceToNat, Int.reduceAdd, Int.reduceSub, Int.reduceMul, Int.natCast_zero]
    refine promote 6 98 41 13 false ?_ ?_ ?_ (by omega)
    · refine promote 7 99 3 1 false ?_ ?_ ?_ (by omega)
      · refine loop Try.mixed ((0, p0, [], []) : Nat × Nat × List Stm × List Int)
          (fun j => [(1, .int .u8 f), (5, .ptr 17 0), (6, .os 98 j.2.2.1.length), (7, .os 99 j.2.2.2.length), (8, .int .i64 ((c : Int) - (j.1 : Int)))])
          (fun j => [(17, dbox l j.2.1), (98, .arr 41 13 false (j.2.2.1.map sm)), (99, .arr 3 1 false (j.2.2.2.map i1))])
          (fun j => j.1 ≤ c ∧ j.2.1 ≤ l.length ∧ j.2.2.1.length ≤ j.1 ∧ j.2.2.2.length ≤ j.1 ∧ (∀ s ∈ j.2.2.1, okS s) ∧ apps j.2.2.1 = j.2.2.2 ∧ ∀ x ∈ j.2.2.2, 0 ≤ x ∧ x < 12) (fun j => c - j.1) (by kernel_rfl) ?_ ?_ ?_
        · exact ⟨by simp, hp0, by simp, by simp, by simp, rfl, by simp⟩
        · simp only [go_sem, ↓reduceIte, reduceCtorEq, Nat.reduceEqDiff, Nat.reduceAdd, Nat.reduceSub, Nat.reduceMul, Nat.reduceLT, Nat.reduceLeDiff, Int.reduceLT, Int.reduceLE, Int.reduceEq, Int.reduceNe, Int.reduceToNat, Int.reduceAdd, Int.reduceSub, Int.reduceMul, Int.natCast_zero]
          omega
        · rintro ⟨j, p, ss, who⟩ ⟨hj, hp, hss, hwh, hok, hap, hrg⟩
          simp only at hj hp hss hwh hok hap hrg
          by_cases hj' : j < c
          · have hlt : (0 : Int) < (c : Int) - (j : Int) := by omega
            have wj : IntKind.i64.wrap ((c : Int) - (j : Int) - 1) = (c : Int) - ((j + 1 : Nat) : Int) := by rw [wrapI] <;> omega
            simp only [go_sem, ↓reduceIte, reduceCtorEq, Nat.reduceEqDiff, Nat.reduceAdd, Nat.reduceSub, Nat.reduceMul, Nat.reduceLT, Nat.reduceLeDiff, Int.reduceLT, Int.reduceLE, Int.reduceEq, Int.reduceNe, Int.reduceToNat, Int.reduceAdd, Int.reduceSub, Int.reduceMul, Int.natCast_zero, hlt]
            refine call (next_den l p 12 hl hp (by omega)) [17] ?_
            have hp1 := dpos_le hp
            have hk := dnext_lt (l := l) (p := p) (n := 12) (by omega)
            simp only [go_sem, ↓reduceIte, reduceCtorEq, Nat.reduceEqDiff, Nat.reduceAdd, Nat.reduceSub, Nat.reduceMul, Nat.reduceLT, Nat.reduceLeDiff, Int.reduceLT, Int.reduceLE, Int.reduceEq, Int.reduceNe, Int.reduceToNat, Int.reduceAdd, Int.reduceSub, Int.reduceMul, Int.natCast_zero]
            generalize dnext l p 12 = k at *
            generalize dpos l p = p1 at *
            refine call (one_den l p1 2 hl hp1 (by omega) (by omega)) [17] ?_
            have hp2 := dpos_le hp1
            by_cases h2 : dnext l p1 2 = 1
            · simp only [go_sem, ↓reduceIte, reduceCtorEq, Nat.reduceEqDiff, Nat.reduceAdd, Nat.reduceSub, Nat.reduceMul, Nat.reduceLT, Nat.reduceLeDiff, Int.reduceLT, Int.reduceLE, Int.reduceEq, Int.reduceNe, Int.reduceToNat, Int.reduceAdd, Int.reduceSub, Int.reduceMul, Int.natCast_zero, h2]
              refine call (next_den l (dpos l p1) 4 hl hp2 (by omega)) [17] ?_
              have hp3 := dpos_le hp2
              have hnu := dnext_lt (l := l) (p := dpos l p1) (n := 4) (by omega)
              simp only [go_sem, ↓reduceIte, reduceCtorEq, Nat.reduceEqDiff, Nat.reduceAdd, Nat.reduceSub, Nat.reduceMul, Nat.reduceLT, Nat.reduceLeDiff, Int.reduceLT, Int.reduceLE, Int.reduceEq, Int.reduceNe, Int.reduceToNat, Int.reduceAdd, Int.reduceSub, Int.reduceMul, Int.natCast_zero]
              generalize dnext l (dpos l p1) 4 = nu at *
              generalize dpos l (dpos l p1) = p3 at *
              refine call (next_den l p3 9 hl hp3 (by omega)) [17] ?_
              have hp4 := dpos_le hp3
              have hti := dnext_lt (l := l) (p := p3) (n := 9) (by omega)
              simp only [go_sem, ↓reduceIte, reduceCtorEq, Nat.reduceEqDiff, Nat.reduceAdd, Nat.reduceSub, Nat.reduceMul, Nat.reduceLT, Nat.reduceLeDiff, Int.reduceLT, Int.reduceLE, Int.reduceEq, Int.reduceNe, Int.reduceToNat, Int.reduceAdd, Int.reduceSub, Int.reduceMul, Int.natCast_zero]
              generalize dnext l p3 9 = ti at *
              generalize dpos l p3 = p4 at *
              refine call adraft_den [] ?_
              simp only [go_sem, ↓reduceIte, reduceCtorEq, Nat.reduceEqDiff, Nat.reduceAdd, Nat.reduceSub, Nat.reduceMul, Nat.reduceLT, Nat.reduceLeDiff, Int.reduceLT, Int.reduceLE, Int.reduceEq, Int.reduceNe, Int.reduceToNat, Int.reduceAdd, Int.reduceSub, Int.reduceMul, Int.natCast_zero]
              refine call (stmt_den k nu ti appD (by simp [appD]) rfl) [] ?_
              simp only [go_sem, ↓reduceIte, reduceCtorEq, Nat.reduceEqDiff, Nat.reduceAdd, Nat.reduceSub, Nat.reduceMul, Nat.reduceLT, Nat.reduceLeDiff, Int.reduceLT, Int.reduceLE, Int.reduceEq, Int.reduceNe, Int.reduceToNat, Int.reduceAdd, Int.reduceSub, Int.reduceMul, Int.natCast_zero]
              refine ⟨by omega, by omega, (j + 1, p4, ss ++ [stmt k nu ti appD], who ++ [k]), ⟨⟨by simp only; omega, hp4, by simp; omega, by simp; omega, fun s hs => ?_, ?_, fun x hx => ?_⟩, by simp only; omega⟩, ?_⟩
              · rcases List.mem_append.1 hs with h | h
                · exact hok s h
                · simp at h; subst h; exact okS_stmt k nu ti appD (by simp [appD]) rfl
              · have hcn := counts_app k nu ti (by simp [inB]; omega) (by simp [inB]; omega) (by simp [inB]; omega)
                simp only
                rw [apps_snoc, hcn, hap]
                rfl
              · rcases List.mem_append.1 hx with h | h
                · exact hrg x h
                · simp at h; omega
              · simp only [go_sem, ↓reduceIte, reduceCtorEq, Nat.reduceEqDiff, Nat.reduceAdd, Nat.reduceSub, Nat.reduceMul, Nat.reduceLT, Nat.reduceLeDiff, Int.reduceLT, Int.reduceLE, Int.reduceEq, Int.reduceNe, Int.reduceToNat, Int.reduceAdd, Int.reduceSub, Int.reduceMul, Int.natCast_zero, wj, List.map_append, List.length_append]
            · simp only [go_sem, ↓reduceIte, reduceCtorEq, Nat.reduceEqDiff, Nat.reduceAdd, Nat.reduceSub, Nat.reduceMul, Nat.reduceLT, Nat.reduceLeDiff, Int.reduceLT, Int.reduceLE, Int.reduceEq, Int.reduceNe, Int.reduceToNat, Int.reduceAdd, Int.reduceSub, Int.reduceMul, Int.natCast_zero, h2]
              refine call (mdraft_den l (dpos l p1) k 12 4 hl hp2 (by omega) (by omega)) [17] ?_
              obtain ⟨⟨hd1, hd2⟩, hp3⟩ := mdraft_small l (dpos l p1) k 12 4 hp2 (by omega)
              generalize mdraft l (dpos l p1) k 12 4 = md at *
              obtain ⟨x, p3⟩ := md
              simp only at hd1 hd2 hp3
              by_cases h3 : x.kd = 11
              · simp only [go_sem, ↓reduceIte, reduceCtorEq, Nat.reduceEqDiff, Nat.reduceAdd, Nat.reduceSub, Nat.reduceMul, Nat.reduceLT, Nat.reduceLeDiff, Int.reduceLT, Int.reduceLE, Int.reduceEq, Int.reduceNe, Int.reduceToNat, Int.reduceAdd, Int.reduceSub, Int.reduceMul, Int.natCast_zero, h3]
                refine ⟨(j + 1, p3, ss, who), ⟨⟨by simp only; omega, hp3, by simp; omega, by simp; omega, hok, hap, hrg⟩, by simp only; omega⟩, ?_⟩
                simp only [go_sem, ↓reduceIte, reduceCtorEq, Nat.reduceEqDiff, Nat.reduceAdd, Nat.reduceSub, Nat.reduceMul, Nat.reduceLT, Nat.reduceLeDiff, Int.reduceLT, Int.reduceLE, Int.reduceEq, Int.reduceNe, Int.reduceToNat, Int.reduceAdd, Int.reduceSub, Int.reduceMul, Int.natCast_zero, wj]
              · simp only [go_sem, ↓reduceIte, reduceCtorEq, Nat.reduceEqDiff, Nat.reduceAdd, Nat.reduceSub, Nat.reduceMul, Nat.reduceLT, Nat.reduceLeDiff, Int.reduceLT, Int.reduceLE, Int.reduceEq, Int.reduceNe, Int.reduceToNat, Int.reduceAdd, Int.reduceSub, Int.reduceMul, Int.natCast_zero, h3]
                refine call (next_den l p3 4 hl hp3 (by omega)) [17] ?_
                have hp4 := dpos_le hp3
                simp only [go_sem, ↓reduceIte, reduceCtorEq, Nat.reduceEqDiff, Nat.reduceAdd, Nat.reduceSub, Nat.reduceMul, Nat.reduceLT, Nat.reduceLeDiff, Int.reduceLT, Int.reduceLE, Int.reduceEq, Int.reduceNe, Int.reduceToNat, Int.reduceAdd, Int.reduceSub, Int.reduceMul, Int.natCast_zero]
                generalize dnext l p3 4 = nu at *
                generalize dpos l p3 = p4 at *
                refine call (stmt_den k nu 0 x hd1 hd2) [] ?_
                simp only [go_sem, ↓reduceIte, reduceCtorEq, Nat.reduceEqDiff, Nat.reduceAdd, Nat.reduceSub, Nat.reduceMul, Nat.reduceLT, Nat.reduceLeDiff, Int.reduceLT, Int.reduceLE, Int.reduceEq, Int.reduceNe, Int.reduceToNat, Int.reduceAdd, Int.reduceSub, Int.reduceMul, Int.natCast_zero]
                refine ⟨by omega, okD_of (by kernel_rfl), (j + 1, p4, ss ++ [stmt k nu 0 x], who), ⟨⟨by simp only; omega, hp4, by simp; omega, by simp; omega, fun s hs => ?_, ?_, hrg⟩, by simp only; omega⟩, ?_⟩
                · rcases List.mem_append.1 hs with h | h
                  · exact hok s h
                  · simp at h; subst h; exact okS_stmt k nu 0 x hd1 hd2
                · simp only
                  rw [apps_snoc, counts_kd h3, hap]
                  simp
                · simp only [go_sem, ↓reduceIte, reduceCtorEq, Nat.reduceEqDiff, Nat.reduceAdd, Nat.reduceSub, Nat.reduceMul, Nat.reduceLT, Nat.reduceLeDiff, Int.reduceLT, Int.reduceLE, Int.reduceEq, Int.reduceNe, Int.reduceToNat, Int.reduceAdd, Int.reduceSub, Int.reduceMul, Int.natCast_zero, wj, List.map_append, List.length_append]
          · have hlt : ¬ (0 : Int) < (c : Int) - (j : Int) := by omega
            have wf : IntKind.i64.wrap (f : Int) = (f : Int) := by rw [wrapI] <;> omega
            have wg : IntKind.i64.wrap (20 + ((f % 20 : Nat) : Int)) = ((20 + f % 20 : Nat) : Int) := by rw [wrapI] <;> omega
            simp only [go_sem, ↓reduceIte, reduceCtorEq, Nat.reduceEqDiff, Nat.reduceAdd, Nat.reduceSub, Nat.reduceMul, Nat.reduceLT, Nat.reduceLeDiff, Int.reduceLT, Int.reduceLE, Int.reduceEq, Int.reduceNe, Int.reduceToNat, Int.reduceAdd, Int.reduceSub, Int.reduceMul, Int.natCast_zero, hlt, wf, tm20, wg]
            refine call adraft_den [] ?_
            simp only [go_sem, ↓reduceIte, reduceCtorEq, Nat.reduceEqDiff, Nat.reduceAdd, Nat.reduceSub, Nat.reduceMul, Nat.reduceLT, Nat.reduceLeDiff, Int.reduceLT, Int.reduceLE, Int.reduceEq, Int.reduceNe, Int.reduceToNat, Int.reduceAdd, Int.reduceSub, Int.reduceMul, Int.natCast_zero]
            refine call (stmt_den ((20 + f % 20 : Nat) : Int) 0 0 appD (by simp [appD]) rfl) [] ?_
            simp only [go_sem, ↓reduceIte, reduceCtorEq, Nat.reduceEqDiff, Nat.reduceAdd, Nat.reduceSub, Nat.reduceMul, Nat.reduceLT, Nat.reduceLeDiff, Int.reduceLT, Int.reduceLE, Int.reduceEq, Int.reduceNe, Int.reduceToNat, Int.reduceAdd, Int.reduceSub, Int.reduceMul, Int.natCast_zero]
            have hcf : counts { stmt ((20 + f % 20 : Nat) : Int) 0 0 appD with sk := 3 } = false := by
              have e1 : ({ stmt ((20 + f % 20 : Nat) : Int) 0 0 appD with sk := 3 } : Stm).sk = 3 := rfl
              have e2 : ({ stmt ((20 + f % 20 : Nat) : Int) 0 0 appD with sk := 3 } : Stm).au = ((20 + f % 20 : Nat) : Int) := rfl
              have e3 : ¬ ((3 : Int) = ((20 + f % 20 : Nat) : Int)) := by omega
              rw [counts, e1, e2]
              simp only [e3, false_and, decide_false, Bool.and_false]
            refine ⟨by omega, ?_⟩
            refine call (applicants_den (ss ++ [{ stmt ((20 + f % 20 : Nat) : Int) 0 0 appD with sk := 3 }]) (fun s hs => ?_) (by simp; omega)) [] ?_
            · rcases List.mem_append.1 hs with h | h
              · exact hok s h
              · simp at h; subst h; exact okS_stmt _ 0 0 appD (by simp [appD]) rfl
            · have ha : cmpc (srt (apps (ss ++ [{ stmt ((20 + f % 20 : Nat) : Int) 0 0 appD with sk := 3 }]))) = keysW (fun k => decide (k ∈ who) || decide (k ∈ ([] : List Int))) 64 := by
                rw [apps_snoc, hcf, hap]
                simp only [Bool.false_eq_true, if_false, List.append_nil]
                rw [cmpc_srt who (fun x hx => by have := hrg x hx; omega)]
                simp
              have hkl := keysW_len (fun k => decide (k ∈ who) || decide (k ∈ ([] : List Int))) 64
              have hjv := join_vs who [] (by simp only [big]; omega) (by simp [big])
              rw [ha]
              generalize keysW (fun k => decide (k ∈ who) || decide (k ∈ ([] : List Int))) 64 = K at *
              simp only [go_sem, ↓reduceIte, reduceCtorEq, Nat.reduceEqDiff, Nat.reduceAdd, Nat.reduceSub, Nat.reduceMul, Nat.reduceLT, Nat.reduceLeDiff, Int.reduceLT, Int.reduceLE, Int.reduceEq, Int.reduceNe, Int.reduceToNat, Int.reduceAdd, Int.reduceSub, Int.reduceMul, Int.natCast_zero, List.map_append]
              refine call hjv [] ?_
              simp only [go_sem, ↓reduceIte, reduceCtorEq, Nat.reduceEqDiff, Nat.reduceAdd, Nat.reduceSub, Nat.reduceMul, Nat.reduceLT, Nat.reduceLeDiff, Int.reduceLT, Int.reduceLE, Int.reduceEq, Int.reduceNe, Int.reduceToNat, Int.reduceAdd, Int.reduceSub, Int.reduceMul, Int.natCast_zero]
              refine call (sameInts_den K K (by simp only [big]; omega) (by simp only [big]; omega)) [] ?_
              simp only [go_sem, ↓reduceIte, reduceCtorEq, Nat.reduceEqDiff, Nat.reduceAdd, Nat.reduceSub, Nat.reduceMul, Nat.reduceLT, Nat.reduceLeDiff, Int.reduceLT, Int.reduceLE, Int.reduceEq, Int.reduceNe, Int.reduceToNat, Int.reduceAdd, Int.reduceSub, Int.reduceMul, Int.natCast_zero]
              refine call awake_den [] ?_
              simp only [go_sem, ↓reduceIte, reduceCtorEq, Nat.reduceEqDiff, Nat.reduceAdd, Nat.reduceSub, Nat.reduceMul, Nat.reduceLT, Nat.reduceLeDiff, Int.reduceLT, Int.reduceLE, Int.reduceEq, Int.reduceNe, Int.reduceToNat, Int.reduceAdd, Int.reduceSub, Int.reduceMul, Int.natCast_zero]
      · simp only [go_sem, ↓reduceIte, reduceCtorEq, Nat.reduceEqDiff, Nat.reduceAdd, Nat.reduceSub, Nat.reduceMul, Nat.reduceLT, Nat.reduceLeDiff, Int.reduceLT, Int.reduceLE, Int.reduceEq, Int.reduceNe, Int.reduceToNat, Int.reduceAdd, Int.reduceSub, Int.reduceMul, Int.natCast_zero]
      · simp only [go_sem, ↓reduceIte, reduceCtorEq, Nat.reduceEqDiff, Nat.reduceAdd, Nat.reduceSub, Nat.reduceMul, Nat.reduceLT, Nat.reduceLeDiff, Int.reduceLT, Int.reduceLE, Int.reduceEq, Int.reduceNe, Int.reduceToNat, Int.reduceAdd, Int.reduceSub, Int.reduceMul, Int.natCast_zero]
    · simp only [go_sem, ↓reduceIte, reduceCtorEq, Nat.reduceEqDiff, Nat.reduceAdd, Nat.reduceSub, Nat.reduceMul, Nat.reduceLT, Nat.reduceLeDiff, Int.reduceLT, Int.reduceLE, Int.reduceEq, Int.reduceNe, Int.reduceToNat, Int.reduceAdd, Int.reduceSub, Int.reduceMul, Int.natCast_zero]
    · simp only [go_sem, ↓reduceIte, reduceCtorEq, Nat.reduceEqDiff, Nat.reduceAdd, Nat.reduceSub, Nat.reduceMul, Nat.reduceLT, Nat.reduceLeDiff, Int.reduceLT, Int.reduceLE, Int.reduceEq, Int.reduceNe, Int.reduceToNat, Int.reduceAdd, Int.reduceSub, Int.reduceMul, Int.natCast_zero]
  · simp only [go_sem, ↓reduceIte, reduceCtorEq, Nat.reduceEqDiff, Nat.reduceAdd, Nat.reduceSub, Nat.reduceMul, Nat.reduceLT, Nat.reduceLeDiff, Int.reduceLT, Int.reduceLE, Int.reduceEq, Int.reduceNe, Int.reduceToNat, Int.reduceAdd, Int.reduceSub, Int.reduceMul, Int.natCast_zero, h1]
    refine call awake_den [] ?_
    simp only [go_sem, ↓reduceIte, reduceCtorEq, Nat.reduceEqDiff, Nat.reduceAdd, Nat.reduceSub, Nat.reduceMul, Nat.reduceLT, Nat.reduceLeDiff, Int.reduceLT, Int.reduceLE, Int.reduceEq, Int.reduceNe, Int.reduceToNat, Int.reduceAdd, Int.reduceSub, Int.reduceMul, Int.natCast_zero]
end Go.Proofs.Am
