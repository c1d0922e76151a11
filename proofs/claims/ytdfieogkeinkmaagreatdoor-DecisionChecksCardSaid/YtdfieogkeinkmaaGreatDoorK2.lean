/- K2. -/
import Derived.Test.YtdfieogkeinkmaaGreatDoorK1
import Derived.Test.YtdfieogkeinkmaaGreatDoorB17
import Derived.Test.YtdfieogkeinkmaaGreatDoorMTwo
set_option linter.unusedSimpArgs false
set_option linter.unusedVariables false
namespace Go.Proofs.Am
open Go Go.RowKit
open Go.Proofs
theorem W_list {P : Program} {N : Nat} {c : Code} {Q : Post} {fr : AFr} {σ : ASt} {n m j e sz : Nat} {xs : List (List PV)} {cs : List PV} (b : Bool) (hm : find σ m = some (.cells cs)) (hj : cs[j]? = some (.os n xs.length)) (hn : find σ n = some (.arr e sz false xs))
    (h : W P N c Q fr (put1 (put1 σ n (.arr e sz b xs)) m (.cells (cs.set j (if b = true then .vs xs else .os n xs.length))))) : W P N c Q fr σ := fun x a hv w hG => by
  have hmn : m ≠ n := fun he => by rw [he, hn] at hm; cases hm
  cases b with
  | false =>
    refine h x a hv w ?_
    have h1 : find (put1 (put1 σ n (.arr e sz false xs)) m (.cells (cs.set j (if false = true then .vs xs else .os n xs.length)))) = find σ := by
      rw [find_put1, find_put1]
      funext k
      unfold upd
      by_cases hk : k = m
      · subst hk
        simp only [if_true, Bool.false_eq_true, if_false, hm]
        congr 2
        refine List.ext_getElem? fun i => ?_
        rw [List.getElem?_set]
        split
        · rename_i hij
          subst hij
          split
          · exact hj.symm
          · rename_i h9
            rw [List.getElem?_eq_none (by omega)] at hj
            cases hj
        · rfl
      · by_cases hk2 : k = n
        · subst hk2
          simp [hk, hn]
        · simp [hk, hk2]
    rw [h1]
    exact hG
  | true =>
    obtain ⟨hS, hE⟩ := hG.sim.shared (shareS_ok (find σ) [n])
    have he : shareS (find σ) [n] = find (put1 σ n (.arr e sz true xs)) := by
      rw [find_put1]
      funext m
      unfold shareS upd
      by_cases hm : m = n
      · subst hm; simp [hn, Box.share]
      · simp [hm]
    rw [he] at hS hE
    have h0 : find (put1 σ n (.arr e sz true xs)) n = some (.arr e sz true xs) := by rw [find_put1]; exact upd_same _ _ _
    have hG1 : Good x N (look fr) (find (put1 σ n (.arr e sz true xs))) a hv w := ⟨hS, hG.size, hG.defers, fun t => (hG.regs t).mono hE⟩
    have hm1 : find (put1 σ n (.arr e sz true xs)) m = some (.cells cs) := by rw [find_put1, upd_other _ _ hmn]; exact hm
    refine h x a hv w (hG1.again hm1 (fun off h => h.elim) (fun v => ⟨⟨_, rfl⟩, rfl⟩) fun hb => ?_)
    obtain ⟨b, t, arr, h1, h2, h3, h4⟩ := hb
    refine ⟨b, t, arr, h1, h2, by simp [h3], fun i u hu => ?_⟩
    rw [List.getElem?_set] at hu
    split at hu
    · rename_i hij
      subst hij
      split at hu
      · cases hu
        have hr := h4 _ _ hj
        obtain ⟨_, B, sz', l, k1, k2, k3, k4⟩ := hr.os_inv
        rw [h0] at k1
        cases k1
        simp only [Box.dim, Option.some.injEq, Prod.mk.injEq] at k2
        rw [k4 k2.2]
        exact .pure (hS.asList h0)
      · cases hu
    · exact h4 i u hu
structure CkI where
  V : PV
  B : ASt
  c : Cs
  L : List Stm
  S : List Int
def CkF (s : CkI) : Prop := (s.V = .vs (s.L.map sm) ∧ s.B = []) ∨ (s.V = .os 58 s.L.length ∧ s.B = [(58, .arr 41 13 false (s.L.map sm))]) ∨ (s.V = .os 79 s.L.length ∧ s.B = [(79, .arr 41 13 false (s.L.map sm))])
theorem okQ_app {L : List Stm} {S : List Int} {t : Stm} (h : okQ L S) (hl : L.length + 1 ≤ 1000000) (ht : bigS t) : okQ (L ++ [t]) S :=
  ⟨by simp only [List.length_append, List.length_cons, List.length_nil]; omega, fun s hs => by
    rcases List.mem_append.1 hs with hs | hs
    · exact h.2.1 s hs
    · rw [List.mem_singleton] at hs; rw [hs]; exact ht, h.2.2⟩
set_option maxRecDepth 100000 in
theorem checks_den (l : List Int) (c0 : Cs) (L0 : List Stm) (z : Int) (h0 : big L0.length) (hs0 : ∀ s ∈ L0, bigS s) : Den Tryz.prog 3 [.vs (l.map i1), .agg (ce c0 L0), .int .u8 z] [] (.bool true) [] [] := by
  refine den_W Tryz.mixed Tryz.func3 rfl Tryz.call3 Tryz.ntmps3 (congrArg Array.toList Tryz.results3) (by simp) [] (exts := []) rfl rfl ?_
  rw [ce_eq]
  simp only [initF, initS]
  refine W_pre Tryz.mixed (by kernel_rfl) ?_
  simp only [go_sem]
  refine W_pre Tryz.mixed (by kernel_rfl) ?_
  by_cases h400 : l.length ≤ 400
  rotate_left
  · have hd : decide (l.length ≤ 400) = false := decide_eq_false h400
    simp only [go_sem]
    refine call (light_den l) [] ?_
    simp only [go_sem, hd]
    refine call awake28_den [] ?_
    simp only [go_sem]
  have hd : decide (l.length ≤ 400) = true := decide_eq_true h400
  have hl : big l.length := by simp only [big]; omega
  by_cases hL10 : (10 : Int) < (L0.length : Int)
  · simp only [go_sem]
    refine call (light_den l) [] ?_
    simp only [go_sem, hd, hL10]
    refine call awake28_den [] ?_
    simp only [go_sem]
  have c1 := mcase_den l 0 1 hl (Nat.zero_le _)
  have hp1 := mcase_le (l := l) (p := 0) (Nat.zero_le _) 1
  generalize mcase l 0 1 = C at *
  obtain ⟨c, p1⟩ := C
  simp only at c1 hp1
  have c2 := keysO_den l p1 7 hl hp1 (by omega)
  have hp2 := dkpos_le l 7 p1 hp1
  have hS7 := dkeys_max l (n := 7) (by omega) p1
  have hSne := dkeys_ne l 7 p1
  generalize dkeys l 7 p1 = S at *
  generalize dkpos l 7 p1 = p2 at *
  have c3 := content_den l p2 c hl hp2
  have hp3 := mcont_le hp2 c
  have hx := mcont_ok l p2 c
  generalize mcont l p2 c = X at *
  obtain ⟨x, p3⟩ := X
  simp only at c3 hp3 hx
  have hSl : 0 < S.length := List.length_pos_iff.2 hSne
  rw [show ((7 : Nat) : Int) = 7 from rfl] at c2
  rw [cs_eq] at c1 c3
  simp only [go_sem]
  refine call (light_den l) [] ?_
  simp only [go_sem, hd, hL10]
  refine W_pre Tryz.mixed (by kernel_rfl) ?_
  simp only [go_sem]
  refine call (roll9 l) [] ?_
  simp only [go_sem]
  refine W_pre Tryz.mixed (by kernel_rfl) ?_
  simp only [go_sem]
  refine call c1 [30] ?_
  simp only [go_sem]
  refine W_pre Tryz.mixed (by kernel_rfl) ?_
  simp only [go_sem]
  refine call c2 [30] ?_
  simp only [go_sem]
  refine W_pre Tryz.mixed (by kernel_rfl) ?_
  simp only [go_sem]
  refine call c3 [30] ?_
  simp only [go_sem]
  refine W_pre Tryz.mixed (by kernel_rfl) ?_
  simp only [go_sem]
  rw [← cs_eq c, ← ce_eq c0 L0, ← ct_eq x]
  refine W_cut Tryz.mixed [(2, .int .u8 z), (4, .ptr 4 0), (7, .ptr 30 0), (8, .ptr 8 0), (9, .os 34 S.length), (10, .ptr 10 0), (11, .ptr 11 0)] [(30, dbox l (ckGo l c x S p3 S.length).1), (4, .cells (ce c0 L0)), (8, .cells (cs c)), (34, .arr 3 1 false (S.map i1)), (10, .cells (ct x)), (11, .cells [.int .i64 c.ep, .int .i64 c.kd, .int .i64 c.su, .int .i64 c.ro, .os 58 (ckGo l c x S p3 S.length).2.length]), (58, .arr 41 13 false ((ckGo l c x S p3 S.length).2.map sm))] (by kernel_rfl) ?_ ?_
  · simp only [go_sem]
    refine loop Tryz.mixed (0 : Nat) (fun i : Nat => [(2, .int .u8 z), (4, .ptr 4 0), (7, .ptr 30 0), (8, .ptr 8 0), (9, .os 34 S.length), (10, .ptr 10 0), (11, .ptr 11 0), (12, .int .i64 i)]) (fun i => (30, dbox l (ckGo l c x S p3 i).1) :: (4, .cells (ce c0 L0)) :: (8, .cells (cs c)) :: (34, .arr 3 1 false (S.map i1)) :: (10, .cells (ct x)) :: (11, .cells [.int .i64 c.ep, .int .i64 c.kd, .int .i64 c.su, .int .i64 c.ro, ckV 58 (ckGo l c x S p3 i).2]) :: ckB 58 (ckGo l c x S p3 i).2) (fun i => i ≤ S.length) (fun i => S.length - i) (by kernel_rfl) (Nat.zero_le _) ?_ ?_
    · have e0 : ckGo l c x S p3 0 = (p3, []) := rfl
      simp only [go_sem, e0, ckV_nil, ckB_nil, ce_eq]
      done
    · intro i hi
      have hq := ckGo_le (l := l) (c := c) (x := x) (seats := S) hp3 i
      have hn := ckGo_len (l := l) (c := c) (x := x) (seats := S) (p := p3) i
      by_cases h : i < S.length
      · have hlt : (i : Int) < (S.length : Int) := by omega
        have hst : ckGo l c x S p3 (i + 1) = (dgo l (ckGo l c x S p3 i).1 1, (ckGo l c x S p3 i).2 ++ [vt (el S i) (dnext l (ckGo l c x S p3 i).1 2) c x]) := rfl
        generalize ckGo l c x S p3 i = g at *
        obtain ⟨q, L⟩ := g
        simp only at hq hn hst
        have cv := vote_den (el S i) (dnext l q 2) c x hx
        have e1 : dpos l q = dgo l q 1 := rfl
        rw [cs_eq, ct_eq] at cv
        generalize vt (el S i) (dnext l q 2) c x = v at *
        cases L with
        | nil =>
          simp only [go_sem, hlt, h, ckV_nil, ckB_nil, ce_eq]
          refine call (next_den l q 2 hl hq (by omega)) [30] ?_
          simp only [go_sem, e1]
          refine call cv [] ?_
          simp only [go_sem]
          refine ⟨okD_of (by kernel_rfl), i + 1, ⟨by omega, by omega⟩, by rw [wrapI] <;> omega, ?_⟩
          rw [hst]
          simp only [go_sem, List.nil_append, ckV_cons, ckB_cons]
          done
        | cons a r =>
          simp only [go_sem, hlt, h, ckV_cons, ckB_cons, ce_eq]
          refine call (next_den l q 2 hl hq (by omega)) [30] ?_
          simp only [go_sem, e1]
          refine call cv [] ?_
          simp only [go_sem]
          refine ⟨by simp only [List.length_cons] at hn; omega, okD_of (by kernel_rfl), i + 1, ⟨by omega, by omega⟩, by rw [wrapI] <;> omega, ?_⟩
          rw [hst]
          simp only [go_sem, List.cons_append, ckV_cons, ckB_cons]
          rw [List.map_append]
          rfl
      · have hh : i = S.length := by omega
        subst hh
        have hlt : ¬ (S.length : Int) < (S.length : Int) := by omega
        generalize ckGo l c x S p3 S.length = g at *
        obtain ⟨q, L⟩ := g
        simp only at hq hn
        cases L with
        | nil => simp only [List.length_nil] at hn; omega
        | cons a r =>
          simp only [go_sem, hlt, ckV_cons, ckB_cons, ce_eq]
  have hq := ckGo_le (l := l) (c := c) (x := x) (seats := S) hp3 S.length
  have hn := ckGo_len (l := l) (c := c) (x := x) (seats := S) (p := p3) S.length
  have hb := ckGo_big (l := l) (c := c) (seats := S) (p := p3) hx S.length
  generalize ckGo l c x S p3 S.length = g at *
  obtain ⟨q, L⟩ := g
  simp only at hq hn hb
  have bj := dnext_lt (l := l) (p := q) (n := (L.length : Int)) (by omega)
  obtain ⟨j, hj⟩ : ∃ j : Nat, dnext l q L.length = (j : Int) := ⟨(dnext l q L.length).toNat, by omega⟩
  rw [hj] at bj
  have hjl : j < L.length := by omega
  have e1 : dpos l q = dgo l q 1 := rfl
  have hq1 := dgo_le hq 1
  refine W_pre Tryz.mixed (by kernel_rfl) ?_
  simp only [go_sem]
  refine call (next_den l q L.length hl hq (by omega)) [30] ?_
  rw [hj, e1]
  simp only [go_sem]
  have hok : okQ L S := ⟨by omega, hb, by omega⟩
  refine W_list (n := 58) (m := 11) (j := 4) (decide (z.tmod 14 = 0)) rfl (by simp) rfl ?_
  generalize hsh : decide (z.tmod 14 = 0) = sh
  simp only [go_sem]
  refine W_cutI Tryz.mixed (fun s : CkI => [(4, .ptr 4 0), (9, .os 34 s.S.length), (11, .ptr 11 0)]) (fun s => (4, .cells (ce c0 L0)) :: (34, .arr 3 1 false (s.S.map i1)) :: (11, .cells [.int .i64 s.c.ep, .int .i64 s.c.kd, .int .i64 s.c.su, .int .i64 s.c.ro, s.V]) :: s.B) (fun s => okQ s.L s.S ∧ CkF s) (by kernel_rfl) ?_ ?_
  · by_cases z0 : z.tmod 14 = 0
    · obtain rfl : sh = true := by rw [← hsh]; exact decide_eq_true z0
      have w1 : IntKind.i64.wrap ((j : Int) + 1) = ((j + 1 : Nat) : Int) := by rw [wrapI] <;> omega
      have g1 : (L.take j).length ≤ L.length := by rw [List.length_take]; omega
      have g2 : (L.drop (j + 1)).length ≤ L.length := by rw [List.length_drop]; omega
      simp only [go_sem, z0, w1, Int.toNat_natCast, List.take_length]
      refine ⟨by omega, ⟨by omega, by omega⟩, by omega, fun he => ⟨okD_of (by kernel_rfl), ?_⟩, fun he => ⟨okD_of (by kernel_rfl), ?_⟩⟩
      · have he' : L.drop (j + 1) = [] := List.map_eq_nil_iff.1 he
        have hk := okQ_drop (i := j) hok
        rw [he', List.append_nil] at hk
        refine ⟨⟨.vs ((L.take j).map sm), [], c, L.take j, S⟩, ⟨hk, .inl ⟨rfl, rfl⟩⟩, ?_⟩
        simp only [go_sem, ce_eq]
        done
      · refine ⟨⟨.os 79 (L.take j ++ L.drop (j + 1)).length, [(79, .arr 41 13 false ((L.take j ++ L.drop (j + 1)).map sm))], c, L.take j ++ L.drop (j + 1), S⟩, ⟨okQ_drop hok, .inr (.inr ⟨rfl, rfl⟩)⟩, ?_⟩
        simp only [go_sem, ce_eq, List.map_append]
        done
    obtain rfl : sh = false := by rw [← hsh]; exact decide_eq_false z0
    by_cases z1 : z.tmod 14 = 1
    · simp only [go_sem, z1, hjl]
      refine ⟨⟨.os 58 (L.set j { el L j with sk := IntKind.i64.wrap ((el L j).sk + 1) }).length, [(58, .arr 41 13 false ((L.set j { el L j with sk := IntKind.i64.wrap ((el L j).sk + 1) }).map sm))], c, L.set j { el L j with sk := IntKind.i64.wrap ((el L j).sk + 1) }, S⟩, ⟨okQ_set hok (hb (el L j) (el_mem hjl)), .inr (.inl ⟨rfl, rfl⟩)⟩, ?_⟩
      simp only [go_sem, ce_eq, List.length_set, List.map_set]
      done
    by_cases z2 : z.tmod 14 = 2
    · simp only [go_sem, z2]
      refine call (digest_den l (dgo l q 1) hl hq1) [30] ?_
      simp only [go_sem, hjl]
      refine ⟨okD_of (by kernel_rfl), ?_⟩
      refine ⟨⟨.os 58 (L.set j { el L j with sd := mdig l (dgo l q 1) }).length, [(58, .arr 41 13 false ((L.set j { el L j with sd := mdig l (dgo l q 1) }).map sm))], c, L.set j { el L j with sd := mdig l (dgo l q 1) }, S⟩, ⟨okQ_set hok (hb (el L j) (el_mem hjl)), .inr (.inl ⟨rfl, rfl⟩)⟩, ?_⟩
      simp only [go_sem, ce_eq, List.length_set, List.map_set]
      done
    by_cases z3 : z.tmod 14 = 3
    · have hjs : j < S.length := by omega
      have c5 := content_den l (dgo l q 1) c hl hq1
      have oy := mcont_ok l (dgo l q 1) c
      generalize mcont l (dgo l q 1) c = Y at *
      obtain ⟨y, q5⟩ := Y
      simp only at c5 oy
      have cv := vote_den (el S j) 0 c y oy
      have hv := (vt_okS (el S j) 0 c oy).big
      rw [cs_eq, ct_eq] at cv
      rw [cs_eq] at c5
      generalize vt (el S j) 0 c y = v at *
      simp only [go_sem, z3, hjs]
      refine call c5 [30] ?_
      simp only [go_sem]
      refine call cv [] ?_
      simp only [go_sem, hjl]
      refine ⟨okD_of (by kernel_rfl), ?_⟩
      refine ⟨⟨.os 58 (L.set j v).length, [(58, .arr 41 13 false ((L.set j v).map sm))], c, L.set j v, S⟩, ⟨okQ_set hok hv, .inr (.inl ⟨rfl, rfl⟩)⟩, ?_⟩
      simp only [go_sem, ce_eq, List.length_set, List.map_set]
      done
    by_cases z4 : z.tmod 14 = 4
    · have hjs : j < S.length := by omega
      have c5 := mcase_den l (dgo l q 1) 1 hl hq1
      generalize mcase l (dgo l q 1) 1 = Y at *
      obtain ⟨c', q5⟩ := Y
      simp only at c5
      have cv := vote_den (el S j) 0 c' x hx
      have hv := (vt_okS (el S j) 0 c' hx).big
      rw [cs_eq, ct_eq] at cv
      rw [cs_eq] at c5
      generalize vt (el S j) 0 c' x = v at *
      simp only [go_sem, z4, hjs]
      refine call c5 [30] ?_
      simp only [go_sem]
      refine call cv [] ?_
      simp only [go_sem, hjl]
      refine ⟨okD_of (by kernel_rfl), ?_⟩
      refine ⟨⟨.os 58 (L.set j v).length, [(58, .arr 41 13 false ((L.set j v).map sm))], c, L.set j v, S⟩, ⟨okQ_set hok hv, .inr (.inl ⟨rfl, rfl⟩)⟩, ?_⟩
      simp only [go_sem, ce_eq, List.length_set, List.map_set]
      done
    by_cases z5 : z.tmod 14 = 5
    · simp only [go_sem, z5, hjl]
      refine ⟨by omega, okD_of (by kernel_rfl), ?_⟩
      refine ⟨⟨.os 58 (L ++ [el L j]).length, [(58, .arr 41 13 false ((L ++ [el L j]).map sm))], c, L ++ [el L j], S⟩, ⟨okQ_app hok (by omega) (hb (el L j) (el_mem hjl)), .inr (.inl ⟨rfl, rfl⟩)⟩, ?_⟩
      simp only [go_sem, ce_eq, List.map_append]
      done
    by_cases z6 : z.tmod 14 = 6
    · have cv := vote_den 8 0 c x hx
      have hv := (vt_okS 8 0 c hx).big
      rw [cs_eq, ct_eq] at cv
      generalize vt 8 0 c x = v at *
      simp only [go_sem, z6]
      refine call cv [] ?_
      simp only [go_sem]
      refine ⟨by omega, okD_of (by kernel_rfl), ?_⟩
      refine ⟨⟨.os 58 (L ++ [v]).length, [(58, .arr 41 13 false ((L ++ [v]).map sm))], c, L ++ [v], S⟩, ⟨okQ_app hok (by omega) hv, .inr (.inl ⟨rfl, rfl⟩)⟩, ?_⟩
      simp only [go_sem, ce_eq, List.map_append]
      done
    by_cases z7 : z.tmod 14 = 7
    · simp only [go_sem, z7]
      refine ⟨⟨.os 58 (L).length, [(58, .arr 41 13 false ((L).map sm))], { c with ep := 2 }, L, S⟩, ⟨hok, .inr (.inl ⟨rfl, rfl⟩)⟩, ?_⟩
      simp only [go_sem, ce_eq]
      done
    by_cases z8 : z.tmod 14 = 8
    · simp only [go_sem, z8]
      refine ⟨by omega, ?_⟩
      refine ⟨⟨.os 58 (L).length, [(58, .arr 41 13 false ((L).map sm))], c, L, S ++ [8]⟩, ⟨⟨hok.1, hok.2.1, by simp; omega⟩, .inr (.inl ⟨rfl, rfl⟩)⟩, ?_⟩
      simp only [go_sem, ce_eq, List.map_append]
      done
    by_cases z9 : z.tmod 14 = 9
    · by_cases h1 : 1 < L.length
      · have h1' : (1 : Int) < (L.length : Int) := by omega
        have h2' : (0 : Int) < (L.length : Int) := by omega
        have h2 : 0 < L.length := by omega
        have d13 : ∀ v, List.drop 13 (rowAt ((List.map sm L).set 0 v) 1) = [] := fun v => by
          unfold rowAt
          simp [h1, sm]
        simp only [go_sem, z9, h1, h1', h2, h2', List.length_set, d13]
        refine ⟨okD_of (by kernel_rfl), ?_⟩
        refine ⟨⟨.os 58 ((L.set 0 (el L 1)).set 1 (el L 0)).length, [(58, .arr 41 13 false (((L.set 0 (el L 1)).set 1 (el L 0)).map sm))], c, (L.set 0 (el L 1)).set 1 (el L 0), S⟩, ⟨okQ_set (okQ_set hok (hb _ (el_mem h1))) (hb _ (el_mem h2)), .inr (.inl ⟨rfl, rfl⟩)⟩, ?_⟩
        simp only [go_sem, ce_eq, List.length_set, List.map_set]
      · have h1' : ¬ (1 : Int) < (L.length : Int) := by omega
        simp only [go_sem, z9, h1']
        refine ⟨⟨.os 58 (L).length, [(58, .arr 41 13 false ((L).map sm))], c, L, S⟩, ⟨hok, .inr (.inl ⟨rfl, rfl⟩)⟩, ?_⟩
        simp only [go_sem, ce_eq]
        done
    by_cases z10 : z.tmod 14 = 10
    · simp only [go_sem, z10]
      refine ⟨by omega, ?_⟩
      refine ⟨⟨.os 58 (L).length, [(58, .arr 41 13 false ((L).map sm))], c, L, S ++ [8, 7]⟩, ⟨⟨hok.1, hok.2.1, by simp; omega⟩, .inr (.inl ⟨rfl, rfl⟩)⟩, ?_⟩
      simp only [go_sem, ce_eq, List.map_append]
      done
    · simp only [go_sem, z0, z1, z2, z3, z4, z5, z6, z7, z8, z9, z10]
      refine ⟨⟨.os 58 (L).length, [(58, .arr 41 13 false ((L).map sm))], c, L, S⟩, ⟨hok, .inr (.inl ⟨rfl, rfl⟩)⟩, ?_⟩
      simp only [go_sem, ce_eq]
      done
  · have hok0 : ∀ S : List Int, S.length ≤ 1000000 → okQ L0 S := fun S hS => ⟨by omega, hs0, hS⟩
    rintro ⟨V, B, c, L, S⟩ ⟨hok, hF⟩
    refine W_of Tryz.mixed (by kernel_rfl) ?_
    dsimp only
    simp only [go_sem]
    refine loop Tryz.mixed ((0 : Nat), false, (⟨V, B, c, L, S⟩ : CkI)) (fun i : Nat × Bool × CkI => [(4, .ptr 4 0), (9, .os 34 i.2.2.S.length), (11, .ptr 11 0), (14, .int .i64 i.1)]) (fun i => (4, .cells (ce c0 L0)) :: (34, .arr 3 1 i.2.1 (i.2.2.S.map i1)) :: (11, .cells [.int .i64 i.2.2.c.ep, .int .i64 i.2.2.c.kd, .int .i64 i.2.2.c.su, .int .i64 i.2.2.c.ro, i.2.2.V]) :: i.2.2.B) (fun i => i.1 ≤ 2 ∧ okQ i.2.2.L i.2.2.S ∧ CkF i.2.2) (fun i => 2 - i.1) (by kernel_rfl) ⟨by omega, hok, hF⟩ ?_ ?_
    · rcases hF with ⟨h1, h2⟩ | ⟨h1, h2⟩ | ⟨h1, h2⟩ <;> simp only at h1 h2 <;> subst h1 h2
      all_goals
        simp only [go_sem, ce_eq]
    · rintro ⟨i, sh, V, B, c, L, S⟩ ⟨hi, hok, hF⟩
      simp only at hi hok hF ⊢
      by_cases h : i < 2
      · have hlt : (i : Int) < 2 := by omega
        have k1 := dCheck_den c L S hok.1 hok.2.1 hok.2.2
        have k2 := rCheck_den c L S hok.1 hok.2.1 hok.2.2
        have hbx : bigC (chkX c L S).1 := chkX_big
        generalize chkX c L S = K at *
        obtain ⟨y, e⟩ := K
        simp only at k1 k2 hbx
        have k3 := order23_den y y hbx.1 hbx.2 hbx.1 hbx.2
        rw [(ordC_eq _ _).2 rfl] at k3
        rw [ce_eq, ct_eq] at k1 k2
        rw [ct_eq] at k3
        rcases hF with ⟨h1, h2⟩ | ⟨h1, h2⟩ | ⟨h1, h2⟩ <;> simp only at h1 h2 <;> subst h1 h2
        all_goals
          simp only [go_sem, hlt, ce_eq]
          refine call k1 [] ?_
          simp only [go_sem]
          refine call k2 [] ?_
          simp only [go_sem]
          refine call k3 [] ?_
          simp only [go_sem]
          refine ⟨(i + 1, true, ⟨.vs (L0.map sm), [], c0, L0, S⟩), ⟨⟨by show i + 1 ≤ 2; omega, hok0 S hok.2.2, .inl ⟨rfl, rfl⟩⟩, by show 2 - (i + 1) < 2 - i; omega⟩, ?_⟩
          simp only [go_sem]
          rw [wrapI] <;> omega
      · have hlt : ¬ (i : Int) < 2 := by omega
        rcases hF with ⟨h1, h2⟩ | ⟨h1, h2⟩ | ⟨h1, h2⟩ <;> simp only at h1 h2 <;> subst h1 h2
        all_goals
          simp only [go_sem, hlt]
          refine call awake28_den [] ?_
          simp only [go_sem]
end Go.Proofs.Am
