/- X5. -/
import Derived.Test.YtdodifpogaoioaaGreatXOne
import Derived.Test.YtdodifpogaoioaaGreatWOne
set_option linter.unusedSimpArgs false
set_option linter.unusedVariables false
namespace Go.Proofs.Am
open Go Go.RowKit
open Go.Proofs
theorem needs_law {r : Rl} {V : List Stm} {t : Tm} {c : Cs} {k : Int} (hr : ruleE r = 0) (ht : OkT t) (ho : openB c = true) (he : c.ep = t.ep) (hV : ∀ s ∈ V, s.kd = 10) (hk : k ∉ t.ros) :
  askedB (V ++ [stmt k 0 0 (apD c)]) t c = false ∧ outX r (V ++ [stmt k 0 0 (apD c)]) t c = ((decG r V t c).1, (decG r V t c).2.1, 0) ∧ (decG r V t c).2.2 = 0 ∧ setX r (V ++ [stmt k 0 0 (apD c)]) t c = (false, 0) := by
 obtain ⟨hc, hro, hkd⟩ := openB_iff.1 ho
 have ha := ask_votes (t := t) (c := c) hV hk
 obtain ⟨u1, u2⟩ := unasked_law (r := r) hc hro ha
 have hd : decG r (V ++ [stmt k 0 0 (apD c)]) t c = decG r V t c := decG_other fun s hs => by
  rw [List.mem_singleton] at hs
  rw [hs]
  exact okV_nk (by show (15 : Int) ≠ 10; omega)
 have h0 : (decG r V t c).2.2 = 0 := by
  rcases decG_ok (L := V) hr ht hc he with ⟨_, _, s3⟩ | ⟨s1, _⟩
  ·rw [s3]
  ·rw [seatsG_zero hr ht hc he hro] at s1; cases s1
 rw [hd, if_neg (by simp [h0])] at u2
 have u3 : outX r (V ++ [stmt k 0 0 (apD c)]) t c = ((decG r V t c).1, (decG r V t c).2.1, 0) := by
  rw [u2, ← h0]
 refine ⟨ha, u3, h0, ?_⟩
 unfold setX
 rw [u3, if_neg (by simp), if_neg hkd, u1]
def vOnly (L : List Stm) (i : Nat) : List Stm := (L.take i).filter fun s => decide (s.kd = 10)
theorem vOnly_succ {L : List Stm} {i : Nat} (h : i < L.length) : vOnly L (i + 1) = vOnly L i ++ (if (el L i).kd = 10 then [el L i] else []) := by
 unfold vOnly
 rw [take_el h, List.filter_append]
 congr 1
 simp only [List.filter_cons, List.filter_nil]
 by_cases h : (el L i).kd = 10 <;> simp [h]
theorem vOnly_len (L : List Stm) (i : Nat) : (vOnly L i).length ≤ L.length := by
 have h1 := List.length_filter_le (fun s : Stm => decide (s.kd = 10)) (L.take i)
 have h2 : (L.take i).length ≤ L.length := by rw [List.length_take]; omega
 unfold vOnly
 omega
theorem vOnly_mem {L : List Stm} {i : Nat} {s : Stm} (h : s ∈ vOnly L i) : s ∈ L ∧ s.kd = 10 := by
 obtain ⟨h1, h2⟩ := List.mem_filter.1 h
 exact ⟨List.mem_of_mem_take h1, of_decide_eq_true h2⟩
set_option maxHeartbeats 1000000 in
set_option maxRecDepth 100000 in
theorem needs32_den (l : List Int) (z : Int) (hz : 0 ≤ z ∧ z < 256) : Den Tryz.prog 5 [.vs (l.map i1), .int .u8 z] [] (.bool true) [] [] := by
 refine den_of Tryz.mixed Tryz.func5 rfl Tryz.call5 Tryz.ntmps5 (congrArg Array.toList Tryz.results5) (by simp) (by kernel_rfl) [] (exts := []) rfl rfl ?_
 by_cases h400 : l.length ≤ 400
 rotate_left
 ·have hd : decide (l.length ≤ 400) = false := decide_eq_false h400
  simp only [go_sem]
  refine call (light_den l) [] ?_
  simp only [go_sem, hd]
  refine call awake32_den [] ?_
  simp only [go_sem]
 have hd : decide (l.length ≤ 400) = true := decide_eq_true h400
 have hl : big l.length := by simp only [big]; omega
 have c1 := disputeO_den l 0 hl (Nat.zero_le _)
 have hB : RlB (dspR l 0) := mrules_RlB l 0
 have hr := dspR_ok l 0
 have hT := dspT_ok (l := l) (Nat.zero_le _)
 have hTl := dspT_len (l := l) (Nat.zero_le _)
 have hTm := dspT_lt (l := l) (p := 0)
 have hO := dspC_open (l := l) (Nat.zero_le _)
 have hE : (dspC l 0).ep = (dspT l 0).ep := rfl
 have hLo := dspF_ok (l := l) (p := 0)
 have hLl := dspF_len (l := l) (p := 0)
 have hLp := dspF_pl (l := l) (Nat.zero_le _)
 generalize dspR l 0 = R at *
 generalize dspT l 0 = T at *
 generalize dspC l 0 = C at *
 generalize dspF l 0 = F at *
 obtain ⟨q, L⟩ := F
 simp only at c1 hLo hLl hLp
 obtain ⟨k, hk, hk1⟩ : ∃ k : Int, 20 + z.tmod 20 = k ∧ 20 ≤ k ∧ k < 40 := by
  have h1 := Int.tmod_nonneg 20 hz.1
  have h2 := Int.tmod_lt_of_pos z (show (0 : Int) < 20 by omega)
  exact ⟨_, rfl, by omega, by omega⟩
 have w0 : IntKind.i64.wrap z = z := by rw [wrapI] <;> omega
 have w1 : IntKind.i64.wrap (20 + z.tmod 20) = k := by rw [hk, wrapI] <;> omega
 have c2 := adraftA C
 have c3 := asecond C
 have hd1 : apDr C = (apD C, 0) := by rw [apDr, hO]; rfl
 have hs1 : secC C = (sec1 C, 0) := by rw [secC_eq, if_pos hO]
 rw [hd1] at c2
 rw [hs1] at c3
 have c4 := stmt2_den k 0 0 (apD C) (apD_ok C)
 have kS := stmt_okS k 0 0 (apD C) (apD_ok C)
 have hV10 : ∀ s ∈ vOnly L L.length, s.kd = 10 := fun s hs => (vOnly_mem hs).2
 have hVo : ∀ s ∈ vOnly L L.length, bigS s := fun s hs => (hLo s (vOnly_mem hs).1).big
 have hVp : ∀ s ∈ vOnly L L.length, plS s := fun s hs => hLp s (vOnly_mem hs).1
 have hVl := vOnly_len L L.length
 have law := needs_law (r := R) hr hT hO hE hV10 (k := k) (fun h => by have := hTm _ h; omega)
 have hrounds := rounds_law (r := R) hr hT hO hE
 have hbT : big T.ros.length := by simp only [big]; omega
 have hMl : (vOnly L L.length ++ [stmt k 0 0 (apD C)]).length ≤ 900 := by simp only [List.length_append, List.length_singleton]; omega
 have hMo : ∀ s ∈ vOnly L L.length ++ [stmt k 0 0 (apD C)], bigS s := fun s hs => by
  rcases List.mem_append.1 hs with h | h
  ·exact hVo s h
  ·rw [List.mem_singleton] at h; rw [h]; exact kS.big
 have hMp : ∀ s ∈ vOnly L L.length ++ [stmt k 0 0 (apD C)], plS s := pl_one hVp (pl_stmt (by show (15 : Int) ≠ 10; omega))
 have e1 := pout_den R (vOnly L L.length ++ [stmt k 0 0 (apD C)]) T C hB hbT hMl hMo (plX_votes hMp) (plX_votes hMp)
 have e2 := decD_den R (vOnly L L.length) T C hB hbT (by omega) hVo
 have e3 := asked_den (vOnly L L.length ++ [stmt k 0 0 (apD C)]) T C hbT (by simp only [big]; omega) hMo
 have e4 := pset_den R (vOnly L L.length ++ [stmt k 0 0 (apD C)]) T C hB hbT hMl hMo (plX_votes hMp) (plX_votes hMp)
 have e5 := seatsD_den R T C hB hbT
 have e6 := seatsD_den R T (sec1 C) hB hbT
 have n5 := seatsG_len R T C
 have n6 := seatsG_len R T (sec1 C)
 have z5 := seatsG_zero hr hT (openB_iff.1 hO).1 hE (openB_iff.1 hO).2.1
 have bx := decG_big (r := R) (L := vOnly L L.length) (t := T) (c := C)
 have e7 := order23_den (decG R (vOnly L L.length) T C).1 (decG R (vOnly L L.length) T C).1 bx.1 bx.2 bx.1 bx.2
 rw [(ordC_eq _ _).2 rfl] at e7
 obtain ⟨l1, l2, l3, l4⟩ := law
 rw [l2] at e1
 rw [l1] at e3
 rw [l4] at e4
 generalize hst : stmt k 0 0 (apD C) = st at *
 generalize decG R (vOnly L L.length) T C = D at *
 obtain ⟨x, b, e⟩ := D
 simp only at l3 e1 e2 e7
 subst l3
 generalize seatsG R T C = S5 at *
 obtain ⟨s5, y5⟩ := S5
 generalize seatsG R T (sec1 C) = S6 at *
 obtain ⟨s6, y6⟩ := S6
 simp only at z5 hrounds n5 n6 e5 e6
 subst z5
 rw [rl_eq, tm_eq, cs_eq] at c1 e1 e2 e4 e5 e6
 rw [tm_eq, cs_eq] at e3
 rw [cs_eq] at c2 c3
 rw [ct_eq] at e1 e2 e7
 rw [dr_eq] at c4
 have u4 : Tryz.prog.underlying 4 = some .bool := by kernel_rfl
 simp only [go_sem]
 refine call (light_den l) [] ?_
 simp only [go_sem, hd]
 refine call (roll9 l) [] ?_
 simp only [go_sem]
 refine call c1 [36] ?_
 simp only [go_sem]
 refine promote 10 110 47 13 false ?_ ?_ ?_ (by omega)
 ·refine loop Tryz.mixed (0 : Nat) (fun i : Nat => [(1, .int .u8 z), (6, .ptr 6 0), (7, .ptr 7 0), (8, .ptr 8 0), (9, .vs (L.map sm)), (10, .os 110 (vOnly L i).length), (11, .int .i64 i)]) (fun i => [(6, .cells (rl R)), (7, .cells (tm T)), (8, .cells (cs C)), (110, .arr 47 13 false ((vOnly L i).map sm))]) (fun i => i ≤ L.length) (fun i => L.length - i) (by kernel_rfl) (Nat.zero_le _) ?_ ?_
  ·simp only [go_sem]
   simp [vOnly]
  ·intro i hi
   by_cases h : i < L.length
   ·have hlt : (i : Int) < (L.length : Int) := by omega
    have hsu := vOnly_succ h
    have hln := vOnly_len L i
    by_cases hk10 : (el L i).kd = 10
    ·rw [if_pos hk10] at hsu
     generalize vOnly L i = o at *
     simp only [go_sem, hlt, h, hk10]
     refine ⟨by omega, i + 1, ⟨by omega, by omega⟩, ?_⟩
     rw [hsu]
     exact ⟨⟨by simp, by rw [wrapI] <;> omega⟩, by simp [sm, hk10]⟩
    ·rw [if_neg hk10, List.append_nil] at hsu
     simp only [go_sem, hlt, h, hk10]
     refine ⟨i + 1, ⟨by omega, by omega⟩, ?_⟩
     rw [hsu]
     exact ⟨⟨rfl, by rw [wrapI] <;> omega⟩, rfl⟩
   ·have hlt : ¬ (i : Int) < (L.length : Int) := by omega
    have : i = L.length := by omega
    subst this
    generalize vOnly L L.length = V at *
    simp only [go_sem, hlt]
    refine call c2 [] ?_
    simp only [go_sem, w0, w1]
    refine ⟨by omega, call c4 [] ?_⟩
    simp only [go_sem]
    (repeat refine And.intro (by first | omega | exact okD_of (by kernel_rfl)) ?_)
    have hMm : List.map sm V ++ [sm st] = (V ++ [st]).map sm := by simp
    have hMn : V.length + 1 = (V ++ [st]).length := by simp
    rw [hMn]
    simp only [sm_eq] at hMm
    rw [hMm]
    refine call e1 [] ?_
    simp only [go_sem]
    refine call e2 [] ?_
    simp only [go_sem]
    refine call c3 [] ?_
    simp only [go_sem, u4]
    refine call e7 [] ?_
    simp only [go_sem]
    refine call e3 [] ?_
    simp only [go_sem]
    refine call e5 [] ?_
    simp only [go_sem]
    refine call e6 [] ?_
    simp only [go_sem]
    generalize hMg : V ++ [st] = M at *
    refine loop Tryz.mixed (0 : Nat) (fun i : Nat => [(6, .ptr 6 0), (7, .ptr 7 0), (8, .ptr 8 0), (15, .vs (M.map sm)), (24, .vs (s5.map i1)), (25, .int .i64 0), (26, .vs (s6.map i1)), (28, .int .i64 i)]) (fun i => [(6, .cells (rl R)), (7, .cells (tm T)), (8, .cells (cs C))]) (fun i => i ≤ s6.length) (fun i => s6.length - i) (by kernel_rfl) (Nat.zero_le _) ?_ ?_
    ·simp only [go_sem]
     exact hMn
    ·intro i hi
     by_cases h : i < s6.length
     ·have hlt : (i : Int) < (s6.length : Int) := by omega
      have hn := hrounds _ (el_mem h)
      simp only [go_sem, hlt, h]
      refine call (has24 s5 (el s6 i) (by simp only [big]; omega)) [] ?_
      simp only [go_sem, hn]
      exact ⟨i + 1, ⟨by omega, by omega⟩, by rw [wrapI] <;> omega⟩
     ·have hlt : ¬ (i : Int) < (s6.length : Int) := by omega
      simp only [go_sem, hlt]
      refine call e4 [] ?_
      simp only [go_sem]
      refine call awake32_den [] ?_
      simp only [go_sem]
 ·simp only [go_sem]
 ·simp only [go_sem]
end Go.Proofs.Am
