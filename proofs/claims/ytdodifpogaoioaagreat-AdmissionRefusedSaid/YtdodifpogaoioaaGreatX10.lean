/- X10. -/
import Derived.Test.YtdodifpogaoioaaGreatXTwo
import Derived.Test.YtdodifpogaoioaaGreatB19
set_option linter.unusedSimpArgs false
set_option linter.unusedVariables false
namespace Go.Proofs.Am
open Go Go.RowKit
open Go.Proofs
theorem allFor_len {c : Cs} {nu : Int} {x : Ct} {s : List Int} : (allFor c nu x s).length = s.length := by simp [allFor]
theorem allFor_succ {c : Cs} {nu : Int} {x : Ct} {s : List Int} {i : Nat} (h : i < s.length) : allFor c nu x (s.take (i + 1)) = allFor c nu x (s.take i) ++ [vt (el s i) nu c x] := by
 unfold allFor
 rw [take_el h, List.map_append, List.map_singleton]
theorem vt_pl {c : Cs} {nu : Int} {x : Ct} {s : List Int} (hk : c.kd ≠ 1) (hx : x.pi = []) : ∀ y ∈ allFor c nu x s, plS y ∧ (okCt x → okS y) := fun y hy => by
 obtain ⟨k, _, rfl⟩ := mem_allFor.1 hy
 exact ⟨pl_vt hk hx, fun h => vt_okS _ _ _ h⟩
def rfL (r : Rl) (t : Tm) (c : Cs) (x0 x1 : Ct) : Nat → List Stm
 | 0 => []
 | 1 => allFor c 0 x0 (seatsG r t c).1
 | _ => allFor c 0 x0 (seatsG r t c).1 ++ (if (seatsG r t (sec1 c)).2 = 0 then allFor (sec1 c) 1 x1 (seatsG r t (sec1 c)).1 else [])
theorem rfL_two (r : Rl) (t : Tm) (c : Cs) (x0 x1 : Ct) : rfL r t c x0 x1 2 = allFor c 0 x0 (seatsG r t c).1 ++ (if (seatsG r t (sec1 c)).2 = 0 then allFor (sec1 c) 1 x1 (seatsG r t (sec1 c)).1 else []) := rfl
theorem right01 {c : Cs} {n : Int} (hc : caseV c = true) (hk : c.kd ≠ 1) (hn : n = 0 ∨ n = 1) : rightB c ⟨[n], []⟩ = true := by
 unfold rightB
 rw [hc]
 have h1 : checkE (pinS []) = 0 := by decide +kernel
 rw [show (⟨[n], []⟩ : Ct).pi = [] from rfl, h1]
 unfold listV
 rw [if_neg hk]
 rcases hn with rfl | rfl <;> rfl
set_option maxHeartbeats 1000000 in
set_option maxRecDepth 100000 in
theorem refu_den (l : List Int) (z : Int) (ap : Bool) (hz : 0 ≤ z ∧ z < 256) : Den Tryz.prog 8 [.vs (l.map i1), .int .u8 z, .bool ap] [] (.bool true) [] [] := by
 refine den_of Tryz.mixed Tryz.func8 rfl Tryz.call8 Tryz.ntmps8 (congrArg Array.toList Tryz.results8) (by simp) (by kernel_rfl) [] (exts := []) rfl rfl ?_
 by_cases h400 : l.length ≤ 400
 rotate_left
 ·have hd : decide (l.length ≤ 400) = false := decide_eq_false h400
  simp only [go_sem]
  refine call (light_den l) [] ?_
  simp only [go_sem, hd]
  refine call awake_den [] ?_
  simp only [go_sem]
 have hd : decide (l.length ≤ 400) = true := decide_eq_true h400
 have hl : big l.length := by simp only [big]; omega
 have c1 := gate_den l 0 hl (Nat.zero_le _)
 have hB : RlB (mrules l 0) := mrules_RlB l 0
 have hr := mrules_ok l 0
 have hT := gtT_ok (l := l) (p := 0)
 have hTl := gtT_len (l := l) (p := 0)
 have hTe : (gtT l 0).ep = 0 := rfl
 have hq : (gtF l 0).1 ≤ l.length := gtS_le (Nat.zero_le _) _
 generalize mrules l 0 = R at *
 generalize gtT l 0 = T at *
 generalize gtF l 0 = F at *
 obtain ⟨q, L⟩ := F
 dsimp only at c1 hq
 have hq1 := dgo_le hq 1
 have e0 : dpos l q = dgo l q 1 := rfl
 obtain ⟨su, hsu, hsu1⟩ : ∃ k : Int, z.tmod 9 = k ∧ 0 ≤ k ∧ k < 9 := by
  have h1 := Int.tmod_nonneg 9 hz.1
  have h2 := Int.tmod_lt_of_pos z (show (0 : Int) < 9 by omega)
  exact ⟨_, rfl, by omega, by omega⟩
 have w0 : IntKind.i64.wrap z = z := by rw [wrapI] <;> omega
 have b0 := dnext_lt (l := l) (p := q) (n := 2) (by omega)
 have b1 := dnext_lt (l := l) (p := dgo l q 1) (n := 2) (by omega)
 rw [rl_eq, tm_eq] at c1
 simp only [go_sem]
 refine call (light_den l) [] ?_
 simp only [go_sem, hd]
 refine call (roll9 l) [] ?_
 simp only [go_sem]
 refine call c1 [27] ?_
 simp only [go_sem, w0, hsu]
 refine call (next_den l q 2 hl hq (by omega)) [27] ?_
 simp only [go_sem, e0]
 refine call (next_den l (dgo l q 1) 2 hl hq1 (by omega)) [27] ?_
 simp only [go_sem, dgo_succ]
 generalize dnext l q 2 = n0 at *
 generalize dnext l (dgo l q 1) 2 = n1 at *
 have hC : ∃ C : Cs, C = ⟨0, 2, su, 0⟩ := ⟨_, rfl⟩
 obtain ⟨C, hC⟩ := hC
 have hcv : caseV C = true := by rw [hC]; exact caseV_t ⟨by show (0 : Int) ≤ 0; omega, by show (0 : Int) < 40; omega, by show 0 ≤ su; omega, by show su < 64; omega, by show (0 : Int) ≤ 0; omega, by show (0 : Int) ≤ 1; omega, .inr (.inl rfl)⟩
 have hO : openB C = true := openB_iff.2 ⟨hcv, by rw [hC], by rw [hC]; show (2 : Int) ≠ 1; omega⟩
 have hE : C.ep = T.ep := by rw [hC, hTe]
 have hbT : big T.ros.length := by simp only [big]; omega
 have r0 : rightB C ⟨[n0], []⟩ = true := right01 hcv (by rw [hC]; show (2 : Int) ≠ 1; omega) (by omega)
 have r1 : rightB (sec1 C) ⟨[n1], []⟩ = true := right01 (sec1_ok hO) (by rw [hC]; show (2 : Int) ≠ 1; omega) (by omega)
 have o0 : okCt ⟨[n0], []⟩ := ⟨by simp, by simp⟩
 have o1 : okCt ⟨[n1], []⟩ := ⟨by simp, by simp⟩
 have k0 : C.kd ≠ 1 := by rw [hC]; show (2 : Int) ≠ 1; omega
 have p0 : ∀ s : List Int, ∀ y ∈ allFor C 0 ⟨[n0], []⟩ s, plS y ∧ bigS y := fun s y hy => ⟨(vt_pl k0 rfl y hy).1, ((vt_pl k0 rfl y hy).2 o0).big⟩
 have p1 : ∀ s : List Int, ∀ y ∈ allFor (sec1 C) 1 ⟨[n1], []⟩ s, plS y ∧ bigS y := fun s y hy => ⟨(vt_pl (c := sec1 C) k0 rfl y hy).1, ((vt_pl (c := sec1 C) k0 rfl y hy).2 o1).big⟩
 have d0 := seatsD_den R T C hB hbT
 have d1 := seatsD_den R T (sec1 C) hB hbT
 have l0 := seatsG_len R T C
 have l1 := seatsG_len R T (sec1 C)
 have z0 := seatsG_zero hr hT hcv hE (by rw [hC])
 have cv0 := fun au => vote_den au 0 C ⟨[n0], []⟩ o0
 have cv1 := fun au => vote_den au 1 (sec1 C) ⟨[n1], []⟩ o1
 have hT0 := mem_of_el (show 0 < T.ros.length by omega)
 have hT0r := (rosV_pw hT.ros).2.1 _ hT0
 have ca := stmt2_den (el T.ros 0) 5 0 (apD C) (apD_ok C)
 have kS := stmt_okS (el T.ros 0) 5 0 (apD C) (apD_ok C)
 have qa : askB T.ros C (stmt (el T.ros 0) 5 0 (apD C)) = true := by
  rw [ask_stmt T.ros (el T.ros 0) 5 0 C C (by omega) (by omega) (by omega) hcv]
  simp [hT0]
 have qv : ∀ d, okV d (stmt (el T.ros 0) 5 0 (apD C)) = false := fun d => okV_nk (by show (15 : Int) ≠ 10; omega)
 have qp : plS (stmt (el T.ros 0) 5 0 (apD C)) := pl_stmt (by show (15 : Int) ≠ 10; omega)
 have law := fun A : List Stm => both_refused (r := R) (t := T) (c := C) (x0 := ⟨[n0], []⟩) (x1 := ⟨[n1], []⟩) (ap := A) hr hT hO hE r0 r1
 have hbV : ∀ A : List Stm, bothV R T C ⟨[n0], []⟩ ⟨[n1], []⟩ A = rfL R T C ⟨[n0], []⟩ ⟨[n1], []⟩ 2 ++ A := fun A => rfl
 simp only [hbV] at law
 have e1 : rfL R T C ⟨[n0], []⟩ ⟨[n1], []⟩ 1 = allFor C 0 ⟨[n0], []⟩ (seatsG R T C).1 := rfl
 have e2 := rfL_two R T C ⟨[n0], []⟩ ⟨[n1], []⟩
 have ez : rfL R T C ⟨[n0], []⟩ ⟨[n1], []⟩ 0 = [] := rfl
 generalize rfL R T C ⟨[n0], []⟩ ⟨[n1], []⟩ = V at *
 generalize hS0 : seatsG R T C = S0 at *
 obtain ⟨s0, f0⟩ := S0
 generalize hS1 : seatsG R T (sec1 C) = S1 at *
 obtain ⟨s1, f1⟩ := S1
 dsimp only at d0 d1 l0 l1 z0 e1 e2 law
 subst z0
 have hc0 : cs C = [.int .i64 0, .int .i64 2, .int .i64 su, .int .i64 0] := by rw [hC]; rfl
 have hc1 : cs (sec1 C) = [.int .i64 0, .int .i64 2, .int .i64 su, .int .i64 1] := by rw [hC]; rfl
 have hda : dr (apD C) = [.int .i64 15, .int .i64 0, .int .i64 2, .int .i64 su, .vs [], .vs []] := by rw [hC]; rfl
 have hx0 : ct ⟨[n0], []⟩ = [.vs [i1 n0], .vs []] := rfl
 have hx1 : ct ⟨[n1], []⟩ = [.vs [i1 n1], .vs []] := rfl
 rw [rl_eq, tm_eq, hc0] at d0
 rw [rl_eq, tm_eq, hc1] at d1
 simp only [hc0, hx0] at cv0
 simp only [hc1, hx1] at cv1
 rw [hda] at ca
 refine promote 12 120 47 13 false ?_ ?_ ?_ (by omega)
 ·refine loop Tryz.mixed (0 : Nat) (fun i : Nat => [(2, .bool ap), (8, .ptr 8 0), (9, .ptr 9 0), (11, .ptr 11 0), (12, .os 120 (V i).length), (13, .vs [i1 n0, i1 n1]), (14, .bool (if i = 2 then decide (f1 = 0) else false)), (15, .int .i64 i)]) (fun i => [(8, .cells (rl R)), (9, .cells (tm T)), (11, .cells [.int .i64 0, .int .i64 2, .int .i64 su, .int .i64 ((i - 1 : Nat) : Int)]), (120, .arr 47 13 false ((V i).map sm))]) (fun i => i ≤ 2) (fun i => 2 - i) (by kernel_rfl) (Nat.zero_le _) ?_ ?_
  ·rw [ez]
   simp only [go_sem, List.map_nil, List.length_nil]
  ·intro i hi
   have hi3 : i = 0 ∨ i = 1 ∨ i = 2 := by omega
   rcases hi3 with rfl | rfl | rfl
   ·rw [ez]
    simp only [go_sem]
    refine call d0 [] ?_
    simp only [go_sem]
    refine loop Tryz.mixed (0 : Nat) (fun m : Nat => [(2, .bool ap), (8, .ptr 8 0), (9, .ptr 9 0), (11, .ptr 11 0), (12, .os 120 (allFor C 0 ⟨[n0], []⟩ (s0.take m)).length), (13, .vs [i1 n0, i1 n1]), (14, .bool false), (15, .int .i64 0), (16, .vs (s0.map i1)), (18, .int .i64 m)]) (fun m => [(8, .cells (rl R)), (9, .cells (tm T)), (11, .cells [.int .i64 0, .int .i64 2, .int .i64 su, .int .i64 0]), (120, .arr 47 13 false ((allFor C 0 ⟨[n0], []⟩ (s0.take m)).map sm))]) (fun m => m ≤ s0.length) (fun m => s0.length - m) (by kernel_rfl) (Nat.zero_le _) ?_ ?_
    ·simp only [go_sem, allFor, List.map_nil, List.length_nil]
    ·intro m hm
     by_cases hm' : m < s0.length
     ·have hlt : (m : Int) < (s0.length : Int) := by omega
      have hsu2 := allFor_succ (c := C) (nu := 0) (x := ⟨[n0], []⟩) hm'
      have hln : (allFor C 0 ⟨[n0], []⟩ (s0.take m)).length ≤ 64 := by rw [allFor_len, List.length_take]; omega
      have cv := cv0 (el s0 m)
      generalize vt (el s0 m) 0 C ⟨[n0], []⟩ = v at *
      generalize allFor C 0 ⟨[n0], []⟩ (s0.take m) = o at *
      simp only [go_sem, hlt, hm']
      refine call cv [] ?_
      simp only [go_sem]
      refine ⟨by omega, okD_of (by kernel_rfl), m + 1, ⟨by omega, by omega⟩, ?_⟩
      rw [hsu2]
      exact ⟨⟨by simp, by rw [wrapI] <;> omega⟩, by rw [List.map_append]; rfl⟩
     ·have hlt : ¬ (m : Int) < (s0.length : Int) := by omega
      have : m = s0.length := by omega
      subst this
      rw [List.take_length, ← e1]
      simp only [go_sem, hlt]
      refine ⟨1, ⟨by omega, by omega⟩, ?_⟩
      simp only [go_sem]
      decide +kernel
   ·simp only [go_sem]
    refine call d1 [] ?_
    by_cases hf : f1 = 0
    ·rw [if_pos hf] at e2
     simp only [go_sem, hf]
     refine loop Tryz.mixed (0 : Nat) (fun m : Nat => [(2, .bool ap), (8, .ptr 8 0), (9, .ptr 9 0), (11, .ptr 11 0), (12, .os 120 (V 1 ++ allFor (sec1 C) 1 ⟨[n1], []⟩ (s1.take m)).length), (13, .vs [i1 n0, i1 n1]), (14, .bool true), (15, .int .i64 1), (16, .vs (s1.map i1)), (18, .int .i64 m)]) (fun m => [(8, .cells (rl R)), (9, .cells (tm T)), (11, .cells [.int .i64 0, .int .i64 2, .int .i64 su, .int .i64 1]), (120, .arr 47 13 false ((V 1 ++ allFor (sec1 C) 1 ⟨[n1], []⟩ (s1.take m)).map sm))]) (fun m => m ≤ s1.length) (fun m => s1.length - m) (by kernel_rfl) (Nat.zero_le _) ?_ ?_
     ·simp only [go_sem, allFor, List.map_nil, List.length_nil]
     ·intro m hm
      by_cases hm' : m < s1.length
      ·have hlt : (m : Int) < (s1.length : Int) := by omega
       have hsu2 := allFor_succ (c := sec1 C) (nu := 1) (x := ⟨[n1], []⟩) hm'
       have hln : (V 1 ++ allFor (sec1 C) 1 ⟨[n1], []⟩ (s1.take m)).length ≤ 128 := by rw [List.length_append, e1, allFor_len, allFor_len, List.length_take]; omega
       have cv := cv1 (el s1 m)
       generalize vt (el s1 m) 1 (sec1 C) ⟨[n1], []⟩ = v at *
       have ho : V 1 ++ allFor (sec1 C) 1 ⟨[n1], []⟩ (s1.take (m + 1)) = (V 1 ++ allFor (sec1 C) 1 ⟨[n1], []⟩ (s1.take m)) ++ [v] := by rw [hsu2, List.append_assoc]
       generalize V 1 ++ allFor (sec1 C) 1 ⟨[n1], []⟩ (s1.take m) = o at *
       simp only [go_sem, hlt, hm']
       refine call cv [] ?_
       simp only [go_sem]
       refine ⟨by omega, okD_of (by kernel_rfl), m + 1, ⟨by omega, by omega⟩, ?_⟩
       have h9 := congrArg List.length ho
       simp only [List.length_append, List.length_cons, List.length_nil] at h9
       rw [ho]
       exact ⟨⟨by omega, by rw [wrapI] <;> omega⟩, by rw [List.map_append]; rfl⟩
      ·have hlt : ¬ (m : Int) < (s1.length : Int) := by omega
       have : m = s1.length := by omega
       subst this
       rw [List.take_length, e1, ← e2]
       simp only [go_sem, hlt]
       refine ⟨2, ⟨by omega, by omega⟩, ?_⟩
       simp only [go_sem, hf]
       decide +kernel
    ·rw [if_neg hf, List.append_nil, ← e1] at e2
     simp only [go_sem, hf]
     refine ⟨2, ⟨by omega, by omega⟩, ?_⟩
     rw [e2]
     simp only [go_sem, hf]
     decide +kernel
   ·have hV2 : ∀ y ∈ V 2, plS y ∧ bigS y := fun y hy => by
     rw [e2] at hy
     rcases List.mem_append.1 hy with h | h
     ·exact p0 _ y h
     ·split at h
      ·exact p1 _ y h
      ·simp at h
    have hVl : (V 2).length ≤ 128 := by
     rw [e2, List.length_append, allFor_len]
     split
     ·rw [allFor_len]; omega
     ·simp only [List.length_nil]; omega
    have hkd : C.kd = 2 := by rw [hC]
    have hsu3 : C.su = su := by rw [hC]
    rw [hkd, hsu3] at law
    have u4 : Tryz.prog.underlying 4 = some .bool := by kernel_rfl
    cases ap
    ·have cR := refused_den R (V 2) T hr hT hB (by omega) (fun s hs => (hV2 s hs).2) (fun s hs => (hV2 s hs).1)
     have lw := law [] (by simp) (by simp) (decide (n0 = 1)) (by simp)
     rw [List.append_nil] at lw
     have hYl := keysW_len (fun k => saidB R (V 2) T 2 k) 64
     have hY : yesX R (V 2) T 2 = keysW (fun k => saidB R (V 2) T 2 k) 64 := rfl
     rw [← hY] at hYl
     generalize yesX R (V 2) T 2 = Y at *
     rw [rl_eq, tm_eq] at cR
     have ch := has24 Y su (by simp only [big]; omega)
     rw [lw.1] at ch
     have hY0 : (Y.length : Int) = 0 ↔ ¬ n0 = 1 := by
      rw [show ((Y.length : Int) = 0) = (Y = []) by simp, lw.2]
      simp
     by_cases hn : n0 = 1
     ·have hY1 : ¬ (Y.length : Int) = 0 := fun h => hY0.1 h hn
      simp only [go_sem, hn]
      refine call cR [] ?_
      simp only [go_sem]
      refine call ch [] ?_
      simp only [go_sem, hn, u4, hY1]
      refine call awake_den [] ?_
      simp only [go_sem]
     ·have hY1 := hY0.2 hn
      simp only [go_sem, hn]
      refine call cR [] ?_
      simp only [go_sem]
      refine call ch [] ?_
      simp only [go_sem, hn, u4, hY1]
      refine call awake_den [] ?_
      simp only [go_sem]
    ·by_cases hf : f1 = 0
     ·have lw := law [stmt (el T.ros 0) 5 0 (apD C)] (fun s hs d => by rw [List.mem_singleton] at hs; rw [hs]; exact qv d) (by simp [qa]) (decide (n1 = 1)) (by simp [hf])
      have cR := refused_den R (V 2 ++ [stmt (el T.ros 0) 5 0 (apD C)]) T hr hT hB (by rw [List.length_append, List.length_singleton]; omega) (fun s hs => by
       rcases List.mem_append.1 hs with h | h
       ·exact (hV2 s h).2
       ·rw [List.mem_singleton] at h; rw [h]; exact kS.big) (fun s hs => by
       rcases List.mem_append.1 hs with h | h
       ·exact (hV2 s h).1
       ·rw [List.mem_singleton] at h; rw [h]; exact qp)
      have hYl := keysW_len (fun k => saidB R (V 2 ++ [stmt (el T.ros 0) 5 0 (apD C)]) T 2 k) 64
      have hY : yesX R (V 2 ++ [stmt (el T.ros 0) 5 0 (apD C)]) T 2 = keysW (fun k => saidB R (V 2 ++ [stmt (el T.ros 0) 5 0 (apD C)]) T 2 k) 64 := rfl
      rw [← hY] at hYl
      clear hY
      generalize yesX R (V 2 ++ [stmt (el T.ros 0) 5 0 (apD C)]) T 2 = Y at *
      generalize stmt (el T.ros 0) 5 0 (apD C) = st at *
      have hMm : (V 2).map sm ++ [sm st] = (V 2 ++ [st]).map sm := by simp
      have hMn : (V 2).length + 1 = (V 2 ++ [st]).length := by simp
      rw [rl_eq, tm_eq] at cR
      have ch := has24 Y su (by simp only [big]; omega)
      rw [lw.1] at ch
      have hY0 : (Y.length : Int) = 0 ↔ ¬ n1 = 1 := by
       rw [show ((Y.length : Int) = 0) = (Y = []) by simp, lw.2]
       simp
      simp only [sm_eq] at hMm
      by_cases hn : n1 = 1
      ·have hY1 : ¬ (Y.length : Int) = 0 := fun h => hY0.1 h hn
       simp only [go_sem, hf]
       refine ⟨by omega, call ca [] ?_⟩
       simp only [go_sem]
       (repeat refine And.intro (by first | omega | exact okD_of (by kernel_rfl)) ?_)
       rw [hMn, hMm]
       simp only [go_sem, hn, hf]
       refine call cR [] ?_
       simp only [go_sem]
       refine call ch [] ?_
       simp only [go_sem, hn, u4, hY1]
       refine call awake_den [] ?_
       simp only [go_sem]
      ·have hY1 := hY0.2 hn
       simp only [go_sem, hf]
       refine ⟨by omega, call ca [] ?_⟩
       simp only [go_sem]
       (repeat refine And.intro (by first | omega | exact okD_of (by kernel_rfl)) ?_)
       rw [hMn, hMm]
       simp only [go_sem, hn, hf]
       refine call cR [] ?_
       simp only [go_sem]
       refine call ch [] ?_
       simp only [go_sem, hn, u4, hY1]
       refine call awake_den [] ?_
       simp only [go_sem]
     ·have lw := law [stmt (el T.ros 0) 5 0 (apD C)] (fun s hs d => by rw [List.mem_singleton] at hs; rw [hs]; exact qv d) (by simp [qa]) (decide (n0 = 1)) (by simp [hf])
      have cR := refused_den R (V 2 ++ [stmt (el T.ros 0) 5 0 (apD C)]) T hr hT hB (by rw [List.length_append, List.length_singleton]; omega) (fun s hs => by
       rcases List.mem_append.1 hs with h | h
       ·exact (hV2 s h).2
       ·rw [List.mem_singleton] at h; rw [h]; exact kS.big) (fun s hs => by
       rcases List.mem_append.1 hs with h | h
       ·exact (hV2 s h).1
       ·rw [List.mem_singleton] at h; rw [h]; exact qp)
      have hYl := keysW_len (fun k => saidB R (V 2 ++ [stmt (el T.ros 0) 5 0 (apD C)]) T 2 k) 64
      have hY : yesX R (V 2 ++ [stmt (el T.ros 0) 5 0 (apD C)]) T 2 = keysW (fun k => saidB R (V 2 ++ [stmt (el T.ros 0) 5 0 (apD C)]) T 2 k) 64 := rfl
      rw [← hY] at hYl
      clear hY
      generalize yesX R (V 2 ++ [stmt (el T.ros 0) 5 0 (apD C)]) T 2 = Y at *
      generalize stmt (el T.ros 0) 5 0 (apD C) = st at *
      have hMm : (V 2).map sm ++ [sm st] = (V 2 ++ [st]).map sm := by simp
      have hMn : (V 2).length + 1 = (V 2 ++ [st]).length := by simp
      rw [rl_eq, tm_eq] at cR
      have ch := has24 Y su (by simp only [big]; omega)
      rw [lw.1] at ch
      have hY0 : (Y.length : Int) = 0 ↔ ¬ n0 = 1 := by
       rw [show ((Y.length : Int) = 0) = (Y = []) by simp, lw.2]
       simp
      simp only [sm_eq] at hMm
      by_cases hn : n0 = 1
      ·have hY1 : ¬ (Y.length : Int) = 0 := fun h => hY0.1 h hn
       simp only [go_sem, hf]
       refine ⟨by omega, call ca [] ?_⟩
       simp only [go_sem]
       (repeat refine And.intro (by first | omega | exact okD_of (by kernel_rfl)) ?_)
       rw [hMn, hMm]
       simp only [go_sem, hn, hf]
       refine call cR [] ?_
       simp only [go_sem]
       refine call ch [] ?_
       simp only [go_sem, hn, u4, hY1]
       refine call awake_den [] ?_
       simp only [go_sem]
      ·have hY1 := hY0.2 hn
       simp only [go_sem, hf]
       refine ⟨by omega, call ca [] ?_⟩
       simp only [go_sem]
       (repeat refine And.intro (by first | omega | exact okD_of (by kernel_rfl)) ?_)
       rw [hMn, hMm]
       simp only [go_sem, hn, hf]
       refine call cR [] ?_
       simp only [go_sem]
       refine call ch [] ?_
       simp only [go_sem, hn, u4, hY1]
       refine call awake_den [] ?_
       simp only [go_sem]
 ·simp only [go_sem]
 ·simp only [go_sem]
end Go.Proofs.Am
