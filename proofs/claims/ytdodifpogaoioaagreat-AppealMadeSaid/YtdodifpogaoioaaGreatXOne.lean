/- XOne. -/
import Derived.Test.YtdodifpogaoioaaGreatUFour
import Derived.Test.YtdodifpogaoioaaGreatC10
import Derived.Test.YtdodifpogaoioaaGreatEOne
set_option linter.unusedSimpArgs false
set_option linter.unusedVariables false
namespace Go.Proofs.Am
open Go Go.RowKit
open Go.Proofs
set_option maxHeartbeats 1000000 in
set_option maxRecDepth 100000 in
theorem rsecond (c : Cs) : Den Tryz.prog 21 [.agg (cs c)] [] (.tup [.agg (cs (secC c).1), .int .i64 (secC c).2]) [] [] := by
 refine den_of Tryz.mixed Tryz.func21 rfl Tryz.call21 Tryz.ntmps21 (congrArg Array.toList Tryz.results21) (by simp) (by kernel_rfl) [] (exts := []) rfl rfl ?_
 simp only [go_sem]
 refine call (ropen c) [] ?_
 cases h : openB c
 ·have e1 : secC c = (⟨0, 0, 0, 0⟩, 41) := by rw [secC, h]; rfl
  rw [e1]
  simp only [go_sem]
 ·have e1 : secC c = ({ c with ro := 1 }, 0) := by rw [secC, h]; rfl
  rw [e1]
  simp only [go_sem]
theorem secC_eq (c : Cs) : secC c = if openB c = true then (sec1 c, 0) else (⟨0, 0, 0, 0⟩, 41) := rfl
theorem ask_step {p : Stm → Bool} {l : List Stm} {i : Nat} (hp : ∀ j, j < i → p (el l j) = false) (h : p (el l i) = false) : ∀ j, j < i + 1 → p (el l j) = false := fun j hj => by
 by_cases hji : j = i
 ·rw [hji]; exact h
 ·exact hp j (by omega)
theorem anyS_el {p : Stm → Bool} {l : List Stm} {i : Nat} (hi : i < l.length) (h : p (el l i) = true) : l.any p = true := List.any_eq_true.2 ⟨_, el_mem hi, h⟩
theorem anyS_none {p : Stm → Bool} {l : List Stm} (h : ∀ j, j < l.length → p (el l j) = false) : l.any p = false := by
 rw [List.any_eq_false]
 intro x hx
 obtain ⟨j, hj, rfl⟩ := mem_el hx
 rw [h j hj]
 simp
set_option maxHeartbeats 1000000 in
set_option maxRecDepth 100000 in
theorem rasked_den (l : List Stm) (t : Tm) (c : Cs) (hl : big t.ros.length) (hb : big l.length) (hs : ∀ s ∈ l, bigS s) : Den Tryz.prog 29 [.vs (l.map sm), .agg (tm t), .agg (cs c)] [] (.bool (askedB l t c)) [] [] := by
 refine den_of Tryz.mixed Tryz.func29 rfl Tryz.call29 Tryz.ntmps29 (congrArg Array.toList Tryz.results29) (by simp) (by kernel_rfl) [] (exts := []) rfl rfl ?_
 have c1 := ropen c
 rw [cs_eq] at c1
 simp only [go_sem]
 refine call c1 [] ?_
 cases e : openB c
 ·simp only [go_sem, askedB, e]
 have hm : askedB l t c = l.any (askB t.ros c) := by rw [askedB, e, Bool.true_and]
 rw [hm]
 simp only [go_sem]
 refine loop Tryz.mixed 0 (fun i : Nat => [(0, .vs (l.map sm)), (4, .ptr 4 0), (5, .ptr 5 0), (7, .int .i64 i)]) (fun i => [(4, .cells (tm t)), (5, .cells (cs c))]) (fun i => i ≤ l.length ∧ ∀ j, j < i → askB t.ros c (el l j) = false) (fun i => l.length - i) (by kernel_rfl) ?_ ?_ ?_
 ·simp
 ·simp only [go_sem]
 ·rintro i ⟨hi, hp⟩
  by_cases hi' : i < l.length
  ·have hlt : (i : Int) < (l.length : Int) := by omega
   have hbs := hs _ (el_mem hi')
   have hany := anyS_el (p := askB t.ros c) hi'
   have nx := ask_step (l := l) hp
   have k1 := rcheck_denB (el l i) hbs
   have k2 := fun h : checkE (el l i) = 0 => rsealed_den (el l i) (okS_check h)
   have k3 := has24 t.ros (el l i).au hl
   rw [sm_eq] at k1 k2
   generalize hq : askB t.ros c (el l i) = q at *
   unfold askB at hq
   by_cases a0 : (el l i).kd = 15
   rotate_left
   ·skip
    simp only [go_sem, hlt, hi', a0]
    refine ⟨i + 1, ⟨⟨by omega, nx (by rw [← hq]; simp [a0])⟩, by omega⟩, by rw [wrapI] <;> omega⟩
   by_cases a1 : (el l i).a = c.ep
   rotate_left
   ·skip
    simp only [go_sem, hlt, hi', a0, a1]
    refine ⟨i + 1, ⟨⟨by omega, nx (by rw [← hq]; simp [a1])⟩, by omega⟩, by rw [wrapI] <;> omega⟩
   by_cases a2 : (el l i).b = c.kd
   rotate_left
   ·skip
    simp only [go_sem, hlt, hi', a0, a1, a2]
    refine ⟨i + 1, ⟨⟨by omega, nx (by rw [← hq]; simp [a2])⟩, by omega⟩, by rw [wrapI] <;> omega⟩
   by_cases a3 : (el l i).c = c.su
   rotate_left
   ·skip
    simp only [go_sem, hlt, hi', a0, a1, a2, a3]
    refine ⟨i + 1, ⟨⟨by omega, nx (by rw [← hq]; simp [a3])⟩, by omega⟩, by rw [wrapI] <;> omega⟩
   by_cases a4 : ((el l i).li.length : Int) = 0
   rotate_left
   ·have a4' : ¬ (el l i).li.length = 0 := by omega
    simp only [go_sem, hlt, hi', a0, a1, a2, a3, a4]
    refine ⟨i + 1, ⟨⟨by omega, nx (by rw [← hq]; simp [a4'])⟩, by omega⟩, by rw [wrapI] <;> omega⟩
   have a4' : (el l i).li.length = 0 := by omega
   by_cases a5 : ((el l i).pins.length : Int) = 0
   rotate_left
   ·have a5' : ¬ (el l i).pins.length = 0 := by omega
    simp only [go_sem, hlt, hi', a0, a1, a2, a3, a4, a5]
    refine ⟨i + 1, ⟨⟨by omega, nx (by rw [← hq]; simp [a5'])⟩, by omega⟩, by rw [wrapI] <;> omega⟩
   have a5' : (el l i).pins.length = 0 := by omega
   by_cases a6 : (el l i).body = []
   rotate_left
   ·skip
    simp only [go_sem, hlt, hi', a0, a1, a2, a3, a4, a5, a6]
    refine ⟨i + 1, ⟨⟨by omega, nx (by rw [← hq]; simp [a6])⟩, by omega⟩, by rw [wrapI] <;> omega⟩
   simp only [go_sem, hlt, hi', a0, a1, a2, a3, a4, a5, a6]
   refine call k3 [] ?_
   by_cases b1 : (el l i).au ∈ t.ros
   rotate_left
   ·simp only [go_sem, b1]
    refine ⟨i + 1, ⟨⟨by omega, nx (by rw [← hq]; simp [b1])⟩, by omega⟩, by rw [wrapI] <;> omega⟩
   simp only [go_sem, b1]
   refine call k1 [] ?_
   simp only [go_sem]
   refine ⟨⟨a0.symm, a1.symm, a2.symm, a3.symm, a6.symm⟩, ?_⟩
   by_cases b2 : checkE (el l i) = 0
   rotate_left
   ·simp only [go_sem, b2]
    refine ⟨i + 1, ⟨⟨by omega, nx (by rw [← hq]; simp [b2])⟩, by omega⟩, by rw [wrapI] <;> omega⟩
   simp only [go_sem, b2]
   refine call (k2 b2) [] ?_
   simp only [go_sem]
   refine ⟨⟨a0.symm, a1.symm, a2.symm, a3.symm, a6.symm⟩, ?_⟩
   by_cases b3 : (el l i).sk = (el l i).au ∧ (el l i).sd = dig (el l i)
   rotate_left
   ·simp only [go_sem, b3]
    refine ⟨i + 1, ⟨⟨by omega, nx (by rw [← hq]; simp [b3])⟩, by omega⟩, by rw [wrapI] <;> omega⟩
   simp only [go_sem, b3]
   have := hany (by rw [← hq]; simp [b1, b2, b3, a0, a1, a2, a3, a4', a5', a6])
   rw [this]
  ·have hf : ¬ ((i : Int) < (l.length : Int)) := by omega
   have : i = l.length := by omega
   subst this
   simp only [go_sem, hf]
   rw [anyS_none hp]
theorem decG_errC {r : Rl} {L : List Stm} {t : Tm} {c : Cs} (h : (decG r L t c).2.2 ≠ 0) : (decG r L t c).2.1 = false ∧ (decG r L t c).1 = noC := by
 unfold decG at h ⊢
 split
 ·exact ⟨rfl, rfl⟩
 ·rename_i hs
  rw [if_neg hs] at h
  have : decA L c (seatsG r t c).1 = [] := by
   unfold decA
   rw [if_neg h]
  rw [this]
  exact ⟨rfl, rfl⟩
theorem secX_eq {r : Rl} {L : List Stm} {t : Tm} {c : Cs} (ha : askedB L t c = true) : secX r L t c = ((decG r L t (sec1 c)).1, (decG r L t (sec1 c)).2.1 && decide ((decG r L t (sec1 c)).2.2 = 0)) := by
 unfold secX
 by_cases h : (decG r L t (sec1 c)).2.2 = 0
 ·rw [if_pos ⟨ha, h⟩, decide_eq_true h, Bool.and_true]
 ·rw [if_neg (fun hh => h hh.2), (decG_errC h).1, (decG_errC h).2, Bool.false_and]
theorem secX_no {r : Rl} {L : List Stm} {t : Tm} {c : Cs} (ha : askedB L t c = false) : secX r L t c = (noC, false) := by
 unfold secX
 rw [if_neg (by simp [ha])]
theorem asked_open {L : List Stm} {t : Tm} {c : Cs} (h : openB c = false) : askedB L t c = false := by rw [askedB, h, Bool.false_and]
set_option maxHeartbeats 1000000 in
set_option maxRecDepth 100000 in
theorem rsec_den (r : Rl) (L : List Stm) (t : Tm) (c : Cs) (hr : RlB r) (hl : big t.ros.length) (hL : L.length ≤ 900) (hs : ∀ s ∈ L, bigS s) : Den Tryz.prog 60 [.agg (rl r), .vs (L.map sm), .agg (tm t), .agg (cs c)] [] (.tup [.agg (ct (secX r L t c).1), .bool (secX r L t c).2]) [] [] := by
 refine den_of Tryz.mixed Tryz.func60 rfl Tryz.call60 Tryz.ntmps60 (congrArg Array.toList Tryz.results60) (by simp) (by kernel_rfl) [] (exts := []) rfl rfl ?_
 have c1 := rsecond c
 have c2 := rasked_den L t c hl (by simp only [big]; omega) hs
 have c3 := decD_den r L t (sec1 c) hr hl hL hs
 have h1 := secC_eq c
 have h2 := secX_eq (r := r) (L := L) (t := t) (c := c)
 have h3 := secX_no (r := r) (L := L) (t := t) (c := c)
 have h4 := asked_open (L := L) (t := t) (c := c)
 generalize secX r L t c = m at *
 generalize decG r L t (sec1 c) = D at *
 obtain ⟨x, b, e⟩ := D
 simp only at c3 h2
 rw [rl_eq, tm_eq, cs_eq, ct_eq] at c3
 rw [tm_eq, cs_eq] at c2
 simp only [go_sem]
 refine call c1 [] ?_
 cases ho : openB c
 ·rw [ho, if_neg (by simp)] at h1
  rw [h3 (h4 ho), h1]
  simp only [go_sem, noC, List.map_nil]
 rw [ho, if_pos rfl] at h1
 rw [h1]
 simp only [go_sem]
 refine call c2 [] ?_
 cases ha : askedB L t c
 ·rw [h3 ha]
  simp only [go_sem, noC, List.map_nil]
 rw [h2 ha]
 simp only [go_sem, sec1]
 simp only [sec1] at c3
 refine call c3 [] ?_
 cases b
 ·simp only [go_sem]
 ·simp only [go_sem]
set_option maxHeartbeats 1000000 in
set_option maxRecDepth 100000 in
theorem rout_den (r : Rl) (L : List Stm) (t : Tm) (c : Cs) (hr : RlB r) (hl : big t.ros.length) (hL : L.length ≤ 900) (hs : ∀ s ∈ L, bigS s) : Den Tryz.prog 23 [.agg (rl r), .vs (L.map sm), .agg (tm t), .agg (cs c)] [] (.tup [.agg (ct (outX r L t c).1), .bool (outX r L t c).2.1, .int .i64 (outX r L t c).2.2]) [] [] := by
 refine den_of Tryz.mixed Tryz.func23 rfl Tryz.call23 Tryz.ntmps23 (congrArg Array.toList Tryz.results23) (by simp) (by kernel_rfl) [] (exts := []) rfl rfl ?_
 have c1 := cvalid23 c
 have c2 := decD_den r L t c hr hl hL hs
 have c3 := rsec_den r L t c hr hl hL hs
 have hm : outX r L t c = if caseV c = true ∧ c.ro = 0 then
  if (decG r L t c).2.2 ≠ 0 then (noC, false, (decG r L t c).2.2)
  else if (secX r L t c).2 = true then ((secX r L t c).1, true, 0) else ((decG r L t c).1, (decG r L t c).2.1, 0)
 else (noC, false, 41) := rfl
 generalize outX r L t c = m at *
 generalize decG r L t c = D at *
 generalize secX r L t c = S at *
 obtain ⟨x, b, e⟩ := D
 obtain ⟨y, i⟩ := S
 simp only at c2 c3 hm
 rw [cs_eq] at c1
 rw [rl_eq, tm_eq, cs_eq, ct_eq] at c2 c3
 simp only [go_sem]
 refine call c1 [] ?_
 by_cases a1 : caseV c = true
 rotate_left
 ·rw [if_neg (fun h => a1 h.1)] at hm
  subst hm
  simp only [go_sem, a1, noC, List.map_nil]
 by_cases a2 : c.ro = 0
 rotate_left
 ·rw [if_neg (fun h => a2 h.2)] at hm
  subst hm
  simp only [go_sem, a1, a2, noC, List.map_nil]
 rw [if_pos ⟨a1, a2⟩] at hm
 rw [a2] at c2 c3
 simp only [go_sem, a1, a2]
 refine call c2 [] ?_
 by_cases a3 : e = 0
 rotate_left
 ·rw [if_pos a3] at hm
  subst hm
  simp only [go_sem, a3, noC, List.map_nil]
 rw [if_neg (by simpa using a3)] at hm
 simp only [go_sem, a3, a2]
 refine call c3 [] ?_
 cases i
 ·rw [if_neg (by simp)] at hm
  subst hm
  simp only [go_sem]
 ·rw [if_pos rfl] at hm
  subst hm
  simp only [go_sem]
set_option maxHeartbeats 1000000 in
set_option maxRecDepth 100000 in
theorem rsettle_den (r : Rl) (L : List Stm) (t : Tm) (c : Cs) (hr : RlB r) (hl : big t.ros.length) (hL : L.length ≤ 900) (hs : ∀ s ∈ L, bigS s) : Den Tryz.prog 25 [.agg (rl r), .vs (L.map sm), .agg (tm t), .agg (cs c)] [] (.tup [.bool (setX r L t c).1, .int .i64 (setX r L t c).2]) [] [] := by
 refine den_of Tryz.mixed Tryz.func25 rfl Tryz.call25 Tryz.ntmps25 (congrArg Array.toList Tryz.results25) (by simp) (by kernel_rfl) [] (exts := []) rfl rfl ?_
 have c2 := rout_den r L t c hr hl hL hs
 have c3 := rsec_den r L t c hr hl hL hs
 have hm : setX r L t c = if (outX r L t c).2.2 ≠ 0 then (false, (outX r L t c).2.2) else if c.kd = 1 then ((outX r L t c).2.1, 0) else ((secX r L t c).2, 0) := rfl
 generalize setX r L t c = m at *
 generalize outX r L t c = D at *
 generalize secX r L t c = S at *
 obtain ⟨x, b, e⟩ := D
 obtain ⟨y, i⟩ := S
 simp only at c2 c3 hm
 rw [rl_eq, tm_eq, cs_eq, ct_eq] at c2 c3
 simp only [go_sem]
 refine call c2 [] ?_
 by_cases a3 : e = 0
 rotate_left
 ·rw [if_pos a3] at hm
  subst hm
  simp only [go_sem, a3]
 rw [if_neg (by simpa using a3)] at hm
 by_cases a4 : c.kd = 1
 ·rw [if_pos a4] at hm
  subst hm
  simp only [go_sem, a3, a4]
 rw [if_neg a4] at hm
 subst hm
 simp only [go_sem, a3, a4]
 refine call c3 [] ?_
 simp only [go_sem]
end Go.Proofs.Am

/- Disputes: plain laws of what the dice give. -/
namespace Go.Proofs.Am
open Go Go.RowKit
open Go.Proofs
theorem dspT_len {l : List Int} {p : Nat} (hp : p ≤ l.length) : 3 ≤ (dspT l p).ros.length ∧ (dspT l p).ros.length ≤ 8 := by
 have b1 := dnext_lt (l := l) (p := dgo l p 8) (n := 6) (by omega)
 show 3 ≤ (([0, 1, 2, 3, 4, 5, 6, 7] : List Int).take _).length ∧ (([0, 1, 2, 3, 4, 5, 6, 7] : List Int).take _).length ≤ 8
 rw [List.length_take]
 show 3 ≤ min _ 8 ∧ min _ 8 ≤ 8
 omega
theorem dspC_open {l : List Int} {p : Nat} (hp : p ≤ l.length) : openB (dspC l p) = true := by
 have b2 := dnext_lt (l := l) (p := dgo l p 9) (n := 2) (by omega)
 have b3 := dnext_lt (l := l) (p := dgo l p 10) (n := 7) (by omega)
 have hCk : (dspC l p).kd = 2 + dnext l (dgo l p 9) 2 := rfl
 have hCs : (dspC l p).su = dnext l (dgo l p 10) 7 := rfl
 refine openB_iff.2 ⟨caseV_t ⟨by show (0 : Int) ≤ 0; omega, by show (0 : Int) < 40; omega, by omega, by omega, by show (0 : Int) ≤ 0; omega, by show (0 : Int) ≤ 1; omega, by omega⟩, rfl, by omega⟩
theorem dspGo_ok {l : List Int} {k : Cs} {x : Ct} {seats : List Int} {round : Int} {p : Nat} {o : List Stm} (hx : okCt x) (ho : ∀ s ∈ o, okS s) : ∀ i, ∀ s ∈ (dspGo l k x seats round p o i).2, okS s
 | 0 => ho
 | i + 1 => fun s hs => by
  rw [dspGo] at hs
  rcases List.mem_append.1 hs with h | h
  ·exact dspGo_ok hx ho i s h
  ·split at h
   ·simp at h
   ·rw [List.mem_singleton] at h
    rw [h]
    exact vt_okS _ _ _ hx
theorem dspRd_ok {l : List Int} {r : Rl} {t : Tm} {c : Cs} {round : Int} {st : Nat × List Stm} (ho : ∀ s ∈ st.2, okS s) : ∀ s ∈ (dspRd l r t c round st).2, okS s := by
 have h2 := dspGo_ok (l := l) (k := { c with ro := round }) (x := (mcont l st.1 { c with ro := round }).1) (seats := (seatsR r t { c with ro := round }).1) (round := round) (p := (mcont l st.1 { c with ro := round }).2) (o := st.2) (mcont_ok _ _ _) ho (seatsR r t { c with ro := round }).1.length
 unfold dspRd
 split
 ·exact ho
 split
 ·intro s hs
  rcases List.mem_append.1 hs with h | h
  ·exact h2 s h
  ·exact mvotes_okS _ _ _ _ s h
 ·exact h2
theorem dspS_ok {l : List Int} {p : Nat} : ∀ i, ∀ s ∈ (dspS l p i).2, okS s
 | 0 => by simp [dspS]
 | i + 1 => dspRd_ok (dspS_ok i)
theorem dspF_ok {l : List Int} {p : Nat} : ∀ s ∈ (dspF l p).2, okS s := by
 unfold dspF
 split
 ·intro s hs
  rcases List.mem_append.1 hs with h | h
  ·exact dspS_ok 2 s h
  ·rw [List.mem_singleton] at h
   rw [h]
   exact stmt_okS _ _ _ _ (apDr_ok _)
 ·exact dspS_ok 2
theorem dspF_len {l : List Int} {p : Nat} : (dspF l p).2.length ≤ 401 := by
 have h := dspS_len (l := l) (p := p) 2
 unfold dspF
 split
 ·simp only [List.length_append, List.length_singleton]; omega
 ·simp only; omega
theorem decG_big {r : Rl} {L : List Stm} {t : Tm} {c : Cs} : bigC (decG r L t c).1 := by
 unfold decG
 split
 ·exact by simp [noC, bigC, big]
 ·show bigC (oneC (decA L c (seatsG r t c).1))
  unfold decA
  split
  ·exact oneC_big
  ·exact by simp [oneC, noC, bigC, big]
theorem outX_big {r : Rl} {L : List Stm} {t : Tm} {c : Cs} : bigC (outX r L t c).1 := by
 unfold outX
 split
 ·split
  ·exact by simp [noC, bigC, big]
  ·split
   ·unfold secX
    split
    ·exact decG_big
    ·exact by simp [noC, bigC, big]
   ·exact decG_big
 ·exact by simp [noC, bigC, big]
def plS (s : Stm) : Prop := s.kd = 10 → s.pins = [] ∧ s.b.tmod 16 ≠ 1
theorem plX_votes {L : List Stm} {c : Cs} (h : ∀ s ∈ L, plS s) : ∀ y ∈ votesL L c, plX y.x := fun y hy => by
 obtain ⟨s, hs, ho, rfl⟩ := mem_votesL.1 hy
 have h1 := (Bool.and_eq_true_iff.1 ho).1
 have h2 : (ofE s).2 = 0 := of_decide_eq_true (Bool.and_eq_true_iff.1 h1).1
 show plX (ofE s).1.x
 unfold ofE at h2 ⊢
 split at h2
 ·rename_i h3
  exact absurd h2 h3
 rename_i h3
 rw [if_neg h3]
 split at h2
 ·rename_i h4
  rw [if_pos h4]
  obtain ⟨a1, a2, a3⟩ := h4
  obtain ⟨p1, p2⟩ := h s hs a1
  refine ⟨p1, ?_⟩
  have a4 := (Bool.and_eq_true_iff.1 (Bool.and_eq_true_iff.1 a3).2).2
  unfold listV at a4
  rw [if_neg (show ¬ (mkV s).c.kd = 1 from p2)] at a4
  obtain ⟨a5, a6⟩ := of_decide_eq_true a4
  intro n hn
  obtain ⟨z, hz⟩ := List.length_eq_one_iff.1 a5
  have hl : s.li = [z] := hz
  have a6 : el s.li 0 = 0 ∨ el s.li 0 = 1 := a6
  have hn : n ∈ s.li := hn
  rw [hl] at a6 hn
  rw [List.mem_singleton] at hn
  rw [hn]
  exact a6
 ·cases h2
theorem pl_vt {k nu : Int} {c : Cs} {x : Ct} (hk : c.kd ≠ 1) (hx : x.pi = []) : plS (vt k nu c x) := fun h => by
 show (vdraft c x).1.pins = [] ∧ (vdraft c x).1.b.tmod 16 ≠ 1
 have h : (vdraft c x).1.kd = 10 := h
 unfold vdraft at h ⊢
 split at h
 ·cases h
 rename_i h1
 rw [if_neg h1]
 split at h
 ·cases h
 rename_i h2
 rw [if_neg h2]
 have h3 : caseV c = true := by simpa using h1
 have h4 := of_decide_eq_true h3
 refine ⟨hx, ?_⟩
 show (c.kd + 16 * c.ro).tmod 16 ≠ 1
 rw [Int.tmod_eq_emod_of_nonneg (by omega)]
 omega
theorem pl_stmt {k nu ti : Int} {d : Drf} (h : d.kd ≠ 10) : plS (stmt k nu ti d) := fun hk => absurd hk h
theorem mcont_pi {l : List Int} {p : Nat} {c : Cs} (hk : c.kd ≠ 1) : (mcont l p c).1.pi = [] := by
 unfold mcont
 rw [if_pos hk]
theorem pl_app {a b : List Stm} (ha : ∀ s ∈ a, plS s) (hb : ∀ s ∈ b, plS s) : ∀ s ∈ a ++ b, plS s := fun s hs => by
 rcases List.mem_append.1 hs with h | h
 ·exact ha s h
 ·exact hb s h
theorem pl_one {a : List Stm} {t : Stm} (ha : ∀ s ∈ a, plS s) (ht : plS t) : ∀ s ∈ a ++ [t], plS s := pl_app ha fun s hs => by rw [List.mem_singleton] at hs; rw [hs]; exact ht
theorem mvGo_pl {l : List Int} {c : Cs} {x y : Ct} {seats : List Int} {p : Nat} (hk : c.kd ≠ 1) (hx : x.pi = []) (hy : y.pi = []) : ∀ i, ∀ s ∈ (mvGo l c x y seats p i).2, plS s
 | 0 => by simp [mvGo]
 | i + 1 => by
  have ih := mvGo_pl (l := l) (seats := seats) (p := p) hk hx hy i
  have v1 : ∀ k n, plS (vt k n c x) := fun k n => pl_vt hk hx
  have v2 : ∀ k n, plS (vt k n c y) := fun k n => pl_vt hk hy
  show ∀ s ∈ (mvStep l c x y (el seats i) (mvGo l c x y seats p i)).2, plS s
  unfold mvStep
  split
  ·exact pl_one ih (v2 _ _)
  split
  ·refine pl_app ih fun s hs => ?_
   rcases List.mem_cons.1 hs with rfl | hs
   ·exact v1 _ _
   ·rw [List.mem_singleton] at hs
    rw [hs]
    exact v2 _ _
  split
  ·refine pl_one ih ?_
   split
   ·exact v1 (el seats i) 0
   ·exact v1 _ _
  split
  ·exact ih
  ·exact pl_one ih (v1 _ _)
theorem mvotes_pl {l : List Int} {p : Nat} {c : Cs} {seats : List Int} (hk : c.kd ≠ 1) : ∀ s ∈ (mvotes l p c seats).1, plS s := by
 have h := mvGo_pl (l := l) (seats := seats) (p := (mcont l (mcont l p c).2 c).2) hk (mcont_pi (l := l) (p := p) hk) (mcont_pi (l := l) (p := (mcont l p c).2) hk) seats.length
 unfold mvotes
 split
 ·exact pl_one h (pl_vt hk (mcont_pi hk))
 ·exact h
theorem dspGo_pl {l : List Int} {k : Cs} {x : Ct} {seats : List Int} {round : Int} {p : Nat} {o : List Stm} (hk : k.kd ≠ 1) (hx : x.pi = []) (ho : ∀ s ∈ o, plS s) : ∀ i, ∀ s ∈ (dspGo l k x seats round p o i).2, plS s
 | 0 => ho
 | i + 1 => by
  have ih := dspGo_pl (l := l) (seats := seats) (round := round) (p := p) hk hx ho i
  rw [dspGo]
  split
  ·simpa using ih
  ·exact pl_one ih (pl_vt hk hx)
theorem dspRd_pl {l : List Int} {r : Rl} {t : Tm} {c : Cs} {round : Int} {st : Nat × List Stm} (hk : c.kd ≠ 1) (ho : ∀ s ∈ st.2, plS s) : ∀ s ∈ (dspRd l r t c round st).2, plS s := by
 have h2 := dspGo_pl (l := l) (k := { c with ro := round }) (x := (mcont l st.1 { c with ro := round }).1) (seats := (seatsR r t { c with ro := round }).1) (round := round) (p := (mcont l st.1 { c with ro := round }).2) (o := st.2) hk (mcont_pi hk) ho (seatsR r t { c with ro := round }).1.length
 unfold dspRd
 split
 ·exact ho
 split
 ·exact pl_app h2 (mvotes_pl hk)
 ·exact h2
theorem dspC_kd {l : List Int} {p : Nat} (hp : p ≤ l.length) : (dspC l p).kd ≠ 1 := (openB_iff.1 (dspC_open hp)).2.2
theorem dspS_pl {l : List Int} {p : Nat} (hp : p ≤ l.length) : ∀ i, ∀ s ∈ (dspS l p i).2, plS s
 | 0 => by simp [dspS]
 | i + 1 => dspRd_pl (dspC_kd hp) (dspS_pl hp i)
theorem dspF_pl {l : List Int} {p : Nat} (hp : p ≤ l.length) : ∀ s ∈ (dspF l p).2, plS s := by
 unfold dspF
 split
 ·refine pl_one (dspS_pl hp 2) (pl_stmt ?_)
  unfold apDr
  split <;> simp [apD, noD]
 ·exact dspS_pl hp 2
end Go.Proofs.Am

/- Appeals, the program's: both rounds, outcomes. -/
namespace Go.Proofs.Am
open Go Go.RowKit
open Go.Proofs
set_option maxHeartbeats 1000000 in
set_option maxRecDepth 100000 in
theorem first_decP (r : Rl) (L : List Stm) (t : Tm) (c : Cs) (hr : RlB r) (hl : big t.ros.length) (hL : L.length ≤ 900) (hs : ∀ s ∈ L, bigS s) (hq : ∀ y ∈ votesL L c, plX y.x) : Den Tryz.prog 196 [.agg (cs c), .agg (rl r), .vs (L.map sm), .agg (tm t)] [] (.tup [.agg (ct (decG r L t c).1), .bool (decG r L t c).2.1, .int .i64 (decG r L t c).2.2]) [] [] := by
 refine den_of Tryz.mixed Tryz.func196 rfl Tryz.call196 Tryz.ntmps196 (congrArg Array.toList Tryz.results196) (by simp) (by kernel_rfl) [] (exts := []) rfl rfl ?_
 have c2 := decP_den r L t c hr hl hL hs hq
 generalize decG r L t c = D at *
 rw [rl_eq, tm_eq, cs_eq, ct_eq] at c2
 simp only [go_sem]
 refine call c2 [] ?_
 simp only [go_sem]
set_option maxHeartbeats 1000000 in
set_option maxRecDepth 100000 in
theorem sec_decP (r : Rl) (L : List Stm) (t : Tm) (c : Cs) (hr : RlB r) (hl : big t.ros.length) (hL : L.length ≤ 900) (hs : ∀ s ∈ L, bigS s) (hq : ∀ y ∈ votesL L (sec1 c), plX y.x) : Den Tryz.prog 296 [.agg (cs c), .agg (rl r), .vs (L.map sm), .agg (tm t)] [] (.tup [.agg (ct (secX r L t c).1), .bool (secX r L t c).2, .int .i64 0]) [] [] := by
 refine den_of Tryz.mixed Tryz.func296 rfl Tryz.call296 Tryz.ntmps296 (congrArg Array.toList Tryz.results296) (by simp) (by kernel_rfl) [] (exts := []) rfl rfl ?_
 have c1 := asecond c
 have c2 := asked_den L t c hl (by simp only [big]; omega) hs
 have c3 := decP_den r L t (sec1 c) hr hl hL hs hq
 have h1 := secC_eq c
 have h2 : secX r L t c = if askedB L t c = true ∧ (decG r L t (sec1 c)).2.2 = 0 then ((decG r L t (sec1 c)).1, (decG r L t (sec1 c)).2.1) else (noC, false) := rfl
 have h4 := asked_open (L := L) (t := t) (c := c)
 generalize secX r L t c = m at *
 generalize decG r L t (sec1 c) = D at *
 obtain ⟨x, b, e⟩ := D
 simp only at c3 h2
 rw [rl_eq, tm_eq, cs_eq, ct_eq] at c3
 rw [tm_eq, cs_eq] at c2
 simp only [go_sem]
 refine call c1 [] ?_
 cases ho : openB c
 ·rw [ho, if_neg (by simp)] at h1
  rw [if_neg (by simp [h4 ho])] at h2
  rw [h2, h1]
  simp only [go_sem, noC, List.map_nil]
 rw [ho, if_pos rfl] at h1
 rw [h1]
 simp only [go_sem]
 refine call c2 [] ?_
 cases ha : askedB L t c
 ·rw [if_neg (by simp [ha])] at h2
  rw [h2]
  simp only [go_sem, noC, List.map_nil]
 simp only [go_sem, sec1]
 simp only [sec1] at c3
 refine call c3 [] ?_
 by_cases he : e = 0
 ·rw [if_pos ⟨ha, he⟩] at h2
  rw [h2]
  simp only [go_sem, he]
 ·rw [if_neg (fun hh => he hh.2)] at h2
  rw [h2]
  simp only [go_sem, he, noC, List.map_nil]
def bothX (r : Rl) (L : List Stm) (t : Tm) (c : Cs) : (Ct × Ct) × (Bool × Bool) × Int :=
 if caseV c = true ∧ c.ro = 0 then
  if (decG r L t c).2.2 ≠ 0 then (((decG r L t c).1, noC), ((decG r L t c).2.1, false), (decG r L t c).2.2)
  else (((decG r L t c).1, (secX r L t c).1), ((decG r L t c).2.1, (secX r L t c).2), 0)
 else ((noC, noC), (false, false), 41)
set_option maxHeartbeats 1000000 in
set_option maxRecDepth 100000 in
theorem both_den (r : Rl) (L : List Stm) (t : Tm) (c : Cs) (hr : RlB r) (hl : big t.ros.length) (hL : L.length ≤ 900) (hs : ∀ s ∈ L, bigS s) (hq : ∀ y ∈ votesL L c, plX y.x) (hq1 : ∀ y ∈ votesL L (sec1 c), plX y.x) : Den Tryz.prog 58 [.agg (rl r), .vs (L.map sm), .agg (tm t), .agg (cs c)] [] (.tup [.agg [.vs ((bothX r L t c).1.1.li.map i1), .vs ((bothX r L t c).1.1.pi.map pn), .vs ((bothX r L t c).1.2.li.map i1), .vs ((bothX r L t c).1.2.pi.map pn)], .agg [.bool (bothX r L t c).2.1.1, .bool (bothX r L t c).2.1.2], .int .i64 (bothX r L t c).2.2]) [] [] := by
 refine den_of Tryz.mixed Tryz.func58 rfl Tryz.call58 Tryz.ntmps58 (congrArg Array.toList Tryz.results58) (by simp) (by kernel_rfl) [] (exts := []) rfl rfl ?_
 have c1 := cvalidP c
 have c2 := first_decP r L t c hr hl hL hs hq
 have c3 := sec_decP r L t c hr hl hL hs hq1
 have hm : bothX r L t c = if caseV c = true ∧ c.ro = 0 then
  if (decG r L t c).2.2 ≠ 0 then (((decG r L t c).1, noC), ((decG r L t c).2.1, false), (decG r L t c).2.2)
  else (((decG r L t c).1, (secX r L t c).1), ((decG r L t c).2.1, (secX r L t c).2), 0)
 else ((noC, noC), (false, false), 41) := rfl
 generalize bothX r L t c = m at *
 generalize decG r L t c = D at *
 generalize secX r L t c = S at *
 obtain ⟨x, b, e⟩ := D
 obtain ⟨y, i⟩ := S
 simp only at c2 c3 hm
 rw [cs_eq] at c1
 rw [rl_eq, tm_eq, cs_eq, ct_eq] at c2 c3
 simp only [go_sem]
 refine call c1 [] ?_
 by_cases a1 : caseV c = true
 rotate_left
 ·rw [if_neg (fun h => a1 h.1)] at hm
  subst hm
  simp only [go_sem, a1, noC, List.map_nil]
  exact okD_of (by kernel_rfl)
 by_cases a2 : c.ro = 0
 rotate_left
 ·rw [if_neg (fun h => a2 h.2)] at hm
  subst hm
  simp only [go_sem, a1, a2, noC, List.map_nil]
  exact okD_of (by kernel_rfl)
 rw [if_pos ⟨a1, a2⟩] at hm
 rw [a2] at c2 c3
 simp only [go_sem, a1, a2]
 refine loop Tryz.mixed 0 (fun k : Nat => [(1, .vs (L.map sm)), (4, .ptr 4 0), (6, .ptr 6 0), (8, .ptr 8 0), (9, .ptr 9 0), (10, .int .i64 0), (29, .vs [[.ifc 133 (.agg [.int .i64 c.ep, .int .i64 c.kd, .int .i64 c.su, .int .i64 0])], [.ifc 134 (.agg [.int .i64 c.ep, .int .i64 c.kd, .int .i64 c.su, .int .i64 0])]]), (30, .int .i64 2), (31, .int .i64 k)])
  (fun k => [(4, .cells (rl r)), (6, .cells (tm t)), (8, .cells (if k = 0 then [.nils, .nils, .nils, .nils] else if k = 1 then [.vs (x.li.map i1), .vs (x.pi.map pn), .nils, .nils] else [.vs (x.li.map i1), .vs (x.pi.map pn), .vs (y.li.map i1), .vs (y.pi.map pn)])), (9, .cells [.bool (if k = 0 then false else b), .bool (if k < 2 then false else i)])]) (fun k => k ≤ 2 ∧ (0 < k → e = 0)) (fun k => 2 - k) (by kernel_rfl) ⟨by omega, fun h => by omega⟩ ?_ ?_
 ·simp only [go_sem]
 ·rintro k ⟨hk, he⟩
  have hk3 : k = 0 ∨ k = 1 ∨ k = 2 := by omega
  rcases hk3 with rfl | rfl | rfl
  ·simp only [go_sem]
   refine call c2 [] ?_
   by_cases he0 : e = 0
   ·simp only [go_sem, he0]
    refine ⟨1, ⟨by omega, by omega⟩, ?_⟩
    simp only [go_sem]
    decide +kernel
   ·rw [if_pos he0] at hm
    subst hm
    simp only [go_sem, he0, noC, List.map_nil]
    exact okD_of (by kernel_rfl)
  ·simp only [go_sem]
   refine call c3 [] ?_
   simp only [go_sem]
   refine ⟨2, ⟨⟨by omega, fun _ => he (by omega)⟩, by omega⟩, ?_⟩
   simp only [go_sem]
   decide +kernel
  ·rw [if_neg (by simpa using he (by omega))] at hm
   subst hm
   simp only [go_sem]
   exact okD_of (by kernel_rfl)
set_option maxHeartbeats 1000000 in
set_option maxRecDepth 100000 in
theorem pout_den (r : Rl) (L : List Stm) (t : Tm) (c : Cs) (hr : RlB r) (hl : big t.ros.length) (hL : L.length ≤ 900) (hs : ∀ s ∈ L, bigS s) (hq : ∀ y ∈ votesL L c, plX y.x) (hq1 : ∀ y ∈ votesL L (sec1 c), plX y.x) : Den Tryz.prog 22 [.agg (rl r), .vs (L.map sm), .agg (tm t), .agg (cs c)] [] (.tup [.agg (ct (outX r L t c).1), .bool (outX r L t c).2.1, .int .i64 (outX r L t c).2.2]) [] [] := by
 refine den_of Tryz.mixed Tryz.func22 rfl Tryz.call22 Tryz.ntmps22 (congrArg Array.toList Tryz.results22) (by simp) (by kernel_rfl) [] (exts := []) rfl rfl ?_
 have c1 := both_den r L t c hr hl hL hs hq hq1
 have hm : outX r L t c = if (bothX r L t c).2.2 ≠ 0 then (noC, false, (bothX r L t c).2.2) else if (bothX r L t c).2.1.2 = true then ((bothX r L t c).1.2, true, 0) else ((bothX r L t c).1.1, (bothX r L t c).2.1.1, 0) := by
  unfold outX bothX
  by_cases h : caseV c = true ∧ c.ro = 0
  ·rw [if_pos h, if_pos h]
   by_cases h1 : (decG r L t c).2.2 ≠ 0
   ·rw [if_pos h1, if_pos h1, if_pos h1]
   ·rw [if_neg h1, if_neg h1]
    rfl
  ·rw [if_neg h, if_neg h, if_pos (by simp)]
 generalize outX r L t c = m at *
 generalize bothX r L t c = D at *
 obtain ⟨⟨x, y⟩, ⟨b, i⟩, e⟩ := D
 simp only at c1 hm
 rw [rl_eq, tm_eq, cs_eq] at c1
 simp only [go_sem]
 refine call c1 [] ?_
 by_cases a3 : e = 0
 rotate_left
 ·rw [if_pos a3] at hm
  subst hm
  simp only [go_sem, a3, noC, List.map_nil]
 rw [if_neg (by simpa using a3)] at hm
 cases i
 ·rw [if_neg (by simp)] at hm
  subst hm
  simp only [go_sem, a3]
  exact okD_of (by kernel_rfl)
 ·rw [if_pos rfl] at hm
  subst hm
  simp only [go_sem, a3]
set_option maxHeartbeats 1000000 in
set_option maxRecDepth 100000 in
theorem pset_den (r : Rl) (L : List Stm) (t : Tm) (c : Cs) (hr : RlB r) (hl : big t.ros.length) (hL : L.length ≤ 900) (hs : ∀ s ∈ L, bigS s) (hq : ∀ y ∈ votesL L c, plX y.x) (hq1 : ∀ y ∈ votesL L (sec1 c), plX y.x) : Den Tryz.prog 24 [.agg (rl r), .vs (L.map sm), .agg (tm t), .agg (cs c)] [] (.tup [.bool (setX r L t c).1, .int .i64 (setX r L t c).2]) [] [] := by
 refine den_of Tryz.mixed Tryz.func24 rfl Tryz.call24 Tryz.ntmps24 (congrArg Array.toList Tryz.results24) (by simp) (by kernel_rfl) [] (exts := []) rfl rfl ?_
 have c1 := both_den r L t c hr hl hL hs hq hq1
 have hm : setX r L t c = if (bothX r L t c).2.2 ≠ 0 then (false, (bothX r L t c).2.2) else if c.kd = 1 then ((bothX r L t c).2.1.1, 0) else ((bothX r L t c).2.1.2, 0) := by
  have hc : c.kd = 1 → caseV c = true ∧ c.ro = 0 → (secX r L t c).2 = false := fun h1 h2 => by rw [(closed_law h2.1 h2.2 h1).2.1]
  unfold setX outX bothX
  by_cases h : caseV c = true ∧ c.ro = 0
  ·rw [if_pos h, if_pos h]
   by_cases h1 : (decG r L t c).2.2 ≠ 0
   ·rw [if_pos h1, if_pos h1, if_pos h1, if_pos h1]
   ·rw [if_neg h1, if_neg h1]
    have h0 : (if (secX r L t c).2 = true then ((secX r L t c).1, true, (0 : Int)) else ((decG r L t c).1, (decG r L t c).2.1, 0)).2.2 = 0 := by split <;> rfl
    rw [if_neg (by simp [h0])]
    by_cases h3 : c.kd = 1
    ·rw [if_pos h3, hc h3 h, if_neg (by simp)]
     simp [h3]
    ·rw [if_neg h3]
     simp [h3]
  ·rw [if_neg h, if_neg h, if_pos (by simp), if_pos (by simp)]
 generalize setX r L t c = m at *
 generalize bothX r L t c = D at *
 obtain ⟨⟨x, y⟩, ⟨b, i⟩, e⟩ := D
 simp only at c1 hm
 rw [rl_eq, tm_eq, cs_eq] at c1
 simp only [go_sem]
 refine call c1 [] ?_
 by_cases a3 : e = 0
 rotate_left
 ·rw [if_pos a3] at hm
  subst hm
  simp only [go_sem, a3]
 rw [if_neg (by simpa using a3)] at hm
 by_cases a4 : c.kd = 1
 ·rw [if_pos a4] at hm
  subst hm
  simp only [go_sem, a3, a4]
 ·rw [if_neg a4] at hm
  subst hm
  simp only [go_sem, a3, a4]
end Go.Proofs.Am
