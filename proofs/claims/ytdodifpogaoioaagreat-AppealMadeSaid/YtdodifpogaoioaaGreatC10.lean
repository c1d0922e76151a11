/- C10. -/
import Derived.Test.YtdodifpogaoioaaGreatC9
set_option linter.unusedSimpArgs false
set_option linter.unusedVariables false
namespace Go.Proofs.Am
open Go Go.RowKit
open Go.Proofs
theorem sealS_ok (s : Stm) : (sealS s).sk = (sealS s).au ∧ (sealS s).sd = dig (sealS s) := ⟨rfl, rfl⟩
theorem check_ap (k nu ti : Int) (c : Cs) (hk : 0 ≤ k ∧ k ≤ 63) (hn : 0 ≤ nu ∧ nu ≤ 199) (ht : 0 ≤ ti ∧ ti ≤ 2147483648) (hc : caseV c = true) : checkE (stmt k nu ti (apD c)) = 0 := by
 have hc := of_decide_eq_true hc
 have a1 : (stmt k nu ti (apD c)).au = k := rfl
 have a2 : (stmt k nu ti (apD c)).kd = 15 := rfl
 have a3 : (stmt k nu ti (apD c)).ti = ti := rfl
 have a4 : (stmt k nu ti (apD c)).nu = nu := rfl
 have a5 : (stmt k nu ti (apD c)).a = c.ep := rfl
 have a6 : (stmt k nu ti (apD c)).b = c.kd := rfl
 have a7 : (stmt k nu ti (apD c)).c = c.su := rfl
 have a8 : (stmt k nu ti (apD c)).li = [] := rfl
 have a9 : (stmt k nu ti (apD c)).pins = [] := rfl
 have a10 : (stmt k nu ti (apD c)).body = [] := rfl
 have a11 : (stmt k nu ti (apD c)).prev = if 0 < nu then List.replicate 32 0 else [] := rfl
 generalize stmt k nu ti (apD c) = s at *
 have b1 : inB s.au 0 63 = true := decide_eq_true (by omega)
 have b2 : inB s.kd 10 31 = true := decide_eq_true (by omega)
 have b3 : inB s.ti 0 2147483648 = true := decide_eq_true (by omega)
 have b4 : inB s.nu 0 199 = true := decide_eq_true (by omega)
 have b5 : valB s.a = true := decide_eq_true (by omega)
 have b6 : valB s.b = true := decide_eq_true (by omega)
 have b7 : valB s.c = true := decide_eq_true (by omega)
 have b8 : meantB s = true := by rw [meantB, if_neg (by omega), if_neg (by omega), if_neg (by omega)]
 have b9 : pinsB ([] : List Pn) = true := pinsB_true fun i h => by simp at h
 have b10 : (decide (s.nu = 0) && decide (s.prev ≠ [])) = false := by
  by_cases h : s.nu = 0
  ·rw [a11, if_neg (by omega)]; simp
  ·simp [h]
 have b11 : (decide (0 < s.nu) && decide (s.prev.length ≠ 32)) = false := by
  by_cases h : 0 < s.nu
  ·rw [a11, if_pos (by omega)]; simp
  ·simp [h]
 have b12 : decide (s.kd ≤ 3) = false := decide_eq_false (by omega)
 simp only [checkE, b1, b2, b3, b4, b5, b6, b7, b8, b9, b10, b11, b12, a8, a9, a10]
 simp
theorem ask_stmt (ros : List Int) (k nu ti : Int) (c c' : Cs) (hk : 0 ≤ k ∧ k ≤ 63) (hn : 0 ≤ nu ∧ nu ≤ 199) (ht : 0 ≤ ti ∧ ti ≤ 2147483648) (hc : caseV c = true) :
  askB ros c' (stmt k nu ti (apD c)) = (decide (k ∈ ros) && (decide (c.ep = c'.ep) && (decide (c.kd = c'.kd) && decide (c.su = c'.su)))) := by
 have h1 := check_ap k nu ti c hk hn ht hc
 have h2 : (stmt k nu ti (apD c)).sk = (stmt k nu ti (apD c)).au ∧ (stmt k nu ti (apD c)).sd = dig (stmt k nu ti (apD c)) := sealS_ok _
 have a1 : (stmt k nu ti (apD c)).au = k := rfl
 have a2 : (stmt k nu ti (apD c)).kd = 15 := rfl
 have a5 : (stmt k nu ti (apD c)).a = c.ep := rfl
 have a6 : (stmt k nu ti (apD c)).b = c.kd := rfl
 have a7 : (stmt k nu ti (apD c)).c = c.su := rfl
 have a8 : (stmt k nu ti (apD c)).li = [] := rfl
 have a9 : (stmt k nu ti (apD c)).pins = [] := rfl
 have a10 : (stmt k nu ti (apD c)).body = [] := rfl
 generalize stmt k nu ti (apD c) = s at *
 rw [askB, decide_eq_true h1, decide_eq_true h2, decide_eq_true a2, a1, a5, a6, a7, a8, a9, a10]
 simp
theorem stmt_okS (k nu ti : Int) (d : Drf) (hd : okDr d) : okS (stmt k nu ti d) := by
 obtain ⟨h1, h2⟩ := hd
 have hxp := flat_ge d.pins
 have hp : (if 0 < nu then List.replicate 32 (0 : UInt8) else []).length ≤ 32 := by split <;> simp
 show okS (sealS _)
 simp only [sealS, okS, stB, pre2, pre1, hdB, List.length_append, beL_len, be8_len, txB_len, l5, List.length_cons, List.length_nil]
 omega
theorem apD_ok (c : Cs) : okDr (apD c) := ⟨by simp [apD], by simp [apD]⟩
set_option maxHeartbeats 1000000 in
set_option maxRecDepth 100000 in
theorem awake32_den : Den Tryz.prog 10 [] [] (.bool true) [] [] := by
 refine den_of Tryz.mixed Tryz.func10 rfl Tryz.call10 Tryz.ntmps10 (congrArg Array.toList Tryz.results10) (by simp) (by kernel_rfl) [] (exts := []) rfl rfl ?_
 have o1 : openB ⟨1, 3, 3, 0⟩ = true := rfl
 have c1 := adraftA ⟨1, 3, 3, 0⟩
 have c2 := asecond ⟨1, 3, 3, 0⟩
 rw [show apDr ⟨1, 3, 3, 0⟩ = (apD ⟨1, 3, 3, 0⟩, 0) from rfl] at c1
 rw [show secC ⟨1, 3, 3, 0⟩ = (⟨1, 3, 3, 1⟩, 0) from rfl] at c2
 have c3 := stmt2_den 2 0 0 (apD ⟨1, 3, 3, 0⟩) (apD_ok _)
 have c4 := stmt2_den 3 0 0 (apD ⟨1, 3, 3, 0⟩) (apD_ok _)
 have k1 := stmt_okS 2 0 0 (apD ⟨1, 3, 3, 0⟩) (apD_ok _)
 have k2 := stmt_okS 3 0 0 (apD ⟨1, 3, 3, 0⟩) (apD_ok _)
 have q1 : askB [2] ⟨1, 3, 3, 0⟩ (stmt 2 0 0 (apD ⟨1, 3, 3, 0⟩)) = true := ask_stmt [2] 2 0 0 ⟨1, 3, 3, 0⟩ ⟨1, 3, 3, 0⟩ (by omega) (by omega) (by omega) rfl
 have q2 : askB [2] ⟨1, 3, 3, 0⟩ (stmt 3 0 0 (apD ⟨1, 3, 3, 0⟩)) = false := ask_stmt [2] 3 0 0 ⟨1, 3, 3, 0⟩ ⟨1, 3, 3, 0⟩ (by omega) (by omega) (by omega) rfl
 generalize stmt 2 0 0 (apD ⟨1, 3, 3, 0⟩) = s at *
 generalize stmt 3 0 0 (apD ⟨1, 3, 3, 0⟩) = s' at *
 have c5 := asked_den [s] ⟨1, [2], [], false, noC⟩ ⟨1, 3, 3, 0⟩ (by simp [big]) (by simp [big]) (by intro x hx; rw [List.mem_singleton] at hx; rw [hx]; exact k1.big)
 have c6 := asked_den [s'] ⟨1, [2], [], false, noC⟩ ⟨1, 3, 3, 0⟩ (by simp [big]) (by simp [big]) (by intro x hx; rw [List.mem_singleton] at hx; rw [hx]; exact k2.big)
 rw [show askedB [s] ⟨1, [2], [], false, noC⟩ ⟨1, 3, 3, 0⟩ = true by rw [askedB, o1, List.any_cons, q1]; rfl] at c5
 rw [show askedB [s'] ⟨1, [2], [], false, noC⟩ ⟨1, 3, 3, 0⟩ = false by rw [askedB, o1, List.any_cons, q2]; rfl] at c6
 simp only [go_sem]
 refine call c1 [] ?_
 simp only [go_sem, apD]
 refine call c2 [] ?_
 simp only [go_sem, apD]
 refine call c3 [] ?_
 simp only [go_sem, apD]
 refine call c5 [] ?_
 simp only [go_sem, apD, noC, List.map_nil]
 refine call c4 [] ?_
 simp only [go_sem, apD]
 refine call c6 [] ?_
 simp only [go_sem, apD, noC, List.map_nil]
 exact okD_of (by kernel_rfl)
def dspGo (l : List Int) (k : Cs) (x : Ct) (seats : List Int) (round : Int) (p : Nat) (o : List Stm) : Nat → Nat × List Stm
 | 0 => (p, o)
 | i + 1 => (dgo l (dspGo l k x seats round p o i).1 1, (dspGo l k x seats round p o i).2 ++ (if dnext l (dspGo l k x seats round p o i).1 10 = 9 then [] else [vt (el seats i) round k x]))
def dspRd (l : List Int) (r : Rl) (t : Tm) (c : Cs) (round : Int) (st : Nat × List Stm) : Nat × List Stm :=
 if (seatsR r t { c with ro := round }).2 ≠ 0 then st
 else
  if dnext l (dspGo l { c with ro := round } (mcont l st.1 { c with ro := round }).1 (seatsR r t { c with ro := round }).1 round (mcont l st.1 { c with ro := round }).2 st.2 (seatsR r t { c with ro := round }).1.length).1 4 = 3 then
   ((mvotes l (dgo l (dspGo l { c with ro := round } (mcont l st.1 { c with ro := round }).1 (seatsR r t { c with ro := round }).1 round (mcont l st.1 { c with ro := round }).2 st.2 (seatsR r t { c with ro := round }).1.length).1 1) { c with ro := round } (seatsR r t { c with ro := round }).1).2,
    (dspGo l { c with ro := round } (mcont l st.1 { c with ro := round }).1 (seatsR r t { c with ro := round }).1 round (mcont l st.1 { c with ro := round }).2 st.2 (seatsR r t { c with ro := round }).1.length).2 ++
    (mvotes l (dgo l (dspGo l { c with ro := round } (mcont l st.1 { c with ro := round }).1 (seatsR r t { c with ro := round }).1 round (mcont l st.1 { c with ro := round }).2 st.2 (seatsR r t { c with ro := round }).1.length).1 1) { c with ro := round } (seatsR r t { c with ro := round }).1).1)
  else (dgo l (dspGo l { c with ro := round } (mcont l st.1 { c with ro := round }).1 (seatsR r t { c with ro := round }).1 round (mcont l st.1 { c with ro := round }).2 st.2 (seatsR r t { c with ro := round }).1.length).1 1,
   (dspGo l { c with ro := round } (mcont l st.1 { c with ro := round }).1 (seatsR r t { c with ro := round }).1 round (mcont l st.1 { c with ro := round }).2 st.2 (seatsR r t { c with ro := round }).1.length).2)
theorem dspGo_le {l : List Int} {k : Cs} {x : Ct} {seats : List Int} {round : Int} {p : Nat} {o : List Stm} (hp : p ≤ l.length) : ∀ i, (dspGo l k x seats round p o i).1 ≤ l.length
 | 0 => hp
 | i + 1 => dgo_le (dspGo_le hp i) 1
theorem dspGo_len {l : List Int} {k : Cs} {x : Ct} {seats : List Int} {round : Int} {p : Nat} {o : List Stm} : ∀ i, (dspGo l k x seats round p o i).2.length ≤ o.length + i
 | 0 => by simp [dspGo]
 | i + 1 => by
  have := dspGo_len (l := l) (k := k) (x := x) (seats := seats) (round := round) (p := p) (o := o) i
  simp only [dspGo, List.length_append]
  split <;> simp <;> omega
theorem dspRd_le {l : List Int} {r : Rl} {t : Tm} {c : Cs} {round : Int} {st : Nat × List Stm} (hp : st.1 ≤ l.length) : (dspRd l r t c round st).1 ≤ l.length := by
 unfold dspRd
 have h1 := mcont_le hp { c with ro := round }
 have h2 := dspGo_le (k := { c with ro := round }) (x := (mcont l st.1 { c with ro := round }).1) (seats := (seatsR r t { c with ro := round }).1) (round := round) (o := st.2) h1 (seatsR r t { c with ro := round }).1.length
 split
 ·exact hp
 split
 ·exact mvotes_le (dgo_le h2 1) _ _
 ·exact dgo_le h2 1
theorem dspRd_len {l : List Int} {r : Rl} {t : Tm} {c : Cs} {round : Int} {st : Nat × List Stm} : (dspRd l r t c round st).2.length ≤ st.2.length + 200 := by
 unfold dspRd
 have h0 := seatsR_len r t { c with ro := round }
 have h2 := dspGo_len (l := l) (k := { c with ro := round }) (x := (mcont l st.1 { c with ro := round }).1) (seats := (seatsR r t { c with ro := round }).1) (round := round) (p := (mcont l st.1 { c with ro := round }).2) (o := st.2) (seatsR r t { c with ro := round }).1.length
 have h3 := mvotes_len l (dgo l (dspGo l { c with ro := round } (mcont l st.1 { c with ro := round }).1 (seatsR r t { c with ro := round }).1 round (mcont l st.1 { c with ro := round }).2 st.2 (seatsR r t { c with ro := round }).1.length).1 1) { c with ro := round } (seatsR r t { c with ro := round }).1
 split
 ·omega
 split
 ·simp only [List.length_append]; omega
 ·simp only; omega
def dspR (l : List Int) (p : Nat) : Rl := mrules l p
def dspT (l : List Int) (p : Nat) : Tm := { term0 (mrules l p) with ros := ([0, 1, 2, 3, 4, 5, 6, 7] : List Int).take (3 + dnext l (dgo l p 8) 6).toNat }
def dspC (l : List Int) (p : Nat) : Cs := ⟨0, 2 + dnext l (dgo l p 9) 2, dnext l (dgo l p 10) 7, 0⟩
def dspS (l : List Int) (p : Nat) : Nat → Nat × List Stm
 | 0 => (dgo l p 11, [])
 | i + 1 => dspRd l (dspR l p) (dspT l p) (dspC l p) i (dspS l p i)
def dspF (l : List Int) (p : Nat) : Nat × List Stm :=
 if dnext l (dspS l p 2).1 2 = 1 then (dgo l (dspS l p 2).1 2, (dspS l p 2).2 ++ [stmt (dnext l (dgo l (dspS l p 2).1 1) 9) 3 0 (apDr (dspC l p)).1])
 else (dgo l (dspS l p 2).1 1, (dspS l p 2).2)
theorem dspS_le {l : List Int} {p : Nat} (hp : p ≤ l.length) : ∀ i, (dspS l p i).1 ≤ l.length
 | 0 => dgo_le hp _
 | i + 1 => dspRd_le (dspS_le hp i)
theorem dspS_len {l : List Int} {p : Nat} : ∀ i, (dspS l p i).2.length ≤ 200 * i
 | 0 => by simp [dspS]
 | i + 1 => by
  have h1 := dspS_len (l := l) (p := p) i
  have h2 := dspRd_len (l := l) (r := dspR l p) (t := dspT l p) (c := dspC l p) (round := i) (st := dspS l p i)
  simp only [dspS]; omega
theorem dspF_le {l : List Int} {p : Nat} (hp : p ≤ l.length) : (dspF l p).1 ≤ l.length := by
 unfold dspF
 split <;> exact dgo_le (dspS_le hp 2) _
theorem apDr_ok (c : Cs) : okDr (apDr c).1 := by
 unfold apDr
 split
 ·exact apD_ok c
 ·exact ⟨by simp [noD], by simp [noD]⟩
theorem mrules_sz (l : List Int) (p : Nat) : (mrules l p).gen.length ≤ 7 ∧ (mrules l p).pol.se.length ≤ 2 ∧ (mrules l p).pol.ta.length ≤ 2 := by
 refine ⟨?_, ?_, ?_⟩
 ·show (([0, 1, 2, 3, 4, 5, 6] : List Int).take _).length ≤ 7
  rw [List.length_take]
  exact Nat.min_le_right _ _
 ·show (if _ then [0, 1] else [0] : List Int).length ≤ 2
  split <;> simp
 ·exact Nat.le_refl 2
set_option maxHeartbeats 1000000 in
set_option maxRecDepth 100000 in
theorem disputeO_den (l : List Int) (p : Nat) (hl : big l.length) (hp : p ≤ l.length) : Den Tryz.prog 12 [.ptr 1000000 0] [dbox l p] (.tup [.agg (rl (dspR l p)), .agg (tm (dspT l p)), .agg (cs (dspC l p)), .os 0 (dspF l p).2.length]) [.arr 47 13 false ((dspF l p).2.map sm)] [dbox l (dspF l p).1] := by
 refine den_of Tryz.mixed Tryz.func12 rfl Tryz.call12 Tryz.ntmps12 (congrArg Array.toList Tryz.results12) (by simp) (by kernel_rfl) [120] (exts := [1000000]) rfl rfl ?_
 obtain ⟨z0, z1, z2⟩ := mrules_sz l p
 have hp8 := dgo_le hp 8
 have hp9 := dgo_le hp 9
 have hp10 := dgo_le hp 10
 have c1 := mrules_den l p hl hp
 have c2 := at0_den (mrules l p) (mrules_ok l p) (by omega) (by omega) (by omega)
 have b1 := dnext_lt (l := l) (p := dgo l p 8) (n := 6) (by omega)
 have b2 := dnext_lt (l := l) (p := dgo l p 9) (n := 2) (by omega)
 have w1 : IntKind.i64.wrap (3 + dnext l (dgo l p 8) 6) = 3 + dnext l (dgo l p 8) 6 := by rw [wrapI] <;> omega
 have w2 : IntKind.i64.wrap (2 + dnext l (dgo l p 9) 2) = 2 + dnext l (dgo l p 9) 2 := by rw [wrapI] <;> omega
 have hT : tm (dspT l p) = [.int .i64 0, .vs ((([0, 1, 2, 3, 4, 5, 6, 7] : List Int).take (3 + dnext l (dgo l p 8) 6).toNat).map i1), .str (firstV (mrules l p)), .bool false, .vs [], .vs []] := rfl
 have ht0 : tm (term0 (mrules l p)) = [.int .i64 0, .vs ((mrules l p).gen.map i1), .str (firstV (mrules l p)), .bool false, .vs [], .vs []] := rfl
 have hC : cs (dspC l p) = [.int .i64 0, .int .i64 (2 + dnext l (dgo l p 9) 2), .int .i64 (dnext l (dgo l p 10) 7), .int .i64 0] := rfl
 have hR : rl (dspR l p) = rl (mrules l p) := rfl
 rw [ht0, rl_eq] at c2
 rw [rl_eq] at c1
 rw [hT, hC, hR, rl_eq]
 have htk : ∀ k : Nat, List.take k [[PV.int IntKind.i64 0], [PV.int IntKind.i64 1], [PV.int IntKind.i64 2], [PV.int IntKind.i64 3], [PV.int IntKind.i64 4], [PV.int IntKind.i64 5], [PV.int IntKind.i64 6], [PV.int IntKind.i64 7]] = List.map i1 (([0, 1, 2, 3, 4, 5, 6, 7] : List Int).take k) := fun k => by
  rw [List.map_take]; rfl
 simp only [go_sem]
 refine call c1 [1000000] ?_
 simp only [go_sem]
 refine call c2 [] ?_
 simp only [go_sem]
 refine call (next_den l (dgo l p 8) 6 hl hp8 (by omega)) [1000000] ?_
 simp only [go_sem, w1, dgo_succ]
 refine ⟨⟨by omega, by omega⟩, ?_⟩
 refine call (next_den l (dgo l p 9) 2 hl hp9 (by omega)) [1000000] ?_
 simp only [go_sem, w2, dgo_succ]
 refine call (next_den l (dgo l p 10) 7 hl hp10 (by omega)) [1000000] ?_
 simp only [go_sem, dgo_succ, htk]
 clear c1 c2 ht0 htk w1 w2 b1 b2
 have hR2 : rl (dspR l p) = [.vs ((mrules l p).gen.map i1), .vs ((mrules l p).pol.se.map i1), .vs ((mrules l p).pol.ta.map i1), .int .i64 (mrules l p).pol.lv, .int .i64 (mrules l p).seats, .int .i64 (mrules l p).span, .int .i64 (mrules l p).quota] := rfl
 have hS0 : dspS l p 0 = (dgo l p 11, []) := rfl
 have hS1 : ∀ i : Nat, dspS l p (i + 1) = dspRd l (dspR l p) (dspT l p) (dspC l p) i (dspS l p i) := fun i => rfl
 have hF : dspF l p = if dnext l (dspS l p 2).1 2 = 1 then (dgo l (dspS l p 2).1 2, (dspS l p 2).2 ++ [stmt (dnext l (dgo l (dspS l p 2).1 1) 9) 3 0 (apDr (dspC l p)).1])
  else (dgo l (dspS l p 2).1 1, (dspS l p 2).2) := rfl
 have hle := dspS_le (l := l) (p := p) hp
 have hlen := dspS_len (l := l) (p := p)
 have sT1 : (dspT l p).ros.length ≤ 8 := by
  show (([0, 1, 2, 3, 4, 5, 6, 7] : List Int).take _).length ≤ 8
  rw [List.length_take]
  exact Nat.min_le_right _ _
 have sT2 : (dspT l p).bea.length = 32 := sha_len _
 have z0 : (dspR l p).gen.length ≤ 7 := z0
 have z1 : (dspR l p).pol.se.length ≤ 2 := z1
 have z2 : (dspR l p).pol.ta.length ≤ 2 := z2
 rw [← hR2, ← hT, ← hC]
 clear hR hR2 hT hC
 generalize dspR l p = R at *
 generalize dspT l p = T at *
 generalize dspC l p = C at *
 generalize dspF l p = Fm at *
 generalize dspS l p = Sf at *
 have sd3 : ∀ i : Nat, Den Tryz.prog 30 [.agg (rl R), .agg (tm T), .agg (cs { C with ro := (i : Int) })] [] (.tup [.vs ((seatsR R T { C with ro := (i : Int) }).1.map i1), .int .i64 (seatsR R T { C with ro := (i : Int) }).2]) [] [] :=
  fun i => seats_den R T _ (by simp only [big]; omega) (by simp only [big]; omega) (by simp only [big]; omega) (by simp only [big]; omega) (fun _ => sT2)
 refine promote 10 120 47 13 false ?_ ?_ ?_ (by omega)
 ·refine loop Tryz.mixed 0 (fun i : Nat => [(0, .ptr 1000000 0), (2, .ptr 2 0), (3, .ptr 3 0), (4, .ptr 4 0), (6, .ptr 6 0), (7, .ptr 7 0), (9, .ptr 9 0), (10, .os 120 (Sf i).2.length), (11, .int .i64 i)]) (fun i => [(1000000, dbox l (Sf i).1), (2, .cells [.nils, .nils, .nils, .int .i64 0, .int .i64 0, .int .i64 0, .int .i64 0]), (3, .cells [.int .i64 0, .nils, .str [], .bool false, .nils, .nils]), (4, .cells [.int .i64 0, .int .i64 0, .int .i64 0, .int .i64 0]), (6, .cells (rl R)), (7, .cells (tm T)), (9, .cells (cs C)), (120, .arr 47 13 false ((Sf i).2.map sm))]) (fun i => i ≤ 2) (fun i => 2 - i) (by kernel_rfl) ?_ ?_ ?_
  ·simp
  ·rw [hS0]
   simp only [go_sem, List.map_nil, List.length_nil]
  ·intro i hi
   by_cases h : i < 2
   ·have hlt : (i : Int) < 2 := by omega
    have hst := hS1 i
    have hp := hle i
    have hln := hlen i
    generalize Sf i = S at *
    obtain ⟨q, o⟩ := S
    simp only at hp hln
    have hK : cs { C with ro := (i : Int) } = [.int .i64 C.ep, .int .i64 C.kd, .int .i64 C.su, .int .i64 i] := rfl
    have c3 := sd3 i
    have c4 := content_den l q { C with ro := (i : Int) } hl hp
    have hxo := mcont_ok l q { C with ro := (i : Int) }
    have hyo := mcont_le hp { C with ro := (i : Int) }
    have sl := seatsR_len R T { C with ro := (i : Int) }
    rw [dspRd] at hst
    generalize hKK : ({ C with ro := (i : Int) } : Cs) = K at *
    generalize seatsR R T K = SS at *
    obtain ⟨s, k⟩ := SS
    simp only at c3 hst sl
    generalize mcont l q K = X at *
    obtain ⟨x, q1⟩ := X
    simp only at c4 hst hxo hyo
    rw [rl_eq, tm_eq, hK] at c3
    rw [hK] at c4
    simp only [go_sem, hlt]
    refine call c3 [] ?_
    by_cases hk : k = 0
    rotate_left
    ·rw [if_pos hk] at hst
     simp only [go_sem, hk]
     refine ⟨i + 1, ⟨by omega, by omega⟩, ?_⟩
     rw [hst]
     exact ⟨⟨rfl, by rw [wrapI] <;> omega⟩, rfl, rfl⟩
    rw [if_neg (by simpa using hk)] at hst
    have cv := fun au nu => vote_den au nu K x hxo
    have cvs := fun p hp => votes_den l p K s hl hp (by omega)
    rw [hK, ct_eq] at cv
    rw [hK] at cvs
    have hG0 : dspGo l K x s i q1 o 0 = (q1, o) := rfl
    have hG1 : ∀ j : Nat, dspGo l K x s i q1 o (j + 1) = (dgo l (dspGo l K x s i q1 o j).1 1, (dspGo l K x s i q1 o j).2 ++ (if dnext l (dspGo l K x s i q1 o j).1 10 = 9 then [] else [vt (el s j) i K x])) := fun j => rfl
    have hGe := dspGo_le (l := l) (k := K) (x := x) (seats := s) (round := i) (p := q1) (o := o) hyo
    have hGl := dspGo_len (l := l) (k := K) (x := x) (seats := s) (round := i) (p := q1) (o := o)
    generalize dspGo l K x s i q1 o = G at *
    simp only [go_sem, hk]
    refine call c4 [1000000] ?_
    simp only [go_sem]
    refine loop Tryz.mixed 0 (fun j : Nat => [(0, .ptr 1000000 0), (2, .ptr 2 0), (3, .ptr 3 0), (4, .ptr 4 0), (6, .ptr 6 0), (7, .ptr 7 0), (9, .ptr 9 0), (10, .os 120 (G j).2.length), (11, .int .i64 i), (12, .ptr 12 0), (13, .vs (s.map i1)), (15, .ptr 15 0), (16, .int .i64 j)]) (fun j => [(1000000, dbox l (G j).1), (2, .cells [.nils, .nils, .nils, .int .i64 0, .int .i64 0, .int .i64 0, .int .i64 0]), (3, .cells [.int .i64 0, .nils, .str [], .bool false, .nils, .nils]), (4, .cells [.int .i64 0, .int .i64 0, .int .i64 0, .int .i64 0]), (6, .cells (rl R)), (7, .cells (tm T)), (9, .cells (cs C)), (12, .cells [.int .i64 C.ep, .int .i64 C.kd, .int .i64 C.su, .int .i64 i]), (15, .cells (ct x)), (120, .arr 47 13 false ((G j).2.map sm))]) (fun j => j ≤ s.length) (fun j => s.length - j) (by kernel_rfl) ?_ ?_ ?_
    ·simp
    ·rw [hG0]
     simp only [go_sem]
    ·intro j hj
     by_cases hj' : j < s.length
     ·have hjlt : (j : Int) < (s.length : Int) := by omega
      have hstep := hG1 j
      have hqe := hGe j
      have hql := hGl j
      generalize G j = g at *
      obtain ⟨q2, o2⟩ := g
      simp only at hqe hql hstep
      simp only [go_sem, hjlt]
      refine call (one_den l q2 10 hl hqe (by omega) (by omega)) [1000000] ?_
      have e0 : dpos l q2 = dgo l q2 1 := rfl
      cases hb : decide (dnext l q2 10 = 10 - 1)
      ·have hcc : ¬ dnext l q2 10 = 9 := of_decide_eq_false hb
       rw [if_neg hcc] at hstep
       have cv := cv (el s j) i
       generalize vt (el s j) i K x = v at *
       simp only [go_sem, e0, hj']
       refine call cv [] ?_
       simp only [go_sem]
       refine ⟨by omega, okD_of (by kernel_rfl), j + 1, ⟨by omega, by omega⟩, ?_⟩
       rw [hstep]
       exact ⟨⟨by simp, by rw [wrapI] <;> omega⟩, rfl, by rw [List.map_append]; rfl⟩
      ·have hcc : dnext l q2 10 = 9 := of_decide_eq_true hb
       rw [if_pos hcc, List.append_nil] at hstep
       simp only [go_sem, e0]
       refine ⟨j + 1, ⟨by omega, by omega⟩, ?_⟩
       rw [hstep]
       exact ⟨⟨rfl, by rw [wrapI] <;> omega⟩, rfl, rfl⟩
     ·have hjj : j = s.length := by omega
      subst hjj
      have hqe := hGe s.length
      have hql := hGl s.length
      generalize G s.length = g at *
      obtain ⟨q2, o2⟩ := g
      simp only at hqe hql hst
      have hjc : ¬ (s.length : Int) < (s.length : Int) := by omega
      simp only [go_sem, hjc]
      refine call (one_den l q2 4 hl hqe (by omega) (by omega)) [1000000] ?_
      have e0 : dpos l q2 = dgo l q2 1 := rfl
      have hq21 := dgo_le hqe 1
      cases hb : decide (dnext l q2 4 = 4 - 1)
      ·have hcc : ¬ dnext l q2 4 = 3 := of_decide_eq_false hb
       rw [if_neg hcc] at hst
       simp only [go_sem, e0]
       refine ⟨i + 1, ⟨by omega, by omega⟩, ?_⟩
       rw [hst]
       exact ⟨⟨rfl, by rw [wrapI] <;> omega⟩, rfl, rfl⟩
      ·have hcc : dnext l q2 4 = 3 := of_decide_eq_true hb
       rw [if_pos hcc] at hst
       have cvs := cvs (dgo l q2 1) hq21
       have hml := mvotes_len l (dgo l q2 1) K s
       generalize mvotes l (dgo l q2 1) K s = V at *
       simp only [go_sem, e0]
       refine call cvs [1000000] ?_
       simp only [go_sem]
       refine ⟨by omega, i + 1, ⟨by omega, by omega⟩, ?_⟩
       rw [hst]
       exact ⟨⟨by simp, by rw [wrapI] <;> omega⟩, rfl, by rw [List.map_append]⟩
   ·have : i = 2 := by omega
    subst this
    have hp := hle 2
    have hln := hlen 2
    generalize Sf 2 = S at *
    obtain ⟨q, o⟩ := S
    simp only at hp hln hF
    have hp1 := dgo_le hp 1
    have hc : ¬ ((2 : Nat) : Int) < 2 := by omega
    simp only [go_sem, hc]
    refine call (one_den l q 2 hl hp (by omega) (by omega)) [1000000] ?_
    have e0 : dpos l q = dgo l q 1 := rfl
    cases hb : decide (dnext l q 2 = 2 - 1)
    ·have hcc : ¬ dnext l q 2 = 1 := of_decide_eq_false hb
     rw [if_neg hcc] at hF
     subst hF
     simp only [go_sem, e0]
     exact okD_of (by kernel_rfl)
    ·have hcc : dnext l q 2 = 1 := of_decide_eq_true hb
     rw [if_pos hcc] at hF
     subst hF
     have c5 := rdraftA C
     rw [cs_eq] at c5
     simp only [go_sem, e0]
     refine call c5 [] ?_
     simp only [go_sem]
     refine call (next_den l (dgo l q 1) 9 hl hp1 (by omega)) [1000000] ?_
     generalize dnext l (dgo l q 1) 9 = n at *
     have c6 := stmt2_den n 3 0 (apDr C).1 (apDr_ok C)
     generalize stmt n 3 0 (apDr C).1 = st at *
     rw [dr_eq] at c6
     simp only [go_sem, dgo_succ]
     refine call c6 [] ?_
     simp only [go_sem]
     exact ⟨by omega, okD_of (by kernel_rfl), okD_of (by kernel_rfl), by rw [List.map_append]; rfl⟩
 ·simp only [go_sem]
 ·simp only [go_sem]
end Go.Proofs.Am
