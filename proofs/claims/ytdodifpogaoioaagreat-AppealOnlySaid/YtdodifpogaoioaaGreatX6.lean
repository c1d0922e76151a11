/- X6. -/
import Derived.Test.YtdodifpogaoioaaGreatXOne
import Derived.Test.YtdodifpogaoioaaGreatWOne
import Derived.Test.YtdodifpogaoioaaGreatEOne
set_option linter.unusedSimpArgs false
set_option linter.unusedVariables false
namespace Go.Proofs.Am
open Go Go.RowKit
open Go.Proofs
theorem turnS_len' (l : List Stm) (n : Int) : (turnS l n).length = l.length := by simp [turnS]
def roC (c : Cs) (i : Nat) : Cs := { c with ro := (i : Int) }
def oneI (r : Rl) (L : List Stm) (t : Tm) (c : Cs) (i : Nat) : Prop := ∀ j, j < i → (seatsG r t (roC c j)).2 = 0 → (decA L (roC c j) (seatsG r t (roC c j)).1).length ≤ 1
set_option maxHeartbeats 1000000 in
set_option maxRecDepth 100000 in
theorem only32_den (l : List Int) (z turn : Int) (hz : 0 ≤ z ∧ z < 256) : Den Tryz.prog 4 [.vs (l.map i1), .int .u8 z, .int .i64 turn] [] (.bool true) [] [] := by
 refine den_of Tryz.mixed Tryz.func4 rfl Tryz.call4 Tryz.ntmps4 (congrArg Array.toList Tryz.results4) (by simp) (by kernel_rfl) [] (exts := []) rfl rfl ?_
 by_cases h400 : l.length ≤ 400
 rotate_left
 ·have hd : decide (l.length ≤ 400) = false := decide_eq_false h400
  simp only [go_sem]
  refine call (light_den l) [] ?_
  simp only [go_sem, hd]
  refine call awake32_den [] ?_
  simp only [go_sem]
 have hd : decide (l.length ≤ 400) = true := decide_eq_true h400
 have hl : big l.length := by simp only [big]; omega
 have c1 := disputeO_den l 0 hl (Nat.zero_le _)
 have hB : RlB (dspR l 0) := mrules_RlB l 0
 have hr := dspR_ok l 0
 have hT := dspT_ok (l := l) (Nat.zero_le _)
 have hTl := dspT_len (l := l) (Nat.zero_le _)
 have hO := dspC_open (l := l) (Nat.zero_le _)
 have hE : (dspC l 0).ep = (dspT l 0).ep := rfl
 have hLo := dspF_ok (l := l) (p := 0)
 have hLl := dspF_len (l := l) (p := 0)
 have hLp := dspF_pl (l := l) (Nat.zero_le _)
 generalize dspR l 0 = R at *
 generalize dspT l 0 = T at *
 generalize dspC l 0 = C at *
 generalize dspF l 0 = F at *
 obtain ⟨q0, L⟩ := F
 simp only at c1 hLo hLl hLp
 have ct := mturn_den L turn (by omega)
 have hMl := turnS_len' L turn
 have hMo : ∀ s ∈ turnS L turn, bigS s := fun s hs => (hLo s (turnS_mem hs)).big
 have hMp : ∀ s ∈ turnS L turn, plS s := fun s hs => hLp s (turnS_mem hs)
 generalize turnS L turn = M at *
 have hMl : M.length ≤ 401 := by omega
 obtain ⟨k, hk, hkl⟩ : ∃ k : Nat, z.tmod ((M.length : Int) + 1) = (k : Int) ∧ k ≤ M.length := by
  have h1 := Int.tmod_nonneg ((M.length : Int) + 1) hz.1
  have h2 := Int.tmod_lt_of_pos z (show (0 : Int) < (M.length : Int) + 1 by omega)
  exact ⟨(z.tmod ((M.length : Int) + 1)).toNat, by omega, by omega⟩
 have w0 : IntKind.i64.wrap z = z := by rw [wrapI] <;> omega
 have w1 : IntKind.i64.wrap ((M.length : Int) + 1) = (M.length : Int) + 1 := by rw [wrapI] <;> omega
 have w2 : IntKind.i64.wrap (k : Int) = (k : Int) := by rw [wrapI] <;> omega
 have e1 : ¬ (M.length : Int) + 1 = 0 := by omega
 have c3 := asecond C
 have hs1 : secC C = (sec1 C, 0) := by rw [secC_eq, if_pos hO]
 rw [hs1] at c3
 have hbT : big T.ros.length := by simp only [big]; omega
 have hAo : ∀ s ∈ M.take k, bigS s := fun s hs => hMo s (List.mem_of_mem_take hs)
 have hAp : ∀ s ∈ M.take k, plS s := fun s hs => hMp s (List.mem_of_mem_take hs)
 have hAl : (M.take k).length ≤ 900 := by rw [List.length_take]; omega
 have o1 := pout_den R (M.take k) T C hB hbT hAl hAo (plX_votes hAp) (plX_votes hAp)
 have o2 := pout_den R M T C hB hbT (by omega) hMo (plX_votes hMp) (plX_votes hMp)
 have o3 := pset_den R (M.take k) T C hB hbT hAl hAo (plX_votes hAp) (plX_votes hAp)
 have o4 := pset_den R M T C hB hbT (by omega) hMo (plX_votes hMp) (plX_votes hMp)
 have o5 := decD_den R M T (sec1 C) hB hbT (by omega) hMo
 have o6 := asked_den M T C hbT (by simp only [big]; omega) hMo
 have sd := fun i : Nat => seatsD_den R T (roC C i) hB hbT
 have sl := fun i : Nat => seatsG_len R T (roC C i)
 have al := fun i : Nat => rall_den M (roC C i) (seatsG R T (roC C i)).1 (by omega) hMo (by have := sl i; simp only [big]; omega)
 have law : oneI R M T C 2 → _ := fun hI => only_law (r := R) (a := M.take k) (b := M) hr hT hO hE (fun s hs => List.mem_of_mem_take hs) (by
  have h2 := (openB_iff.1 hO).2.1
  have h3 : roC C 0 = C := by cases C; simp only at h2; subst h2; rfl
  have := hI 0 (by omega)
  rw [h3] at this
  exact this (seatsG_zero hr hT (openB_iff.1 hO).1 hE h2)) (fun h => hI 1 (by omega) h)
 have by1 := outX_big (r := R) (L := M.take k) (t := T) (c := C)
 have by2 := outX_big (r := R) (L := M) (t := T) (c := C)
 have hKe : ∀ i : Nat, cs (roC C i) = [.int .i64 C.ep, .int .i64 C.kd, .int .i64 C.su, .int .i64 i] := fun i => rfl
 generalize hoa : outX R (M.take k) T C = OA at *
 generalize hob : outX R M T C = OB at *
 generalize hsa : setX R (M.take k) T C = SA at *
 generalize hsb : setX R M T C = SB at *
 generalize hdx : decG R M T (sec1 C) = DX at *
 generalize hax : askedB M T C = AX at *
 obtain ⟨x, ok, ea⟩ := OA
 obtain ⟨y, is, eb⟩ := OB
 obtain ⟨p, ep⟩ := SA
 obtain ⟨q, eq⟩ := SB
 simp only at o1 o2 o3 o4 law by1 by2
 have e7 := order23_den x y by1.1 by1.2 by2.1 by2.2
 have e8 := order23_den y y by2.1 by2.2 by2.1 by2.2
 rw [(ordC_eq _ _).2 rfl] at e8
 have hxy := ordC_eq x y
 generalize ordC x y = oxy at *
 have u4 : Tryz.prog.underlying 4 = some .bool := by kernel_rfl
 rw [rl_eq, tm_eq, cs_eq] at c1 o1 o2 o3 o4
 rw [rl_eq, tm_eq, cs_eq] at o5
 rw [tm_eq, cs_eq] at o6
 rw [cs_eq] at c3
 rw [ct_eq] at o1 o2 e7 e8 o5
 rw [ct_eq] at e7
 simp only [go_sem]
 refine call (light_den l) [] ?_
 simp only [go_sem, hd]
 refine call (roll9 l) [] ?_
 simp only [go_sem]
 refine call c1 [40] ?_
 simp only [go_sem]
 refine call ct [] ?_
 simp only [go_sem, w0, w1, e1, hk, w2]
 refine call c3 [] ?_
 simp only [go_sem]
 refine loop Tryz.mixed (0 : Nat) (fun i : Nat => [(8, .ptr 8 0), (9, .ptr 9 0), (10, .ptr 10 0), (11, .vs (M.map sm)), (12, .int .i64 k), (13, .ptr 13 0), (14, .int .i64 0), (15, .int .i64 i)]) (fun i => [(8, .cells (rl R)), (9, .cells (tm T)), (10, .cells (cs C)), (13, .cells (cs (sec1 C)))]) (fun i => i ≤ 2 ∧ oneI R M T C i) (fun i => 2 - i) (by kernel_rfl) ⟨Nat.zero_le _, fun j hj => absurd hj (Nat.not_lt_zero j)⟩ ?_ ?_
 ·simp only [go_sem]
  done
 ·rintro i ⟨hi, hI⟩
  by_cases h : i < 2
  ·have hlt : (i : Int) < 2 := by omega
   have s1 := sd i
   have a1 := al i
   have s2 := sl i
   have hdc : decA M (roC C i) (seatsG R T (roC C i)).1 = if ckS (roC C i) (seatsG R T (roC C i)).1 = 0 then allV (seatsG R T (roC C i)).1 (votesL M (roC C i)) else [] := rfl
   rw [← hdc] at a1
   have hck : (seatsG R T (roC C i)).2 = 0 → ckS (roC C i) (seatsG R T (roC C i)).1 ≠ 0 ∨ (decA M (roC C i) (seatsG R T (roC C i)).1).length ≤ 1 ∨ 1 < (decA M (roC C i) (seatsG R T (roC C i)).1).length := fun _ => by omega
   have hnx : ((seatsG R T (roC C i)).2 = 0 → (decA M (roC C i) (seatsG R T (roC C i)).1).length ≤ 1) → oneI R M T C (i + 1) := fun h1 j hj => by
    by_cases hji : j = i
    ·subst hji; exact h1
    ·exact hI j (by omega)
   generalize hS : seatsG R T (roC C i) = S at *
   obtain ⟨s, e⟩ := S
   simp only at s1 a1 s2 hnx
   generalize decA M (roC C i) s = A at *
   generalize ckS (roC C i) s = ck at *
   rw [hKe i, rl_eq, tm_eq] at s1
   rw [hKe i] at a1
   simp only [go_sem, hlt]
   refine call s1 [] ?_
   simp only [go_sem]
   refine call a1 [] ?_
   by_cases he : e = 0
   ·by_cases hc : ck = 0
    ·by_cases hA : 1 < (A.length : Int)
     ·simp only [go_sem, he, hc, hA]
      refine call awake32_den [] ?_
      simp only [go_sem]
     ·simp only [go_sem, he, hc, hA]
      exact ⟨i + 1, ⟨⟨by omega, hnx fun _ => by omega⟩, by omega⟩, by rw [wrapI] <;> omega⟩
    ·simp only [go_sem, he, hc]
     refine call awake32_den [] ?_
     simp only [go_sem]
   ·simp only [go_sem, he]
    exact ⟨i + 1, ⟨⟨by omega, hnx fun h => absurd h he⟩, by omega⟩, by rw [wrapI] <;> omega⟩
  ·have : i = 2 := by omega
   subst this
   have hlt : ¬ ((2 : Nat) : Int) < 2 := by omega
   obtain ⟨⟨z1, z2, z3, z4⟩, l2, l3, l4⟩ := law hI
   clear law
   subst z1 z2 z3 z4
   simp only [go_sem, hlt]
   refine ⟨⟨hkl, Nat.le_refl _⟩, call o1 [] ?_⟩
   simp only [go_sem]
   refine ⟨okD_of (by kernel_rfl), call o2 [] ?_⟩
   simp only [go_sem]
   refine ⟨⟨hkl, Nat.le_refl _⟩, call o3 [] ?_⟩
   simp only [go_sem]
   refine ⟨okD_of (by kernel_rfl), call o4 [] ?_⟩
   cases p
   ·cases ok
    ·cases is
     ·simp only [go_sem, u4]
      refine call e7 [] ?_
      by_cases h0 : oxy = 0
      ·simp only [go_sem, h0]
       refine call awake32_den [] ?_
       simp only [go_sem]
      ·simp only [go_sem, h0]
       refine call awake32_den [] ?_
       simp only [go_sem]
     ·simp only [go_sem, u4]
      refine call awake32_den [] ?_
      simp only [go_sem]
    ·have := l3 rfl
     subst this
     simp only [go_sem, u4]
     refine call e7 [] ?_
     by_cases h0 : oxy = 0
     ·simp only [go_sem, h0]
      refine call awake32_den [] ?_
      simp only [go_sem]
     ·simp only [go_sem, h0]
      obtain ⟨d1, d2, d3⟩ := l4 rfl (fun hh => h0 (hxy.2 (congrArg Prod.fst hh)))
      subst d2
      rw [d1] at o5
      rw [d3] at o6
      refine call o5 [] ?_
      simp only [go_sem]
      refine call e8 [] ?_
      simp only [go_sem]
      refine call o6 [] ?_
      simp only [go_sem]
      refine call awake32_den [] ?_
      simp only [go_sem]
   ·obtain ⟨d1, d2⟩ := l2 rfl
    simp only [Prod.mk.injEq, and_true] at d2
    obtain ⟨rfl, rfl⟩ := d2
    have h0 : oxy = 0 := hxy.2 rfl
    rw [h0] at e7
    subst d1
    cases ok
    ·simp only [go_sem, u4]
     refine call e7 [] ?_
     simp only [go_sem]
     refine call awake32_den [] ?_
     simp only [go_sem]
    ·simp only [go_sem, u4]
     refine call e7 [] ?_
     simp only [go_sem]
     refine call awake32_den [] ?_
     simp only [go_sem]
end Go.Proofs.Am
