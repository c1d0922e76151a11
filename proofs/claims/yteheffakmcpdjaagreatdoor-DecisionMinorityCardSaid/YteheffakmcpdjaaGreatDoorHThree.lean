/- Certificates are checked: the program and the document. -/
import Derived.Test.YteheffakmcpdjaaGreatDoorHTwo
set_option linter.unusedSimpArgs false
set_option linter.unusedVariables false
namespace Go.Proofs.Am
open Go Go.RowKit
open Go.Proofs

def chkOK (c : Cs) (l : List Stm) (seats : List Int) (i : Nat) : Bool := okV c (el l i) && (decide ((el l i).au ∈ seats) && (decide (i = 0) || (decide ((el l (i - 1)).au < (el l i).au) && decide ((voteE (el l i)).1.x = (voteE (el l 0)).1.x))))
def chkB (c : Cs) (l : List Stm) (seats : List Int) : Bool := allI (chkOK c l seats) l.length && enoB l.length seats.length
/-- What a certificate says. -/
def chkX (c : Cs) (l : List Stm) (seats : List Int) : Ct × Int := if ckS c seats ≠ 0 then (noC, ckS c seats) else if chkB c l seats = true then ((voteE (el l 0)).1.x, 0) else (noC, 45)
theorem chkB_iff {c : Cs} {l : List Stm} {seats : List Int} : chkB c l seats = true ↔ ∃ x, ChkP c l seats x := by
  unfold chkB
  rw [Bool.and_eq_true, allI, decide_eq_true_eq]
  constructor
  · rintro ⟨h1, h2⟩
    have h3 : ∀ i, i < l.length → okV c (el l i) = true ∧ (el l i).au ∈ seats ∧ (i = 0 ∨ ((el l (i - 1)).au < (el l i).au ∧ (voteE (el l i)).1.x = (voteE (el l 0)).1.x)) := fun i hi => by
      have := h1 i hi
      simpa [chkOK, Bool.and_eq_true, Bool.or_eq_true] using this
    refine ⟨(voteE (el l 0)).1.x, fun s hs => ?_, ?_, h2⟩
    · obtain ⟨i, hi, rfl⟩ := mem_el hs
      obtain ⟨h4, h5, h6⟩ := h3 i hi
      refine ⟨h4, h5, ?_⟩
      rcases h6 with rfl | h6
      · rfl
      · exact h6.2
    · have h4 : asc (l.map Stm.au) := asc_steps fun i h0 hi => by
        rw [List.length_map] at hi
        have e : ∀ j, j < l.length → el (l.map Stm.au) j = (el l j).au := fun j hj => by simp [el, List.getD_eq_getElem?_getD, hj]
        rw [e _ hi, e _ (by omega)]
        rcases (h3 i hi).2.2 with h | h
        · omega
        · exact h.1
      exact List.pairwise_map.1 h4
  · rintro ⟨x, h1, h2, h3⟩
    refine ⟨fun i hi => ?_, h3⟩
    obtain ⟨h4, h5, h6⟩ := h1 _ (el_mem hi)
    have h7 := (h1 _ (el_mem (by omega : 0 < l.length))).2.2
    have h8 : i = 0 ∨ (el l (i - 1)).au < (el l i).au := by
      rcases Nat.eq_zero_or_pos i with h | h
      · exact .inl h
      · have := List.pairwise_iff_getElem.1 h2 (i - 1) i (by omega) hi (by omega)
        exact .inr (by simpa [el, List.getD_eq_getElem?_getD, hi, show i - 1 < l.length by omega] using this)
    simp only [chkOK, h4, decide_eq_true h5, h6, h7, Bool.true_and, decide_true, Bool.and_true, Bool.or_eq_true, decide_eq_true_eq]
    exact h8
theorem chkX_ok {c : Cs} {l : List Stm} {seats : List Int} (h : (chkX c l seats).2 = 0) : ckS c seats = 0 ∧ ChkP c l seats (chkX c l seats).1 := by
  unfold chkX at h ⊢
  by_cases h1 : ckS c seats = 0
  · rw [if_neg (by simp [h1])] at h ⊢
    by_cases h2 : chkB c l seats = true
    · rw [if_pos h2]
      obtain ⟨x, hx⟩ := chkB_iff.1 h2
      have hl : 0 < l.length := by
        have := hx.en
        simp only [enoB, decide_eq_true_eq] at this
        omega
      have := (hx.ok _ (el_mem hl)).2.2
      rw [this]
      exact ⟨h1, hx⟩
    · rw [if_neg h2] at h
      cases h
  · rw [if_pos h1] at h
    exact absurd h h1
theorem chkX_of {c : Cs} {l : List Stm} {seats : List Int} {x : Ct} (h1 : ckS c seats = 0) (hx : ChkP c l seats x) : chkX c l seats = (x, 0) := by
  unfold chkX
  rw [if_neg (by simp [h1]), if_pos (chkB_iff.2 ⟨x, hx⟩)]
  have hl : 0 < l.length := by
    have := hx.en
    simp only [enoB, decide_eq_true_eq] at this
    omega
  rw [(hx.ok _ (el_mem hl)).2.2]
theorem okV_of {c : Cs} {s : Stm} : okV c s = (decide ((ofE s).2 = 0) && (decide (s.sk = s.au ∧ s.sd = dig s) && decide ((ofE s).1.c = c))) := by
  unfold okV voteE
  exact Bool.and_assoc _ _ _
/-- A certificate. -/
def ce (c : Cs) (l : List Stm) : List PV := [.int .i64 c.ep, .int .i64 c.kd, .int .i64 c.su, .int .i64 c.ro, .vs (l.map sm)]
theorem ce_eq (c : Cs) (l : List Stm) : ce c l = [.int .i64 c.ep, .int .i64 c.kd, .int .i64 c.su, .int .i64 c.ro, .vs (l.map sm)] := (rfl)
/-- The content that the checks ahead have seen. -/
def zx (l : List Stm) (i : Nat) : List PV := if i = 0 then [.nils, .nils] else ct (voteE (el l 0)).1.x
theorem zx_zero (l : List Stm) : zx l 0 = [.nils, .nils] := rfl
theorem zx_succ (l : List Stm) (i : Nat) : zx l (i + 1) = ct (voteE (el l 0)).1.x := by simp [zx]
set_option maxHeartbeats 1000000 in
set_option maxRecDepth 100000 in
theorem dCheck_den (c : Cs) (l : List Stm) (seats : List Int) (hl : l.length ≤ 1000000) (hs : ∀ s ∈ l, bigS s) (hb : seats.length ≤ 1000000) :
    Den Tryz.prog 22 [.agg (ce c l), .vs (seats.map i1)] [] (.tup [.agg (ct (chkX c l seats).1), .int .i64 (chkX c l seats).2]) [] [] := by
  refine den_of Tryz.mixed Tryz.func22 rfl Tryz.call22 Tryz.ntmps22 (congrArg Array.toList Tryz.results22) (by simp) (by kernel_rfl) [] (exts := []) rfl rfl ?_
  have hbs : big seats.length := by simp only [big]; omega
  have c1 := dcheck_den c seats hb
  rw [cs_eq] at c1
  have hX : chkX c l seats = if ckS c seats ≠ 0 then (noC, ckS c seats) else if chkB c l seats = true then ((voteE (el l 0)).1.x, 0) else (noC, 45) := rfl
  generalize chkX c l seats = r at *
  generalize ckS c seats = k at *
  rw [ce_eq]
  simp only [go_sem]
  refine call c1 [] ?_
  by_cases hz : k = 0
  rotate_left
  · rw [if_pos hz] at hX
    subst hX
    simp only [go_sem, hz, noC]
  subst hz
  rw [if_neg (by simp)] at hX
  have hbad : chkB c l seats = false → r = (noC, 45) := fun h => by rw [hX, h]; rfl
  have hgood : chkB c l seats = true → r = ((voteE (el l 0)).1.x, 0) := fun h => by rw [hX, h]; rfl
  have hbadI : ∀ i, i < l.length → chkOK c l seats i = false → r = (noC, 45) := fun i hi h => hbad (by rw [chkB, allI_f hi h, Bool.false_and])
  clear hX
  simp only [go_sem]
  refine loop Tryz.mixed 0 (fun i : Nat => [(1, .vs (seats.map i1)), (2, .ptr 2 0), (4, .ptr 4 0), (7, .ptr 7 0), (21, .vs (l.map sm)), (22, .int .i64 l.length), (23, .int .i64 i)]) (fun i => [(2, .cells (ce c l)), (4, .cells [.nils, .nils]), (7, .cells (zx l i))]) (fun i => i ≤ l.length ∧ ∀ j, j < i → chkOK c l seats j = true) (fun i => l.length - i) (by kernel_rfl) ⟨Nat.zero_le _, by simp⟩ ?_ ?_
  · simp only [go_sem, ce_eq, zx_zero]
  · rintro i ⟨hi, hp⟩
    by_cases hlt : i < l.length
    · have h1 : (i : Int) < (l.length : Int) := by omega
      have cv := cof_den (el l i) (hs _ (el_mem hlt))
      have cs' := fun h => sealed_den (el l i) (okS_ofE h)
      have ch := contains_den seats (el l i).au hbs
      have hq : chkOK c l seats i = (okV c (el l i) && (decide ((el l i).au ∈ seats) && (decide (i = 0) || (decide ((el l (i - 1)).au < (el l i).au) && decide ((voteE (el l i)).1.x = (voteE (el l 0)).1.x))))) := rfl
      have hby : bigC (ofE (el l i)).1.x := okCt_big (voteE_ok (s := el l i))
      have hbx : bigC (voteE (el l 0)).1.x := okCt_big voteE_ok
      rw [okV_of] at hq
      have hvx : ∀ s, (voteE s).1.x = (ofE s).1.x := fun _ => rfl
      rw [hvx (el l i)] at hq
      rw [show decide ((ofE (el l i)).1.c = c) = sameC (ofE (el l i)).1.c c from rfl] at hq
      have hx0 : i = 0 → (voteE (el l 0)).1.x = (ofE (el l i)).1.x := fun h => by rw [h]; rfl
      rw [sm_eq] at cv cs'
      generalize hX0 : (voteE (el l 0)).1.x = x0 at *
      have hzs : ∀ j, zx l (j + 1) = ct x0 := fun j => by rw [zx_succ, hX0]
      generalize ofE (el l i) = ve at *
      obtain ⟨w, e⟩ := ve
      simp only at hq hby hx0 cv cs'
      generalize hb2 : decide ((el l i).sk = (el l i).au ∧ (el l i).sd = dig (el l i)) = b2 at *
      generalize hb4 : decide ((el l i).au ∈ seats) = b4 at *
      simp only [go_sem, h1, hlt, ce_eq]
      refine call cv [] ?_
      by_cases z1 : e = 0
      rotate_left
      · rw [decide_eq_false z1] at hq
        have := hbadI i hlt hq
        subst this
        simp only [go_sem, z1, noC]
      subst z1
      simp only [go_sem]
      refine call (cs' rfl) [] ?_
      cases b2
      · have := hbadI i hlt hq
        subst this
        simp only [go_sem, noC]
      cases hsc : sameC w.c c
      · rw [hsc] at hq
        have := hbadI i hlt hq
        subst this
        simp only [go_sem, dec_cs, hsc, noC]
      rw [hsc] at hq
      simp only [go_sem, dec_cs, hsc]
      refine call ch [] ?_
      cases b4
      · have := hbadI i hlt hq
        subst this
        simp only [go_sem, noC]
      rcases Nat.eq_zero_or_pos i with h0 | h0
      · subst h0
        have hq2 : chkOK c l seats 0 = true := hq
        have g : ¬ (0 : Int) < ((0 : Nat) : Int) := by omega
        have hx := hx0 rfl
        simp only [go_sem, g, zx_zero]
        refine ⟨okD_of (by kernel_rfl), 0 + 1, ⟨⟨by omega, upto_succ hp hq2⟩, by omega⟩, ?_⟩
        rw [hzs, hx, ct_eq]
        simp only [go_sem]
        rw [wrapI] <;> omega
      · obtain ⟨j, rfl⟩ : ∃ j, i = j + 1 := ⟨i - 1, by omega⟩
        have g : (0 : Int) < ((j + 1 : Nat) : Int) := by omega
        have g2 : IntKind.i64.wrap (((j + 1 : Nat) : Int) - 1) = (j : Int) := by rw [wrapI] <;> omega
        have g3 : j < l.length := by omega
        rw [hzs]
        rw [Nat.add_sub_cancel, show decide (j + 1 = 0) = false from rfl] at hq
        by_cases h2 : (el l (j + 1)).au ≤ (el l j).au
        · have h3 : ¬ (el l j).au < (el l (j + 1)).au := by omega
          rw [decide_eq_false h3] at hq
          have := hbadI (j + 1) hlt hq
          subst this
          simp only [go_sem, g, g2, g3, h2, noC]
          exact okD_of (by kernel_rfl)
        · have h3 : (el l j).au < (el l (j + 1)).au := by omega
          rw [decide_eq_true h3] at hq
          have co := orderC_den x0 w.x hbx.1 hbx.2 hby.1 hby.2
          simp only [go_sem, g, g2, g3, h2]
          refine call co [] ?_
          by_cases z : ordC x0 w.x = 0
          · have hx := (ordC_eq _ _).1 z
            have hq2 : chkOK c l seats (j + 1) = true := by rw [hq, decide_eq_true hx.symm]; rfl
            simp only [go_sem, z]
            refine ⟨okD_of (by kernel_rfl), j + 1 + 1, ⟨⟨by omega, upto_succ hp hq2⟩, by omega⟩, ?_⟩
            rw [hzs, hx, ct_eq]
            simp only [go_sem]
            rw [wrapI] <;> omega
          · have hx : ¬ w.x = x0 := fun e => z (by rw [e]; exact (ordC_eq _ _).2 rfl)
            rw [decide_eq_false hx] at hq
            have := hbadI (j + 1) hlt hq
            subst this
            simp only [go_sem, z, noC]
            exact okD_of (by kernel_rfl)
    · have h1 : ¬ (i : Int) < (l.length : Int) := by omega
      have : i = l.length := by omega
      subst this
      have ce1 := cenough_den l.length seats.length hl hb
      have hB : chkB c l seats = enoB l.length seats.length := by rw [chkB, allI_t hp, Bool.true_and]
      rw [hB] at hbad hgood
      simp only [go_sem, h1, ce_eq]
      refine call ce1 [] ?_
      cases he : enoB l.length seats.length
      · have := hbad he
        subst this
        simp only [go_sem, noC]
      · have := hgood he
        subst this
        obtain ⟨j, hj⟩ : ∃ j, l.length = j + 1 := ⟨l.length - 1, by simp only [enoB, decide_eq_true_eq] at he; omega⟩
        have hzs : zx l l.length = ct (voteE (el l 0)).1.x := by rw [hj, zx_succ]
        simp only [go_sem, hzs]
end Go.Proofs.Am

/- Certificates are checked: the document. -/
namespace Go.Proofs.Am
open Go Go.RowKit
open Go.Proofs

end Go.Proofs.Am
