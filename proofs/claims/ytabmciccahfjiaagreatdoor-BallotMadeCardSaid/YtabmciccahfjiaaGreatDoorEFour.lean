/- The mill's votes are not too long; all functions agree with the document. -/
import Derived.Test.YtabmciccahfjiaaGreatDoorEThree
import Derived.Test.YtabmciccahfjiaaGreatDoorDEight
import Derived.Test.YtabmciccahfjiaaGreatDoorLOne
set_option linter.unusedSimpArgs false
set_option linter.unusedVariables false
namespace Go.Proofs.Am
open Go Go.RowKit
open Go.Proofs

theorem vt_okS (k nu : Int) (c : Cs) {x : Ct} (hx : okCt x) : okS (vt k nu c x) := stmt_okB _ _ _ _ (vdraft_ok c x hx)
theorem mvStep_okS {l : List Int} {c : Cs} {x y : Ct} {k : Int} {st : Nat × List Stm} (hx : okCt x) (hy : okCt y) (h : ∀ s ∈ st.2, okS s) : ∀ s ∈ (mvStep l c x y k st).2, okS s := by
  intro s hs
  unfold mvStep at hs
  split at hs
  · rcases List.mem_append.1 hs with hs | hs
    · exact h s hs
    · rw [List.mem_singleton] at hs; subst hs; exact vt_okS _ _ _ hy
  · split at hs
    · rcases List.mem_append.1 hs with hs | hs
      · exact h s hs
      · rcases List.mem_cons.1 hs with rfl | hs
        · exact vt_okS _ _ _ hx
        · rw [List.mem_singleton] at hs; subst hs; exact vt_okS _ _ _ hy
    · split at hs
      · rcases List.mem_append.1 hs with hs | hs
        · exact h s hs
        · rw [List.mem_singleton] at hs
          subst hs
          split
          · have := vt_okS k 0 c hx; exact this
          · exact vt_okS _ _ _ hx
      · split at hs
        · exact h s hs
        · rcases List.mem_append.1 hs with hs | hs
          · exact h s hs
          · rw [List.mem_singleton] at hs; subst hs; exact vt_okS _ _ _ hx
theorem mvGo_okS {l : List Int} {c : Cs} {x y : Ct} {seats : List Int} {p : Nat} (hx : okCt x) (hy : okCt y) : ∀ i, ∀ s ∈ (mvGo l c x y seats p i).2, okS s
  | 0 => by simp [mvGo]
  | i + 1 => mvStep_okS hx hy (mvGo_okS hx hy i)
theorem mvotes_okS (l : List Int) (p : Nat) (c : Cs) (seats : List Int) : ∀ s ∈ (mvotes l p c seats).1, okS s := by
  have h := mvGo_okS (l := l) (c := c) (seats := seats) (p := (mcont l (mcont l p c).2 c).2) (mcont_ok l p c) (mcont_ok l (mcont l p c).2 c) seats.length
  unfold mvotes
  split
  · intro s hs
    rcases List.mem_append.1 hs with hs | hs
    · exact h s hs
    · rw [List.mem_singleton] at hs; subst hs; exact vt_okS _ _ _ (mcont_ok l p c)
  · exact h
theorem dkpos_le2 (l : List Int) (n p : Nat) (hp : p ≤ l.length) : dkpos l n p ≤ l.length := by
  unfold dkpos
  split
  · exact dpos_le (dskip_le l n p hp)
  · exact dskip_le l n p hp
theorem dkeys_le (l : List Int) (n p : Nat) : (dkeys l n p).length ≤ n + 1 := by
  unfold dkeys
  split
  · simp
  · have := dsome_len l n 0 p; omega

/-- The votes of statements, countable. -/
theorem refV_okX {l : List Stm} {c : Cs} : ∀ i, i ≤ l.length → ∀ y ∈ refV l c i, okX y.x
  | 0, _ => by simp [refV, rawV]
  | i + 1, h => by
    have ih := refV_okX (c := c) i (by omega : i ≤ l.length)
    rw [refV_succ (by omega)]
    split
    · intro y hy
      rcases insG_sub _ _ _ _ hy with rfl | hy
      · exact okX_vote _
      · exact ih y hy
    · exact ih

set_option maxHeartbeats 1000000 in
set_option maxRecDepth 100000 in
theorem agree_den (l : List Stm) (c : Cs) (seats : List Int) (hl : l.length ≤ 900) (hs : ∀ s ∈ l, bigS s) (hb : big seats.length) : Den Tryz.prog 27 [.vs (l.map sm), .agg (cs c), .vs (seats.map i1)] [] (.bool true) [] [] := by
  refine den_of Tryz.mixed Tryz.func27 rfl Tryz.call27 Tryz.ntmps27 (congrArg Array.toList Tryz.results27) (by simp) (by kernel_rfl) [] (exts := []) rfl rfl ?_
  have c1 := votesG_den l c (by omega) hs
  have c2 := refVotes_den l c (by omega) hs
  have c3 := casesG_den l (by omega) hs
  have c4 := refCases_den l (by omega) hs
  rw [votes_eq] at c1
  rw [cases_eq] at c3
  obtain ⟨v1, v2⟩ := refV_ok (c := c) l.length (Nat.le_refl _) (l := l)
  have v3 := refV_okX (c := c) l.length (Nat.le_refl _) (l := l)
  have k1 := refC_len l.length (Nat.le_refl _) (l := l)
  generalize refV l c l.length = W at *
  generalize refC l l.length = C at *
  have c5 := sameVs_den W W (by simp only [big]; omega) (by simp only [big]; omega) v2 v2
  have e1 := cn_same' (seats := seats) v3
  have e2 := tw_same W
  have hok := cnI_ok seats (fun y hy => (v3 y hy).1) W.length (Nat.le_refl _)
  have c6 := cn_den W seats (by omega) hb v3
  have c7 := cnR_den seats W (by omega) hb (fun y hy => (v3 y hy).1)
  have c8 := twC_den W (by omega) (fun y hy => (v3 y hy).1)
  have c9 := twR_den W (by omega) v2
  rw [e1] at c6
  rw [e2] at c8
  have hCn : cnR seats W = cnI seats W W.length := rfl
  have hbn : ∀ n ∈ cnR seats W, bigC n.x ∧ big n.ks.length := fun n hn => by
    have := hok.2 n (by rw [← hCn]; exact hn)
    exact ⟨okCt_big this.1, by simp only [big]; omega⟩
  have hln : big (cnR seats W).length := by rw [hCn]; simp only [big]; omega
  have hlt2 : big (twR W).length := by
    have := twI_len W W.length
    have h5 : W.length * W.length ≤ 900 * 900 := Nat.mul_le_mul (by omega) (by omega)
    simp only [big, twR]
    omega
  have c10 := sameN_den (cnR seats W) (cnR seats W) hln hln hbn hbn
  have c11 := sameInts_den (twR W) (twR W) hlt2 hlt2
  clear hCn
  generalize cnR seats W = N at *
  generalize twR W = T at *
  rw [cs_eq] at c1 c2
  rw [decide_eq_true (rfl : W = W)] at c5
  rw [decide_eq_true (rfl : N = N)] at c10
  rw [decide_eq_true (rfl : T = T)] at c11
  simp only [go_sem, cs_eq]
  refine call c1 [] ?_
  simp only [go_sem]
  refine call c2 [] ?_
  simp only [go_sem]
  refine ⟨okD_of (by kernel_rfl), ?_⟩
  refine call c3 [] ?_
  simp only [go_sem]
  refine call c4 [] ?_
  simp only [go_sem]
  refine call c5 [] ?_
  simp only [go_sem]
  refine call c6 [] ?_
  simp only [go_sem]
  refine call c7 [] ?_
  simp only [go_sem]
  refine call c10 [] ?_
  simp only [go_sem]
  refine call c8 [] ?_
  simp only [go_sem]
  refine call c9 [] ?_
  simp only [go_sem]
  refine call c11 [] ?_
  simp only [go_sem]
  refine loop Tryz.mixed 0 (fun i : Nat => [(9, .vs (C.map cs)), (10, .vs (C.map cs)), (11, .int .i64 i)]) (fun _ => []) (fun i => i ≤ C.length) (fun i => C.length - i) (by kernel_rfl) (Nat.zero_le _) ?_ ?_
  · simp only [go_sem]
  · intro i hi
    by_cases hlt : i < C.length
    · have h1 : (i : Int) < (C.length : Int) := by omega
      have hP : (el C i).ep = (el C i).ep ∧ (el C i).kd = (el C i).kd ∧ (el C i).su = (el C i).su ∧ (el C i).ro = (el C i).ro := ⟨rfl, rfl, rfl, rfl⟩
      simp only [go_sem, h1, hlt, cs_eq]
      exact ⟨okD_of (by kernel_rfl), i + 1, ⟨by omega, by omega⟩, by rw [wrapI] <;> omega⟩
    · have h1 : ¬ (i : Int) < (C.length : Int) := by omega
      simp only [go_sem, h1]
end Go.Proofs.Am

/- Plain laws of votes, cases and counts. -/
namespace Go.Proofs.Am
open Go Go.RowKit
open Go.Proofs

theorem turnS_mem {l : List Stm} {n : Int} {s : Stm} (h : s ∈ turnS l n) : s ∈ l := by
  unfold turnS at h
  obtain ⟨i, hi, rfl⟩ := List.mem_map.1 h
  have := List.mem_range.1 hi
  exact el_mem (Nat.mod_lt _ (by omega))

theorem cnR_none (seats : List Int) : cnR seats [] = [] := rfl
def sumK (o : List Cn) : Nat := (o.map fun n => n.ks.length).sum
end Go.Proofs.Am
