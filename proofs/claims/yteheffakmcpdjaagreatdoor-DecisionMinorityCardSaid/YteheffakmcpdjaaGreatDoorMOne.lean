/- The example of the chapter on decisions. -/
import Derived.Test.YteheffakmcpdjaaGreatDoorHThree
set_option linter.unusedSimpArgs false
set_option linter.unusedVariables false
namespace Go.Proofs.Am
open Go Go.RowKit
open Go.Proofs

def LB : List Stm := [vt 0 0 cA yesA, vt 1 0 cA yesA, vt 2 0 cA yesA, vt 3 0 cA yesA]
def VB : List Vt := [⟨0, cA, yesA⟩, ⟨1, cA, yesA⟩, ⟨2, cA, yesA⟩, ⟨3, cA, yesA⟩]
theorem vb0 : voteE (vt 0 0 cA yesA) = (⟨0, cA, yesA⟩, true) := voteE_of (by kernel_rfl) ⟨by kernel_rfl, by kernel_rfl⟩ (by kernel_rfl) (by kernel_rfl) (sealed_stmt _ _ _ _)
theorem vb1 : voteE (vt 1 0 cA yesA) = (⟨1, cA, yesA⟩, true) := voteE_of (by kernel_rfl) ⟨by kernel_rfl, by kernel_rfl⟩ (by kernel_rfl) (by kernel_rfl) (sealed_stmt _ _ _ _)
theorem vb2 : voteE (vt 2 0 cA yesA) = (⟨2, cA, yesA⟩, true) := voteE_of (by kernel_rfl) ⟨by kernel_rfl, by kernel_rfl⟩ (by kernel_rfl) (by kernel_rfl) (sealed_stmt _ _ _ _)
theorem vb3 : voteE (vt 3 0 cA yesA) = (⟨3, cA, yesA⟩, true) := voteE_of (by kernel_rfl) ⟨by kernel_rfl, by kernel_rfl⟩ (by kernel_rfl) (by kernel_rfl) (sealed_stmt _ _ _ _)
theorem mem_LB {n : Nat} {y : Vt} : (∃ s ∈ LB.take n, okV cA s = true ∧ (voteE s).1 = y) ↔ y ∈ VB.take n := by
  have hm : (VB.take n) = (LB.take n).map fun s => (voteE s).1 := by
    rw [List.map_take]
    simp only [LB, VB, List.map_cons, List.map_nil, vb0, vb1, vb2, vb3]
  have ho : ∀ s ∈ LB, okV cA s = true := by
    intro s hs
    simp only [LB, List.mem_cons, List.not_mem_nil, or_false] at hs
    rcases hs with rfl | rfl | rfl | rfl
    · simp [okV, vb0]
    · simp [okV, vb1]
    · simp [okV, vb2]
    · simp [okV, vb3]
  rw [hm, List.mem_map]
  constructor
  · rintro ⟨s, h1, _, h3⟩; exact ⟨s, h1, h3⟩
  · rintro ⟨s, h1, h3⟩; exact ⟨s, h1, ho s (List.mem_of_mem_take h1), h3⟩
theorem votes_LB (n : Nat) : votesL (LB.take n) cA = VB.take n := by
  have hs : SS ltV VB := by unfold SS; decide
  refine (ko_V cA).ss_eq (votes_ss (LB.take n) cA).1 (List.Pairwise.take hs) fun y => ?_
  rw [mem_votesL, mem_LB]
theorem all_LB : allV [3, 1, 0, 2] VB = [yesA] := by decide
theorem all_LB3 : allV [3, 1, 0, 2] (VB.take 3) = [] := by decide
theorem okS_LB : ∀ s ∈ LB, bigS s := by
  have hd : okDr (vdraft cA yesA).1 := vdraft_ok _ _ ⟨by decide, by decide⟩
  intro s hs
  simp only [LB, List.mem_cons, List.not_mem_nil, or_false] at hs
  rcases hs with rfl | rfl | rfl | rfl
  · exact (stmt_okB 0 0 1 _ hd).big
  · exact (stmt_okB 1 0 1 _ hd).big
  · exact (stmt_okB 2 0 1 _ hd).big
  · exact (stmt_okB 3 0 1 _ hd).big
set_option maxHeartbeats 1000000 in
set_option maxRecDepth 100000 in
theorem awake28_den : Den Tryz.prog 10 [] [] (.bool true) [] [] := by
  refine den_of Tryz.mixed Tryz.func10 rfl Tryz.call10 Tryz.ntmps10 (congrArg Array.toList Tryz.results10) (by simp) (by kernel_rfl) [] (exts := []) rfl rfl ?_
  have c1 := vote_den 0 0 cA yesA ⟨by decide, by decide⟩
  have c2 := vote_den 1 0 cA yesA ⟨by decide, by decide⟩
  have c3 := vote_den 2 0 cA yesA ⟨by decide, by decide⟩
  have c4 := vote_den 3 0 cA yesA ⟨by decide, by decide⟩
  have hz : ckS cA [3, 1, 0, 2] = 0 := by decide
  have c5 := dof_den LB cA [3, 1, 0, 2] (by decide) okS_LB (by decide) [yesA] (by
    have := votes_LB 4
    rw [if_pos hz, show LB = LB.take 4 from rfl, this]
    exact all_LB.symm) (by decide)
  have c6 := dof_den (LB.take 3) cA [3, 1, 0, 2] (by decide) (fun s hs => okS_LB s (List.mem_of_mem_take hs)) (by decide) [] (by rw [if_pos hz, votes_LB]; exact all_LB3.symm) (by decide)
  rw [hz] at c5 c6
  rw [show (LB.take 3).map sm = [sm (vt 0 0 cA yesA), sm (vt 1 0 cA yesA), sm (vt 2 0 cA yesA)] from rfl] at c6
  rw [show LB.map sm = [sm (vt 0 0 cA yesA), sm (vt 1 0 cA yesA), sm (vt 2 0 cA yesA), sm (vt 3 0 cA yesA)] from rfl] at c5
  rw [show cs cA = [.int .i64 0, .int .i64 3, .int .i64 4, .int .i64 0] from rfl, show [(3 : Int), 1, 0, 2].map i1 = [i1 3, i1 1, i1 0, i1 2] from rfl] at c5 c6
  rw [show ct (oneC [yesA]) = [.vs [i1 1], .vs []] from rfl, show decide ([yesA].length = 1) = true from rfl] at c5
  rw [show ct (oneC []) = [.vs [], .vs []] from rfl, show decide (([] : List Ct).length = 1) = false from rfl] at c6
  rw [show cs cA = [.int .i64 0, .int .i64 3, .int .i64 4, .int .i64 0] from rfl, show ct yesA = [.vs [i1 1], .vs []] from rfl] at c1 c2 c3 c4
  generalize vt 0 0 cA yesA = s1 at *
  generalize vt 1 0 cA yesA = s2 at *
  generalize vt 2 0 cA yesA = s3 at *
  generalize vt 3 0 cA yesA = s4 at *
  rw [sm_eq] at c1 c2 c3 c4
  rw [sm_eq s1, sm_eq s2, sm_eq s3, sm_eq s4] at c5
  rw [sm_eq s1, sm_eq s2, sm_eq s3] at c6
  simp only [go_sem]
  refine call c1 [] ?_
  simp only [go_sem]
  refine call c2 [] ?_
  simp only [go_sem]
  refine call c3 [] ?_
  simp only [go_sem]
  refine call c4 [] ?_
  simp only [go_sem]
  refine ⟨okD_of (by kernel_rfl), ?_⟩
  refine call c5 [] ?_
  simp only [go_sem]
  refine call c6 [] ?_
  simp only [go_sem]
  exact okD_of (by kernel_rfl)
end Go.Proofs.Am

/- The mill's seats and cases are right. -/
namespace Go.Proofs.Am
open Go Go.RowKit
open Go.Proofs

theorem dsome_asc (l : List Int) : ∀ (n i p : Nat), (dsome l n i p).Pairwise (· < ·)
  | 0, _, _ => List.Pairwise.nil
  | n + 1, i, p => by
    rw [dsome, List.pairwise_append]
    refine ⟨by split <;> simp, dsome_asc l n (i + 1) (dpos l p), fun a ha b hb => ?_⟩
    have := (dsome_range l n (i + 1) (dpos l p) b hb).1
    split at ha
    · simp at ha; omega
    · simp at ha
theorem dkeys_asc (l : List Int) (n p : Nat) : asc (dkeys l n p) := by
  unfold dkeys
  split
  · exact List.pairwise_singleton _ _
  · exact dsome_asc l n 0 p
theorem dkeys_in (l : List Int) {n : Nat} (hn : 0 < n) (p : Nat) : ∀ k ∈ dkeys l n p, 0 ≤ k ∧ k < n := by
  intro k hk
  unfold dkeys at hk
  split at hk
  · rw [List.mem_singleton] at hk
    subst hk
    exact dnext_lt (by omega)
  · have := dsome_range l n 0 p k hk
    omega
theorem dkeys_ne (l : List Int) (n p : Nat) : dkeys l n p ≠ [] := by
  unfold dkeys
  split
  · simp
  · rename_i h
    exact fun e => h (by rw [e]; rfl)
theorem dkeys_max (l : List Int) {n : Nat} (hn : 0 < n) (p : Nat) : (dkeys l n p).length ≤ n := by
  unfold dkeys
  split
  · simp; omega
  · exact dsome_len l n 0 p
theorem mcase_ok (l : List Int) (p : Nat) {ep : Int} (h : 0 ≤ ep ∧ ep < 40) : caseV (mcase l p ep).1 = true := by
  have b1 := dnext_lt (l := l) (p := p) (n := 3) (by omega)
  have b2 := dnext_lt (l := l) (p := dgo l p 1) (n := 7) (by omega)
  have b3 := dnext_lt (l := l) (p := dgo l p 2) (n := 2) (by omega)
  unfold mcase caseV
  split
  · refine decide_eq_true ?_
    simp only
    refine ⟨h.1, h.2, by omega, by omega, by omega, by omega, ?_⟩
    have : dnext l p 3 ≠ 0 := by assumption
    omega
  · exact decide_eq_true ⟨h.1, h.2, by simp, by simp, by simp, by simp, .inl ⟨rfl, rfl, rfl⟩⟩
theorem ckS_mill (l : List Int) {n : Nat} (h0 : 0 < n) (hn : n ≤ 9) (p : Nat) {c : Cs} (hc : caseV c = true) : ckS c (dkeys l n p) = 0 := by
  rw [ck_seated, if_neg (by simp [hc]), if_pos]
  refine seatedB_iff.2 ⟨dkeys_ne l n p, fun k hk => ?_, (dkeys_asc l n p).imp fun h => by omega, ?_⟩
  · have := dkeys_in l h0 p k hk
    exact keyB_iff.2 ⟨this.1, by omega⟩
  · have := dkeys_max l h0 p
    omega
theorem allV_ok {seats : List Int} {l : List Stm} {c : Cs} : ∀ x ∈ allV seats (votesL l c), bigC x := fun x hx => by
  obtain ⟨n, hn, rfl, he⟩ := mem_allV.1 hx
  have hk : n.ks ≠ [] := (cnR_spec seats (votesL l c)).r4 n hn
  obtain ⟨k, r, hk⟩ := List.exists_cons_of_ne_nil hk
  obtain ⟨_, y, hy, e, _⟩ := ks_vote hn (k := k) (by rw [hk]; simp)
  rw [← e]
  exact okCt_big (votes_okX y hy).1
theorem allV_len {seats : List Int} {l : List Stm} {c : Cs} : (allV seats (votesL l c)).length ≤ l.length := by
  have h1 := votes_len l c
  have h2 := (cnI_ok seats (fun y hy => (votes_okX (l := l) (c := c) y hy).1) _ (Nat.le_refl _)).1
  have h3 : (allV seats (votesL l c)).length ≤ (cnR seats (votesL l c)).length := by
    unfold allV
    rw [List.length_map]
    exact List.length_filter_le _ _
  have h4 : cnI seats (votesL l c) (votesL l c).length = cnR seats (votesL l c) := rfl
  rw [h4] at h2
  omega
end Go.Proofs.Am

/- DecisionUnion, walked. -/
namespace Go.Proofs.Am
open Go Go.RowKit
open Go.Proofs

/-- Votes of seats, nearly all for one content. -/
def mostGo (l : List Int) (c : Cs) (x : Ct) (seats : List Int) (p : Nat) : Nat → Nat × List Stm
  | 0 => (p, [])
  | i + 1 => if dnext l (mostGo l c x seats p i).1 7 = 6 then (dgo l (mostGo l c x seats p i).1 1, (mostGo l c x seats p i).2) else (dgo l (mostGo l c x seats p i).1 2, (mostGo l c x seats p i).2 ++ [vt (el seats i) (dnext l (dgo l (mostGo l c x seats p i).1 1) 3) c x])
theorem mostGo_le {l : List Int} {c : Cs} {x : Ct} {seats : List Int} {p : Nat} (hp : p ≤ l.length) : ∀ i, (mostGo l c x seats p i).1 ≤ l.length
  | 0 => hp
  | i + 1 => by
    simp only [mostGo]
    split <;> exact dgo_le (mostGo_le hp i) _
theorem mostGo_len {l : List Int} {c : Cs} {x : Ct} {seats : List Int} {p : Nat} : ∀ i, (mostGo l c x seats p i).2.length ≤ i
  | 0 => Nat.le_refl _
  | i + 1 => by
    have ih := mostGo_len (l := l) (c := c) (x := x) (seats := seats) (p := p) i
    simp only [mostGo]
    split
    · simp only; omega
    · simp; omega
theorem mostGo_ok {l : List Int} {c : Cs} {x : Ct} {seats : List Int} {p : Nat} (hx : okCt x) : ∀ i, ∀ s ∈ (mostGo l c x seats p i).2, okS s
  | 0 => by simp [mostGo]
  | i + 1 => by
    have ih := mostGo_ok (l := l) (c := c) (seats := seats) (p := p) hx i
    simp only [mostGo]
    split
    · exact ih
    · intro s hs
      rcases List.mem_append.1 hs with hs | hs
      · exact ih s hs
      · rw [List.mem_singleton] at hs; subst hs; exact vt_okS _ _ _ hx
def mostX (l : List Int) (p : Nat) (c : Cs) (seats : List Int) : Nat × List Stm := mostGo l c (mcont l p c).1 seats (mcont l p c).2 seats.length
def mostP (l : List Int) (p : Nat) (c : Cs) (seats : List Int) : Nat := dgo l (mvotes l (mostX l p c seats).1 c seats).2 1
theorem mostP_le {l : List Int} {p : Nat} (hp : p ≤ l.length) (c : Cs) (seats : List Int) : mostP l p c seats ≤ l.length :=
  dgo_le (mvotes_le (mostGo_le (mcont_le hp c) _) c seats) 1
set_option maxHeartbeats 1000000 in
set_option maxRecDepth 100000 in
theorem most_den (l : List Int) (p : Nat) (c : Cs) (seats : List Int) (hl : big l.length) (hp : p ≤ l.length) (hs : seats.length ≤ 8) :
    Den Tryz.prog 14 [.ptr 1000000 0, .agg (cs c), .vs (seats.map i1)] [dbox l p] (.vs ((mostX l p c seats).2.map sm)) [] [dbox l (mostP l p c seats)] := by
  refine den_of Tryz.mixed Tryz.func14 rfl Tryz.call14 Tryz.ntmps14 (congrArg Array.toList Tryz.results14) (by simp) (by kernel_rfl) [] (exts := [1000000]) rfl rfl ?_
  have c1 := content_den l p c hl hp
  have hq := mcont_le hp c
  have hxo := mcont_ok l p c
  have hM : mostX l p c seats = mostGo l c (mcont l p c).1 seats (mcont l p c).2 seats.length := rfl
  have hP : mostP l p c seats = dgo l (mvotes l (mostX l p c seats).1 c seats).2 1 := rfl
  rw [hM] at hP
  rw [hP, hM]
  clear hM hP
  generalize mcont l p c = X at *
  obtain ⟨x, q⟩ := X
  simp only at c1 hq hxo
  simp only
  have cv := fun k nu => vote_den k nu c x hxo
  rw [cs_eq, ct_eq] at c1
  rw [cs_eq, ct_eq] at cv
  simp only [go_sem, cs_eq]
  refine call c1 [1000000] ?_
  simp only [go_sem]
  refine promote 8 110 44 13 false ?_ ?_ ?_ (by omega)
  · refine loop Tryz.mixed 0 (fun i : Nat => [(0, .ptr 1000000 0), (2, .vs (seats.map i1)), (4, .ptr 4 0), (7, .ptr 7 0), (8, .os 110 (mostGo l c x seats q i).2.length), (9, .int .i64 i)]) (fun i => [(1000000, dbox l (mostGo l c x seats q i).1), (4, .cells [.int .i64 c.ep, .int .i64 c.kd, .int .i64 c.su, .int .i64 c.ro]), (7, .cells [.vs (x.li.map i1), .vs (x.pi.map pn)]), (110, .arr 44 13 false ((mostGo l c x seats q i).2.map sm))]) (fun i => i ≤ seats.length) (fun i => seats.length - i) (by kernel_rfl) (Nat.zero_le _) ?_ ?_
    · simp only [go_sem, mostGo, List.map_nil, List.length_nil]
    · intro i hi
      have hgl := mostGo_len (l := l) (c := c) (x := x) (seats := seats) (p := q) i
      have hgp := mostGo_le (l := l) (c := c) (x := x) (seats := seats) hq i
      by_cases hlt : i < seats.length
      · have h1 : (i : Int) < (seats.length : Int) := by omega
        have hst : mostGo l c x seats q (i + 1) = if dnext l (mostGo l c x seats q i).1 7 = 6 then (dgo l (mostGo l c x seats q i).1 1, (mostGo l c x seats q i).2) else (dgo l (mostGo l c x seats q i).1 2, (mostGo l c x seats q i).2 ++ [vt (el seats i) (dnext l (dgo l (mostGo l c x seats q i).1 1) 3) c x]) := rfl
        generalize mostGo l c x seats q i = S at *
        obtain ⟨r, o⟩ := S
        simp only at hgl hgp hst
        have hr1 := dgo_le hgp 1
        have e0 : dpos l r = dgo l r 1 := rfl
        simp only [go_sem, h1, hlt]
        refine call (one_den l r 7 hl hgp (by omega) (by omega)) [1000000] ?_
        cases hb : decide (dnext l r 7 = 7 - 1)
        · have hc : ¬ dnext l r 7 = 6 := of_decide_eq_false hb
          rw [if_neg hc] at hst
          simp only [go_sem, e0, hlt]
          refine call (next_den l (dgo l r 1) 3 hl hr1 (by omega)) [1000000] ?_
          generalize dnext l (dgo l r 1) 3 = n at *
          have cv := cv (el seats i) n
          generalize vt (el seats i) n c x = s at *
          simp only [go_sem, dgo_succ]
          refine call cv [] ?_
          simp only [go_sem]
          refine ⟨by omega, okD_of (by kernel_rfl), i + 1, ⟨by omega, by omega⟩, ?_⟩
          rw [hst]
          exact ⟨⟨by simp, by rw [wrapI] <;> omega⟩, rfl, by rw [List.map_append]; rfl⟩
        · have hc : dnext l r 7 = 6 := of_decide_eq_true hb
          rw [if_pos hc] at hst
          simp only [go_sem, e0, hlt]
          refine ⟨i + 1, ⟨by omega, by omega⟩, ?_⟩
          rw [hst]
          exact ⟨⟨rfl, by rw [wrapI] <;> omega⟩, rfl, rfl⟩
      · have h1 : ¬ (i : Int) < (seats.length : Int) := by omega
        have : i = seats.length := by omega
        subst this
        generalize mostGo l c x seats q seats.length = S at *
        obtain ⟨r, o⟩ := S
        simp only at hgl hgp
        simp only
        have c2 := votes_den l r c seats hl hgp (by omega)
        have hv := mvotes_le hgp c seats
        rw [cs_eq] at c2
        generalize mvotes l r c seats = V at *
        obtain ⟨v, r2⟩ := V
        simp only at c2 hv
        simp only
        have e9 : (seats.length : Int).tdiv 9 = 0 := by rw [Int.tdiv_eq_ediv_of_nonneg (by omega)]; omega
        simp only [go_sem, h1]
        refine call c2 [1000000] ?_
        simp only [go_sem]
        refine call (next_den l r2 2 hl hv (by omega)) [1000000] ?_
        have e0 : dpos l r2 = dgo l r2 1 := rfl
        generalize dnext l r2 2 = n at *
        have ez : IntKind.i64.wrap (n * if IntKind.i64.wrap 0 < 1 then IntKind.i64.wrap 0 else 1) = 0 := by
          have e1 : IntKind.i64.wrap 0 = 0 := by rw [wrapI] <;> omega
          rw [e1, if_pos (by omega), Int.mul_zero, e1]
        simp only [go_sem, e9, e0]
        rw [ez]
        refine ⟨⟨Int.le_refl _, by omega, Nat.le_refl _⟩, ?_, ?_⟩
        · simp; omega
        · simp
  · simp only [go_sem]
  · simp only [go_sem]

/-- The votes of others, one after the other. -/
def extX (l : List Int) (c : Cs) (p : Nat) : Nat → Nat × List Stm
  | 0 => (p, [])
  | i + 1 => ((mcont l (extX l c p i).1 c).2, (extX l c p i).2 ++ [vt (20 + (i : Int)) 0 c (mcont l (extX l c p i).1 c).1])
end Go.Proofs.Am
