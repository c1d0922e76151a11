/- The mill's votes are not too long; all functions agree with the document. -/
import Derived.Test.YtabmciccahfjiaaGreatDoorEThree
import Derived.Test.YtabmciccahfjiaaGreatDoorDEight
import Derived.Test.YtabmciccahfjiaaGreatDoorLOne
import Derived.Test.YtabmciccahfjiaaGreatDoorCThree
set_option linter.unusedSimpArgs false
set_option linter.unusedVariables false
namespace Go.Proofs.Am
open Go Go.RowKit
open Go.Proofs

theorem vt_okS (k nu : Int) (c : Cs) {x : Ct} (hx : okCt x) : okS (vt k nu c x) := stmt_okB _ _ _ _ (vdraft_ok c x hx)
theorem mvStep_okS {l : List Int} {c : Cs} {x y : Ct} {k : Int} {st : Nat × List Stm} (hx : okCt x) (hy : okCt y) (h : ∀ s ∈ st.2, okS s) : ∀ s ∈ (mvStep l c x y k st).2, okS s := by
  intro s hs
  unfold mvStep at hs
  split at hs
  · rcases List.mem_append.1 hs with hs | hs
    · exact h s hs
    · rw [List.mem_singleton] at hs; subst hs; exact vt_okS _ _ _ hy
  · split at hs
    · rcases List.mem_append.1 hs with hs | hs
      · exact h s hs
      · rcases List.mem_cons.1 hs with rfl | hs
        · exact vt_okS _ _ _ hx
        · rw [List.mem_singleton] at hs; subst hs; exact vt_okS _ _ _ hy
    · split at hs
      · rcases List.mem_append.1 hs with hs | hs
        · exact h s hs
        · rw [List.mem_singleton] at hs
          subst hs
          split
          · have := vt_okS k 0 c hx; exact this
          · exact vt_okS _ _ _ hx
      · split at hs
        · exact h s hs
        · rcases List.mem_append.1 hs with hs | hs
          · exact h s hs
          · rw [List.mem_singleton] at hs; subst hs; exact vt_okS _ _ _ hx
theorem mvGo_okS {l : List Int} {c : Cs} {x y : Ct} {seats : List Int} {p : Nat} (hx : okCt x) (hy : okCt y) : ∀ i, ∀ s ∈ (mvGo l c x y seats p i).2, okS s
  | 0 => by simp [mvGo]
  | i + 1 => mvStep_okS hx hy (mvGo_okS hx hy i)
theorem mvotes_okS (l : List Int) (p : Nat) (c : Cs) (seats : List Int) : ∀ s ∈ (mvotes l p c seats).1, okS s := by
  have h := mvGo_okS (l := l) (c := c) (seats := seats) (p := (mcont l (mcont l p c).2 c).2) (mcont_ok l p c) (mcont_ok l (mcont l p c).2 c) seats.length
  unfold mvotes
  split
  · intro s hs
    rcases List.mem_append.1 hs with hs | hs
    · exact h s hs
    · rw [List.mem_singleton] at hs; subst hs; exact vt_okS _ _ _ (mcont_ok l p c)
  · exact h
theorem dkpos_le2 (l : List Int) (n p : Nat) (hp : p ≤ l.length) : dkpos l n p ≤ l.length := by
  unfold dkpos
  split
  · exact dpos_le (dskip_le l n p hp)
  · exact dskip_le l n p hp
theorem dkeys_le (l : List Int) (n p : Nat) : (dkeys l n p).length ≤ n + 1 := by
  unfold dkeys
  split
  · simp
  · have := dsome_len l n 0 p; omega

end Go.Proofs.Am

/- Plain laws of votes, cases and counts. -/
namespace Go.Proofs.Am
open Go Go.RowKit
open Go.Proofs

theorem mem_rawV {l : List Stm} {c : Cs} {v : Vt} : v ∈ rawV l c l.length ↔ ∃ s ∈ l, okV c s = true ∧ (voteE s).1 = v := by
  simp only [rawV, List.take_length, List.mem_map, List.mem_filter]
  constructor
  · rintro ⟨s, ⟨h1, h2⟩, h3⟩; exact ⟨s, h1, h2, h3⟩
  · rintro ⟨s, h1, h2, h3⟩; exact ⟨s, ⟨h1, h2⟩, h3⟩
theorem mem_votesL {l : List Stm} {c : Cs} {v : Vt} : v ∈ votesL l c ↔ ∃ s ∈ l, okV c s = true ∧ (voteE s).1 = v := by rw [(votes_ss l c).2, mem_rawV]
theorem mem_casesL {l : List Stm} {x : Cs} : x ∈ casesL l ↔ ∃ s ∈ l, (voteE s).2 = true ∧ (voteE s).1.c = x := by
  rw [(cases_ss l).2]
  simp only [rawC, List.take_length, List.mem_map, List.mem_filter]
  constructor
  · rintro ⟨s, ⟨h1, h2⟩, h3⟩; exact ⟨s, h1, h2, h3⟩
  · rintro ⟨s, h1, h2, h3⟩; exact ⟨s, ⟨h1, h2⟩, h3⟩
theorem votes_some {l : List Stm} {c : Cs} (h : c ∈ casesL l) : 0 < (votesL l c).length := by
  obtain ⟨s, h1, h2, h3⟩ := mem_casesL.1 h
  have : (voteE s).1 ∈ votesL l c := mem_votesL.2 ⟨s, h1, by simp [okV, h2, h3], rfl⟩
  exact List.length_pos_of_mem this
theorem votes_len (l : List Stm) (c : Cs) : (votesL l c).length ≤ l.length := by
  rw [votes_eq]
  exact (refV_ok (c := c) l.length (Nat.le_refl _)).1
theorem cases_len (l : List Stm) : (casesL l).length ≤ l.length := by
  rw [cases_eq]
  exact refC_len l.length (Nat.le_refl _)
theorem ss_nodup {α : Type} {lt : α → α → Bool} {S : α → Prop} (h : KO lt S) {l : List α} (hs : SS lt l) : l.Nodup := hs.imp fun {a b} hab e => by
  rw [e, h.irr] at hab
  cases hab
theorem cnR_none (seats : List Int) : cnR seats [] = [] := rfl
def sumK (o : List Cn) : Nat := (o.map fun n => n.ks.length).sum
end Go.Proofs.Am

/- The mill's votes as a slice of the caller's own. -/
namespace Go.Proofs.Am
open Go Go.RowKit
open Go.Proofs

set_option maxHeartbeats 1000000 in
set_option maxRecDepth 100000 in
theorem votesO_den (l : List Int) (p : Nat) (c : Cs) (seats : List Int) (hl : big l.length) (hp : p ≤ l.length) (hs : seats.length ≤ 1000) : Den Tryz.prog 19 [.ptr 1000000 0, .agg (cs c), .vs (seats.map i1)] [dbox l p] (.os 0 (mvotes l p c seats).1.length) [.arr 63 13 false ((mvotes l p c seats).1.map sm)] [dbox l (mvotes l p c seats).2] := by
  refine den_of Tryz.mixed Tryz.func19 rfl Tryz.call19 Tryz.ntmps19 (congrArg Array.toList Tryz.results19) (by simp) (by kernel_rfl) [110] (exts := [1000000]) rfl rfl ?_
  have hm : mvotes l p c seats = if dnext l (mvGo l c (mcont l p c).1 (mcont l (mcont l p c).2 c).1 seats (mcont l (mcont l p c).2 c).2 seats.length).1 4 = 3 then
    ((mvGo l c (mcont l p c).1 (mcont l (mcont l p c).2 c).1 seats (mcont l (mcont l p c).2 c).2 seats.length).2 ++ [vt (dnext l (dgo l (mvGo l c (mcont l p c).1 (mcont l (mcont l p c).2 c).1 seats (mcont l (mcont l p c).2 c).2 seats.length).1 1) 9) 0 c (mcont l p c).1],
     dgo l (mvGo l c (mcont l p c).1 (mcont l (mcont l p c).2 c).1 seats (mcont l (mcont l p c).2 c).2 seats.length).1 2)
  else ((mvGo l c (mcont l p c).1 (mcont l (mcont l p c).2 c).1 seats (mcont l (mcont l p c).2 c).2 seats.length).2,
     dgo l (mvGo l c (mcont l p c).1 (mcont l (mcont l p c).2 c).1 seats (mcont l (mcont l p c).2 c).2 seats.length).1 1) := rfl
  generalize mvotes l p c seats = m at *
  have c1 := content_den l p c hl hp
  have c2 := content_den l (mcont l p c).2 c hl (mcont_le hp c)
  have hxo := mcont_ok l p c
  have hyo := mcont_ok l (mcont l p c).2 c
  have hqe := mcont_le (mcont_le hp c) c
  generalize mcont l p c = X at *
  generalize mcont l X.2 c = Y at *
  obtain ⟨x, q0⟩ := X
  obtain ⟨y, q⟩ := Y
  simp only at hm c1 c2 hxo hyo hqe
  rw [cs_eq, ct_eq] at c1 c2
  have cv := fun au nu => vote_den au nu c x hxo
  have cw := fun au nu => vote_den au nu c y hyo
  rw [cs_eq, ct_eq] at cv cw
  simp only [go_sem, ↓reduceIte, reduceCtorEq, Nat.reduceEqDiff, Nat.reduceAdd, Nat.reduceSub, Nat.reduceMul, Nat.reduceLT, Nat.reduceLeDiff, Int.reduceLT, Int.reduceLE, Int.reduceEq, Int.reduceNe, Int.reduceToNat, Int.reduceAdd, Int.reduceSub, Int.reduceMul, Int.natCast_zero]
  refine call c1 [1000000] ?_
  simp only [go_sem, ↓reduceIte, reduceCtorEq, Nat.reduceEqDiff, Nat.reduceAdd, Nat.reduceSub, Nat.reduceMul, Nat.reduceLT, Nat.reduceLeDiff, Int.reduceLT, Int.reduceLE, Int.reduceEq, Int.reduceNe, Int.reduceToNat, Int.reduceAdd, Int.reduceSub, Int.reduceMul, Int.natCast_zero]
  refine call c2 [1000000] ?_
  simp only [go_sem, ↓reduceIte, reduceCtorEq, Nat.reduceEqDiff, Nat.reduceAdd, Nat.reduceSub, Nat.reduceMul, Nat.reduceLT, Nat.reduceLeDiff, Int.reduceLT, Int.reduceLE, Int.reduceEq, Int.reduceNe, Int.reduceToNat, Int.reduceAdd, Int.reduceSub, Int.reduceMul, Int.natCast_zero]
  refine ⟨okD_of (by kernel_rfl), ?_⟩
  refine promote 9 110 63 13 false ?_ ?_ ?_ (by omega)
  · refine loop Tryz.mixed 0 (fun i : Nat => [(0, .ptr 1000000 0), (2, .vs (seats.map i1)), (4, .ptr 4 0), (7, .ptr 7 0), (8, .ptr 8 0), (9, .os 110 (mvGo l c x y seats q i).2.length), (10, .int .i64 i)]) (fun i => [(1000000, dbox l (mvGo l c x y seats q i).1), (4, .cells (cs c)), (7, .cells (ct x)), (8, .cells (ct y)), (110, .arr 63 13 false ((mvGo l c x y seats q i).2.map sm))]) (fun i => i ≤ seats.length) (fun i => seats.length - i) (by kernel_rfl) ?_ ?_ ?_
    · simp
    · simp only [go_sem, ↓reduceIte, reduceCtorEq, Nat.reduceEqDiff, Nat.reduceAdd, Nat.reduceSub, Nat.reduceMul, Nat.reduceLT, Nat.reduceLeDiff, Int.reduceLT, Int.reduceLE, Int.reduceEq, Int.reduceNe, Int.reduceToNat, Int.reduceAdd, Int.reduceSub, Int.reduceMul, Int.natCast_zero, mvGo, List.map_nil, List.length_nil]
    · intro i hi
      have hgl := mvGo_len (l := l) (c := c) (x := x) (y := y) (seats := seats) (p := q) i
      have hgp := mvGo_le (l := l) (c := c) (x := x) (y := y) (seats := seats) hqe i
      by_cases h : i < seats.length
      · have hlt : (i : Int) < (seats.length : Int) := by omega
        have hst : mvGo l c x y seats q (i + 1) = mvStep l c x y (el seats i) (mvGo l c x y seats q i) := rfl
        generalize mvGo l c x y seats q i = S at *
        obtain ⟨r, o⟩ := S
        simp only at hgl hgp
        have hr1 := dgo_le hgp 1
        have hr2 := dgo_le hgp 2
        have e0 : dpos l r = dgo l r 1 := rfl
        simp only [go_sem, ↓reduceIte, reduceCtorEq, Nat.reduceEqDiff, Nat.reduceAdd, Nat.reduceSub, Nat.reduceMul, Nat.reduceLT, Nat.reduceLeDiff, Int.reduceLT, Int.reduceLE, Int.reduceEq, Int.reduceNe, Int.reduceToNat, Int.reduceAdd, Int.reduceSub, Int.reduceMul, Int.natCast_zero, hlt, h]
        refine call (next_den l r 8 hl hgp (by omega)) [1000000] ?_
        by_cases n0 : dnext l r 8 = 0
        · have hst : mvGo l c x y seats q (i + 1) = (dgo l r 2, o ++ [vt (el seats i) (dnext l (dgo l r 1) 3) c y]) := by rw [hst, mvStep, if_pos n0]
          simp only [go_sem, ↓reduceIte, reduceCtorEq, Nat.reduceEqDiff, Nat.reduceAdd, Nat.reduceSub, Nat.reduceMul, Nat.reduceLT, Nat.reduceLeDiff, Int.reduceLT, Int.reduceLE, Int.reduceEq, Int.reduceNe, Int.reduceToNat, Int.reduceAdd, Int.reduceSub, Int.reduceMul, Int.natCast_zero, n0, e0, h]
          refine call (next_den l (dgo l r 1) 3 hl hr1 (by omega)) [1000000] ?_
          generalize dnext l (dgo l r 1) 3 = n at *
          have cw := cw (el seats i) n
          generalize vt (el seats i) n c y = s at *
          simp only [go_sem, ↓reduceIte, reduceCtorEq, Nat.reduceEqDiff, Nat.reduceAdd, Nat.reduceSub, Nat.reduceMul, Nat.reduceLT, Nat.reduceLeDiff, Int.reduceLT, Int.reduceLE, Int.reduceEq, Int.reduceNe, Int.reduceToNat, Int.reduceAdd, Int.reduceSub, Int.reduceMul, Int.natCast_zero, dgo_succ]
          refine call cw [] ?_
          simp only [go_sem, ↓reduceIte, reduceCtorEq, Nat.reduceEqDiff, Nat.reduceAdd, Nat.reduceSub, Nat.reduceMul, Nat.reduceLT, Nat.reduceLeDiff, Int.reduceLT, Int.reduceLE, Int.reduceEq, Int.reduceNe, Int.reduceToNat, Int.reduceAdd, Int.reduceSub, Int.reduceMul, Int.natCast_zero]
          refine ⟨by omega, okD_of (by kernel_rfl), i + 1, ⟨by omega, by omega⟩, ?_⟩
          rw [hst]
          exact ⟨⟨by simp, by rw [wrapI] <;> omega⟩, rfl, by rw [List.map_append]; rfl⟩
        by_cases n1 : dnext l r 8 = 1
        · have hst : mvGo l c x y seats q (i + 1) = (dgo l r 3, o ++ [vt (el seats i) (dnext l (dgo l r 1) 3) c x, vt (el seats i) (dnext l (dgo l r 2) 3) c y]) := by rw [hst, mvStep, if_neg n0, if_pos n1]
          simp only [go_sem, ↓reduceIte, reduceCtorEq, Nat.reduceEqDiff, Nat.reduceAdd, Nat.reduceSub, Nat.reduceMul, Nat.reduceLT, Nat.reduceLeDiff, Int.reduceLT, Int.reduceLE, Int.reduceEq, Int.reduceNe, Int.reduceToNat, Int.reduceAdd, Int.reduceSub, Int.reduceMul, Int.natCast_zero, n0, n1, e0, h]
          refine call (next_den l (dgo l r 1) 3 hl hr1 (by omega)) [1000000] ?_
          generalize dnext l (dgo l r 1) 3 = n at *
          have cv := cv (el seats i) n
          generalize vt (el seats i) n c x = s at *
          simp only [go_sem, ↓reduceIte, reduceCtorEq, Nat.reduceEqDiff, Nat.reduceAdd, Nat.reduceSub, Nat.reduceMul, Nat.reduceLT, Nat.reduceLeDiff, Int.reduceLT, Int.reduceLE, Int.reduceEq, Int.reduceNe, Int.reduceToNat, Int.reduceAdd, Int.reduceSub, Int.reduceMul, Int.natCast_zero, dgo_succ]
          refine call cv [] ?_
          simp only [go_sem, ↓reduceIte, reduceCtorEq, Nat.reduceEqDiff, Nat.reduceAdd, Nat.reduceSub, Nat.reduceMul, Nat.reduceLT, Nat.reduceLeDiff, Int.reduceLT, Int.reduceLE, Int.reduceEq, Int.reduceNe, Int.reduceToNat, Int.reduceAdd, Int.reduceSub, Int.reduceMul, Int.natCast_zero, h]
          refine call (next_den l (dgo l r 2) 3 hl hr2 (by omega)) [1000000] ?_
          generalize dnext l (dgo l r 2) 3 = n' at *
          have cw := cw (el seats i) n'
          generalize vt (el seats i) n' c y = s' at *
          simp only [go_sem, ↓reduceIte, reduceCtorEq, Nat.reduceEqDiff, Nat.reduceAdd, Nat.reduceSub, Nat.reduceMul, Nat.reduceLT, Nat.reduceLeDiff, Int.reduceLT, Int.reduceLE, Int.reduceEq, Int.reduceNe, Int.reduceToNat, Int.reduceAdd, Int.reduceSub, Int.reduceMul, Int.natCast_zero, dgo_succ]
          refine call cw [] ?_
          simp only [go_sem, ↓reduceIte, reduceCtorEq, Nat.reduceEqDiff, Nat.reduceAdd, Nat.reduceSub, Nat.reduceMul, Nat.reduceLT, Nat.reduceLeDiff, Int.reduceLT, Int.reduceLE, Int.reduceEq, Int.reduceNe, Int.reduceToNat, Int.reduceAdd, Int.reduceSub, Int.reduceMul, Int.natCast_zero]
          refine ⟨by omega, okD_of (by kernel_rfl), i + 1, ⟨by omega, by omega⟩, ?_⟩
          rw [hst]
          exact ⟨⟨by simp, by rw [wrapI] <;> omega⟩, rfl, by rw [List.map_append]; rfl⟩
        by_cases n2 : dnext l r 8 = 2
        · have hst : mvGo l c x y seats q (i + 1) = (dgo l r 2, o ++ [if dnext l (dgo l r 1) 2 = 1 then { vt (el seats i) 0 c x with sk := IntKind.i64.wrap ((vt (el seats i) 0 c x).sk + 1) } else vt (el seats i) 0 c x]) := by rw [hst, mvStep, if_neg n0, if_neg n1, if_pos n2]
          simp only [go_sem, ↓reduceIte, reduceCtorEq, Nat.reduceEqDiff, Nat.reduceAdd, Nat.reduceSub, Nat.reduceMul, Nat.reduceLT, Nat.reduceLeDiff, Int.reduceLT, Int.reduceLE, Int.reduceEq, Int.reduceNe, Int.reduceToNat, Int.reduceAdd, Int.reduceSub, Int.reduceMul, Int.natCast_zero, n0, n1, n2, e0, h]
          have cv := cv (el seats i) 0
          generalize vt (el seats i) 0 c x = s at *
          refine call cv [] ?_
          simp only [go_sem, ↓reduceIte, reduceCtorEq, Nat.reduceEqDiff, Nat.reduceAdd, Nat.reduceSub, Nat.reduceMul, Nat.reduceLT, Nat.reduceLeDiff, Int.reduceLT, Int.reduceLE, Int.reduceEq, Int.reduceNe, Int.reduceToNat, Int.reduceAdd, Int.reduceSub, Int.reduceMul, Int.natCast_zero]
          refine ⟨okD_of (by kernel_rfl), ?_⟩
          refine call (one_den l (dgo l r 1) 2 hl hr1 (by omega) (by omega)) [1000000] ?_
          cases hb : decide (dnext l (dgo l r 1) 2 = 2 - 1)
          · have hc : ¬ dnext l (dgo l r 1) 2 = 1 := of_decide_eq_false hb
            rw [if_neg hc] at hst
            simp only [go_sem, ↓reduceIte, reduceCtorEq, Nat.reduceEqDiff, Nat.reduceAdd, Nat.reduceSub, Nat.reduceMul, Nat.reduceLT, Nat.reduceLeDiff, Int.reduceLT, Int.reduceLE, Int.reduceEq, Int.reduceNe, Int.reduceToNat, Int.reduceAdd, Int.reduceSub, Int.reduceMul, Int.natCast_zero, dgo_succ]
            refine ⟨by omega, i + 1, ⟨by omega, by omega⟩, ?_⟩
            rw [hst]
            exact ⟨⟨by simp, by rw [wrapI] <;> omega⟩, rfl, by rw [List.map_append]; rfl⟩
          · have hc : dnext l (dgo l r 1) 2 = 1 := of_decide_eq_true hb
            rw [if_pos hc] at hst
            simp only [go_sem, ↓reduceIte, reduceCtorEq, Nat.reduceEqDiff, Nat.reduceAdd, Nat.reduceSub, Nat.reduceMul, Nat.reduceLT, Nat.reduceLeDiff, Int.reduceLT, Int.reduceLE, Int.reduceEq, Int.reduceNe, Int.reduceToNat, Int.reduceAdd, Int.reduceSub, Int.reduceMul, Int.natCast_zero, dgo_succ]
            refine ⟨by omega, i + 1, ⟨by omega, by omega⟩, ?_⟩
            rw [hst]
            exact ⟨⟨by simp, by rw [wrapI] <;> omega⟩, rfl, by rw [List.map_append]; rfl⟩
        by_cases n3 : dnext l r 8 = 3
        · have hst : mvGo l c x y seats q (i + 1) = (dgo l r 1, o) := by rw [hst, mvStep, if_neg n0, if_neg n1, if_neg n2, if_pos n3]
          simp only [go_sem, ↓reduceIte, reduceCtorEq, Nat.reduceEqDiff, Nat.reduceAdd, Nat.reduceSub, Nat.reduceMul, Nat.reduceLT, Nat.reduceLeDiff, Int.reduceLT, Int.reduceLE, Int.reduceEq, Int.reduceNe, Int.reduceToNat, Int.reduceAdd, Int.reduceSub, Int.reduceMul, Int.natCast_zero, n0, n1, n2, n3, e0]
          refine ⟨i + 1, ⟨by omega, by omega⟩, ?_⟩
          rw [hst]
          exact ⟨⟨rfl, by rw [wrapI] <;> omega⟩, rfl, rfl⟩
        · have hst : mvGo l c x y seats q (i + 1) = (dgo l r 2, o ++ [vt (el seats i) (dnext l (dgo l r 1) 3) c x]) := by rw [hst, mvStep, if_neg n0, if_neg n1, if_neg n2, if_neg n3]
          simp only [go_sem, ↓reduceIte, reduceCtorEq, Nat.reduceEqDiff, Nat.reduceAdd, Nat.reduceSub, Nat.reduceMul, Nat.reduceLT, Nat.reduceLeDiff, Int.reduceLT, Int.reduceLE, Int.reduceEq, Int.reduceNe, Int.reduceToNat, Int.reduceAdd, Int.reduceSub, Int.reduceMul, Int.natCast_zero, n0, n1, n2, n3, e0, h]
          refine call (next_den l (dgo l r 1) 3 hl hr1 (by omega)) [1000000] ?_
          generalize dnext l (dgo l r 1) 3 = n at *
          have cv := cv (el seats i) n
          generalize vt (el seats i) n c x = s at *
          simp only [go_sem, ↓reduceIte, reduceCtorEq, Nat.reduceEqDiff, Nat.reduceAdd, Nat.reduceSub, Nat.reduceMul, Nat.reduceLT, Nat.reduceLeDiff, Int.reduceLT, Int.reduceLE, Int.reduceEq, Int.reduceNe, Int.reduceToNat, Int.reduceAdd, Int.reduceSub, Int.reduceMul, Int.natCast_zero, dgo_succ]
          refine call cv [] ?_
          simp only [go_sem, ↓reduceIte, reduceCtorEq, Nat.reduceEqDiff, Nat.reduceAdd, Nat.reduceSub, Nat.reduceMul, Nat.reduceLT, Nat.reduceLeDiff, Int.reduceLT, Int.reduceLE, Int.reduceEq, Int.reduceNe, Int.reduceToNat, Int.reduceAdd, Int.reduceSub, Int.reduceMul, Int.natCast_zero]
          refine ⟨by omega, okD_of (by kernel_rfl), i + 1, ⟨by omega, by omega⟩, ?_⟩
          rw [hst]
          exact ⟨⟨by simp, by rw [wrapI] <;> omega⟩, rfl, by rw [List.map_append]; rfl⟩
      · have hm2 : i = seats.length := by omega
        subst hm2
        have hc : ¬ (seats.length : Int) < (seats.length : Int) := by omega
        generalize mvGo l c x y seats q seats.length = S at *
        obtain ⟨r, o⟩ := S
        simp only at hgl hgp hm
        simp only [go_sem, ↓reduceIte, reduceCtorEq, Nat.reduceEqDiff, Nat.reduceAdd, Nat.reduceSub, Nat.reduceMul, Nat.reduceLT, Nat.reduceLeDiff, Int.reduceLT, Int.reduceLE, Int.reduceEq, Int.reduceNe, Int.reduceToNat, Int.reduceAdd, Int.reduceSub, Int.reduceMul, Int.natCast_zero, hc]
        refine call (one_den l r 4 hl hgp (by omega) (by omega)) [1000000] ?_
        have e0 : dpos l r = dgo l r 1 := rfl
        have hr1 := dgo_le hgp 1
        cases hb : decide (dnext l r 4 = 4 - 1)
        · have hc : ¬ dnext l r 4 = 3 := of_decide_eq_false hb
          rw [if_neg hc] at hm
          subst hm
          simp only [go_sem, ↓reduceIte, reduceCtorEq, Nat.reduceEqDiff, Nat.reduceAdd, Nat.reduceSub, Nat.reduceMul, Nat.reduceLT, Nat.reduceLeDiff, Int.reduceLT, Int.reduceLE, Int.reduceEq, Int.reduceNe, Int.reduceToNat, Int.reduceAdd, Int.reduceSub, Int.reduceMul, Int.natCast_zero, e0]
        · have hc : dnext l r 4 = 3 := of_decide_eq_true hb
          rw [if_pos hc] at hm
          subst hm
          simp only [go_sem, ↓reduceIte, reduceCtorEq, Nat.reduceEqDiff, Nat.reduceAdd, Nat.reduceSub, Nat.reduceMul, Nat.reduceLT, Nat.reduceLeDiff, Int.reduceLT, Int.reduceLE, Int.reduceEq, Int.reduceNe, Int.reduceToNat, Int.reduceAdd, Int.reduceSub, Int.reduceMul, Int.natCast_zero, e0]
          refine call (next_den l (dgo l r 1) 9 hl hr1 (by omega)) [1000000] ?_
          generalize dnext l (dgo l r 1) 9 = n at *
          have cv := cv n 0
          generalize vt n 0 c x = s at *
          simp only [go_sem, ↓reduceIte, reduceCtorEq, Nat.reduceEqDiff, Nat.reduceAdd, Nat.reduceSub, Nat.reduceMul, Nat.reduceLT, Nat.reduceLeDiff, Int.reduceLT, Int.reduceLE, Int.reduceEq, Int.reduceNe, Int.reduceToNat, Int.reduceAdd, Int.reduceSub, Int.reduceMul, Int.natCast_zero, dgo_succ]
          refine call cv [] ?_
          simp only [go_sem, ↓reduceIte, reduceCtorEq, Nat.reduceEqDiff, Nat.reduceAdd, Nat.reduceSub, Nat.reduceMul, Nat.reduceLT, Nat.reduceLeDiff, Int.reduceLT, Int.reduceLE, Int.reduceEq, Int.reduceNe, Int.reduceToNat, Int.reduceAdd, Int.reduceSub, Int.reduceMul, Int.natCast_zero]
          exact ⟨by omega, okD_of (by kernel_rfl), by rw [List.map_append]; rfl⟩
  · simp only [go_sem, ↓reduceIte, reduceCtorEq, Nat.reduceEqDiff, Nat.reduceAdd, Nat.reduceSub, Nat.reduceMul, Nat.reduceLT, Nat.reduceLeDiff, Int.reduceLT, Int.reduceLE, Int.reduceEq, Int.reduceNe, Int.reduceToNat, Int.reduceAdd, Int.reduceSub, Int.reduceMul, Int.natCast_zero]
  · simp only [go_sem, ↓reduceIte, reduceCtorEq, Nat.reduceEqDiff, Nat.reduceAdd, Nat.reduceSub, Nat.reduceMul, Nat.reduceLT, Nat.reduceLeDiff, Int.reduceLT, Int.reduceLE, Int.reduceEq, Int.reduceNe, Int.reduceToNat, Int.reduceAdd, Int.reduceSub, Int.reduceMul, Int.natCast_zero]
end Go.Proofs.Am
