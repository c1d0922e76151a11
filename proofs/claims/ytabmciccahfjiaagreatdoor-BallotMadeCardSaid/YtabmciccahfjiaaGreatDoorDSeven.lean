/- The votes of statements in a case: sorting. -/
import Derived.Test.YtabmciccahfjiaaGreatDoorDThree
import Derived.Test.YtabmciccahfjiaaGreatDoorDSix
set_option linter.unusedSimpArgs false
set_option linter.unusedVariables false
namespace Go.Proofs.Am
open Go Go.RowKit
open Go.Proofs

def srtV (l : List Vt) : List Vt := l.mergeSort fun a b => !decide (cmpV b a < 0)
theorem to_V : TO (fun p q : Int × Ct => or2 (cmpI p.1 q.1) (ordC p.2 q.2)) := to_pair to_cmpI to_ordC
theorem sortV_den (l : List Vt) (hl : l.length < 4611686018427387904) (hb : ∀ n ∈ l, bigC n.x) (hd : ∀ a ∈ l, ∀ b ∈ l, a.c = b.c) :
    Den Tryz.prog 48 [.os 1000000 l.length, .fn 45 []] [.arr 31 7 false (l.map vt7)] (.tup []) [] [.arr 31 7 false ((srtV l).map vt7)] := by
  refine den_sort (F := vt7) (cf := cmpV) (enters_of Tryz.func48 (by kernel_rfl) rfl) hl
    (fun m enc hk h1 c hO b cap d w hcmp hH hblk hsz => AnyQ.slices_SortFunc Tryz.sortVote 7 (fun _ => by kernel_rfl) (fun _ => by kernel_rfl) enc hk h1 c hO _ _ b 0 cap d w (enters_of Tryz.func45 (by kernel_rfl) rfl) hcmp hH hblk hsz)
    (fun p cap fv w => AnyF.slices_SortFunc_none Tryz.sortVote p cap fv w)
    (fun x hx y hy => cmpV_den x y (hb x hx) (hb y hy)) (fun x _ => to_V.irr (x.k, x.x)) (fun x _ y _ z _ => to_V.tr (x.k, x.x) (y.k, y.x) (z.k, z.x)) (fun x _ y _ z _ => to_V.nt (x.k, x.x) (y.k, y.x) (z.k, z.x)) (fun x hx y hy h1 h2 => ?_) (List.mergeSort_perm _ _) ?_
  · have hc := hd x hx y hy
    have e : (x.k, x.x) = (y.k, y.x) := by
      by_cases e : cmpV x y = 0
      · exact (to_V.eq (x.k, x.x) (y.k, y.x)).1 e
      · have := (to_V.flip (y.k, y.x) (x.k, x.x)).2 (by simp only [cmpV] at e h1; simp only; omega)
        exact absurd this h2
    cases x
    cases y
    simp only [Prod.mk.injEq] at e
    simp only at hc
    simp [e, hc]
  · have := List.pairwise_mergeSort (le := fun a b : Vt => !decide (cmpV b a < 0)) (fun a b c h1 h2 => ?_) (fun a b => ?_) l
    · exact this.imp fun h => by simpa using h
    · simp only [Bool.not_eq_true', decide_eq_false_iff_not] at h1 h2 ⊢
      exact to_V.nt (c.k, c.x) (b.k, b.x) (a.k, a.x) h2 h1
    · simp only [Bool.or_eq_true, Bool.not_eq_true', decide_eq_false_iff_not]
      by_cases h : cmpV b a < 0
      · have := (to_V.flip (b.k, b.x) (a.k, a.x)).1 h
        refine .inr ?_
        simp only [cmpV]
        simp only at this
        omega
      · exact .inl h
end Go.Proofs.Am

/- ballot.Votes, where no vote is there twice. -/
namespace Go.Proofs.Am
open Go Go.RowKit
open Go.Proofs

set_option maxHeartbeats 1000000 in
set_option maxRecDepth 100000 in
theorem votesD_den (l : List Stm) (c : Cs) (hl : l.length ≤ 1000000) (hs : ∀ s ∈ l, okS s) (hd : ∀ i, 0 < i → i < (rawV l c l.length).length → cmpV (el (srtV (rawV l c l.length)) i) (el (srtV (rawV l c l.length)) (i - 1)) ≠ 0) :
    Den Tryz.prog 20 [.vs (l.map sm), .agg (cs c)] [] (.vs ((srtV (rawV l c l.length)).map vt7)) [] [] := by
  refine den_of Tryz.mixed Tryz.func20 rfl Tryz.call20 Tryz.ntmps20 (congrArg Array.toList Tryz.results20) (by simp) (by kernel_rfl) [] (exts := []) rfl rfl ?_
  simp only [go_sem]
  refine promote 5 99 31 7 false ?_ ?_ ?_ (by omega)
  · refine loop Tryz.mixed 0 (fun i : Nat => [(11, .vs (l.map sm)), (12, .int .i64 l.length), (13, .int .i64 i), (3, .ptr 3 0), (5, .os 99 (rawV l c i).length)]) (fun i => [(3, .cells [.int .i64 c.ep, .int .i64 c.kd, .int .i64 c.su, .int .i64 c.ro]), (99, .arr 31 7 false ((rawV l c i).map vt7))]) (fun i => i ≤ l.length) (fun i => l.length - i) (by kernel_rfl) (Nat.zero_le _) ?_ ?_
    · simp only [go_sem]
      exact ⟨rfl, rfl⟩
    · intro i hi
      by_cases hlt : i < l.length
      · have h1 : (i : Int) < (l.length : Int) := by omega
        have hsu := rawV_succ (c := c) hlt
        have hrl := rawV_len l c i
        have hv := vote_den1 (el l i) (hs _ (el_mem hlt))
        rw [sm_eq] at hv
        generalize rawV l c i = o at *
        generalize hve : voteE (el l i) = ve at *
        obtain ⟨w, b⟩ := ve
        simp only [okV, hve] at hsu
        simp only [go_sem, h1, hlt]
        refine call hv [] ?_
        cases b with
        | false =>
          simp only [go_sem]
          refine ⟨i + 1, ⟨by omega, by omega⟩, ?_⟩
          rw [hsu]
          simp only [Bool.false_and, Bool.false_eq_true, if_false, List.append_nil]
          simp only [go_sem]
          rw [wrapI] <;> omega
        | true =>
          have hce : (w.c = c) ↔ (w.c.ep = c.ep ∧ w.c.kd = c.kd ∧ w.c.su = c.su ∧ w.c.ro = c.ro) := by
            cases hw : w.c
            cases c
            simp
          simp only [go_sem]
          refine ⟨fun h => ⟨by omega, i + 1, ⟨by omega, by omega⟩, ?_⟩, fun h => ⟨i + 1, ⟨by omega, by omega⟩, ?_⟩⟩
          · rw [hsu]
            simp only [hce.2 h, decide_true, Bool.and_self, if_true]
            exact ⟨⟨by rw [wrapI] <;> omega, by simp⟩, by simp [vt7, hce.2 h]⟩
          · have hn : ¬ w.c = c := fun e => by
              have := hce.1 e
              simp [this] at h
            rw [hsu]
            simp only [hn, decide_false, Bool.and_false, Bool.false_eq_true, if_false, List.append_nil]
            exact ⟨⟨by rw [wrapI] <;> omega, trivial⟩, trivial⟩
      · have h1 : ¬ (i : Int) < (l.length : Int) := by omega
        have : i = l.length := by omega
        subst this
        simp only [go_sem, h1]
        have hrl := rawV_len l c l.length
        have hrb : ∀ a ∈ rawV l c l.length, bigC a.x := fun a ha => by
          obtain ⟨s, _, rfl⟩ := List.mem_map.1 ha
          exact okCt_big voteE_ok
        have hrc : ∀ a ∈ rawV l c l.length, a.c = c := fun a ha => by
          obtain ⟨s, hs', rfl⟩ := List.mem_map.1 ha
          have := (List.mem_filter.1 hs').2
          simp only [okV, Bool.and_eq_true, decide_eq_true_eq] at this
          exact this.2
        generalize rawV l c l.length = o at *
        refine call (sortV_den o (by omega) hrb (fun a ha b hb => (hrc a ha).trans (hrc b hb).symm)) [99] ?_
        have hsl : (srtV o).length = o.length := List.length_mergeSort _
        simp only [go_sem, hsl]
        have hcc := compactV_den (srtV o) (by simp only [big]; omega) (fun a ha => hrb a ((List.mergeSort_perm _ _).mem_iff.1 ha)) (fun i h3 h4 => hd i h3 (by rw [← hsl]; exact h4))
        rw [hsl] at hcc
        refine ⟨Nat.le_refl _, ?_⟩
        refine call hcc [99, 10] ?_
        simp only [go_sem, hsl]
        exact Nat.le_refl _
  · simp only [go_sem]
  · simp only [go_sem]
end Go.Proofs.Am

/- The example of the chapter on ballots. -/
namespace Go.Proofs.Am
open Go Go.RowKit
open Go.Proofs

def cA : Cs := ⟨0, 3, 4, 0⟩
def yesA : Ct := ⟨[1], []⟩
def noA : Ct := ⟨[0], []⟩
theorem voteE_of {s : Stm} {v : Vt} (h1 : checkE s = 0) (h2 : s.kd = 10 ∧ s.body = []) (h3 : rightB (mkV s).c (mkV s).x = true) (h4 : mkV s = v) (h5 : s.sk = s.au ∧ s.sd = dig s) : voteE s = (v, true) := by
  have : ofE s = (v, 0) := by rw [ofE, if_neg (by simp [h1]), if_pos ⟨h2.1, h2.2, h3⟩, h4]
  simp only [voteE, this, h5]
  simp
theorem sealed_stmt (au nu ti : Int) (d : Drf) : (stmt au nu ti d).sk = (stmt au nu ti d).au ∧ (stmt au nu ti d).sd = dig (stmt au nu ti d) := ⟨rfl, rfl⟩
theorem v1 : voteE (vt 2 0 cA yesA) = (⟨2, cA, yesA⟩, true) := voteE_of (by kernel_rfl) ⟨by kernel_rfl, by kernel_rfl⟩ (by kernel_rfl) (by kernel_rfl) (sealed_stmt _ _ _ _)
theorem v2 : voteE (vt 1 0 cA yesA) = (⟨1, cA, yesA⟩, true) := voteE_of (by kernel_rfl) ⟨by kernel_rfl, by kernel_rfl⟩ (by kernel_rfl) (by kernel_rfl) (sealed_stmt _ _ _ _)
theorem v3 : voteE (vt 2 1 cA noA) = (⟨2, cA, noA⟩, true) := voteE_of (by kernel_rfl) ⟨by kernel_rfl, by kernel_rfl⟩ (by kernel_rfl) (by kernel_rfl) (sealed_stmt _ _ _ _)
end Go.Proofs.Am
