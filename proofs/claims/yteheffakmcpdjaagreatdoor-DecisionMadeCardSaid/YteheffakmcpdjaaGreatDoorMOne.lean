/- The example of the chapter on decisions. -/
import Derived.Test.YteheffakmcpdjaaGreatDoorHThree
set_option linter.unusedSimpArgs false
set_option linter.unusedVariables false
namespace Go.Proofs.Am
open Go Go.RowKit
open Go.Proofs

def LB : List Stm := [vt 0 0 cA yesA, vt 1 0 cA yesA, vt 2 0 cA yesA, vt 3 0 cA yesA]
def VB : List Vt := [⟨0, cA, yesA⟩, ⟨1, cA, yesA⟩, ⟨2, cA, yesA⟩, ⟨3, cA, yesA⟩]
theorem vb0 : voteE (vt 0 0 cA yesA) = (⟨0, cA, yesA⟩, true) := voteE_of (by kernel_rfl) ⟨by kernel_rfl, by kernel_rfl⟩ (by kernel_rfl) (by kernel_rfl) (sealed_stmt _ _ _ _)
theorem vb1 : voteE (vt 1 0 cA yesA) = (⟨1, cA, yesA⟩, true) := voteE_of (by kernel_rfl) ⟨by kernel_rfl, by kernel_rfl⟩ (by kernel_rfl) (by kernel_rfl) (sealed_stmt _ _ _ _)
theorem vb2 : voteE (vt 2 0 cA yesA) = (⟨2, cA, yesA⟩, true) := voteE_of (by kernel_rfl) ⟨by kernel_rfl, by kernel_rfl⟩ (by kernel_rfl) (by kernel_rfl) (sealed_stmt _ _ _ _)
theorem vb3 : voteE (vt 3 0 cA yesA) = (⟨3, cA, yesA⟩, true) := voteE_of (by kernel_rfl) ⟨by kernel_rfl, by kernel_rfl⟩ (by kernel_rfl) (by kernel_rfl) (sealed_stmt _ _ _ _)
theorem mem_LB {n : Nat} {y : Vt} : (∃ s ∈ LB.take n, okV cA s = true ∧ (voteE s).1 = y) ↔ y ∈ VB.take n := by
  have hm : (VB.take n) = (LB.take n).map fun s => (voteE s).1 := by
    rw [List.map_take]
    simp only [LB, VB, List.map_cons, List.map_nil, vb0, vb1, vb2, vb3]
  have ho : ∀ s ∈ LB, okV cA s = true := by
    intro s hs
    simp only [LB, List.mem_cons, List.not_mem_nil, or_false] at hs
    rcases hs with rfl | rfl | rfl | rfl
    · simp [okV, vb0]
    · simp [okV, vb1]
    · simp [okV, vb2]
    · simp [okV, vb3]
  rw [hm, List.mem_map]
  constructor
  · rintro ⟨s, h1, _, h3⟩; exact ⟨s, h1, h3⟩
  · rintro ⟨s, h1, h3⟩; exact ⟨s, h1, ho s (List.mem_of_mem_take h1), h3⟩
theorem votes_LB (n : Nat) : votesL (LB.take n) cA = VB.take n := by
  have hs : SS ltV VB := by unfold SS; decide
  refine (ko_V cA).ss_eq (votes_ss (LB.take n) cA).1 (List.Pairwise.take hs) fun y => ?_
  rw [mem_votesL, mem_LB]
theorem all_LB : allV [3, 1, 0, 2] VB = [yesA] := by decide
theorem all_LB3 : allV [3, 1, 0, 2] (VB.take 3) = [] := by decide
theorem okS_LB : ∀ s ∈ LB, bigS s := by
  have hd : okDr (vdraft cA yesA).1 := vdraft_ok _ _ ⟨by decide, by decide⟩
  intro s hs
  simp only [LB, List.mem_cons, List.not_mem_nil, or_false] at hs
  rcases hs with rfl | rfl | rfl | rfl
  · exact (stmt_okB 0 0 1 _ hd).big
  · exact (stmt_okB 1 0 1 _ hd).big
  · exact (stmt_okB 2 0 1 _ hd).big
  · exact (stmt_okB 3 0 1 _ hd).big
set_option maxHeartbeats 1000000 in
set_option maxRecDepth 100000 in
theorem awake28_den : Den Tryz.prog 10 [] [] (.bool true) [] [] := by
  refine den_of Tryz.mixed Tryz.func10 rfl Tryz.call10 Tryz.ntmps10 (congrArg Array.toList Tryz.results10) (by simp) (by kernel_rfl) [] (exts := []) rfl rfl ?_
  have c1 := vote_den 0 0 cA yesA ⟨by decide, by decide⟩
  have c2 := vote_den 1 0 cA yesA ⟨by decide, by decide⟩
  have c3 := vote_den 2 0 cA yesA ⟨by decide, by decide⟩
  have c4 := vote_den 3 0 cA yesA ⟨by decide, by decide⟩
  have hz : ckS cA [3, 1, 0, 2] = 0 := by decide
  have c5 := dof_den LB cA [3, 1, 0, 2] (by decide) okS_LB (by decide) [yesA] (by
    have := votes_LB 4
    rw [if_pos hz, show LB = LB.take 4 from rfl, this]
    exact all_LB.symm) (by decide)
  have c6 := dof_den (LB.take 3) cA [3, 1, 0, 2] (by decide) (fun s hs => okS_LB s (List.mem_of_mem_take hs)) (by decide) [] (by rw [if_pos hz, votes_LB]; exact all_LB3.symm) (by decide)
  rw [hz] at c5 c6
  rw [show (LB.take 3).map sm = [sm (vt 0 0 cA yesA), sm (vt 1 0 cA yesA), sm (vt 2 0 cA yesA)] from rfl] at c6
  rw [show LB.map sm = [sm (vt 0 0 cA yesA), sm (vt 1 0 cA yesA), sm (vt 2 0 cA yesA), sm (vt 3 0 cA yesA)] from rfl] at c5
  rw [show cs cA = [.int .i64 0, .int .i64 3, .int .i64 4, .int .i64 0] from rfl, show [(3 : Int), 1, 0, 2].map i1 = [i1 3, i1 1, i1 0, i1 2] from rfl] at c5 c6
  rw [show ct (oneC [yesA]) = [.vs [i1 1], .vs []] from rfl, show decide ([yesA].length = 1) = true from rfl] at c5
  rw [show ct (oneC []) = [.vs [], .vs []] from rfl, show decide (([] : List Ct).length = 1) = false from rfl] at c6
  rw [show cs cA = [.int .i64 0, .int .i64 3, .int .i64 4, .int .i64 0] from rfl, show ct yesA = [.vs [i1 1], .vs []] from rfl] at c1 c2 c3 c4
  generalize vt 0 0 cA yesA = s1 at *
  generalize vt 1 0 cA yesA = s2 at *
  generalize vt 2 0 cA yesA = s3 at *
  generalize vt 3 0 cA yesA = s4 at *
  rw [sm_eq] at c1 c2 c3 c4
  rw [sm_eq s1, sm_eq s2, sm_eq s3, sm_eq s4] at c5
  rw [sm_eq s1, sm_eq s2, sm_eq s3] at c6
  simp only [go_sem]
  refine call c1 [] ?_
  simp only [go_sem]
  refine call c2 [] ?_
  simp only [go_sem]
  refine call c3 [] ?_
  simp only [go_sem]
  refine call c4 [] ?_
  simp only [go_sem]
  refine ⟨okD_of (by kernel_rfl), ?_⟩
  refine call c5 [] ?_
  simp only [go_sem]
  refine call c6 [] ?_
  simp only [go_sem]
  exact okD_of (by kernel_rfl)
end Go.Proofs.Am

/- The mill's seats and cases are right. -/
namespace Go.Proofs.Am
open Go Go.RowKit
open Go.Proofs

theorem dkeys_ne (l : List Int) (n p : Nat) : dkeys l n p ≠ [] := by
  unfold dkeys
  split
  · simp
  · rename_i h
    exact fun e => h (by rw [e]; rfl)
theorem dkeys_max (l : List Int) {n : Nat} (hn : 0 < n) (p : Nat) : (dkeys l n p).length ≤ n := by
  unfold dkeys
  split
  · simp; omega
  · exact dsome_len l n 0 p
theorem allV_ok {seats : List Int} {l : List Stm} {c : Cs} : ∀ x ∈ allV seats (votesL l c), bigC x := fun x hx => by
  obtain ⟨n, hn, rfl, he⟩ := mem_allV.1 hx
  have hk : n.ks ≠ [] := (cnR_spec seats (votesL l c)).r4 n hn
  obtain ⟨k, r, hk⟩ := List.exists_cons_of_ne_nil hk
  obtain ⟨_, y, hy, e, _⟩ := ks_vote hn (k := k) (by rw [hk]; simp)
  rw [← e]
  exact okCt_big (votes_okX y hy).1
end Go.Proofs.Am

/- DecisionUnion, walked. -/
namespace Go.Proofs.Am
open Go Go.RowKit
open Go.Proofs

/-- Votes of seats, nearly all for one content. -/
def mostGo (l : List Int) (c : Cs) (x : Ct) (seats : List Int) (p : Nat) : Nat → Nat × List Stm
  | 0 => (p, [])
  | i + 1 => if dnext l (mostGo l c x seats p i).1 7 = 6 then (dgo l (mostGo l c x seats p i).1 1, (mostGo l c x seats p i).2) else (dgo l (mostGo l c x seats p i).1 2, (mostGo l c x seats p i).2 ++ [vt (el seats i) (dnext l (dgo l (mostGo l c x seats p i).1 1) 3) c x])
theorem mostGo_le {l : List Int} {c : Cs} {x : Ct} {seats : List Int} {p : Nat} (hp : p ≤ l.length) : ∀ i, (mostGo l c x seats p i).1 ≤ l.length
  | 0 => hp
  | i + 1 => by
    simp only [mostGo]
    split <;> exact dgo_le (mostGo_le hp i) _
theorem mostGo_len {l : List Int} {c : Cs} {x : Ct} {seats : List Int} {p : Nat} : ∀ i, (mostGo l c x seats p i).2.length ≤ i
  | 0 => Nat.le_refl _
  | i + 1 => by
    have ih := mostGo_len (l := l) (c := c) (x := x) (seats := seats) (p := p) i
    simp only [mostGo]
    split
    · simp only; omega
    · simp; omega
theorem mostGo_ok {l : List Int} {c : Cs} {x : Ct} {seats : List Int} {p : Nat} (hx : okCt x) : ∀ i, ∀ s ∈ (mostGo l c x seats p i).2, okS s
  | 0 => by simp [mostGo]
  | i + 1 => by
    have ih := mostGo_ok (l := l) (c := c) (seats := seats) (p := p) hx i
    simp only [mostGo]
    split
    · exact ih
    · intro s hs
      rcases List.mem_append.1 hs with hs | hs
      · exact ih s hs
      · rw [List.mem_singleton] at hs; subst hs; exact vt_okS _ _ _ hx
def mostX (l : List Int) (p : Nat) (c : Cs) (seats : List Int) : Nat × List Stm := mostGo l c (mcont l p c).1 seats (mcont l p c).2 seats.length
def mostP (l : List Int) (p : Nat) (c : Cs) (seats : List Int) : Nat := dgo l (mvotes l (mostX l p c seats).1 c seats).2 1
/-- The votes of others, one after the other. -/
def extX (l : List Int) (c : Cs) (p : Nat) : Nat → Nat × List Stm
  | 0 => (p, [])
  | i + 1 => ((mcont l (extX l c p i).1 c).2, (extX l c p i).2 ++ [vt (20 + (i : Int)) 0 c (mcont l (extX l c p i).1 c).1])
end Go.Proofs.Am
