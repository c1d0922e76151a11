/- MOne. -/
import Derived.Test.YtdfieogkeinkmaaGreatDoorHOne
set_option linter.unusedSimpArgs false
set_option linter.unusedVariables false
namespace Go.Proofs.Am
open Go Go.RowKit
open Go.Proofs
def LB : List Stm := [vt 0 0 cA yesA, vt 1 0 cA yesA, vt 2 0 cA yesA, vt 3 0 cA yesA]
def VB : List Vt := [⟨0, cA, yesA⟩, ⟨1, cA, yesA⟩, ⟨2, cA, yesA⟩, ⟨3, cA, yesA⟩]
theorem vb0 : voteE (vt 0 0 cA yesA) = (⟨0, cA, yesA⟩, true) := voteE_of (by kernel_rfl) ⟨by kernel_rfl, by kernel_rfl⟩ (by kernel_rfl) (by kernel_rfl) (sealed_stmt _ _ _ _)
theorem vb1 : voteE (vt 1 0 cA yesA) = (⟨1, cA, yesA⟩, true) := voteE_of (by kernel_rfl) ⟨by kernel_rfl, by kernel_rfl⟩ (by kernel_rfl) (by kernel_rfl) (sealed_stmt _ _ _ _)
theorem vb2 : voteE (vt 2 0 cA yesA) = (⟨2, cA, yesA⟩, true) := voteE_of (by kernel_rfl) ⟨by kernel_rfl, by kernel_rfl⟩ (by kernel_rfl) (by kernel_rfl) (sealed_stmt _ _ _ _)
theorem vb3 : voteE (vt 3 0 cA yesA) = (⟨3, cA, yesA⟩, true) := voteE_of (by kernel_rfl) ⟨by kernel_rfl, by kernel_rfl⟩ (by kernel_rfl) (by kernel_rfl) (sealed_stmt _ _ _ _)
theorem mem_LB {n : Nat} {y : Vt} : (∃ s ∈ LB.take n, okV cA s = true ∧ (voteE s).1 = y) ↔ y ∈ VB.take n := by
  have hm : (VB.take n) = (LB.take n).map fun s => (voteE s).1 := by
    rw [List.map_take]
    simp only [LB, VB, List.map_cons, List.map_nil, vb0, vb1, vb2, vb3]
  have ho : ∀ s ∈ LB, okV cA s = true := by
    intro s hs
    simp only [LB, List.mem_cons, List.not_mem_nil, or_false] at hs
    rcases hs with rfl | rfl | rfl | rfl
    · simp [okV, vb0]
    · simp [okV, vb1]
    · simp [okV, vb2]
    · simp [okV, vb3]
  rw [hm, List.mem_map]
  constructor
  · rintro ⟨s, h1, _, h3⟩; exact ⟨s, h1, h3⟩
  · rintro ⟨s, h1, h3⟩; exact ⟨s, h1, ho s (List.mem_of_mem_take h1), h3⟩
theorem votes_LB (n : Nat) : votesL (LB.take n) cA = VB.take n := by
  have hs : SS ltV VB := by unfold SS; decide
  refine (ko_V cA).ss_eq (votes_ss (LB.take n) cA).1 (List.Pairwise.take hs) fun y => ?_
  rw [mem_votesL, mem_LB]
theorem all_LB : allV [3, 1, 0, 2] VB = [yesA] := by decide
theorem all_LB3 : allV [3, 1, 0, 2] (VB.take 3) = [] := by decide
theorem okS_LB : ∀ s ∈ LB, bigS s := by
  have hd : okDr (vdraft cA yesA).1 := vdraft_ok _ _ ⟨by decide, by decide⟩
  intro s hs
  simp only [LB, List.mem_cons, List.not_mem_nil, or_false] at hs
  rcases hs with rfl | rfl | rfl | rfl
  · exact (stmt_okB 0 0 1 _ hd).big
  · exact (stmt_okB 1 0 1 _ hd).big
  · exact (stmt_okB 2 0 1 _ hd).big
  · exact (stmt_okB 3 0 1 _ hd).big
set_option maxHeartbeats 1000000 in
set_option maxRecDepth 100000 in
theorem awake28_den : Den Tryz.prog 10 [] [] (.bool true) [] [] := by
  refine den_of Tryz.mixed Tryz.func10 rfl Tryz.call10 Tryz.ntmps10 (congrArg Array.toList Tryz.results10) (by simp) (by kernel_rfl) [] (exts := []) rfl rfl ?_
  have c1 := vote_den 0 0 cA yesA ⟨by decide, by decide⟩
  have c2 := vote_den 1 0 cA yesA ⟨by decide, by decide⟩
  have c3 := vote_den 2 0 cA yesA ⟨by decide, by decide⟩
  have c4 := vote_den 3 0 cA yesA ⟨by decide, by decide⟩
  have hz : ckS cA [3, 1, 0, 2] = 0 := by decide
  have c5 := dof_den LB cA [3, 1, 0, 2] (by decide) okS_LB (by decide) [yesA] (by
    have := votes_LB 4
    rw [if_pos hz, show LB = LB.take 4 from rfl, this]
    exact all_LB.symm) (by decide)
  have c6 := dof_den (LB.take 3) cA [3, 1, 0, 2] (by decide) (fun s hs => okS_LB s (List.mem_of_mem_take hs)) (by decide) [] (by rw [if_pos hz, votes_LB]; exact all_LB3.symm) (by decide)
  rw [hz] at c5 c6
  rw [show (LB.take 3).map sm = [sm (vt 0 0 cA yesA), sm (vt 1 0 cA yesA), sm (vt 2 0 cA yesA)] from rfl] at c6
  rw [show LB.map sm = [sm (vt 0 0 cA yesA), sm (vt 1 0 cA yesA), sm (vt 2 0 cA yesA), sm (vt 3 0 cA yesA)] from rfl] at c5
  rw [show cs cA = [.int .i64 0, .int .i64 3, .int .i64 4, .int .i64 0] from rfl, show [(3 : Int), 1, 0, 2].map i1 = [i1 3, i1 1, i1 0, i1 2] from rfl] at c5 c6
  rw [show ct (oneC [yesA]) = [.vs [i1 1], .vs []] from rfl, show decide ([yesA].length = 1) = true from rfl] at c5
  rw [show ct (oneC []) = [.vs [], .vs []] from rfl, show decide (([] : List Ct).length = 1) = false from rfl] at c6
  rw [show cs cA = [.int .i64 0, .int .i64 3, .int .i64 4, .int .i64 0] from rfl, show ct yesA = [.vs [i1 1], .vs []] from rfl] at c1 c2 c3 c4
  generalize vt 0 0 cA yesA = s1 at *
  generalize vt 1 0 cA yesA = s2 at *
  generalize vt 2 0 cA yesA = s3 at *
  generalize vt 3 0 cA yesA = s4 at *
  rw [sm_eq] at c1 c2 c3 c4
  rw [sm_eq s1, sm_eq s2, sm_eq s3, sm_eq s4] at c5
  rw [sm_eq s1, sm_eq s2, sm_eq s3] at c6
  simp only [go_sem]
  refine call c1 [] ?_
  simp only [go_sem]
  refine call c2 [] ?_
  simp only [go_sem]
  refine call c3 [] ?_
  simp only [go_sem]
  refine call c4 [] ?_
  simp only [go_sem]
  refine ⟨okD_of (by kernel_rfl), ?_⟩
  refine call c5 [] ?_
  simp only [go_sem]
  refine call c6 [] ?_
  simp only [go_sem]
  exact okD_of (by kernel_rfl)
end Go.Proofs.Am

/- The mill's seats and cases are right. -/
namespace Go.Proofs.Am
open Go Go.RowKit
open Go.Proofs
theorem dkeys_ne (l : List Int) (n p : Nat) : dkeys l n p ≠ [] := by
  unfold dkeys
  split
  · simp
  · rename_i h
    exact fun e => h (by rw [e]; rfl)
theorem dkeys_max (l : List Int) {n : Nat} (hn : 0 < n) (p : Nat) : (dkeys l n p).length ≤ n := by
  unfold dkeys
  split
  · simp; omega
  · exact dsome_len l n 0 p
end Go.Proofs.Am

/- DecisionUnion, walked. -/
namespace Go.Proofs.Am
open Go Go.RowKit
open Go.Proofs
end Go.Proofs.Am
