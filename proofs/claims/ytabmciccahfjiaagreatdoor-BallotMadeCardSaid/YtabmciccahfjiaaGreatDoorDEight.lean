/- The example of the chapter on ballots, walked; BallotRaw, walked. -/
import Derived.Test.YtabmciccahfjiaaGreatDoorLOne
set_option linter.unusedSimpArgs false
set_option linter.unusedVariables false
namespace Go.Proofs.Am
open Go Go.RowKit
open Go.Proofs

def LA : List Stm := [vt 2 0 cA yesA, vt 1 0 cA yesA, vt 2 1 cA noA]
def V0 : List Vt := [⟨2, cA, yesA⟩, ⟨1, cA, yesA⟩, ⟨2, cA, noA⟩]
def V1 : List Vt := [⟨1, cA, yesA⟩, ⟨2, cA, noA⟩, ⟨2, cA, yesA⟩]
theorem raw_LA : rawV LA cA LA.length = V0 := by
  unfold rawV LA
  simp [okV, v1, v2, v3, V0]
theorem srt_V0 : srtV V0 = V1 := by
  have hc : ∀ a ∈ V0, ∀ b ∈ V0, a.c = b.c := by decide
  have hp : V1.Perm V0 := by decide
  have hs : V1.Pairwise fun a b => ¬ cmpV b a < 0 := by decide
  have h1 : (srtV V0).Pairwise fun a b => ¬ cmpV b a < 0 := by
    have := List.pairwise_mergeSort (le := fun a b : Vt => !decide (cmpV b a < 0)) (fun a b c h1 h2 => by
      simp only [Bool.not_eq_true', decide_eq_false_iff_not] at h1 h2 ⊢
      exact to_V.nt (c.k, c.x) (b.k, b.x) (a.k, a.x) h2 h1) (fun a b => by
      simp only [Bool.or_eq_true, Bool.not_eq_true', decide_eq_false_iff_not]
      by_cases h : cmpV b a < 0
      · have := (to_V.flip (b.k, b.x) (a.k, a.x)).1 h
        refine .inr ?_
        simp only [cmpV]
        simp only at this
        omega
      · exact .inl h) V0
    exact this.imp fun h => by simpa using h
  refine List.Perm.eq_of_pairwise (le := fun a b => ¬ cmpV b a < 0) (fun a b ha hb h2 h3 => ?_) h1 hs ((List.mergeSort_perm _ _).trans hp.symm)
  have ha' : a ∈ V0 := (List.mergeSort_perm _ _).mem_iff.1 ha
  have hb' : b ∈ V0 := hp.mem_iff.1 hb
  have h4 := hc a ha' b hb'
  have e : (a.k, a.x) = (b.k, b.x) := by
    by_cases e : cmpV a b = 0
    · exact (to_V.eq (a.k, a.x) (b.k, b.x)).1 e
    · have := (to_V.flip (b.k, b.x) (a.k, a.x)).2 (by simp only [cmpV] at e h3; simp only; omega)
      exact absurd this h2
  cases a
  cases b
  simp only [Prod.mk.injEq] at e
  simp only at h4
  simp [e, h4]
theorem ok_V1 : ∀ y ∈ V1, okX y.x := by
  intro y hy
  simp only [V1, List.mem_cons, List.not_mem_nil, or_false] at hy
  rcases hy with rfl | rfl | rfl <;> exact ⟨⟨by decide, by decide⟩, by decide, by decide⟩
theorem cn_V1 : cnC [2, 3] V1 = [⟨noA, [2]⟩, ⟨yesA, [2]⟩] := by rw [cn_same' ok_V1]; decide
theorem tw_V1 : twC V1 = [2] := by rw [tw_same]; decide
theorem stmt_okB (k nu ti : Int) (d : Drf) (hd : okDr d) : okS (stmt k nu ti d) := by
  obtain ⟨h1, h2⟩ := hd
  have hxp := flat_ge d.pins
  have hp : (if 0 < nu then List.replicate 32 (0 : UInt8) else []).length ≤ 32 := by split <;> simp
  show okS (sealS _)
  simp only [sealS, okS, stB, pre2, pre1, hdB, List.length_append, beL_len, be8_len, txB_len, l5, List.length_cons, List.length_nil]
  omega
theorem okS_LA : ∀ s ∈ LA, okS s := by
  have hd : okDr (vdraft cA yesA).1 := vdraft_ok _ _ ⟨by decide, by decide⟩
  have hd2 : okDr (vdraft cA noA).1 := vdraft_ok _ _ ⟨by decide, by decide⟩
  intro s hs
  simp only [LA, List.mem_cons, List.not_mem_nil, or_false] at hs
  rcases hs with rfl | rfl | rfl
  · exact stmt_okB 2 0 1 _ hd
  · exact stmt_okB 1 0 1 _ hd
  · exact stmt_okB 2 1 1 _ hd2
theorem votes_LA : Den Tryz.prog 20 [.vs (LA.map sm), .agg (cs cA)] [] (.vs (V1.map vt7)) [] [] := by
  have h := votesD_den LA cA (by decide) okS_LA (by
    rw [raw_LA, srt_V0]
    intro i h1 h2
    have : i = 1 ∨ i = 2 := by simp [V0] at h2; omega
    rcases this with rfl | rfl <;> decide)
  rwa [raw_LA, srt_V0] at h
end Go.Proofs.Am

/- BallotRaw, walked. -/
namespace Go.Proofs.Am
open Go Go.RowKit
open Go.Proofs

set_option maxHeartbeats 1000000 in
set_option maxRecDepth 100000 in
theorem awake27_den : Den Tryz.prog 8 [] [] (.bool true) [] [] := by
  refine den_of Tryz.mixed Tryz.func8 rfl Tryz.call8 Tryz.ntmps8 (congrArg Array.toList Tryz.results8) (by simp) (by kernel_rfl) [] (exts := []) rfl rfl ?_
  have c1 := vote_den 2 0 cA yesA ⟨by decide, by decide⟩
  have c2 := vote_den 1 0 cA yesA ⟨by decide, by decide⟩
  have c3 := vote_den 2 1 cA noA ⟨by decide, by decide⟩
  have c4 := votes_LA
  have c5 := cn_den V1 [2, 3] (by decide) (by decide) ok_V1
  have c6 := twC_den V1 (by decide) (fun y hy => (ok_V1 y hy).1)
  rw [cn_V1] at c5
  rw [tw_V1] at c6
  rw [show V1.map vt7 = [[.int .i64 1, .int .i64 0, .int .i64 3, .int .i64 4, .int .i64 0, .vs [i1 1], .vs []], [.int .i64 2, .int .i64 0, .int .i64 3, .int .i64 4, .int .i64 0, .vs [i1 0], .vs []], [.int .i64 2, .int .i64 0, .int .i64 3, .int .i64 4, .int .i64 0, .vs [i1 1], .vs []]] from rfl] at c4 c5 c6
  rw [show LA.map sm = [sm (vt 2 0 cA yesA), sm (vt 1 0 cA yesA), sm (vt 2 1 cA noA)] from rfl, show cs cA = [.int .i64 0, .int .i64 3, .int .i64 4, .int .i64 0] from rfl] at c4
  rw [show cs cA = [.int .i64 0, .int .i64 3, .int .i64 4, .int .i64 0] from rfl, show ct yesA = [.vs [i1 1], .vs []] from rfl] at c1 c2
  rw [show cs cA = [.int .i64 0, .int .i64 3, .int .i64 4, .int .i64 0] from rfl, show ct noA = [.vs [i1 0], .vs []] from rfl] at c3
  rw [show [(2 : Int), 3].map i1 = [i1 2, i1 3] from rfl, show List.map cn3 [⟨noA, [2]⟩, ⟨yesA, [2]⟩] = [[.vs [i1 0], .vs [], .vs [i1 2]], [.vs [i1 1], .vs [], .vs [i1 2]]] from rfl] at c5
  rw [show [(2 : Int)].map i1 = [i1 2] from rfl] at c6
  generalize vt 2 0 cA yesA = s1 at *
  generalize vt 1 0 cA yesA = s2 at *
  generalize vt 2 1 cA noA = s3 at *
  rw [sm_eq] at c1 c2 c3
  rw [sm_eq s1, sm_eq s2, sm_eq s3] at c4
  simp only [go_sem]
  refine call c1 [] ?_
  simp only [go_sem]
  refine call c2 [] ?_
  simp only [go_sem]
  refine call c3 [] ?_
  simp only [go_sem]
  refine call c4 [] ?_
  simp only [go_sem]
  refine ⟨okD_of (by kernel_rfl), ?_⟩
  refine call c5 [] ?_
  simp only [go_sem]
  refine call c6 [] ?_
  simp only [go_sem]

end Go.Proofs.Am
