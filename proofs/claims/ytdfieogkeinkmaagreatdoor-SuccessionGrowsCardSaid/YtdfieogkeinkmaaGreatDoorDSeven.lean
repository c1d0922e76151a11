/- The votes of statements in a case: sorting. -/
import Derived.Test.YtdfieogkeinkmaaGreatDoorDThree
import Derived.Test.YtdfieogkeinkmaaGreatDoorDSix
set_option linter.unusedSimpArgs false
set_option linter.unusedVariables false
namespace Go.Proofs.Am
open Go Go.RowKit
open Go.Proofs

def srtV (l : List Vt) : List Vt := l.mergeSort fun a b => !decide (cmpV b a < 0)
theorem to_V : TO (fun p q : Int × Ct => or2 (cmpI p.1 q.1) (ordC p.2 q.2)) := to_pair to_cmpI to_ordC
theorem sortV_den (l : List Vt) (hl : l.length < 4611686018427387904) (hb : ∀ n ∈ l, bigC n.x) (hd : ∀ a ∈ l, ∀ b ∈ l, a.c = b.c) :
    Den Tryz.prog 167 [.os 1000000 l.length, .fn 166 []] [.arr 108 7 false (l.map vt7)] (.tup []) [] [.arr 108 7 false ((srtV l).map vt7)] := by
  refine den_sort (F := vt7) (cf := cmpV) (enters_of Tryz.func167 (by kernel_rfl) rfl) hl
    (fun m enc hk h1 c hO b cap d w hcmp hH hblk hsz => AnyQ.slices_SortFunc Tryz.sortVote 7 (fun _ => by kernel_rfl) (fun _ => by kernel_rfl) enc hk h1 c hO _ _ b 0 cap d w (enters_of Tryz.func166 (by kernel_rfl) rfl) hcmp hH hblk hsz)
    (fun p cap fv w => AnyF.slices_SortFunc_none Tryz.sortVote p cap fv w)
    (fun x hx y hy => cmpV_den x y (hb x hx) (hb y hy)) (fun x _ => to_V.irr (x.k, x.x)) (fun x _ y _ z _ => to_V.tr (x.k, x.x) (y.k, y.x) (z.k, z.x)) (fun x _ y _ z _ => to_V.nt (x.k, x.x) (y.k, y.x) (z.k, z.x)) (fun x hx y hy h1 h2 => ?_) (List.mergeSort_perm _ _) ?_
  · have hc := hd x hx y hy
    have e : (x.k, x.x) = (y.k, y.x) := by
      by_cases e : cmpV x y = 0
      · exact (to_V.eq (x.k, x.x) (y.k, y.x)).1 e
      · have := (to_V.flip (y.k, y.x) (x.k, x.x)).2 (by simp only [cmpV] at e h1; simp only; omega)
        exact absurd this h2
    cases x
    cases y
    simp only [Prod.mk.injEq] at e
    simp only at hc
    simp [e, hc]
  · have := List.pairwise_mergeSort (le := fun a b : Vt => !decide (cmpV b a < 0)) (fun a b c h1 h2 => ?_) (fun a b => ?_) l
    · exact this.imp fun h => by simpa using h
    · simp only [Bool.not_eq_true', decide_eq_false_iff_not] at h1 h2 ⊢
      exact to_V.nt (c.k, c.x) (b.k, b.x) (a.k, a.x) h2 h1
    · simp only [Bool.or_eq_true, Bool.not_eq_true', decide_eq_false_iff_not]
      by_cases h : cmpV b a < 0
      · have := (to_V.flip (b.k, b.x) (a.k, a.x)).1 h
        refine .inr ?_
        simp only [cmpV]
        simp only at this
        omega
      · exact .inl h
end Go.Proofs.Am

/- ballot.Votes, where no vote is there twice. -/
namespace Go.Proofs.Am
open Go Go.RowKit
open Go.Proofs

end Go.Proofs.Am

/- The example of the chapter on ballots. -/
namespace Go.Proofs.Am
open Go Go.RowKit
open Go.Proofs

def cA : Cs := ⟨0, 3, 4, 0⟩
def yesA : Ct := ⟨[1], []⟩
def noA : Ct := ⟨[0], []⟩
theorem voteE_of {s : Stm} {v : Vt} (h1 : checkE s = 0) (h2 : s.kd = 10 ∧ s.body = []) (h3 : rightB (mkV s).c (mkV s).x = true) (h4 : mkV s = v) (h5 : s.sk = s.au ∧ s.sd = dig s) : voteE s = (v, true) := by
  have : ofE s = (v, 0) := by rw [ofE, if_neg (by simp [h1]), if_pos ⟨h2.1, h2.2, h3⟩, h4]
  simp only [voteE, this, h5]
  simp
theorem sealed_stmt (au nu ti : Int) (d : Drf) : (stmt au nu ti d).sk = (stmt au nu ti d).au ∧ (stmt au nu ti d).sd = dig (stmt au nu ti d) := ⟨rfl, rfl⟩
theorem v1 : voteE (vt 2 0 cA yesA) = (⟨2, cA, yesA⟩, true) := voteE_of (by kernel_rfl) ⟨by kernel_rfl, by kernel_rfl⟩ (by kernel_rfl) (by kernel_rfl) (sealed_stmt _ _ _ _)
theorem v2 : voteE (vt 1 0 cA yesA) = (⟨1, cA, yesA⟩, true) := voteE_of (by kernel_rfl) ⟨by kernel_rfl, by kernel_rfl⟩ (by kernel_rfl) (by kernel_rfl) (sealed_stmt _ _ _ _)
theorem v3 : voteE (vt 2 1 cA noA) = (⟨2, cA, noA⟩, true) := voteE_of (by kernel_rfl) ⟨by kernel_rfl, by kernel_rfl⟩ (by kernel_rfl) (by kernel_rfl) (sealed_stmt _ _ _ _)
end Go.Proofs.Am
