/- The mill's votes are not too long; all functions agree with the document. -/
import Derived.Test.YtabmciccahfjiaaGreatDoorEThree
import Derived.Test.YtabmciccahfjiaaGreatDoorDEight
import Derived.Test.YtabmciccahfjiaaGreatDoorLOne
import Derived.Test.YtabmciccahfjiaaGreatDoorCThree
set_option linter.unusedSimpArgs false
set_option linter.unusedVariables false
namespace Go.Proofs.Am
open Go Go.RowKit
open Go.Proofs

theorem vt_okS (k nu : Int) (c : Cs) {x : Ct} (hx : okCt x) : okS (vt k nu c x) := stmt_okB _ _ _ _ (vdraft_ok c x hx)
theorem mvStep_okS {l : List Int} {c : Cs} {x y : Ct} {k : Int} {st : Nat × List Stm} (hx : okCt x) (hy : okCt y) (h : ∀ s ∈ st.2, okS s) : ∀ s ∈ (mvStep l c x y k st).2, okS s := by
  intro s hs
  unfold mvStep at hs
  split at hs
  · rcases List.mem_append.1 hs with hs | hs
    · exact h s hs
    · rw [List.mem_singleton] at hs; subst hs; exact vt_okS _ _ _ hy
  · split at hs
    · rcases List.mem_append.1 hs with hs | hs
      · exact h s hs
      · rcases List.mem_cons.1 hs with rfl | hs
        · exact vt_okS _ _ _ hx
        · rw [List.mem_singleton] at hs; subst hs; exact vt_okS _ _ _ hy
    · split at hs
      · rcases List.mem_append.1 hs with hs | hs
        · exact h s hs
        · rw [List.mem_singleton] at hs
          subst hs
          split
          · have := vt_okS k 0 c hx; exact this
          · exact vt_okS _ _ _ hx
      · split at hs
        · exact h s hs
        · rcases List.mem_append.1 hs with hs | hs
          · exact h s hs
          · rw [List.mem_singleton] at hs; subst hs; exact vt_okS _ _ _ hx
theorem mvGo_okS {l : List Int} {c : Cs} {x y : Ct} {seats : List Int} {p : Nat} (hx : okCt x) (hy : okCt y) : ∀ i, ∀ s ∈ (mvGo l c x y seats p i).2, okS s
  | 0 => by simp [mvGo]
  | i + 1 => mvStep_okS hx hy (mvGo_okS hx hy i)
theorem mvotes_okS (l : List Int) (p : Nat) (c : Cs) (seats : List Int) : ∀ s ∈ (mvotes l p c seats).1, okS s := by
  have h := mvGo_okS (l := l) (c := c) (seats := seats) (p := (mcont l (mcont l p c).2 c).2) (mcont_ok l p c) (mcont_ok l (mcont l p c).2 c) seats.length
  unfold mvotes
  split
  · intro s hs
    rcases List.mem_append.1 hs with hs | hs
    · exact h s hs
    · rw [List.mem_singleton] at hs; subst hs; exact vt_okS _ _ _ (mcont_ok l p c)
  · exact h
theorem dkpos_le2 (l : List Int) (n p : Nat) (hp : p ≤ l.length) : dkpos l n p ≤ l.length := by
  unfold dkpos
  split
  · exact dpos_le (dskip_le l n p hp)
  · exact dskip_le l n p hp
theorem dkeys_le (l : List Int) (n p : Nat) : (dkeys l n p).length ≤ n + 1 := by
  unfold dkeys
  split
  · simp
  · have := dsome_len l n 0 p; omega

end Go.Proofs.Am

/- Plain laws of votes, cases and counts. -/
namespace Go.Proofs.Am
open Go Go.RowKit
open Go.Proofs

theorem mem_rawV {l : List Stm} {c : Cs} {v : Vt} : v ∈ rawV l c l.length ↔ ∃ s ∈ l, okV c s = true ∧ (voteE s).1 = v := by
  simp only [rawV, List.take_length, List.mem_map, List.mem_filter]
  constructor
  · rintro ⟨s, ⟨h1, h2⟩, h3⟩; exact ⟨s, h1, h2, h3⟩
  · rintro ⟨s, h1, h2, h3⟩; exact ⟨s, ⟨h1, h2⟩, h3⟩
theorem mem_votesL {l : List Stm} {c : Cs} {v : Vt} : v ∈ votesL l c ↔ ∃ s ∈ l, okV c s = true ∧ (voteE s).1 = v := by rw [(votes_ss l c).2, mem_rawV]
theorem votes_len (l : List Stm) (c : Cs) : (votesL l c).length ≤ l.length := by
  rw [votes_eq]
  exact (refV_ok (c := c) l.length (Nat.le_refl _)).1
theorem votes_okX {l : List Stm} {c : Cs} : ∀ y ∈ votesL l c, okX y.x := fun y hy => by
  obtain ⟨s, _, _, rfl⟩ := mem_votesL.1 hy
  exact okX_vote s
theorem Rvote_mem {seats : List Int} {v : List Vt} {x : Ct} {k : Int} : Rvote seats v v.length x k ↔ k ∈ seats ∧ ∃ y ∈ v, y.x = x ∧ y.k = k := by
  unfold Rvote
  refine and_congr_right fun _ => ?_
  constructor
  · rintro ⟨a, h1, h2, h3⟩; exact ⟨el v a, el_mem h1, h2, h3⟩
  · rintro ⟨y, hy, h2, h3⟩
    obtain ⟨a, ha, rfl⟩ := List.mem_iff_getElem.1 hy
    exact ⟨a, ha, by simpa [el, List.getD_eq_getElem?_getD, ha] using h2, by simpa [el, List.getD_eq_getElem?_getD, ha] using h3⟩
theorem cnR_spec (seats : List Int) (v : List Vt) : CnSpec (Rvote seats v v.length) (cnR seats v) := cnI_spec seats v v.length (Nat.le_refl _)
theorem cnR_none (seats : List Int) : cnR seats [] = [] := rfl
/-- Votes of others change nothing. -/
theorem cnR_own {seats : List Int} {a : List Vt} : cnR seats (a.filter fun y => decide (y.k ∈ seats)) = cnR seats a := by
  refine cn_ext (cnR_spec seats _) ⟨(cnR_spec seats a).r1, (cnR_spec seats a).r2, fun x k => ?_, (cnR_spec seats a).r4⟩
  rw [(cnR_spec seats a).r3, Rvote_mem, Rvote_mem]
  refine and_congr_right fun hk => ?_
  constructor
  · rintro ⟨y, hy, h2, h3⟩; exact ⟨y, List.mem_filter.2 ⟨hy, by rw [h3]; simpa using hk⟩, h2, h3⟩
  · rintro ⟨y, hy, h2, h3⟩; exact ⟨y, (List.mem_filter.1 hy).1, h2, h3⟩

def sumK (o : List Cn) : Nat := (o.map fun n => n.ks.length).sum
theorem putI_new : ∀ {l : List Int} {k : Int}, k ∉ l → (putI l k).length = l.length + 1
  | [], k, _ => by simp [putI]
  | a :: l, k, h => by
    have ih := putI_new (l := l) (k := k) fun h' => h (by simp [h'])
    simp only [putI]
    split
    · simp [ih]
    · rw [if_neg (fun e => h (by simp [e]))]
      simp
theorem insC_sum : ∀ {o : List Cn} {y : Vt}, (∀ n ∈ o, n.x = y.x → y.k ∉ n.ks) → sumK (insC o y) = sumK o + 1
  | [], y, _ => by simp [insC, sumK]
  | n :: r, y, h => by
    have ih := insC_sum (o := r) (y := y) fun m hm => h m (by simp [hm])
    unfold sumK at ih ⊢
    simp only [insC]
    split
    · simp only [List.map_cons, List.sum_cons, ih]; omega
    · split
      · rename_i h1 h2
        simp only [List.map_cons, List.sum_cons, putI_new (h n (by simp) h2)]; omega
      · simp; omega
theorem cnR_sum {seats : List Int} {W : List Vt} {c : Cs} (hs : SS ltV W) : ∀ i, i ≤ W.length → sumK (cnI seats W i) = ((W.take i).filter fun y => decide (y.k ∈ seats)).length
  | 0, _ => by simp [cnI, sumK]
  | i + 1, hi => by
    have ih := cnR_sum (c := c) (seats := seats) hs i (by omega)
    have hlt : i < W.length := by omega
    rw [cnI_succ hlt, take_el hlt, List.filter_append, List.length_append, ← ih]
    by_cases hk : (el W i).k ∈ seats
    · rw [if_pos hk, insC_sum fun n hn hx hkk => ?_]
      · simp [hk]
      · obtain ⟨_, a, h1, h2, h3⟩ := ((cnI_spec seats W i (by omega)).r3 (el W i).x (el W i).k).1 ⟨n, hn, hx, hkk⟩
        have hl : ltV (el W a) (el W i) = true := by
          have := List.pairwise_iff_getElem.1 hs a i (by omega) hlt h1
          simpa [el, List.getD_eq_getElem?_getD, hlt, show a < W.length by omega] using this
        have hl2 := of_decide_eq_true hl
        simp only [cmpV, h2, h3] at hl2
        exact absurd hl2 (to_V.irr ((el W i).k, (el W i).x))
    · rw [if_neg hk]
      simp [hk]
end Go.Proofs.Am

/- The mill's votes as a slice of the caller's own. -/
namespace Go.Proofs.Am
open Go Go.RowKit
open Go.Proofs

end Go.Proofs.Am
