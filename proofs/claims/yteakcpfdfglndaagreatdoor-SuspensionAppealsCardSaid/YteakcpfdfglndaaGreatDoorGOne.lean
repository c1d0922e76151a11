/- GOne. -/
import Derived.Test.YteakcpfdfglndaaGreatDoorDSix
import Derived.Test.YteakcpfdfglndaaGreatDoorZOne
import Derived.Test.YteakcpfdfglndaaGreatDoorEOne
set_option linter.unusedSimpArgs false
set_option linter.unusedVariables false
namespace Go.Proofs.Am
open Go Go.RowKit
open Go.Proofs
end Go.Proofs.Am

/- What is decided: plain laws. -/
namespace Go.Proofs.Am
open Go Go.RowKit
open Go.Proofs
def enoB (v s : Nat) : Bool := decide (1 ≤ s ∧ s ≤ 9 ∧ v ≤ s ∧ 3 * s < 4 * v)
def allV (seats : List Int) (v : List Vt) : List Ct := ((cnR seats v).filter fun n => enoB n.ks.length seats.length).map Cn.x
theorem mem_allV {seats : List Int} {v : List Vt} {x : Ct} : x ∈ allV seats v ↔ ∃ n ∈ cnR seats v, n.x = x ∧ enoB n.ks.length seats.length = true := by
 simp only [allV, List.mem_map, List.mem_filter]
 constructor
 ·rintro ⟨n, ⟨h1, h2⟩, h3⟩; exact ⟨n, h1, h3, h2⟩
 ·rintro ⟨n, h1, h3, h2⟩; exact ⟨n, ⟨h1, h2⟩, h3⟩
theorem ks_nodup {seats : List Int} {v : List Vt} {n : Cn} (h : n ∈ cnR seats v) : n.ks.Nodup := ((cnR_spec seats v).r2 n h).imp fun h => by omega
theorem ks_vote {seats : List Int} {v : List Vt} {n : Cn} (h : n ∈ cnR seats v) {k : Int} (hk : k ∈ n.ks) : k ∈ seats ∧ ∃ y ∈ v, y.x = n.x ∧ y.k = k := Rvote_mem.1 (((cnR_spec seats v).r3 n.x k).1 ⟨n, h, rfl, hk⟩)
theorem ks_len {seats : List Int} {v : List Vt} {n : Cn} (h : n ∈ cnR seats v) : n.ks.length ≤ seats.length := len_sub (ks_nodup h) fun _ hk => (ks_vote h hk).1
theorem enoB_mono {a b s : Nat} (h : enoB a s = true) (hab : a ≤ b) (hb : b ≤ s) : enoB b s = true := by
 simp only [enoB, decide_eq_true_eq] at h ⊢
 omega
theorem allV_of {seats K : List Int} {v : List Vt} {u : Ct} (hK : K.Nodup) (h : ∀ k ∈ K, k ∈ seats ∧ ∃ y ∈ v, y.x = u ∧ y.k = k) (he : enoB K.length seats.length = true) : u ∈ allV seats v := by
 cases K with
 | nil => simp [enoB] at he
 | cons k r =>
  obtain ⟨n, hn, hx, _⟩ := ((cnR_spec seats v).r3 u k).2 (Rvote_mem.2 (h k (by simp)))
  refine mem_allV.2 ⟨n, hn, hx, enoB_mono he (len_sub hK fun j hj => ?_) (ks_len hn)⟩
  obtain ⟨m, hm, hx', hj'⟩ := ((cnR_spec seats v).r3 u j).2 (Rvote_mem.2 (h j hj))
  rw [cn_uniq (cnR_spec seats v).r1 n hn m hm (hx.trans hx'.symm)]
  exact hj'
theorem allV_nodup (seats : List Int) (v : List Vt) : (allV seats v).Nodup := by
 have h := (cnR_spec seats v).r1
 refine List.Pairwise.map Cn.x (R := fun a b : Cn => ordC a.x b.x < 0) (fun a b hab e => ?_) (List.Pairwise.filter _ h)
 rw [e] at hab
 exact to_ordC.irr _ hab
theorem allV_own {seats : List Int} {a b : List Vt} (h : (a.filter fun y => decide (y.k ∈ seats)) = b.filter fun y => decide (y.k ∈ seats)) : allV seats a = allV seats b := by
 unfold allV
 rw [← cnR_own (a := a), ← cnR_own (a := b), h]
end Go.Proofs.Am

/- Certificates: plain laws. -/
namespace Go.Proofs.Am
open Go Go.RowKit
open Go.Proofs
theorem okV_mk {c : Cs} {s : Stm} (h : okV c s = true) : (voteE s).1 = mkV s ∧ (mkV s).c = c := by
 have h1 : (voteE s).2 = true := by
  unfold okV at h
  exact (Bool.and_eq_true_iff.1 h).1
 have h2 : (voteE s).1.c = c := by
  unfold okV at h
  exact of_decide_eq_true (Bool.and_eq_true_iff.1 h).2
 have h3 : (ofE s).2 = 0 := by
  unfold voteE at h1
  exact of_decide_eq_true (Bool.and_eq_true_iff.1 h1).1
 have h4 : (voteE s).1 = mkV s := by
  show (ofE s).1 = _
  unfold ofE at h3 ⊢
  split
  ·rename_i h5
   rw [if_pos h5] at h3
   exact absurd h3 h5
  ·rename_i h5
   rw [if_neg h5] at h3
   split
   ·rfl
   ·rename_i h6
    rw [if_neg h6] at h3
    cases h3
 exact ⟨h4, h4 ▸ h2⟩
theorem okV_k {c : Cs} {s : Stm} (h : okV c s = true) : (voteE s).1.k = s.au := by rw [(okV_mk h).1]; rfl
end Go.Proofs.Am

/- Which certificates are right: plain laws. -/
namespace Go.Proofs.Am
open Go Go.RowKit
open Go.Proofs
structure ChkP (c : Cs) (l : List Stm) (seats : List Int) (x : Ct) : Prop where
 ok : ∀ s ∈ l, okV c s = true ∧ s.au ∈ seats ∧ (voteE s).1.x = x
 up : l.Pairwise fun a b => a.au < b.au
 en : enoB l.length seats.length = true
end Go.Proofs.Am

/- Statements of others; certificates of a minority of liars. -/
namespace Go.Proofs.Am
open Go Go.RowKit
open Go.Proofs
theorem votes_extra {a e : List Stm} {c : Cs} {seats : List Int} (h : ∀ s ∈ e, okV c s = true → s.au ∉ seats) : ((votesL (a ++ e) c).filter fun y => decide (y.k ∈ seats)) = (votesL a c).filter fun y => decide (y.k ∈ seats) := by
 refine (ko_V c).ss_eq (List.Pairwise.filter _ (votes_ss (a ++ e) c).1) (List.Pairwise.filter _ (votes_ss a c).1) fun y => ?_
 rw [List.mem_filter, List.mem_filter, mem_votesL, mem_votesL]
 constructor
 ·rintro ⟨⟨s, h1, h2, rfl⟩, h3⟩
  refine ⟨⟨s, ?_, h2, rfl⟩, h3⟩
  rcases List.mem_append.1 h1 with h1 | h1
  ·exact h1
  ·rw [okV_k h2] at h3
   exact absurd (of_decide_eq_true h3) (h s h1 h2)
 ·rintro ⟨⟨s, h1, h2, rfl⟩, h3⟩
  exact ⟨⟨s, List.mem_append.2 (.inl h1), h2, rfl⟩, h3⟩
theorem all_extra {a e : List Stm} {c : Cs} {seats : List Int} (h : ∀ s ∈ e, okV c s = true → s.au ∉ seats) : allV seats (votesL (a ++ e) c) = allV seats (votesL a c) := allV_own (votes_extra h)
end Go.Proofs.Am
