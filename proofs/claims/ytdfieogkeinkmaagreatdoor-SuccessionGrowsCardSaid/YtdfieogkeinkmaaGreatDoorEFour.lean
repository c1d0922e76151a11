/- The mill's votes are not too long; all functions agree with the document. -/
import Derived.Test.YtdfieogkeinkmaaGreatDoorEThree
import Derived.Test.YtdfieogkeinkmaaGreatDoorDEight
import Derived.Test.YtdfieogkeinkmaaGreatDoorLOne
import Derived.Test.YtdfieogkeinkmaaGreatDoorCThree
set_option linter.unusedSimpArgs false
set_option linter.unusedVariables false
namespace Go.Proofs.Am
open Go Go.RowKit
open Go.Proofs

theorem vt_okS (k nu : Int) (c : Cs) {x : Ct} (hx : okCt x) : okS (vt k nu c x) := stmt_okB _ _ _ _ (vdraft_ok c x hx)
end Go.Proofs.Am

/- Plain laws of votes, cases and counts. -/
namespace Go.Proofs.Am
open Go Go.RowKit
open Go.Proofs

theorem mem_rawV {l : List Stm} {c : Cs} {v : Vt} : v ∈ rawV l c l.length ↔ ∃ s ∈ l, okV c s = true ∧ (voteE s).1 = v := by
  simp only [rawV, List.take_length, List.mem_map, List.mem_filter]
  constructor
  · rintro ⟨s, ⟨h1, h2⟩, h3⟩; exact ⟨s, h1, h2, h3⟩
  · rintro ⟨s, h1, h2, h3⟩; exact ⟨s, ⟨h1, h2⟩, h3⟩
theorem mem_votesL {l : List Stm} {c : Cs} {v : Vt} : v ∈ votesL l c ↔ ∃ s ∈ l, okV c s = true ∧ (voteE s).1 = v := by rw [(votes_ss l c).2, mem_rawV]
theorem votes_same {l m : List Stm} (c : Cs) (h : ∀ s, s ∈ l ↔ s ∈ m) : votesL l c = votesL m c := by
  refine (ko_V c).ss_eq (votes_ss l c).1 (votes_ss m c).1 fun x => ?_
  rw [mem_votesL, mem_votesL]
  constructor
  · rintro ⟨s, h1, h2⟩; exact ⟨s, (h s).1 h1, h2⟩
  · rintro ⟨s, h1, h2⟩; exact ⟨s, (h s).2 h1, h2⟩
theorem votes_len (l : List Stm) (c : Cs) : (votesL l c).length ≤ l.length := by
  rw [votes_eq]
  exact (refV_ok (c := c) l.length (Nat.le_refl _)).1
theorem votes_okX {l : List Stm} {c : Cs} : ∀ y ∈ votesL l c, okX y.x := fun y hy => by
  obtain ⟨s, _, _, rfl⟩ := mem_votesL.1 hy
  exact okX_vote s
theorem turnS_mem {l : List Stm} {n : Int} {s : Stm} (h : s ∈ turnS l n) : s ∈ l := by
  unfold turnS at h
  obtain ⟨i, hi, rfl⟩ := List.mem_map.1 h
  have := List.mem_range.1 hi
  exact el_mem (Nat.mod_lt _ (by omega))

theorem len_sub {l m : List Int} (hl : l.Nodup) (h : ∀ x ∈ l, x ∈ m) : l.length ≤ m.length := by
  induction l generalizing m with
  | nil => simp
  | cons a r ih =>
    obtain ⟨h1, h2⟩ := List.nodup_cons.1 hl
    have ha := h a (by simp)
    have := ih (m := m.erase a) h2 fun x hx => (List.mem_erase_of_ne (fun e : x = a => h1 (by rw [← e]; exact hx))).2 (h x (by simp [hx]))
    rw [List.length_erase_of_mem ha] at this
    have := List.length_pos_of_mem ha
    simp only [List.length_cons]
    omega

theorem Rvote_mem {seats : List Int} {v : List Vt} {x : Ct} {k : Int} : Rvote seats v v.length x k ↔ k ∈ seats ∧ ∃ y ∈ v, y.x = x ∧ y.k = k := by
  unfold Rvote
  refine and_congr_right fun _ => ?_
  constructor
  · rintro ⟨a, h1, h2, h3⟩; exact ⟨el v a, el_mem h1, h2, h3⟩
  · rintro ⟨y, hy, h2, h3⟩
    obtain ⟨a, ha, rfl⟩ := List.mem_iff_getElem.1 hy
    exact ⟨a, ha, by simpa [el, List.getD_eq_getElem?_getD, ha] using h2, by simpa [el, List.getD_eq_getElem?_getD, ha] using h3⟩
theorem cnR_spec (seats : List Int) (v : List Vt) : CnSpec (Rvote seats v v.length) (cnR seats v) := cnI_spec seats v v.length (Nat.le_refl _)
theorem cnR_none (seats : List Int) : cnR seats [] = [] := rfl
/-- With more votes no content has fewer seats. -/
theorem cnR_grow {seats : List Int} {a b : List Vt} (h : ∀ y ∈ a, y ∈ b) : ∀ n ∈ cnR seats a, (∃ m ∈ cnR seats b, m.x = n.x) ∧ ∀ m ∈ cnR seats b, m.x = n.x → n.ks.length ≤ m.ks.length := by
  intro n hn
  have sa := cnR_spec seats a
  have sb := cnR_spec seats b
  have step : ∀ k ∈ n.ks, ∃ m ∈ cnR seats b, m.x = n.x ∧ k ∈ m.ks := fun k hk => by
    obtain ⟨h1, y, hy, h2, h3⟩ := Rvote_mem.1 ((sa.r3 n.x k).1 ⟨n, hn, rfl, hk⟩)
    exact (sb.r3 n.x k).2 (Rvote_mem.2 ⟨h1, y, h y hy, h2, h3⟩)
  refine ⟨?_, fun m hm hx => len_sub ((sa.r2 n hn).imp fun h => by omega) fun k hk => ?_⟩
  · obtain ⟨k, r, hk⟩ := List.exists_cons_of_ne_nil (sa.r4 n hn)
    obtain ⟨m, hm, hx, _⟩ := step k (by rw [hk]; simp)
    exact ⟨m, hm, hx⟩
  · obtain ⟨m', hm', hx', hk'⟩ := step k hk
    rw [cn_uniq sb.r1 m hm m' hm' (hx.trans hx'.symm)]
    exact hk'
def sumK (o : List Cn) : Nat := (o.map fun n => n.ks.length).sum
end Go.Proofs.Am

/- The mill's votes as a slice of the caller's own. -/
namespace Go.Proofs.Am
open Go Go.RowKit
open Go.Proofs

end Go.Proofs.Am

/- BallotSet, walked. -/
namespace Go.Proofs.Am
open Go Go.RowKit
open Go.Proofs

end Go.Proofs.Am
