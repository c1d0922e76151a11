/- The order of statements in a certificate. -/
import Derived.Test.YteheffakmcpdjaaGreatDoorDSix
import Derived.Test.YteheffakmcpdjaaGreatDoorDSeven
import Derived.Test.YteheffakmcpdjaaGreatDoorZOne
import Derived.Test.YteheffakmcpdjaaGreatDoorEFour
set_option linter.unusedSimpArgs false
set_option linter.unusedVariables false
namespace Go.Proofs.Am
open Go Go.RowKit
open Go.Proofs

/-- The order of statements in a certificate: by author, number, digest. -/
def cmpS (a b : Stm) : Int := or2 (cmpI a.au b.au) (or2 (cmpI a.nu b.nu) (Lib.compareBytes a.sd b.sd))
def ltS (a b : Stm) : Bool := decide (cmpS a b < 0)
theorem to_S : TO (fun p q : Int × (Int × List UInt8) => or2 (cmpI p.1 q.1) (or2 (cmpI p.2.1 q.2.1) (Lib.compareBytes p.2.2 q.2.2))) := to_pair to_cmpI (to_pair to_cmpI to_bytes)
theorem woS : WO ltS where
  irr a := decide_eq_false (to_S.irr (a.au, (a.nu, a.sd)))
  tr a b c h1 h2 := decide_eq_true (to_S.tr (a.au, (a.nu, a.sd)) (b.au, (b.nu, b.sd)) (c.au, (c.nu, c.sd)) (of_decide_eq_true h1) (of_decide_eq_true h2))
  nt a b c h1 h2 := decide_eq_false (to_S.nt (a.au, (a.nu, a.sd)) (b.au, (b.nu, b.sd)) (c.au, (c.nu, c.sd)) (of_decide_eq_false h1) (of_decide_eq_false h2))
end Go.Proofs.Am

/- What is decided: plain laws. -/
namespace Go.Proofs.Am
open Go Go.RowKit
open Go.Proofs

/-- Votes that are more than three quarters of the seats. -/
def enoB (v s : Nat) : Bool := decide (1 ≤ s ∧ s ≤ 9 ∧ v ≤ s ∧ 3 * s < 4 * v)
/-- The contents with enough votes. -/
def allV (seats : List Int) (v : List Vt) : List Ct := ((cnR seats v).filter fun n => enoB n.ks.length seats.length).map Cn.x
/-- The seats that vote for two contents. -/
def lieV (seats : List Int) (v : List Vt) : List Int := (twR v).filter fun k => decide (k ∈ seats)
theorem mem_allV {seats : List Int} {v : List Vt} {x : Ct} : x ∈ allV seats v ↔ ∃ n ∈ cnR seats v, n.x = x ∧ enoB n.ks.length seats.length = true := by
  simp only [allV, List.mem_map, List.mem_filter]
  constructor
  · rintro ⟨n, ⟨h1, h2⟩, h3⟩; exact ⟨n, h1, h3, h2⟩
  · rintro ⟨n, h1, h3, h2⟩; exact ⟨n, ⟨h1, h2⟩, h3⟩
theorem ks_nodup {seats : List Int} {v : List Vt} {n : Cn} (h : n ∈ cnR seats v) : n.ks.Nodup := ((cnR_spec seats v).r2 n h).imp fun h => by omega
theorem ks_vote {seats : List Int} {v : List Vt} {n : Cn} (h : n ∈ cnR seats v) {k : Int} (hk : k ∈ n.ks) : k ∈ seats ∧ ∃ y ∈ v, y.x = n.x ∧ y.k = k := Rvote_mem.1 (((cnR_spec seats v).r3 n.x k).1 ⟨n, h, rfl, hk⟩)
theorem ks_len {seats : List Int} {v : List Vt} {n : Cn} (h : n ∈ cnR seats v) : n.ks.length ≤ seats.length := len_sub (ks_nodup h) fun _ hk => (ks_vote h hk).1
theorem enoB_mono {a b s : Nat} (h : enoB a s = true) (hab : a ≤ b) (hb : b ≤ s) : enoB b s = true := by
  simp only [enoB, decide_eq_true_eq] at h ⊢
  omega
/-- With more votes nothing that has enough loses them. -/
theorem allV_grow {seats : List Int} {a b : List Vt} (h : ∀ y ∈ a, y ∈ b) {x : Ct} (hx : x ∈ allV seats a) : x ∈ allV seats b := by
  obtain ⟨n, hn, rfl, he⟩ := mem_allV.1 hx
  obtain ⟨⟨m, hm, hmx⟩, hlen⟩ := cnR_grow (seats := seats) h n hn
  exact mem_allV.2 ⟨m, hm, hmx, enoB_mono he (hlen m hm hmx) (ks_len hm)⟩
/-- Enough keys have voted for it. -/
theorem allV_of {seats K : List Int} {v : List Vt} {u : Ct} (hK : K.Nodup) (h : ∀ k ∈ K, k ∈ seats ∧ ∃ y ∈ v, y.x = u ∧ y.k = k) (he : enoB K.length seats.length = true) : u ∈ allV seats v := by
  cases K with
  | nil => simp [enoB] at he
  | cons k r =>
    obtain ⟨n, hn, hx, _⟩ := ((cnR_spec seats v).r3 u k).2 (Rvote_mem.2 (h k (by simp)))
    refine mem_allV.2 ⟨n, hn, hx, enoB_mono he (len_sub hK fun j hj => ?_) (ks_len hn)⟩
    obtain ⟨m, hm, hx', hj'⟩ := ((cnR_spec seats v).r3 u j).2 (Rvote_mem.2 (h j hj))
    rw [cn_uniq (cnR_spec seats v).r1 n hn m hm (hx.trans hx'.symm)]
    exact hj'
theorem allV_nodup (seats : List Int) (v : List Vt) : (allV seats v).Nodup := by
  have h := (cnR_spec seats v).r1
  refine List.Pairwise.map Cn.x (R := fun a b : Cn => ordC a.x b.x < 0) (fun a b hab e => ?_) (List.Pairwise.filter _ h)
  rw [e] at hab
  exact to_ordC.irr _ hab
theorem len_split {α : Type} (p : α → Bool) : ∀ l : List α, l.length = (l.filter p).length + (l.filter fun x => !p x).length
  | [] => rfl
  | x :: r => by
    have := len_split p r
    cases h : p x <;> simp [List.filter_cons, h] <;> omega
theorem len_both {A B S : List Int} (hA : A.Nodup) (hB : B.Nodup) (h1 : ∀ x ∈ A, x ∈ S) (h2 : ∀ x ∈ B, x ∈ S) : A.length + B.length ≤ S.length + (A.filter fun x => decide (x ∈ B)).length := by
  have hs := len_split (fun x => decide (x ∈ B)) A
  have hl : ((A.filter fun x => !decide (x ∈ B)) ++ B).length ≤ S.length := by
    refine len_sub ?_ fun x hx => ?_
    · rw [List.nodup_append]
      refine ⟨List.Pairwise.filter _ hA, hB, fun a ha b hb e => ?_⟩
      subst e
      have := (List.mem_filter.1 ha).2
      simp [hb] at this
    · rcases List.mem_append.1 hx with hx | hx
      · exact h1 x (List.mem_filter.1 hx).1
      · exact h2 x hx
  rw [List.length_append] at hl
  omega
theorem twR_mem {v : List Vt} {k : Int} {y z : Vt} (hy : y ∈ v) (hz : z ∈ v) (h1 : y.k = k) (h2 : z.k = k) (h3 : y.x ≠ z.x) : k ∈ twR v := by
  rw [twR, twI_mem]
  obtain ⟨a, ha, rfl⟩ := mem_el hy
  obtain ⟨b, hb, rfl⟩ := mem_el hz
  rcases Nat.lt_trichotomy a b with h | h | h
  · exact ⟨b, a, h, hb, h2, h1, fun e => h3 e.symm⟩
  · subst h; exact absurd rfl h3
  · exact ⟨a, b, h, ha, h1, h2, h3⟩
theorem twR_asc (v : List Vt) : asc (twR v) := twI_asc v v.length
/-- Two contents with enough votes: more than half of the seats have voted twice. -/
theorem lie_len {seats : List Int} {v : List Vt} {x y : Ct} (hx : x ∈ allV seats v) (hy : y ∈ allV seats v) (hne : x ≠ y) : seats.length < 2 * (lieV seats v).length := by
  obtain ⟨n, hn, rfl, he⟩ := mem_allV.1 hx
  obtain ⟨m, hm, rfl, hf⟩ := mem_allV.1 hy
  have h1 := len_both (ks_nodup hn) (ks_nodup hm) (S := seats) (fun k hk => (ks_vote hn hk).1) (fun k hk => (ks_vote hm hk).1)
  have h2 : (n.ks.filter fun x => decide (x ∈ m.ks)).length ≤ (lieV seats v).length := by
    refine len_sub (List.Pairwise.filter _ (ks_nodup hn)) fun k hk => ?_
    obtain ⟨k1, k2⟩ := List.mem_filter.1 hk
    have k2 : k ∈ m.ks := by simpa using k2
    obtain ⟨s1, y1, hy1, e1, e2⟩ := ks_vote hn k1
    obtain ⟨_, y2, hy2, e3, e4⟩ := ks_vote hm k2
    exact List.mem_filter.2 ⟨twR_mem hy1 hy2 e2 e4 (by rw [e1, e3]; exact hne), by simpa using s1⟩
  simp only [enoB, decide_eq_true_eq] at he hf
  omega
theorem lie_two {seats : List Int} {v : List Vt} (h : 1 < (allV seats v).length) : seats.length < 2 * (lieV seats v).length := by
  have hn := allV_nodup seats v
  match hl : allV seats v, h with
  | x :: y :: r, _ =>
    rw [hl] at hn
    exact lie_len (by rw [hl]; simp) (by rw [hl]; simp) fun e : x = y => by
      have := (List.nodup_cons.1 hn).1
      simp [e] at this
end Go.Proofs.Am

/- Certificates: plain laws. -/
namespace Go.Proofs.Am
open Go Go.RowKit
open Go.Proofs

theorem okV_mk {c : Cs} {s : Stm} (h : okV c s = true) : (voteE s).1 = mkV s ∧ (mkV s).c = c := by
  have h1 : (voteE s).2 = true := by
    unfold okV at h
    exact (Bool.and_eq_true_iff.1 h).1
  have h2 : (voteE s).1.c = c := by
    unfold okV at h
    exact of_decide_eq_true (Bool.and_eq_true_iff.1 h).2
  have h3 : (ofE s).2 = 0 := by
    unfold voteE at h1
    exact of_decide_eq_true (Bool.and_eq_true_iff.1 h1).1
  have h4 : (voteE s).1 = mkV s := by
    show (ofE s).1 = _
    unfold ofE at h3 ⊢
    split
    · rename_i h5
      rw [if_pos h5] at h3
      exact absurd h3 h5
    · rename_i h5
      rw [if_neg h5] at h3
      split
      · rfl
      · rename_i h6
        rw [if_neg h6] at h3
        cases h3
  exact ⟨h4, h4 ▸ h2⟩
theorem okV_k {c : Cs} {s : Stm} (h : okV c s = true) : (voteE s).1.k = s.au := by rw [(okV_mk h).1]; rfl

/-- A statement that is a vote of a seat for a content. -/
def forX (c : Cs) (x : Ct) (seats : List Int) (s : Stm) : Bool := okV c s && decide ((voteE s).1.x = x) && decide (s.au ∈ seats)
theorem forX_iff {c : Cs} {x : Ct} {seats : List Int} {s : Stm} : forX c x seats s = true ↔ okV c s = true ∧ (voteE s).1.x = x ∧ s.au ∈ seats := by
  simp [forX, and_assoc]
/-- The certificate: of each seat the first of its votes in their order. -/
def certL (l : List Stm) (c : Cs) (x : Ct) (seats : List Int) : List Stm := kpf Stm.au (insL ltS (l.filter (forX c x seats)))
/-- The document's: of each key the least. -/
def lessN (a b : Stm) : Bool := decide (a.nu < b.nu ∨ a.nu = b.nu ∧ Lib.compareBytes a.sd b.sd < 0)
def forK (c : Cs) (x : Ct) (k : Int) (s : Stm) : Bool := okV c s && decide (s.au = k) && decide ((voteE s).1.x = x)
def leastL (l : List Stm) (k : Int) (c : Cs) (x : Ct) : Option Stm := fstL lessN (l.filter (forK c x k))
def certR (l : List Stm) (c : Cs) (x : Ct) (seats : List Int) : List Stm := (List.range 64).filterMap fun (k : Nat) => if (k : Int) ∈ seats then leastL l k c x else none
theorem srt_au {R : List Stm} (h : Srt ltS R) : R.Pairwise fun a b => a.au ≤ b.au := h.imp fun {a b} hab => by
  have h1 := of_decide_eq_false hab
  rcases Int.lt_or_le b.au a.au with h2 | h2
  · exfalso
    apply h1
    have : cmpI b.au a.au = -1 := by simp [cmpI, h2]
    rw [cmpS, or2, if_neg (by rw [this]; decide), this]
    decide
  · exact h2
end Go.Proofs.Am

/- Which certificates are right: plain laws. -/
namespace Go.Proofs.Am
open Go Go.RowKit
open Go.Proofs

/-- A right certificate for a content. -/
structure ChkP (c : Cs) (l : List Stm) (seats : List Int) (x : Ct) : Prop where
  ok : ∀ s ∈ l, okV c s = true ∧ s.au ∈ seats ∧ (voteE s).1.x = x
  up : l.Pairwise fun a b => a.au < b.au
  en : enoB l.length seats.length = true
/-- What a right certificate says has enough votes for whoever has its statements. -/
theorem chk_all {c : Cs} {l L : List Stm} {seats : List Int} {x : Ct} (h : ChkP c l seats x) (hL : ∀ s ∈ l, s ∈ L) : x ∈ allV seats (votesL L c) := by
  refine allV_of (K := l.map Stm.au) ?_ (fun k hk => ?_) (by rw [List.length_map]; exact h.en)
  · exact List.Pairwise.map Stm.au (R := fun a b : Stm => a.au < b.au) (fun a b hab => by omega) h.up
  · obtain ⟨s, hs, rfl⟩ := List.mem_map.1 hk
    obtain ⟨h1, h2, h3⟩ := h.ok s hs
    exact ⟨h2, (voteE s).1, mem_votesL.2 ⟨s, hL s hs, h1, rfl⟩, h3, okV_k h1⟩
theorem certL_fm {l : List Stm} {c : Cs} {x : Ct} {seats : List Int} (hs : ∀ k ∈ seats, 0 ≤ k ∧ k < 64) : certL l c x seats = (List.range 64).filterMap fun (k : Nat) => ((insL ltS (l.filter (forX c x seats))).filter fun s => decide (s.au = (k : Int))).head? := by
  have hr := insL_rea woS (l.filter (forX c x seats))
  exact kpf_keys Stm.au 64 _ (srt_au hr.2) fun s h => by
    have h1 := hr.1.mem.1 h
    exact hs _ (forX_iff.1 (List.mem_filter.1 h1).2).2.2
theorem certL_mem {l : List Stm} {c : Cs} {x : Ct} {seats : List Int} {s : Stm} (hs : ∀ k ∈ seats, 0 ≤ k ∧ k < 64) (h : s ∈ certL l c x seats) : s ∈ l ∧ forX c x seats s = true := by
  rw [certL_fm hs, List.mem_filterMap] at h
  obtain ⟨k, _, hk⟩ := h
  have h1 := (List.mem_filter.1 (List.mem_of_head? hk)).1
  exact List.mem_filter.1 ((insL_rea woS _).1.mem.1 h1)
theorem certL_has {l : List Stm} {c : Cs} {x : Ct} {seats : List Int} {s : Stm} (hs : ∀ k ∈ seats, 0 ≤ k ∧ k < 64) (h : s ∈ l) (hx : forX c x seats s = true) : s.au ∈ (certL l c x seats).map Stm.au := by
  have hk := hs _ (forX_iff.1 hx).2.2
  obtain ⟨k, hk1⟩ : ∃ k : Nat, s.au = (k : Int) := ⟨s.au.toNat, by omega⟩
  have hm : s ∈ (insL ltS (l.filter (forX c x seats))).filter fun s => decide (s.au = (k : Int)) := List.mem_filter.2 ⟨(insL_rea woS _).1.mem.2 (List.mem_filter.2 ⟨h, hx⟩), by simpa using hk1⟩
  obtain ⟨t, ht⟩ : ∃ t, ((insL ltS (l.filter (forX c x seats))).filter fun s => decide (s.au = (k : Int))).head? = some t := by
    cases hl : (insL ltS (l.filter (forX c x seats))).filter fun s => decide (s.au = (k : Int)) with
    | nil => rw [hl] at hm; cases hm
    | cons t r => exact ⟨t, rfl⟩
  have hta : t.au = (k : Int) := by simpa using (List.mem_filter.1 (List.mem_of_head? ht)).2
  rw [certL_fm hs, List.mem_map]
  exact ⟨t, List.mem_filterMap.2 ⟨k, List.mem_range.2 (by omega), ht⟩, by rw [hta, hk1]⟩
theorem certL_up {l : List Stm} {c : Cs} {x : Ct} {seats : List Int} (hs : ∀ k ∈ seats, 0 ≤ k ∧ k < 64) : (certL l c x seats).Pairwise fun a b => a.au < b.au := by
  rw [certL_fm hs]
  refine List.Pairwise.filterMap _ (R := fun a b : Nat => a < b) (fun i j hij a ha b hb => ?_) List.pairwise_lt_range
  have h1 : a.au = (i : Int) := by simpa using (List.mem_filter.1 (List.mem_of_head? ha)).2
  have h2 : b.au = (j : Int) := by simpa using (List.mem_filter.1 (List.mem_of_head? hb)).2
  omega
/-- The certificate of what was decided is right. -/
theorem cert_chk {l : List Stm} {c : Cs} {x : Ct} {seats : List Int} (hs : ∀ k ∈ seats, 0 ≤ k ∧ k < 64) (h : x ∈ allV seats (votesL l c)) : ChkP c (certL l c x seats) seats x := by
  obtain ⟨n, hn, rfl, he⟩ := mem_allV.1 h
  refine ⟨fun s h => ?_, certL_up hs, ?_⟩
  · obtain ⟨h1, h2⟩ := certL_mem hs h
    obtain ⟨h3, h4, h5⟩ := forX_iff.1 h2
    exact ⟨h3, h5, h4⟩
  · have hnd : ((certL l c n.x seats).map Stm.au).Nodup := List.Pairwise.map Stm.au (R := fun a b : Stm => a.au < b.au) (fun a b hab => by omega) (certL_up hs)
    have h1 : n.ks.length ≤ (certL l c n.x seats).length := by
      rw [show (certL l c n.x seats).length = ((certL l c n.x seats).map Stm.au).length by simp]
      refine len_sub (ks_nodup hn) fun k hk => ?_
      obtain ⟨h2, y, hy, h3, h4⟩ := ks_vote hn hk
      obtain ⟨s, h5, h6, rfl⟩ := mem_votesL.1 hy
      rw [okV_k h6] at h4
      subst h4
      exact certL_has hs h5 (forX_iff.2 ⟨h6, h3, h2⟩)
    have h2 : (certL l c n.x seats).length ≤ seats.length := by
      rw [show (certL l c n.x seats).length = ((certL l c n.x seats).map Stm.au).length by simp]
      refine len_sub hnd fun k hk => ?_
      obtain ⟨s, h5, rfl⟩ := List.mem_map.1 hk
      exact (forX_iff.1 (certL_mem hs h5).2).2.2
    exact enoB_mono he h1 h2
end Go.Proofs.Am

/- Statements of others; certificates of a minority of liars. -/
namespace Go.Proofs.Am
open Go Go.RowKit
open Go.Proofs

theorem all_more {a b : List Stm} {c : Cs} {seats : List Int} {x : Ct} (h : ∀ s ∈ a, s ∈ b) (hx : x ∈ allV seats (votesL a c)) : x ∈ allV seats (votesL b c) :=
  allV_grow (fun y hy => by
    obtain ⟨s, h1, h2, h3⟩ := mem_votesL.1 hy
    exact mem_votesL.2 ⟨s, h s h1, h2, h3⟩) hx
/-- If at most half of the seats vote twice, right certificates say the same. -/
theorem cert_same {c : Cs} {p q L : List Stm} {seats : List Int} {x y : Ct} (hp : ChkP c p seats x) (hq : ChkP c q seats y) (h1 : ∀ s ∈ p, s ∈ L) (h2 : ∀ s ∈ q, s ∈ L) (hl : 2 * (lieV seats (votesL L c)).length ≤ seats.length) : x = y := by
  by_cases h : x = y
  · exact h
  · have := lie_len (chk_all hp h1) (chk_all hq h2) h
    omega
end Go.Proofs.Am
