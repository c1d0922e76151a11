/- GOne. -/
import Derived.Test.YtdfieogkeinkmaaGreatDoorDSix
import Derived.Test.YtdfieogkeinkmaaGreatDoorZOne
import Derived.Test.YtdfieogkeinkmaaGreatDoorEOne
set_option linter.unusedSimpArgs false
set_option linter.unusedVariables false
namespace Go.Proofs.Am
open Go Go.RowKit
open Go.Proofs
def cmpS (a b : Stm) : Int := or2 (cmpI a.au b.au) (or2 (cmpI a.nu b.nu) (Lib.compareBytes a.sd b.sd))
def ltS (a b : Stm) : Bool := decide (cmpS a b < 0)
theorem to_S : TO (fun p q : Int × (Int × List UInt8) => or2 (cmpI p.1 q.1) (or2 (cmpI p.2.1 q.2.1) (Lib.compareBytes p.2.2 q.2.2))) := to_pair to_cmpI (to_pair to_cmpI to_bytes)
theorem woS : WO ltS where
  irr a := decide_eq_false (to_S.irr (a.au, (a.nu, a.sd)))
  tr a b c h1 h2 := decide_eq_true (to_S.tr (a.au, (a.nu, a.sd)) (b.au, (b.nu, b.sd)) (c.au, (c.nu, c.sd)) (of_decide_eq_true h1) (of_decide_eq_true h2))
  nt a b c h1 h2 := decide_eq_false (to_S.nt (a.au, (a.nu, a.sd)) (b.au, (b.nu, b.sd)) (c.au, (c.nu, c.sd)) (of_decide_eq_false h1) (of_decide_eq_false h2))
end Go.Proofs.Am

/- What is decided: plain laws. -/
namespace Go.Proofs.Am
open Go Go.RowKit
open Go.Proofs
def enoB (v s : Nat) : Bool := decide (1 ≤ s ∧ s ≤ 9 ∧ v ≤ s ∧ 3 * s < 4 * v)
def allV (seats : List Int) (v : List Vt) : List Ct := ((cnR seats v).filter fun n => enoB n.ks.length seats.length).map Cn.x
theorem mem_allV {seats : List Int} {v : List Vt} {x : Ct} : x ∈ allV seats v ↔ ∃ n ∈ cnR seats v, n.x = x ∧ enoB n.ks.length seats.length = true := by
  simp only [allV, List.mem_map, List.mem_filter]
  constructor
  · rintro ⟨n, ⟨h1, h2⟩, h3⟩; exact ⟨n, h1, h3, h2⟩
  · rintro ⟨n, h1, h3, h2⟩; exact ⟨n, ⟨h1, h2⟩, h3⟩
theorem ks_nodup {seats : List Int} {v : List Vt} {n : Cn} (h : n ∈ cnR seats v) : n.ks.Nodup := ((cnR_spec seats v).r2 n h).imp fun h => by omega
theorem ks_vote {seats : List Int} {v : List Vt} {n : Cn} (h : n ∈ cnR seats v) {k : Int} (hk : k ∈ n.ks) : k ∈ seats ∧ ∃ y ∈ v, y.x = n.x ∧ y.k = k := Rvote_mem.1 (((cnR_spec seats v).r3 n.x k).1 ⟨n, h, rfl, hk⟩)
theorem ks_len {seats : List Int} {v : List Vt} {n : Cn} (h : n ∈ cnR seats v) : n.ks.length ≤ seats.length := len_sub (ks_nodup h) fun _ hk => (ks_vote h hk).1
theorem enoB_mono {a b s : Nat} (h : enoB a s = true) (hab : a ≤ b) (hb : b ≤ s) : enoB b s = true := by
  simp only [enoB, decide_eq_true_eq] at h ⊢
  omega
end Go.Proofs.Am

/- Certificates: plain laws. -/
namespace Go.Proofs.Am
open Go Go.RowKit
open Go.Proofs
theorem okV_mk {c : Cs} {s : Stm} (h : okV c s = true) : (voteE s).1 = mkV s ∧ (mkV s).c = c := by
  have h1 : (voteE s).2 = true := by
    unfold okV at h
    exact (Bool.and_eq_true_iff.1 h).1
  have h2 : (voteE s).1.c = c := by
    unfold okV at h
    exact of_decide_eq_true (Bool.and_eq_true_iff.1 h).2
  have h3 : (ofE s).2 = 0 := by
    unfold voteE at h1
    exact of_decide_eq_true (Bool.and_eq_true_iff.1 h1).1
  have h4 : (voteE s).1 = mkV s := by
    show (ofE s).1 = _
    unfold ofE at h3 ⊢
    split
    · rename_i h5
      rw [if_pos h5] at h3
      exact absurd h3 h5
    · rename_i h5
      rw [if_neg h5] at h3
      split
      · rfl
      · rename_i h6
        rw [if_neg h6] at h3
        cases h3
  exact ⟨h4, h4 ▸ h2⟩
theorem okV_k {c : Cs} {s : Stm} (h : okV c s = true) : (voteE s).1.k = s.au := by rw [(okV_mk h).1]; rfl
def forX (c : Cs) (x : Ct) (seats : List Int) (s : Stm) : Bool := okV c s && decide ((voteE s).1.x = x) && decide (s.au ∈ seats)
theorem forX_iff {c : Cs} {x : Ct} {seats : List Int} {s : Stm} : forX c x seats s = true ↔ okV c s = true ∧ (voteE s).1.x = x ∧ s.au ∈ seats := by
  simp [forX, and_assoc]
def certL (l : List Stm) (c : Cs) (x : Ct) (seats : List Int) : List Stm := kpf Stm.au (insL ltS (l.filter (forX c x seats)))
def lessN (a b : Stm) : Bool := decide (a.nu < b.nu ∨ a.nu = b.nu ∧ Lib.compareBytes a.sd b.sd < 0)
def forK (c : Cs) (x : Ct) (k : Int) (s : Stm) : Bool := okV c s && decide (s.au = k) && decide ((voteE s).1.x = x)
def leastL (l : List Stm) (k : Int) (c : Cs) (x : Ct) : Option Stm := fstL lessN (l.filter (forK c x k))
def certR (l : List Stm) (c : Cs) (x : Ct) (seats : List Int) : List Stm := (List.range 64).filterMap fun (k : Nat) => if (k : Int) ∈ seats then leastL l k c x else none
theorem fstL_congr {α : Type} {f g : α → α → Bool} : ∀ (M : List α) (b : Option α), (∀ a ∈ M, ∀ d, (d ∈ M ∨ b = some d) → f a d = g a d) →
    M.foldl (fun b s => match b with | none => some s | some t => if f s t = true then some s else some t) b = M.foldl (fun b s => match b with | none => some s | some t => if g s t = true then some s else some t) b
  | [], _, _ => rfl
  | x :: M, none, h => by
    rw [List.foldl_cons, List.foldl_cons]
    refine fstL_congr M (some x) fun a ha d hd => h a (by simp [ha]) d ?_
    rcases hd with hd | hd
    · exact .inl (by simp [hd])
    · exact .inl (by rw [Option.some.inj hd]; simp)
  | x :: M, some t, h => by
    rw [List.foldl_cons, List.foldl_cons]
    simp only
    rw [h x (by simp) t (.inr rfl)]
    cases hg : g x t with
    | true =>
      simp only [if_true]
      refine fstL_congr M (some x) fun a ha d hd => h a (by simp [ha]) d ?_
      rcases hd with hd | hd
      · exact .inl (by simp [hd])
      · exact .inl (by rw [Option.some.inj hd]; simp)
    | false =>
      simp only [Bool.false_eq_true, if_false]
      refine fstL_congr M (some t) fun a ha d hd => h a (by simp [ha]) d ?_
      rcases hd with hd | hd
      · exact .inl (by simp [hd])
      · exact .inr hd
theorem ltS_au {a b : Stm} (h : a.au = b.au) : ltS a b = lessN a b := by
  have e : cmpI a.au b.au = 0 := by rw [h]; simp [cmpI]
  have e2 : cmpS a b = or2 (cmpI a.nu b.nu) (Lib.compareBytes a.sd b.sd) := by rw [cmpS, or2, if_pos e]
  unfold ltS lessN
  rw [e2, or2]
  simp only [cmpI]
  rcases Int.lt_trichotomy a.nu b.nu with h1 | h1 | h1
  · simp [h1]
  · simp [h1]
  · have : ¬ a.nu < b.nu := by omega
    have h2 : ¬ a.nu = b.nu := by omega
    simp [this, h1, h2]
theorem srt_au {R : List Stm} (h : Srt ltS R) : R.Pairwise fun a b => a.au ≤ b.au := h.imp fun {a b} hab => by
  have h1 := of_decide_eq_false hab
  rcases Int.lt_or_le b.au a.au with h2 | h2
  · exfalso
    apply h1
    have : cmpI b.au a.au = -1 := by simp [cmpI, h2]
    rw [cmpS, or2, if_neg (by rw [this]; decide), this]
    decide
  · exact h2
theorem certL_keys {l : List Stm} {c : Cs} {x : Ct} {seats : List Int} (hs : ∀ k ∈ seats, 0 ≤ k ∧ k < 64) : certL l c x seats = certR l c x seats := by
  unfold certL certR
  have hr := insL_rea woS (l.filter (forX c x seats))
  rw [kpf_keys Stm.au 64 _ (srt_au hr.2) fun s h => by
    have h1 := hr.1.mem.1 h
    exact hs _ (forX_iff.1 (List.mem_filter.1 h1).2).2.2]
  congr 1
  funext k
  rw [insL_filter woS, insL_head, List.filter_filter]
  split
  · rename_i hk
    have e : (l.filter fun a => decide (a.au = (k : Int)) && forX c x seats a) = l.filter (forK c x k) := by
      refine List.filter_congr fun s _ => ?_
      rw [Bool.eq_iff_iff]
      simp only [forX, forK, Bool.and_eq_true, decide_eq_true_eq]
      constructor
      · rintro ⟨h1, ⟨h2, h3⟩, h4⟩; exact ⟨⟨h2, h1⟩, h3⟩
      · rintro ⟨⟨h2, h1⟩, h3⟩; exact ⟨h1, ⟨h2, h3⟩, by rw [h1]; exact hk⟩
    rw [e, leastL, fstL, fstL]
    refine fstL_congr _ _ fun a ha d hd => ltS_au ?_
    have au : ∀ s ∈ l.filter (forK c x k), s.au = (k : Int) := fun s hs => by
      have := (List.mem_filter.1 hs).2
      simp only [forK, Bool.and_eq_true, decide_eq_true_eq] at this
      exact this.1.2
    rcases hd with hd | hd
    · rw [au a ha, au d hd]
    · cases hd
  · rename_i hk
    have e : (l.filter fun a => decide (a.au = (k : Int)) && forX c x seats a) = [] := by
      rw [List.filter_eq_nil_iff]
      intro s _ h
      simp only [forX, Bool.and_eq_true, decide_eq_true_eq] at h
      exact hk (by rw [← h.1]; exact h.2.2)
    rw [e]
    rfl
end Go.Proofs.Am

/- Which certificates are right: plain laws. -/
namespace Go.Proofs.Am
open Go Go.RowKit
open Go.Proofs
structure ChkP (c : Cs) (l : List Stm) (seats : List Int) (x : Ct) : Prop where
  ok : ∀ s ∈ l, okV c s = true ∧ s.au ∈ seats ∧ (voteE s).1.x = x
  up : l.Pairwise fun a b => a.au < b.au
  en : enoB l.length seats.length = true
theorem certL_fm {l : List Stm} {c : Cs} {x : Ct} {seats : List Int} (hs : ∀ k ∈ seats, 0 ≤ k ∧ k < 64) : certL l c x seats = (List.range 64).filterMap fun (k : Nat) => ((insL ltS (l.filter (forX c x seats))).filter fun s => decide (s.au = (k : Int))).head? := by
  have hr := insL_rea woS (l.filter (forX c x seats))
  exact kpf_keys Stm.au 64 _ (srt_au hr.2) fun s h => by
    have h1 := hr.1.mem.1 h
    exact hs _ (forX_iff.1 (List.mem_filter.1 h1).2).2.2
theorem certL_mem {l : List Stm} {c : Cs} {x : Ct} {seats : List Int} {s : Stm} (hs : ∀ k ∈ seats, 0 ≤ k ∧ k < 64) (h : s ∈ certL l c x seats) : s ∈ l ∧ forX c x seats s = true := by
  rw [certL_fm hs, List.mem_filterMap] at h
  obtain ⟨k, _, hk⟩ := h
  have h1 := (List.mem_filter.1 (List.mem_of_head? hk)).1
  exact List.mem_filter.1 ((insL_rea woS _).1.mem.1 h1)
theorem certL_has {l : List Stm} {c : Cs} {x : Ct} {seats : List Int} {s : Stm} (hs : ∀ k ∈ seats, 0 ≤ k ∧ k < 64) (h : s ∈ l) (hx : forX c x seats s = true) : s.au ∈ (certL l c x seats).map Stm.au := by
  have hk := hs _ (forX_iff.1 hx).2.2
  obtain ⟨k, hk1⟩ : ∃ k : Nat, s.au = (k : Int) := ⟨s.au.toNat, by omega⟩
  have hm : s ∈ (insL ltS (l.filter (forX c x seats))).filter fun s => decide (s.au = (k : Int)) := List.mem_filter.2 ⟨(insL_rea woS _).1.mem.2 (List.mem_filter.2 ⟨h, hx⟩), by simpa using hk1⟩
  obtain ⟨t, ht⟩ : ∃ t, ((insL ltS (l.filter (forX c x seats))).filter fun s => decide (s.au = (k : Int))).head? = some t := by
    cases hl : (insL ltS (l.filter (forX c x seats))).filter fun s => decide (s.au = (k : Int)) with
    | nil => rw [hl] at hm; cases hm
    | cons t r => exact ⟨t, rfl⟩
  have hta : t.au = (k : Int) := by simpa using (List.mem_filter.1 (List.mem_of_head? ht)).2
  rw [certL_fm hs, List.mem_map]
  exact ⟨t, List.mem_filterMap.2 ⟨k, List.mem_range.2 (by omega), ht⟩, by rw [hta, hk1]⟩
theorem certL_up {l : List Stm} {c : Cs} {x : Ct} {seats : List Int} (hs : ∀ k ∈ seats, 0 ≤ k ∧ k < 64) : (certL l c x seats).Pairwise fun a b => a.au < b.au := by
  rw [certL_fm hs]
  refine List.Pairwise.filterMap _ (R := fun a b : Nat => a < b) (fun i j hij a ha b hb => ?_) List.pairwise_lt_range
  have h1 : a.au = (i : Int) := by simpa using (List.mem_filter.1 (List.mem_of_head? ha)).2
  have h2 : b.au = (j : Int) := by simpa using (List.mem_filter.1 (List.mem_of_head? hb)).2
  omega
theorem cert_chk {l : List Stm} {c : Cs} {x : Ct} {seats : List Int} (hs : ∀ k ∈ seats, 0 ≤ k ∧ k < 64) (h : x ∈ allV seats (votesL l c)) : ChkP c (certL l c x seats) seats x := by
  obtain ⟨n, hn, rfl, he⟩ := mem_allV.1 h
  refine ⟨fun s h => ?_, certL_up hs, ?_⟩
  · obtain ⟨h1, h2⟩ := certL_mem hs h
    obtain ⟨h3, h4, h5⟩ := forX_iff.1 h2
    exact ⟨h3, h5, h4⟩
  · have hnd : ((certL l c n.x seats).map Stm.au).Nodup := List.Pairwise.map Stm.au (R := fun a b : Stm => a.au < b.au) (fun a b hab => by omega) (certL_up hs)
    have h1 : n.ks.length ≤ (certL l c n.x seats).length := by
      rw [show (certL l c n.x seats).length = ((certL l c n.x seats).map Stm.au).length by simp]
      refine len_sub (ks_nodup hn) fun k hk => ?_
      obtain ⟨h2, y, hy, h3, h4⟩ := ks_vote hn hk
      obtain ⟨s, h5, h6, rfl⟩ := mem_votesL.1 hy
      rw [okV_k h6] at h4
      subst h4
      exact certL_has hs h5 (forX_iff.2 ⟨h6, h3, h2⟩)
    have h2 : (certL l c n.x seats).length ≤ seats.length := by
      rw [show (certL l c n.x seats).length = ((certL l c n.x seats).map Stm.au).length by simp]
      refine len_sub hnd fun k hk => ?_
      obtain ⟨s, h5, rfl⟩ := List.mem_map.1 hk
      exact (forX_iff.1 (certL_mem hs h5).2).2.2
    exact enoB_mono he h1 h2
end Go.Proofs.Am

/- Statements of others; certificates of a minority of liars. -/
namespace Go.Proofs.Am
open Go Go.RowKit
open Go.Proofs
end Go.Proofs.Am
