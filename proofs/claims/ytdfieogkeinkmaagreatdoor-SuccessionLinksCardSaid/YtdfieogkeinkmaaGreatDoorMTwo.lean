/- MTwo. -/
import Derived.Test.YtdfieogkeinkmaaGreatDoorMOne
import Derived.Test.YtdfieogkeinkmaaGreatDoorNOne
set_option linter.unusedSimpArgs false
set_option linter.unusedVariables false
namespace Go.Proofs.Am
open Go Go.RowKit
open Go.Proofs
theorem pinS_one (p : Pn) (h1 : pinsB [p] = true) : checkE (pinS [p]) = 0 := by
  have b8 : meantB (pinS [p]) = true := by rw [meantB, if_neg (by simp [pinS]), if_neg (by simp [pinS]), if_neg (by simp [pinS])]
  simp only [checkE, b8]
  simp [pinS, h1, inB, valB]
theorem mcont_right (l : List Int) (p : Nat) {c : Cs} (hc : caseV c = true) : rightB c (mcont l p c).1 = true := by
  have b1 := dnext_lt (l := l) (p := p) (n := 2) (by omega)
  have b2 := dnext_lt (l := l) (p := p) (n := 127) (by omega)
  have b3 := dnext_lt (l := l) (p := dgo l p 1) (n := 3) (by omega)
  have b4 := dnext_lt (l := l) (p := dgo l p 3) (n := 4) (by omega)
  have b5 := dnext_lt (l := l) (p := dgo l p 4) (n := 3) (by omega)
  have hnil : checkE (pinS []) = 0 := by decide
  have e3 : 0 ≤ el ([0, 0, 1] : List Int) (dnext l (dgo l p 1) 3).toNat ∧ el ([0, 0, 1] : List Int) (dnext l (dgo l p 1) 3).toNat < 4294967296 := by
    have : (dnext l (dgo l p 1) 3).toNat = 0 ∨ (dnext l (dgo l p 1) 3).toNat = 1 ∨ (dnext l (dgo l p 1) 3).toNat = 2 := by omega
    rcases this with h | h | h <;> rw [h] <;> decide
  unfold rightB mcont
  rw [hc, Bool.true_and]
  split
  · rename_i h
    have hk : ¬ c.kd = 1 := h
    simp only [hnil, decide_true, Bool.true_and, listV, if_neg hk]
    exact decide_eq_true ⟨rfl, by show dnext l p 2 = 0 ∨ dnext l p 2 = 1; omega⟩
  · rename_i h
    have hk : c.kd = 1 := by simpa using h
    split
    · have hp : pinsB [⟨dnext l (dgo l p 3) 4, 1 + dnext l (dgo l p 4) 3, mdig l (dgo l p 5)⟩] = true := by
        refine pinsB_true fun i hi => ?_
        obtain rfl : i = 0 := by simpa using hi
        have q1 : inB (dnext l (dgo l p 3) 4) 0 63 = true := decide_eq_true (by omega)
        have q2 : inB (1 + dnext l (dgo l p 4) 3) 1 200 = true := decide_eq_true (by omega)
        show (inB (dnext l (dgo l p 3) 4) 0 63 && !(decide (0 < 0) && _) && inB (1 + dnext l (dgo l p 4) 3) 1 200 && decide ((mdig l (dgo l p 5)).length = 32)) = true
        rw [q1, q2, mdig_len]
        rfl
      simp only [pinS_one _ hp, decide_true, Bool.true_and, listV, if_pos hk]
      exact decide_eq_true ⟨rfl, by show (0 : Int) ≤ 1 + dnext l p 127; omega, by show 1 + dnext l p 127 < 4294967296; omega, e3.1, e3.2⟩
    · simp only [hnil, decide_true, Bool.true_and, listV, if_pos hk]
      exact decide_eq_true ⟨rfl, by show (0 : Int) ≤ 1 + dnext l p 127; omega, by show 1 + dnext l p 127 < 4294967296; omega, e3.1, e3.2⟩
end Go.Proofs.Am

/- DecisionLiars, walked. -/
namespace Go.Proofs.Am
open Go Go.RowKit
open Go.Proofs
structure RV1 (c : Cs) (x : Ct) (S : List Int) (P : List Stm) : Prop where
  ok : ∀ s ∈ P, okV c s = true ∧ s.au ∈ S ∧ (voteE s).1.x = x
  up : P.Pairwise fun a b => a.au < b.au
theorem RV1.nil {c : Cs} {x : Ct} {S : List Int} : RV1 c x S [] := ⟨by simp, List.Pairwise.nil⟩
theorem RV1.skip {c : Cs} {x : Ct} {seats : List Int} {P : List Stm} {i : Nat} (h : RV1 c x (seats.take i) P) : RV1 c x (seats.take (i + 1)) P := by
  refine ⟨fun s hs => ?_, h.up⟩
  obtain ⟨h1, h2, h3⟩ := h.ok s hs
  exact ⟨h1, List.take_subset_take_left _ (Nat.le_succ i) h2, h3⟩
end Go.Proofs.Am

/- DecisionStays, walked. -/
namespace Go.Proofs.Am
open Go Go.RowKit
open Go.Proofs
theorem certX_one {l : List Stm} {c : Cs} {seats : List Int} (h : ckS c seats = 0) (h1 : (allV seats (votesL l c)).length = 1) : certX l c seats = (c, certL l c (oneC (allV seats (votesL l c))) seats, 0) := by
  unfold certX
  rw [if_neg (by simp [h]), if_pos h1]
theorem certX_no {l : List Stm} {c : Cs} {seats : List Int} (h : ckS c seats = 0) (h1 : ¬ (allV seats (votesL l c)).length = 1) : certX l c seats = (noCs, [], 11) := by
  unfold certX
  rw [if_neg (by simp [h]), if_neg h1]
theorem oneC_mem {A : List Ct} (h : A.length = 1) : oneC A ∈ A ∧ oneC A = el A 0 := by
  have e : oneC A = el A 0 := by rw [oneC, if_pos h]
  exact ⟨by rw [e]; exact el_mem (by omega), e⟩
theorem certX_chk {l : List Stm} {c : Cs} {seats : List Int} (h : ckS c seats = 0) (h1 : (allV seats (votesL l c)).length = 1) : chkX c (certL l c (oneC (allV seats (votesL l c))) seats) seats = (oneC (allV seats (votesL l c)), 0) :=
  chkX_of h (cert_chk (ckS_zero h).2.2.2 (oneC_mem h1).1)
theorem certL_big {l : List Stm} {c : Cs} {x : Ct} {seats : List Int} (hs : ∀ k ∈ seats, 0 ≤ k ∧ k < 64) (h : ∀ s ∈ l, bigS s) : ∀ s ∈ certL l c x seats, bigS s := fun s hs' => h s (certL_mem hs hs').1
theorem certL_le {l : List Stm} {c : Cs} {x : Ct} {seats : List Int} : (certL l c x seats).length ≤ l.length := by
  unfold certL kpf
  have h1 := kp_len (fun a b : Stm => decide (a.au = b.au)) (insL ltS (l.filter (forX c x seats))) (insL ltS (l.filter (forX c x seats))).length
  have h2 := insL_len woS (l.filter (forX c x seats))
  have h3 := List.length_filter_le (forX c x seats) l
  omega
end Go.Proofs.Am

/- Liars in the minority: plain laws. -/
namespace Go.Proofs.Am
open Go Go.RowKit
open Go.Proofs
structure MiS where
  r : Nat
  S : List Stm
  T : List Int
structure MiI (l : List Int) (c : Cs) (seats : List Int) (i : Nat) (s : MiS) : Prop where
  r : s.r ≤ l.length
  len : s.S.length ≤ 2 * i
  ok : ∀ t ∈ s.S, okS t ∧ t.au ∈ seats.take i
  two : ∀ t ∈ s.S, ∀ u ∈ s.S, t.au = u.au → (voteE t).1.x = (voteE u).1.x ∨ t.au ∈ s.T
  half : 2 * s.T.length ≤ seats.length
end Go.Proofs.Am
