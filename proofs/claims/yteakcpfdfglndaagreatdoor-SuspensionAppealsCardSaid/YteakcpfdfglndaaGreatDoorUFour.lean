/- UFour. -/
import Derived.Test.YteakcpfdfglndaaGreatDoorVTwo
import Derived.Test.YteakcpfdfglndaaGreatDoorC9
import Derived.Test.YteakcpfdfglndaaGreatDoorEOne
import Derived.Test.YteakcpfdfglndaaGreatDoorUOne
set_option linter.unusedSimpArgs false
set_option linter.unusedVariables false
namespace Go.Proofs.Am
open Go Go.RowKit
open Go.Proofs
def sec1 (c : Cs) : Cs := { c with ro := 1 }
def secX (r : Rl) (L : List Stm) (t : Tm) (c : Cs) : Ct × Bool :=
 if askedB L t c = true ∧ (decG r L t (sec1 c)).2.2 = 0 then ((decG r L t (sec1 c)).1, (decG r L t (sec1 c)).2.1) else (noC, false)
def outX (r : Rl) (L : List Stm) (t : Tm) (c : Cs) : Ct × Bool × Int :=
 if caseV c = true ∧ c.ro = 0 then
  if (decG r L t c).2.2 ≠ 0 then (noC, false, (decG r L t c).2.2)
  else if (secX r L t c).2 = true then ((secX r L t c).1, true, 0) else ((decG r L t c).1, (decG r L t c).2.1, 0)
 else (noC, false, 41)
theorem openB_iff {c : Cs} : openB c = true ↔ caseV c = true ∧ c.ro = 0 ∧ c.kd ≠ 1 := by
 simp [openB, and_assoc]
theorem sec1_ok {c : Cs} (h : openB c = true) : caseV (sec1 c) = true := by
 obtain ⟨h1, h2, h3⟩ := openB_iff.1 h
 have := of_decide_eq_true h1
 refine caseV_t ⟨this.1, this.2.1, this.2.2.1, this.2.2.2.1, by simp [sec1], by simp [sec1], ?_⟩
 have h4 := this.2.2.2.2.2.2
 show c.kd = 1 ∧ c.su = 0 ∧ (1 : Int) = 0 ∨ c.kd = 2 ∨ c.kd = 3
 omega
theorem decG_ok {r : Rl} {L : List Stm} {t : Tm} {c : Cs} (hr : ruleE r = 0) (ht : OkT t) (hc : caseV c = true) (he : c.ep = t.ep) :
  ((seatsG r t c).2 = 0 ∧ ckS c (seatsG r t c).1 = 0 ∧ decG r L t c = (oneC (decA L c (seatsG r t c).1), decide ((decA L c (seatsG r t c).1).length = 1), 0)) ∨
  ((seatsG r t c).2 = 44 ∧ decG r L t c = (noC, false, 44)) := by
 obtain ⟨h1, _, _, h4⟩ := seatsR_any hr ht hc he
 rw [← seatsG_32 ht.bea] at h1 h4
 rcases h1 with h1 | h1
 ·refine .inl ⟨h1, h4 h1, ?_⟩
  unfold decG
  rw [if_neg (by simp [h1]), h4 h1]
 ·refine .inr ⟨h1, ?_⟩
  unfold decG
  rw [if_pos (by simp [h1]), h1]
theorem seatsG_zero {r : Rl} {t : Tm} {c : Cs} (hr : ruleE r = 0) (ht : OkT t) (hc : caseV c = true) (he : c.ep = t.ep) (h0 : c.ro = 0) : (seatsG r t c).2 = 0 := by
 rw [seatsG_32 ht.bea, seatsR0 hr ht hc he h0]
end Go.Proofs.Am

/- Keys about which committees have said yes: plain laws. -/
namespace Go.Proofs.Am
open Go Go.RowKit
open Go.Proofs
def keyC (t : Tm) (kd k : Int) : Cs := ⟨t.ep, kd, k, 0⟩
def saidB (r : Rl) (L : List Stm) (t : Tm) (kd k : Int) : Bool := (outX r L t (keyC t kd k)).2.1 && decide ((outX r L t (keyC t kd k)).1.li = [1])
def someB (L : List Stm) (c : Cs) : Bool := (casesL L).any fun x => decide (x.ep = c.ep) && (decide (x.kd = c.kd) && decide (x.su = c.su))
theorem some_none {L : List Stm} {c d : Cs} (h : someB L c = false) (h1 : d.ep = c.ep) (h2 : d.kd = c.kd) (h3 : d.su = c.su) : ∀ s ∈ L, okV d s = false := fun s hs => by
 cases ho : okV d s with
 | false => rfl
 | true =>
  obtain ⟨v1, v2⟩ := Bool.and_eq_true_iff.1 ho
  have hm : d ∈ casesL L := mem_casesL.2 ⟨s, hs, v1, of_decide_eq_true v2⟩
  have : someB L c = true := List.any_eq_true.2 ⟨d, hm, by simp [h1, h2, h3]⟩
  rw [h] at this
  cases this
theorem decG_none {r : Rl} {L : List Stm} {t : Tm} {c : Cs} (h : ∀ s ∈ L, okV c s = false) : (decG r L t c).2.1 = false := by
 have hA : ∀ S, decA L c S = [] := fun S => by
  unfold decA
  split
  ·refine List.eq_nil_iff_forall_not_mem.2 fun u hu => ?_
   obtain ⟨n, hn, _, _⟩ := mem_allV.1 hu
   have hk : n.ks ≠ [] := (cnR_spec _ _).r4 n hn
   obtain ⟨k, ks, hk⟩ := List.exists_cons_of_ne_nil hk
   obtain ⟨_, y, hy, _, _⟩ := ks_vote hn (k := k) (by rw [hk]; simp)
   obtain ⟨s, s1, s2, _⟩ := mem_votesL.1 hy
   rw [h s s1] at s2
   cases s2
  ·rfl
 unfold decG
 split
 ·rfl
 ·rw [hA]; rfl
theorem said_none {r : Rl} {L : List Stm} {t : Tm} {kd k : Int} (h : someB L (keyC t kd k) = false) : (outX r L t (keyC t kd k)).2.1 = false := by
 have h1 := decG_none (r := r) (t := t) (some_none (d := keyC t kd k) h rfl rfl rfl)
 have h2 := decG_none (r := r) (t := t) (some_none (d := sec1 (keyC t kd k)) h rfl rfl rfl)
 have h3 : (secX r L t (keyC t kd k)).2 = false := by
  unfold secX
  split
  ·exact h2
  ·rfl
 unfold outX
 split
 ·split
  ·rfl
  ·rw [h3, if_neg (by simp)]
   exact h1
 ·rfl
def keyE (t : Tm) : Int := if 0 ≤ t.ep ∧ t.ep < 40 then (if t.bea.length = 32 then 0 else 1) else 41
theorem out_err {r : Rl} {L : List Stm} {t : Tm} {kd k : Int} (hr : ruleE r = 0) (hv : rosV t.ros = true) (hk : 0 ≤ k ∧ k < 64) (hkd : kd = 2 ∨ kd = 3) : (outX r L t (keyC t kd k)).2.2 = keyE t := by
 by_cases he : 0 ≤ t.ep ∧ t.ep < 40
 ·have hc : caseV (keyC t kd k) = true := caseV_t ⟨he.1, he.2, hk.1, hk.2, by simp [keyC], by simp [keyC], .inr hkd⟩
  have hd : (decG r L t (keyC t kd k)).2.2 = keyE t := by
   unfold keyE
   rw [if_pos he]
   by_cases hb : t.bea.length = 32
   ·rw [if_pos hb]
    have ht : OkT t := ⟨he.1, he.2, hv, hb⟩
    have hz := seatsG_zero hr ht hc rfl (by rfl)
    rcases decG_ok (L := L) hr ht hc rfl with ⟨_, _, s3⟩ | ⟨s1, _⟩
    ·rw [s3]
    ·rw [hz] at s1; cases s1
   ·rw [if_neg hb]
    have hs : seatsG r t (keyC t kd k) = ([], 1) := by
     unfold seatsG ofG
     rw [if_neg (by simp [keyC]), if_pos ⟨hr, hv, hc, hb⟩]
    unfold decG
    rw [hs, if_pos (by simp)]
  unfold outX
  rw [if_pos ⟨hc, rfl⟩]
  by_cases h0 : keyE t = 0
  ·rw [if_neg (by simp [hd, h0])]
   rw [h0]
   split <;> rfl
  ·rw [if_pos (by simpa [hd] using h0)]
   exact hd
 ·have hc : ¬ caseV (keyC t kd k) = true := fun h => by
   have := of_decide_eq_true h
   exact he ⟨this.1, this.2.1⟩
  unfold outX keyE
  rw [if_neg (fun h => hc h.1), if_neg he]
end Go.Proofs.Am

/- A case whose committees all vote: the law AdmissionRefused, in plain. -/
namespace Go.Proofs.Am
open Go Go.RowKit
open Go.Proofs
theorem decA_own {c : Cs} {S : List Int} {nu : Int} {x : Ct} {A E : List Stm} (hk : ckS c S = 0) (hn : 0 ≤ nu ∧ nu ≤ 199) (hx : rightB c x = true) (h : ∀ s, s ∈ A ↔ (s ∈ allFor c nu x S ∨ s ∈ E)) (hE : ∀ s ∈ E, okV c s = false) : decA A c S = [x] := by
 have hP := EndP.of hk
 unfold decA
 rw [if_pos hk, votes_same c (m := allFor c nu x S ++ E) fun s => by rw [h, List.mem_append], all_extra fun s hs ho => by rw [hE s hs] at ho; cases ho]
 exact nodup_one (allV_nodup _ _) (allFor_in hP hn hx fun _ h => h) fun u hu => by
  obtain ⟨s, h1, _, h3⟩ := all_vote hu
  rw [← h3, (votes_for (d := c) hP hn hx h1).1]
def bothV (r : Rl) (t : Tm) (c : Cs) (x0 x1 : Ct) (ap : List Stm) : List Stm :=
 allFor c 0 x0 (seatsG r t c).1 ++ (if (seatsG r t (sec1 c)).2 = 0 then allFor (sec1 c) 1 x1 (seatsG r t (sec1 c)).1 else []) ++ ap
theorem sec_ne {c : Cs} (h : openB c = true) : sec1 c ≠ c := fun e => by
 have h1 := (openB_iff.1 h).2.1
 rw [← e] at h1
 cases h1
theorem both_law {r : Rl} {t : Tm} {c : Cs} {x0 x1 : Ct} {ap : List Stm} (hr : ruleE r = 0) (ht : OkT t) (ho : openB c = true) (he : c.ep = t.ep) (h0 : rightB c x0 = true) (h1 : rightB (sec1 c) x1 = true)
  (hap : ∀ s ∈ ap, ∀ d, okV d s = false) (has : ap.any (askB t.ros c) = decide (ap ≠ [])) :
  outX r (bothV r t c x0 x1 ap) t c = (if ap ≠ [] ∧ (seatsG r t (sec1 c)).2 = 0 then x1 else x0, true, 0) := by
 obtain ⟨hc, hro, hkd⟩ := openB_iff.1 ho
 have hs0 := seatsG_zero hr ht hc he hro
 have hck0 : ckS c (seatsG r t c).1 = 0 := by
  rcases decG_ok (L := []) hr ht hc he with ⟨_, s2, _⟩ | ⟨s1, _⟩
  ·exact s2
  ·rw [hs0] at s1; cases s1
 have hP0 := EndP.of hck0
 have o1 : ∀ s ∈ (if (seatsG r t (sec1 c)).2 = 0 then allFor (sec1 c) 1 x1 (seatsG r t (sec1 c)).1 else []), okV c s = false := fun s hs => by
  split at hs
  ·rename_i hz
   have hck1 : ckS (sec1 c) (seatsG r t (sec1 c)).1 = 0 := by
    rcases decG_ok (L := []) hr ht (sec1_ok ho) he with ⟨_, s2, _⟩ | ⟨s1, _⟩
    ·exact s2
    ·rw [hz] at s1; cases s1
   cases hq : okV c s with
   | false => rfl
   | true => exact absurd ((votes_for (d := c) (EndP.of hck1) (by omega) h1 hs).2.1 hq).symm (sec_ne ho)
  ·simp at hs
 have d0 : decG r (bothV r t c x0 x1 ap) t c = (x0, true, 0) := by
  rcases decG_ok (L := bothV r t c x0 x1 ap) hr ht hc he with ⟨_, _, s3⟩ | ⟨s1, _⟩
  ·rw [s3, decA_own (E := (if (seatsG r t (sec1 c)).2 = 0 then allFor (sec1 c) 1 x1 (seatsG r t (sec1 c)).1 else []) ++ ap) (nu := 0) hck0 (by omega) h0 (fun s => by unfold bothV; simp only [List.mem_append, or_assoc]) fun s hs => by
    rcases List.mem_append.1 hs with hs | hs
    ·exact o1 s hs
    ·exact hap s hs c]
   rfl
  ·rw [hs0] at s1; cases s1
 have hnone : ∀ s ∈ allFor c 0 x0 (seatsG r t c).1 ++ (if (seatsG r t (sec1 c)).2 = 0 then allFor (sec1 c) 1 x1 (seatsG r t (sec1 c)).1 else []), askB t.ros c s = false := fun s hs => by
  have hv : ∀ k nu d y, (vt k nu d y).kd ≠ 15 := fun k nu d y => by
   show (vdraft d y).1.kd ≠ 15
   unfold vdraft
   (repeat' split) <;> simp [noD]
  have hk : s.kd ≠ 15 := by
   rcases List.mem_append.1 hs with hs | hs
   ·obtain ⟨k, _, rfl⟩ := mem_allFor.1 hs
    exact hv _ _ _ _
   ·split at hs
    ·obtain ⟨k, _, rfl⟩ := mem_allFor.1 hs
     exact hv _ _ _ _
    ·simp at hs
  unfold askB
  simp [hk]
 have hask : askedB (bothV r t c x0 x1 ap) t c = decide (ap ≠ []) := by
  unfold askedB bothV
  rw [ho, Bool.true_and, List.any_append, has]
  have : (allFor c 0 x0 (seatsG r t c).1 ++ (if (seatsG r t (sec1 c)).2 = 0 then allFor (sec1 c) 1 x1 (seatsG r t (sec1 c)).1 else [])).any (askB t.ros c) = false := by
   rw [List.any_eq_false]
   intro s hs
   rw [hnone s hs]
   simp
  rw [this, Bool.false_or]
 unfold outX
 rw [if_pos ⟨hc, hro⟩, d0, if_neg (by simp)]
 by_cases hz : (seatsG r t (sec1 c)).2 = 0
 ·have hck1 : ckS (sec1 c) (seatsG r t (sec1 c)).1 = 0 := by
   rcases decG_ok (L := []) hr ht (sec1_ok ho) he with ⟨_, s2, _⟩ | ⟨s1, _⟩
   ·exact s2
   ·rw [hz] at s1; cases s1
  have d1 : decG r (bothV r t c x0 x1 ap) t (sec1 c) = (x1, true, 0) := by
   rcases decG_ok (L := bothV r t c x0 x1 ap) hr ht (sec1_ok ho) he with ⟨_, _, s3⟩ | ⟨s1, _⟩
   ·rw [s3, decA_own (E := allFor c 0 x0 (seatsG r t c).1 ++ ap) hck1 (nu := 1) (by omega) h1 (fun s => by unfold bothV; rw [if_pos hz]; simp only [List.mem_append, or_assoc, or_left_comm]) fun s hs => by
     rcases List.mem_append.1 hs with hs | hs
     ·cases hq : okV (sec1 c) s with
      | false => rfl
      | true => exact absurd ((votes_for (d := sec1 c) hP0 (by omega) h0 hs).2.1 hq) (sec_ne ho)
     ·exact hap s hs _]
    rfl
   ·rw [hz] at s1; cases s1
  have hsec : secX r (bothV r t c x0 x1 ap) t c = if ap ≠ [] then (x1, true) else (noC, false) := by
   unfold secX
   rw [d1, hask]
   by_cases ha : ap = []
   ·simp [ha]
   ·simp [ha]
  rw [hsec]
  by_cases ha : ap = []
  ·simp [ha]
  ·simp [ha, hz]
 ·have hsec : (secX r (bothV r t c x0 x1 ap) t c).2 = false := by
   unfold secX
   rcases decG_ok (L := bothV r t c x0 x1 ap) hr ht (sec1_ok ho) he with ⟨s1, _, _⟩ | ⟨_, s3⟩
   ·exact absurd s1 hz
   ·rw [s3, if_neg (fun h => by cases h.2)]
  rw [hsec]
  simp [hz]
end Go.Proofs.Am

/- Who is suspended, and who is due: plain laws. -/
namespace Go.Proofs.Am
open Go Go.RowKit
open Go.Proofs
end Go.Proofs.Am

/- Who is refused where all seats vote on one key: plain laws. -/
namespace Go.Proofs.Am
open Go Go.RowKit
open Go.Proofs
theorem both_some {r : Rl} {t : Tm} {c : Cs} {x0 x1 : Ct} {ap : List Stm} {k : Int} (hr : ruleE r = 0) (ht : OkT t) (ho : openB c = true) (he : c.ep = t.ep) (h0 : rightB c x0 = true) (h1 : rightB (sec1 c) x1 = true)
  (hap : ∀ s ∈ ap, ∀ d, okV d s = false) (hk : k ≠ c.su) : someB (bothV r t c x0 x1 ap) (keyC t c.kd k) = false := by
 obtain ⟨hc, hro, hkd⟩ := openB_iff.1 ho
 have hs0 := seatsG_zero hr ht hc he hro
 unfold someB
 rw [List.any_eq_false]
 intro x hx hh
 obtain ⟨s, hs, v1, v2⟩ := mem_casesL.1 hx
 rw [Bool.and_eq_true, Bool.and_eq_true] at hh
 have hsu : x.su = k := of_decide_eq_true hh.2.2
 have ho2 : okV x s = true := by
  unfold okV
  rw [v1, v2]
  simp
 unfold bothV at hs
 rcases List.mem_append.1 hs with hs | hs
 ·rcases List.mem_append.1 hs with hs | hs
  ·have hck0 : ckS c (seatsG r t c).1 = 0 := by
    rcases decG_ok (L := []) hr ht hc he with ⟨_, s2, _⟩ | ⟨s1, _⟩
    ·exact s2
    ·rw [hs0] at s1; cases s1
   have := (votes_for (d := x) (EndP.of hck0) (by omega) h0 hs).2.1 ho2
   rw [this] at hsu
   exact hk hsu.symm
  ·split at hs
   ·rename_i hz
    have hck1 : ckS (sec1 c) (seatsG r t (sec1 c)).1 = 0 := by
     rcases decG_ok (L := []) hr ht (sec1_ok ho) he with ⟨_, s2, _⟩ | ⟨s1, _⟩
     ·exact s2
     ·rw [hz] at s1; cases s1
    have := (votes_for (d := x) (EndP.of hck1) (by omega) h1 hs).2.1 ho2
    rw [this] at hsu
    exact hk hsu.symm
   ·simp at hs
 ·rw [hap s hs x] at ho2
  cases ho2
theorem both_yes {r : Rl} {t : Tm} {c : Cs} {x0 x1 : Ct} {ap : List Stm} (hr : ruleE r = 0) (ht : OkT t) (ho : openB c = true) (he : c.ep = t.ep) (h0 : rightB c x0 = true) (h1 : rightB (sec1 c) x1 = true)
  (hap : ∀ s ∈ ap, ∀ d, okV d s = false) (has : ap.any (askB t.ros c) = decide (ap ≠ [])) (k : Int) :
  saidB r (bothV r t c x0 x1 ap) t c.kd k = (decide (k = c.su) && decide ((if ap ≠ [] ∧ (seatsG r t (sec1 c)).2 = 0 then x1 else x0).li = [1])) := by
 obtain ⟨hc, hro, hkd⟩ := openB_iff.1 ho
 by_cases hk : k = c.su
 ·subst hk
  have hcc : keyC t c.kd c.su = c := by
   cases c
   simp only [keyC] at *
   rw [he, hro]
  unfold saidB
  rw [hcc, both_law hr ht ho he h0 h1 hap has]
  simp
 ·have hn := said_none (r := r) (both_some (x0 := x0) (x1 := x1) hr ht ho he h0 h1 hap hk)
  unfold saidB
  rw [hn]
  simp [hk]
end Go.Proofs.Am
