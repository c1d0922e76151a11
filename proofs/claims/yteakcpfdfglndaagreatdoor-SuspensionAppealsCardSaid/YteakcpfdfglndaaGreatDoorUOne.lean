/- UOne. -/
import Derived.Test.YteakcpfdfglndaaGreatDoorCThree
import Derived.Test.YteakcpfdfglndaaGreatDoorMTwo
set_option linter.unusedSimpArgs false
set_option linter.unusedVariables false
namespace Go.Proofs.Am
open Go Go.RowKit
open Go.Proofs
def bitK (l : List Int) (k : Int) : Bool := (el l (k.toNat / 32)).toNat.testBit (k.toNat % 32)
def decOK (l : List Int) : Prop := l.length = 2 ∧ 0 ≤ el l 0 ∧ el l 0 < 4294967296 ∧ 0 ≤ el l 1 ∧ el l 1 < 4294967296 ∧ ¬ (el l 0 = 0 ∧ el l 1 = 0)
instance (l : List Int) : Decidable (decOK l) := by unfold decOK; infer_instance
def decL (l : List Int) : List Int × Int := if decOK l then (keysW (bitK l) 64, 0) else ([], 43)
def smallN (l : List Int) : Prop := l.length = 2 ∧ 1 ≤ el l 0 ∧ el l 0 ≤ 127 ∧ 0 ≤ el l 1 ∧ el l 1 ≤ 1
theorem smallN.ok {l : List Int} (h : smallN l) : decOK l := ⟨h.1, by have := h.2; omega, by have := h.2; omega, by have := h.2; omega, by have := h.2; omega, by have := h.2; omega⟩
def nextV (v : List UInt8) (ep : Int) (l : List Int) : List UInt8 := sha ((v ++ be8 ep) ++ lsB l)
end Go.Proofs.Am

/- Terms: plain laws. -/
namespace Go.Proofs.Am
open Go Go.RowKit
open Go.Proofs
def rcase (ep : Int) : Cs := ⟨ep, 1, 0, 0⟩
structure OkT (t : Tm) : Prop where
 lo : 0 ≤ t.ep
 hi : t.ep < 40
 ros : rosV t.ros = true
 bea : t.bea.length = 32
theorem OkT.len {t : Tm} (h : OkT t) : t.ros.length ≤ 64 := (rosV_pw h.ros).2.2.2
theorem ofRd_ck {r : Rl} {v : List UInt8} {l : List Int} {c d : Cs} {j : Int} {prev : List Int} (hr : ruleE r = 0) (hne : restW l prev ≠ []) (hd : caseV d = true) : ckS d (ofRd r v l c j prev) = 0 := by
 have h1 := (rule0 hr).2.2
 have hl := ofRd_len (r := r) (v := v) (l := l) (c := c) (j := j) (prev := prev)
 have hw : 0 < (restW l prev).length := List.length_pos_iff.2 hne
 rw [ck_seated, if_neg (by simp [hd]), if_pos]
 refine seatedB_iff.2 ⟨fun e => ?_, fun k hk => ?_, ofRd_nodup, by omega⟩
 ·rw [e] at hl
  simp only [List.length_nil] at hl
  omega
 ·exact keyB_iff.2 (by have := (restW_mem.1 (ofRd_mem hk)).1; omega)
theorem seatsR0 {r : Rl} {t : Tm} {c : Cs} (hr : ruleE r = 0) (ht : OkT t) (hc : caseV c = true) (he : c.ep = t.ep) (h0 : c.ro = 0) : seatsR r t c = (ofRd r t.bea t.ros c 0 [], 0) := by
 unfold seatsR
 rw [if_neg (by simp [he]), ofR_eq, if_neg (by simp [hr]), if_neg (by simp [ht.ros]), if_neg (by simp [hc]), if_pos h0]
theorem seatsR_any {r : Rl} {t : Tm} {c : Cs} (hr : ruleE r = 0) (ht : OkT t) (hc : caseV c = true) (he : c.ep = t.ep) : ((seatsR r t c).2 = 0 ∨ (seatsR r t c).2 = 44) ∧ (seatsR r t c).1.Nodup ∧ (∀ k ∈ (seatsR r t c).1, k ∈ t.ros) ∧ ((seatsR r t c).2 = 0 → ckS c (seatsR r t c).1 = 0) := by
 have hn : ∀ j prev, (ofRd r t.bea t.ros c j prev).Nodup ∧ ∀ k ∈ ofRd r t.bea t.ros c j prev, k ∈ t.ros := fun j prev => ⟨ofRd_nodup, fun k hk => (restW_mem.1 (ofRd_mem hk)).2.1⟩
 unfold seatsR
 rw [if_neg (by simp [he]), ofR_eq, if_neg (by simp [hr]), if_neg (by simp [ht.ros]), if_neg (by simp [hc])]
 split
 ·exact ⟨.inl rfl, (hn _ _).1, (hn _ _).2, fun _ => ofRd_ck hr (restW_nil ht.ros) hc⟩
 ·split
  ·exact ⟨.inr rfl, List.Pairwise.nil, fun k hk => absurd hk (by simp), fun h => by cases h⟩
  ·rename_i h
   exact ⟨.inl rfl, (hn _ _).1, (hn _ _).2, fun _ => ofRd_ck hr h hc⟩
def stS (r : Rl) (t : Tm) : List Int := ofRd r t.bea t.ros (rcase t.ep) 0 []
def stA (r : Rl) (L : List Stm) (t : Tm) : List Ct := allV (stS r t) (votesL L (rcase t.ep))
def decA (L : List Stm) (c : Cs) (seats : List Int) : List Ct := if ckS c seats = 0 then allV seats (votesL L c) else []
def fillT (r : Rl) (L : List Stm) (t : Tm) : Tm := { t with dec := decide ((stA r L t).length = 1), nx := oneC (stA r L t) }
theorem fillT_two (r : Rl) (L M : List Stm) (t : Tm) : fillT r L (fillT r M t) = fillT r L t := rfl
theorem stA_fill (r : Rl) (L M : List Stm) (t : Tm) : stA r L (fillT r M t) = stA r L t := rfl
theorem stS_fill (r : Rl) (M : List Stm) (t : Tm) : stS r (fillT r M t) = stS r t := rfl
def afterT (t : Tm) : Option Tm := if t.dec = true ∧ (decL t.nx.li).2 = 0 then some ⟨t.ep + 1, (decL t.nx.li).1, nextV t.bea t.ep t.nx.li, false, noC⟩ else none
def termsG (r : Rl) (L : List Stm) : Nat → Tm → List Tm
 | 0, _ => []
 | n + 1, t => fillT r L t :: (match afterT (fillT r L t) with | none => [] | some u => termsG r L n u)
def termsX (r : Rl) (L : List Stm) : List Tm := termsG r L 40 (term0 r)
theorem term0_ok {r : Rl} (hr : ruleE r = 0) : OkT (term0 r) := ⟨Int.le_refl _, by show (0 : Int) < 40; omega, (rule0 hr).1, sha_len _⟩
theorem el_zero {α : Type} [Inhabited α] (a : α) (l : List α) : el (a :: l) 0 = a := rfl
theorem el_cons {α : Type} [Inhabited α] (a : α) (l : List α) (i : Nat) : el (a :: l) (i + 1) = el l i := rfl
theorem termsX_first (r : Rl) (L : List Stm) : el (termsX r L) 0 = fillT r L (term0 r) := rfl
end Go.Proofs.Am

/- The mill's chain of votes for rosters: plain laws. -/
namespace Go.Proofs.Am
open Go Go.RowKit
open Go.Proofs
structure ChS where
 p : Nat
 L : List Stm
 ros : List Int
 v : List UInt8
deriving Inhabited
def chS (r : Rl) (ep : Int) (s : ChS) : List Int := ofRd r s.v s.ros (rcase ep) 0 []
def chVote (l : List Int) (ep : Int) (x y : Ct) (k : Int) (st : Nat × List Stm) : Nat × List Stm :=
 (dgo l st.1 1, st.2 ++ (if dnext l st.1 14 = 0 then [] else if dnext l st.1 14 = 1 then [vt k ep (rcase ep) y] else if dnext l st.1 14 = 2 then [vt k ep (rcase ep) x, vt k (ep + 9) (rcase ep) y] else [vt k ep (rcase ep) x]))
def chGo (l : List Int) (ep : Int) (x y : Ct) (seats : List Int) (st : Nat × List Stm) : Nat → Nat × List Stm
 | 0 => st
 | i + 1 => chVote l ep x y (el seats i) (chGo l ep x y seats st i)
def chX (l : List Int) (ep : Int) (s : ChS) : Ct × Nat := mcont l (dgo l s.p 1) (rcase ep)
def chY (l : List Int) (ep : Int) (s : ChS) : Ct × Nat := mcont l (chX l ep s).2 (rcase ep)
def chStep (l : List Int) (r : Rl) (ep : Int) (s : ChS) : ChS :=
 ⟨(chGo l ep (chX l ep s).1 (chY l ep s).1 (chS r ep s) ((chY l ep s).2, s.L) (chS r ep s).length).1,
  (chGo l ep (chX l ep s).1 (chY l ep s).1 (chS r ep s) ((chY l ep s).2, s.L) (chS r ep s).length).2,
  (decL (chX l ep s).1.li).1, nextV s.v ep (chX l ep s).1.li⟩
def ChV (t : Stm) : Prop := ∃ k nu e x, t = vt k nu (rcase e) x ∧ (0 ≤ k ∧ k ≤ 63) ∧ (0 ≤ nu ∧ nu ≤ 199) ∧ (0 ≤ e ∧ e < 40) ∧ okCt x ∧ rightB (rcase e) x = true ∧ smallN x.li
theorem ChV.ok {t : Stm} (h : ChV t) : okS t := by
 obtain ⟨k, nu, e, x, rfl, _, _, _, hx, _⟩ := h
 exact vt_okS _ _ _ hx
structure ChI (l : List Int) (ep : Nat) (s : ChS) : Prop where
 p : s.p ≤ l.length
 ros : rosV s.ros = true
 low : ∀ k ∈ s.ros, 0 ≤ k ∧ k ≤ 32
 v : s.v.length = 32
 len : s.L.length ≤ 18 * ep
 ok : ∀ t ∈ s.L, ChV t
theorem ChI.mono {l : List Int} {ep ep' : Nat} {s : ChS} (h : ChI l ep s) (he : ep ≤ ep') : ChI l ep' s := ⟨h.p, h.ros, h.low, h.v, by have := h.len; omega, h.ok⟩
end Go.Proofs.Am

/- A first committee that votes for one content, or for two: plain laws. -/
namespace Go.Proofs.Am
open Go Go.RowKit
open Go.Proofs
def allFor (c : Cs) (nu : Int) (x : Ct) (seats : List Int) : List Stm := seats.map fun k => vt k nu c x
theorem mem_allFor {c : Cs} {nu : Int} {x : Ct} {seats : List Int} {s : Stm} : s ∈ allFor c nu x seats ↔ ∃ k ∈ seats, vt k nu c x = s := by simp [allFor]
theorem nodup_one {α : Type} {l : List α} {x : α} (hn : l.Nodup) (hx : x ∈ l) (h : ∀ y ∈ l, y = x) : l = [x] := by
 match l, hn, hx, h with
 | [], _, hx, _ => simp at hx
 | [y], _, _, h => rw [h y (by simp)]
 | y :: z :: r, hn, _, h =>
  have h1 := h y (by simp)
  have h2 := h z (by simp)
  subst h1
  subst h2
  simp at hn
theorem enoB_all {n : Nat} (h1 : 1 ≤ n) (h9 : n ≤ 9) : enoB n n = true := decide_eq_true (by omega)
structure EndP (c : Cs) (seats : List Int) : Prop where
 c : caseV c = true
 nd : seats.Nodup
 n0 : 1 ≤ seats.length
 n9 : seats.length ≤ 9
 k : ∀ k ∈ seats, 0 ≤ k ∧ k ≤ 63
theorem EndP.of {c : Cs} {seats : List Int} (h : ckS c seats = 0) : EndP c seats := by
 obtain ⟨h1, h2, h3, h4⟩ := ckS_zero h
 have h5 : seatedB seats = true := by
  rw [ck_seated, if_neg (by simp [h1])] at h
  split at h
  ·assumption
  ·cases h
 have h6 := (seatedB_iff.1 h5).1
 exact ⟨h1, h3, List.length_pos_iff.2 h6, h2, fun k hk => by have := h4 k hk; omega⟩
theorem allFor_vote {c : Cs} {seats : List Int} {nu : Int} {x : Ct} (hE : EndP c seats) (hn : 0 ≤ nu ∧ nu ≤ 199) (hx : rightB c x = true) {k : Int} (hk : k ∈ seats) : ∀ L, (∀ s ∈ allFor c nu x seats, s ∈ L) → ∃ y ∈ votesL L c, y.x = x ∧ y.k = k := fun L hL => by
 have hv := voteE_vt (hE.k k hk) hn hx
 refine ⟨⟨k, c, x⟩, mem_votesL.2 ⟨vt k nu c x, hL _ (mem_allFor.2 ⟨k, hk, rfl⟩), okV_vt (hE.k k hk) hn hx, by rw [hv]⟩, rfl, rfl⟩
theorem allFor_in {c : Cs} {seats : List Int} {nu : Int} {x : Ct} (hE : EndP c seats) (hn : 0 ≤ nu ∧ nu ≤ 199) (hx : rightB c x = true) {L : List Stm} (hL : ∀ s ∈ allFor c nu x seats, s ∈ L) : x ∈ allV seats (votesL L c) :=
 allV_of hE.nd (fun k hk => ⟨hk, allFor_vote hE hn hx hk L hL⟩) (enoB_all hE.n0 hE.n9)
theorem votes_for {c d : Cs} {seats : List Int} {nu : Int} {x : Ct} (hE : EndP c seats) (hn : 0 ≤ nu ∧ nu ≤ 199) (hx : rightB c x = true) {s : Stm} (hs : s ∈ allFor c nu x seats) : (voteE s).1.x = x ∧ (okV d s = true → d = c) ∧ s.au ∈ seats := by
 obtain ⟨k, hk, rfl⟩ := mem_allFor.1 hs
 have hv := voteE_vt (hE.k k hk) hn hx
 refine ⟨by rw [hv], fun h => ?_, hk⟩
 unfold okV at h
 rw [hv] at h
 simpa using (Eq.symm (of_decide_eq_true (Bool.and_eq_true_iff.1 h).2))
theorem all_vote {seats : List Int} {L : List Stm} {c : Cs} {u : Ct} (h : u ∈ allV seats (votesL L c)) : ∃ s ∈ L, okV c s = true ∧ (voteE s).1.x = u := by
 obtain ⟨n, hn, e1, he⟩ := mem_allV.1 h
 have hk : n.ks ≠ [] := (cnR_spec _ _).r4 n hn
 obtain ⟨k, ks, hk⟩ := List.exists_cons_of_ne_nil hk
 obtain ⟨_, y, hy, e, _⟩ := ks_vote hn (k := k) (by rw [hk]; simp)
 obtain ⟨s, s1, s2, s3⟩ := mem_votesL.1 hy
 exact ⟨s, s1, s2, by rw [s3, e, e1]⟩
end Go.Proofs.Am
