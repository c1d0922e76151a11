/- UOne. -/
import Derived.Test.YtdfieogkeinkmaaGreatDoorCThree
import Derived.Test.YtdfieogkeinkmaaGreatDoorMTwo
set_option linter.unusedSimpArgs false
set_option linter.unusedVariables false
namespace Go.Proofs.Am
open Go Go.RowKit
open Go.Proofs
def bitK (l : List Int) (k : Int) : Bool := (el l (k.toNat / 32)).toNat.testBit (k.toNat % 32)
def decOK (l : List Int) : Prop := l.length = 2 ∧ 0 ≤ el l 0 ∧ el l 0 < 4294967296 ∧ 0 ≤ el l 1 ∧ el l 1 < 4294967296 ∧ ¬ (el l 0 = 0 ∧ el l 1 = 0)
instance (l : List Int) : Decidable (decOK l) := by unfold decOK; infer_instance
def decL (l : List Int) : List Int × Int := if decOK l then (keysW (bitK l) 64, 0) else ([], 43)
theorem decL_of {l : List Int} (h : decOK l) : decL l = (keysW (bitK l) 64, 0) := if_pos h
theorem decL_no {l : List Int} (h : ¬ decOK l) : decL l = ([], 43) := if_neg h
theorem bit_some {n : Nat} (h0 : n ≠ 0) (h : n < 4294967296) : ∃ i, i < 32 ∧ n.testBit i = true := by
  obtain ⟨i, hi⟩ := Nat.exists_testBit_of_ne_zero h0
  refine ⟨i, ?_, hi⟩
  rcases Nat.lt_or_ge i 32 with h1 | h1
  · exact h1
  · have h2 : n < 2 ^ i := Nat.lt_of_lt_of_le h (by
      have : (4294967296 : Nat) = 2 ^ 32 := by rfl
      rw [this]
      exact Nat.pow_le_pow_right (by omega) h1)
    rw [Nat.testBit_lt_two_pow h2] at hi
    cases hi
theorem bitK_mem {l : List Int} {j i : Nat} (hj : j < 2) (hi : i < 32) (h : (el l j).toNat.testBit i = true) : ((32 * j + i : Nat) : Int) ∈ keysW (bitK l) 64 := by
  refine mem_keysW.2 ⟨⟨by omega, by omega⟩, ?_⟩
  unfold bitK
  rw [Int.toNat_natCast]
  have e1 : (32 * j + i) / 32 = j := by omega
  have e2 : (32 * j + i) % 32 = i := by omega
  rw [e1, e2]
  exact h
theorem dec_ros {l : List Int} (h : decOK l) : rosV (keysW (bitK l) 64) = true := by
  obtain ⟨_, h1, h2, h3, h4, h5⟩ := h
  have key : ∀ j, j < 2 → el l j ≠ 0 → 0 ≤ el l j → el l j < 4294967296 → keysW (bitK l) 64 ≠ [] := fun j hj h0 ha hb e => by
    obtain ⟨i, hi, ht⟩ := bit_some (n := (el l j).toNat) (by omega) (by omega)
    have := bitK_mem hj hi ht
    rw [e] at this
    cases this
  refine keysW_ros ?_
  by_cases h0 : el l 0 = 0
  · exact key 1 (by omega) (fun h => h5 ⟨h0, h⟩) h3 h4
  · exact key 0 (by omega) h0 h1 h2
theorem decL_ros {l : List Int} (h : (decL l).2 = 0) : decOK l ∧ decL l = (keysW (bitK l) 64, 0) ∧ rosV (decL l).1 = true := by
  by_cases hd : decOK l
  · rw [decL_of hd]
    exact ⟨hd, rfl, dec_ros hd⟩
  · rw [decL_no hd] at h
    cases h
def smallN (l : List Int) : Prop := l.length = 2 ∧ 1 ≤ el l 0 ∧ el l 0 ≤ 127 ∧ 0 ≤ el l 1 ∧ el l 1 ≤ 1
theorem smallN.ok {l : List Int} (h : smallN l) : decOK l := ⟨h.1, by have := h.2; omega, by have := h.2; omega, by have := h.2; omega, by have := h.2; omega, by have := h.2; omega⟩
theorem bit_lt {n i k : Nat} (h : n < 2 ^ k) (hi : n.testBit i = true) : i < k := by
  rcases Nat.lt_or_ge i k with h1 | h1
  · exact h1
  · rw [Nat.testBit_lt_two_pow (Nat.lt_of_lt_of_le h (Nat.pow_le_pow_right (by omega) h1))] at hi
    cases hi
theorem smallN.keys {l : List Int} (h : smallN l) : ∀ k ∈ keysW (bitK l) 64, 0 ≤ k ∧ k ≤ 32 := fun k hk => by
  obtain ⟨⟨h0, h1⟩, h2⟩ := mem_keysW.1 hk
  obtain ⟨n, rfl⟩ : ∃ n : Nat, k = n := ⟨k.toNat, by omega⟩
  unfold bitK at h2
  rw [Int.toNat_natCast] at h2
  refine ⟨h0, ?_⟩
  obtain ⟨_, _, _, h5, h6⟩ := h
  have hd : n / 32 = 0 ∨ n / 32 = 1 := by omega
  rcases hd with hd | hd
  · omega
  · rw [hd] at h2
    have := bit_lt (k := 1) (by omega) h2
    omega
theorem mcont_small (l : List Int) (p : Nat) {c : Cs} (hc : c.kd = 1) : smallN (mcont l p c).1.li := by
  have b2 := dnext_lt (l := l) (p := p) (n := 127) (by omega)
  have b3 := dnext_lt (l := l) (p := dgo l p 1) (n := 3) (by omega)
  have e3 : 0 ≤ el ([0, 0, 1] : List Int) (dnext l (dgo l p 1) 3).toNat ∧ el ([0, 0, 1] : List Int) (dnext l (dgo l p 1) 3).toNat ≤ 1 := by
    have : (dnext l (dgo l p 1) 3).toNat = 0 ∨ (dnext l (dgo l p 1) 3).toNat = 1 ∨ (dnext l (dgo l p 1) 3).toNat = 2 := by omega
    rcases this with h | h | h <;> rw [h] <;> decide
  have fin : smallN [1 + dnext l p 127, el ([0, 0, 1] : List Int) (dnext l (dgo l p 1) 3).toNat] := by
    refine ⟨rfl, ?_, ?_, e3.1, e3.2⟩
    · show 1 ≤ 1 + dnext l p 127; omega
    · show 1 + dnext l p 127 ≤ 127; omega
  unfold mcont
  rw [if_neg (by simp [hc])]
  split
  · exact fin
  · exact fin
def nextV (v : List UInt8) (ep : Int) (l : List Int) : List UInt8 := sha ((v ++ be8 ep) ++ lsB l)
theorem nextV_len (v : List UInt8) (ep : Int) (l : List Int) : (nextV v ep l).length = 32 := sha_len _
end Go.Proofs.Am

/- Terms: plain laws. -/
namespace Go.Proofs.Am
open Go Go.RowKit
open Go.Proofs
def rcase (ep : Int) : Cs := ⟨ep, 1, 0, 0⟩
theorem rcase_ok {ep : Int} (h0 : 0 ≤ ep) (h1 : ep < 40) : caseV (rcase ep) = true := caseV_t ⟨h0, h1, by simp [rcase], by simp [rcase], by simp [rcase], by simp [rcase], .inl ⟨rfl, rfl, rfl⟩⟩
structure OkT (t : Tm) : Prop where
  lo : 0 ≤ t.ep
  hi : t.ep < 40
  ros : rosV t.ros = true
  bea : t.bea.length = 32
theorem OkT.len {t : Tm} (h : OkT t) : t.ros.length ≤ 64 := (rosV_pw h.ros).2.2.2
theorem ofRd_ck {r : Rl} {v : List UInt8} {l : List Int} {c d : Cs} {j : Int} {prev : List Int} (hr : ruleE r = 0) (hne : restW l prev ≠ []) (hd : caseV d = true) : ckS d (ofRd r v l c j prev) = 0 := by
  have h1 := (rule0 hr).2.2
  have hl := ofRd_len (r := r) (v := v) (l := l) (c := c) (j := j) (prev := prev)
  have hw : 0 < (restW l prev).length := List.length_pos_iff.2 hne
  rw [ck_seated, if_neg (by simp [hd]), if_pos]
  refine seatedB_iff.2 ⟨fun e => ?_, fun k hk => ?_, ofRd_nodup, by omega⟩
  · rw [e] at hl
    simp only [List.length_nil] at hl
    omega
  · exact keyB_iff.2 (by have := (restW_mem.1 (ofRd_mem hk)).1; omega)
theorem seatsR0 {r : Rl} {t : Tm} {c : Cs} (hr : ruleE r = 0) (ht : OkT t) (hc : caseV c = true) (he : c.ep = t.ep) (h0 : c.ro = 0) : seatsR r t c = (ofRd r t.bea t.ros c 0 [], 0) := by
  unfold seatsR
  rw [if_neg (by simp [he]), ofR_eq, if_neg (by simp [hr]), if_neg (by simp [ht.ros]), if_neg (by simp [hc]), if_pos h0]
def stS (r : Rl) (t : Tm) : List Int := ofRd r t.bea t.ros (rcase t.ep) 0 []
def stA (r : Rl) (L : List Stm) (t : Tm) : List Ct := allV (stS r t) (votesL L (rcase t.ep))
theorem seatsR_st {r : Rl} {t : Tm} (hr : ruleE r = 0) (ht : OkT t) : seatsR r t (rcase t.ep) = (stS r t, 0) := seatsR0 hr ht (rcase_ok ht.lo ht.hi) rfl rfl
theorem stS_ck {r : Rl} {t : Tm} (hr : ruleE r = 0) (ht : OkT t) : ckS (rcase t.ep) (stS r t) = 0 := ofRd_ck hr (restW_nil ht.ros) (rcase_ok ht.lo ht.hi)
theorem stS_len {r : Rl} {t : Tm} (hr : ruleE r = 0) : (stS r t).length ≤ 9 := by
  have h1 := (rule0 hr).2.2
  have := ofRd_len (r := r) (v := t.bea) (l := t.ros) (c := rcase t.ep) (j := 0) (prev := [])
  unfold stS
  omega
def decA (L : List Stm) (c : Cs) (seats : List Int) : List Ct := if ckS c seats = 0 then allV seats (votesL L c) else []
def decR (r : Rl) (L : List Stm) (t : Tm) (c : Cs) : Ct × Bool × Int :=
  if (seatsR r t c).2 ≠ 0 then (noC, false, (seatsR r t c).2) else (oneC (decA L c (seatsR r t c).1), decide ((decA L c (seatsR r t c).1).length = 1), ckS c (seatsR r t c).1)
theorem decR_st {r : Rl} {L : List Stm} {t : Tm} (hr : ruleE r = 0) (ht : OkT t) : decR r L t (rcase t.ep) = (oneC (stA r L t), decide ((stA r L t).length = 1), 0) := by
  unfold decR decA
  rw [seatsR_st hr ht]
  simp only [ne_eq, not_true_eq_false, if_false, stS_ck hr ht, if_true]
  rfl
def fillT (r : Rl) (L : List Stm) (t : Tm) : Tm := { t with dec := decide ((stA r L t).length = 1), nx := oneC (stA r L t) }
theorem fillT_ok {r : Rl} {L : List Stm} {t : Tm} (h : OkT t) : OkT (fillT r L t) := ⟨h.lo, h.hi, h.ros, h.bea⟩
theorem fillT_two (r : Rl) (L M : List Stm) (t : Tm) : fillT r L (fillT r M t) = fillT r L t := rfl
theorem stA_fill (r : Rl) (L M : List Stm) (t : Tm) : stA r L (fillT r M t) = stA r L t := rfl
theorem stS_fill (r : Rl) (M : List Stm) (t : Tm) : stS r (fillT r M t) = stS r t := rfl
def afterT (t : Tm) : Option Tm := if t.dec = true ∧ (decL t.nx.li).2 = 0 then some ⟨t.ep + 1, (decL t.nx.li).1, nextV t.bea t.ep t.nx.li, false, noC⟩ else none
theorem afterT_some {t u : Tm} (h : afterT t = some u) : t.dec = true ∧ (decL t.nx.li).2 = 0 ∧ u = ⟨t.ep + 1, (decL t.nx.li).1, nextV t.bea t.ep t.nx.li, false, noC⟩ := by
  unfold afterT at h
  split at h
  · rename_i h1
    exact ⟨h1.1, h1.2, (Option.some.inj h).symm⟩
  · cases h
theorem afterT_ok {t u : Tm} (ht : OkT t) (h : afterT t = some u) (he : t.ep < 39) : OkT u := by
  obtain ⟨_, h2, rfl⟩ := afterT_some h
  exact ⟨by have := ht.lo; show 0 ≤ t.ep + 1; omega, by show t.ep + 1 < 40; omega, (decL_ros h2).2.2, nextV_len _ _ _⟩
def termsG (r : Rl) (L : List Stm) : Nat → Tm → List Tm
  | 0, _ => []
  | n + 1, t => fillT r L t :: (match afterT (fillT r L t) with | none => [] | some u => termsG r L n u)
def termsX (r : Rl) (L : List Stm) : List Tm := termsG r L 40 (term0 r)
theorem term0_ok {r : Rl} (hr : ruleE r = 0) : OkT (term0 r) := ⟨Int.le_refl _, by show (0 : Int) < 40; omega, (rule0 hr).1, sha_len _⟩
theorem termsG_len (r : Rl) (L : List Stm) : ∀ n t, (termsG r L n t).length ≤ n
  | 0, _ => Nat.le_refl _
  | n + 1, t => by
    simp only [termsG, List.length_cons]
    split
    · simp
    · have := termsG_len r L n
      rename_i u _
      have := this u
      omega
theorem termsG_pos (r : Rl) (L : List Stm) (n : Nat) (t : Tm) : 0 < (termsG r L (n + 1) t).length := by simp [termsG]
theorem el_zero {α : Type} [Inhabited α] (a : α) (l : List α) : el (a :: l) 0 = a := rfl
theorem el_cons {α : Type} [Inhabited α] (a : α) (l : List α) (i : Nat) : el (a :: l) (i + 1) = el l i := rfl
theorem termsG_spec (r : Rl) (L : List Stm) : ∀ (n : Nat) t, OkT t → t.ep + n = 40 → ∀ i, i < (termsG r L n t).length →
    OkT (el (termsG r L n t) i) ∧ (el (termsG r L n t) i).ep = t.ep + i ∧ fillT r L (el (termsG r L n t) i) = el (termsG r L n t) i ∧
    (i + 1 < (termsG r L n t).length → ∃ w, afterT (el (termsG r L n t) i) = some w ∧ el (termsG r L n t) (i + 1) = fillT r L w)
  | 0, _, _, _, i, hi => by simp [termsG] at hi
  | n + 1, t, ht, hn, i, hi => by
    simp only [termsG] at hi ⊢
    cases ha : afterT (fillT r L t) with
    | none =>
      rw [ha] at hi
      simp only [List.length_singleton] at hi
      obtain rfl : i = 0 := by omega
      simp only [el_zero, List.length_singleton]
      exact ⟨fillT_ok ht, by show t.ep = t.ep + 0; omega, rfl, fun h => by omega⟩
    | some u =>
      rw [ha] at hi
      simp only [List.length_cons] at hi ⊢
      have hu : u.ep = t.ep + 1 := by rw [(afterT_some ha).2.2]; rfl
      cases i with
      | zero =>
        simp only [el_zero, el_cons]
        refine ⟨fillT_ok ht, by show t.ep = t.ep + 0; omega, rfl, fun h => ⟨u, ha, ?_⟩⟩
        cases n with
        | zero => simp [termsG] at h
        | succ n => rfl
      | succ i =>
        simp only [el_cons]
        have hi' : i < (termsG r L n u).length := by omega
        have h0 : 0 < n := by
          cases n with
          | zero => simp [termsG] at hi'
          | succ n => omega
        have ih := termsG_spec r L n u (afterT_ok (fillT_ok ht) ha (by show t.ep < 39; omega)) (by omega) i hi'
        refine ⟨ih.1, by rw [ih.2.1, hu]; omega, ih.2.2.1, fun h => ih.2.2.2 (by omega)⟩
theorem termsX_spec {r : Rl} (hr : ruleE r = 0) (L : List Stm) {i : Nat} (hi : i < (termsX r L).length) :
    OkT (el (termsX r L) i) ∧ (el (termsX r L) i).ep = i ∧ fillT r L (el (termsX r L) i) = el (termsX r L) i ∧
    (i + 1 < (termsX r L).length → ∃ w, afterT (el (termsX r L) i) = some w ∧ el (termsX r L) (i + 1) = fillT r L w) := by
  have := termsG_spec r L 40 (term0 r) (term0_ok hr) rfl i hi
  refine ⟨this.1, this.2.1.trans ?_, this.2.2⟩
  show (0 : Int) + i = i
  omega
theorem termsX_first (r : Rl) (L : List Stm) : el (termsX r L) 0 = fillT r L (term0 r) := rfl
theorem termsX_pos (r : Rl) (L : List Stm) : 0 < (termsX r L).length := termsG_pos r L 39 _
theorem termsX_len (r : Rl) (L : List Stm) : (termsX r L).length ≤ 40 := termsG_len r L 40 _
end Go.Proofs.Am

/- The mill's chain of votes for rosters: plain laws. -/
namespace Go.Proofs.Am
open Go Go.RowKit
open Go.Proofs
structure ChS where
  p : Nat
  L : List Stm
  ros : List Int
  v : List UInt8
deriving Inhabited
def chS (r : Rl) (ep : Int) (s : ChS) : List Int := ofRd r s.v s.ros (rcase ep) 0 []
def chVote (l : List Int) (ep : Int) (x y : Ct) (k : Int) (st : Nat × List Stm) : Nat × List Stm :=
  (dgo l st.1 1, st.2 ++ (if dnext l st.1 14 = 0 then [] else if dnext l st.1 14 = 1 then [vt k ep (rcase ep) y] else if dnext l st.1 14 = 2 then [vt k ep (rcase ep) x, vt k (ep + 9) (rcase ep) y] else [vt k ep (rcase ep) x]))
def chGo (l : List Int) (ep : Int) (x y : Ct) (seats : List Int) (st : Nat × List Stm) : Nat → Nat × List Stm
  | 0 => st
  | i + 1 => chVote l ep x y (el seats i) (chGo l ep x y seats st i)
def chX (l : List Int) (ep : Int) (s : ChS) : Ct × Nat := mcont l (dgo l s.p 1) (rcase ep)
def chY (l : List Int) (ep : Int) (s : ChS) : Ct × Nat := mcont l (chX l ep s).2 (rcase ep)
def chStep (l : List Int) (r : Rl) (ep : Int) (s : ChS) : ChS :=
  ⟨(chGo l ep (chX l ep s).1 (chY l ep s).1 (chS r ep s) ((chY l ep s).2, s.L) (chS r ep s).length).1,
   (chGo l ep (chX l ep s).1 (chY l ep s).1 (chS r ep s) ((chY l ep s).2, s.L) (chS r ep s).length).2,
   (decL (chX l ep s).1.li).1, nextV s.v ep (chX l ep s).1.li⟩
def chRun (l : List Int) (r : Rl) : Nat → Nat → ChS → ChS
  | 0, _, s => s
  | n + 1, ep, s => if (ep : Int) < dnext l s.p 4 then chRun l r n (ep + 1) (chStep l r ep s) else { s with p := dgo l s.p 1 }
def chain0 (l : List Int) (p : Nat) : ChS := ⟨dgo l p 8, [], (mrules l p).gen, firstV (mrules l p)⟩
def chainX (l : List Int) (p : Nat) : ChS := chRun l (mrules l p) 4 0 (chain0 l p)
def ChV (t : Stm) : Prop := ∃ k nu e x, t = vt k nu (rcase e) x ∧ (0 ≤ k ∧ k ≤ 63) ∧ (0 ≤ nu ∧ nu ≤ 199) ∧ (0 ≤ e ∧ e < 40) ∧ okCt x ∧ rightB (rcase e) x = true ∧ smallN x.li
theorem ChV.ok {t : Stm} (h : ChV t) : okS t := by
  obtain ⟨k, nu, e, x, rfl, _, _, _, hx, _⟩ := h
  exact vt_okS _ _ _ hx
structure ChI (l : List Int) (ep : Nat) (s : ChS) : Prop where
  p : s.p ≤ l.length
  ros : rosV s.ros = true
  low : ∀ k ∈ s.ros, 0 ≤ k ∧ k ≤ 32
  v : s.v.length = 32
  len : s.L.length ≤ 18 * ep
  ok : ∀ t ∈ s.L, ChV t
theorem mrules_gen (l : List Int) (p : Nat) : ∀ k ∈ (mrules l p).gen, 0 ≤ k ∧ k ≤ 32 := by
  have hsub : ∀ (m : Nat), ∀ k ∈ ([0, 1, 2, 3, 4, 5, 6] : List Int).take m, 0 ≤ k ∧ k ≤ 32 := fun m k hk => by
    have := List.mem_of_mem_take hk
    simp at this
    omega
  unfold mrules mrulesQ
  first
  | exact hsub _
  | (split <;> exact hsub _)
theorem chS_len {r : Rl} (hr : ruleE r = 0) (ep : Int) (s : ChS) : (chS r ep s).length ≤ 9 := by
  have h1 := (rule0 hr).2.2
  have := ofRd_len (r := r) (v := s.v) (l := s.ros) (c := rcase ep) (j := 0) (prev := [])
  unfold chS
  omega
theorem chS_mem {r : Rl} {ep : Int} {s : ChS} {k : Int} (h : k ∈ chS r ep s) : k ∈ s.ros ∧ 0 ≤ k ∧ k < 64 := by
  have := restW_mem.1 (ofRd_mem h)
  exact ⟨this.2.1, this.1.1, this.1.2⟩
theorem chVote_ok {l : List Int} {ep : Int} {x y : Ct} {k : Int} {st : Nat × List Stm} (h1 : st.1 ≤ l.length) (h2 : ∀ t ∈ st.2, ChV t) (hk : 0 ≤ k ∧ k ≤ 63) (he : 0 ≤ ep ∧ ep < 40) (hx : okCt x) (hy : okCt y) (rx : rightB (rcase ep) x = true) (ry : rightB (rcase ep) y = true) (sx : smallN x.li) (sy : smallN y.li) :
    (chVote l ep x y k st).1 ≤ l.length ∧ (∀ t ∈ (chVote l ep x y k st).2, ChV t) ∧ (chVote l ep x y k st).2.length ≤ st.2.length + 2 := by
  have vx : ∀ nu, 0 ≤ nu ∧ nu ≤ 199 → ChV (vt k nu (rcase ep) x) := fun nu hn => ⟨k, nu, ep, x, rfl, hk, hn, he, hx, rx, sx⟩
  have vy : ∀ nu, 0 ≤ nu ∧ nu ≤ 199 → ChV (vt k nu (rcase ep) y) := fun nu hn => ⟨k, nu, ep, y, rfl, hk, hn, he, hy, ry, sy⟩
  refine ⟨dgo_le h1 1, fun t ht => ?_, ?_⟩
  · rcases List.mem_append.1 ht with h | h
    · exact h2 t h
    · split at h
      · simp at h
      split at h
      · rw [List.mem_singleton] at h; subst h; exact vy _ (by omega)
      split at h
      · rcases List.mem_cons.1 h with rfl | h
        · exact vx _ (by omega)
        · rw [List.mem_singleton] at h; subst h; exact vy _ (by omega)
      · rw [List.mem_singleton] at h; subst h; exact vx _ (by omega)
  · simp only [chVote, List.length_append]
    (repeat' split) <;> simp
theorem chGo_ok {l : List Int} {ep : Int} {x y : Ct} {seats : List Int} {st : Nat × List Stm} (h1 : st.1 ≤ l.length) (h2 : ∀ t ∈ st.2, ChV t) (hk : ∀ k ∈ seats, 0 ≤ k ∧ k ≤ 63) (he : 0 ≤ ep ∧ ep < 40) (hx : okCt x) (hy : okCt y) (rx : rightB (rcase ep) x = true) (ry : rightB (rcase ep) y = true) (sx : smallN x.li) (sy : smallN y.li) :
    ∀ i, i ≤ seats.length → (chGo l ep x y seats st i).1 ≤ l.length ∧ (∀ t ∈ (chGo l ep x y seats st i).2, ChV t) ∧ (chGo l ep x y seats st i).2.length ≤ st.2.length + 2 * i
  | 0, _ => ⟨h1, h2, Nat.le_refl _⟩
  | i + 1, hi => by
    obtain ⟨a1, a2, a3⟩ := chGo_ok h1 h2 hk he hx hy rx ry sx sy i (by omega)
    obtain ⟨b1, b2, b3⟩ := chVote_ok (l := l) (ep := ep) (x := x) (y := y) (k := el seats i) a1 a2 (hk _ (el_mem (by omega))) he hx hy rx ry sx sy
    exact ⟨b1, b2, by simp only [chGo]; omega⟩
theorem chStep_ok {l : List Int} {r : Rl} {ep : Nat} {s : ChS} (hr : ruleE r = 0) (he : ep < 40) (h : ChI l ep s) : ChI l (ep + 1) (chStep l r ep s) := by
  have hc : caseV (rcase (ep : Int)) = true := rcase_ok (by omega) (by omega)
  have x1 := mcont_ok l (dgo l s.p 1) (rcase (ep : Int))
  have x2 := mcont_right l (dgo l s.p 1) hc
  have x3 := mcont_small l (dgo l s.p 1) (c := rcase (ep : Int)) rfl
  have x4 := mcont_le (dgo_le h.p 1) (rcase (ep : Int))
  have y1 := mcont_ok l (chX l ep s).2 (rcase (ep : Int))
  have y2 := mcont_right l (chX l ep s).2 hc
  have y3 := mcont_small l (chX l ep s).2 (c := rcase (ep : Int)) rfl
  have y4 := mcont_le (l := l) (p := (chX l ep s).2) x4 (rcase (ep : Int))
  have hl := chS_len hr (ep : Int) s
  have g := chGo_ok (l := l) (ep := ep) (x := (chX l ep s).1) (y := (chY l ep s).1) (seats := chS r ep s) (st := ((chY l ep s).2, s.L)) y4 h.ok (fun k hk => by have := chS_mem hk; omega) (by omega) x1 y1 x2 y2 x3 y3 _ (Nat.le_refl _)
  have hd := decL_of (smallN.ok x3)
  refine ⟨g.1, ?_, ?_, nextV_len _ _ _, by have := g.2.2; have := h.len; show (chGo l ep (chX l ep s).1 (chY l ep s).1 (chS r ep s) ((chY l ep s).2, s.L) (chS r ep s).length).2.length ≤ _; simp only at *; omega, g.2.1⟩
  · show rosV (decL (chX l ep s).1.li).1 = true
    unfold chX
    rw [hd]
    exact dec_ros (smallN.ok x3)
  · show ∀ k ∈ (decL (chX l ep s).1.li).1, _
    unfold chX
    rw [hd]
    exact smallN.keys x3
theorem ChI.mono {l : List Int} {ep ep' : Nat} {s : ChS} (h : ChI l ep s) (he : ep ≤ ep') : ChI l ep' s := ⟨h.p, h.ros, h.low, h.v, by have := h.len; omega, h.ok⟩
theorem chRun_ok {l : List Int} {r : Rl} (hr : ruleE r = 0) : ∀ n ep s, ep + n ≤ 40 → ChI l ep s → ChI l (ep + n) (chRun l r n ep s)
  | 0, _, _, _, h => h
  | n + 1, ep, s, he, h => by
    unfold chRun
    split
    · have := chRun_ok hr n (ep + 1) _ (by omega) (chStep_ok hr (by omega) h)
      rwa [show ep + (n + 1) = ep + 1 + n by omega]
    · exact ⟨dgo_le h.p 1, h.ros, h.low, h.v, by have := h.len; show s.L.length ≤ _; omega, h.ok⟩
theorem chain0_ok {l : List Int} {p : Nat} (hp : p ≤ l.length) : ChI l 0 (chain0 l p) :=
  ⟨dgo_le hp 8, (rule0 (mrules_ok l p)).1, mrules_gen l p, sha_len _, Nat.le_refl _, fun t ht => by simp [chain0] at ht⟩
theorem chainX_ok {l : List Int} {p : Nat} (hp : p ≤ l.length) : ChI l 4 (chainX l p) := chRun_ok (mrules_ok l p) 4 0 _ (by omega) (chain0_ok hp)
end Go.Proofs.Am

/- A first committee that votes for one content, or for two: plain laws. -/
namespace Go.Proofs.Am
open Go Go.RowKit
open Go.Proofs
structure EndP (c : Cs) (seats : List Int) : Prop where
  c : caseV c = true
  nd : seats.Nodup
  n0 : 1 ≤ seats.length
  n9 : seats.length ≤ 9
  k : ∀ k ∈ seats, 0 ≤ k ∧ k ≤ 63
theorem EndP.of {c : Cs} {seats : List Int} (h : ckS c seats = 0) : EndP c seats := by
  obtain ⟨h1, h2, h3, h4⟩ := ckS_zero h
  have h5 : seatedB seats = true := by
    rw [ck_seated, if_neg (by simp [h1])] at h
    split at h
    · assumption
    · cases h
  have h6 := (seatedB_iff.1 h5).1
  exact ⟨h1, h3, List.length_pos_iff.2 h6, h2, fun k hk => by have := h4 k hk; omega⟩
theorem terms_stop {r : Rl} {L : List Stm} (h : (stA r L (term0 r)).length ≠ 1) : termsX r L = [fillT r L (term0 r)] ∧ (fillT r L (term0 r)).dec = false := by
  have hd : (fillT r L (term0 r)).dec = false := decide_eq_false h
  refine ⟨?_, hd⟩
  show termsG r L (39 + 1) (term0 r) = _
  simp only [termsG]
  unfold afterT
  rw [if_neg (by simp [hd])]
end Go.Proofs.Am
