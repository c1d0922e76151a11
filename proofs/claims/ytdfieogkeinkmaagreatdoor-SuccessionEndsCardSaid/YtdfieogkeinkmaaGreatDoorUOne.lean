/- Rosters as two numbers: plain laws. -/
import Derived.Test.YtdfieogkeinkmaaGreatDoorCThree
import Derived.Test.YtdfieogkeinkmaaGreatDoorMTwo
set_option linter.unusedSimpArgs false
set_option linter.unusedVariables false
namespace Go.Proofs.Am
open Go Go.RowKit
open Go.Proofs

/-- The bit of a key in two numbers. -/
def bitK (l : List Int) (k : Int) : Bool := (el l (k.toNat / 32)).toNat.testBit (k.toNat % 32)
def decOK (l : List Int) : Prop := l.length = 2 ∧ 0 ≤ el l 0 ∧ el l 0 < 4294967296 ∧ 0 ≤ el l 1 ∧ el l 1 < 4294967296 ∧ ¬ (el l 0 = 0 ∧ el l 1 = 0)
instance (l : List Int) : Decidable (decOK l) := by unfold decOK; infer_instance
def decL (l : List Int) : List Int × Int := if decOK l then (keysW (bitK l) 64, 0) else ([], 43)
theorem decL_of {l : List Int} (h : decOK l) : decL l = (keysW (bitK l) 64, 0) := if_pos h
theorem decL_no {l : List Int} (h : ¬ decOK l) : decL l = ([], 43) := if_neg h
theorem bit_some {n : Nat} (h0 : n ≠ 0) (h : n < 4294967296) : ∃ i, i < 32 ∧ n.testBit i = true := by
  obtain ⟨i, hi⟩ := Nat.exists_testBit_of_ne_zero h0
  refine ⟨i, ?_, hi⟩
  rcases Nat.lt_or_ge i 32 with h1 | h1
  · exact h1
  · have h2 : n < 2 ^ i := Nat.lt_of_lt_of_le h (by
      have : (4294967296 : Nat) = 2 ^ 32 := by rfl
      rw [this]
      exact Nat.pow_le_pow_right (by omega) h1)
    rw [Nat.testBit_lt_two_pow h2] at hi
    cases hi
theorem bitK_mem {l : List Int} {j i : Nat} (hj : j < 2) (hi : i < 32) (h : (el l j).toNat.testBit i = true) : ((32 * j + i : Nat) : Int) ∈ keysW (bitK l) 64 := by
  refine mem_keysW.2 ⟨⟨by omega, by omega⟩, ?_⟩
  unfold bitK
  rw [Int.toNat_natCast]
  have e1 : (32 * j + i) / 32 = j := by omega
  have e2 : (32 * j + i) % 32 = i := by omega
  rw [e1, e2]
  exact h
/-- What is decoded is a roster. -/
theorem dec_ros {l : List Int} (h : decOK l) : rosV (keysW (bitK l) 64) = true := by
  obtain ⟨_, h1, h2, h3, h4, h5⟩ := h
  have key : ∀ j, j < 2 → el l j ≠ 0 → 0 ≤ el l j → el l j < 4294967296 → keysW (bitK l) 64 ≠ [] := fun j hj h0 ha hb e => by
    obtain ⟨i, hi, ht⟩ := bit_some (n := (el l j).toNat) (by omega) (by omega)
    have := bitK_mem hj hi ht
    rw [e] at this
    cases this
  refine keysW_ros ?_
  by_cases h0 : el l 0 = 0
  · exact key 1 (by omega) (fun h => h5 ⟨h0, h⟩) h3 h4
  · exact key 0 (by omega) h0 h1 h2
theorem decL_ros {l : List Int} (h : (decL l).2 = 0) : decOK l ∧ decL l = (keysW (bitK l) 64, 0) ∧ rosV (decL l).1 = true := by
  by_cases hd : decOK l
  · rw [decL_of hd]
    exact ⟨hd, rfl, dec_ros hd⟩
  · rw [decL_no hd] at h
    cases h
/-- Small numbers: the first seven keys, and one more. -/
def smallN (l : List Int) : Prop := l.length = 2 ∧ 1 ≤ el l 0 ∧ el l 0 ≤ 127 ∧ 0 ≤ el l 1 ∧ el l 1 ≤ 1
theorem smallN.ok {l : List Int} (h : smallN l) : decOK l := ⟨h.1, by have := h.2; omega, by have := h.2; omega, by have := h.2; omega, by have := h.2; omega, by have := h.2; omega⟩
theorem mcont_small (l : List Int) (p : Nat) {c : Cs} (hc : c.kd = 1) : smallN (mcont l p c).1.li := by
  have b2 := dnext_lt (l := l) (p := p) (n := 127) (by omega)
  have b3 := dnext_lt (l := l) (p := dgo l p 1) (n := 3) (by omega)
  have e3 : 0 ≤ el ([0, 0, 1] : List Int) (dnext l (dgo l p 1) 3).toNat ∧ el ([0, 0, 1] : List Int) (dnext l (dgo l p 1) 3).toNat ≤ 1 := by
    have : (dnext l (dgo l p 1) 3).toNat = 0 ∨ (dnext l (dgo l p 1) 3).toNat = 1 ∨ (dnext l (dgo l p 1) 3).toNat = 2 := by omega
    rcases this with h | h | h <;> rw [h] <;> decide
  have fin : smallN [1 + dnext l p 127, el ([0, 0, 1] : List Int) (dnext l (dgo l p 1) 3).toNat] := by
    refine ⟨rfl, ?_, ?_, e3.1, e3.2⟩
    · show 1 ≤ 1 + dnext l p 127; omega
    · show 1 + dnext l p 127 ≤ 127; omega
  unfold mcont
  rw [if_neg (by simp [hc])]
  split
  · exact fin
  · exact fin
/-- The value of the next term. -/
def nextV (v : List UInt8) (ep : Int) (l : List Int) : List UInt8 := sha ((v ++ be8 ep) ++ lsB l)
theorem nextV_len (v : List UInt8) (ep : Int) (l : List Int) : (nextV v ep l).length = 32 := sha_len _
end Go.Proofs.Am

/- Terms: plain laws. -/
namespace Go.Proofs.Am
open Go Go.RowKit
open Go.Proofs

/-- The case of a term's roster. -/
def rcase (ep : Int) : Cs := ⟨ep, 1, 0, 0⟩
theorem rcase_ok {ep : Int} (h0 : 0 ≤ ep) (h1 : ep < 40) : caseV (rcase ep) = true := caseV_t ⟨h0, h1, by simp [rcase], by simp [rcase], by simp [rcase], by simp [rcase], .inl ⟨rfl, rfl, rfl⟩⟩
/-- A term that can be followed. -/
structure OkT (t : Tm) : Prop where
  lo : 0 ≤ t.ep
  hi : t.ep < 40
  ros : rosV t.ros = true
  bea : t.bea.length = 32
theorem OkT.len {t : Tm} (h : OkT t) : t.ros.length ≤ 64 := (rosV_pw h.ros).2.2.2
theorem ofRd_ck {r : Rl} {v : List UInt8} {l : List Int} {c d : Cs} {j : Int} {prev : List Int} (hr : ruleE r = 0) (hne : restW l prev ≠ []) (hd : caseV d = true) : ckS d (ofRd r v l c j prev) = 0 := by
  have h1 := (rule0 hr).2.2
  have hl := ofRd_len (r := r) (v := v) (l := l) (c := c) (j := j) (prev := prev)
  have hw : 0 < (restW l prev).length := List.length_pos_iff.2 hne
  rw [ck_seated, if_neg (by simp [hd]), if_pos]
  refine seatedB_iff.2 ⟨fun e => ?_, fun k hk => ?_, ofRd_nodup, by omega⟩
  · rw [e] at hl
    simp only [List.length_nil] at hl
    omega
  · exact keyB_iff.2 (by have := (restW_mem.1 (ofRd_mem hk)).1; omega)
theorem seatsR0 {r : Rl} {t : Tm} {c : Cs} (hr : ruleE r = 0) (ht : OkT t) (hc : caseV c = true) (he : c.ep = t.ep) (h0 : c.ro = 0) : seatsR r t c = (ofRd r t.bea t.ros c 0 [], 0) := by
  unfold seatsR
  rw [if_neg (by simp [he]), ofR_eq, if_neg (by simp [hr]), if_neg (by simp [ht.ros]), if_neg (by simp [hc]), if_pos h0]
/-- The seats that decide on the next roster, and what has enough votes of them. -/
def stS (r : Rl) (t : Tm) : List Int := ofRd r t.bea t.ros (rcase t.ep) 0 []
def stA (r : Rl) (L : List Stm) (t : Tm) : List Ct := allV (stS r t) (votesL L (rcase t.ep))
theorem seatsR_st {r : Rl} {t : Tm} (hr : ruleE r = 0) (ht : OkT t) : seatsR r t (rcase t.ep) = (stS r t, 0) := seatsR0 hr ht (rcase_ok ht.lo ht.hi) rfl rfl
theorem stS_ck {r : Rl} {t : Tm} (hr : ruleE r = 0) (ht : OkT t) : ckS (rcase t.ep) (stS r t) = 0 := ofRd_ck hr (restW_nil ht.ros) (rcase_ok ht.lo ht.hi)
/-- What is decided in a case of a term. -/
def decA (L : List Stm) (c : Cs) (seats : List Int) : List Ct := if ckS c seats = 0 then allV seats (votesL L c) else []
def decR (r : Rl) (L : List Stm) (t : Tm) (c : Cs) : Ct × Bool × Int :=
  if (seatsR r t c).2 ≠ 0 then (noC, false, (seatsR r t c).2) else (oneC (decA L c (seatsR r t c).1), decide ((decA L c (seatsR r t c).1).length = 1), ckS c (seatsR r t c).1)
theorem decR_st {r : Rl} {L : List Stm} {t : Tm} (hr : ruleE r = 0) (ht : OkT t) : decR r L t (rcase t.ep) = (oneC (stA r L t), decide ((stA r L t).length = 1), 0) := by
  unfold decR decA
  rw [seatsR_st hr ht]
  simp only [ne_eq, not_true_eq_false, if_false, stS_ck hr ht, if_true]
  rfl
def fillT (r : Rl) (L : List Stm) (t : Tm) : Tm := { t with dec := decide ((stA r L t).length = 1), nx := oneC (stA r L t) }
theorem fillT_ok {r : Rl} {L : List Stm} {t : Tm} (h : OkT t) : OkT (fillT r L t) := ⟨h.lo, h.hi, h.ros, h.bea⟩
theorem fillT_two (r : Rl) (L M : List Stm) (t : Tm) : fillT r L (fillT r M t) = fillT r L t := rfl
theorem stA_fill (r : Rl) (L M : List Stm) (t : Tm) : stA r L (fillT r M t) = stA r L t := rfl
theorem stS_fill (r : Rl) (M : List Stm) (t : Tm) : stS r (fillT r M t) = stS r t := rfl
def afterT (t : Tm) : Option Tm := if t.dec = true ∧ (decL t.nx.li).2 = 0 then some ⟨t.ep + 1, (decL t.nx.li).1, nextV t.bea t.ep t.nx.li, false, noC⟩ else none
theorem afterT_some {t u : Tm} (h : afterT t = some u) : t.dec = true ∧ (decL t.nx.li).2 = 0 ∧ u = ⟨t.ep + 1, (decL t.nx.li).1, nextV t.bea t.ep t.nx.li, false, noC⟩ := by
  unfold afterT at h
  split at h
  · rename_i h1
    exact ⟨h1.1, h1.2, (Option.some.inj h).symm⟩
  · cases h
theorem afterT_ok {t u : Tm} (ht : OkT t) (h : afterT t = some u) (he : t.ep < 39) : OkT u := by
  obtain ⟨_, h2, rfl⟩ := afterT_some h
  exact ⟨by have := ht.lo; show 0 ≤ t.ep + 1; omega, by show t.ep + 1 < 40; omega, (decL_ros h2).2.2, nextV_len _ _ _⟩
/-- The terms from one on. -/
def termsG (r : Rl) (L : List Stm) : Nat → Tm → List Tm
  | 0, _ => []
  | n + 1, t => fillT r L t :: (match afterT (fillT r L t) with | none => [] | some u => termsG r L n u)
def termsX (r : Rl) (L : List Stm) : List Tm := termsG r L 40 (term0 r)
theorem term0_ok {r : Rl} (hr : ruleE r = 0) : OkT (term0 r) := ⟨Int.le_refl _, by show (0 : Int) < 40; omega, (rule0 hr).1, sha_len _⟩
theorem termsG_len (r : Rl) (L : List Stm) : ∀ n t, (termsG r L n t).length ≤ n
  | 0, _ => Nat.le_refl _
  | n + 1, t => by
    simp only [termsG, List.length_cons]
    split
    · simp
    · have := termsG_len r L n
      rename_i u _
      have := this u
      omega
theorem termsG_pos (r : Rl) (L : List Stm) (n : Nat) (t : Tm) : 0 < (termsG r L (n + 1) t).length := by simp [termsG]
theorem el_zero {α : Type} [Inhabited α] (a : α) (l : List α) : el (a :: l) 0 = a := rfl
theorem el_cons {α : Type} [Inhabited α] (a : α) (l : List α) (i : Nat) : el (a :: l) (i + 1) = el l i := rfl
theorem termsX_first (r : Rl) (L : List Stm) : el (termsX r L) 0 = fillT r L (term0 r) := rfl
theorem termsX_pos (r : Rl) (L : List Stm) : 0 < (termsX r L).length := termsG_pos r L 39 _
theorem termsX_len (r : Rl) (L : List Stm) : (termsX r L).length ≤ 40 := termsG_len r L 40 _
end Go.Proofs.Am

/- The mill's chain of votes for rosters: plain laws. -/
namespace Go.Proofs.Am
open Go Go.RowKit
open Go.Proofs

structure ChS where
  p : Nat
  L : List Stm
  ros : List Int
  v : List UInt8
deriving Inhabited
def chS (r : Rl) (ep : Int) (s : ChS) : List Int := ofRd r s.v s.ros (rcase ep) 0 []
def chVote (l : List Int) (ep : Int) (x y : Ct) (k : Int) (st : Nat × List Stm) : Nat × List Stm :=
  (dgo l st.1 1, st.2 ++ (if dnext l st.1 14 = 0 then [] else if dnext l st.1 14 = 1 then [vt k ep (rcase ep) y] else if dnext l st.1 14 = 2 then [vt k ep (rcase ep) x, vt k (ep + 9) (rcase ep) y] else [vt k ep (rcase ep) x]))
def chGo (l : List Int) (ep : Int) (x y : Ct) (seats : List Int) (st : Nat × List Stm) : Nat → Nat × List Stm
  | 0 => st
  | i + 1 => chVote l ep x y (el seats i) (chGo l ep x y seats st i)
def chX (l : List Int) (ep : Int) (s : ChS) : Ct × Nat := mcont l (dgo l s.p 1) (rcase ep)
def chY (l : List Int) (ep : Int) (s : ChS) : Ct × Nat := mcont l (chX l ep s).2 (rcase ep)
def chStep (l : List Int) (r : Rl) (ep : Int) (s : ChS) : ChS :=
  ⟨(chGo l ep (chX l ep s).1 (chY l ep s).1 (chS r ep s) ((chY l ep s).2, s.L) (chS r ep s).length).1,
   (chGo l ep (chX l ep s).1 (chY l ep s).1 (chS r ep s) ((chY l ep s).2, s.L) (chS r ep s).length).2,
   (decL (chX l ep s).1.li).1, nextV s.v ep (chX l ep s).1.li⟩
def chRun (l : List Int) (r : Rl) : Nat → Nat → ChS → ChS
  | 0, _, s => s
  | n + 1, ep, s => if (ep : Int) < dnext l s.p 4 then chRun l r n (ep + 1) (chStep l r ep s) else { s with p := dgo l s.p 1 }
def chain0 (l : List Int) (p : Nat) : ChS := ⟨dgo l p 8, [], (mrules l p).gen, firstV (mrules l p)⟩
def chainX (l : List Int) (p : Nat) : ChS := chRun l (mrules l p) 4 0 (chain0 l p)

/-- What the mill's votes are. -/
def ChV (t : Stm) : Prop := ∃ k nu e x, t = vt k nu (rcase e) x ∧ (0 ≤ k ∧ k ≤ 63) ∧ (0 ≤ nu ∧ nu ≤ 199) ∧ (0 ≤ e ∧ e < 40) ∧ okCt x ∧ rightB (rcase e) x = true ∧ smallN x.li
theorem ChV.ok {t : Stm} (h : ChV t) : okS t := by
  obtain ⟨k, nu, e, x, rfl, _, _, _, hx, _⟩ := h
  exact vt_okS _ _ _ hx
theorem ChV.small {t : Stm} (h : ChV t) {c : Cs} (_ : okV c t = true) : smallN (voteE t).1.x.li := by
  obtain ⟨k, nu, e, x, rfl, hk, hn, _, _, hr, hs⟩ := h
  rw [voteE_vt hk hn hr]
  exact hs
structure ChI (l : List Int) (ep : Nat) (s : ChS) : Prop where
  p : s.p ≤ l.length
  ros : rosV s.ros = true
  low : ∀ k ∈ s.ros, 0 ≤ k ∧ k ≤ 32
  v : s.v.length = 32
  len : s.L.length ≤ 18 * ep
  ok : ∀ t ∈ s.L, ChV t
theorem ChI.mono {l : List Int} {ep ep' : Nat} {s : ChS} (h : ChI l ep s) (he : ep ≤ ep') : ChI l ep' s := ⟨h.p, h.ros, h.low, h.v, by have := h.len; omega, h.ok⟩
end Go.Proofs.Am

/- A first committee that votes for one content, or for two: plain laws. -/
namespace Go.Proofs.Am
open Go Go.RowKit
open Go.Proofs

/-- Votes of seats for one content. -/
def allFor (c : Cs) (nu : Int) (x : Ct) (seats : List Int) : List Stm := seats.map fun k => vt k nu c x
theorem mem_allFor {c : Cs} {nu : Int} {x : Ct} {seats : List Int} {s : Stm} : s ∈ allFor c nu x seats ↔ ∃ k ∈ seats, vt k nu c x = s := by simp [allFor]
theorem nodup_one {α : Type} {l : List α} {x : α} (hn : l.Nodup) (hx : x ∈ l) (h : ∀ y ∈ l, y = x) : l = [x] := by
  match l, hn, hx, h with
  | [], _, hx, _ => simp at hx
  | [y], _, _, h => rw [h y (by simp)]
  | y :: z :: r, hn, _, h =>
    have h1 := h y (by simp)
    have h2 := h z (by simp)
    subst h1
    subst h2
    simp at hn
theorem enoB_all {n : Nat} (h1 : 1 ≤ n) (h9 : n ≤ 9) : enoB n n = true := decide_eq_true (by omega)
/-- Seats that are right, and a content that is. -/
structure EndP (c : Cs) (seats : List Int) : Prop where
  c : caseV c = true
  nd : seats.Nodup
  n0 : 1 ≤ seats.length
  n9 : seats.length ≤ 9
  k : ∀ k ∈ seats, 0 ≤ k ∧ k ≤ 63
theorem EndP.of {c : Cs} {seats : List Int} (h : ckS c seats = 0) : EndP c seats := by
  obtain ⟨h1, h2, h3, h4⟩ := ckS_zero h
  have h5 : seatedB seats = true := by
    rw [ck_seated, if_neg (by simp [h1])] at h
    split at h
    · assumption
    · cases h
  have h6 := (seatedB_iff.1 h5).1
  exact ⟨h1, h3, List.length_pos_iff.2 h6, h2, fun k hk => by have := h4 k hk; omega⟩
theorem allFor_vote {c : Cs} {seats : List Int} {nu : Int} {x : Ct} (hE : EndP c seats) (hn : 0 ≤ nu ∧ nu ≤ 199) (hx : rightB c x = true) {k : Int} (hk : k ∈ seats) : ∀ L, (∀ s ∈ allFor c nu x seats, s ∈ L) → ∃ y ∈ votesL L c, y.x = x ∧ y.k = k := fun L hL => by
  have hv := voteE_vt (hE.k k hk) hn hx
  refine ⟨⟨k, c, x⟩, mem_votesL.2 ⟨vt k nu c x, hL _ (mem_allFor.2 ⟨k, hk, rfl⟩), okV_vt (hE.k k hk) hn hx, by rw [hv]⟩, rfl, rfl⟩
theorem allFor_in {c : Cs} {seats : List Int} {nu : Int} {x : Ct} (hE : EndP c seats) (hn : 0 ≤ nu ∧ nu ≤ 199) (hx : rightB c x = true) {L : List Stm} (hL : ∀ s ∈ allFor c nu x seats, s ∈ L) : x ∈ allV seats (votesL L c) :=
  allV_of hE.nd (fun k hk => ⟨hk, allFor_vote hE hn hx hk L hL⟩) (enoB_all hE.n0 hE.n9)
theorem votes_for {c d : Cs} {seats : List Int} {nu : Int} {x : Ct} (hE : EndP c seats) (hn : 0 ≤ nu ∧ nu ≤ 199) (hx : rightB c x = true) {s : Stm} (hs : s ∈ allFor c nu x seats) : (voteE s).1.x = x ∧ (okV d s = true → d = c) ∧ s.au ∈ seats := by
  obtain ⟨k, hk, rfl⟩ := mem_allFor.1 hs
  have hv := voteE_vt (hE.k k hk) hn hx
  refine ⟨by rw [hv], fun h => ?_, hk⟩
  unfold okV at h
  rw [hv] at h
  simpa using (Eq.symm (of_decide_eq_true (Bool.and_eq_true_iff.1 h).2))
theorem all_vote {seats : List Int} {L : List Stm} {c : Cs} {u : Ct} (h : u ∈ allV seats (votesL L c)) : ∃ s ∈ L, okV c s = true ∧ (voteE s).1.x = u := by
  obtain ⟨n, hn, e1, he⟩ := mem_allV.1 h
  have hk : n.ks ≠ [] := (cnR_spec _ _).r4 n hn
  obtain ⟨k, ks, hk⟩ := List.exists_cons_of_ne_nil hk
  obtain ⟨_, y, hy, e, _⟩ := ks_vote hn (k := k) (by rw [hk]; simp)
  obtain ⟨s, s1, s2, s3⟩ := mem_votesL.1 hy
  exact ⟨s, s1, s2, by rw [s3, e, e1]⟩
/-- One content. -/
theorem ends_one {c : Cs} {seats : List Int} {x : Ct} (hE : EndP c seats) (hx : rightB c x = true) : allV seats (votesL (allFor c 0 x seats) c) = [x] :=
  nodup_one (allV_nodup _ _) (allFor_in hE (by omega) hx fun _ h => h) fun u hu => by
    obtain ⟨s, h1, _, h3⟩ := all_vote hu
    rw [← h3, (votes_for (d := c) hE (by omega) hx h1).1]
/-- Two lists of votes. -/
theorem ends_same {c : Cs} {seats : List Int} {x : Ct} (hE : EndP c seats) (hx : rightB c x = true) : allV seats (votesL (allFor c 0 x seats ++ allFor c 1 x seats) c) = [x] :=
  nodup_one (allV_nodup _ _) (allFor_in hE (nu := 0) (by omega) hx fun _ h => List.mem_append.2 (.inl h)) fun u hu => by
    obtain ⟨s, h1, _, h3⟩ := all_vote hu
    rcases List.mem_append.1 h1 with h1 | h1
    · rw [← h3, (votes_for (d := c) hE (by omega) hx h1).1]
    · rw [← h3, (votes_for (d := c) hE (by omega) hx h1).1]
theorem ends_two {c : Cs} {seats : List Int} {x y : Ct} (hE : EndP c seats) (hx : rightB c x = true) (hy : rightB c y = true) (hne : x ≠ y) : (allV seats (votesL (allFor c 0 x seats ++ allFor c 1 y seats) c)).length ≠ 1 := fun h => by
  obtain ⟨z, hz⟩ := List.length_eq_one_iff.1 h
  have h1 := allFor_in hE (nu := 0) (by omega) hx (L := allFor c 0 x seats ++ allFor c 1 y seats) fun _ h => List.mem_append.2 (.inl h)
  have h2 := allFor_in hE (nu := 1) (by omega) hy (L := allFor c 0 x seats ++ allFor c 1 y seats) fun _ h => List.mem_append.2 (.inr h)
  rw [hz, List.mem_singleton] at h1 h2
  exact hne (h1.trans h2.symm)
/-- One vote less is not enough for a small committee. -/
theorem ends_less {c : Cs} {seats : List Int} {x : Ct} (hE : EndP c seats) (hx : rightB c x = true) (h4 : seats.length ≤ 4) : allV seats (votesL ((allFor c 0 x seats).take (seats.length - 1)) c) = [] := by
  refine List.eq_nil_iff_forall_not_mem.2 fun u hu => ?_
  obtain ⟨n, hn, e1, he⟩ := mem_allV.1 hu
  have h1 : n.ks.length ≤ (seats.take (seats.length - 1)).length := len_sub (ks_nodup hn) fun k hk => by
    obtain ⟨_, y, hy, e2, e3⟩ := ks_vote hn hk
    obtain ⟨s, s1, s2, s3⟩ := mem_votesL.1 hy
    have := okV_k s2
    rw [s3, e3] at this
    rw [this]
    rw [allFor, ← List.map_take] at s1
    obtain ⟨j, hj, rfl⟩ := List.mem_map.1 s1
    exact hj
  simp only [enoB, decide_eq_true_eq] at he
  rw [List.length_take] at h1
  have := hE.n0
  omega
theorem none_votes {c d : Cs} {seats S : List Int} {L : List Stm} (h : ∀ s ∈ L, okV d s = true → d = c) (hne : d ≠ c) : allV S (votesL L d) = [] := by
  refine List.eq_nil_iff_forall_not_mem.2 fun u hu => ?_
  obtain ⟨s, h1, h2, _⟩ := all_vote hu
  exact hne (h s h1 h2)
/-- Terms of which the first one is not decided. -/
theorem terms_stop {r : Rl} {L : List Stm} (h : (stA r L (term0 r)).length ≠ 1) : termsX r L = [fillT r L (term0 r)] ∧ (fillT r L (term0 r)).dec = false := by
  have hd : (fillT r L (term0 r)).dec = false := decide_eq_false h
  refine ⟨?_, hd⟩
  show termsG r L (39 + 1) (term0 r) = _
  simp only [termsG]
  unfold afterT
  rw [if_neg (by simp [hd])]
/-- Terms of which the first one is decided, and no more has votes. -/
theorem terms_two {r : Rl} {L : List Stm} {x : Ct} (h : stA r L (term0 r) = [x]) (hx : smallN x.li) (hL : ∀ s ∈ L, ∀ d, okV d s = true → d = rcase 0) : (termsX r L).length = 2 ∧ (el (termsX r L) 0).dec = true := by
  have hd : (fillT r L (term0 r)).dec = true := by simp [fillT, h]
  refine ⟨?_, hd⟩
  have hn : (fillT r L (term0 r)).nx = x := by simp [fillT, h, oneC, el_zero]
  have ha : ∃ u, afterT (fillT r L (term0 r)) = some u ∧ u.ep = 1 := by
    refine ⟨_, if_pos ⟨hd, ?_⟩, rfl⟩
    rw [hn, decL_of hx.ok]
  obtain ⟨u, ha, hu⟩ := ha
  have hs : stA r L u = [] := by
    unfold stA
    rw [hu]
    exact none_votes (seats := []) (c := rcase 0) (fun s hs ho => hL s hs _ ho) (by simp [rcase])
  have hb : afterT (fillT r L u) = none := by
    unfold afterT
    rw [if_neg (by simp [fillT, hs])]
  show (termsG r L (38 + 1 + 1) (term0 r)).length = 2
  simp [termsG, ha, hb]
end Go.Proofs.Am
