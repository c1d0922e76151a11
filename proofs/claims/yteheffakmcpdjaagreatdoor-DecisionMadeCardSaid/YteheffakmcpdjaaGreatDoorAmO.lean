/- Regions that are carried out in any order. -/
import Derived.Test.YteheffakmcpdjaaGreatDoorAmN
set_option linter.unusedSimpArgs false
set_option linter.unusedVariables false
namespace Go.Proofs.Am
open Go Go.RowKit
variable {P : Program}

structure Ent where
  u : PV
  δ : ASt
  F : List Nat

abbrev Tr := List (Oper × Ent)

def runL : Tr → (Nat → PV) → (Nat → PV)
  | [], L => L
  | p :: r, L => runL r (setL L p.1.dst p.2.u)

def runS : Tr → St → St
  | [], s => s
  | p :: r, s => runS r (app s p.2.δ)

/-- The entries whose numbers are in S. -/
def sub (S : Nat → Bool) : Nat → Tr → Tr
  | _, [] => []
  | i, p :: r => if S i then p :: sub S (i + 1) r else sub S (i + 1) r

/-- What an update says of a name. -/
def valD : ASt → Nat → Option Box
  | [], _ => none
  | (m, B) :: r, n => (valD r n).or (if m = n then some B else none)

theorem app_val : ∀ (δ : ASt) (s : St) (n : Nat), app s δ n = (valD δ n).or (s n)
  | [], s, n => by simp [app, valD]
  | (m, B) :: r, s, n => by
    simp only [app, valD]
    rw [app_val r]
    by_cases h : m = n
    · subst h; simp
    · rw [upd_other _ _ (Ne.symm h)]; simp [h]

theorem valD_some {δ : ASt} {n : Nat} (h : (valD δ n).isSome) : n ∈ δ.map (·.1) := by
  induction δ with
  | nil => cases h
  | cons p r ih =>
    obtain ⟨m, B⟩ := p
    simp only [valD] at h
    cases hr : valD r n with
    | some C => simp only [List.map_cons, List.mem_cons]; exact .inr (ih (by rw [hr]; rfl))
    | none =>
      rw [hr] at h
      by_cases hm : m = n
      · simp [hm]
      · simp [hm] at h

theorem valD_of {δ : ASt} {n : Nat} (h : n ∈ δ.map (·.1)) : ∃ B, valD δ n = some B := by
  induction δ with
  | nil => cases h
  | cons p r ih =>
    obtain ⟨m, B⟩ := p
    simp only [List.map_cons, List.mem_cons] at h
    simp only [valD]
    cases hr : valD r n with
    | some C => exact ⟨C, by simp⟩
    | none =>
      rcases h with h | h
      · exact ⟨B, by simp [h]⟩
      · obtain ⟨C, hC⟩ := ih h
        rw [hr] at hC
        cases hC

def fL (t : Nat) (p : Oper × Ent) : Option PV := if p.1.dst = some t then some p.2.u else none
def fS (n : Nat) (p : Oper × Ent) : Option Box := valD p.2.δ n

theorem runL_get : ∀ (tr : Tr) (L : Nat → PV) (t : Nat), runL tr L t = ((tr.filterMap (fL t)).getLast?).getD (L t)
  | [], L, t => rfl
  | p :: r, L, t => by
    simp only [runL, List.filterMap_cons]
    rw [runL_get r]
    cases hf : fL t p with
    | none =>
      have hne : p.1.dst ≠ some t := fun h => by simp [fL, h] at hf
      have : setL L p.1.dst p.2.u t = L t := by
        cases hd : p.1.dst with
        | none => rfl
        | some d =>
          simp only [setL]
          rw [if_neg]
          intro e
          exact hne (by rw [hd, e])
      rw [this]
    | some u =>
      have he : p.1.dst = some t ∧ p.2.u = u := by
        unfold fL at hf
        split at hf
        · rename_i h; exact ⟨h, by simpa using hf⟩
        · cases hf
      have : setL L p.1.dst p.2.u t = u := by rw [he.1, he.2]; simp [setL]
      rw [this]
      simp only [List.getLast?_cons, Option.getD_some]

theorem runS_get : ∀ (tr : Tr) (s : St) (n : Nat), runS tr s n = ((tr.filterMap (fS n)).getLast?).or (s n)
  | [], s, n => by simp [runS]
  | p :: r, s, n => by
    simp only [runS, List.filterMap_cons]
    rw [runS_get r, app_val]
    cases hv : fS n p with
    | none =>
      have : valD p.2.δ n = none := hv
      rw [this]
      simp
    | some B =>
      have : valD p.2.δ n = some B := hv
      rw [this]
      simp only [List.getLast?_cons]
      cases (r.filterMap (fS n)).getLast? <;> simp

theorem sub_congr {β : Type} (f : Oper × Ent → Option β) {S S' : Nat → Bool} : ∀ (tr : Tr) (i0 : Nat), (∀ (i : Nat) (x : Oper × Ent), tr[i]? = some x → (f x).isSome → S (i0 + i) = S' (i0 + i)) → (sub S i0 tr).filterMap f = (sub S' i0 tr).filterMap f
  | [], _, _ => rfl
  | p :: r, i0, h => by
    have h0 := h 0 p rfl
    have ih := sub_congr f (S := S) (S' := S') r (i0 + 1) fun i x hx hf => by have := h (i + 1) x (by simpa using hx) hf; rwa [show i0 + 1 + i = i0 + (i + 1) by omega]
    simp only [sub]
    simp only [Nat.add_zero] at h0
    cases hf : f p with
    | none =>
      cases S i0 <;> cases S' i0 <;> simp [hf, ih]
    | some b =>
      rw [hf] at h0
      rw [h0 rfl]
      cases S' i0 <;> simp [hf, ih]

theorem sub_lt : ∀ (tr : Tr) (i0 j : Nat), sub (fun i => decide (i < i0 + j)) i0 tr = tr.take j
  | [], _, _ => by simp [sub]
  | p :: r, i0, 0 => by
    simp only [sub, Nat.add_zero, Nat.lt_irrefl, decide_false, Bool.false_eq_true, if_false, List.take_zero]
    have : sub (fun i => decide (i < i0)) (i0 + 1) r = [] := by
      have : ∀ (r : Tr) (k : Nat), i0 ≤ k → sub (fun i => decide (i < i0)) k r = [] := by
        intro r
        induction r with
        | nil => intro k _; rfl
        | cons q r ih => intro k hk; simp only [sub]; rw [if_neg (by simp; omega)]; exact ih (k + 1) (by omega)
      exact this r (i0 + 1) (by omega)
    exact this
  | p :: r, i0, j + 1 => by
    simp only [sub, List.take_succ_cons]
    rw [if_pos (by simp)]
    have := sub_lt r (i0 + 1) j
    rw [show i0 + 1 + j = i0 + (j + 1) by omega] at this
    rw [this]

theorem sub_all : ∀ (tr : Tr) (i0 : Nat) (S : Nat → Bool), (∀ i, i < tr.length → S (i0 + i) = true) → sub S i0 tr = tr
  | [], _, _, _ => rfl
  | p :: r, i0, S, h => by
    simp only [sub]
    rw [if_pos (by have := h 0 (by simp); simpa using this), sub_all r (i0 + 1) S fun i hi => by have := h (i + 1) (by simp; omega); rwa [show i0 + 1 + i = i0 + (i + 1) by omega]]

theorem sub_none : ∀ (tr : Tr) (i0 : Nat), sub (fun _ => false) i0 tr = []
  | [], _ => rfl
  | p :: r, i0 => by simp only [sub, Bool.false_eq_true, if_false]; exact sub_none r (i0 + 1)

/-- The last of the chosen entries that say something is number j. -/
theorem sub_last {β : Type} (f : Oper × Ent → Option β) {S : Nat → Bool} {b : β} : ∀ (tr : Tr) (i0 j : Nat) (x : Oper × Ent), tr[j]? = some x → f x = some b → S (i0 + j) = true →
    (∀ (i : Nat) (y : Oper × Ent), tr[i]? = some y → (f y).isSome → S (i0 + i) = true → i ≤ j) → ((sub S i0 tr).filterMap f).getLast? = some b
  | [], _, _, _, h, _, _, _ => by simp at h
  | p :: r, i0, 0, x, hx, hf, hS, hle => by
    simp at hx
    subst hx
    simp only [sub]
    simp only [Nat.add_zero] at hS
    rw [if_pos hS, List.filterMap_cons, hf]
    have : (sub S (i0 + 1) r).filterMap f = [] := by
      have h1 := sub_congr f (S := S) (S' := fun _ => false) r (i0 + 1) fun i y hy hs => by
        cases hq : S (i0 + 1 + i) with
        | false => rfl
        | true =>
          have := hle (i + 1) y (by simpa using hy) hs (by rwa [show i0 + (i + 1) = i0 + 1 + i by omega])
          omega
      rw [h1, sub_none]
      rfl
    rw [this]
    rfl
  | p :: r, i0, j + 1, x, hx, hf, hS, hle => by
    have ih := sub_last f r (i0 + 1) j x (by simpa using hx) hf (by rwa [show i0 + 1 + j = i0 + (j + 1) by omega]) fun i y hy hs hSi => by
      have := hle (i + 1) y (by simpa using hy) hs (by rwa [show i0 + (i + 1) = i0 + 1 + i by omega])
      omega
    simp only [sub]
    split
    · rw [List.filterMap_cons]
      cases hq : f p with
      | none => exact ih
      | some c =>
        simp only [List.getLast?_cons, ih]
        rfl
    · exact ih

/-! ### What comes before what -/
def bef1 (acc : List Nat) : List Edge → Nat
  | [] => 0
  | e :: es => if Region.binds .any e then (2 ^ e.on ||| acc.getD e.on 0) ||| bef1 acc es else bef1 acc es

def befs : List Oper → List Nat → List Nat
  | [], acc => acc
  | o :: r, acc => befs r (acc ++ [bef1 acc o.after.toList])

theorem bef1_spec {acc : List Nat} {j : Nat} : ∀ {es : List Edge}, (bef1 acc es).testBit j = true → ∃ e ∈ es, Region.binds .any e = true ∧ (e.on = j ∨ (acc.getD e.on 0).testBit j = true)
  | [], h => by simp [bef1] at h
  | e :: es, h => by
    simp only [bef1] at h
    split at h
    · rename_i hb
      rw [Nat.testBit_or, Nat.testBit_or, Bool.or_eq_true, Bool.or_eq_true] at h
      rcases h with (h | h) | h
      · rw [Nat.testBit_two_pow] at h
        exact ⟨e, by simp, hb, .inl (by simpa using h)⟩
      · exact ⟨e, by simp, hb, .inr h⟩
      · obtain ⟨e', h1, h2⟩ := bef1_spec h
        exact ⟨e', by simp [h1], h2⟩
    · obtain ⟨e', h1, h2⟩ := bef1_spec h
      exact ⟨e', by simp [h1], h2⟩

theorem befs_spec : ∀ (l : List Oper) (acc : List Nat), (∃ t, befs l acc = acc ++ t ∧ t.length = l.length) ∧ ∀ i o, l[i]? = some o → (befs l acc).getD (acc.length + i) 0 = bef1 ((befs l acc).take (acc.length + i)) o.after.toList
  | [], acc => by simp [befs]
  | o :: r, acc => by
    obtain ⟨⟨t, h1, h2⟩, h3⟩ := befs_spec r (acc ++ [bef1 acc o.after.toList])
    simp only [befs]
    refine ⟨⟨bef1 acc o.after.toList :: t, by rw [h1]; simp, by simp [h2]⟩, fun i o' hi => ?_⟩
    cases i with
    | zero =>
      simp at hi
      subst hi
      rw [h1, List.append_assoc]
      simp
    | succ i =>
      have := h3 i o' (by simpa using hi)
      simp only [List.length_append, List.length_cons, List.length_nil, Nat.zero_add] at this
      rw [show acc.length + (i + 1) = acc.length + 1 + i by omega]
      exact this

def disj (a b : List Nat) : Bool := a.all fun n => !b.contains n

theorem disj_spec {a b : List Nat} (h : disj a b = true) {n : Nat} (ha : n ∈ a) : n ∉ b := by
  have := List.all_eq_true.1 h n ha
  simpa using this

def dstNe (a b : Option Nat) : Bool := match a, b with
  | some x, some y => x != y
  | _, _ => true

/-- Two operations, the second one later in the text: bound by the edges, or without effect on each other. -/
def pairOK (ops : Array Oper) (bs : List Nat) (i j : Nat) (oi oj : Oper) (li lj : List Nat × List Nat) : Bool :=
  dstNe oi.dst oj.dst && ((bs.getD j 0).testBit i || (disj li.1 lj.2 && disj lj.1 li.2 && oi.apart ops oj))

def rowOK (ops : Array Oper) (bs : List Nat) (i : Nat) (oi : Oper) (li : List Nat × List Nat) : Nat → List Oper → List (List Nat × List Nat) → Bool
  | j, oj :: os, lj :: ls => pairOK ops bs i j oi oj li lj && rowOK ops bs i oi li (j + 1) os ls
  | _, _, _ => true

def allOK (ops : Array Oper) (bs : List Nat) : Nat → List Oper → List (List Nat × List Nat) → Bool
  | i, oi :: os, li :: ls => rowOK ops bs i oi li (i + 1) os ls && oi.after.toList.all (fun e => !Region.binds .any e || decide (e.on < i)) && allOK ops bs (i + 1) os ls
  | _, _, _ => true

def okDraw (ops : Array Oper) (log : List (List Nat × List Nat)) : Bool := allOK ops (befs ops.toList []) 0 ops.toList log

theorem rowOK_spec {ops : Array Oper} {bs : List Nat} {i : Nat} {oi : Oper} {li : List Nat × List Nat} : ∀ {os : List Oper} {ls : List (List Nat × List Nat)} {j0 : Nat}, rowOK ops bs i oi li j0 os ls = true → ∀ (k : Nat) (o : Oper) (l : List Nat × List Nat), os[k]? = some o → ls[k]? = some l → pairOK ops bs i (j0 + k) oi o li l = true
  | [], _, _, _, k, o, l, h, _ => by simp at h
  | _ :: _, [], _, _, k, o, l, _, h => by simp at h
  | oj :: os, lj :: ls, j0, h, k, o, l, h1, h2 => by
    simp only [rowOK, Bool.and_eq_true] at h
    cases k with
    | zero => simp at h1 h2; subst h1 h2; exact h.1
    | succ k =>
      have := rowOK_spec h.2 k o l (by simpa using h1) (by simpa using h2)
      rwa [show j0 + 1 + k = j0 + (k + 1) by omega] at this

theorem allOK_spec {ops : Array Oper} {bs : List Nat} : ∀ {os : List Oper} {ls : List (List Nat × List Nat)} {i0 : Nat}, allOK ops bs i0 os ls = true → ∀ (i : Nat) (oi : Oper) (li : List Nat × List Nat), os[i]? = some oi → ls[i]? = some li →
    (∀ (j : Nat) (oj : Oper) (lj : List Nat × List Nat), i < j → os[j]? = some oj → ls[j]? = some lj → pairOK ops bs (i0 + i) (i0 + j) oi oj li lj = true) ∧ ∀ e ∈ oi.after.toList, Region.binds .any e = true → e.on < i0 + i
  | [], _, _, _, i, oi, li, h, _ => by simp at h
  | _ :: _, [], _, _, i, oi, li, _, h => by simp at h
  | o :: os, l :: ls, i0, h, i, oi, li, h1, h2 => by
    simp only [allOK, Bool.and_eq_true] at h
    obtain ⟨⟨ha, hb⟩, hc⟩ := h
    cases i with
    | zero =>
      simp at h1 h2
      subst h1 h2
      refine ⟨fun j oj lj hj hoj hlj => ?_, fun e he hbe => ?_⟩
      · cases j with
        | zero => omega
        | succ j =>
          have := rowOK_spec ha j oj lj (by simpa using hoj) (by simpa using hlj)
          rwa [show i0 + 1 + j = i0 + (j + 1) by omega] at this
      · have := List.all_eq_true.1 hb e he
        rw [hbe] at this
        simpa using this
    | succ i =>
      obtain ⟨k1, k2⟩ := allOK_spec hc i oi li (by simpa using h1) (by simpa using h2)
      refine ⟨fun j oj lj hj hoj hlj => ?_, fun e he hbe => by have := k2 e he hbe; omega⟩
      cases j with
      | zero => omega
      | succ j =>
        have := k1 j oj lj (by omega) (by simpa using hoj) (by simpa using hlj)
        rwa [show i0 + 1 + i = i0 + (i + 1) by omega, show i0 + 1 + j = i0 + (j + 1) by omega] at this

end Go.Proofs.Am
