/- Regions that are carried out in any order: the law. -/
import Derived.Test.YteheffakmcpdjaaGreatDoorAmO
set_option linter.unusedSimpArgs false
set_option linter.unusedVariables false
namespace Go.Proofs.Am
open Go Go.RowKit
variable {P : Program}

abbrev Log := List (List Nat × List Nat)

/-- As evOps, and what each operation wrote and looked at is kept, the last first. -/
def evD (P : Program) (all : Array Oper) : List Oper → AFr → ASt → Log → (AFr → ASt → Log → Prop) → Prop
  | [], fr, σ, g, K => K fr σ g
  | o :: r, fr, σ, g, K =>
    isNext o.op = false ∧ match o.guard with
    | none => evOp P o (ev fr) σ fun u δ F => evD P all r (setF fr o.dst u) (putL σ δ) ((δ.map (·.1), F) :: g) K
    | some (j, want) =>
      match gslot all j with
      | some t => match look fr t with
        | .bool b =>
          (b = want → evOp P o (ev ((t, .bool want) :: fr)) σ fun u δ F => evD P all r (setF ((t, .bool want) :: fr) o.dst u) (putL σ δ) ((δ.map (·.1), F) :: g) K) ∧
          (b = !want → evD P all r (setF ((t, .bool (!want)) :: fr) o.dst (.tup [])) σ (([], []) :: g) K)
        | .tup [] => evD P all r (setF fr o.dst (.tup [])) σ (([], []) :: g) K
        | _ => False
      | none => False

def Run1 (P : Program) (all : Array Oper) (o : Oper) (L : Nat → PV) (σ : ASt) (e : Ent) : Prop :=
  ((o.guard = none ∨ ∃ j want t, o.guard = some (j, want) ∧ gslot all j = some t ∧ L t = .bool want) ∧ LOp P o (evL L) σ e.u e.δ e.F) ∨
  ((∃ j want t, o.guard = some (j, want) ∧ gslot all j = some t ∧ (L t = .bool (!want) ∨ L t = .tup [])) ∧ e.u = .tup [] ∧ e.δ = [] ∧ e.F = [])

def TrOK (P : Program) (all : Array Oper) : Tr → (Nat → PV) → ASt → Prop
  | [], _, _ => True
  | p :: r, L, σ => Run1 P all p.1 L σ p.2 ∧ TrOK P all r (setL L p.1.dst p.2.u) (putL σ p.2.δ)

theorem evD_trace {P : Program} {all : Array Oper} {K : AFr → ASt → Log → Prop} : ∀ (l : List Oper) (fr : AFr) (σ : ASt) (g : Log), evD P all l fr σ g K →
    ∃ (tr : Tr) (fr' : AFr) (σ' : ASt), tr.map (·.1) = l ∧ TrOK P all tr (look fr) σ ∧ K fr' σ' ((tr.map fun p => (p.2.δ.map (·.1), p.2.F)).reverse ++ g) ∧ look fr' = runL tr (look fr) ∧ find σ' = runS tr (find σ)
  | [], fr, σ, g, h => ⟨[], fr, σ, rfl, trivial, h, rfl, rfl⟩
  | o :: r, fr, σ, g, h => by
    simp only [evD] at h
    obtain ⟨hnx, h⟩ := h
    have step : ∀ fr1 : AFr, look fr1 = look fr → (o.guard = none ∨ ∃ j want t, o.guard = some (j, want) ∧ gslot all j = some t ∧ look fr t = .bool want) → (evOp P o (ev fr1) σ fun u δ F => evD P all r (setF fr1 o.dst u) (putL σ δ) ((δ.map (·.1), F) :: g) K) →
        ∃ (tr : Tr) (fr' : AFr) (σ' : ASt), tr.map (·.1) = o :: r ∧ TrOK P all tr (look fr) σ ∧ K fr' σ' ((tr.map fun p => (p.2.δ.map (·.1), p.2.F)).reverse ++ g) ∧ look fr' = runL tr (look fr) ∧ find σ' = runS tr (find σ) := fun fr1 hfr hgd hK => by
      obtain ⟨u, δ, F, hL, hK⟩ := evOp_sound hnx hK
      obtain ⟨tr, fr', σ', h1, h2, h3, h4, h5⟩ := evD_trace r _ _ _ hK
      rw [look_setF, hfr] at h2 h4
      rw [find_putL] at h5
      refine ⟨(o, ⟨u, δ, F⟩) :: tr, fr', σ', by simp [h1], ⟨.inl ⟨hgd, ?_⟩, h2⟩, ?_, h4, h5⟩
      · have : ev fr1 = evL (look fr) := by rw [← hfr]
        rw [← this]; exact hL
      · simpa using h3
    cases hg : o.guard with
    | none => rw [hg] at h; rw [hg] at step; exact step fr rfl (.inl rfl) h
    | some p =>
      obtain ⟨j, want⟩ := p
      rw [hg] at h step
      simp only at h
      cases ht : gslot all j with
      | none => rw [ht] at h; exact h.elim
      | some t =>
        rw [ht] at h
        simp only at h
        cases hb : look fr t with
        | bool b =>
          rw [hb] at h
          simp only at h
          by_cases hbw : b = want
          · exact step _ (look_over (by rw [hb, hbw])) (.inr ⟨j, want, t, rfl, ht, by rw [hb, hbw]⟩) (h.1 hbw)
          · have hbn : b = !want := by cases b <;> cases want <;> simp_all
            obtain ⟨tr, fr', σ', h1, h2, h3, h4, h5⟩ := evD_trace r _ _ _ (h.2 hbn)
            rw [look_setF, look_over (by rw [hb, hbn])] at h2 h4
            exact ⟨(o, ⟨.tup [], [], []⟩) :: tr, fr', σ', by simp [h1], ⟨.inr ⟨⟨j, want, t, hg, ht, .inl (by rw [hb, hbn])⟩, rfl, rfl, rfl⟩, h2⟩, by simpa using h3, h4, h5⟩
        | tup cs =>
          rw [hb] at h
          cases cs with
          | cons c cs => exact h.elim
          | nil =>
            simp only at h
            obtain ⟨tr, fr', σ', h1, h2, h3, h4, h5⟩ := evD_trace r _ _ _ h
            rw [look_setF] at h2 h4
            exact ⟨(o, ⟨.tup [], [], []⟩) :: tr, fr', σ', by simp [h1], ⟨.inr ⟨⟨j, want, t, hg, ht, .inr hb⟩, rfl, rfl, rfl⟩, h2⟩, by simpa using h3, h4, h5⟩
        | _ => rw [hb] at h; exact h.elim

theorem TrOK.get {P : Program} {all : Array Oper} : ∀ {tr : Tr} {L : Nat → PV} {σ : ASt}, TrOK P all tr L σ → ∀ (j : Nat) (p : Oper × Ent), tr[j]? = some p → ∃ σj, find σj = runS (tr.take j) (find σ) ∧ Run1 P all p.1 (runL (tr.take j) L) σj p.2
  | [], _, _, _, j, p, h => by simp at h
  | q :: r, L, σ, h, 0, p, hp => by
    simp at hp
    subst hp
    exact ⟨σ, rfl, h.1⟩
  | q :: r, L, σ, h, j + 1, p, hp => by
    obtain ⟨σj, h1, h2⟩ := h.2.get j p (by simpa using hp)
    refine ⟨σj, ?_, h2⟩
    rw [h1, find_putL]
    rfl

/-- Which operations have been carried out. -/
def SL (listed : Array Bool) (i : Nat) : Bool := listed.getD i false

theorem runL_congr {S S' : Nat → Bool} {tr : Tr} {L : Nat → PV} {t : Nat} (h : ∀ i x, tr[i]? = some x → x.1.dst = some t → S i = S' i) : runL (sub S 0 tr) L t = runL (sub S' 0 tr) L t := by
  rw [runL_get, runL_get, sub_congr (S := S) (S' := S') (fL t) tr 0 fun i x hx hf => by
    rw [Nat.zero_add]
    refine h i x hx ?_
    unfold fL at hf
    split at hf
    · assumption
    · cases hf]

theorem runS_congr {S S' : Nat → Bool} {tr : Tr} {s : St} {n : Nat} (h : ∀ i x, tr[i]? = some x → n ∈ x.2.δ.map (·.1) → S i = S' i) : runS (sub S 0 tr) s n = runS (sub S' 0 tr) s n := by
  rw [runS_get, runS_get, sub_congr (S := S) (S' := S') (fS n) tr 0 fun i x hx hf => by
    rw [Nat.zero_add]
    exact h i x hx (valD_some hf)]

/-- Conditions on a trace that let it be carried out in any order. -/
structure Cmm (ops : Array Oper) (tr : Tr) : Prop where
  map : tr.map (·.1) = ops.toList
  ok : okDraw ops (tr.map fun p => (p.2.δ.map (·.1), p.2.F)) = true

section
variable {ops : Array Oper} {tr : Tr}

theorem Cmm.op (h : Cmm ops tr) {i : Nat} {p : Oper × Ent} (hp : tr[i]? = some p) : ops[i]? = some p.1 := by
  have : (tr.map (·.1))[i]? = some p.1 := by rw [List.getElem?_map, hp]; rfl
  rw [h.map] at this
  simpa using this

theorem Cmm.ent (h : Cmm ops tr) {i : Nat} {o : Oper} (ho : ops[i]? = some o) : ∃ e, tr[i]? = some (o, e) := by
  have : (tr.map (·.1))[i]? = some o := by rw [h.map]; simpa using ho
  rw [List.getElem?_map] at this
  cases ht : tr[i]? with
  | none => rw [ht] at this; cases this
  | some p =>
    rw [ht] at this
    obtain ⟨o', e⟩ := p
    simp at this
    subst this
    exact ⟨e, rfl⟩

theorem Cmm.size (h : Cmm ops tr) : tr.length = ops.size := by
  have := congrArg List.length h.map
  simpa using this

abbrev bsOf (ops : Array Oper) : List Nat := befs ops.toList []

theorem Cmm.pair (h : Cmm ops tr) {i j : Nat} {p q : Oper × Ent} (hp : tr[i]? = some p) (hq : tr[j]? = some q) (hij : i < j) :
    pairOK ops (bsOf ops) i j p.1 q.1 (p.2.δ.map (·.1), p.2.F) (q.2.δ.map (·.1), q.2.F) = true := by
  have := (allOK_spec h.ok i p.1 (p.2.δ.map (·.1), p.2.F) (by rw [← h.map, List.getElem?_map, hp]; rfl) (by rw [List.getElem?_map, hp]; rfl)).1 j q.1 (q.2.δ.map (·.1), q.2.F) hij (by rw [← h.map, List.getElem?_map, hq]; rfl) (by rw [List.getElem?_map, hq]; rfl)
  simpa using this

theorem Cmm.edge (h : Cmm ops tr) {i : Nat} {o : Oper} (ho : ops[i]? = some o) : ∀ e ∈ o.after.toList, Region.binds .any e = true → e.on < i := by
  obtain ⟨e, he⟩ := h.ent ho
  have := (allOK_spec h.ok i o (e.δ.map (·.1), e.F) (by simpa using ho) (by rw [List.getElem?_map, he]; rfl)).2
  simpa using this

theorem Cmm.bs (h : Cmm ops tr) {i : Nat} {o : Oper} (ho : ops[i]? = some o) : (bsOf ops).getD i 0 = bef1 ((bsOf ops).take i) o.after.toList := by
  have := (befs_spec ops.toList []).2 i o (by simpa using ho)
  simpa using this

end

/-- The listed are closed downward. -/
def Closed (ops : Array Oper) (S : Nat → Bool) : Prop := ∀ i j, S j = true → ((bsOf ops).getD j 0).testBit i = true → S i = true

theorem before_listed {ops : Array Oper} {tr : Tr} (h : Cmm ops tr) {S : Nat → Bool} (hS : Closed ops S) {j : Nat} {o : Oper} (ho : ops[j]? = some o) (hr : ∀ e ∈ o.after.toList, Region.binds .any e = true → S e.on = true) (i : Nat)
    (hi : ((bsOf ops).getD j 0).testBit i = true) : S i = true := by
  rw [h.bs ho] at hi
  obtain ⟨e, he, hb, h1⟩ := bef1_spec hi
  have hon := hr e he hb
  rcases h1 with h1 | h1
  · rw [← h1]; exact hon
  · have hlt := h.edge ho e he hb
    have : ((bsOf ops).take j).getD e.on 0 = (bsOf ops).getD e.on 0 := by
      simp only [List.getD_eq_getElem?_getD, List.getElem?_take, hlt, if_true]
    rw [this] at h1
    exact hS i e.on hon h1

theorem draw_any {P : Program} {ops : Array Oper} {N : Nat} (hN : dstsOK N ops = true) {x : Ctx P} {Q : Exit → Act → World → Prop} {L0 : Nat → PV} {σ0 : ASt} {tr : Tr} (hC : Cmm ops tr) (hT : TrOK P ops tr L0 σ0)
    (hQ : ∀ a hv w, Good x N (runL tr L0) (runS tr (find σ0)) a hv w → Q .normal a w) :
    ∀ (fuel : Nat) (listed : Array Bool) (a : Act) (hv : Nat → Value) (w : World), listed.size = ops.size → (listed.toList.countP (· == false) ≤ fuel) → Closed ops (SL listed) →
      Good x N (runL (sub (SL listed) 0 tr) L0) (runS (sub (SL listed) 0 tr) (find σ0)) a hv w → wpAny P .any ops Q fuel listed a w := by
  have done : ∀ (listed : Array Bool) (a : Act) (hv : Nat → Value) (w : World), listed.size = ops.size →
      Good x N (runL (sub (SL listed) 0 tr) L0) (runS (sub (SL listed) 0 tr) (find σ0)) a hv w → Region.ready .any ops listed = [] → Q .normal a w := by
    intro listed a hv w hz hG hr
    have all : ∀ i, i < ops.size → SL listed i = true := by
      intro i
      induction i using Nat.strongRecOn with
      | _ i ih =>
        intro hi
        cases hl : SL listed i with
        | true => rfl
        | false =>
          exfalso
          have ho : ops[i]? = some ops[i] := by simp [hi]
          have : i ∈ Region.ready .any ops listed := by
            rw [mem_ready]
            refine ⟨?_, _, ho, fun e he hb => ?_⟩
            · unfold SL at hl
              have hi' : i < listed.size := by omega
              simp [hi'] at hl ⊢
              exact hl
            · have hlt := hC.edge ho e (by simpa using he) hb
              exact ih e.on hlt (by omega)
          rw [hr] at this
          cases this
    have : sub (SL listed) 0 tr = tr := sub_all tr 0 _ fun i hi => by rw [Nat.zero_add]; exact all i (by rw [← hC.size]; exact hi)
    rw [this] at hG
    exact hQ a hv w hG
  intro fuel
  induction fuel with
  | zero =>
    intro listed a hv w hz hc hcl hG
    have hr : Region.ready .any ops listed = [] := by
      cases hr : Region.ready .any ops listed with
      | nil => rfl
      | cons j l =>
        exfalso
        have hj : j ∈ Region.ready .any ops listed := by rw [hr]; simp
        obtain ⟨h1, o, h2, _⟩ := mem_ready.1 hj
        have hlt : j < listed.size := by rw [hz]; exact (Array.getElem?_eq_some_iff.1 h2).1
        have : 0 < listed.toList.countP (· == false) := by
          rw [List.countP_pos_iff]
          refine ⟨false, ?_, rfl⟩
          simp [hlt] at h1
          rw [← h1]
          simp
        omega
    exact ⟨hr, done listed a hv w hz hG hr⟩
  | succ fuel ih =>
    intro listed a hv w hz hc hcl hG
    refine ⟨done listed a hv w hz hG, fun j hj => ?_⟩
    obtain ⟨hun, o, ho, hpre⟩ := mem_ready.1 hj
    have hjlt : j < ops.size := (Array.getElem?_eq_some_iff.1 ho).1
    have hjl : j < listed.size := by omega
    have hnS : SL listed j = false := by
      unfold SL
      simp [hjl] at hun ⊢
      exact hun
    obtain ⟨e, he⟩ := hC.ent ho
    have hbl : ∀ i, ((bsOf ops).getD j 0).testBit i = true → SL listed i = true := before_listed hC hcl ho fun e' he' hb => hpre e' (by simpa using he') hb
    have hSset : ∀ i, SL (listed.setIfInBounds j true) i = (SL listed i || decide (i = j)) := by
      intro i
      unfold SL
      by_cases hij : i = j
      · subst hij; simp [hjl]
      · rw [getD_set_ne false (Ne.symm hij)]; simp [hij]
    -- what j looks at is what it looks at in the text's order
    have hwho : ∀ i p, tr[i]? = some p → i ≠ j → ((∀ d, p.1.dst = some d → d ∉ o.looksAt ops) ∧ disj (p.2.δ.map (·.1)) e.F = true ∧ disj (e.δ.map (·.1)) p.2.F = true) ∨ SL listed i = decide (i < j) := by
      intro i p hp hij
      rcases Nat.lt_or_gt_of_ne hij with hlt | hgt
      · have := hC.pair hp he hlt
        simp only [pairOK, Bool.and_eq_true, Bool.or_eq_true] at this
        rcases this.2 with h1 | ⟨⟨h1, h2⟩, h3⟩
        · right; rw [hbl i h1]; simp [hlt]
        · left; exact ⟨(Oper.apart_spec h3).1, h1, h2⟩
      · have := hC.pair he hp hgt
        simp only [pairOK, Bool.and_eq_true, Bool.or_eq_true] at this
        rcases this.2 with h1 | ⟨⟨h1, h2⟩, h3⟩
        · right
          cases hl : SL listed i with
          | false => simp; omega
          | true =>
            have := hcl j i hl h1
            rw [hnS] at this
            cases this
        · left; exact ⟨(Oper.apart_spec h3).2.2, h2, h1⟩
    have hdne : ∀ i p, tr[i]? = some p → i ≠ j → ∀ d, p.1.dst = some d → o.dst ≠ some d := by
      intro i p hp hij d hd hod
      rcases Nat.lt_or_gt_of_ne hij with hlt | hgt
      · have := hC.pair hp he hlt
        simp only [pairOK, Bool.and_eq_true] at this
        have h1 := this.1
        simp [dstNe, hd, hod] at h1
      · have := hC.pair he hp hgt
        simp only [pairOK, Bool.and_eq_true] at this
        have h1 := this.1
        simp [dstNe, hd, hod] at h1
    have htake : ∀ k, tr.take k = sub (fun i => decide (i < k)) 0 tr := fun k => by
      have := sub_lt tr 0 k
      simp only [Nat.zero_add] at this
      exact this.symm
    have hLeq : ∀ t ∈ o.looksAt ops, runL (sub (SL listed) 0 tr) L0 t = runL (tr.take j) L0 t := by
      intro t ht
      rw [htake]
      refine runL_congr fun i p hp hd => ?_
      by_cases hij : i = j
      · subst hij; rw [hnS]; simp
      · rcases hwho i p hp hij with h1 | h1
        · exact absurd ht (h1.1 t hd)
        · exact h1
    have hSeq : ∀ n ∈ e.F, runS (sub (SL listed) 0 tr) (find σ0) n = runS (tr.take j) (find σ0) n := by
      intro n hn
      rw [htake]
      refine runS_congr fun i p hp hd => ?_
      by_cases hij : i = j
      · subst hij; rw [hnS]; simp
      · rcases hwho i p hp hij with h1 | h1
        · exact absurd hn (disj_spec h1.2.1 hd)
        · exact h1
    obtain ⟨σj, hσj, hrun⟩ := hT.get j (o, e) he
    have hop : ∀ y ∈ o.op.operands, evL (runL (sub (SL listed) 0 tr) L0) y = evL (runL (tr.take j) L0) y := by
      intro y hy
      cases y with
      | tmp t =>
        refine hLeq t ?_
        exact List.mem_append_left _ (List.mem_filterMap.2 ⟨.tmp t, by simpa using hy, rfl⟩)
      | const v => rfl
      | global g => rfl
      | func f => rfl
    -- the state after it
    have hδF : ∀ p ∈ e.δ, p.1 ∈ e.F := by
      rcases hrun with ⟨_, h⟩ | ⟨_, _, h, _⟩
      · exact h.1
      · have h' : e.δ = [] := h
        rw [h']; simp
    have hnewS : ∀ n, runS (sub (SL (listed.setIfInBounds j true)) 0 tr) (find σ0) n = app (runS (sub (SL listed) 0 tr) (find σ0)) e.δ n := by
      intro n
      rw [app_val]
      cases hv' : valD e.δ n with
      | some B =>
        have hmem : n ∈ e.δ.map (·.1) := valD_some (by rw [hv']; rfl)
        have hF : n ∈ e.F := by
          obtain ⟨p, hp, rfl⟩ := List.mem_map.1 hmem
          exact hδF p hp
        rw [runS_get, sub_last (fS n) (b := B) tr 0 j (o, e) he hv' (by rw [Nat.zero_add, hSset]; simp) fun i p hp hs hSi => by
          rw [Nat.zero_add, hSset] at hSi
          by_cases hij : i = j
          · omega
          · rcases hwho i p hp hij with h1 | h1
            · exact absurd hF (disj_spec h1.2.1 (valD_some hs))
            · rw [h1] at hSi
              simp [hij] at hSi
              omega]
        rfl
      | none =>
        rw [Option.none_or]
        refine runS_congr fun i p hp hd => ?_
        rw [hSset]
        by_cases hij : i = j
        · subst hij
          rw [he] at hp
          cases hp
          obtain ⟨B, hB⟩ := valD_of hd
          rw [hB] at hv'
          cases hv'
        · simp [hij]
    have hnewL : ∀ t, runL (sub (SL (listed.setIfInBounds j true)) 0 tr) L0 t = setL (runL (sub (SL listed) 0 tr) L0) o.dst e.u t := by
      intro t
      by_cases ht : o.dst = some t
      · rw [runL_get, sub_last (fL t) (b := e.u) tr 0 j (o, e) he (by simp [fL, ht]) (by rw [Nat.zero_add, hSset]; simp) fun i p hp hs hSi => by
          by_cases hij : i = j
          · omega
          · exfalso
            unfold fL at hs
            split at hs
            · rename_i hd
              exact hdne i p hp hij t hd ht
            · cases hs]
        rw [ht]
        simp [setL]
      · have : setL (runL (sub (SL listed) 0 tr) L0) o.dst e.u t = runL (sub (SL listed) 0 tr) L0 t := by
          cases hd : o.dst with
          | none => rfl
          | some d =>
            simp only [setL]
            rw [if_neg]
            intro h
            exact ht (by rw [hd, h])
        rw [this]
        refine runL_congr fun i p hp hd => ?_
        rw [hSset]
        by_cases hij : i = j
        · subst hij
          rw [he] at hp
          cases hp
          exact absurd hd ht
        · simp [hij]
    have hcl' : Closed ops (SL (listed.setIfInBounds j true)) := by
      intro i k hk hb
      rw [hSset] at hk ⊢
      simp only [Bool.or_eq_true, decide_eq_true_eq] at hk ⊢
      rcases hk with hk | hk
      · exact .inl (hcl i k hk hb)
      · subst hk; exact .inl (hbl i hb)
    have hcnt : (listed.setIfInBounds j true).toList.countP (· == false) ≤ fuel := by
      have : (listed.setIfInBounds j true).toList = listed.toList.set j true := by simp
      rw [this]
      have hj2 : j < listed.toList.length := by simpa using hjl
      have hlj : listed.toList[j] = false := by
        unfold SL at hnS
        simp [hjl] at hnS
        simpa using hnS
      have h1 := List.countP_set (p := (· == false)) (l := listed.toList) (i := j) (a := true) hj2
      rw [hlj] at h1
      have h2 : (if (false == false) = true then 1 else 0) = 1 := rfl
      have h3 : (if (true == false) = true then 1 else 0) = 0 := rfl
      rw [h2, h3] at h1
      omega
    have goal : ∀ a' hv' w', Good x N (setL (runL (sub (SL listed) 0 tr) L0) o.dst e.u) (app (runS (sub (SL listed) 0 tr) (find σ0)) e.δ) a' hv' w' → wpAny P .any ops Q fuel (listed.setIfInBounds j true) a' w' := by
      intro a' hv' w' hG'
      refine ih (listed.setIfInBounds j true) a' hv' w' (by simpa using hz) hcnt hcl' ?_
      rw [funext hnewL, funext hnewS]
      exact hG'
    have hd := dstsOK_get hN ho
    unfold wpOp
    rw [ho]
    simp only
    have guardL : ∀ g want t b, o.guard = some (g, want) → gslot ops g = some t → runL (tr.take j) L0 t = .bool b → Region.wanted o (yielded ops a.tmps) = (b == want) := by
      intro g want t b hg ht hb
      have htN : t < N := by
        unfold gslot at ht
        cases hoj : ops[g]? with
        | none => rw [hoj] at ht; cases ht
        | some oj => rw [hoj] at ht; exact dstsOK_get hN hoj t ht
      have hlk : t ∈ o.looksAt ops := by
        refine List.mem_append_right _ ?_
        rw [hg]
        simp only
        have : (ops[g]?).bind (·.dst) = some t := ht
        rw [this]
        simp
      rw [← hLeq t hlk] at hb
      have hy := yielded_of hG ht htN hb
      simp [Region.wanted, hg, hy]
    have guardN : ∀ g want t, o.guard = some (g, want) → gslot ops g = some t → runL (tr.take j) L0 t = .tup [] → Region.wanted o (yielded ops a.tmps) = false := by
      intro g want t hg ht hb
      have htN : t < N := by
        unfold gslot at ht
        cases hoj : ops[g]? with
        | none => rw [hoj] at ht; cases ht
        | some oj => rw [hoj] at ht; exact dstsOK_get hN hoj t ht
      have hlk : t ∈ o.looksAt ops := by
        refine List.mem_append_right _ ?_
        rw [hg]
        simp only
        have : (ops[g]?).bind (·.dst) = some t := ht
        rw [this]
        simp
      rw [← hLeq t hlk] at hb
      have hy := yielded_none hG ht htN hb
      simp [Region.wanted, hg, hy]
    rcases hrun with ⟨hgd, hL⟩ | ⟨⟨g, want, t, hg, ht, hb⟩, hu, hδ, hF⟩
    · have hw : Region.wanted o (yielded ops a.tmps) = true := by
        rcases hgd with hgd | ⟨g, want, t, hg, ht, hb⟩
        · have hgd' : o.guard = none := hgd
          simp [Region.wanted, hgd']
        · rw [guardL g want t want hg ht hb]
          simp
      rw [if_pos hw]
      refine .inl (hL.2 (runS (sub (SL listed) 0 tr) (find σ0)) (fun n hn => by rw [hSeq n hn, hσj]) x a hv w hG.sim (fun y hy => ?_) _ Q fun v hv' w' hS hE hv0 => ?_)
      · rw [← hop y hy]; exact hG.opnd y
      · exact goal _ hv' w' (hG.put hd hS hE hv0)
    · have hw : Region.wanted o (yielded ops a.tmps) = false := by
        rcases hb with hb | hb
        · rw [guardL g want t (!want) hg ht hb]
          cases want <;> rfl
        · exact guardN g want t hg ht hb
      rw [hw]
      simp only [Bool.false_eq_true, if_false]
      refine goal _ hv w ?_
      simp only at hu hδ
      rw [hu, hδ]
      exact hG.put hd hG.sim (Env.le.refl _) rv_skip

theorem evD_sound {P : Program} (hm : P.follows .mixedOrders = true) {ops : Array Oper} {N : Nat} (hN : dstsOK N ops = true) {x : Ctx P} {Q : Exit → Act → World → Prop} {K : AFr → ASt → Prop} {fr : AFr} {σ : ASt} {id : Nat} {a : Act} {hv : Nat → Value} {w : World}
    (h : evD P ops ops.toList fr σ [] fun fr' σ' g => okDraw ops g.reverse = true ∧ K fr' σ') (hG : Good x N (look fr) (find σ) a hv w)
    (hQ : ∀ fr' σ' a' hv' w', K fr' σ' → Good x N (look fr') (find σ') a' hv' w' → Q .normal a' w') : (Code.region id ops true).wp P Q a w := by
  obtain ⟨tr, fr', σ', h1, h2, ⟨h3, hK⟩, h4, h5⟩ := evD_trace _ _ _ _ h
  refine wp_region_any hm ?_
  have hC : Cmm ops tr := ⟨h1, by simpa using h3⟩
  have hG' := hG.drew
  have e0 : sub (SL (Array.replicate ops.size false)) 0 tr = [] := by
    have : SL (Array.replicate ops.size false) = fun _ => false := by
      funext i
      unfold SL
      by_cases hi : i < ops.size <;> simp [hi]
    rw [this, sub_none]
  refine draw_any hN hC h2 (fun a hv w hG => hQ fr' σ' a hv w hK (by rw [h4, h5]; exact hG)) ops.size (Array.replicate ops.size false) a hv _ (by simp) ?_ ?_ ?_
  · exact Nat.le_trans List.countP_le_length (by simp)
  · intro i j hj
    unfold SL at hj
    by_cases hi : j < ops.size <;> simp [hi] at hj
  · rw [e0]; exact hG'

end Go.Proofs.Am
