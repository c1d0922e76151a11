/- Regions: in the text's order, and in any order. -/
import Derived.Test.YteheffakmcpdjaaGreatDoorAmM
set_option linter.unusedSimpArgs false
set_option linter.unusedVariables false
namespace Go.Proofs.Am
open Go Go.RowKit
variable {P : Program}

abbrev AFr := List (Nat × PV)

def look : AFr → Nat → PV
  | [], _ => .undef
  | (s, v) :: r, t => if s = t then v else look r t

def evL (L : Nat → PV) : Operand → PV
  | .tmp t => L t
  | .const v => abs0 v
  | .global _ => .undef
  | .func f => .fn f []

abbrev ev (fr : AFr) : Operand → PV := evL (look fr)

def setF (fr : AFr) (dst : Option Nat) (u : PV) : AFr :=
  match dst with
  | some d => (d, u) :: fr
  | none => fr

def setL (L : Nat → PV) (dst : Option Nat) (u : PV) : Nat → PV :=
  match dst with
  | some d => fun t => if t = d then u else L t
  | none => L

theorem look_setF (fr : AFr) (dst : Option Nat) (u : PV) : look (setF fr dst u) = setL (look fr) dst u := by
  cases dst with
  | none => rfl
  | some d =>
    funext t
    simp only [setF, look, setL]
    by_cases h : d = t
    · simp [h]
    · simp [h, Ne.symm h]

def put1 : ASt → Nat → Box → ASt
  | [], n, B => [(n, B)]
  | (m, C) :: r, n, B => if m = n then (n, B) :: r else (m, C) :: put1 r n B

def putL (σ : ASt) : ASt → ASt
  | [] => σ
  | (n, B) :: r => putL (put1 σ n B) r

theorem find_put1 : ∀ (σ : ASt) (n : Nat) (B : Box), find (put1 σ n B) = upd (find σ) n (some B)
  | [], n, B => by funext m; simp only [put1, find, upd]; by_cases h : n = m <;> simp [h, eq_comm]
  | (k, C) :: r, n, B => by
    funext m
    simp only [put1]
    by_cases hk : k = n
    · subst hk
      simp only [if_true, find, upd]
      by_cases h : k = m
      · subst h; simp
      · simp [h, Ne.symm h]
    · rw [if_neg hk]
      simp only [find]
      rw [find_put1 r n B]
      simp only [upd, find]
      by_cases h : k = m
      · subst h; simp [hk]
      · simp [h]

theorem find_putL : ∀ (δ σ : ASt), find (putL σ δ) = app (find σ) δ
  | [], σ => rfl
  | (n, B) :: r, σ => by simp only [putL, app]; rw [find_putL r, find_put1]

/-- A frame and a state read so. -/
structure Good (x : Ctx P) (N : Nat) (L : Nat → PV) (s : St) (a : Act) (hv : Nat → Value) (w : World) : Prop where
  sim : SimW x s hv w
  size : a.tmps.size = N
  defers : a.defers = []
  regs : ∀ t, RV (env x s hv w) (a.tmps.getD t undef) (L t)

theorem Good.opnd {x : Ctx P} {N : Nat} {L : Nat → PV} {s : St} {a : Act} {hv : Nat → Value} {w : World} (h : Good x N L s a hv w) (y : Operand) : RV (env x s hv w) (a.eval y) (evL L y) := by
  cases y with
  | tmp t => exact h.regs t
  | const v => exact RV_abs0 _ v
  | global g => exact .undef _
  | func f => exact .pure (.fn f)

theorem Good.put {x : Ctx P} {N : Nat} {L : Nat → PV} {s s' : St} {a : Act} {hv hv' : Nat → Value} {w w' : World} (h : Good x N L s a hv w) {dst : Option Nat} (hd : ∀ d, dst = some d → d < N) {v : Value} {u : PV}
    (hS : SimW x s' hv' w') (hE : Env.le (env x s hv w) (env x s' hv' w')) (hv0 : RV (env x s' hv' w') v u) : Good x N (setL L dst u) s' (a.put dst v) hv' w' := by
  cases dst with
  | none => exact ⟨hS, h.size, h.defers, fun t => (h.regs t).mono hE⟩
  | some d =>
    refine ⟨hS, by simp [Act.put, h.size], h.defers, fun t => ?_⟩
    simp only [setL, Act.put]
    by_cases ht : t = d
    · subst ht
      have hlt : t < a.tmps.size := by rw [h.size]; exact hd t rfl
      rw [if_pos rfl]
      simpa [hlt] using hv0
    · rw [if_neg ht]
      have := (h.regs t).mono hE
      simpa [Array.getD_eq_getD_getElem?, Array.getElem?_setIfInBounds_ne (Ne.symm ht)] using this

theorem Good.drew {x : Ctx P} {N : Nat} {L : Nat → PV} {s : St} {a : Act} {hv : Nat → Value} {w : World} (h : Good x N L s a hv w) : Good x N L s a hv { w with drawn := w.drawn + 1 } :=
  have hd := h.sim.drew 1
  ⟨hd.1, h.size, h.defers, fun t => (h.regs t).mono hd.2⟩

def gslot (ops : Array Oper) (j : Nat) : Option Nat := (ops[j]?).bind (·.dst)

theorem yielded_of {x : Ctx P} {N : Nat} {L : Nat → PV} {s : St} {a : Act} {hv : Nat → Value} {w : World} (h : Good x N L s a hv w) {ops : Array Oper} {j t : Nat} (ht : gslot ops j = some t) (htN : t < N) {b : Bool} (hb : L t = .bool b) : yielded ops a.tmps j = some b := by
  have hr := h.regs t
  rw [hb] at hr
  have hv0 := hr.bool_inv
  have hlt : t < a.tmps.size := by rw [h.size]; exact htN
  unfold yielded
  unfold gslot at ht
  rw [ht]
  have hg : a.tmps[t]? = some (.bool b) := by
    rw [Array.getD_eq_getD_getElem?, Array.getElem?_eq_getElem hlt] at hv0
    rw [Array.getElem?_eq_getElem hlt]
    simpa using hv0
  simp [hg]

theorem rv_skip {E : Env} : RV E undef (.tup []) := .pure (.tup (by rfl) (by intro i u hu; simp at hu))
theorem yielded_none {x : Ctx P} {N : Nat} {L : Nat → PV} {s : St} {a : Act} {hv : Nat → Value} {w : World} (h : Good x N L s a hv w) {ops : Array Oper} {j t : Nat} (ht : gslot ops j = some t) (htN : t < N) (hb : L t = .tup []) : yielded ops a.tmps j = none := by
  have hr := h.regs t
  rw [hb] at hr
  obtain ⟨vs, hv0, hl, _⟩ := hr.tup_inv
  have hlt : t < a.tmps.size := by rw [h.size]; exact htN
  unfold yielded
  unfold gslot at ht
  rw [ht]
  have hg : a.tmps[t]? = some (.tuple vs) := by
    rw [Array.getD_eq_getD_getElem?, Array.getElem?_eq_getElem hlt] at hv0
    rw [Array.getElem?_eq_getElem hlt]
    simpa using hv0
  simp [hg]

def dstsOK (N : Nat) (ops : Array Oper) : Bool := ops.toList.all fun o => match o.dst with | some d => decide (d < N) | none => true

theorem dstsOK_get {N : Nat} {ops : Array Oper} (h : dstsOK N ops = true) {i : Nat} {o : Oper} (ho : ops[i]? = some o) : ∀ d, o.dst = some d → d < N := fun d hd => by
  have hm : o ∈ ops.toList := by simpa using Array.mem_of_getElem? ho
  have := List.all_eq_true.1 h o hm
  rw [hd] at this
  simpa using this

/-! ### The text's order -/
def evOps (P : Program) (all : Array Oper) : List Oper → AFr → ASt → (AFr → ASt → Prop) → Prop
  | [], fr, σ, K => K fr σ
  | o :: r, fr, σ, K =>
    match o.guard with
    | none => evOp P o (ev fr) σ fun u δ _ => evOps P all r (setF fr o.dst u) (putL σ δ) K
    | some (j, want) =>
      match gslot all j with
      | some t => match look fr t with
        | .bool b =>
          (b = want → evOp P o (ev ((t, .bool want) :: fr)) σ fun u δ _ => evOps P all r (setF ((t, .bool want) :: fr) o.dst u) (putL σ δ) K) ∧
          (b = !want → evOps P all r (setF ((t, .bool (!want)) :: fr) o.dst (.tup [])) σ K)
        | .tup [] => evOps P all r (setF fr o.dst (.tup [])) σ K
        | _ => False
      | none => False

theorem look_over {fr : AFr} {t : Nat} {u : PV} (h : look fr t = u) : look ((t, u) :: fr) = look fr := by
  funext s
  simp only [look]
  split
  · rename_i hs; subst hs; exact h.symm
  · rfl

theorem evOps_sound {P : Program} {ops : Array Oper} {N : Nat} (hN : dstsOK N ops = true) {x : Ctx P} {Q : Exit → Act → World → Prop} {K : AFr → ASt → Prop} :
    ∀ (l : List Oper) (k : Nat) (fr : AFr) (σ : ASt) (a : Act) (hv : Nat → Value) (w : World), ops.toList.drop k = l → evOps P ops l fr σ K → Good x N (look fr) (find σ) a hv w →
      (∀ fr' σ' a' hv' w', K fr' σ' → Good x N (look fr') (find σ') a' hv' w' → Q .normal a' w') → wpOps P ops Q (List.range' k l.length) a w
  | [], k, fr, σ, a, hv, w, _, hK, hG, hQ => hQ fr σ a hv w hK hG
  | o :: r, k, fr, σ, a, hv, w, hl, hK, hG, hQ => by
    have ho : ops[k]? = some o := by
      have := List.getElem?_drop (xs := ops.toList) (i := k) (j := 0)
      rw [hl] at this
      simpa using this.symm
    have hr : ops.toList.drop (k + 1) = r := by rw [← List.drop_drop, hl]; simp
    have hd := dstsOK_get hN ho
    have step : ∀ fr1 : AFr, look fr1 = look fr → (evOp P o (ev fr1) σ fun u δ _ => evOps P ops r (setF fr1 o.dst u) (putL σ δ) K) → o.wp P a w (wpOps P ops Q (List.range' (k + 1) r.length)) Q := fun fr1 hfr hK => by
      have hρ : ∀ y, ev fr1 y = evL (look fr) y := fun y => by rw [ev, hfr]
      refine evOp_run hK x a hv w hG.sim (fun y _ => by rw [hρ]; exact hG.opnd y) _ Q fun u δ F hK v hv' w' hS hE hv0 => ?_
      refine evOps_sound hN r (k + 1) (setF fr1 o.dst u) (putL σ δ) (a.put o.dst v) hv' w' hr hK ?_ hQ
      rw [look_setF, find_putL, hfr]
      exact hG.put hd hS hE hv0
    simp only [List.length_cons, List.range'_succ, wpOps, ho]
    simp only [evOps] at hK
    cases hg : o.guard with
    | none =>
      rw [hg] at hK
      have hw : Region.wanted o (yielded ops a.tmps) = true := by simp [Region.wanted, hg]
      rw [if_pos hw]
      exact .inl (step fr rfl hK)
    | some p =>
      obtain ⟨j, want⟩ := p
      rw [hg] at hK
      simp only at hK
      cases ht : gslot ops j with
      | none => rw [ht] at hK; exact hK.elim
      | some t =>
        rw [ht] at hK
        simp only at hK
        have htN : t < N := by
          unfold gslot at ht
          cases hoj : ops[j]? with
          | none => rw [hoj] at ht; cases ht
          | some oj => rw [hoj] at ht; exact dstsOK_get hN hoj t ht
        cases hb : look fr t with
        | bool b =>
          rw [hb] at hK
          simp only at hK
          have hy := yielded_of hG ht htN hb
          by_cases hbw : b = want
          · have hw : Region.wanted o (yielded ops a.tmps) = true := by simp [Region.wanted, hg, hy, hbw]
            rw [if_pos hw]
            exact .inl (step _ (look_over (by rw [hb, hbw])) (hK.1 hbw))
          · have hw : Region.wanted o (yielded ops a.tmps) = false := by simp [Region.wanted, hg, hy, hbw]
            rw [hw]
            simp only [Bool.false_eq_true, if_false]
            have hbn : b = !want := by cases b <;> cases want <;> simp_all
            refine evOps_sound hN r (k + 1) _ σ (a.put o.dst undef) hv w hr (hK.2 hbn) ?_ hQ
            rw [look_setF, look_over (by rw [hb, hbn])]
            exact hG.put hd hG.sim (Env.le.refl _) rv_skip
        | tup cs =>
          rw [hb] at hK
          cases cs with
          | cons c cs => exact hK.elim
          | nil =>
            simp only at hK
            have hw : Region.wanted o (yielded ops a.tmps) = false := by
              have hy := yielded_none hG ht htN hb
              simp [Region.wanted, hg, hy]
            rw [hw]
            simp only [Bool.false_eq_true, if_false]
            refine evOps_sound hN r (k + 1) _ σ (a.put o.dst undef) hv w hr hK ?_ hQ
            rw [look_setF]
            exact hG.put hd hG.sim (Env.le.refl _) rv_skip
        | _ => rw [hb] at hK; exact hK.elim

end Go.Proofs.Am
