/- From the walk over the code to the function's contract. -/
import Derived.Test.YteheffakmcpdjaaGreatDoorAmR
set_option linter.unusedSimpArgs false
set_option linter.unusedVariables false
namespace Go.Proofs.Am
open Go Go.RowKit
variable {P : Program}

def initF : Nat → List PV → AFr
  | _, [] => []
  | i, u :: r => (i, u) :: initF (i + 1) r

def initS : Nat → List Box → ASt
  | _, [] => []
  | j, B :: r => (1000000 + j, B) :: initS (j + 1) r

theorem look_initF : ∀ (args : List PV) (i t : Nat), look (initF i args) t = if i ≤ t then args.getD (t - i) .undef else .undef
  | [], i, t => by simp [initF, look]
  | u :: r, i, t => by
    simp only [initF, look]
    rw [look_initF r (i + 1) t]
    by_cases h : i = t
    · subst h; simp
    · rw [if_neg h]
      by_cases h' : i ≤ t
      · have : t - i = (t - (i + 1)) + 1 := by omega
        rw [if_pos (by omega), if_pos h', this]
        simp
      · rw [if_neg (by omega), if_neg h']

theorem find_initS : ∀ (ext : List Box) (j n : Nat), find (initS j ext) n = if 1000000 + j ≤ n then ext[n - (1000000 + j)]? else none
  | [], j, n => by simp [initS, find]
  | B :: r, j, n => by
    simp only [initS, find]
    rw [find_initS r (j + 1) n]
    by_cases h : 1000000 + j = n
    · subst h; simp
    · rw [if_neg h]
      by_cases h' : 1000000 + j ≤ n
      · have : n - (1000000 + j) = (n - (1000000 + (j + 1))) + 1 := by omega
        rw [if_pos (by omega), if_pos h', this]
        simp
      · rw [if_neg (by omega), if_neg h']

theorem stOf_init (ext : List Box) : find (initS 0 ext) = stOf [] ext := by
  funext n
  rw [find_initS]
  unfold stOf
  by_cases h : n < 1000000
  · rw [if_pos h, if_neg (by omega)]; rfl
  · rw [if_neg h, if_pos (by omega)]

def retUs (σ : ASt) (ns exts : List Nat) : List PV → Option (List PV × List Nat)
  | [] => some ([], [])
  | u :: us => match retU σ ns exts u, retUs σ ns exts us with
    | some (v, a), some (vs, b) => some (v :: vs, a ++ b)
    | _, _ => none

theorem retUs_get {σ : ASt} {ns exts : List Nat} : ∀ {us us' : List PV} {b : List Nat}, retUs σ ns exts us = some (us', b) → us'.length = us.length ∧ ∀ (i : Nat) (u u' : PV), us[i]? = some u → us'[i]? = some u' → ∃ a, retU σ ns exts u = some (u', a) ∧ ∀ n ∈ a, n ∈ b
  | [], us', b, h => by cases h; simp
  | u :: us, us', b, h => by
    simp only [retUs] at h
    cases h1 : retU σ ns exts u with
    | none => rw [h1] at h; cases h
    | some p =>
      cases h2 : retUs σ ns exts us with
      | none => rw [h1, h2] at h; cases h
      | some q =>
        obtain ⟨v, a⟩ := p
        obtain ⟨vs, b'⟩ := q
        rw [h1, h2] at h
        simp only [Option.some.injEq, Prod.mk.injEq] at h
        obtain ⟨rfl, rfl⟩ := h
        obtain ⟨k1, k2⟩ := retUs_get h2
        refine ⟨by simp [k1], fun i r r' hr hr' => ?_⟩
        cases i with
        | zero =>
          simp at hr hr'
          subst hr hr'
          exact ⟨a, h1, fun n hn => by simp [hn]⟩
        | succ i =>
          obtain ⟨c, e1, e2⟩ := k2 i r r' (by simpa using hr) (by simpa using hr')
          exact ⟨c, e1, fun n hn => by simp [e2 n hn]⟩

def packR : List PV → PV
  | [u] => u
  | us => .tup us

def nodupB : List Nat → Bool
  | [] => true
  | n :: r => !r.contains n && nodupB r

theorem nodupB_spec : ∀ {l : List Nat}, nodupB l = true → l.Nodup
  | [], _ => List.nodup_nil
  | n :: r, h => by
    simp only [nodupB, Bool.and_eq_true] at h
    exact List.nodup_cons.2 ⟨by simpa using h.1, nodupB_spec h.2⟩

def apartB (ns exts shl : List Nat) : Bool := ns.all (fun n => decide (n < 1000000)) && nodupB ns && decide (ns.length < 1000000) && disj ns shl && disj exts shl

/-- What the call must leave. -/
def retV (P : Program) (rs : List ResultVar) (ns exts : List Nat) (r : PV) (nb ext' : List Box) (fr : AFr) (σ : ASt) : Prop :=
  match resL P fr σ rs with
  | some us => match givL σ ns, givL σ exts, retUs σ ns exts us with
    | some (nb0, b1), some (e0, b2), some (us', b3) => apartB ns exts (b1 ++ (b2 ++ b3)) = true ∧ nb0 = nb ∧ e0 = ext' ∧ packR us' = r
    | _, _, _ => False
  | none => False

def retQ (P : Program) (rs : List ResultVar) (ns exts : List Nat) (r : PV) (nb ext' : List Box) : Post
  | .exit _, _, _ => False
  | _, fr, σ => retV P rs ns exts r nb ext' fr σ

theorem results_run {P : Program} {fn : Func} {tmps : Array Value} {w : World} {vs : List Value} (h : (fn.results.toList.mapM (one1 tmps)).run P w = .ok vs w) :
    (results fn tmps).run P w = .ok (match vs with | [v] => v | vs => .tuple vs.toArray) w := by
  have h1 : results fn tmps = (fn.results.mapM (one1 tmps)) >>= fun vs => pure (if h : vs.size = 1 then vs[0] else .tuple vs) := by
    unfold results
    congr 1
  rw [h1, Array.mapM_eq_mapM_toList]
  simp only [Sem.run_bind, map_eq_pure_bind, bind_assoc, pure_bind, h, Result.andThen_ok, Sem.run_pure]
  congr 1
  match vs with
  | [] => rfl
  | [v] => rfl
  | v :: u :: r => simp

/-- Some nil slices are taken as new empty ones that may grow. -/
def lifts : List (Nat × Nat × Nat × Nat) → AFr → ASt → AFr × ASt
  | [], fr, σ => (fr, σ)
  | (slot, n, e, sz) :: r, fr, σ => lifts r ((slot, .os n 0) :: fr) (put1 σ n (.arr e sz false []))
def liftsOK : List (Nat × Nat × Nat × Nat) → AFr → ASt → Prop
  | [], _, _ => True
  | (slot, n, e, sz) :: r, fr, σ => look fr slot = .nils ∧ find σ n = none ∧ 0 < sz ∧ liftsOK r ((slot, .os n 0) :: fr) (put1 σ n (.arr e sz false []))

theorem Good.lift1 {x : Ctx P} {N : Nat} {fr : AFr} {σ : ASt} {a : Act} {hv : Nat → Value} {w : World} (hG : Good x N (look fr) (find σ) a hv w) {slot n e sz : Nat} {sh : Bool} (hs : look fr slot = .nils) (hn : find σ n = none) (hz : 0 < sz) :
    ∃ hv', Good x N (look ((slot, .os n 0) :: fr)) (find (put1 σ n (.arr e sz sh []))) a hv' w := by
  obtain ⟨hS, hE⟩ := hG.sim.new (d := n) (B := .arr e sz sh []) (hd := .slice none 0 0) (w' := w) hn rfl rfl rfl (Nat.le_refl _) (fun _ _ => rfl) (fun b hb => by cases hb)
    (fun E _ => ⟨hz, [], ⟨by simp, .inl ⟨rfl, rfl⟩⟩, by simp, by simp, fun i y j u hy hu => by simp at hy⟩)
  refine ⟨upd hv n (.slice none 0 0), by rw [find_put1]; exact hS, hG.size, hG.defers, fun t => ?_⟩
  rw [find_put1]
  simp only [look]
  split
  · rename_i hst
    subst hst
    have hr := hG.regs slot
    rw [hs] at hr
    rw [hr.nils_inv]
    exact .os ⟨⟨none, 0, rfl⟩, .arr e sz sh [], sz, 0, upd_same _ _ _, rfl, Nat.le_refl _, fun _ => (upd_same _ _ _).symm⟩
  · exact (hG.regs t).mono hE

theorem Good.lifts {x : Ctx P} {N : Nat} {a : Act} {w : World} : ∀ (l : List (Nat × Nat × Nat × Nat)) {fr : AFr} {σ : ASt} {hv : Nat → Value}, Good x N (look fr) (find σ) a hv w → liftsOK l fr σ →
    ∃ hv', Good x N (look (Am.lifts l fr σ).1) (find (Am.lifts l fr σ).2) a hv' w
  | [], _, _, hv, hG, _ => ⟨hv, hG⟩
  | (slot, n, e, sz) :: r, fr, σ, hv, hG, h => by
    obtain ⟨h1, h2, h3, h4⟩ := h
    obtain ⟨hv1, hG1⟩ := hG.lift1 (e := e) (sh := false) h1 h2 h3
    exact Good.lifts r hG1 h4

/-- What the call must leave: the boxes handed back, and the nil slices lifted, may differ from path to path. -/
def retX (P : Program) (rs : List ResultVar) (exts : List Nat) (r : PV) (nb ext' : List Box) (fr : AFr) (σ : ASt) : Prop :=
  ∃ (l : List (Nat × Nat × Nat × Nat)) (ns : List Nat), liftsOK l fr σ ∧ retV P rs ns exts r nb ext' (lifts l fr σ).1 (lifts l fr σ).2

def retXQ (P : Program) (rs : List ResultVar) (exts : List Nat) (r : PV) (nb ext' : List Box) : Post
  | .exit _, _, _ => False
  | _, fr, σ => retX P rs exts r nb ext' fr σ

theorem den_ofW {P : Program} (hm : P.follows .mixedOrders = true) {k : FuncId} {fn : Func} {c : Code} {N : Nat} {rs : List ResultVar} {args : List PV} {ext : List Box} {r : PV} {nb ext' : List Box} (hf : P.funcs[k]? = some fn) (hb : fn.body = some c)
    (hen : ∀ as w, (callFunc k as).run P w = .ok (.enter k as) w) (hN : fn.ntmps = N) (hrs : fn.results.toList = rs) (hle : args.length ≤ N) {exts : List Nat} (hexts : exts = List.range' 1000000 ext'.length) (hel : ext'.length = ext.length)
    (h : W P N c (retXQ P rs exts r nb ext') (initF 0 args) (initS 0 ext)) : Den P k args ext r nb ext' := by
  refine ⟨hen, fun w V hv gc vals hS hl hR => ?_⟩
  refine calls_of_wp hf hb ?_
  have hG : Good (cx (P := P) w V hv ext gc) N (look (initF 0 args)) (find (initS 0 ext)) { tmps := vals.toArray ++ Array.replicate (fn.ntmps - vals.toArray.size) undef, defers := [] } hv w := by
    refine ⟨by rw [stOf_init]; exact hS, by simp; omega, rfl, fun t => ?_⟩
    rw [look_initF, stOf_init]
    simp only [Nat.zero_le, if_true, Nat.sub_zero]
    by_cases ht : t < args.length
    · have htv : t < vals.length := by omega
      have := hR t _ _ (List.getElem?_eq_getElem htv) (List.getElem?_eq_getElem ht)
      rw [List.getD_eq_getElem?_getD, List.getElem?_eq_getElem ht]
      have e : (vals.toArray ++ Array.replicate (fn.ntmps - vals.toArray.size) undef).getD t undef = vals[t] := by
        rw [Array.getD_eq_getD_getElem?, Array.getElem?_append_left (by simpa using htv)]
        simp [htv]
      rw [e]
      exact this
    · rw [List.getD_eq_getElem?_getD, List.getElem?_eq_none (by omega)]
      exact .undef _
  refine wp_mono (h (cx (P := P) w V hv ext gc) _ hv w hG) fun e a' w' hq => ?_
  have fin : (∃ fr σ hv', retX P rs exts r nb ext' fr σ ∧ Good (cx (P := P) w V hv ext gc) N (look fr) (find σ) a' hv' w') →
      a'.defers = [] ∧ ∃ v, (results fn a'.tmps).run P w' = .ok v w' ∧ ∃ v' hv', Ending.returned v = .returned v' ∧ SimW (cx (P := P) w V hv ext gc) (stOf nb ext') hv' w' ∧ RV (env (cx (P := P) w V hv ext gc) (stOf nb ext') hv' w') v' r := by
    rintro ⟨fr0, σ0, hv0, ⟨l, ns, hl0, hq⟩, hg0⟩
    obtain ⟨hv', hg⟩ := hg0.lifts l hl0
    revert hq hg
    generalize (lifts l fr0 σ0).1 = fr
    generalize (lifts l fr0 σ0).2 = σ
    intro hq hg
    unfold retV at hq
    split at hq
    · rename_i us hus
      split at hq
      · rename_i nb0 b1 e0 b2 us' b3 h1 h2 h3
        obtain ⟨hap, rfl, rfl, rfl⟩ := hq
        simp only [apartB, Bool.and_eq_true, decide_eq_true_eq] at hap
        obtain ⟨⟨⟨⟨a1, a2⟩, a3⟩, a4⟩, a5⟩ := hap
        obtain ⟨hv2, hS2, hR2⟩ := ret_core (shl := b1 ++ (b2 ++ b3)) hg.sim h1 h2 hexts (fun n hn => by
            simp only [cx] at hn
            cases hq : stOf [] ext n with
            | none => rw [hq] at hn; simp at hn
            | some B =>
              rcases stOf_cases hq with ⟨_, h3⟩ | ⟨j, rfl, hj⟩
              · simp at h3
              · have := (List.getElem?_eq_some_iff.1 hj).1
                rw [hexts]
                simp [List.mem_range'_1]
                omega)
          (fun n hn => by have := List.all_eq_true.1 a1 n hn; simpa using this) (nodupB_spec a2) a3 (fun n hn => by simp [hn]) (fun n hn => by simp [hn])
          (fun n hn => disj_spec a4 hn) (fun n hn => disj_spec a5 hn)
        subst hrs
        obtain ⟨vs, f1, f2, f3⟩ := resL_sound hg hus
        obtain ⟨g1, g2⟩ := retUs_get h3
        have hall : ∀ (i : Nat) (v : Value) (u' : PV), vs[i]? = some v → us'[i]? = some u' → RV (env (cx (P := P) w V hv ext gc) (stOf nb0 e0) hv2 w') v u' := fun i v u' hv0 hu' => by
          have hi := (List.getElem?_eq_some_iff.1 hu').1
          rw [g1] at hi
          obtain ⟨a, e1, e2⟩ := g2 i _ u' (List.getElem?_eq_getElem hi) hu'
          exact hR2 v _ u' a (f3 i v _ hv0 (List.getElem?_eq_getElem hi)) e1 fun n hn => by simp [e2 n hn]
        refine ⟨hg.defers, _, results_run f1, _, hv2, rfl, hS2, ?_⟩
        have hlen : vs.length = us'.length := by rw [f2, g1]
        have htup : RV (env (cx (P := P) w V hv ext gc) (stOf nb0 e0) hv2 w') (.tuple vs.toArray) (.tup us') := by
          refine .tup (by simpa using hlen) fun i u hu => ?_
          have hi := (List.getElem?_eq_some_iff.1 hu).1
          have := hall i (vs[i]'(by omega)) u (List.getElem?_eq_getElem (by omega)) hu
          rw [getD_listToArray, List.getD_eq_getElem?_getD, List.getElem?_eq_getElem (by omega)]
          exact this
        match vs, us', hlen, hall, htup with
        | [], [], _, _, ht => exact ht
        | [v], [u], _, ha, _ => exact ha 0 v u rfl rfl
        | v :: v' :: r, u :: u' :: r', _, _, ht => exact ht
      · exact hq.elim
    · exact hq.elim
  cases e with
  | normal => exact fin hq
  | ret => exact fin hq
  | exit id => obtain ⟨_, _, _, h, _⟩ := hq; exact h.elim
  | goto l => exact hq.elim
  | panic c => exact hq.elim
  | outgrown => exact hq.elim

theorem den_of {P : Program} (hm : P.follows .mixedOrders = true) {k : FuncId} {fn : Func} {c : Code} {N : Nat} {rs : List ResultVar} {args : List PV} {ext : List Box} {r : PV} {nb ext' : List Box} (hf : P.funcs[k]? = some fn) (hb : fn.body = some c)
    (hen : ∀ as w, (callFunc k as).run P w = .ok (.enter k as) w) (hN : fn.ntmps = N) (hrs : fn.results.toList = rs) (hle : args.length ≤ N) (hc : codeOK N c = true) (ns : List Nat) {exts : List Nat} (hexts : exts = List.range' 1000000 ext'.length) (hel : ext'.length = ext.length)
    (h : wv P N c (retQ P rs ns exts r nb ext') (initF 0 args) (initS 0 ext)) : Den P k args ext r nb ext' := by
  refine den_ofW hm hf hb hen hN hrs hle hexts hel fun x a hv w hG => wp_mono (wv_sound hm c hc _ _ _ h x a hv w hG) fun e a' w' hq => ?_
  have go : ∀ fr σ, retV P rs ns exts r nb ext' fr σ → retX P rs exts r nb ext' fr σ := fun fr σ h => ⟨[], ns, trivial, h⟩
  cases e with
  | normal => obtain ⟨fr, σ, hv', h1, h2⟩ := hq; exact ⟨fr, σ, hv', go _ _ h1, h2⟩
  | ret => obtain ⟨fr, σ, hv', h1, h2⟩ := hq; exact ⟨fr, σ, hv', go _ _ h1, h2⟩
  | exit id => exact hq
  | goto l => exact hq
  | panic c => exact hq
  | outgrown => exact hq

theorem den_ofX {P : Program} (hm : P.follows .mixedOrders = true) {k : FuncId} {fn : Func} {c : Code} {N : Nat} {rs : List ResultVar} {args : List PV} {ext : List Box} {r : PV} {nb ext' : List Box} (hf : P.funcs[k]? = some fn) (hb : fn.body = some c)
    (hen : ∀ as w, (callFunc k as).run P w = .ok (.enter k as) w) (hN : fn.ntmps = N) (hrs : fn.results.toList = rs) (hle : args.length ≤ N) (hc : codeOK N c = true) {exts : List Nat} (hexts : exts = List.range' 1000000 ext'.length) (hel : ext'.length = ext.length)
    (h : wv P N c (retXQ P rs exts r nb ext') (initF 0 args) (initS 0 ext)) : Den P k args ext r nb ext' :=
  den_ofW hm hf hb hen hN hrs hle hexts hel (wv_sound hm c hc _ _ _ h)

/-- An empty list that is an argument is nil or not. -/
theorem den_split {P : Program} {k : FuncId} {bs : List PV} (pre : List PV) {ext : List Box} {r : PV} {nb ext' : List Box} (h : ∀ b, Den P k (pre ++ .sn b :: bs) ext r nb ext') : Den P k (pre ++ .vs [] :: bs) ext r nb ext' := by
  refine ⟨(h true).enter, fun w V hv gc vals hS hl hR => ?_⟩
  have hi : pre.length < vals.length := by rw [hl]; simp
  have hva := hR pre.length vals[pre.length] (.vs []) (List.getElem?_eq_getElem hi) (by simp)
  obtain ⟨a, c, sz, U, q1, _⟩ := hva.vs_inv.vs_inv
  refine (h a.isNone).run w V hv gc vals hS (by rw [hl]; simp) fun i v u hv0 hu => ?_
  by_cases hia : i = pre.length
  · subst hia
    rw [List.getElem?_eq_getElem hi] at hv0
    cases hv0
    simp at hu
    subst hu
    rw [q1]
    exact .pure (.sn _ c rfl)
  · refine hR i v u hv0 ?_
    rw [← hu]
    rcases Nat.lt_or_gt_of_ne hia with h1 | h1
    · rw [List.getElem?_append_left h1, List.getElem?_append_left h1]
    · rw [List.getElem?_append_right (by omega), List.getElem?_append_right (by omega)]
      obtain ⟨m, hm⟩ : ∃ m, i - pre.length = m + 1 := ⟨i - pre.length - 1, by omega⟩
      rw [hm]
      simp

end Go.Proofs.Am
