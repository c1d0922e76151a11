/- AmS. -/
import Derived.Test.YteakcpfdfglndaaGreatDoorAmR
set_option linter.unusedSimpArgs false
set_option linter.unusedVariables false
namespace Go.Proofs.Am
open Go Go.RowKit
variable {P : Program}
def initF : Nat → List PV → AFr
 | _, [] => []
 | i, u :: r => (i, u) :: initF (i + 1) r
def initS : Nat → List Box → ASt
 | _, [] => []
 | j, B :: r => (1000000 + j, B) :: initS (j + 1) r
theorem look_initF : ∀ (args : List PV) (i t : Nat), look (initF i args) t = if i ≤ t then args.getD (t - i) .undef else .undef
 | [], i, t => by simp [initF, look]
 | u :: r, i, t => by
  simp only [initF, look]
  rw [look_initF r (i + 1) t]
  by_cases h : i = t
  ·subst h; simp
  ·rw [if_neg h]
   by_cases h' : i ≤ t
   ·have : t - i = (t - (i + 1)) + 1 := by omega
    rw [if_pos (by omega), if_pos h', this]
    simp
   ·rw [if_neg (by omega), if_neg h']
theorem find_initS : ∀ (ext : List Box) (j n : Nat), find (initS j ext) n = if 1000000 + j ≤ n then ext[n - (1000000 + j)]? else none
 | [], j, n => by simp [initS, find]
 | B :: r, j, n => by
  simp only [initS, find]
  rw [find_initS r (j + 1) n]
  by_cases h : 1000000 + j = n
  ·subst h; simp
  ·rw [if_neg h]
   by_cases h' : 1000000 + j ≤ n
   ·have : n - (1000000 + j) = (n - (1000000 + (j + 1))) + 1 := by omega
    rw [if_pos (by omega), if_pos h', this]
    simp
   ·rw [if_neg (by omega), if_neg h']
theorem stOf_init (ext : List Box) : find (initS 0 ext) = stOf [] ext := by
 funext n
 rw [find_initS]
 unfold stOf
 by_cases h : n < 1000000
 ·rw [if_pos h, if_neg (by omega)]; rfl
 ·rw [if_neg h, if_pos (by omega)]
def retUs (σ : ASt) (ns exts : List Nat) : List PV → Option (List PV × List Nat)
 | [] => some ([], [])
 | u :: us => match retU σ ns exts u, retUs σ ns exts us with
  | some (v, a), some (vs, b) => some (v :: vs, a ++ b)
  | _, _ => none
theorem retUs_get {σ : ASt} {ns exts : List Nat} : ∀ {us us' : List PV} {b : List Nat}, retUs σ ns exts us = some (us', b) → us'.length = us.length ∧ ∀ (i : Nat) (u u' : PV), us[i]? = some u → us'[i]? = some u' → ∃ a, retU σ ns exts u = some (u', a) ∧ ∀ n ∈ a, n ∈ b
 | [], us', b, h => by cases h; simp
 | u :: us, us', b, h => by
  simp only [retUs] at h
  cases h1 : retU σ ns exts u with
  | none => rw [h1] at h; cases h
  | some p =>
   cases h2 : retUs σ ns exts us with
   | none => rw [h1, h2] at h; cases h
   | some q =>
    obtain ⟨v, a⟩ := p
    obtain ⟨vs, b'⟩ := q
    rw [h1, h2] at h
    simp only [Option.some.injEq, Prod.mk.injEq] at h
    obtain ⟨rfl, rfl⟩ := h
    obtain ⟨k1, k2⟩ := retUs_get h2
    refine ⟨by simp [k1], fun i r r' hr hr' => ?_⟩
    cases i with
    | zero =>
     simp at hr hr'
     subst hr hr'
     exact ⟨a, h1, fun n hn => by simp [hn]⟩
    | succ i =>
     obtain ⟨c, e1, e2⟩ := k2 i r r' (by simpa using hr) (by simpa using hr')
     exact ⟨c, e1, fun n hn => by simp [e2 n hn]⟩
def packR : List PV → PV
 | [u] => u
 | us => .tup us
def nodupB : List Nat → Bool
 | [] => true
 | n :: r => !r.contains n && nodupB r
theorem nodupB_spec : ∀ {l : List Nat}, nodupB l = true → l.Nodup
 | [], _ => List.nodup_nil
 | n :: r, h => by
  simp only [nodupB, Bool.and_eq_true] at h
  exact List.nodup_cons.2 ⟨by simpa using h.1, nodupB_spec h.2⟩
def apartB (ns exts shl : List Nat) : Bool := ns.all (fun n => decide (n < 1000000)) && nodupB ns && decide (ns.length < 1000000) && disj ns shl && disj exts shl
def retV (P : Program) (rs : List ResultVar) (ns exts : List Nat) (r : PV) (nb ext' : List Box) (fr : AFr) (σ : ASt) : Prop :=
 match resL P fr σ rs with
 | some us => match givL σ ns, givL σ exts, retUs σ ns exts us with
  | some (nb0, b1), some (e0, b2), some (us', b3) => apartB ns exts (b1 ++ (b2 ++ b3)) = true ∧ nb0 = nb ∧ e0 = ext' ∧ packR us' = r
  | _, _, _ => False
 | none => False
def retQ (P : Program) (rs : List ResultVar) (ns exts : List Nat) (r : PV) (nb ext' : List Box) : Post
 | .exit _, _, _ => False
 | _, fr, σ => retV P rs ns exts r nb ext' fr σ
theorem results_run {P : Program} {fn : Func} {tmps : Array Value} {w : World} {vs : List Value} (h : (fn.results.toList.mapM (one1 tmps)).run P w = .ok vs w) :
  (results fn tmps).run P w = .ok (match vs with | [v] => v | vs => .tuple vs.toArray) w := by
 have h1 : results fn tmps = (fn.results.mapM (one1 tmps)) >>= fun vs => pure (if h : vs.size = 1 then vs[0] else .tuple vs) := by
  unfold results
  congr 1
 rw [h1, Array.mapM_eq_mapM_toList]
 simp only [Sem.run_bind, map_eq_pure_bind, bind_assoc, pure_bind, h, Result.andThen_ok, Sem.run_pure]
 congr 1
 match vs with
 | [] => rfl
 | [v] => rfl
 | v :: u :: r => simp
def lifts : List (Nat × Nat × Nat × Nat) → AFr → ASt → AFr × ASt
 | [], fr, σ => (fr, σ)
 | (slot, n, e, sz) :: r, fr, σ => lifts r ((slot, .os n 0) :: fr) (put1 σ n (.arr e sz false []))
def liftsOK : List (Nat × Nat × Nat × Nat) → AFr → ASt → Prop
 | [], _, _ => True
 | (slot, n, e, sz) :: r, fr, σ => look fr slot = .nils ∧ find σ n = none ∧ 0 < sz ∧ liftsOK r ((slot, .os n 0) :: fr) (put1 σ n (.arr e sz false []))
theorem Good.lift1 {x : Ctx P} {N : Nat} {fr : AFr} {σ : ASt} {a : Act} {hv : Nat → Value} {w : World} (hG : Good x N (look fr) (find σ) a hv w) {slot n e sz : Nat} {sh : Bool} (hs : look fr slot = .nils) (hn : find σ n = none) (hz : 0 < sz) :
  ∃ hv', Good x N (look ((slot, .os n 0) :: fr)) (find (put1 σ n (.arr e sz sh []))) a hv' w := by
 obtain ⟨hS, hE⟩ := hG.sim.new (d := n) (B := .arr e sz sh []) (hd := .slice none 0 0) (w' := w) hn rfl rfl rfl (Nat.le_refl _) (fun _ _ => rfl) (fun b hb => by cases hb)
  (fun E _ => ⟨hz, [], ⟨by simp, .inl ⟨rfl, rfl⟩⟩, by simp, by simp, fun i y j u hy hu => by simp at hy⟩)
 refine ⟨upd hv n (.slice none 0 0), by rw [find_put1]; exact hS, hG.size, hG.defers, fun t => ?_⟩
 rw [find_put1]
 simp only [look]
 split
 ·rename_i hst
  subst hst
  have hr := hG.regs slot
  rw [hs] at hr
  rw [hr.nils_inv]
  exact .os ⟨⟨none, 0, rfl⟩, .arr e sz sh [], sz, 0, upd_same _ _ _, rfl, Nat.le_refl _, fun _ => (upd_same _ _ _).symm⟩
 ·exact (hG.regs t).mono hE
theorem Good.lifts {x : Ctx P} {N : Nat} {a : Act} {w : World} : ∀ (l : List (Nat × Nat × Nat × Nat)) {fr : AFr} {σ : ASt} {hv : Nat → Value}, Good x N (look fr) (find σ) a hv w → liftsOK l fr σ →
  ∃ hv', Good x N (look (Am.lifts l fr σ).1) (find (Am.lifts l fr σ).2) a hv' w
 | [], _, _, hv, hG, _ => ⟨hv, hG⟩
 | (slot, n, e, sz) :: r, fr, σ, hv, hG, h => by
  obtain ⟨h1, h2, h3, h4⟩ := h
  obtain ⟨hv1, hG1⟩ := hG.lift1 (e := e) (sh := false) h1 h2 h3
  exact Good.lifts r hG1 h4
def retG (P : Program) (rs : List ResultVar) (ns exts : List Nat) (r : PV) (nb ext' : List Box) (fr : AFr) (σ : ASt) : Prop :=
 ∃ us b1 b2 us' b3, resL P fr σ rs = some us ∧ givL σ ns = some (nb, b1) ∧ givR σ exts ext' b2 ∧ retUs σ ns exts us = some (us', b3) ∧ apartB ns exts (b1 ++ (b2 ++ b3)) = true ∧ packR us' = r
theorem retG_of {P : Program} {rs : List ResultVar} {ns exts : List Nat} {r : PV} {nb ext' : List Box} {fr : AFr} {σ : ASt} (h : retV P rs ns exts r nb ext' fr σ) : retG P rs ns exts r nb ext' fr σ := by
 unfold retV at h
 split at h
 ·rename_i us hus
  split at h
  ·rename_i nb0 b1 e0 b2 us' b3 h1 h2 h3
   obtain ⟨hap, rfl, rfl, rfl⟩ := h
   exact ⟨us, b1, b2, us', b3, hus, h1, givR_of h2, h3, hap, rfl⟩
  ·exact h.elim
 ·exact h.elim
def retMV (P : Program) (rs : List ResultVar) (ns exts0 exts : List Nat) (c m : Nat) (es : List (PV × PV)) (r : PV) (nb ext0' : List Box) (fr : AFr) (σ : ASt) : Prop :=
 match resL P fr σ rs with
 | some us => match givL σ ns, givL σ exts0, retUs σ ns exts us with
  | some (nb0, b1), some (e0, b2), some (us', b3) => (find σ c = some (.cells [.mh m]) ∧ find σ m = some (.mp es)) ∧ apartB ns exts (b1 ++ (b2 ++ b3)) = true ∧ nb0 = nb ∧ e0 = ext0' ∧ packR us' = r
  | _, _, _ => False
 | none => False
theorem retG_ofM {P : Program} {rs : List ResultVar} {ns exts0 exts : List Nat} {c m : Nat} {es : List (PV × PV)} {r : PV} {nb ext0' ext' : List Box} {fr : AFr} {σ : ASt} (hM : ∀ e ∈ es, noH e.2) (hE : exts = exts0 ++ [c, m]) (hE' : ext' = ext0' ++ [.cells [.mh m], .mp es]) (h : retMV P rs ns exts0 exts c m es r nb ext0' fr σ) : retG P rs ns exts r nb ext' fr σ := by
 unfold retMV at h
 split at h
 ·rename_i us hus
  split at h
  ·rename_i nb0 b1 e0 b2 us' b3 h1 h2 h3
   obtain ⟨⟨hc, hm⟩, hap, rfl, rfl, rfl⟩ := h
   obtain ⟨k1, k2⟩ := givL_get h2
   refine ⟨us, b1, b2, us', b3, hus, h1, ⟨by rw [hE, hE']; simp [k1], fun j n hj => ?_⟩, h3, hap, rfl⟩
   have hjl : j < exts0.length ∨ j = exts0.length ∨ j = exts0.length + 1 := by
    have := (List.getElem?_eq_some_iff.1 hj).1
    rw [hE] at this
    simp at this
    omega
   rcases hjl with hjl | rfl | rfl
   ·rw [hE, List.getElem?_append_left hjl] at hj
    obtain ⟨B, B', a, e1, e2, e3, e4⟩ := k2 j n hj
    exact ⟨B, B', a, e1, by rw [hE', List.getElem?_append_left (by omega)]; exact e2, .inl e3, e4⟩
   ·rw [hE, List.getElem?_append_right (by omega)] at hj
    simp at hj
    subst hj
    refine ⟨_, _, [], hc, by rw [hE', List.getElem?_append_right (by omega), k1]; simp, .inr ⟨rfl, rfl, .inl ⟨_, rfl, fun u hu => ⟨m, by rw [hE]; simp, by simpa using hu⟩⟩⟩, by simp⟩
   ·rw [hE, List.getElem?_append_right (by omega)] at hj
    simp at hj
    subst hj
    refine ⟨_, _, [], hm, by rw [hE', List.getElem?_append_right (by omega), k1]; simp, .inr ⟨rfl, rfl, .inr ⟨_, rfl, hM⟩⟩, by simp⟩
  ·exact h.elim
 ·exact h.elim
def retMQ (P : Program) (rs : List ResultVar) (ns exts0 exts : List Nat) (c m : Nat) (es : List (PV × PV)) (r : PV) (nb ext0' : List Box) : Post
 | .exit _, _, _ => False
 | _, fr, σ => retMV P rs ns exts0 exts c m es r nb ext0' fr σ
def retX (P : Program) (rs : List ResultVar) (exts : List Nat) (r : PV) (nb ext' : List Box) (fr : AFr) (σ : ASt) : Prop :=
 ∃ (l : List (Nat × Nat × Nat × Nat)) (ns : List Nat), liftsOK l fr σ ∧ retG P rs ns exts r nb ext' (lifts l fr σ).1 (lifts l fr σ).2
def retXQ (P : Program) (rs : List ResultVar) (exts : List Nat) (r : PV) (nb ext' : List Box) : Post
 | .exit _, _, _ => False
 | _, fr, σ => retX P rs exts r nb ext' fr σ
theorem den_ofW {P : Program} (hm : P.follows .mixedOrders = true) {k : FuncId} {fn : Func} {c : Code} {N : Nat} {rs : List ResultVar} {args : List PV} {ext : List Box} {r : PV} {nb ext' : List Box} (hf : P.funcs[k]? = some fn) (hb : fn.body = some c)
  (hen : ∀ as w, (callFunc k as).run P w = .ok (.enter k as) w) (hN : fn.ntmps = N) (hrs : fn.results.toList = rs) (hle : args.length ≤ N) {exts : List Nat} (hexts : exts = List.range' 1000000 ext'.length) (hel : ext'.length = ext.length)
  (h : W P N c (retXQ P rs exts r nb ext') (initF 0 args) (initS 0 ext)) : Den P k args ext r nb ext' := by
 refine ⟨hen, fun w V hv gc vals hS hl hR => ?_⟩
 refine calls_of_wp hf hb ?_
 have hG : Good (cx (P := P) w V hv ext gc) N (look (initF 0 args)) (find (initS 0 ext)) { tmps := vals.toArray ++ Array.replicate (fn.ntmps - vals.toArray.size) undef, defers := [] } hv w := by
  refine ⟨by rw [stOf_init]; exact hS, by simp; omega, rfl, fun t => ?_⟩
  rw [look_initF, stOf_init]
  simp only [Nat.zero_le, if_true, Nat.sub_zero]
  by_cases ht : t < args.length
  ·have htv : t < vals.length := by omega
   have := hR t _ _ (List.getElem?_eq_getElem htv) (List.getElem?_eq_getElem ht)
   rw [List.getD_eq_getElem?_getD, List.getElem?_eq_getElem ht]
   have e : (vals.toArray ++ Array.replicate (fn.ntmps - vals.toArray.size) undef).getD t undef = vals[t] := by
    rw [Array.getD_eq_getD_getElem?, Array.getElem?_append_left (by simpa using htv)]
    simp [htv]
   rw [e]
   exact this
  ·rw [List.getD_eq_getElem?_getD, List.getElem?_eq_none (by omega)]
   exact .undef _
 refine wp_mono (h (cx (P := P) w V hv ext gc) _ hv w hG) fun e a' w' hq => ?_
 have fin : (∃ fr σ hv', retX P rs exts r nb ext' fr σ ∧ Good (cx (P := P) w V hv ext gc) N (look fr) (find σ) a' hv' w') →
   a'.defers = [] ∧ ∃ v, (results fn a'.tmps).run P w' = .ok v w' ∧ ∃ v' hv', Ending.returned v = .returned v' ∧ SimW (cx (P := P) w V hv ext gc) (stOf nb ext') hv' w' ∧ RV (env (cx (P := P) w V hv ext gc) (stOf nb ext') hv' w') v' r := by
  rintro ⟨fr0, σ0, hv0, ⟨l, ns, hl0, hq⟩, hg0⟩
  obtain ⟨hv', hg⟩ := hg0.lifts l hl0
  revert hq hg
  generalize (lifts l fr0 σ0).1 = fr
  generalize (lifts l fr0 σ0).2 = σ
  intro hq hg
  obtain ⟨us, b1, b2, us', b3, hus, h1, h2, h3, hap, rfl⟩ := hq
  simp only [apartB, Bool.and_eq_true, decide_eq_true_eq] at hap
  obtain ⟨⟨⟨⟨a1, a2⟩, a3⟩, a4⟩, a5⟩ := hap
  obtain ⟨hv2, hS2, hR2⟩ := ret_coreX (shl := b1 ++ (b2 ++ b3)) hg.sim h1 h2 hexts (fun n hn => by
    simp only [cx] at hn
    cases hq : stOf [] ext n with
    | none => rw [hq] at hn; simp at hn
    | some B =>
     rcases stOf_cases hq with ⟨_, h3⟩ | ⟨j, rfl, hj⟩
     ·simp at h3
     ·have := (List.getElem?_eq_some_iff.1 hj).1
      rw [hexts]
      simp [List.mem_range'_1]
      omega)
   (fun n hn => by have := List.all_eq_true.1 a1 n hn; simpa using this) (nodupB_spec a2) a3 (fun n hn => by simp [hn]) (fun n hn => by simp [hn])
   (fun n hn => disj_spec a4 hn) (fun n hn => disj_spec a5 hn)
  subst hrs
  obtain ⟨vs, f1, f2, f3⟩ := resL_sound hg hus
  obtain ⟨g1, g2⟩ := retUs_get h3
  have hall : ∀ (i : Nat) (v : Value) (u' : PV), vs[i]? = some v → us'[i]? = some u' → RV (env (cx (P := P) w V hv ext gc) (stOf nb ext') hv2 w') v u' := fun i v u' hv0 hu' => by
   have hi := (List.getElem?_eq_some_iff.1 hu').1
   rw [g1] at hi
   obtain ⟨a, e1, e2⟩ := g2 i _ u' (List.getElem?_eq_getElem hi) hu'
   exact hR2 v _ u' a (f3 i v _ hv0 (List.getElem?_eq_getElem hi)) e1 fun n hn => by simp [e2 n hn]
  refine ⟨hg.defers, _, results_run f1, _, hv2, rfl, hS2, ?_⟩
  have hlen : vs.length = us'.length := by rw [f2, g1]
  have htup : RV (env (cx (P := P) w V hv ext gc) (stOf nb ext') hv2 w') (.tuple vs.toArray) (.tup us') := by
   refine .tup (by simpa using hlen) fun i u hu => ?_
   have hi := (List.getElem?_eq_some_iff.1 hu).1
   have := hall i (vs[i]'(by omega)) u (List.getElem?_eq_getElem (by omega)) hu
   rw [getD_listToArray, List.getD_eq_getElem?_getD, List.getElem?_eq_getElem (by omega)]
   exact this
  match vs, us', hlen, hall, htup with
  | [], [], _, _, ht => exact ht
  | [v], [u], _, ha, _ => exact ha 0 v u rfl rfl
  | v :: v' :: r, u :: u' :: r', _, _, ht => exact ht
 cases e with
 | normal => exact fin hq
 | ret => exact fin hq
 | exit id => obtain ⟨_, _, _, h, _⟩ := hq; exact h.elim
 | goto l => exact hq.elim
 | panic c => exact hq.elim
 | outgrown => exact hq.elim
theorem den_of {P : Program} (hm : P.follows .mixedOrders = true) {k : FuncId} {fn : Func} {c : Code} {N : Nat} {rs : List ResultVar} {args : List PV} {ext : List Box} {r : PV} {nb ext' : List Box} (hf : P.funcs[k]? = some fn) (hb : fn.body = some c)
  (hen : ∀ as w, (callFunc k as).run P w = .ok (.enter k as) w) (hN : fn.ntmps = N) (hrs : fn.results.toList = rs) (hle : args.length ≤ N) (hc : codeOK N c = true) (ns : List Nat) {exts : List Nat} (hexts : exts = List.range' 1000000 ext'.length) (hel : ext'.length = ext.length)
  (h : wv P N c (retQ P rs ns exts r nb ext') (initF 0 args) (initS 0 ext)) : Den P k args ext r nb ext' := by
 refine den_ofW hm hf hb hen hN hrs hle hexts hel fun x a hv w hG => wp_mono (wv_sound hm c hc _ _ _ h x a hv w hG) fun e a' w' hq => ?_
 have go : ∀ fr σ, retV P rs ns exts r nb ext' fr σ → retX P rs exts r nb ext' fr σ := fun fr σ h => ⟨[], ns, trivial, retG_of h⟩
 cases e with
 | normal => obtain ⟨fr, σ, hv', h1, h2⟩ := hq; exact ⟨fr, σ, hv', go _ _ h1, h2⟩
 | ret => obtain ⟨fr, σ, hv', h1, h2⟩ := hq; exact ⟨fr, σ, hv', go _ _ h1, h2⟩
 | exit id => exact hq
 | goto l => exact hq
 | panic c => exact hq
 | outgrown => exact hq
theorem den_ofM {P : Program} (hm : P.follows .mixedOrders = true) {k : FuncId} {fn : Func} {cd : Code} {N : Nat} {rs : List ResultVar} {args : List PV} {ext : List Box} {r : PV} {nb ext' : List Box} (hf : P.funcs[k]? = some fn) (hb : fn.body = some cd)
  (hen : ∀ as w, (callFunc k as).run P w = .ok (.enter k as) w) (hN : fn.ntmps = N) (hrs : fn.results.toList = rs) (hle : args.length ≤ N) (hc : codeOK N cd = true) (ns : List Nat) {es : List (PV × PV)} (hM : ∀ e ∈ es, noH e.2) (exts0 : List Nat) (c m : Nat) (ext0' : List Box) {exts : List Nat} (hexts : exts = List.range' 1000000 ext'.length) (hel : ext'.length = ext.length)
  (hE : exts = exts0 ++ [c, m]) (hE' : ext' = ext0' ++ [.cells [.mh m], .mp es])
  (h : wv P N cd (retMQ P rs ns exts0 exts c m es r nb ext0') (initF 0 args) (initS 0 ext)) : Den P k args ext r nb ext' := by
 refine den_ofW hm hf hb hen hN hrs hle hexts hel fun x a hv w hG => wp_mono (wv_sound hm cd hc _ _ _ h x a hv w hG) fun e a' w' hq => ?_
 have go : ∀ fr σ, retMV P rs ns exts0 exts c m es r nb ext0' fr σ → retX P rs exts r nb ext' fr σ := fun fr σ h => ⟨[], ns, trivial, retG_ofM hM hE hE' h⟩
 cases e with
 | normal => obtain ⟨fr, σ, hv', h1, h2⟩ := hq; exact ⟨fr, σ, hv', go _ _ h1, h2⟩
 | ret => obtain ⟨fr, σ, hv', h1, h2⟩ := hq; exact ⟨fr, σ, hv', go _ _ h1, h2⟩
 | exit id => exact hq
 | goto l => exact hq
 | panic c => exact hq
 | outgrown => exact hq
theorem den_ofX {P : Program} (hm : P.follows .mixedOrders = true) {k : FuncId} {fn : Func} {c : Code} {N : Nat} {rs : List ResultVar} {args : List PV} {ext : List Box} {r : PV} {nb ext' : List Box} (hf : P.funcs[k]? = some fn) (hb : fn.body = some c)
  (hen : ∀ as w, (callFunc k as).run P w = .ok (.enter k as) w) (hN : fn.ntmps = N) (hrs : fn.results.toList = rs) (hle : args.length ≤ N) (hc : codeOK N c = true) {exts : List Nat} (hexts : exts = List.range' 1000000 ext'.length) (hel : ext'.length = ext.length)
  (h : wv P N c (retXQ P rs exts r nb ext') (initF 0 args) (initS 0 ext)) : Den P k args ext r nb ext' :=
 den_ofW hm hf hb hen hN hrs hle hexts hel (wv_sound hm c hc _ _ _ h)
theorem den_split {P : Program} {k : FuncId} {bs : List PV} (pre : List PV) {ext : List Box} {r : PV} {nb ext' : List Box} (h : ∀ b, Den P k (pre ++ .sn b :: bs) ext r nb ext') : Den P k (pre ++ .vs [] :: bs) ext r nb ext' := by
 refine ⟨(h true).enter, fun w V hv gc vals hS hl hR => ?_⟩
 have hi : pre.length < vals.length := by rw [hl]; simp
 have hva := hR pre.length vals[pre.length] (.vs []) (List.getElem?_eq_getElem hi) (by simp)
 obtain ⟨a, c, sz, U, q1, _⟩ := hva.vs_inv.vs_inv
 refine (h a.isNone).run w V hv gc vals hS (by rw [hl]; simp) fun i v u hv0 hu => ?_
 by_cases hia : i = pre.length
 ·subst hia
  rw [List.getElem?_eq_getElem hi] at hv0
  cases hv0
  simp at hu
  subst hu
  rw [q1]
  exact .pure (.sn _ c rfl)
 ·refine hR i v u hv0 ?_
  rw [← hu]
  rcases Nat.lt_or_gt_of_ne hia with h1 | h1
  ·rw [List.getElem?_append_left h1, List.getElem?_append_left h1]
  ·rw [List.getElem?_append_right (by omega), List.getElem?_append_right (by omega)]
   obtain ⟨m, hm⟩ : ∃ m, i - pre.length = m + 1 := ⟨i - pre.length - 1, by omega⟩
   rw [hm]
   simp
end Go.Proofs.Am

/- Stepping: rules that reckon a walk. -/
namespace Go.Proofs.Am
open Go Go.RowKit
variable {P : Program}
def bv {α : Type} (a : α) (k : α → Prop) : Prop := k a
def mk {α : Type} (a : α) : α := a
theorem mk_eq {α : Type} (a : α) : mk a = a := (rfl)
theorem bv_congr {α : Type} {a b : α} {k : α → Prop} (h : mk a = b) : bv a k = bv b k := by rw [← h]; rfl
theorem bv_eq {α : Type} (a : α) (k : α → Prop) : bv a k = k a := (rfl)
def kk (K : KT) (u : PV) (δ : ASt) (F : List Nat) : Prop := bv u fun u => bv δ fun δ => K u δ F
theorem kk_eq (K : KT) (u : PV) (δ : ASt) (F : List Nat) : kk K u δ F = bv u fun u => bv δ fun δ => K u δ F := (rfl)
def rowAt (xs : List (List PV)) (i : Nat) : List PV := xs.getD i []
def celAt (cs : List PV) (i : Nat) : PV := cs.getD i .undef
def el {α : Type} [Inhabited α] (l : List α) (i : Nat) : α := l.getD i default
def evO (P : Program) (op : Op) (d : Option Nat) (fr : AFr) (σ : ASt) (K : KT) : Prop := evOp P ⟨d, op, 0, "", #[], none⟩ (ev fr) σ K
theorem evOp_evO (P : Program) (d : Option Nat) (op : Op) (ty : TypeId) (p : String) (af : Array Edge) (g : Option (Nat × Bool)) (fr : AFr) (σ : ASt) (K : KT) : evOp P ⟨d, op, ty, p, af, g⟩ (ev fr) σ K = evO P op d fr σ K := by
 unfold evO evOp
 cases op <;> rfl
theorem look_cons (s : Nat) (u : PV) (r : AFr) (t : Nat) : look ((s, u) :: r) t = if s = t then u else look r t := (rfl)
theorem look_hit (t : Nat) (u : PV) (r : AFr) : look ((t, u) :: r) t = u := by simp [look]
theorem ev_tmp (fr : AFr) (t : Nat) : ev fr (.tmp t) = look fr t := (rfl)
theorem ev_const (fr : AFr) (v : Value) : ev fr (.const v) = abs0 v := (rfl)
theorem ev_func (fr : AFr) (f : FuncId) : ev fr (.func f) = .fn f [] := (rfl)
theorem find_cons (m : Nat) (B : Box) (r : ASt) (n : Nat) : find ((m, B) :: r) n = if m = n then some B else find r n := (rfl)
theorem find_nil (n : Nat) : find [] n = none := (rfl)
theorem putL_nil (σ : ASt) : putL σ [] = σ := (rfl)
theorem putL_cons (σ : ASt) (n : Nat) (B : Box) (r : ASt) : putL σ ((n, B) :: r) = putL (put1 σ n B) r := (rfl)
theorem put1_nil (n : Nat) (B : Box) : put1 [] n B = [(n, B)] := (rfl)
theorem put1_cons (m : Nat) (C : Box) (r : ASt) (n : Nat) (B : Box) : put1 ((m, C) :: r) n B = if m = n then (n, B) :: r else (m, C) :: put1 r n B := (rfl)
theorem abs0_bool (b : Bool) : abs0 (.bool b) = .bool b := (rfl)
theorem abs0_int (k : IntKind) (n : Int) : abs0 (.int k n) = .int k n := (rfl)
theorem abs0_str (s : ByteArray) : abs0 (.string s) = .str s.data.toList := (rfl)
theorem abs0_nilp : abs0 (.pointer none) = .nilp := (rfl)
theorem abs0_nils : abs0 (.slice none 0 0) = .nils := (rfl)
theorem abs0_nilm : abs0 (.map none) = .nilm := (rfl)
def nx (P : Program) (all : Array Oper) (r : List Oper) (fr : AFr) (d : Option Nat) (u : PV) (σ δ : ASt) (K : AFr → ASt → Prop) : Prop := evOps P all r (setF fr d u) (putL σ δ) K
theorem nx_some_nil (P : Program) (all : Array Oper) (r : List Oper) (fr : AFr) (d : Nat) (u : PV) (σ : ASt) (K : AFr → ASt → Prop) : nx P all r fr (some d) u σ [] K = evOps P all r ((d, u) :: fr) σ K := (rfl)
theorem nx_some_cons (P : Program) (all : Array Oper) (r : List Oper) (fr : AFr) (d : Nat) (u : PV) (σ : ASt) (p : Nat × Box) (δ : ASt) (K : AFr → ASt → Prop) :
  nx P all r fr (some d) u σ (p :: δ) K = bv (putL σ (p :: δ)) fun σ => evOps P all r ((d, u) :: fr) σ K := (rfl)
theorem nx_none_cons (P : Program) (all : Array Oper) (r : List Oper) (fr : AFr) (u : PV) (σ : ASt) (p : Nat × Box) (δ : ASt) (K : AFr → ASt → Prop) :
  nx P all r fr none u σ (p :: δ) K = bv (putL σ (p :: δ)) fun σ => evOps P all r fr σ K := (rfl)
theorem evOps_nil (P : Program) (all : Array Oper) (fr : AFr) (σ : ASt) (K : AFr → ASt → Prop) : evOps P all [] fr σ K = K fr σ := (rfl)
theorem evOps_none (P : Program) (all : Array Oper) (d : Option Nat) (op : Op) (ty : TypeId) (p : String) (af : Array Edge) (r : List Oper) (fr : AFr) (σ : ASt) (K : AFr → ASt → Prop) :
  evOps P all (⟨d, op, ty, p, af, none⟩ :: r) fr σ K = evO P op d fr σ fun u δ _ => nx P all r fr d u σ δ K := by
 simp only [evOps]
 rw [evOp_evO]
 rfl
def vG (P : Program) (all : Array Oper) (op : Op) (d : Option Nat) (r : List Oper) (fr : AFr) (σ : ASt) (K : AFr → ASt → Prop) (t : Nat) (want : Bool) : PV → Prop
 | .bool b => (b = want → evO P op d ((t, .bool want) :: fr) σ fun u δ _ => nx P all r ((t, .bool want) :: fr) d u σ δ K) ∧ (b = !want → nx P all r ((t, .bool (!want)) :: fr) d (.tup []) σ [] K)
 | .tup [] => nx P all r fr d (.tup []) σ [] K
 | _ => False
theorem evOps_some (P : Program) (all : Array Oper) (d : Option Nat) (op : Op) (ty : TypeId) (p : String) (af : Array Edge) (j : Nat) (want : Bool) (r : List Oper) (fr : AFr) (σ : ASt) (K : AFr → ASt → Prop) :
  evOps P all (⟨d, op, ty, p, af, some (j, want)⟩ :: r) fr σ K = bv (gslot all j) fun t => match t with | some t => bv (look fr t) fun u => vG P all op d r fr σ K t want u | none => False := by
 simp only [evOps, bv]
 cases gslot all j with
 | none => rfl
 | some t =>
  simp only
  cases look fr t with
  | tup cs => cases cs <;> simp only [vG] <;> rfl
  | bool b => simp only [vG, evOp_evO]; rfl
  | _ => simp only [vG]
theorem gslot_zero (o : Oper) (l : List Oper) : gslot (List.toArray (o :: l)) 0 = o.dst := (rfl)
theorem gslot_succ (o : Oper) (l : List Oper) (j : Nat) : gslot (List.toArray (o :: l)) (j + 1) = gslot (List.toArray l) j := by simp [gslot]
theorem vG_bool (P : Program) (all : Array Oper) (op : Op) (d : Option Nat) (r : List Oper) (fr : AFr) (σ : ASt) (K : AFr → ASt → Prop) (t : Nat) (want b : Bool) : vG P all op d r fr σ K t want (.bool b) =
  ((b = want → evO P op d ((t, .bool want) :: fr) σ fun u δ _ => nx P all r ((t, .bool want) :: fr) d u σ δ K) ∧ (b = !want → bv (PV.bool (!want)) fun v => nx P all r ((t, v) :: fr) d (.tup []) σ [] K)) := (rfl)
theorem vG_skip (P : Program) (all : Array Oper) (op : Op) (d : Option Nat) (r : List Oper) (fr : AFr) (σ : ASt) (K : AFr → ASt → Prop) (t : Nat) (want : Bool) : vG P all op d r fr σ K t want (.tup []) = nx P all r fr d (.tup []) σ [] K := (rfl)
def nxD (P : Program) (all : Array Oper) (r : List Oper) (fr : AFr) (d : Option Nat) (u : PV) (σ δ : ASt) (g : Log) (F : List Nat) (K : AFr → ASt → Log → Prop) : Prop := evD P all r (setF fr d u) (putL σ δ) ((δ.map (·.1), F) :: g) K
theorem nxD_some_nil (P : Program) (all : Array Oper) (r : List Oper) (fr : AFr) (d : Nat) (u : PV) (σ : ASt) (g : Log) (F : List Nat) (K : AFr → ASt → Log → Prop) : nxD P all r fr (some d) u σ [] g F K = evD P all r ((d, u) :: fr) σ (([], F) :: g) K := (rfl)
theorem nxD_some_cons (P : Program) (all : Array Oper) (r : List Oper) (fr : AFr) (d : Nat) (u : PV) (σ : ASt) (p : Nat × Box) (δ : ASt) (g : Log) (F : List Nat) (K : AFr → ASt → Log → Prop) :
  nxD P all r fr (some d) u σ (p :: δ) g F K = bv ((p :: δ).map (·.1)) fun m => bv (putL σ (p :: δ)) fun σ => evD P all r ((d, u) :: fr) σ ((m, F) :: g) K := (rfl)
theorem nxD_none_cons (P : Program) (all : Array Oper) (r : List Oper) (fr : AFr) (u : PV) (σ : ASt) (p : Nat × Box) (δ : ASt) (g : Log) (F : List Nat) (K : AFr → ASt → Log → Prop) :
  nxD P all r fr none u σ (p :: δ) g F K = bv ((p :: δ).map (·.1)) fun m => bv (putL σ (p :: δ)) fun σ => evD P all r fr σ ((m, F) :: g) K := (rfl)
theorem evD_nil (P : Program) (all : Array Oper) (fr : AFr) (σ : ASt) (g : Log) (K : AFr → ASt → Log → Prop) : evD P all [] fr σ g K = K fr σ g := (rfl)
theorem evD_none (P : Program) (all : Array Oper) (d : Option Nat) (op : Op) (ty : TypeId) (p : String) (af : Array Edge) (r : List Oper) (fr : AFr) (σ : ASt) (g : Log) (K : AFr → ASt → Log → Prop) :
  evD P all (⟨d, op, ty, p, af, none⟩ :: r) fr σ g K = (isNext op = false ∧ evO P op d fr σ fun u δ F => bv F fun F => nxD P all r fr d u σ δ g F K) := by
 simp only [evD]
 rw [evOp_evO]
 rfl
def vGD (P : Program) (all : Array Oper) (op : Op) (d : Option Nat) (r : List Oper) (fr : AFr) (σ : ASt) (g : Log) (K : AFr → ASt → Log → Prop) (t : Nat) (want : Bool) : PV → Prop
 | .bool b => (b = want → evO P op d ((t, .bool want) :: fr) σ fun u δ F => bv F fun F => nxD P all r ((t, .bool want) :: fr) d u σ δ g F K) ∧ (b = !want → evD P all r (setF ((t, .bool (!want)) :: fr) d (.tup [])) σ (([], []) :: g) K)
 | .tup [] => nxD P all r fr d (.tup []) σ [] g [] K
 | _ => False
theorem evD_some (P : Program) (all : Array Oper) (d : Option Nat) (op : Op) (ty : TypeId) (p : String) (af : Array Edge) (j : Nat) (want : Bool) (r : List Oper) (fr : AFr) (σ : ASt) (g : Log) (K : AFr → ASt → Log → Prop) :
  evD P all (⟨d, op, ty, p, af, some (j, want)⟩ :: r) fr σ g K = (isNext op = false ∧ bv (gslot all j) fun t => match t with | some t => bv (look fr t) fun u => vGD P all op d r fr σ g K t want u | none => False) := by
 simp only [evD, bv]
 cases gslot all j with
 | none => rfl
 | some t =>
  simp only
  cases look fr t with
  | tup cs => cases cs <;> simp only [vGD] <;> rfl
  | bool b => simp only [vGD, evOp_evO]; rfl
  | _ => simp only [vGD]
theorem vGD_bool (P : Program) (all : Array Oper) (op : Op) (d : Option Nat) (r : List Oper) (fr : AFr) (σ : ASt) (g : Log) (K : AFr → ASt → Log → Prop) (t : Nat) (want b : Bool) : vGD P all op d r fr σ g K t want (.bool b) =
  ((b = want → evO P op d ((t, .bool want) :: fr) σ fun u δ F => bv F fun F => nxD P all r ((t, .bool want) :: fr) d u σ δ g F K) ∧ (b = !want → bv (PV.bool (!want)) fun v => nxD P all r ((t, v) :: fr) d (.tup []) σ [] g [] K)) := (rfl)
theorem vGD_skip (P : Program) (all : Array Oper) (op : Op) (d : Option Nat) (r : List Oper) (fr : AFr) (σ : ASt) (g : Log) (K : AFr → ASt → Log → Prop) (t : Nat) (want : Bool) : vGD P all op d r fr σ g K t want (.tup []) = nxD P all r fr d (.tup []) σ [] g [] K := (rfl)
section
variable (P : Program) (d : Option Nat) (fr : AFr) (σ : ASt) (K : KT)
theorem rowAt_map {α : Type} [Inhabited α] (f : α → List PV) (l : List α) (i : Nat) (h : i < l.length) : rowAt (l.map f) i = f (el l i) := by
 simp [rowAt, el, List.getD_eq_getElem?_getD, h]
theorem celAt_zero (u : PV) (r : List PV) : celAt (u :: r) 0 = u := (rfl)
theorem celAt_succ (u : PV) (r : List PV) (i : Nat) : celAt (u :: r) (i + 1) = celAt r i := (rfl)
theorem rowAt_zero (u : List PV) (r : List (List PV)) : rowAt (u :: r) 0 = u := (rfl)
theorem rowAt_succ (u : List PV) (r : List (List PV)) (i : Nat) : rowAt (u :: r) (i + 1) = rowAt r i := (rfl)
theorem evO_move (x : Operand) : evO P (.move x) d fr σ K = kk K (ev fr x) [] [] := (rfl)
theorem evO_assign (x : Operand) : evO P (.assign x) d fr σ K = kk K (ev fr x) [] [] := (rfl)
def vPick (fr : AFr) (a b : Operand) (K : KT) : PV → Prop
 | .bool t => (t = true → kk K (ev fr a) [] []) ∧ (t = false → kk K (ev fr b) [] [])
 | _ => False
theorem evO_pick (c a b : Operand) : evO P (.pick c a b) d fr σ K = bv (ev fr c) (vPick fr a b K) := by
 simp only [evO, evOp, bv]
 cases ev fr c <;> rfl
theorem vPick_bool (a b : Operand) (t : Bool) : vPick fr a b K (.bool t) = ((t = true → kk K (ev fr a) [] []) ∧ (t = false → kk K (ev fr b) [] [])) := (rfl)
def vNil (K : KT) : PV → Prop
 | .ptr n k => K (.ptr n k) [] []
 | .el cs => K (.el cs) [] []
 | _ => False
theorem evO_nilCheck (x : Operand) : evO P (.nilCheck x) d fr σ K = bv (ev fr x) (vNil K) := by
 simp only [evO, evOp, bv]
 cases ev fr x <;> rfl
theorem vNil_ptr (n k : Nat) : vNil K (.ptr n k) = K (.ptr n k) [] [] := (rfl)
def vExt (i : Nat) (K : KT) : PV → Prop
 | .tup us => i < us.length ∧ kk K (celAt us i) [] []
 | _ => False
theorem evO_extract (t : Operand) (i : Nat) : evO P (.extract t i) d fr σ K = bv (ev fr t) (vExt i K) := by
 simp only [evO, evOp, bv]
 cases ev fr t <;> rfl
theorem vExt_tup (i : Nat) (us : List PV) : vExt i K (.tup us) = (i < us.length ∧ kk K (celAt us i) [] []) := (rfl)
theorem evO_alloc (t : TypeId) (d : Nat) : evO P (.alloc t) (some d) fr σ K = bv (zeroOf P t) fun z => match z with | some zs => find σ d = none ∧ K (.ptr d 0) [(d, .cells zs)] [d] | none => False := by
 simp only [evO, evOp, bv]
 cases zeroOf P t <;> rfl
theorem evO_box (t : TypeId) (x : Operand) (d : Nat) : evO P (.box t x) (some d) fr σ K = bv (cellsP (ev fr x)) fun z => match z with | some us => find σ d = none ∧ K (.ptr d 0) [(d, .cells us)] [d] | none => False := by
 simp only [evO, evOp, bv]
 cases cellsP (ev fr x) <;> rfl
def evPs (fr : AFr) : List (Nat × Operand) → List (Nat × PV)
 | [] => []
 | (i, x) :: r => (i, ev fr x) :: evPs fr r
theorem evPs_map (l : List (Nat × Operand)) : (l.map fun p => (p.1, ev fr p.2)) = evPs fr l := by
 induction l with
 | nil => rfl
 | cons p r ih => obtain ⟨i, x⟩ := p; simp only [List.map_cons, evPs, ih]
theorem evPs_nil : evPs fr [] = [] := (rfl)
theorem evPs_cons (i : Nat) (x : Operand) (r : List (Nat × Operand)) : evPs fr ((i, x) :: r) = (i, ev fr x) :: evPs fr r := (rfl)
theorem evO_build (t : TypeId) (ps : List (Nat × Operand)) : evO P (.build t ps.toArray) d fr σ K = bv (builtP P t (evPs fr ps)) fun z => match z with | some cs => K (.agg cs) [] [] | none => False := by
 simp only [evO, evOp, bv, evPs_map]
 cases builtP P t (evPs fr ps) <;> rfl
theorem evO_buildSlice (t : TypeId) (n : Nat) (ps : List (Nat × Operand)) : evO P (.buildSlice t n ps.toArray) d fr σ K = bv (evPs fr ps) fun z => evBuildSlice P t n z d σ K := by
 simp only [evO, evOp, bv, evPs_map]
theorem evO_load (t : TypeId) (a : Operand) : evO P (.load t a) d fr σ K = bv (ev fr a) fun u => evLoad P t σ u K := (rfl)
theorem evO_store (t : TypeId) (a v : Operand) : evO P (.store t a v) d fr σ K = bv (ev fr a) fun u => bv (ev fr v) fun v => evStore P t σ u v K := (rfl)
theorem evO_fieldAddr (t : TypeId) (x : Operand) (f : Nat) : evO P (.fieldAddr t x f) d fr σ K = bv (ev fr x) fun u => evFieldAddr P t f σ u K := (rfl)
theorem evO_indexAddr (t : TypeId) (x i : Operand) : evO P (.indexAddr t x i) d fr σ K = bv (ev fr x) fun u => bv (ev fr i) fun v => evIndexAddr P t σ u v K := (rfl)
theorem evO_index (t : TypeId) (x i : Operand) : evO P (.index t x i) d fr σ K = bv (ev fr x) fun u => bv (ev fr i) fun v => evIndex P t u v K := (rfl)
theorem evO_binOp (op : BinOp) (t : TypeId) (x y : Operand) (yt : TypeId) : evO P (.binOp op t x y yt) d fr σ K = bv (ev fr x) fun u => bv (ev fr y) fun v => evBin P op t u v fun u => kk K u [] [] := (rfl)
theorem evO_unOp (op : UnOp) (t : TypeId) (x : Operand) : evO P (.unOp op t x) d fr σ K = bv (ev fr x) fun u => evUn op u fun u => kk K u [] [] := (rfl)
theorem evO_convert (s e : TypeId) (x : Operand) : evO P (.convert s e x) d fr σ K = bv (ev fr x) fun u => evConvD P s e d σ u fun u δ F => kk K u δ F := (rfl)
theorem evO_slice (t : TypeId) (x : Operand) (lo hi mx : Option Operand) : evO P (.slice t x lo hi mx) d fr σ K = bv (ev fr x) fun u => bv (lo.map (ev fr)) fun lo => bv (hi.map (ev fr)) fun hi => bv (mx.map (ev fr)) fun mx => evSlice3 P t σ u lo hi mx fun u δ F => kk K u δ F := (rfl)
theorem evO_makeSlice (t : TypeId) (l c : Operand) : evO P (.makeSlice t l c) d fr σ K = bv (ev fr l) fun u => bv (ev fr c) fun v => evMake2 P t d σ u v fun u δ F => kk K u δ F := (rfl)
def evL1 (fr : AFr) : List Operand → List PV
 | [] => []
 | x :: r => ev fr x :: evL1 fr r
theorem evL1_map (l : List Operand) : l.map (ev fr) = evL1 fr l := by
 induction l with
 | nil => rfl
 | cons x r ih => simp only [List.map_cons, evL1, ih]
theorem evL1_nil : evL1 fr [] = [] := (rfl)
theorem evL1_cons (x : Operand) (r : List Operand) : evL1 fr (x :: r) = ev fr x :: evL1 fr r := (rfl)
theorem evO_makeFunc (f : FuncId) (cap : List Operand) : evO P (.makeFunc (.func f) #[] cap.toArray) d fr σ K = bv (evL1 fr cap) fun us => K (.fn f us) [] [] := by
 simp only [evO, evOp, bv, evL1_map, evMkF]
theorem evO_call (f : Operand) (ys : List Operand) (ts : Array TypeId) : evO P (.call ⟨.value f, ys.toArray, ts⟩) d fr σ K = bv (ev fr f) fun f => bv (evL1 fr ys) fun us => evCall P f us d σ fun u δ F => kk K u δ F := by
 simp only [evO, evOp, bv, evL1_map, evCl]
 rfl
theorem evO_invoke (r : Operand) (name : String) (ys : List Operand) (ts : Array TypeId) : evO P (.call ⟨.invoke r name, ys.toArray, ts⟩) d fr σ K = bv (ev fr r) fun r => bv (evL1 fr ys) fun us => evInv P r name us d σ fun u δ F => kk K u δ F := by
 simp only [evO, evOp, bv, evL1_map, evCl]
 rfl
theorem evO_mkI (t : TypeId) (x : Operand) : evO P (.makeInterface t x) d fr σ K = bv (ev fr x) fun u => evMkI P t σ u fun u δ F => kk K u δ F := (rfl)
theorem evInv_ifc (t : TypeId) (u : PV) (name : String) (us : List PV) : evInv P (.ifc t u) name us d σ K = bv (methT P t name) fun m => match m with
  | some f => evCall P (.fn f []) (u :: us) d σ K
  | none => False := (rfl)
theorem evMkI_agg (t : TypeId) (cs : List PV) : evMkI P t σ (.agg cs) K = (ifT P t = true ∧ bv (purL σ cs) fun p => match p with
  | some (us, []) => K (.ifc t (.agg us)) [] []
  | _ => False) := (rfl)
theorem evO_len (y : Operand) (t : TypeId) : evO P (.call ⟨.builtin .len, #[y], #[t]⟩) d fr σ K = bv (ev fr y) fun u => evLenA P t σ u K := (rfl)
theorem evO_clear (y : Operand) (t : TypeId) : evO P (.call ⟨.builtin .clear, #[y], #[t]⟩) d fr σ K = bv (ev fr y) fun u => evClr P t σ u K := (rfl)
theorem evO_append (y z : Operand) (t tx : TypeId) : evO P (.call ⟨.builtin .append, #[y, z], #[t, tx]⟩) d fr σ K = bv (ev fr y) fun u => bv (ev fr z) fun v => evApp2 P t tx d σ u v fun u δ F => kk K u δ F := (rfl)
theorem evO_min (y z : Operand) (ts : Array TypeId) : evO P (.call ⟨.builtin .min, #[y, z], ts⟩) d fr σ K = bv (ev fr y) fun u => bv (ev fr z) fun v => evMM false u v fun u δ F => kk K u δ F := (rfl)
theorem evLoad_ptr (t : TypeId) (n off : Nat) : evLoad P t σ (.ptr n off) K = bv (ldT P t) fun l => bv (find σ n) fun B => match l, B with
  | some none, some (.cells cs) => off < cs.length ∧ kk K (celAt cs off) [] [n]
  | some (some m), some (.cells cs) => off + m ≤ cs.length ∧ kk K (.agg ((cs.drop off).take m)) [] [n]
  | _, _ => False := by
 simp only [evLoad, bv, kk, rowAt, celAt]
 rcases ldT P t with _ | _ | m <;> (try rfl) <;> rcases find σ n with _ | B <;> (try rfl) <;> cases B <;> rfl
theorem evLoad_el (t : TypeId) (cs : List PV) : evLoad P t σ (.el cs) K = bv (ldT P t) fun l => match l with
  | some none => 0 < cs.length ∧ kk K (celAt cs 0) [] []
  | some (some m) => m ≤ cs.length ∧ kk K (.agg (cs.take m)) [] []
  | none => False := by
 simp only [evLoad, bv, kk, rowAt, celAt]
 rcases ldT P t with _ | _ | m <;> rfl
def vLdO (n k i off : Nat) (K : KT) : Option (Option Nat) → Option Box → Prop
 | some none, some (.arr _ _ _ xs) => (k = xs.length ∧ i < k ∧ off < (rowAt xs i).length) ∧ kk K (celAt (rowAt xs i) off) [] [n]
 | some (some m), some (.arr _ _ _ xs) => (k = xs.length ∧ i < k ∧ off + m ≤ (rowAt xs i).length) ∧ kk K (.agg (((rowAt xs i).drop off).take m)) [] [n]
 | some none, some (.arh _ _ xs) => (k = xs.length ∧ i < k ∧ off < (rowAt xs i).length) ∧ kk K (celAt (rowAt xs i) off) [] [n]
 | some (some m), some (.arh _ _ xs) => (k = xs.length ∧ i < k ∧ off + m ≤ (rowAt xs i).length) ∧ kk K (.agg (((rowAt xs i).drop off).take m)) [] [n]
 | _, _ => False
theorem evLoad_oel (t : TypeId) (n k i off : Nat) : evLoad P t σ (.oel n k i off) K = bv (ldT P t) fun l => bv (find σ n) fun B => vLdO n k i off K l B := by
 simp only [evLoad, bv, kk]
 rcases ldT P t with _ | _ | m <;> (try rfl) <;> rcases find σ n with _ | B <;> (try rfl) <;> cases B <;> first | rfl | simp only [vLdO, kk, bv, rowAt, celAt, and_assoc]
theorem vLdO_one (n k i off e sz : Nat) (sh : Bool) (xs : List (List PV)) : vLdO n k i off K (some none) (some (.arr e sz sh xs)) = ((k = xs.length ∧ i < k ∧ off < (rowAt xs i).length) ∧ kk K (celAt (rowAt xs i) off) [] [n]) := (rfl)
theorem vLdO_oneH (n k i off e sz : Nat) (xs : List (List PV)) : vLdO n k i off K (some none) (some (.arh e sz xs)) = ((k = xs.length ∧ i < k ∧ off < (rowAt xs i).length) ∧ kk K (celAt (rowAt xs i) off) [] [n]) := (rfl)
theorem evStore_ptr (t : TypeId) (n off : Nat) (v : PV) : evStore P t σ (.ptr n off) v K = bv (szOf P t) fun m => bv (cellsP v) fun us => bv (find σ n) fun B => match m, us, B with
  | some m, some us, some (.cells cs) => (us.length = m ∧ us.all oneP = true ∧ off + m ≤ cs.length) ∧ kk K .undef [(n, .cells (cs.take off ++ us ++ cs.drop (off + m)))] [n]
  | _, _, _ => False := by
 simp only [evStore, bv, kk, rowAt, celAt]
 rcases szOf P t with _ | m <;> (try rfl) <;> rcases cellsP v with _ | us <;> (try rfl) <;> rcases find σ n with _ | B <;> (try (simp only [and_false]; done)) <;> cases B <;> simp only [and_assoc, and_false]
def vStO (σ : ASt) (n k i off : Nat) (K : KT) : Option Nat → Option (List PV) → Option Box → Prop
 | some m, some us, some (.arr e sz false xs) => match purL σ us with
   | some (us', ns) => (us.length = m ∧ us.all oneP = true ∧ k = xs.length ∧ i < k ∧ off + m ≤ sz ∧ n ∉ ns) ∧ kk K .undef (shareD σ ns ++ [(n, .arr e sz false (xs.set i ((rowAt xs i).take off ++ us' ++ (rowAt xs i).drop (off + m))))]) (n :: ns)
   | none => False
 | some m, some us, some (.arh e sz xs) => (us.length = m ∧ us.all oneP = true ∧ k = xs.length ∧ i < k ∧ off + m ≤ sz) ∧ kk K .undef [(n, .arh e sz (xs.set i ((rowAt xs i).take off ++ us ++ (rowAt xs i).drop (off + m))))] [n]
 | _, _, _ => False
theorem evStore_oel (t : TypeId) (n k i off : Nat) (v : PV) : evStore P t σ (.oel n k i off) v K = bv (szOf P t) fun m => bv (cellsP v) fun us => bv (find σ n) fun B => vStO σ n k i off K m us B := by
 simp only [evStore, bv, kk]
 rcases szOf P t with _ | m <;> (try rfl) <;> rcases cellsP v with _ | us <;> (try rfl) <;> rcases find σ n with _ | B <;> (try (simp only [vStO, and_false]; done)) <;> cases B with
 | cells cs => simp only [vStO, and_false]
 | arr e sz sh xs => cases sh <;> simp only [vStO, and_false] <;> rcases purL σ us with _ | ⟨us', ns⟩ <;> simp only [kk, bv, rowAt, and_assoc, and_false]
 | arh e sz xs => simp only [vStO, kk, bv, rowAt, and_assoc]
 | mp es => simp only [vStO, and_false]
 | it m k d => simp only [vStO, and_false]
 | si l p => simp only [vStO, and_false]
 | dead sz l => simp only [vStO, and_false]
theorem vStO_H (n k i off m e sz : Nat) (us : List PV) (xs : List (List PV)) : vStO σ n k i off K (some m) (some us) (some (.arh e sz xs)) = ((us.length = m ∧ us.all oneP = true ∧ k = xs.length ∧ i < k ∧ off + m ≤ sz) ∧ bv (rowAt xs i) fun c => bv (xs.set i (c.take off ++ us ++ c.drop (off + m))) fun xs' => kk K .undef [(n, .arh e sz xs')] [n]) := (rfl)
theorem vStO_gen (n k i off m e sz : Nat) (us : List PV) (xs : List (List PV)) : vStO σ n k i off K (some m) (some us) (some (.arr e sz false xs)) = bv (purL σ us) fun p => match p with
   | some (us', ns) => (us.length = m ∧ us.all oneP = true ∧ k = xs.length ∧ i < k ∧ off + m ≤ sz ∧ n ∉ ns) ∧ kk K .undef (shareD σ ns ++ [(n, .arr e sz false (xs.set i ((rowAt xs i).take off ++ us' ++ (rowAt xs i).drop (off + m))))]) (n :: ns)
   | none => False := by
 simp only [vStO, bv]
theorem vStO_map {α : Type} [Inhabited α] (f : α → List PV) (l : List α) (n k i off m e sz : Nat) (us : List PV) : vStO σ n k i off K (some m) (some us) (some (.arr e sz false (l.map f))) = bv (purL σ us) fun p => match p with
   | some (us', ns) => (us.length = m ∧ us.all oneP = true ∧ k = l.length ∧ i < k ∧ off + m ≤ sz ∧ n ∉ ns) ∧ bv (f (el l i)) fun c => bv ((l.map f).set i (c.take off ++ us' ++ c.drop (off + m))) fun xs' => kk K .undef (shareD σ ns ++ [(n, .arr e sz false xs')]) (n :: ns)
   | none => False := by
 rw [vStO_gen]
 simp only [bv]
 rcases purL σ us with _ | ⟨us', ns⟩
 ·rfl
 ·simp only [List.length_map, and_assoc]
  refine propext (and_congr_right fun _ => and_congr_right fun _ => and_congr_right fun h1 => and_congr_right fun h2 => ?_)
  rw [rowAt_map f l i (by omega)]
theorem evField_ptr (t : TypeId) (f n k : Nat) : evFieldAddr P t f σ (.ptr n k) K = bv (fo P t f) fun o => match o with | some off => bv (k + off) fun k => K (.ptr n k) [] [] | none => False := (rfl)
theorem evField_el (t : TypeId) (f : Nat) (cs : List PV) : evFieldAddr P t f σ (.el cs) K = bv (fo P t f) fun o => match o with | some off => kk K (.el (cs.drop off)) [] [] | none => False := (rfl)
theorem evField_oel (t : TypeId) (f n k i o1 : Nat) : evFieldAddr P t f σ (.oel n k i o1) K = bv (fo P t f) fun o => bv (find σ n) fun B => match o, B with
  | some off, some (.arr _ _ _ xs) => (k = xs.length ∧ i < k) ∧ bv (o1 + off) fun o => K (.oel n k i o) [] [n]
  | some off, some (.arh _ _ xs) => (k = xs.length ∧ i < k) ∧ bv (o1 + off) fun o => K (.oel n k i o) [] [n]
  | _, _ => False := by
 simp only [evFieldAddr, bv]
 rcases fo P t f with _ | off <;> (try rfl) <;> rcases find σ n with _ | B <;> (try rfl) <;> cases B <;> first | rfl | simp only [and_assoc]
theorem evIdx_vs (t : TypeId) (xs : List (List PV)) (kd : IntKind) (i : Int) : evIndexAddr P t σ (.vs xs) (.int kd i) K = bv (slT P t) fun s => match s with
  | some (_, sz, _) => (0 ≤ i ∧ i < xs.length) ∧ (rowAt xs i.toNat).length = sz ∧ kk K (.el (rowAt xs i.toNat)) [] []
  | none => False := by
 simp only [evIndexAddr, bv, kk, rowAt, celAt]
 rcases slT P t with _ | ⟨e, sz, b⟩ <;> first | rfl | simp only [and_assoc]
theorem evIdx_os (t : TypeId) (n m : Nat) (kd : IntKind) (i : Int) : evIndexAddr P t σ (.os n m) (.int kd i) K = bv (slT P t) fun s => bv (find σ n) fun B => match s, B with
  | some (_, sz, _), some (.arr _ sz' _ xs) => (sz' = sz ∧ m = xs.length ∧ 0 ≤ i ∧ i < xs.length) ∧ kk K (.oel n m i.toNat 0) [] [n]
  | some (_, sz, _), some (.arh _ sz' xs) => (sz' = sz ∧ m = xs.length ∧ 0 ≤ i ∧ i < xs.length) ∧ kk K (.oel n m i.toNat 0) [] [n]
  | _, _ => False := by
 simp only [evIndexAddr, bv, kk, rowAt, celAt]
 rcases slT P t with _ | ⟨e, sz, b⟩ <;> (try rfl) <;> rcases find σ n with _ | B <;> (try rfl) <;> cases B <;> first | rfl | simp only [and_assoc]
theorem evIdx_osl (t : TypeId) (n m a : Nat) (kd : IntKind) (i : Int) : evIndexAddr P t σ (.osl n m a) (.int kd i) K = bv (slT P t) fun s => bv (find σ n) fun B => match s, B with
  | some (_, sz, _), some (.arh _ sz' xs) => (sz' = sz ∧ m = xs.length ∧ 0 ≤ i ∧ a + i < xs.length) ∧ kk K (.oel n m (a + i.toNat) 0) [] [n]
  | _, _ => False := by
 simp only [evIndexAddr, bv, kk, rowAt, celAt]
 rcases slT P t with _ | ⟨e, sz, b⟩ <;> (try rfl) <;> rcases find σ n with _ | B <;> (try rfl) <;> cases B <;> first | rfl | simp only [and_assoc]
theorem evIdx_ptr (t : TypeId) (n m : Nat) (kd : IntKind) (i : Int) : evIndexAddr P t σ (.ptr n m) (.int kd i) K = bv (arT P t) fun s => match s with
  | some (len, sz) => (0 ≤ i ∧ i < len) ∧ kk K (.ptr n (m + i.toNat * sz)) [] []
  | none => False := by
 simp only [evIndexAddr, bv, kk, rowAt, celAt]
 rcases arT P t with _ | ⟨len, sz⟩ <;> first | rfl | simp only [and_assoc]
theorem evIndex_agg (t : TypeId) (cs : List PV) (kd : IntKind) (n : Int) : evIndex P t (.agg cs) (.int kd n) K = bv (arrOf P t) fun s => match s with
  | some (len, e) => bv (rowOf P e) fun r => bv (szOf P e) fun z => (r = some false ∧ z = some 1) ∧ (0 ≤ n ∧ n < len ∧ n < cs.length) ∧ kk K (celAt cs n.toNat) [] []
  | none => False := by
 simp only [evIndex, bv, kk, rowAt, celAt]
 cases h : arrOf P t with
 | none => simp
 | some p =>
  obtain ⟨len, e⟩ := p
  apply propext
  constructor
  ·rintro ⟨l, e', h1, h2, h3, h4, h5, h6, h7⟩
   cases h1
   exact ⟨⟨h2, h3⟩, ⟨h4, h5, h6⟩, h7⟩
  ·rintro ⟨⟨h2, h3⟩, ⟨h4, h5, h6⟩, h7⟩
   exact ⟨len, e, rfl, h2, h3, h4, h5, h6, h7⟩
theorem evIndex_str (t : TypeId) (l : List UInt8) (kd : IntKind) (n : Int) : evIndex P t (.str l) (.int kd n) K = bv (isStr P t) fun s => s = true ∧ (0 ≤ n ∧ n < l.length) ∧ kk K (.int .u8 ((l.getD n.toNat 0).toNat : Int)) [] [] := by
 simp only [evIndex, bv, kk, and_assoc]
theorem evLen_str (t : TypeId) (l : List UInt8) : evLen P t σ (.str l) K = bv (isStr P t) fun s => s = true ∧ kk K (.int .i64 l.length) [] [] := (rfl)
theorem evLen_vs (t : TypeId) (xs : List (List PV)) : evLen P t σ (.vs xs) K = bv (isSlice P t) fun s => s = true ∧ kk K (.int .i64 xs.length) [] [] := (rfl)
theorem evLen_os (t : TypeId) (n k : Nat) : evLen P t σ (.os n k) K = bv (find σ n) fun B => bv (isSlice P t) fun s => match B with
  | some (.arr _ _ _ xs) => (k = xs.length ∧ s = true) ∧ kk K (.int .i64 k) [] [n]
  | some (.arh _ _ xs) => (k = xs.length ∧ s = true) ∧ kk K (.int .i64 k) [] [n]
  | _ => False := by
 simp only [evLen, bv, kk, rowAt, celAt]
 rcases find σ n with _ | B <;> (try rfl) <;> cases B <;> first | rfl | simp only [and_assoc]
theorem evLen_osl (t : TypeId) (n k i : Nat) : evLen P t σ (.osl n k i) K = bv (isSlice P t) fun s => s = true ∧ kk K (.int .i64 ((k - i : Nat) : Int)) [] [] := (rfl)
theorem evConvD_int (s e : TypeId) (k : IntKind) (n : Int) : evConvD P s e d σ (.int k n) K = evConv P s e σ (.int k n) K := (rfl)
theorem evConvD_os (s e : TypeId) (n k : Nat) : evConvD P s e d σ (.os n k) K = evConv P s e σ (.os n k) K := (rfl)
def vCvB (d e : Nat) (l : List UInt8) (K : KT) : Prop := kk K (.os d l.length) [(d, .arr e 1 false (bytesP l))] [d]
theorem evConvD_str (s e : TypeId) (l : List UInt8) (d : Nat) : evConvD P s e (some d) σ (.str l) K = bv (isStr P e) fun q => bv (isSomeT P s) fun z => bv (isStr P s) fun p => bv (isBytes P e) fun y => bv (elemOf P e) fun el => if q = true then z = true ∧ K (.str l) [] [] else match el with
  | some t => p = true ∧ y = true ∧ bv (find σ d) (fun B => B = none) ∧ l.length ≤ 140737488355328 ∧ vCvB d t l K
  | none => False := (rfl)
theorem evConv_int (s e : TypeId) (k : IntKind) (n : Int) : evConv P s e σ (.int k n) K = bv (kindOf P e) fun q => bv (isSomeT P s) fun z => match q with | some k' => z = true ∧ K (.int k' (k'.wrap n)) [] [] | none => False := (rfl)
theorem evConv_os (s e : TypeId) (n k : Nat) : evConv P s e σ (.os n k) K = bv (find σ n) fun B => bv (isBytes P s) fun q => bv (isStr P e) fun p => match B with
  | some (.arr _ _ _ xs) => (k = xs.length ∧ q = true ∧ p = true) ∧ ∃ l, xs = bytesP l ∧ K (.str l) [] [n]
  | _ => False := by
 simp only [evConv, bv]
 rcases find σ n with _ | B <;> (try rfl) <;> cases B <;> first | rfl | simp only [and_assoc]
theorem evLenA_mh (t : TypeId) (n : Nat) : evLenA P t σ (.mh n) K = bv (find σ n) fun B => bv (mapT P t) fun m => match B, m with
  | some (.mp es), some _ => kk K (.int .i64 es.length) [] [n]
  | _, _ => False := (rfl)
theorem evLenA_str (t : TypeId) (l : List UInt8) : evLenA P t σ (.str l) K = evLen P t σ (.str l) K := (rfl)
theorem evLenA_vs (t : TypeId) (xs : List (List PV)) : evLenA P t σ (.vs xs) K = evLen P t σ (.vs xs) K := (rfl)
theorem evLenA_os (t : TypeId) (n k : Nat) : evLenA P t σ (.os n k) K = evLen P t σ (.os n k) K := (rfl)
def vLook (ok : Bool) (n : Nat) (q : PV) (K : KT) : Option Box → Option (TypeId × TypeDesc × TypeId) → (TypeId → Option PV) → Prop
 | some (.mp es), some (_, dk, e), zv => bv (keyOK dk q) fun b => bv (mfind q es 0) fun r => bv (zv e) fun z => match r, z with
  | some r, some z => b = true ∧ kk K (mres es z ok r) [] [n]
  | _, _ => False
 | _, _, _ => False
theorem evO_lookup (t : TypeId) (x i : Operand) (ok : Bool) : evO P (.lookup t x i ok) d fr σ K = bv (ev fr x) fun u => bv (ev fr i) fun q => evLook P t ok σ u q K := (rfl)
theorem evLook_mh (t : TypeId) (ok : Bool) (n : Nat) (q : PV) : evLook P t ok σ (.mh n) q K = bv (find σ n) fun B => bv (mapT P t) fun m => vLook ok n q K B m (zeroV P) := by
 simp only [evLook, bv, kk]
 rcases find σ n with _ | B <;> (try rfl) <;> cases B <;> (try rfl) <;> rcases mapT P t with _ | ⟨k, dk, e⟩ <;> (try rfl)
theorem vLook_mp (ok : Bool) (n : Nat) (q : PV) (es : List (PV × PV)) (k e : TypeId) (dk : TypeDesc) (zv : TypeId → Option PV) : vLook ok n q K (some (.mp es)) (some (k, dk, e)) zv = bv (keyOK dk q) fun b => bv (mfind q es 0) fun r => bv (zv e) fun z => match r, z with
  | some r, some z => b = true ∧ kk K (mres es z ok r) [] [n]
  | _, _ => False := (rfl)
def vMup (n : Nat) (q v : PV) (K : KT) : Option Box → Option (TypeId × TypeDesc × TypeId) → Prop
 | some (.mp es), some (_, dk, _) => bv (keyOK dk q) fun b => bv (mfind q es 0) fun r => match r with
  | some r => b = true ∧ bv (mput es q v r) fun es' => kk K .undef [(n, .mp es')] [n]
  | _ => False
 | _, _ => False
theorem evO_mapUpdate (t : TypeId) (x i v : Operand) : evO P (.mapUpdate t x i v) d fr σ K = bv (ev fr x) fun u => bv (ev fr i) fun q => bv (ev fr v) fun v => evMup P t σ u q v K := (rfl)
theorem evMup_mh (t : TypeId) (n : Nat) (q v : PV) : evMup P t σ (.mh n) q v K = bv (find σ n) fun B => bv (mapT P t) fun m => vMup n q v K B m := by
 simp only [evMup, bv, kk]
 rcases find σ n with _ | B <;> (try rfl) <;> cases B <;> (try rfl) <;> rcases mapT P t with _ | ⟨k, dk, e⟩ <;> (try rfl)
theorem vMup_mp (n : Nat) (q v : PV) (es : List (PV × PV)) (k e : TypeId) (dk : TypeDesc) : vMup n q v K (some (.mp es)) (some (k, dk, e)) = bv (keyOK dk q) fun b => bv (mfind q es 0) fun r => match r with
  | some r => b = true ∧ bv (mput es q v r) fun es' => kk K .undef [(n, .mp es')] [n]
  | _ => False := (rfl)
theorem evO_makeMap (t : TypeId) (d : Nat) : evO P (.makeMap t none) (some d) fr σ K = (bv (find σ d) (fun B => B = none) ∧ K (.mh d) [(d, .mp [])] [d]) := (rfl)
end
end Go.Proofs.Am
