/- The walk over a function's code, on abstract values. -/
import Derived.Test.YthcphdogfdghkaaGreatAmQ
set_option linter.unusedSimpArgs false
set_option linter.unusedVariables false
namespace Go.Proofs.Am
open Go Go.RowKit

inductive EX where
  | normal
  | exit (id : Nat)
  | ret

abbrev Post := EX → AFr → ASt → Prop

def lift (x : Ctx) (N : Nat) (Q : Post) : Exit → Act → World → Prop
  | .normal, a, w => ∃ fr σ hv, Q .normal fr σ ∧ Good x N (look fr) (find σ) a hv w
  | .exit id, a, w => ∃ fr σ hv, Q (.exit id) fr σ ∧ Good x N (look fr) (find σ) a hv w
  | .ret, a, w => ∃ fr σ hv, Q .ret fr σ ∧ Good x N (look fr) (find σ) a hv w
  | _, _, _ => False

/-- From every state that reads so, the code comes to an end that reads so. -/
def W (P : Program) (N : Nat) (c : Code) (Q : Post) (fr : AFr) (σ : ASt) : Prop :=
  ∀ (x : Ctx) (a : Act) (hv : Nat → Value) (w : World), Good x N (look fr) (find σ) a hv w → c.wp P (lift x N Q) a w

def thenQ (K : AFr → ASt → Prop) (Q : Post) : Post
  | .normal, fr, σ => K fr σ
  | e, fr, σ => Q e fr σ

def blockQ (id : Nat) (Q : Post) : Post
  | .exit id', fr, σ => if id' = id then Q .normal fr σ else Q (.exit id') fr σ
  | e, fr, σ => Q e fr σ

def wv (P : Program) (N : Nat) : Code → Post → AFr → ASt → Prop
  | .skip, Q, fr, σ => Q .normal fr σ
  | .region _ ops d, Q, fr, σ =>
    match d with
    | true => evD P ops ops.toList fr σ [] fun fr' σ' g => okDraw ops g.reverse = true ∧ Q .normal fr' σ'
    | false => evOps P ops ops.toList fr σ (Q .normal)
  | .seq a b, Q, fr, σ => wv P N a (thenQ (wv P N b Q) Q) fr σ
  | .cond c a b, Q, fr, σ => match ev fr c with
    | .bool t => (t = true → wv P N a Q fr σ) ∧ (t = false → wv P N b Q fr σ)
    | _ => False
  | .block id c, Q, fr, σ => wv P N c (blockQ id Q) fr σ
  | .loop c, Q, fr, σ => W P N (.loop c) Q fr σ
  | .exit id, Q, fr, σ => Q (.exit id) fr σ
  | .ret, Q, fr, σ => Q .ret fr σ
  | .label _, Q, fr, σ => Q .normal fr σ
  | .scope c, Q, fr, σ => W P N (.scope c) Q fr σ
  | c, Q, fr, σ => W P N c Q fr σ

/-- All slots that the code writes are there. -/
def codeOK (N : Nat) : Code → Bool
  | .region _ ops _ => dstsOK N ops
  | .seq a b => codeOK N a && codeOK N b
  | .cond _ a b => codeOK N a && codeOK N b
  | .block _ c => codeOK N c
  | _ => true

theorem lift_then {x : Ctx} {N : Nat} {K : AFr → ASt → Prop} {Q : Post} {K' : Act → World → Prop} (hK : ∀ fr σ a hv w, K fr σ → Good x N (look fr) (find σ) a hv w → K' a w) {e : Exit} {a : Act} {w : World} (h : lift x N (thenQ K Q) e a w) :
    Exit.then K' (lift x N Q) e a w := by
  cases e with
  | normal => obtain ⟨fr, σ, hv, hq, hG⟩ := h; exact hK fr σ a hv w hq hG
  | exit id => exact h
  | ret => exact h
  | goto l => exact h.elim
  | panic c => exact h.elim
  | outgrown => exact h.elim

theorem wv_sound {P : Program} (hm : P.follows .mixedOrders = true) {N : Nat} : ∀ (c : Code), codeOK N c = true → ∀ (Q : Post) (fr : AFr) (σ : ASt), wv P N c Q fr σ → W P N c Q fr σ
  | .skip, hc, Q, fr, σ, h, x, a, hv, w, hG => wp_skip ⟨fr, σ, hv, h, hG⟩
  | .label _, hc, Q, fr, σ, h, x, a, hv, w, hG => wp_label ⟨fr, σ, hv, h, hG⟩
  | .exit id, hc, Q, fr, σ, h, x, a, hv, w, hG => wp_exit ⟨fr, σ, hv, h, hG⟩
  | .ret, hc, Q, fr, σ, h, x, a, hv, w, hG => wp_ret ⟨fr, σ, hv, h, hG⟩
  | .loop c, hc, Q, fr, σ, h, x, a, hv, w, hG => h x a hv w hG
  | .scope c, hc, Q, fr, σ, h, x, a, hv, w, hG => h x a hv w hG
  | .seq c d, hc, Q, fr, σ, h, x, a, hv, w, hG => by
    have h1 := wv_sound hm c (by simp only [codeOK, Bool.and_eq_true] at hc; exact hc.1) _ fr σ h x a hv w hG
    exact wp_seq (wp_mono h1 fun e a' w' hq => lift_then (fun fr' σ' a'' hv'' w'' hk hg => wv_sound hm d (by simp only [codeOK, Bool.and_eq_true] at hc; exact hc.2) Q fr' σ' hk x a'' hv'' w'' hg) hq)
  | .cond c d e, hc, Q, fr, σ, h, x, a, hv, w, hG => by
    simp only [wv] at h
    split at h
    · rename_i t ht
      have hr := hG.opnd c
      have ht' : evL (look fr) c = .bool t := ht
      rw [ht'] at hr
      exact wp_cond_split hr.bool_inv (fun h1 => wv_sound hm d (by simp only [codeOK, Bool.and_eq_true] at hc; exact hc.1) Q fr σ (h.1 h1) x a hv w hG) fun h1 => wv_sound hm e (by simp only [codeOK, Bool.and_eq_true] at hc; exact hc.2) Q fr σ (h.2 h1) x a hv w hG
    · exact h.elim
  | .block id c, hc, Q, fr, σ, h, x, a, hv, w, hG => by
    have h1 := wv_sound hm c hc _ fr σ h x a hv w hG
    refine wp_block (wp_mono h1 fun e a' w' hq => ?_)
    cases e with
    | normal => exact hq
    | exit id' =>
      obtain ⟨fr', σ', hv', hq, hg⟩ := hq
      simp only [blockQ] at hq
      simp only [Exit.inBlock]
      split
      · rename_i hid; rw [if_pos hid] at hq; exact ⟨fr', σ', hv', hq, hg⟩
      · rename_i hid; rw [if_neg hid] at hq; exact ⟨fr', σ', hv', hq, hg⟩
    | ret => exact hq
    | goto l => exact hq.elim
    | panic c => exact hq.elim
    | outgrown => exact hq.elim
  | .region id ops d, hc, Q, fr, σ, h, x, a, hv, w, hG => by
    simp only [wv] at h
    have hN : dstsOK N ops = true := hc
    cases d with
    | true =>
      exact evD_sound hm hN h hG fun fr' σ' a' hv' w' hk hg => ⟨fr', σ', hv', hk, hg⟩
    | false =>
      refine wp_region ?_
      have := evOps_sound (Q := lift x N Q) hN ops.toList 0 fr σ a hv w (by simp) h hG fun fr' σ' a' hv' w' hk hg => ⟨fr', σ', hv', hk, hg⟩
      rw [List.range_eq_range']
      simpa using this
  | .rangeFunc .., hc, Q, fr, σ, h, x, a, hv, w, hG => h x a hv w hG
  | .goto .., hc, Q, fr, σ, h, x, a, hv, w, hG => h x a hv w hG
  | .refuse .., hc, Q, fr, σ, h, x, a, hv, w, hG => h x a hv w hG

/-! ### Weakening -/
/-- All that the shorter frame says, the longer one says. -/
def wkU (σ : ASt) : PV → PV → Prop
  | .os n k, .vs xs => match find σ n with
    | some (.arr _ _ _ ys) => ys = xs ∧ k = ys.length
    | _ => False
  | .nils, .vs xs => xs = []
  | v, u => v = u

def wkF (σ : ASt) (fr : AFr) : AFr → Prop
  | [] => True
  | (s, u) :: r => wkU σ (look fr s) u ∧ wkF σ fr r

/-- The slices of the call's own that are read as lists from here on. -/
def wkN1 : PV → PV → List Nat
  | .os n _, .vs _ => [n]
  | _, _ => []
def wkN (fr : AFr) : AFr → List Nat
  | [] => []
  | (s, u) :: r => wkN1 (look fr s) u ++ wkN fr r

def wkS (σ : ASt) : ASt → Prop
  | [] => True
  | (n, B) :: r => find σ n = some B ∧ wkS σ r

mutual
def hinV (d : List Nat) : PV → Bool
  | .ptr n _ => d.contains n
  | .os n _ => d.contains n
  | .oel n _ _ _ => d.contains n
  | .agg cs => hinL d cs
  | .tup cs => hinL d cs
  | .fn _ cs => hinL d cs
  | _ => true
def hinL (d : List Nat) : List PV → Bool
  | [] => true
  | u :: r => hinV d u && hinL d r
end

def hinF (d : List Nat) : AFr → Bool
  | [] => true
  | (_, u) :: r => hinV d u && hinF d r

def hinS (d : List Nat) : ASt → Bool
  | [] => true
  | (_, .cells cs) :: r => hinL d cs && hinS d r
  | _ :: r => hinS d r

def extK (d : List Nat) : ASt → Bool
  | [] => true
  | (n, _) :: r => (decide (n < 1000000) || d.contains n) && extK d r

/-- The state is forgotten but for what the shorter one says. -/
def wk (fr : AFr) (σ : ASt) (fr' : AFr) (σ' : ASt) : Prop :=
  wkF σ fr fr' ∧ wkS σ σ' ∧ disj (σ'.map (·.1)) (wkN fr fr') = true ∧ hinF (σ'.map (·.1)) fr' = true ∧ hinS (σ'.map (·.1)) σ' = true ∧ extK (σ'.map (·.1)) σ = true

theorem hinV_iff (d : List Nat) (n : Nat) : d.contains n = true ↔ n ∈ d := by simp

mutual
theorem hinV_spec {d : List Nat} : ∀ (u : PV), hinV d u = true → Hin (· ∈ d) u
  | .ptr n o, h => .ptr n o ((hinV_iff d n).1 h)
  | .os n o, h => .os n o ((hinV_iff d n).1 h)
  | .oel n k i o, h => .oel n k i o ((hinV_iff d n).1 h)
  | .agg cs, h => .agg cs (hinL_spec cs h)
  | .tup cs, h => .tup cs (hinL_spec cs h)
  | .fn f cs, h => .fn f cs (hinL_spec cs h)
  | .undef, _ => .undef
  | .bool b, _ => .bool b
  | .int k n, _ => .int k n
  | .str l, _ => .str l
  | .nils, _ => .nils
  | .vs xs, _ => .vs xs
  | .sn b, _ => .sn b
  | .nilp, _ => .nilp
  | .el cs, _ => .el cs
  | .nilf, _ => .nilf
  | .ifc t u, _ => .ifc t u
  | .nili, _ => .nili
  | .nilm, _ => .nilm
theorem hinL_spec {d : List Nat} : ∀ (us : List PV), hinL d us = true → ∀ u ∈ us, Hin (· ∈ d) u
  | [], _ => fun _ hu => by simp at hu
  | v :: r, h => fun u hu => by
    have hv := hinV_spec v ((Bool.and_eq_true _ _ ▸ h : _ ∧ _).1)
    have hr := hinL_spec r ((Bool.and_eq_true _ _ ▸ h : _ ∧ _).2)
    rcases List.mem_cons.1 hu with rfl | hu
    · exact hv
    · exact hr u hu
end

theorem Hin.mono {d d' : Nat → Prop} (h : ∀ n, d n → d' n) {u : PV} (hu : Hin d u) : Hin d' u := by
  induction hu with
  | undef => exact .undef
  | bool b => exact .bool b
  | int k n => exact .int k n
  | str l => exact .str l
  | nils => exact .nils
  | vs xs => exact .vs xs
  | sn b => exact .sn b
  | nilp => exact .nilp
  | el cs => exact .el cs
  | nilf => exact .nilf
  | ifc t u => exact .ifc t u
  | nili => exact .nili
  | nilm => exact .nilm
  | ptr n o hn => exact .ptr n o (h n hn)
  | os n o hn => exact .os n o (h n hn)
  | oel n k i o hn => exact .oel n k i o (h n hn)
  | agg cs _ ih => exact .agg cs ih
  | tup cs _ ih => exact .tup cs ih
  | fn f cs _ ih => exact .fn f cs ih

theorem hinF_spec {d : List Nat} : ∀ {fr : AFr}, hinF d fr = true → ∀ t, Hin (· ∈ d) (look fr t)
  | [], _, t => .undef
  | (s, u) :: r, h, t => by
    simp only [hinF, Bool.and_eq_true] at h
    simp only [look]
    split
    · exact hinV_spec u h.1
    · exact hinF_spec h.2 t

theorem mem_of_find {σ : ASt} {n : Nat} {B : Box} (h : find σ n = some B) : (n, B) ∈ σ := by
  induction σ with
  | nil => cases h
  | cons p r ih =>
    obtain ⟨m, C⟩ := p
    simp only [find] at h
    split at h
    · rename_i hm; cases h; subst hm; simp
    · exact List.mem_cons_of_mem _ (ih h)

theorem find_of_mem {σ : ASt} {n : Nat} (h : n ∈ σ.map (·.1)) : find σ n ≠ none := by
  induction σ with
  | nil => cases h
  | cons p r ih =>
    obtain ⟨m, C⟩ := p
    simp only [find]
    split
    · simp
    · rename_i hm
      simp only [List.map_cons, List.mem_cons] at h
      rcases h with h | h
      · exact absurd h.symm hm
      · exact ih h

theorem hinS_spec {d : List Nat} : ∀ {σ : ASt}, hinS d σ = true → ∀ n B, find σ n = some B → B.hin (· ∈ d)
  | [], _, n, B, h => by cases h
  | (m, C) :: r, hs, n, B, h => by
    simp only [find] at h
    cases C with
    | cells cs =>
      simp only [hinS, Bool.and_eq_true] at hs
      split at h
      · cases h; exact hinL_spec cs hs.1
      · exact hinS_spec hs.2 n B h
    | arr e sz sh xs =>
      simp only [hinS] at hs
      split at h
      · cases h; trivial
      · exact hinS_spec hs n B h

theorem extK_spec {d : List Nat} : ∀ {σ : ASt}, extK d σ = true → ∀ n, 1000000 ≤ n → find σ n ≠ none → n ∈ d
  | [], _, n, _, h => absurd rfl h
  | (m, C) :: r, hs, n, hn, h => by
    simp only [extK, Bool.and_eq_true] at hs
    simp only [find] at h
    split at h
    · rename_i hm
      subst hm
      have h1 := hs.1
      simp only [Bool.or_eq_true, decide_eq_true_eq] at h1
      rcases h1 with h1 | h1
      · omega
      · simpa using h1
    · exact extK_spec hs.2 n hn h

theorem wkF_look {fr : AFr} {σ : ASt} : ∀ {fr' : AFr}, wkF σ fr fr' → ∀ t, look fr' t = .undef ∨ (wkU σ (look fr t) (look fr' t) ∧ ∀ n ∈ wkN1 (look fr t) (look fr' t), n ∈ wkN fr fr')
  | [], _, t => .inl rfl
  | (s, u) :: r, h, t => by
    simp only [look]
    split
    · rename_i hs; subst hs; exact .inr ⟨h.1, fun n hn => by simp only [wkN]; exact List.mem_append.2 (.inl hn)⟩
    · rcases wkF_look h.2 t with h1 | ⟨h1, h2⟩
      · exact .inl h1
      · exact .inr ⟨h1, fun n hn => by simp only [wkN]; exact List.mem_append.2 (.inr (h2 n hn))⟩

theorem wkS_find {σ : ASt} : ∀ {σ' : ASt}, wkS σ σ' → ∀ n B, find σ' n = some B → find σ n = some B
  | [], _, n, B, h => by cases h
  | (m, C) :: r, hs, n, B, h => by
    simp only [find] at h
    split at h
    · rename_i hm; subst hm; cases h; exact hs.1
    · exact wkS_find hs.2 n B h

theorem wkU_pur {σ : ASt} {v u : PV} (h : wkU σ v u) : v = u ∨ ∃ a, pur σ v = some (u, a) ∧ ∀ n ∈ a, n ∈ wkN1 v u := by
  unfold wkU at h
  split at h
  · rename_i n k xs
    split at h
    · rename_i e sz sh ys hf
      obtain ⟨rfl, hk⟩ := h
      exact .inr ⟨[n], by simp [pur, hf, hk], fun m hm => by simpa [wkN1] using hm⟩
    · exact h.elim
  · subst h; exact .inr ⟨[], rfl, by simp⟩
  · exact .inl h

theorem Good.wk {x : Ctx} {N : Nat} {fr fr' : AFr} {σ σ' : ASt} {a : Act} {hv : Nat → Value} {w : World} (h : Good x N (look fr) (find σ) a hv w) (hw : Am.wk fr σ fr' σ') : Good x N (look fr') (find σ') a hv w := by
  obtain ⟨h1, h2, h2', h3, h4, h5⟩ := hw
  have hdom : ∀ n, n ∈ σ'.map (·.1) → find σ' n ≠ none := fun n hn => find_of_mem hn
  have hsh := h.sim.shared (shareS_ok (find σ) (wkN fr fr'))
  have hnm : ∀ n B, find σ' n = some B → n ∉ wkN fr fr' := fun n B hB => disj_spec h2' (by
    have := mem_of_find hB
    exact List.mem_map.2 ⟨_, this, rfl⟩)
  obtain ⟨hS, hR⟩ := hsh.1.drop (s' := find σ') (fun n B hB => by
      simp only [shareS, if_neg (hnm n B hB)]
      exact wkS_find h2 n B hB)
    (fun n B hB => by
      have := hinS_spec h4 n B hB
      cases B with
      | cells cs => exact fun u hu => (this u hu).mono hdom
      | arr => trivial)
    (fun n hn => by
      have := h.sim.extin n hn
      exact hdom n (extK_spec h5 n this.2 this.1))
  refine ⟨hS, h.size, h.defers, fun t => ?_⟩
  rcases wkF_look h1 t with ht | ⟨ht, htn⟩
  · rw [ht]; exact .undef _
  · have hh := (hinF_spec h3 t).mono hdom
    refine hR _ _ ?_ hh
    rcases wkU_pur ht with he | ⟨a, hp, ha⟩
    · rw [← he]; exact (h.regs t).mono hsh.2
    · exact .pure (pur_sound (ns := wkN fr fr') h.sim (fun _ _ => rfl) hp (fun n hn => htn n (ha n hn)) (h.regs t))

/-- A loop, its rounds counted by a family of states. -/
theorem wp_loop_fam {P : Program} {Q : Exit → Act → World → Prop} {a : Act} {w : World} {c : Code} {ι : Type} (I : ι → Act → World → Prop) (μ : ι → Nat) (h₀ : ∃ i, I i a w)
    (round : ∀ i a w, I i a w → c.wp P (Exit.then (fun a' w' => ∃ j, I j a' w' ∧ μ j < μ i) Q) a w) : (Code.loop c).wp P Q a w := by
  intro b k cs
  have key : ∀ n i a w, μ i = n → I i a w →
      ∃ e a' w', Q e a' w' ∧ Arrives P (lone (b.at a (.code c :: .inLoop c :: k)) cs w) b k cs e a' w' := by
    intro n
    induction n using Nat.strongRecOn with
    | _ n ih =>
      intro i a w hn hI
      obtain ⟨e, a₁, w₁, hq, harr⟩ := round i a w hI b (.inLoop c :: k) cs
      cases e with
      | normal =>
        obtain ⟨j, hI₁, hlt⟩ := hq
        obtain ⟨e₂, a₂, w₂, hq₂, harr₂⟩ := ih (μ j) (hn ▸ hlt) j a₁ w₁ rfl hI₁
        exact ⟨e₂, a₂, w₂, hq₂, .of_steps (Steps.trans harr (.one step_inLoop)) harr₂⟩
      | exit id => exact ⟨_, a₁, w₁, hq, .pass (x := .inLoop c) rfl (fun _ _ => .inl (by simp)) harr⟩
      | goto l => exact ⟨_, a₁, w₁, hq, .pass (x := .inLoop c) rfl (fun _ _ => .inl (by simp)) harr⟩
      | ret => exact ⟨_, a₁, w₁, hq, .pass (x := .inLoop c) rfl (fun _ _ => .inl (by simp)) harr⟩
      | panic ch => exact ⟨_, a₁, w₁, hq, .pass (x := .inLoop c) rfl (fun _ _ => .inl (by simp)) harr⟩
      | outgrown => exact ⟨_, a₁, w₁, hq, .pass (x := .inLoop c) rfl (fun _ _ => .inl (by simp)) harr⟩
  obtain ⟨i, hi⟩ := h₀
  obtain ⟨e, a', w', hq, harr⟩ := key _ i a w rfl hi
  exact ⟨e, a', w', hq, .of_steps (.one step_loop) harr⟩

theorem W_loop {P : Program} (hm : P.follows .mixedOrders = true) {N : Nat} {c : Code} {Q : Post} {fr : AFr} {σ : ASt} (hc : codeOK N c = true) {ι : Type} (fs : ι → AFr) (ss : ι → ASt) (I : ι → Prop) (μ : ι → Nat) (i0 : ι) (hI : I i0) (hw : wk fr σ (fs i0) (ss i0))
    (round : ∀ i, I i → wv P N c (thenQ (fun fr' σ' => ∃ j, (I j ∧ μ j < μ i) ∧ wk fr' σ' (fs j) (ss j)) Q) (fs i) (ss i)) : W P N (.loop c) Q fr σ := by
  intro x a hv w hG
  refine wp_loop_fam (fun (i : ι) a' w' => ∃ hv', Good x N (look (fs i)) (find (ss i)) a' hv' w' ∧ I i) μ ⟨i0, hv, hG.wk hw, hI⟩ fun i a' w' hi => ?_
  obtain ⟨hv', hG', hI'⟩ := hi
  refine wp_mono (wv_sound hm c hc _ (fs i) (ss i) (round i hI') x a' hv' w' hG') fun e a'' w'' hq => lift_then (fun fr' σ' a3 hv3 w3 hk hg => ?_) hq
  obtain ⟨j, ⟨hj, hlt⟩, hwk⟩ := hk
  exact ⟨j, ⟨hv3, hg.wk hwk, hj⟩, hlt⟩

end Go.Proofs.Am
