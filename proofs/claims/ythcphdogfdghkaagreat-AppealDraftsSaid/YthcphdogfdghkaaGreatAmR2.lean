/- Boxes under other names. -/
import Derived.Test.YthcphdogfdghkaaGreatAmR
set_option linter.unusedSimpArgs false
set_option linter.unusedVariables false
namespace Go.Proofs.Am
open Go Go.RowKit

def rn (n m k : Nat) : Nat := if k = n then m else k

mutual
def renV (n m : Nat) : PV → PV
  | .ptr k o => .ptr (rn n m k) o
  | .os k l => .os (rn n m k) l
  | .oel k a i o => .oel (rn n m k) a i o
  | .agg cs => .agg (renVs n m cs)
  | .tup cs => .tup (renVs n m cs)
  | .fn f cs => .fn f (renVs n m cs)
  | u => u
def renVs (n m : Nat) : List PV → List PV
  | [] => []
  | u :: r => renV n m u :: renVs n m r
end

theorem renVs_get (n m : Nat) : ∀ (cs : List PV) (i : Nat), (renVs n m cs)[i]? = (cs[i]?).map (renV n m)
  | [], i => by simp [renVs]
  | u :: r, 0 => by simp [renVs]
  | u :: r, i + 1 => by simp [renVs, renVs_get n m r i]
theorem renVs_len (n m : Nat) : ∀ (cs : List PV), (renVs n m cs).length = cs.length
  | [] => rfl
  | u :: r => by simp [renVs, renVs_len n m r]

theorem renVs_id {n m : Nat} {cs : List PV} (h : ∀ (i : Nat) (u : PV), cs[i]? = some u → renV n m u = u) : renVs n m cs = cs := by
  apply List.ext_getElem?
  intro i
  rw [renVs_get]
  cases hc : cs[i]? with
  | none => rfl
  | some u => simp [h i u hc]

theorem RP.renV {pc : Addr → Value → Prop} {v : Value} {u : PV} (h : RP pc v u) (n m : Nat) : Am.renV n m u = u := by
  induction h with
  | bool b => rfl
  | int k i => rfl
  | str l => rfl
  | nils => rfl
  | nilp => rfl
  | nilf => rfl
  | nili => rfl
  | nilm => rfl
  | sn b c h => rfl
  | fn f => rfl
  | vs U hn hc hsz h1 ha hr ih => rfl
  | @agg vs cs hl h ih =>
    simp only [Am.renV]
    rw [renVs_id fun i u hu => ih i u hu]
  | @tup vs cs hl h ih =>
    simp only [Am.renV]
    rw [renVs_id fun i u hu => ih i u hu]
  | ifc t h ih => rfl

def renBx (n m : Nat) : Box → Box
  | .cells cs => .cells (renVs n m cs)
  | .arr e sz sh xs => .arr e sz sh xs

def renF (n m : Nat) : AFr → AFr
  | [] => []
  | (s, u) :: r => (s, renV n m u) :: renF n m r
def renS (n m : Nat) : ASt → ASt
  | [] => []
  | (k, B) :: r => (rn n m k, renBx n m B) :: renS n m r

theorem look_renF (n m : Nat) : ∀ (fr : AFr) (t : Nat), look (renF n m fr) t = renV n m (look fr t)
  | [], t => rfl
  | (s, u) :: r, t => by
    simp only [renF, look]
    split
    · rfl
    · exact look_renF n m r t

theorem find_renS {n m : Nat} : ∀ {σ : ASt}, find σ m = none → ∀ k, k ≠ n → find (renS n m σ) (rn n m n) = (find σ n).map (renBx n m) ∧ find (renS n m σ) k = if k = m then (find σ n).map (renBx n m) else (find σ k).map (renBx n m)
  | [], _, k, _ => by simp [renS, find]
  | (j, B) :: r, hm, k, hk => by
    simp only [find] at hm
    split at hm
    · cases hm
    · rename_i hjm
      obtain ⟨h1, h2⟩ := find_renS hm k hk
      simp only [renS, find]
      have hrn : rn n m n = m := by simp [rn]
      rw [hrn] at h1 ⊢
      by_cases hj : j = n
      · subst hj
        simp only [rn, if_true]
        refine ⟨rfl, ?_⟩
        by_cases hkm : m = k
        · subst hkm; simp
        · rw [if_neg hkm, h2, if_neg (Ne.symm hkm), if_neg (Ne.symm hkm), if_neg (Ne.symm hk)]
      · simp only [rn, if_neg hj]
        rw [if_neg hjm]
        refine ⟨h1, ?_⟩
        by_cases hjk : j = k
        · subst hjk
          rw [if_pos rfl, if_neg hjm, if_pos rfl]
          rfl
        · rw [if_neg hjk, h2]
          by_cases hkm : k = m
          · rw [if_pos hkm, if_pos hkm]
          · rw [if_neg hkm, if_neg hkm, if_neg hjk]

theorem find_renS_n {n m : Nat} (hnm : n ≠ m) : ∀ {σ : ASt}, find (renS n m σ) n = none
  | [] => rfl
  | (j, B) :: r => by
    simp only [renS, find]
    have : rn n m j ≠ n := by
      unfold rn
      split
      · exact Ne.symm hnm
      · assumption
    rw [if_neg this]
    exact find_renS_n hnm

theorem renBx_perm {n m : Nat} {B : Box} {off : Nat} : (renBx n m B).perm off ↔ B.perm off := by cases B <;> exact Iff.rfl
theorem renBx_keep {n m : Nat} {A B : Box} {h h' : Value} (k : Box.keep A h B h') : Box.keep A h (renBx n m B) h' := by
  cases A <;> cases B <;> exact k

theorem Good.ren {x : Ctx} {N : Nat} {fr : AFr} {σ : ASt} {a : Act} {hv : Nat → Value} {w : World} (hG : Good x N (look fr) (find σ) a hv w) {n m : Nat} (hm : find σ m = none) (hn1 : n < 1000000) (hm1 : m < 1000000) (hnm : n ≠ m) :
    ∃ hv', Good x N (look (renF n m fr)) (find (renS n m σ)) a hv' w := by
  let hv' : Nat → Value := fun k => if k = m then hv n else hv k
  have hrn : rn n m n = m := by simp [rn]
  have hfm : find (renS n m σ) m = (find σ n).map (renBx n m) := by
    have := (find_renS hm m (Ne.symm hnm)).1
    rwa [hrn] at this
  have hfk : ∀ k, k ≠ n → k ≠ m → find (renS n m σ) k = (find σ k).map (renBx n m) := fun k h1 h2 => by
    have := (find_renS hm k h1).2
    rwa [if_neg h2] at this
  -- where a box comes from
  have kinds : ∀ k B', find (renS n m σ) k = some B' → ∃ k0 B, rn n m k0 = k ∧ find σ k0 = some B ∧ B' = renBx n m B ∧ hv' k = hv k0 := fun k B' hB => by
    by_cases h1 : k = n
    · subst h1; rw [find_renS_n hnm] at hB; cases hB
    · by_cases h2 : k = m
      · subst h2
        rw [hfm] at hB
        cases hf : find σ n with
        | none => rw [hf] at hB; cases hB
        | some B => rw [hf] at hB; cases hB; exact ⟨n, B, hrn, hf, rfl, by simp [hv']⟩
      · rw [hfk k h1 h2] at hB
        cases hf : find σ k with
        | none => rw [hf] at hB; cases hB
        | some B => rw [hf] at hB; cases hB; exact ⟨k, B, by simp [rn, h1], hf, rfl, by simp [hv', h2]⟩
  have back : ∀ k B, find σ k = some B → find (renS n m σ) (rn n m k) = some (renBx n m B) ∧ hv' (rn n m k) = hv k := fun k B hB => by
    by_cases h1 : k = n
    · subst h1; rw [hrn, hfm, hB]; exact ⟨rfl, by simp [hv']⟩
    · have h2 : k ≠ m := fun e => by subst e; rw [hm] at hB; cases hB
      have : rn n m k = k := by simp [rn, h1]
      rw [this, hfk k h1 h2, hB]
      exact ⟨rfl, by simp [hv', h2]⟩
  have hpc : ∀ ad v, (env x (find σ) hv w).pc ad v → (env x (find (renS n m σ)) hv' w).pc ad v := fun ad v hp => by
    refine ⟨hp.1, hp.2.1, fun k B' hB hb => ?_⟩
    obtain ⟨k0, B, _, h2, rfl, h4⟩ := kinds k B' hB
    rw [h4] at hb
    exact renBx_perm.2 (hp.2.2 k0 B h2 hb)
  have hR : ∀ v u, RV (env x (find σ) hv w) v u → RV (env x (find (renS n m σ)) hv' w) v (renV n m u) := fun v u h => by
    induction h with
    | undef v => exact .undef v
    | pure h => rw [h.renV]; exact .pure (h.mono hpc)
    | @ptr k off v h =>
      obtain ⟨⟨cs, h1⟩, b, h2, h3⟩ := h
      obtain ⟨k1, k2⟩ := back k _ h1
      exact .ptr ⟨⟨_, k1⟩, b, by rw [k2]; exact h2, h3⟩
    | @os k l v h =>
      obtain ⟨hsh, e, sz, sh, xs, h1, h2, h3⟩ := h
      obtain ⟨k1, k2⟩ := back k _ h1
      exact .os ⟨hsh, e, sz, sh, xs, k1, h2, fun hl => by rw [k2]; exact h3 hl⟩
    | @oel k l i off v h =>
      obtain ⟨hsh, e, sz, sh, xs, h1, h2, h3⟩ := h
      obtain ⟨k1, k2⟩ := back k _ h1
      exact .oel ⟨hsh, e, sz, sh, xs, k1, h2, fun hl hi => by rw [k2]; exact h3 hl hi⟩
    | el U ha hr => exact .el U (fun j u hu => hpc _ _ (ha j u hu)) fun j u hu => (hr j u hu).mono hpc
    | @agg vs cs hl h ih =>
      refine .agg (by rw [renVs_len]; exact hl) fun i u hu => ?_
      rw [renVs_get] at hu
      cases hc : cs[i]? with
      | none => rw [hc] at hu; cases hu
      | some u0 => rw [hc] at hu; cases hu; exact ih i u0 hc
    | @tup vs cs hl h ih =>
      refine .tup (by rw [renVs_len]; exact hl) fun i u hu => ?_
      rw [renVs_get] at hu
      cases hc : cs[i]? with
      | none => rw [hc] at hu; cases hu
      | some u0 => rw [hc] at hu; cases hu; exact ih i u0 hc
    | @fn f vs cs hl h ih =>
      refine .fn f (by rw [renVs_len]; exact hl) fun i u hu => ?_
      rw [renVs_get] at hu
      cases hc : cs[i]? with
      | none => rw [hc] at hu; cases hu
      | some u0 => rw [hc] at hu; cases hu; exact ih i u0 hc
  refine ⟨hv', ⟨{
    os := hG.sim.os, tape := hG.sim.tape, output := hG.sim.output, size := hG.sim.size, old := hG.sim.old
    box := fun k B' hB => by
      obtain ⟨k0, B, _, h2, rfl, h4⟩ := kinds k B' hB
      rw [h4]
      have hb := hG.sim.box k0 B h2
      cases B with
      | cells cs =>
        obtain ⟨b, t, arr, e1, e2, e3, e4⟩ := hb
        refine ⟨b, t, arr, e1, e2, by rw [renVs_len]; exact e3, fun i u hu => ?_⟩
        rw [renVs_get] at hu
        cases hc : cs[i]? with
        | none => rw [hc] at hu; cases hu
        | some u0 => rw [hc] at hu; cases hu; exact hR _ _ (e4 i u0 hc)
      | arr e sz sh xs =>
        obtain ⟨h0, ys, e1, e2, e3, e4⟩ := hb
        exact ⟨h0, ys, e1, e2, e3, fun i x j u hx hu => (e4 i x j u hx hu).mono hpc⟩
    loc := fun k B' b hB hb => by
      obtain ⟨k0, B, _, h2, rfl, h4⟩ := kinds k B' hB
      rw [h4] at hb
      exact hG.sim.loc k0 B b h2 hb
    inj := fun k k' B' C' b hB hC hb hb' => by
      obtain ⟨k0, B, h1, h2, rfl, h4⟩ := kinds k B' hB
      obtain ⟨k0', C, h1', h2', rfl, h4'⟩ := kinds k' C' hC
      rw [h4] at hb
      rw [h4'] at hb'
      rw [← h1, ← h1', hG.sim.inj k0 k0' B C b h2 h2' hb hb']
    ext := fun k p B' hx hB => by
      have hk := (hG.sim.extin k (by rw [hx]; simp)).2
      obtain ⟨k0, B, h1, h2, rfl, h4⟩ := kinds k B' hB
      have h0 : k0 = k := by
        unfold rn at h1
        split at h1
        · omega
        · exact h1
      subst h0
      rw [h4]
      exact renBx_keep (hG.sim.ext k0 p B hx h2)
    vis := hG.sim.vis
    extin := fun k hk => by
      obtain ⟨h1, h2⟩ := hG.sim.extin k hk
      refine ⟨?_, h2⟩
      cases hf : find σ k with
      | none => exact absurd hf h1
      | some B =>
        have := (back k B hf).1
        have hr : rn n m k = k := by unfold rn; rw [if_neg (by omega)]
        rw [hr] at this
        rw [this]
        simp }, hG.size, hG.defers, fun t => by rw [look_renF]; exact hR _ _ (hG.regs t)⟩⟩

/-- Some boxes are given other names. -/
def rnOK : List (Nat × Nat) → AFr → ASt → Prop
  | [], _, _ => True
  | (n, m) :: r, fr, σ => (find σ m = none ∧ n < 1000000 ∧ m < 1000000 ∧ n ≠ m) ∧ rnOK r (renF n m fr) (renS n m σ)
def rnFS : List (Nat × Nat) → AFr → ASt → AFr × ASt
  | [], fr, σ => (fr, σ)
  | (n, m) :: r, fr, σ => rnFS r (renF n m fr) (renS n m σ)

theorem Good.rns {x : Ctx} {N : Nat} {a : Act} {w : World} : ∀ (l : List (Nat × Nat)) {fr : AFr} {σ : ASt} {hv : Nat → Value}, Good x N (look fr) (find σ) a hv w → rnOK l fr σ → ∃ hv', Good x N (look (rnFS l fr σ).1) (find (rnFS l fr σ).2) a hv' w
  | [], _, _, hv, hG, _ => ⟨hv, hG⟩
  | (n, m) :: r, fr, σ, hv, hG, h => by
    obtain ⟨⟨h1, h2, h3, h4⟩, h5⟩ := h
    obtain ⟨hv1, hG1⟩ := hG.ren h1 h2 h3 h4
    exact Good.rns r hG1 h5

/-- As wk, some boxes under other names. -/
def wkR (l : List (Nat × Nat)) (fr : AFr) (σ : ASt) (fr' : AFr) (σ' : ASt) : Prop := rnOK l fr σ ∧ wk (rnFS l fr σ).1 (rnFS l fr σ).2 fr' σ'

theorem W_loopR {P : Program} (hm : P.follows .mixedOrders = true) {N : Nat} {c : Code} {Q : Post} {fr : AFr} {σ : ASt} (hc : codeOK N c = true) {ι : Type} (fs : ι → AFr) (ss : ι → ASt) (I : ι → Prop) (μ : ι → Nat) (i0 : ι) (hI : I i0) (l0 : List (Nat × Nat)) (hw : wkR l0 fr σ (fs i0) (ss i0))
    (round : ∀ i, I i → wv P N c (thenQ (fun fr' σ' => ∃ j l, (I j ∧ μ j < μ i) ∧ wkR l fr' σ' (fs j) (ss j)) Q) (fs i) (ss i)) : W P N (.loop c) Q fr σ := by
  intro x a hv w hG
  obtain ⟨hv0, hG0⟩ := hG.rns l0 hw.1
  refine wp_loop_fam (fun (i : ι) a' w' => ∃ hv', Good x N (look (fs i)) (find (ss i)) a' hv' w' ∧ I i) μ ⟨i0, hv0, hG0.wk hw.2, hI⟩ fun i a' w' hi => ?_
  obtain ⟨hv', hG', hI'⟩ := hi
  refine wp_mono (wv_sound hm c hc _ (fs i) (ss i) (round i hI') x a' hv' w' hG') fun e a'' w'' hq => lift_then (fun fr' σ' a3 hv3 w3 hk hg => ?_) hq
  obtain ⟨j, l, ⟨hj, hlt⟩, hwk⟩ := hk
  obtain ⟨hv4, hG4⟩ := hg.rns l hwk.1
  exact ⟨j, ⟨hv4, hG4.wk hwk.2, hj⟩, hlt⟩

end Go.Proofs.Am
