/- What a function hands back. -/
import Derived.Test.YteheffakmcpdjaaGreatDoorAmP
set_option linter.unusedSimpArgs false
set_option linter.unusedVariables false
namespace Go.Proofs.Am
open Go Go.RowKit
variable {P : Program}

def purA (σ : ASt) : PV → Option (PV × List Nat)
  | .agg cs => (purL σ cs).map fun p => (.agg p.1, p.2)
  | u => pur σ u
/-- A map's values. -/
def purM (σ : ASt) : List (PV × PV) → Option (List (PV × PV) × List Nat)
  | [] => some ([], [])
  | (k, u) :: us => match purA σ u, purM σ us with
    | some (v, a), some (vs, b) => some ((k, v) :: vs, a ++ b)
    | _, _ => none

theorem purA_sound {x : Ctx P} {s : St} {hv : Nat → Value} {w : World} {σ : ASt} {u u' : PV} {a ns : List Nat} {v : Value} (h : SimW x s hv w) (hs : ∀ n ∈ a, s n = find σ n) (hu : purA σ u = some (u', a)) (ha : ∀ n ∈ a, n ∈ ns)
    (hv0 : RV (env x s hv w) v u) : RP (env x (shareS s ns) hv w).pc v u' := by
  unfold purA at hu
  split at hu
  · rename_i cs
    cases hp : purL σ cs with
    | none => rw [hp] at hu; cases hu
    | some p =>
      obtain ⟨p1, p2⟩ := p
      rw [hp] at hu
      simp only [Option.map_some, Option.some.injEq, Prod.mk.injEq] at hu
      obtain ⟨rfl, rfl⟩ := hu
      obtain ⟨vs, rfl, hl, hr⟩ := hv0.agg_inv
      obtain ⟨i1, i2⟩ := purL_sound (ns := ns) h hs hp ha
      refine .agg (by rw [hl, i1]) fun i u hu => ?_
      have hi := (List.getElem?_eq_some_iff.1 hu).1
      rw [i1] at hi
      exact i2 i _ u (List.getElem?_eq_getElem hi) hu _ (hr i _ (List.getElem?_eq_getElem hi))
  · exact pur_sound h hs hu ha hv0

theorem purA_names {σ : ASt} {u u' : PV} {a : List Nat} (h : purA σ u = some (u', a)) : ∀ n ∈ a, ∃ B, find σ n = some B := by
  unfold purA at h
  split at h
  · cases hp : purL σ _ with
    | none => rw [hp] at h; cases h
    | some p => rw [hp] at h; simp only [Option.map_some, Option.some.injEq, Prod.mk.injEq] at h; obtain ⟨_, rfl⟩ := h; exact purL_names hp
  · exact pur_names h

theorem purM_get {σ : ASt} : ∀ {xs xs' : List (PV × PV)} {a : List Nat}, purM σ xs = some (xs', a) → xs'.length = xs.length ∧ (∀ n ∈ a, ∃ B, find σ n = some B) ∧
    ∀ (i : Nat) (r r' : PV × PV), xs[i]? = some r → xs'[i]? = some r' → r'.1 = r.1 ∧ ∃ b, purA σ r.2 = some (r'.2, b) ∧ ∀ n ∈ b, n ∈ a
  | [], xs', a, h => by cases h; simp
  | (k, u) :: us, xs', a, h => by
    simp only [purM] at h
    cases h1 : purA σ u with
    | none => rw [h1] at h; cases h
    | some p =>
      cases h2 : purM σ us with
      | none => rw [h1, h2] at h; cases h
      | some q =>
        obtain ⟨p1, p2⟩ := p
        obtain ⟨q1, q2⟩ := q
        rw [h1, h2] at h
        simp only [Option.some.injEq, Prod.mk.injEq] at h
        obtain ⟨rfl, rfl⟩ := h
        obtain ⟨k1, k0, k2⟩ := purM_get h2
        refine ⟨by simp [k1], fun n hn => ?_, fun i r r' hr hr' => ?_⟩
        · rcases List.mem_append.1 hn with hn | hn
          · exact purA_names h1 n hn
          · exact k0 n hn
        · cases i with
          | zero => simp at hr hr'; subst hr hr'; exact ⟨rfl, p2, h1, fun n hn => by simp [hn]⟩
          | succ i =>
            obtain ⟨e0, b, e1, e2⟩ := k2 i r r' (by simpa using hr) (by simpa using hr')
            exact ⟨e0, b, e1, fun n hn => by simp [e2 n hn]⟩

/-- Boxes that are handed back: what they hold, its own slices read as lists. -/
def givB (σ : ASt) : Box → Option (Box × List Nat)
  | .cells cs => (purL σ cs).map fun p => (.cells p.1, p.2)
  | .arr e sz sh xs => some (.arr e sz sh xs, [])
  | .arh e sz xs => (purLL σ xs).map fun p => (.arr e sz false p.1, p.2)
  | .mp es => (purM σ es).map fun p => (.mp p.1, p.2)
  | .it _ _ _ => none
  | .dead sz l => some (.dead sz l, [])

/-- The box's kind stays. -/
theorem givB_keep {σ : ASt} {B B' : Box} {a : List Nat} (h : givB σ B = some (B', a)) (v : Value) : Box.keep B v B' v := by
  cases B with
  | cells cs =>
    simp only [givB] at h
    cases hq : purL σ cs with
    | none => rw [hq] at h; cases h
    | some p => rw [hq] at h; simp only [Option.map_some, Option.some.injEq, Prod.mk.injEq] at h; obtain ⟨rfl, rfl⟩ := h; exact ⟨⟨_, rfl⟩, rfl⟩
  | arr e sz sh xs => cases h; exact Box.keep_refl _ _
  | arh e sz xs =>
    simp only [givB] at h
    cases hq : purLL σ xs with
    | none => rw [hq] at h; cases h
    | some p =>
      obtain ⟨p1, p2⟩ := p
      rw [hq] at h; simp only [Option.map_some, Option.some.injEq, Prod.mk.injEq] at h; obtain ⟨rfl, rfl⟩ := h
      exact ⟨p1.length, rfl, by rw [(purLL_get hq).1]; exact Nat.le_refl _, fun _ => rfl⟩
  | mp es =>
    simp only [givB] at h
    cases hq : purM σ es with
    | none => rw [hq] at h; cases h
    | some p => rw [hq] at h; simp only [Option.map_some, Option.some.injEq, Prod.mk.injEq] at h; obtain ⟨rfl, rfl⟩ := h; exact ⟨rfl, rfl⟩
  | it m k d => cases h
  | dead sz l => cases h; exact Box.keep_refl _ _

def givL (σ : ASt) : List Nat → Option (List Box × List Nat)
  | [] => some ([], [])
  | n :: r => match find σ n with
    | some B => match givB σ B, givL σ r with
      | some (B', a), some (l, b) => some (B' :: l, a ++ b)
      | _, _ => none
    | none => none

/-- The values handed back. -/
def retU (σ : ASt) (ns exts : List Nat) : PV → Option (PV × List Nat)
  | .undef => some (.undef, [])
  | .ptr n off => if exts.contains n then some (.ptr n off, []) else (idxN ns n).map fun j => (.ptr j off, [])
  | .mh n => if exts.contains n then some (.mh n, []) else (idxN ns n).map fun j => (.mh j, [])
  | .os n k => if exts.contains n then some (.os n k, []) else match idxN ns n with
    | some j => some (.os j k, [])
    | none => pur σ (.os n k)
  | .agg cs => (purL σ cs).map fun p => (.agg p.1, p.2)
  | u => pur σ u

theorem givL_get {σ : ASt} : ∀ {ns : List Nat} {nb : List Box} {b : List Nat}, givL σ ns = some (nb, b) → nb.length = ns.length ∧
    ∀ (j n : Nat), ns[j]? = some n → ∃ B B' a, find σ n = some B ∧ nb[j]? = some B' ∧ givB σ B = some (B', a) ∧ ∀ m ∈ a, m ∈ b
  | [], nb, b, h => by cases h; simp
  | n :: r, nb, b, h => by
    simp only [givL] at h
    cases h1 : find σ n with
    | none => rw [h1] at h; cases h
    | some B =>
      rw [h1] at h
      simp only at h
      cases h2 : givB σ B with
      | none => rw [h2] at h; cases h
      | some p =>
        cases h3 : givL σ r with
        | none => rw [h2, h3] at h; cases h
        | some q =>
          obtain ⟨B', a⟩ := p
          obtain ⟨l, b'⟩ := q
          rw [h2, h3] at h
          simp only [Option.some.injEq, Prod.mk.injEq] at h
          obtain ⟨rfl, rfl⟩ := h
          obtain ⟨k1, k2⟩ := givL_get h3
          refine ⟨by simp [k1], fun j m hj => ?_⟩
          cases j with
          | zero =>
            simp at hj
            subst hj
            exact ⟨B, B', a, h1, rfl, h2, fun m hm => by simp [hm]⟩
          | succ j =>
            obtain ⟨C, C', c, e1, e2, e3, e4⟩ := k2 j m (by simpa using hj)
            exact ⟨C, C', c, e1, by simpa using e2, e3, fun m hm => by simp [e4 m hm]⟩

theorem givB_perm {σ : ASt} {B B' : Box} {a : List Nat} (h : givB σ B = some (B', a)) (off : Nat) : B.perm off → B'.perm off := by
  cases B with
  | cells cs => intro h; exact h.elim
  | arr e sz sh xs => cases h; exact id
  | _ => intro h; exact h.elim

theorem ret_core {x : Ctx P} {σ : ASt} {hv : Nat → Value} {w : World} (hW : SimW x (find σ) hv w) {ns exts shl b1 b2 : List Nat} {nb ext' : List Box} (h1 : givL σ ns = some (nb, b1)) (h2 : givL σ exts = some (ext', b2))
    (hexts : exts = List.range' 1000000 ext'.length) (hx : ∀ n, x.hx n ≠ none → n ∈ exts) (hlt : ∀ n ∈ ns, n < 1000000) (hnd : ns.Nodup) (hl : ns.length < 1000000)
    (hb1 : ∀ n ∈ b1, n ∈ shl) (hb2 : ∀ n ∈ b2, n ∈ shl) (hd1 : ∀ n ∈ ns, n ∉ shl) (hd2 : ∀ n ∈ exts, n ∉ shl) :
    ∃ hv', SimW x (stOf nb ext') hv' w ∧ ∀ v u u' a, RV (env x (find σ) hv w) v u → retU σ ns exts u = some (u', a) → (∀ n ∈ a, n ∈ shl) → RV (env x (stOf nb ext') hv' w) v u' := by
  obtain ⟨l1, g1⟩ := givL_get h1
  obtain ⟨l2, g2⟩ := givL_get h2
  have hsh := hW.shared (shareS_ok (find σ) shl)
  let hv' : Nat → Value := fun j => if j < 1000000 then hv (ns.getD j 0) else hv j
  have hv1 : ∀ (j n : Nat), ns[j]? = some n → hv' j = hv n := fun j n hj => by
    have : j < 1000000 := Nat.lt_trans (List.getElem?_eq_some_iff.1 hj).1 hl
    simp [hv', this, hj]
  have hv2 : ∀ j, 1000000 ≤ j → hv' j = hv j := fun j hj => by
    have : ¬ j < 1000000 := by omega
    simp [hv', this]
  have hext : ∀ n, n ∈ exts ↔ 1000000 ≤ n ∧ n < 1000000 + ext'.length := fun n => by rw [hexts]; simp [List.mem_range'_1]
  -- the two kinds of names
  have kinds : ∀ (j : Nat) (B' : Box), stOf nb ext' j = some B' → ∃ n B a, hv' j = hv n ∧ find σ n = some B ∧ shareS (find σ) shl n = some B ∧ givB σ B = some (B', a) ∧ (∀ m ∈ a, m ∈ shl) ∧ ((j < 1000000 ∧ ns[j]? = some n) ∨ (1000000 ≤ j ∧ n = j ∧ n ∈ exts)) := by
    intro j B' hB
    rcases stOf_cases hB with ⟨hj, hB⟩ | ⟨i, rfl, hB'⟩
    · have hjl : j < ns.length := by rw [← l1]; exact (List.getElem?_eq_some_iff.1 hB).1
      have hg : ns[j]? = some ns[j] := List.getElem?_eq_getElem hjl
      obtain ⟨B, C, a, e1, e2, e3, e4⟩ := g1 j _ hg
      rw [hB] at e2
      cases e2
      refine ⟨_, B, a, hv1 j _ hg, e1, ?_, e3, fun m hm => hb1 m (e4 m hm), .inl ⟨hj, hg⟩⟩
      simp [shareS, hd1 _ (List.mem_of_getElem? hg), e1]
    · clear hB
      rename ext'[i]? = some B' => hB
      have hil : i < ext'.length := (List.getElem?_eq_some_iff.1 hB).1
      have hmem : 1000000 + i ∈ exts := (hext _).2 ⟨by omega, by omega⟩
      have hg : exts[i]? = some (1000000 + i) := by rw [hexts]; simp [List.getElem?_range', hil]
      obtain ⟨B, C, a, e1, e2, e3, e4⟩ := g2 i _ hg
      rw [hB] at e2
      cases e2
      refine ⟨_, B, a, hv2 _ (by omega), e1, ?_, e3, fun m hm => hb2 m (e4 m hm), .inr ⟨by omega, rfl, hmem⟩⟩
      simp [shareS, hd2 _ hmem, e1]
  have hinjn : ∀ (j j' : Nat) (B B' C C' : Box) (n n' b : Nat), find σ n = some B → find σ n' = some B' → blk (hv n) = some b → blk (hv n') = some b →
      ((j < 1000000 ∧ ns[j]? = some n) ∨ (1000000 ≤ j ∧ n = j ∧ n ∈ exts)) → ((j' < 1000000 ∧ ns[j']? = some n') ∨ (1000000 ≤ j' ∧ n' = j' ∧ n' ∈ exts)) → j = j' := by
    intro j j' B B' C C' n n' b k1 k2 k3 k4 k5 k6
    have := hW.inj n n' B B' b k1 k2 k3 k4
    subst this
    rcases k5 with ⟨a1, a2⟩ | ⟨a1, rfl, a3⟩ <;> rcases k6 with ⟨c1, c2⟩ | ⟨c1, c2, c3⟩
    · have e1 := idxN_of hnd a2
      have e2 := idxN_of hnd c2
      rw [e1] at e2
      exact Option.some.inj e2
    · have := hlt _ (List.mem_of_getElem? a2); omega
    · have := hlt _ (List.mem_of_getElem? c2); omega
    · exact c2
  have hpc : ∀ a v, pcOf x (shareS (find σ) shl) hv w a v → pcOf x (stOf nb ext') hv' w a v := by
    intro a v hp
    refine ⟨hp.1, hp.2.1, fun j B' hB hb => ?_⟩
    obtain ⟨n, B, c, e1, _, e2, e3, _⟩ := kinds j B' hB
    rw [e1] at hb
    exact givB_perm e3 _ (hp.2.2 n B e2 hb)
  have hS : SimW x (stOf nb ext') hv' w := {
    os := hW.os, tape := hW.tape, output := hW.output, size := hW.size, old := hW.old, glb := hW.glb, tabs := hW.tabs
    box := fun j B' hB => by
      obtain ⟨n, B, c, e1, e0, e2, e3, e4, _⟩ := kinds j B' hB
      rw [e1]
      have hb0 := hW.box n B e0
      cases B with
      | cells cs =>
        simp only [givB] at e3
        cases hq : purL σ cs with
        | none => rw [hq] at e3; cases e3
        | some p =>
          obtain ⟨cs', a⟩ := p
          rw [hq] at e3
          simp only [Option.map_some, Option.some.injEq, Prod.mk.injEq] at e3
          obtain ⟨rfl, rfl⟩ := e3
          obtain ⟨b, t, arr, k1, k2, k3, k4⟩ := hb0
          obtain ⟨i1, i2⟩ := purL_sound (ns := shl) hW (fun n _ => rfl) hq e4
          refine ⟨b, t, arr, k1, k2, by rw [k3, i1], fun i u hu => ?_⟩
          have hi := (List.getElem?_eq_some_iff.1 hu).1
          rw [i1] at hi
          exact .pure ((i2 i _ u (List.getElem?_eq_getElem hi) hu _ (k4 i _ (List.getElem?_eq_getElem hi))).mono hpc)
      | arr e sz sh xs =>
        cases e3
        have := (hsh.1.box n _ e2)
        obtain ⟨h0, ys, k1, k2, k3, k4⟩ := this
        exact ⟨h0, ys, k1, k2, k3, fun i x j u hx hu => (k4 i x j u hx hu).mono hpc⟩
      | arh e sz xs =>
        simp only [givB] at e3
        cases hq : purLL σ xs with
        | none => rw [hq] at e3; cases e3
        | some p =>
          obtain ⟨xs', a⟩ := p
          rw [hq] at e3
          simp only [Option.map_some, Option.some.injEq, Prod.mk.injEq] at e3
          obtain ⟨rfl, rfl⟩ := e3
          obtain ⟨h0, ys, k1, k2, k3, k4⟩ := hb0
          obtain ⟨i1, i0, i2⟩ := purLL_get hq
          have hrow : ∀ (i : Nat) (r' : List PV), xs'[i]? = some r' → ∃ r b, xs[i]? = some r ∧ purL σ r = some (r', b) ∧ ∀ n ∈ b, n ∈ a := fun i r' hr' => by
            have hi := (List.getElem?_eq_some_iff.1 hr').1
            rw [i1] at hi
            obtain ⟨b, q1, q2⟩ := i2 i _ r' (List.getElem?_eq_getElem hi) hr'
            exact ⟨_, b, List.getElem?_eq_getElem hi, q1, q2⟩
          refine ⟨h0, ys, by rw [i1]; exact k1, fun r' hr' => ?_, fun r' hr' => ?_, fun i r' j u hr' hu => ?_⟩
          · obtain ⟨i, hi⟩ := List.mem_iff_getElem?.1 hr'
            obtain ⟨r, b, q1, q2, q3⟩ := hrow i r' hi
            rw [(purL_sound (ns := shl) hW (fun n _ => rfl) q2 (fun n hn => e4 n (q3 n hn))).1]
            exact k2 r (List.mem_of_getElem? q1)
          · obtain ⟨i, hi⟩ := List.mem_iff_getElem?.1 hr'
            obtain ⟨r, b, q1, q2, q3⟩ := hrow i r' hi
            exact purL_one q2
          · obtain ⟨r, b, q1, q2, q3⟩ := hrow i r' hr'
            obtain ⟨l1, l2⟩ := purL_sound (ns := shl) hW (fun n _ => rfl) q2 (fun n hn => e4 n (q3 n hn))
            have hj := (List.getElem?_eq_some_iff.1 hu).1
            rw [l1] at hj
            exact (l2 j _ u (List.getElem?_eq_getElem hj) hu _ (k4 i r j _ q1 (List.getElem?_eq_getElem hj))).mono hpc
      | mp es =>
        simp only [givB] at e3
        cases hq : purM σ es with
        | none => rw [hq] at e3; cases e3
        | some p =>
          obtain ⟨es', a⟩ := p
          rw [hq] at e3
          simp only [Option.map_some, Option.some.injEq, Prod.mk.injEq] at e3
          obtain ⟨rfl, rfl⟩ := e3
          obtain ⟨b, arr, k1, k2, k3, k4⟩ := hb0
          obtain ⟨i1, i0, i2⟩ := purM_get hq
          refine ⟨b, arr, k1, by rw [i1]; exact k2, by rw [i1]; exact k3, fun i p' hp' => ?_⟩
          have hi := (List.getElem?_eq_some_iff.1 hp').1
          rw [i1] at hi
          obtain ⟨q0, c, q1, q2⟩ := i2 i _ p' (List.getElem?_eq_getElem hi) hp'
          obtain ⟨en, m1, m2, m3, m4⟩ := k4 i _ (List.getElem?_eq_getElem hi)
          refine ⟨en, m1, m2, ?_, .pure ((purA_sound (ns := shl) hW (fun n _ => rfl) q1 (fun n hn => e4 n (q2 n hn)) m4).mono hpc)⟩
          rw [q0]
          exact (m3.mono hsh.2.pc).mono hpc
      | it m k d => cases e3
      | dead sz l => cases e3; exact hb0
    loc := fun j B' b hB hb => by
      obtain ⟨n, B, c, e1, e0, _⟩ := kinds j B' hB
      rw [e1] at hb
      exact hW.loc n B b e0 hb
    inj := fun j j' B' C' b hB hC hb hb' => by
      obtain ⟨n, B, c, e1, e0, _, _, _, e5⟩ := kinds j B' hB
      obtain ⟨n', C, c', f1, f0, _, _, _, f5⟩ := kinds j' C' hC
      rw [e1] at hb
      rw [f1] at hb'
      exact hinjn j j' B C B' C' n n' b e0 f0 hb hb' e5 f5
    ext := fun j h B' hh hB => by
      obtain ⟨n, B, c, e1, e0, _, e3, _, e5⟩ := kinds j B' hB
      have hj := (hext j).1 (hx j (by rw [hh]; simp))
      rcases e5 with ⟨a1, _⟩ | ⟨_, rfl, _⟩
      · omega
      · rw [e1]
        exact Box.keep_trans (hW.ext n h B hh e0) (givB_keep e3 _)
    vis := hW.vis
    extin := fun j hj => by
      have hm := (hext j).1 (hx j hj)
      refine ⟨?_, hm.1⟩
      obtain ⟨i, rfl⟩ := Nat.exists_eq_add_of_le hm.1
      rw [stOf_ext]
      have : i < ext'.length := by omega
      simp [this] }
  refine ⟨hv', hS, fun v u u' a hv0 hu ha => ?_⟩
  have hpur : pur σ u = some (u', a) → RV (env x (stOf nb ext') hv' w) v u' := fun hp =>
    .pure ((pur_sound (ns := shl) hW (fun n _ => rfl) hp ha hv0).mono hpc)
  have hstn : ∀ n j, idxN ns n = some j → hv' j = hv n ∧ ∃ B B' a, find σ n = some B ∧ stOf nb ext' j = some B' ∧ givB σ B = some (B', a) := fun n j hj => by
    have hg := idxN_some hj
    obtain ⟨B, B', a, e1, e2, e3, _⟩ := g1 j n hg
    have : j < 1000000 := Nat.lt_trans (List.getElem?_eq_some_iff.1 hg).1 hl
    exact ⟨hv1 j n hg, B, B', a, e1, by rw [stOf_nb this]; exact e2, e3⟩
  have hste : ∀ n, n ∈ exts → hv' n = hv n ∧ ∃ B B' a, find σ n = some B ∧ stOf nb ext' n = some B' ∧ givB σ B = some (B', a) := fun n hn => by
    have hm := (hext n).1 hn
    obtain ⟨i, rfl⟩ := Nat.exists_eq_add_of_le hm.1
    have hil : i < ext'.length := by omega
    have hg : exts[i]? = some (1000000 + i) := by rw [hexts]; simp [List.getElem?_range', hil]
    obtain ⟨B, B', a, e1, e2, e3, _⟩ := g2 i _ hg
    exact ⟨hv2 _ (by omega), B, B', a, e1, by rw [stOf_ext]; exact e2, e3⟩
  have hos : ∀ n k j, RV (env x (find σ) hv w) v (.os n k) → (hv' j = hv n ∧ ∃ B B' a, find σ n = some B ∧ stOf nb ext' j = some B' ∧ givB σ B = some (B', a)) → RV (env x (stOf nb ext') hv' w) v (.os j k) := by
    intro n k j h ⟨e1, B, B', a, e2, e3, e4⟩
    obtain ⟨hsh, B1, sz, l, k1, kd, k2, k3⟩ := h.os_inv
    rw [e2] at k1
    cases k1
    obtain ⟨l', d1, d2, d3⟩ := (Box.keep_dim kd).1 (givB_keep e4 (hv n))
    have hl' : l = l' := by
      cases B <;> simp only [Box.dim, Option.some.injEq, Prod.mk.injEq] at kd <;> (try (cases kd; done)) <;> obtain ⟨rfl, rfl⟩ := kd
      · cases e4; simp only [Box.dim, Option.some.injEq, Prod.mk.injEq] at d1; exact d1.2
      · rename_i e sz xs
        simp only [givB] at e4
        cases hq : purLL σ xs with
        | none => rw [hq] at e4; cases e4
        | some p =>
          obtain ⟨p1, p2⟩ := p
          rw [hq] at e4; simp only [Option.map_some, Option.some.injEq, Prod.mk.injEq] at e4; obtain ⟨rfl, rfl⟩ := e4
          simp only [Box.dim, Option.some.injEq, Prod.mk.injEq] at d1
          rw [← d1.2, (purLL_get hq).1]
      · cases e4; simp only [Box.dim, Option.some.injEq, Prod.mk.injEq] at d1; exact d1.2
    subst hl'
    exact .os ⟨hsh, B', sz, l, e3, d1, k2, fun hk => by rw [e1]; exact k3 hk⟩
  have hptr : ∀ n o j, RV (env x (find σ) hv w) v (.ptr n o) → (hv' j = hv n ∧ ∃ B B' a, find σ n = some B ∧ stOf nb ext' j = some B' ∧ givB σ B = some (B', a)) → RV (env x (stOf nb ext') hv' w) v (.ptr j o) := by
    intro n o j h ⟨e1, B, B', a, e2, e3, e4⟩
    obtain ⟨⟨cs, k1⟩, b, k2, k3⟩ := h.ptr_inv
    rw [e2] at k1
    cases k1
    simp only [givB] at e4
    cases hq : purL σ cs with
    | none => rw [hq] at e4; cases e4
    | some p =>
      rw [hq] at e4
      simp only [Option.map_some, Option.some.injEq, Prod.mk.injEq] at e4
      obtain ⟨rfl, rfl⟩ := e4
      exact .ptr ⟨⟨_, e3⟩, b, by rw [e1]; exact k2, k3⟩
  have hmh : ∀ n j, RV (env x (find σ) hv w) v (.mh n) → (hv' j = hv n ∧ ∃ B B' a, find σ n = some B ∧ stOf nb ext' j = some B' ∧ givB σ B = some (B', a)) → RV (env x (stOf nb ext') hv' w) v (.mh j) := by
    intro n j h ⟨e1, B, B', a, e2, e3, e4⟩
    obtain ⟨⟨hb, B1, k1, kM⟩, k2⟩ := h.mh_inv
    rw [e2] at k1
    cases k1
    exact .mh ⟨⟨hb, B', e3, ((Box.keep_M kM).1 (givB_keep e4 (hv n))).1⟩, by rw [e1]; exact k2⟩
  cases u <;> (try (exact hpur hu))
  case mh n =>
    simp only [retU] at hu
    split at hu
    · rename_i hc
      cases hu
      exact hmh n n hv0 (hste n (by simpa using hc))
    · cases hj : idxN ns n with
      | none => rw [hj] at hu; cases hu
      | some j =>
        rw [hj] at hu
        simp only [Option.map_some, Option.some.injEq, Prod.mk.injEq] at hu
        obtain ⟨rfl, rfl⟩ := hu
        exact hmh n j hv0 (hstn n j hj)
  case undef => cases hu; exact .undef v
  case os n k =>
    simp only [retU] at hu
    split at hu
    · rename_i hc
      cases hu
      exact hos n k n hv0 (hste n (by simpa using hc))
    · split at hu
      · rename_i j hj
        cases hu
        exact hos n k j hv0 (hstn n j hj)
      · exact hpur hu
  case ptr n o =>
    simp only [retU] at hu
    split at hu
    · rename_i hc
      cases hu
      exact hptr n o n hv0 (hste n (by simpa using hc))
    · cases hj : idxN ns n with
      | none => rw [hj] at hu; cases hu
      | some j =>
        rw [hj] at hu
        cases hu
        exact hptr n o j hv0 (hstn n j hj)
  case agg cs =>
    simp only [retU] at hu
    cases hq : purL σ cs with
    | none => rw [hq] at hu; cases hu
    | some p =>
      obtain ⟨cs', c⟩ := p
      rw [hq] at hu
      simp only [Option.map_some, Option.some.injEq, Prod.mk.injEq] at hu
      obtain ⟨rfl, rfl⟩ := hu
      obtain ⟨vs, rfl, k1, k2⟩ := hv0.agg_inv
      obtain ⟨i1, i2⟩ := purL_sound (ns := shl) hW (fun n _ => rfl) hq ha
      refine .pure (.agg (by rw [k1, i1]) fun i u hu => ?_)
      have hi := (List.getElem?_eq_some_iff.1 hu).1
      rw [i1] at hi
      exact (i2 i _ u (List.getElem?_eq_getElem hi) hu _ (k2 i _ (List.getElem?_eq_getElem hi))).mono hpc

/-! ### The results of a function -/
def resU (P : Program) (fr : AFr) (σ : ASt) : ResultVar → Option PV
  | .tmp t => some (look fr t)
  | .cell a ty => match look fr a with
    | .ptr n off => match find σ n, ldT P ty with
      | some (.cells cs), some none => cs[off]?
      | some (.cells cs), some (some m) => if off + m ≤ cs.length then some (.agg ((cs.drop off).take m)) else none
      | _, _ => none
    | _ => none

def one1 (tmps : Array Value) : ResultVar → Sem Value
  | .tmp t => pure (tmps.getD t undef)
  | .cell a t => do loadVar t (← asAddr (tmps.getD a undef))

theorem resU_sound {P : Program} {x : Ctx P} {N : Nat} {fr : AFr} {σ : ASt} {a : Act} {hv : Nat → Value} {w : World} (h : Good x N (look fr) (find σ) a hv w) {r : ResultVar} {u : PV} (hu : resU P fr σ r = some u) :
    ∃ v, (one1 a.tmps r).run P w = .ok v w ∧ RV (env x (find σ) hv w) v u := by
  cases r with
  | tmp t =>
    cases hu
    exact ⟨_, rfl, h.regs t⟩
  | cell y ty =>
    simp only [resU] at hu
    split at hu
    · rename_i n off hy
      have hr := h.regs y
      rw [hy] at hr
      obtain ⟨⟨cs0, k1⟩, b, k2, k3⟩ := hr.ptr_inv
      have hb := h.sim.box n _ k1
      obtain ⟨b', e1, e2⟩ := box_cell hb
      rw [k2] at e1
      cases e1
      split at hu
      · rename_i cs hf hl
        rw [k1] at hf
        cases hf
        obtain ⟨v, hc, hrv⟩ := e2 off u hu
        refine ⟨v, ?_, hrv⟩
        simp [one1, k3, asAddr, run_loadVar_one (ldT_one hl) hc]
      · rename_i cs m hf hl
        rw [k1] at hf
        cases hf
        split at hu
        · rename_i hle
          cases hu
          obtain ⟨l1, l2⟩ := ldT_row hl
          have hall : ∀ j, j < m → ∃ v, w.cell? ⟨b, off + j, none⟩ = some v ∧ RV (env x (find σ) hv w) v (cs0.getD (off + j) .undef) := fun j hj => e2 (off + j) _ (getElem?_getD (by omega))
          let f : Nat → Value := fun j => (w.cell? ⟨b, off + j, none⟩).getD undef
          have hf : ∀ j, j < m → w.cell? ((⟨b, off, none⟩ : Addr).add j) = some (f j) := fun j hj => by
            obtain ⟨v, hc, _⟩ := hall j hj
            rw [add_lit, hc]
            simp [f, hc]
          refine ⟨.agg ((List.range m).map f).toArray, by simp [one1, k3, asAddr, run_loadVar_many l1 l2 hf], RV_aggOf (by simp; omega) fun i u hu => ?_⟩
          have hi : i < m := by
            have := (List.getElem?_eq_some_iff.1 hu).1
            simp at this
            omega
          obtain ⟨v, hc, hrv⟩ := hall i hi
          rw [List.getElem?_take_of_lt hi, List.getElem?_drop] at hu
          rw [getElem?_getD (by omega)] at hu
          cases hu
          simp only [f, hc, Option.getD_some]
          exact hrv
        · cases hu
      · cases hu
    · cases hu

def resL (P : Program) (fr : AFr) (σ : ASt) : List ResultVar → Option (List PV)
  | [] => some []
  | r :: rs => match resU P fr σ r, resL P fr σ rs with
    | some u, some us => some (u :: us)
    | _, _ => none

theorem resL_sound {P : Program} {x : Ctx P} {N : Nat} {fr : AFr} {σ : ASt} {a : Act} {hv : Nat → Value} {w : World} (h : Good x N (look fr) (find σ) a hv w) : ∀ {rs : List ResultVar} {us : List PV}, resL P fr σ rs = some us →
    ∃ vs : List Value, (rs.mapM (one1 a.tmps)).run P w = .ok vs w ∧ vs.length = us.length ∧ ∀ (i : Nat) (v : Value) (u : PV), vs[i]? = some v → us[i]? = some u → RV (env x (find σ) hv w) v u
  | [], us, hu => by cases hu; exact ⟨[], rfl, rfl, by simp⟩
  | r :: rs, us, hu => by
    simp only [resL] at hu
    cases h1 : resU P fr σ r with
    | none => rw [h1] at hu; cases hu
    | some u =>
      cases h2 : resL P fr σ rs with
      | none => rw [h1, h2] at hu; cases hu
      | some us' =>
        rw [h1, h2] at hu
        cases hu
        obtain ⟨v, e1, e2⟩ := resU_sound h h1
        obtain ⟨vs, f1, f2, f3⟩ := resL_sound h h2
        refine ⟨v :: vs, ?_, by simp [f2], fun i v' u' hv' hu' => ?_⟩
        · simp [List.mapM_cons, e1, f1]
        · cases i with
          | zero => simp at hv' hu'; subst hv' hu'; exact e2
          | succ i => exact f3 i v' u' (by simpa using hv') (by simpa using hu')

end Go.Proofs.Am
