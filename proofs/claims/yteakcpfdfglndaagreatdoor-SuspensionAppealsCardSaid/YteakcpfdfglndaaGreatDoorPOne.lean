/- POne. -/
import Derived.Test.YteakcpfdfglndaaGreatDoorBTwo
import Derived.Test.YteakcpfdfglndaaGreatDoorXOne
import Derived.Test.YteakcpfdfglndaaGreatDoorEOne
import Derived.Test.YteakcpfdfglndaaGreatDoorGOne
import Derived.Test.YteakcpfdfglndaaGreatDoorBThree
import Derived.Test.YteakcpfdfglndaaGreatDoorNOne
import Derived.Test.YteakcpfdfglndaaGreatDoorC9
import Derived.Test.YteakcpfdfglndaaGreatDoorWOne
import Derived.Test.YteakcpfdfglndaaGreatDoorHOne
import Derived.Test.YteakcpfdfglndaaGreatDoorUFour
import Derived.Test.YteakcpfdfglndaaGreatDoorXTwo
import Derived.Test.YteakcpfdfglndaaGreatDoorVTwo
set_option linter.unusedSimpArgs false
set_option linter.unusedVariables false
namespace Go.Proofs.Am
open Go Go.RowKit
open Go.Proofs
noncomputable def seqN {α : Type} (n : Nat) (f : Nat → α) : α := Nat.rec (motive := fun _ => α) (f 0) (fun m _ => f (Nat.succ m)) n
noncomputable def seqI {α : Type} (x : Int) (f : Int → α) : α := match x with
 | .ofNat n => seqN n fun m => f (Int.ofNat m)
 | .negSucc n => f (Int.negSucc n)
theorem seqN_eq {α : Type} (n : Nat) (f : Nat → α) : seqN n f = f n := by cases n <;> rfl
theorem seqI_eq {α : Type} (x : Int) (f : Int → α) : seqI x f = f x := by
 cases x with
 | ofNat n => exact seqN_eq n fun m => f (Int.ofNat m)
 | negSucc n => rfl
noncomputable def seqL {α : Type} (l : List Int) : (List Int → α) → α := List.rec (motive := fun _ => (List Int → α) → α) (fun f => f []) (fun a _ ih f => seqI a fun b => ih fun r => f (b :: r)) l
theorem seqL_eq {α : Type} (l : List Int) : ∀ f : List Int → α, seqL l f = f l := by
 induction l with
 | nil => intro f; rfl
 | cons a r ih =>
  intro f
  show seqI a (fun b => seqL r fun r => f (b :: r)) = _
  rw [seqI_eq, ih]
noncomputable def wAS {α : Type} (b : List UInt8) (m : Nat) : (List Int → α) → α := Nat.rec (motive := fun _ => (List Int → α) → α) (fun f => f (List.replicate 64 0)) (fun m ih f => ih fun w => seqL (w.set m (w16 b m)) f) m
noncomputable def wBS {α : Type} (b : List UInt8) (m : Nat) : (List Int → α) → α := Nat.rec (motive := fun _ => (List Int → α) → α) (fun f => wAS b 16 f) (fun m ih f => ih fun w => seqL (w.set (16 + m) (wst w m)) f) m
noncomputable def rndS {α : Type} (h k w : List Int) (m : Nat) : (List Int → α) → α := Nat.rec (motive := fun _ => (List Int → α) → α) (fun f => f h) (fun m ih f => ih fun v => seqL (rnd v (el k m) (el w m)) f) m
noncomputable def finS {α : Type} (v h : List Int) (m : Nat) : (List Int → α) → α := Nat.rec (motive := fun _ => (List Int → α) → α) (fun f => f v) (fun m ih f => ih fun u => seqL (u.set m (ad (el u m) (el h m))) f) m
theorem wAS_eq {α : Type} (b : List UInt8) : ∀ (m : Nat) (f : List Int → α), wAS b m f = f (wA b m)
 | 0, _ => rfl
 | m + 1, f => by
  show wAS b m (fun w => seqL (w.set m (w16 b m)) f) = _
  rw [wAS_eq b m, seqL_eq]; rfl
theorem wBS_eq {α : Type} (b : List UInt8) : ∀ (m : Nat) (f : List Int → α), wBS b m f = f (wB b m)
 | 0, f => wAS_eq b 16 f
 | m + 1, f => by
  show wBS b m (fun w => seqL (w.set (16 + m) (wst w m)) f) = _
  rw [wBS_eq b m, seqL_eq]; rfl
theorem rndS_eq {α : Type} (h k w : List Int) : ∀ (m : Nat) (f : List Int → α), rndS h k w m f = f (rnds h k w m)
 | 0, _ => rfl
 | m + 1, f => by
  show rndS h k w m (fun v => seqL (rnd v (el k m) (el w m)) f) = _
  rw [rndS_eq h k w m, seqL_eq]; rfl
theorem finS_eq {α : Type} (v h : List Int) : ∀ (m : Nat) (f : List Int → α), finS v h m f = f (fin v h m)
 | 0, _ => rfl
 | m + 1, f => by
  show finS v h m (fun u => seqL (u.set m (ad (el u m) (el h m))) f) = _
  rw [finS_eq v h m, seqL_eq]; rfl
noncomputable def blkS {α : Type} (h : List Int) (b : List UInt8) (f : List Int → α) : α := wBS b 48 fun w => rndS h kK w 64 fun v => finS v h 8 f
theorem blkS_eq {α : Type} (h : List Int) (b : List UInt8) (f : List Int → α) : blkS h b f = f (sblk h b kK) := by
 unfold blkS sblk
 rw [wBS_eq, rndS_eq, finS_eq]
noncomputable def hsS {α : Type} (b : List UInt8) (m : Nat) : (List Int → α) → α := Nat.rec (motive := fun _ => (List Int → α) → α) (fun f => f h0) (fun m ih f => ih fun h => blkS h ((b.take (64 * m + 64)).drop (64 * m)) f) m
theorem hsS_zero {α : Type} (a : List UInt8) (f : List Int → α) : hsS a 0 f = f h0 := rfl
theorem hsS_succ {α : Type} (a : List UInt8) (m : Nat) : hsS (α := α) a (m + 1) = fun f => hsS a m fun h => blkS h ((a.take (64 * m + 64)).drop (64 * m)) f := rfl
theorem hs_zero (b : List UInt8) : hs b 0 = h0 := (rfl)
theorem hs_succ (b : List UInt8) (m : Nat) : hs b (m + 1) = sblk (hs b m) (((allB b).take (64 * m + 64)).drop (64 * m)) kK := (rfl)
theorem hsS_eq {α : Type} (b : List UInt8) (m : Nat) : ∀ (f : List Int → α), hsS (allB b) m f = f (hs b m) := by
 induction m with
 | zero => intro f; rw [hsS_zero, hs_zero]
 | succ m ih =>
  intro f
  rw [hsS_succ]
  dsimp only
  rw [ih, blkS_eq, hs_succ]
end Go.Proofs.Am

/- One author's statements, and what is found among them: plain laws. -/
namespace Go.Proofs.Am
open Go Go.RowKit
open Go.Proofs
def cmpN (a b : Stm) : Int := or2 (cmpI a.nu b.nu) (Lib.compareBytes a.sd b.sd)
def ltN (a b : Stm) : Bool := decide (cmpN a b < 0)
def sameN (a b : Stm) : Bool := decide (cmpN a b = 0)
theorem to_N : TO (fun p q : Int × List UInt8 => or2 (cmpI p.1 q.1) (Lib.compareBytes p.2 q.2)) := to_pair to_cmpI to_bytes
theorem cmpN_zero {a b : Stm} : cmpN a b = 0 ↔ a.nu = b.nu ∧ a.sd = b.sd := by
 have := to_N.eq (a.nu, a.sd) (b.nu, b.sd)
 simpa only [cmpN, Prod.mk.injEq] using this
theorem cmpN_flip {a b : Stm} : cmpN a b < 0 ↔ 0 < cmpN b a := to_N.flip (a.nu, a.sd) (b.nu, b.sd)
def rightS (s : Stm) : Bool := decide (checkE s = 0) && decide (s.sk = s.au ∧ s.sd = dig s)
def ownF (L : List Stm) (a : Int) : List Stm := L.filter fun s => decide (s.au = a) && rightS s
theorem mem_ownF {L : List Stm} {a : Int} {s : Stm} : s ∈ ownF L a ↔ s ∈ L ∧ s.au = a ∧ rightS s = true := by
 simp [ownF, List.mem_filter]
def CF (L : List Stm) : Prop := ∀ s ∈ L, ∀ t ∈ L, rightS s = true → rightS t = true → s.au = t.au → s.nu = t.nu → s.sd = t.sd → s = t
theorem CF.own {L : List Stm} (h : CF L) {a : Int} {s t : Stm} (hs : s ∈ ownF L a) (ht : t ∈ ownF L a) (h1 : s.nu = t.nu) (h2 : s.sd = t.sd) : s = t := by
 obtain ⟨a1, a2, a3⟩ := mem_ownF.1 hs
 obtain ⟨b1, b2, b3⟩ := mem_ownF.1 ht
 exact h s a1 t b1 a3 b3 (a2.trans b2.symm) h1 h2
def srtN (l : List Stm) : List Stm := l.mergeSort fun a b => !decide (cmpN b a < 0)
def ownS (L : List Stm) (a : Int) : List Stm := kp sameN (srtN (ownF L a)) (srtN (ownF L a)).length
theorem sameN_iff (a b : Stm) : sameN a b = true ↔ (ltN a b = false ∧ ltN b a = false) := by
 have h1 := cmpN_flip (a := a) (b := b)
 have h2 := cmpN_flip (a := b) (b := a)
 unfold sameN ltN
 rw [decide_eq_true_iff, decide_eq_false_iff_not, decide_eq_false_iff_not]
 constructor
 ·intro h; constructor <;> omega
 ·rintro ⟨h3, h4⟩; omega
theorem ko_N {L : List Stm} {a : Int} (h : CF L) : KO ltN (fun s => s ∈ ownF L a) where
 irr x := decide_eq_false (to_N.irr (x.nu, x.sd))
 tr x y z h1 h2 := decide_eq_true (to_N.tr (x.nu, x.sd) (y.nu, y.sd) (z.nu, z.sd) (of_decide_eq_true h1) (of_decide_eq_true h2))
 nt x y z h1 h2 := decide_eq_false (to_N.nt (x.nu, x.sd) (y.nu, y.sd) (z.nu, z.sd) (of_decide_eq_false h1) (of_decide_eq_false h2))
 tri x y hx hy h1 h2 := by
  have h3 := of_decide_eq_true ((sameN_iff x y).2 ⟨h1, h2⟩)
  obtain ⟨e1, e2⟩ := cmpN_zero.1 h3
  exact h.own hx hy e1 e2
theorem srtN_le (l : List Stm) : (srtN l).Pairwise fun a b => ltN b a = false := by
 have := List.pairwise_mergeSort (le := fun a b : Stm => !decide (cmpN b a < 0)) (fun a b c h1 h2 => by
  simp only [Bool.not_eq_true', decide_eq_false_iff_not] at h1 h2 ⊢
  exact to_N.nt (c.nu, c.sd) (b.nu, b.sd) (a.nu, a.sd) h2 h1) (fun a b => by
  simp only [Bool.or_eq_true, Bool.not_eq_true', decide_eq_false_iff_not]
  have h1 := cmpN_flip (a := b) (b := a)
  omega) l
 exact this.imp fun h => by simpa [ltN] using h
theorem ownS_ss {L : List Stm} {a : Int} (h : CF L) : SS ltN (ownS L a) ∧ ∀ s, s ∈ ownS L a ↔ s ∈ ownF L a := by
 have hp := List.mergeSort_perm (ownF L a) fun a b : Stm => !decide (cmpN b a < 0)
 have h := (ko_N (a := a) h).kp_inv sameN_iff (l := srtN (ownF L a)) (fun x hx => hp.mem_iff.1 hx) (srtN_le _) _ (Nat.le_refl _)
 refine ⟨h.1, fun x => ?_⟩
 rw [ownS, h.2, List.take_length]
 exact hp.mem_iff
theorem ownF_len (L : List Stm) (a : Int) : (ownF L a).length ≤ L.length := List.length_filter_le _ _
theorem ownS_len (L : List Stm) (a : Int) : (ownS L a).length ≤ L.length := by
 have h1 := kp_len sameN (srtN (ownF L a)) (srtN (ownF L a)).length
 have h2 : (srtN (ownF L a)).length = (ownF L a).length := List.length_mergeSort _
 have h3 := ownF_len L a
 unfold ownS
 omega
def adjP (M : List Stm) (i : Nat) : Bool := decide (0 < i) && decide ((el M i).nu = (el M (i - 1)).nu)
def forksX (M : List Stm) : List (Stm × Stm) := match (List.range M.length).find? (adjP M) with | some i => [(el M (i - 1), el M i)] | none => []
theorem forks_at {M : List Stm} {i : Nat} (hi : i < M.length) (h : adjP M i = true) (hb : ∀ j, j < i → adjP M j = false) : forksX M = [(el M (i - 1), el M i)] := by
 have : (List.range M.length).find? (adjP M) = some i := List.find?_range_eq_some.2 ⟨h, by simpa using hi, fun j hj => by simp [hb j hj]⟩
 rw [forksX, this]
theorem forks_none {M : List Stm} (hb : ∀ j, j < M.length → adjP M j = false) : forksX M = [] := by
 have : (List.range M.length).find? (adjP M) = none := List.find?_range_eq_none.2 fun j hj => by simp [hb j hj]
 rw [forksX, this]
theorem forks_or (M : List Stm) : (forksX M = [] ∧ ∀ j, j < M.length → adjP M j = false) ∨ ∃ i, 0 < i ∧ i < M.length ∧ forksX M = [(el M (i - 1), el M i)] := by
 cases h : (List.range M.length).find? (adjP M) with
 | none => exact .inl ⟨by rw [forksX, h], fun j hj => by simpa using List.find?_range_eq_none.1 h j hj⟩
 | some i =>
  obtain ⟨h1, h2, _⟩ := List.find?_range_eq_some.1 h
  rw [adjP, Bool.and_eq_true] at h1
  exact .inr ⟨i, of_decide_eq_true h1.1, by simpa using h2, by rw [forksX, h]⟩
def firP (v : Vt) (s : Stm) : Bool := decide ((ofE s).2 = 0) && (sameC (ofE s).1.c v.c && decide (ordC (ofE s).1.x v.x = 0))
def firX (M : List Stm) (v : Vt) : Stm := el M (idxG (firP v) M).toNat
def doubX (M : List Stm) : List (Stm × Stm) := (casesL M).flatMap fun c => if 1 < (votesL M c).length then [(firX M (el (votesL M c) 0), firX M (el (votesL M c) 1))] else []
def pfs (k : Int) (l : List (Stm × Stm)) : List (Int × Stm × Stm) := l.map fun p => (k, p.1, p.2)
def findA (M : List Stm) : List (Int × Stm × Stm) := if 1 < M.length then pfs 1 (forksX M) ++ pfs 2 (doubX M) else []
def findX (L : List Stm) (n : Nat) : List (Int × Stm × Stm) := (List.range n).flatMap fun a : Nat => findA (ownS L a)
def guilX (L : List Stm) : List Int := cmpc ((findX L 64).map fun p => p.2.1.au)
def gB (L : List Stm) (a : Int) : Bool := (ownF L a).any fun s => (ownF L a).any fun t => decide (s.nu = t.nu) && decide (s ≠ t)
theorem gB_iff {L : List Stm} {a : Int} : gB L a = true ↔ ∃ s ∈ ownF L a, ∃ t ∈ ownF L a, s.nu = t.nu ∧ s ≠ t := by
 simp [gB, List.any_eq_true]
theorem ltN_nu {a b : Stm} (h : ltN a b = true) : a.nu ≤ b.nu := by
 have h1 := of_decide_eq_true h
 unfold cmpN or2 cmpI at h1
 repeat' split at h1
 all_goals omega
theorem forks_gB {L : List Stm} {a : Int} (h : CF L) : forksX (ownS L a) ≠ [] ↔ gB L a = true := by
 obtain ⟨hs, hm⟩ := ownS_ss (a := a) h
 rw [gB_iff]
 constructor
 ·intro hne
  rcases forks_or (ownS L a) with ⟨h1, _⟩ | ⟨i, h0, hi, h2⟩
  ·exact absurd h1 hne
  ·have hadj : adjP (ownS L a) i = true := by
    cases hf : (List.range (ownS L a).length).find? (adjP (ownS L a)) with
    | none => rw [forksX, hf] at h2; cases h2
    | some k =>
     obtain ⟨k1, k2, _⟩ := List.find?_range_eq_some.1 hf
     have k3 : forksX (ownS L a) = [(el (ownS L a) (k - 1), el (ownS L a) k)] := by rw [forksX, hf]
     rw [h2] at k3
     rw [adjP, Bool.and_eq_true] at k1
     have k4 := of_decide_eq_true k1.2
     simp only [List.cons.injEq, Prod.mk.injEq, and_true] at k3
     rw [adjP, decide_eq_true h0, Bool.true_and, decide_eq_true_iff, k3.1, k3.2]
     exact k4
   rw [adjP, Bool.and_eq_true] at hadj
   have hnu := of_decide_eq_true hadj.2
   have e1 := el_mem hi
   have e2 := el_mem (show i - 1 < (ownS L a).length by omega)
   refine ⟨_, (hm _).1 e1, _, (hm _).1 e2, hnu, fun he => ?_⟩
   have hlt := List.pairwise_iff_getElem.1 hs (i - 1) i (by omega) hi (by omega)
   rw [← elG _ _ (by omega), ← elG _ _ hi, he, (ko_N (a := a) h).irr] at hlt
   cases hlt
 ·rintro ⟨s, s1, t, t1, hnu, hne⟩ hnil
  rcases forks_or (ownS L a) with ⟨_, h2⟩ | ⟨i, _, _, h3⟩
  rotate_left
  ·rw [hnil] at h3; cases h3
  obtain ⟨i, hi, rfl⟩ := mem_el ((hm s).2 s1)
  obtain ⟨j, hj, rfl⟩ := mem_el ((hm t).2 t1)
  have mono : ∀ i j, i < j → j < (ownS L a).length → (el (ownS L a) i).nu ≤ (el (ownS L a) j).nu := fun i j hij hj => by
   have hlt := List.pairwise_iff_getElem.1 hs i j (by omega) hj hij
   rw [← elG _ _ (by omega), ← elG _ _ hj] at hlt
   exact ltN_nu hlt
  have key : ∀ i j, i < j → j < (ownS L a).length → (el (ownS L a) i).nu = (el (ownS L a) j).nu → False := fun i j hij hj he => by
   have h4 := h2 (i + 1) (by omega)
   rw [adjP, decide_eq_true (by omega), Bool.true_and, Nat.add_sub_cancel, decide_eq_false_iff_not] at h4
   have m1 := mono i (i + 1) (by omega) (by omega)
   by_cases hij2 : i + 1 = j
   ·exact h4 (by rw [hij2]; exact he.symm)
   ·have m2 := mono (i + 1) j (by omega) hj
    exact h4 (by omega)
  rcases Nat.lt_trichotomy i j with h5 | h5 | h5
  ·exact key i j h5 hj hnu
  ·subst h5; exact hne rfl
  ·exact key j i h5 hi hnu.symm
end Go.Proofs.Am

/- Who is guilty: plain laws. -/
namespace Go.Proofs.Am
open Go Go.RowKit
open Go.Proofs
def UNI (L : List Stm) : Prop := ∀ c, ∀ s ∈ L, ∀ t ∈ L, okV c s = true → okV c t = true → s.au = t.au → s.nu = t.nu
theorem idxG_of {p : Stm → Bool} {l : List Stm} (h : l.any p = true) : ∃ i : Nat, idxG p l = (i : Int) ∧ i < l.length ∧ p (el l i) = true := by
 cases hf : l.findIdx? p with
 | none =>
  rw [List.findIdx?_eq_none_iff] at hf
  rw [List.any_eq_true] at h
  obtain ⟨x, hx, hp⟩ := h
  rw [hf x hx] at hp
  cases hp
 | some i =>
  obtain ⟨h1, h2, _⟩ := List.findIdx?_eq_some_iff_getElem.1 hf
  exact ⟨i, by rw [idxG, hf], h1, by rw [elG _ _ h1]; exact h2⟩
theorem fir_any {M : List Stm} {c : Cs} {v : Vt} (h : v ∈ votesL M c) : M.any (firP v) = true := by
 obtain ⟨s, hs, ho, rfl⟩ := mem_votesL.1 h
 refine List.any_eq_true.2 ⟨s, hs, ?_⟩
 have h1 := (Bool.and_eq_true_iff.1 ho).1
 have h2 : (ofE s).2 = 0 := of_decide_eq_true (Bool.and_eq_true_iff.1 h1).1
 unfold firP
 rw [decide_eq_true h2, Bool.true_and]
 have e1 : (voteE s).1 = (ofE s).1 := rfl
 rw [e1, (ordC_eq _ _).2 rfl]
 simp [sameC]
theorem firX_mem {M : List Stm} {c : Cs} {v : Vt} (h : v ∈ votesL M c) : firX M v ∈ M := by
 obtain ⟨i, h1, h2, _⟩ := idxG_of (fir_any h)
 unfold firX
 rw [h1, Int.toNat_natCast]
 exact el_mem h2
theorem doub_forks {L : List Stm} {a : Int} (h : CF L) (hu : UNI L) (hd : doubX (ownS L a) ≠ []) : gB L a = true := by
 obtain ⟨_, hm⟩ := ownS_ss (a := a) h
 obtain ⟨p, hp⟩ := List.exists_mem_of_ne_nil _ hd
 obtain ⟨c, _, hc⟩ := List.mem_flatMap.1 hp
 split at hc
 rotate_left
 ·simp at hc
 rename_i hl
 have hss := (votes_ss (ownS L a) c).1
 have hlt := List.pairwise_iff_getElem.1 hss 0 1 (by omega) hl (by omega)
 obtain ⟨s0, s1, s2, s3⟩ := mem_votesL.1 (List.getElem_mem (show 0 < (votesL (ownS L a) c).length by omega))
 obtain ⟨t0, t1, t2, t3⟩ := mem_votesL.1 (List.getElem_mem hl)
 have m1 := (hm _).1 s1
 have m2 := (hm _).1 t1
 obtain ⟨a1, a2, _⟩ := mem_ownF.1 m1
 obtain ⟨b1, b2, _⟩ := mem_ownF.1 m2
 refine gB_iff.2 ⟨s0, m1, t0, m2, hu c s0 a1 t0 b1 s2 t2 (a2.trans b2.symm), fun he => ?_⟩
 subst he
 rw [← s3, ← t3] at hlt
 have := (ko_V c).irr (voteE s0).1
 rw [this] at hlt
 cases hlt
theorem findA_au {L : List Stm} {a : Int} (h : CF L) : ∀ p ∈ findA (ownS L a), p.2.1.au = a := fun p hp => by
 obtain ⟨_, hm⟩ := ownS_ss (a := a) h
 unfold findA at hp
 split at hp
 rotate_left
 ·simp at hp
 rcases List.mem_append.1 hp with hp | hp
 ·obtain ⟨q, hq, rfl⟩ := List.mem_map.1 hp
  rcases forks_or (ownS L a) with ⟨h1, _⟩ | ⟨i, h0, hi, h2⟩
  ·rw [h1] at hq; simp at hq
  ·rw [h2, List.mem_singleton] at hq
   rw [hq]
   exact (mem_ownF.1 ((hm _).1 (el_mem (show i - 1 < (ownS L a).length by omega)))).2.1
 ·obtain ⟨q, hq, rfl⟩ := List.mem_map.1 hp
  obtain ⟨c, _, hc⟩ := List.mem_flatMap.1 hq
  split at hc
  rotate_left
  ·simp at hc
  rename_i hl
  rw [List.mem_singleton] at hc
  rw [hc]
  exact (mem_ownF.1 ((hm _).1 (firX_mem (el_mem (show 0 < (votesL (ownS L a) c).length by omega))))).2.1
theorem findA_gB {L : List Stm} {a : Int} (h : CF L) (hu : UNI L) : findA (ownS L a) ≠ [] ↔ gB L a = true := by
 obtain ⟨_, hm⟩ := ownS_ss (a := a) h
 constructor
 ·intro hne
  unfold findA at hne
  split at hne
  ·by_cases h1 : forksX (ownS L a) = []
   ·refine doub_forks h hu fun h2 => hne ?_
    rw [h1, h2]
    rfl
   ·exact (forks_gB h).1 h1
  ·exact absurd rfl hne
 ·intro hg
  have h1 := (forks_gB h).2 hg
  obtain ⟨s, s1, t, t1, _, hne⟩ := gB_iff.1 hg
  have hl : 1 < (ownS L a).length := by
   have m1 := (hm s).2 s1
   have m2 := (hm t).2 t1
   match hM : ownS L a, m1, m2 with
   | [], m1, _ => simp at m1
   | [x], m1, m2 => simp at m1 m2; exact absurd (m1.trans m2.symm) hne
   | _ :: _ :: _, _, _ => simp
  unfold findA
  rw [if_pos hl]
  intro h2
  obtain ⟨h3, _⟩ := List.append_eq_nil_iff.1 h2
  exact h1 (List.map_eq_nil_iff.1 h3)
theorem guil_eq {L : List Stm} (h : CF L) (hu : UNI L) : guilX L = keysW (gB L) 64 := by
 have hmap : (findX L 64).map (fun p => p.2.1.au) = (List.range 64).flatMap fun a : Nat => List.replicate (findA (ownS L a)).length (a : Int) := by
  unfold findX
  rw [List.map_flatMap]
  congr 1
  funext a
  refine List.eq_replicate_iff.2 ⟨by rw [List.length_map], fun b hb => ?_⟩
  obtain ⟨p, hp, rfl⟩ := List.mem_map.1 hb
  exact findA_au h p hp
 have hmem : ∀ k : Int, k ∈ (findX L 64).map (fun p => p.2.1.au) ↔ (0 ≤ k ∧ k < 64) ∧ gB L k = true := fun k => by
  rw [hmap, List.mem_flatMap]
  constructor
  ·rintro ⟨a, ha, hk⟩
   obtain ⟨h1, rfl⟩ := List.mem_replicate.1 hk
   have ha := List.mem_range.1 ha
   exact ⟨by omega, (findA_gB h hu).1 fun h2 => h1 (by rw [h2]; rfl)⟩
  ·rintro ⟨⟨h1, h2⟩, h3⟩
   obtain ⟨a, rfl⟩ : ∃ a : Nat, k = a := ⟨k.toNat, by omega⟩
   refine ⟨a, List.mem_range.2 (by omega), List.mem_replicate.2 ⟨fun h4 => ?_, rfl⟩⟩
   exact (findA_gB h hu).2 h3 (List.eq_nil_of_length_eq_zero h4)
 have hsort : ((findX L 64).map fun p => p.2.1.au).Pairwise fun x y => decide (x ≤ y) = true := by
  rw [hmap, List.pairwise_flatMap]
  refine ⟨fun a _ => List.pairwise_replicate.2 (.inr (by simp)), ?_⟩
  refine List.Pairwise.imp ?_ (List.pairwise_lt_range (n := 64))
  intro a b hab x hx y hy
  rw [(List.mem_replicate.1 hx).2, (List.mem_replicate.1 hy).2]
  simp
  omega
 have hs : srt ((findX L 64).map fun p => p.2.1.au) = (findX L 64).map fun p => p.2.1.au := List.mergeSort_of_pairwise hsort
 unfold guilX
 rw [← hs, cmpc_srt _ (fun x hx => ((hmem x).1 hx).1)]
 unfold keysW
 refine List.filter_congr fun k hk => ?_
 obtain ⟨a, ha, rfl⟩ := List.mem_map.1 hk
 have ha := List.mem_range.1 ha
 rw [Bool.eq_iff_iff, decide_eq_true_iff, hmem]
 exact ⟨fun h => h.2, fun h => ⟨by omega, h⟩⟩
end Go.Proofs.Am

/- One author's statements: sorted, each once: the walk. -/
namespace Go.Proofs.Am
open Go Go.RowKit
open Go.Proofs
set_option maxHeartbeats 1000000 in
set_option maxRecDepth 100000 in
theorem cmpN_den (a b : Stm) : Den Tryz.prog 122 [.agg (sm a), .agg (sm b)] [] (.int .i64 (cmpN a b)) [] [] := by
 refine den_of Tryz.mixed Tryz.func122 rfl Tryz.call122 Tryz.ntmps122 (congrArg Array.toList Tryz.results122) (by simp) (by kernel_rfl) [] (exts := []) rfl rfl ?_
 simp only [go_sem]
 refine call (cmpI_den a.nu b.nu) [] ?_
 simp only [go_sem]
 refine call (strCmp_den a.sd b.sd) [] ?_
 simp only [go_sem]
 refine call (or_den [cmpI a.nu b.nu, Lib.compareBytes a.sd b.sd] (by simp [big])) [] ?_
 simp only [go_sem]
 refine ⟨okD_of (by kernel_rfl), ?_⟩
 simp only [orL, cmpN, or2]
 repeat' split
 all_goals simp_all
set_option maxHeartbeats 1000000 in
set_option maxRecDepth 100000 in
theorem eqN_den (a b : Stm) : Den Tryz.prog 128 [.agg (sm a), .agg (sm b), .ptr 1000000 0] [.cells [.fn 122 []]] (.bool (sameN a b)) [] [.cells [.fn 122 []]] := by
 refine den_of Tryz.mixed Tryz.func128 rfl Tryz.call128 Tryz.ntmps128 (congrArg Array.toList Tryz.results128) (by simp) (by kernel_rfl) [] (exts := [1000000]) rfl rfl ?_
 simp only [go_sem]
 refine call (cmpN_den a b) [] ?_
 simp only [go_sem]
 rfl
theorem sortN_den {L : List Stm} {a : Int} (l : List Stm) (hl : l.length < 4611686018427387904) (h : CF L) (hm : ∀ s ∈ l, s ∈ ownF L a) :
  Den Tryz.prog 126 [.os 1000000 l.length, .fn 122 []] [.arr 60 13 false (l.map sm)] (.tup []) [] [.arr 60 13 false ((srtN l).map sm)] := by
 refine den_sort (F := sm) (cf := cmpN) (enters_of Tryz.func126 (by kernel_rfl) rfl) hl
  (fun m enc hk h1 c hO b cap d w hcmp hH hblk hsz => AnyQ.slices_SortFunc Tryz.sortStm 13 (fun _ => by kernel_rfl) (fun _ => by kernel_rfl) enc hk h1 c hO _ _ b 0 cap d w (enters_of Tryz.func122 (by kernel_rfl) rfl) hcmp hH hblk hsz)
  (fun p cap fv w => AnyF.slices_SortFunc_none Tryz.sortStm p cap fv w)
  (fun x hx y hy => cmpN_den x y) (fun x _ => to_N.irr (x.nu, x.sd)) (fun x _ y _ z _ => to_N.tr (x.nu, x.sd) (y.nu, y.sd) (z.nu, z.sd)) (fun x _ y _ z _ => to_N.nt (x.nu, x.sd) (y.nu, y.sd) (z.nu, z.sd)) (fun x hx y hy h1 h2 => ?_) (List.mergeSort_perm _ _) ?_
 ·exact (ko_N (a := a) h).tri x y (hm x hx) (hm y hy) (decide_eq_false h1) (decide_eq_false h2)
 ·exact (srtN_le l).imp fun h => of_decide_eq_false h
set_option maxHeartbeats 1000000 in
set_option maxRecDepth 100000 in
theorem compactN_den (l : List Stm) (hl : big l.length) (hd : ∀ i, 0 < i → i < l.length → sameN (el l i) (el l (i - 1)) = false) :
  Den Tryz.prog 127 [.os 1000000 l.length, .fn 128 [.ptr 1000001 0]] [.arr 60 13 false (l.map sm), .cells [.fn 122 []]] (.os 1000000 l.length) [] [.arr 60 13 false (l.map sm), .cells [.fn 122 []]] := by
 refine den_of Tryz.mixed Tryz.func127 rfl Tryz.call127 Tryz.ntmps127 (congrArg Array.toList Tryz.results127) (by simp) (by kernel_rfl) [] (exts := [1000000, 1000001]) rfl rfl ?_
 by_cases h2 : (l.length : Int) < 2
 ·simp only [go_sem, h2]
 simp only [go_sem, h2]
 refine loop Tryz.mixed 1 (fun i : Nat => [(0, .os 1000000 l.length), (1, .fn 128 [.ptr 1000001 0]), (5, .int .i64 i)]) (fun _ => [(1000000, .arr 60 13 false (l.map sm)), (1000001, .cells [.fn 122 []])]) (fun i => 1 ≤ i ∧ i ≤ l.length) (fun i => l.length - i) (by kernel_rfl) ⟨Nat.le_refl _, by omega⟩ ?_ ?_
 ·simp only [go_sem]
 ·rintro i ⟨hi0, hi⟩
  by_cases hlt : i < l.length
  ·have h1 : (i : Int) < (l.length : Int) := by omega
   obtain ⟨j, rfl⟩ : ∃ j, i = j + 1 := ⟨i - 1, by omega⟩
   have hw : IntKind.i64.wrap (((j + 1 : Nat) : Int) - 1) = (j : Int) := by rw [wrapI] <;> omega
   have hj : j < l.length := by omega
   simp only [go_sem, h1, hlt, hw, hj]
   have hne := hd (j + 1) (by omega) hlt
   rw [Nat.add_sub_cancel] at hne
   refine call (eqN_den (el l (j + 1)) (el l j)) [1000001] ?_
   simp only [go_sem, hne]
   refine ⟨okD_of (by kernel_rfl), j + 1 + 1, ⟨⟨by omega, by omega⟩, by omega⟩, ?_⟩
   rw [wrapI] <;> omega
  ·have h1 : ¬ (i : Int) < (l.length : Int) := by omega
   simp only [go_sem, h1]
set_option maxHeartbeats 1000000 in
set_option maxRecDepth 100000 in
theorem compactN2_den (l : List Stm) (hl : big l.length) {k0 : Nat} (h1 : 0 < k0) (h2 : k0 < l.length) (h3 : sameN (el l k0) (el l (k0 - 1)) = true) (h4 : ∀ j, 0 < j → j < k0 → sameN (el l j) (el l (j - 1)) = false) :
  Den Tryz.prog 127 [.os 1000000 l.length, .fn 128 [.ptr 1000001 0]] [.arr 60 13 false (l.map sm), .cells [.fn 122 []]] (.vs ((kp sameN l l.length).map sm)) [] [.arr 60 13 true ((kp sameN l l.length).map sm ++ List.replicate (l.length - (kp sameN l l.length).length) zS), .cells [.fn 122 []]] := by
 refine den_of Tryz.mixed Tryz.func127 rfl Tryz.call127 Tryz.ntmps127 (congrArg Array.toList Tryz.results127) (by simp) (by kernel_rfl) [] (exts := [1000000, 1000001]) rfl rfl ?_
 have hlen : ¬ (l.length : Int) < 2 := by omega
 simp only [go_sem, hlen]
 refine loopC Tryz.mixed 1 (fun i : Nat => [(0, .os 1000000 l.length), (1, .fn 128 [.ptr 1000001 0]), (5, .int .i64 i)]) (fun _ => [(1000000, .arh 60 13 (l.map sm)), (1000001, .cells [.fn 122 []])]) (fun i => 1 ≤ i ∧ i ≤ k0) (fun i => k0 - i) (by kernel_rfl) ⟨Nat.le_refl _, by omega⟩ ?_ ?_
 ·refine Cv.trans (Cv.opn (n := 1000000) (by rfl)) (Cv.wk ?_)
  have hin := hinLL_map [1000000, 1000001] sm (fun _ => rfl) l
  simp only [go_sem, hin]
 ·rintro i ⟨hi0, hi⟩
  have hlt : i < l.length := by omega
  have g1 : (i : Int) < (l.length : Int) := by omega
  obtain ⟨j, rfl⟩ : ∃ j, i = j + 1 := ⟨i - 1, by omega⟩
  have hw : IntKind.i64.wrap (((j + 1 : Nat) : Int) - 1) = (j : Int) := by rw [wrapI] <;> omega
  have hj : j < l.length := by omega
  have cq := eqN_den (el l (j + 1)) (el l j)
  by_cases hk : j + 1 < k0
  ·have hne := h4 (j + 1) (by omega) hk
   rw [Nat.add_sub_cancel] at hne
   rw [hne] at cq
   simp only [go_sem, g1, hlt, hw, hj]
   refine call cq [1000001] ?_
   simp only [go_sem]
   refine ⟨okD_of (by kernel_rfl), j + 1 + 1, ⟨⟨by omega, by omega⟩, by omega⟩, Cv.wk ?_⟩
   have hin := hinLL_map [1000000, 1000001] sm (fun _ => rfl) l
   simp only [go_sem, hin]
   rw [wrapI] <;> omega
  ·obtain rfl : k0 = j + 1 := by omega
   rw [Nat.add_sub_cancel] at h3
   rw [h3] at cq
   simp only [go_sem, g1, hlt, hw, hj]
   refine call cq [1000001] ?_
   simp only [go_sem, g1, hlt, hw, hj]
   refine ⟨okD_of (by kernel_rfl), ?_⟩
   have kf : kp sameN l (j + 1 + 1) = l.take (j + 1) := by
    have := kp_take sameN l (j + 1) (by omega) h4
    rw [kp, if_neg (fun h => by rcases h with h | h; omega; rw [Nat.add_sub_cancel, h3] at h; cases h), this, List.append_nil]
   refine loopC Tryz.mixed (0, l) (fun s : Nat × List Stm => [(0, .os 1000000 l.length), (1, .fn 128 [.ptr 1000001 0]), (5, .int .i64 (kp sameN l (j + 1 + (s.1 + 1))).length), (6, .osl 1000000 l.length (j + 1)), (7, .int .i64 ((s.1 + 1 : Nat) : Int))]) (fun s => [(1000000, .arh 60 13 (s.2.map sm)), (1000001, .cells [.fn 122 []])])
    (fun s => j + 1 + (s.1 + 1) ≤ l.length ∧ s.2.length = l.length ∧ (kp sameN l (j + 1 + (s.1 + 1))).length < j + 1 + (s.1 + 1) ∧ s.2.take (kp sameN l (j + 1 + (s.1 + 1))).length = kp sameN l (j + 1 + (s.1 + 1)) ∧ ∀ a, (kp sameN l (j + 1 + (s.1 + 1))).length ≤ a → el s.2 a = el l a) (fun s => l.length - s.1) (by kernel_rfl) ?_ ?_ ?_
   ·have hlt' : (l.take (j + 1)).length = j + 1 := by simp; omega
    refine ⟨by simp only; omega, rfl, ?_, ?_, fun a _ => rfl⟩
    ·show (kp sameN l (j + 1 + 1)).length < j + 1 + 1
     rw [kf, hlt']; omega
    ·show l.take (kp sameN l (j + 1 + 1)).length = kp sameN l (j + 1 + 1)
     rw [kf, hlt']
   ·refine Cv.wk ?_
    have hlt' : (l.take (j + 1)).length = j + 1 := by simp; omega
    have hin := hinLL_map [1000000, 1000001] sm (fun _ => rfl) l
    simp only [go_sem, hin, kf, hlt']
   ·rintro ⟨n, L⟩ ⟨i1, i2, i3, i4, i5⟩
    simp only at i1 i2 i3 i4 i5
    simp only
    have ks : kp sameN l (j + 1 + (n + 1) + 1) = kp sameN l (j + 1 + (n + 1)) ++ if sameN (el l (j + 1 + (n + 1))) (el l (j + 1 + n)) = false then [el l (j + 1 + (n + 1))] else [] := by
     rw [kp]
     have h0 : ¬ j + 1 + (n + 1) = 0 := by omega
     simp only [h0, false_or]
     rfl
    have k0p : 0 < (kp sameN l (j + 1 + (n + 1))).length := kp_pos _ _ (by omega)
    generalize hO : kp sameN l (j + 1 + (n + 1)) = o at *
    by_cases hm : j + 1 + (n + 1) < l.length
    ·have g2 : ((n + 1 : Nat) : Int) < ((l.length - (j + 1) : Nat) : Int) := by omega
     have g3 : ((j + 1 : Nat) : Int) + ((n + 1 : Nat) : Int) < (l.length : Int) := by omega
     have g4 : ((j + 1 : Nat) : Int) + (n : Int) < (l.length : Int) := by omega
     have g5 : IntKind.i64.wrap (((n + 1 : Nat) : Int) - 1) = (n : Int) := by rw [wrapI] <;> omega
     have g6 : j + 1 + (n + 1) < L.length := by omega
     have g7 : j + 1 + n < L.length := by omega
     have e1 : el L (j + 1 + (n + 1)) = el l (j + 1 + (n + 1)) := i5 _ (by omega)
     have e2 : el L (j + 1 + n) = el l (j + 1 + n) := i5 _ (by omega)
     have ks' : kp sameN l (j + 1 + ((n + 1) + 1)) = o ++ if sameN (el l (j + 1 + (n + 1))) (el l (j + 1 + n)) = false then [el l (j + 1 + (n + 1))] else [] := ks
     have cq2 := eqN_den (el l (j + 1 + (n + 1))) (el l (j + 1 + n))
     have hm2 : j + 1 + n < l.length := by omega
     cases hsame : sameN (el l (j + 1 + (n + 1))) (el l (j + 1 + n)) with
     | true =>
      rw [hsame, if_neg (by simp), List.append_nil] at ks'
      rw [hsame] at cq2
      simp only [go_sem, g2, g3, g4, g5, g6, g7, i2, e1, e2, hm, hm2]
      refine call cq2 [1000001] ?_
      simp only [go_sem, g2, g3, g4, g5, g6, g7, i2, e1, e2, hm, hm2]
      refine ⟨okD_of (by kernel_rfl), (n + 1, L), ⟨⟨by simp only; omega, i2, ?_, ?_, fun a ha => i5 a ?_⟩, by simp only; omega⟩, Cv.wk ?_⟩
      ·show (kp sameN l (j + 1 + ((n + 1) + 1))).length < _
       rw [ks']; simp only; omega
      ·show L.take (kp sameN l (j + 1 + ((n + 1) + 1))).length = _
       rw [ks']; exact i4
      ·have ha' : (kp sameN l (j + 1 + ((n + 1) + 1))).length ≤ a := ha
       rwa [ks'] at ha'
      ·have hin := hinLL_map [1000000, 1000001] sm (fun _ => rfl) L
       simp only [go_sem, ks', hin]
       rw [wrapI] <;> omega
     | false =>
      rw [hsame, if_pos rfl] at ks'
      rw [hsame] at cq2
      have g8 : o.length < l.length := by omega
      simp only [go_sem, g2, g3, g4, g5, g6, g7, g8, i2, e1, e2, hm, hm2]
      refine call cq2 [1000001] ?_
      simp only [go_sem, g2, g3, g4, g5, g6, g7, g8, i2, e1, e2, hm, hm2]
      refine ⟨okD_of (by kernel_rfl), (n + 1, L.set o.length (el l (j + 1 + (n + 1)))), ⟨⟨by simp only; omega, by simp only [List.length_set]; exact i2, ?_, ?_, fun a ha => ?_⟩, by simp only; omega⟩, Cv.wk ?_⟩
      ·show (kp sameN l (j + 1 + ((n + 1) + 1))).length < _
       rw [ks', List.length_append, List.length_singleton]; simp only; omega
      ·show (L.set o.length (el l (j + 1 + (n + 1)))).take (kp sameN l (j + 1 + ((n + 1) + 1))).length = kp sameN l (j + 1 + ((n + 1) + 1))
       rw [ks']; exact set_take (by omega) i4
      ·have ha' : (kp sameN l (j + 1 + ((n + 1) + 1))).length ≤ a := ha
       rw [ks', List.length_append, List.length_singleton] at ha'
       show el (L.set o.length _) a = _
       rw [set_el (by omega)]
       exact i5 a (by omega)
      ·have hin := hinLL_map [1000000, 1000001] sm (fun _ => rfl) (L.set o.length (el l (j + 1 + (n + 1))))
       have hset : (L.map sm).set o.length [PV.int IntKind.i64 (el l (j + 1 + (n + 1))).au, PV.int IntKind.i64 (el l (j + 1 + (n + 1))).nu, PV.str (el l (j + 1 + (n + 1))).prev, PV.int IntKind.i64 (el l (j + 1 + (n + 1))).ti, PV.int IntKind.i64 (el l (j + 1 + (n + 1))).kd, PV.int IntKind.i64 (el l (j + 1 + (n + 1))).a, PV.int IntKind.i64 (el l (j + 1 + (n + 1))).b, PV.int IntKind.i64 (el l (j + 1 + (n + 1))).c, PV.vs (List.map Am.i1 (el l (j + 1 + (n + 1))).li), PV.vs (List.map pn (el l (j + 1 + (n + 1))).pins), PV.str (el l (j + 1 + (n + 1))).body, PV.int IntKind.i64 (el l (j + 1 + (n + 1))).sk, PV.str (el l (j + 1 + (n + 1))).sd] = (L.set o.length (el l (j + 1 + (n + 1)))).map sm := by rw [List.map_set]; rfl
       have hol : (o ++ [el l (j + 1 + (n + 1))]).length = o.length + 1 := by simp
       simp only [go_sem, ks', hset, hin, hol]
       exact ⟨by rw [wrapI] <;> omega, by rw [wrapI] <;> omega⟩
    ·have hend : j + 1 + (n + 1) = l.length := by omega
     have g2 : ¬ ((n + 1 : Nat) : Int) < ((l.length - (j + 1) : Nat) : Int) := by omega
     have g3 : (o.length : Int) < (l.length : Int) := by omega
     rw [hend] at hO
     rw [hO]
     have htk : (L.map sm).take o.length = o.map sm := by rw [← List.map_take, i4]
     have hpu : ∀ σ, purLL σ (o.map sm ++ List.replicate (l.length - o.length) zS) = some (o.map sm ++ List.replicate (l.length - o.length) zS, []) := fun σ => purLL_of fun x hx => by
      rcases List.mem_append.1 hx with hx | hx
      ·obtain ⟨c, _, rfl⟩ := List.mem_map.1 hx
       rfl
      ·rw [List.eq_of_mem_replicate hx]
       rfl
     have g4 : (o.length : Int) ≤ (l.length : Int) := by omega
     have g5 : (o.map sm ++ List.replicate (l.length - o.length) zS).length = l.length := by simp; omega
     have g6 : (o.map sm ++ List.replicate (l.length - o.length) zS).take o.length = o.map sm := by simp
     simp only [go_sem, g2, g3, i2, htk]
     refine cvQ_exit _ _ ?_
     have g7 : o.length < l.length := by omega
     simp only [go_sem, g2, g3, i2, htk, g7, ← zS_eq, hpu, g4, g5, g6]
     refine cvQ_ret _ ?_
     simp only [go_sem]
theorem compactNG_den (l : List Stm) (hl : big l.length) :
  ∃ new, new.length = l.length ∧ Den Tryz.prog 127 [.os 1000000 l.length, .fn 128 [.ptr 1000001 0]] [.arr 60 13 false (l.map sm), .cells [.fn 122 []]] (.vs ((kp sameN l l.length).map sm)) [] [.arr 60 13 true new, .cells [.fn 122 []]] := by
 rcases kp_first sameN l l.length (Nat.le_refl _) with h | ⟨k0, h1, h2, h3, h4⟩
 ·rw [kp_full _ _ h]
  exact ⟨_, by simp, (compactN_den l hl h).vsE (by simp)⟩
 ·exact ⟨_, by have := kp_len sameN l l.length; simp; omega, compactN2_den l hl h1 h2 h3 h4⟩
def ownI (L : List Stm) (a : Int) (i : Nat) : List Stm := ownF (L.take i) a
theorem ownI_succ {L : List Stm} {a : Int} {i : Nat} (h : i < L.length) : ownI L a (i + 1) = ownI L a i ++ (if (decide ((el L i).au = a) && rightS (el L i)) = true then [el L i] else []) := by
 unfold ownI ownF
 rw [take_el h, List.filter_append]
 congr 1
 simp only [List.filter_cons, List.filter_nil]
theorem ownI_len (L : List Stm) (a : Int) (i : Nat) : (ownI L a i).length ≤ L.length := by
 have h1 := ownF_len (L.take i) a
 have h2 : (L.take i).length ≤ L.length := by rw [List.length_take]; omega
 unfold ownI
 omega
theorem ownI_all (L : List Stm) (a : Int) : ownI L a L.length = ownF L a := by rw [ownI, List.take_length]
set_option maxHeartbeats 1000000 in
set_option maxRecDepth 100000 in
theorem own_den (L : List Stm) (a : Int) (hl : L.length ≤ 1000000) (hs : ∀ s ∈ L, bigS s) (h : CF L) : Den Tryz.prog 95 [.vs (L.map sm), .int .i64 a] [] (.vs ((ownS L a).map sm)) [] [] := by
 refine den_of Tryz.mixed Tryz.func95 rfl Tryz.call95 Tryz.ntmps95 (congrArg Array.toList Tryz.results95) (by simp) (by kernel_rfl) [] (exts := []) rfl rfl ?_
 simp only [go_sem]
 refine promote 5 99 60 13 false ?_ ?_ ?_ (by omega)
 ·refine loop Tryz.mixed 0 (fun i : Nat => [(1, .int .i64 a), (5, .os 99 (ownI L a i).length), (9, .vs (L.map sm)), (10, .int .i64 L.length), (11, .int .i64 i)]) (fun i => [(99, .arr 60 13 false ((ownI L a i).map sm))]) (fun i => i ≤ L.length) (fun i => L.length - i) (by kernel_rfl) (Nat.zero_le _) ?_ ?_
  ·simp only [go_sem]
   exact ⟨rfl, rfl⟩
  ·intro i hi
   by_cases hlt : i < L.length
   ·have h1 : (i : Int) < (L.length : Int) := by omega
    have hsu := ownI_succ (a := a) hlt
    have hln := ownI_len L a i
    have hbs := hs _ (el_mem hlt)
    have c1 := check_denB (el L i) hbs
    have c2 := fun h : checkE (el L i) = 0 => sealed_den (el L i) (okS_check h)
    rw [sm_eq] at c1 c2
    have no : (decide ((el L i).au = a) && rightS (el L i)) = false → ownI L a (i + 1) = ownI L a i := fun hh => by rw [hsu, hh, if_neg (by simp), List.append_nil]
    by_cases k1 : a = (el L i).au
    rotate_left
    ·have k1' : ¬ (el L i).au = a := fun e => k1 e.symm
     have n0 := no (by simp [k1'])
     simp only [go_sem, h1, hlt, k1, k1']
     refine ⟨i + 1, ⟨by omega, by omega⟩, ?_⟩
     rw [n0]
     exact ⟨⟨rfl, by rw [wrapI] <;> omega⟩, rfl⟩
    have kt := eq_true k1
    have kt' := eq_true k1.symm
    simp only [go_sem, h1, hlt, kt, kt']
    refine call c1 [] ?_
    by_cases k2 : checkE (el L i) = 0
    rotate_left
    ·have n0 := no (by simp [rightS, k2])
     simp only [go_sem, k2, kt, kt']
     refine ⟨i + 1, ⟨by omega, by omega⟩, ?_⟩
     rw [n0]
     exact ⟨⟨rfl, by rw [wrapI] <;> omega⟩, rfl⟩
    simp only [go_sem, k2, kt, kt']
    refine call (c2 k2) [] ?_
    by_cases k3 : (el L i).sk = (el L i).au ∧ (el L i).sd = dig (el L i)
    rotate_left
    ·have n0 := no (by simp [rightS, k3])
     simp only [go_sem, k3, k2, kt, kt']
     refine ⟨i + 1, ⟨by omega, by omega⟩, ?_⟩
     rw [n0]
     exact ⟨⟨rfl, by rw [wrapI] <;> omega⟩, rfl⟩
    have y0 : ownI L a (i + 1) = ownI L a i ++ [el L i] := by rw [hsu, if_pos (by simp [rightS, ← k1, k2]; exact ⟨by rw [k1]; exact k3.1, k3.2⟩)]
    simp only [go_sem, k3, k2, kt, kt']
    refine ⟨by omega, i + 1, ⟨by omega, by omega⟩, ?_⟩
    rw [y0]
    exact ⟨⟨by simp, by rw [wrapI] <;> omega⟩, by simp [sm_eq, k3]⟩
   ·have h1 : ¬ (i : Int) < (L.length : Int) := by omega
    have : i = L.length := by omega
    subst this
    simp only [go_sem, h1]
    have hfl := ownF_len L a
    rw [ownI_all]
    refine call (sortN_den (ownF L a) (by omega) h fun s hs => hs) [99] ?_
    have hsl : (srtN (ownF L a)).length = (ownF L a).length := List.length_mergeSort _
    simp only [go_sem, hsl]
    obtain ⟨new, hnl, hcc⟩ := compactNG_den (srtN (ownF L a)) (by simp only [big]; omega)
    rw [hsl] at hcc hnl
    refine ⟨Nat.le_refl _, ?_⟩
    have hol : ownS L a = kp sameN (srtN (ownF L a)) (srtN (ownF L a)).length := rfl
    rw [hol, hsl]
    refine call hcc [99, 8] ?_
    simp only [go_sem, hsl]
    omega
 ·simp only [go_sem]
 ·simp only [go_sem]
end Go.Proofs.Am

/- Proofs of lying, the program's: the walk. -/
namespace Go.Proofs.Am
open Go Go.RowKit
open Go.Proofs
def pf (p : Int × Stm × Stm) : List PV := .int .i64 p.1 :: (sm p.2.1 ++ sm p.2.2)
theorem pf_eq (p : Int × Stm × Stm) : pf p = [.int .i64 p.1, .int .i64 p.2.1.au, .int .i64 p.2.1.nu, .str p.2.1.prev, .int .i64 p.2.1.ti, .int .i64 p.2.1.kd, .int .i64 p.2.1.a, .int .i64 p.2.1.b, .int .i64 p.2.1.c, .vs (p.2.1.li.map i1), .vs (p.2.1.pins.map pn), .str p.2.1.body, .int .i64 p.2.1.sk, .str p.2.1.sd,
 .int .i64 p.2.2.au, .int .i64 p.2.2.nu, .str p.2.2.prev, .int .i64 p.2.2.ti, .int .i64 p.2.2.kd, .int .i64 p.2.2.a, .int .i64 p.2.2.b, .int .i64 p.2.2.c, .vs (p.2.2.li.map i1), .vs (p.2.2.pins.map pn), .str p.2.2.body, .int .i64 p.2.2.sk, .str p.2.2.sd] := (rfl)
attribute [go_sem] pf_eq
set_option maxHeartbeats 1000000 in
set_option maxRecDepth 100000 in
theorem forks_den (M : List Stm) (hl : big M.length) : Den Tryz.prog 96 [.vs (M.map sm)] [] (.vs ((pfs 1 (forksX M)).map pf)) [] [] := by
 refine den_of Tryz.mixed Tryz.func96 rfl Tryz.call96 Tryz.ntmps96 (congrArg Array.toList Tryz.results96) (by simp) (by kernel_rfl) [] (exts := []) rfl rfl ?_
 simp only [go_sem]
 refine loop Tryz.mixed 1 (fun i : Nat => [(0, .vs (M.map sm)), (3, .int .i64 i)]) (fun _ => []) (fun i => 1 ≤ i ∧ (i ≤ M.length ∨ i = 1) ∧ ∀ j, j < i → adjP M j = false) (fun i => M.length - i) (by kernel_rfl) ⟨Nat.le_refl _, .inr rfl, fun j hj => by rw [show j = 0 by omega]; rfl⟩ ?_ ?_
 ·simp only [go_sem]
 ·rintro i ⟨h0, hi, hp⟩
  by_cases hlt : i < M.length
  ·have h1 : (i : Int) < (M.length : Int) := by omega
   obtain ⟨j, rfl⟩ : ∃ j, i = j + 1 := ⟨i - 1, by omega⟩
   have hw : IntKind.i64.wrap (((j + 1 : Nat) : Int) - 1) = (j : Int) := by rw [wrapI] <;> omega
   have hj : j < M.length := by omega
   have hat := forks_at hlt (M := M)
   rw [Nat.add_sub_cancel] at hat
   by_cases hn : (el M (j + 1)).nu = (el M j).nu
   ·have hq := hat (by simp [adjP, hn]) hp
    rw [hq]
    simp only [go_sem, h1, hlt, hw, hj, hn, pfs]
    exact ⟨okD_of (by kernel_rfl), okD_of (by kernel_rfl)⟩
   ·simp only [go_sem, h1, hlt, hw, hj, hn]
    refine ⟨okD_of (by kernel_rfl), j + 1 + 1, ⟨⟨by omega, by omega, fun k hk => ?_⟩, by omega⟩, by rw [wrapI] <;> omega⟩
    by_cases hkj : k = j + 1
    ·subst hkj
     simp [adjP, hn]
    ·exact hp k (by omega)
  ·have h1 : ¬ (i : Int) < (M.length : Int) := by omega
   rw [forks_none fun j hj => hp j (by omega)]
   simp only [go_sem, h1, pfs, List.map_nil]
set_option maxHeartbeats 1000000 in
set_option maxRecDepth 100000 in
theorem firP_den (v : Vt) (s : Stm) (hs : bigS s) (hv : bigC v.x) : Den Tryz.prog 175 [.agg (sm s), .ptr 1000000 0] [.cells (vt7 v)] (.bool (firP v s)) [] [.cells (vt7 v)] := by
 refine den_of Tryz.mixed Tryz.func175 rfl Tryz.call175 Tryz.ntmps175 (congrArg Array.toList Tryz.results175) (by simp) (by kernel_rfl) [] (exts := [1000000]) rfl rfl ?_
 have c1 := cof_den s hs
 have hb : bigC (ofE s).1.x := okCt_big (voteE_ok (s := s))
 have hm : firP v s = (decide ((ofE s).2 = 0) && (sameC (ofE s).1.c v.c && decide (ordC (ofE s).1.x v.x = 0))) := rfl
 have hce : sameC (ofE s).1.c v.c = true ↔ ((ofE s).1.c.ep = v.c.ep ∧ (ofE s).1.c.kd = v.c.kd ∧ (ofE s).1.c.su = v.c.su ∧ (ofE s).1.c.ro = v.c.ro) := by
  generalize (ofE s).1.c = a
  cases a
  cases hv : v.c
  simp [sameC]
 have c2 := orderC_den (ofE s).1.x v.x hb.1 hb.2 hv.1 hv.2
 rw [sm_eq] at c1
 generalize firP v s = m at *
 generalize ofE s = W at *
 obtain ⟨w, e⟩ := W
 dsimp only at c1 c2 hm hce
 simp only [go_sem]
 refine call c1 [] ?_
 by_cases he : e = 0
 rotate_left
 ·rw [decide_eq_false he, Bool.false_and] at hm
  subst hm
  simp only [go_sem, he]
 rw [decide_eq_true he, Bool.true_and] at hm
 cases hsc : sameC w.c v.c
 ·rw [hsc, Bool.false_and] at hm
  subst hm
  have hn : ¬ (w.c.ep = v.c.ep ∧ w.c.kd = v.c.kd ∧ w.c.su = v.c.su ∧ w.c.ro = v.c.ro) := fun h => by rw [hce.2 h] at hsc; cases hsc
  simp only [go_sem, he, hn]
  done
 ·rw [hsc, Bool.true_and] at hm
  have hy := hce.1 hsc
  simp only [go_sem, he, hy]
  refine call c2 [] ?_
  simp only [go_sem]
  exact hm.symm
set_option maxHeartbeats 1000000 in
set_option maxRecDepth 100000 in
theorem fidx_den (v : Vt) (hv : bigC v.x) (l : List Stm) (hb : big l.length) (hs : ∀ s ∈ l, bigS s) : Den Tryz.prog 174 [.vs (l.map sm), .fn 175 [.ptr 1000000 0]] [.cells (vt7 v)] (.int .i64 (idxG (firP v) l)) [] [.cells (vt7 v)] := by
 refine den_of Tryz.mixed Tryz.func174 rfl Tryz.call174 Tryz.ntmps174 (congrArg Array.toList Tryz.results174) (by simp) (by kernel_rfl) [] (exts := [1000000]) rfl rfl ?_
 simp only [go_sem]
 refine loop Tryz.mixed 0 (fun i : Nat => [(0, .vs (l.map sm)), (1, .fn 175 [.ptr 1000000 0]), (7, .int .i64 l.length), (8, .int .i64 i)]) (fun i => [(1000000, .cells (vt7 v))]) (fun i => i ≤ l.length ∧ ∀ j, j < i → firP v (el l j) = false) (fun i => l.length - i) (by kernel_rfl) ?_ ?_ ?_
 ·simp
 ·simp only [go_sem]
 ·rintro i ⟨hi, hp⟩
  by_cases hi' : i < l.length
  ·have hlt : (i : Int) < (l.length : Int) := by omega
   have cD := firP_den v (el l i) (hs _ (el_mem hi')) hv
   rw [sm_eq, vt7_eq] at cD
   simp only [go_sem, hlt, hi']
   refine call cD [1000000] ?_
   cases e : firP v (el l i)
   ·simp only [go_sem]
    refine ⟨i + 1, ⟨⟨by omega, fun j hj => ?_⟩, by omega⟩, by rw [wrapI] <;> omega⟩
    by_cases hji : j = i
    ·rw [hji]; exact e
    ·exact hp j (by omega)
   ·simp only [go_sem]
    rw [idxG_at hi' e hp]
  ·have hf : ¬ ((i : Int) < (l.length : Int)) := by omega
   have : i = l.length := by omega
   subst this
   simp only [go_sem, hf]
   rw [idxG_none hp]
set_option maxHeartbeats 1000000 in
set_option maxRecDepth 100000 in
theorem firIn_den (M : List Stm) (v : Vt) (hl : big M.length) (hs : ∀ s ∈ M, bigS s) (hv : bigC v.x) (ha : M.any (firP v) = true) : Den Tryz.prog 131 [.vs (M.map sm), .agg (vt7 v)] [] (.agg (sm (firX M v))) [] [] := by
 refine den_of Tryz.mixed Tryz.func131 rfl Tryz.call131 Tryz.ntmps131 (congrArg Array.toList Tryz.results131) (by simp) (by kernel_rfl) [] (exts := []) rfl rfl ?_
 obtain ⟨i, h1, h2, _⟩ := idxG_of ha
 have c1 := fidx_den v hv M hl hs
 have hx : firX M v = el M i := by rw [firX, h1, Int.toNat_natCast]
 rw [h1, vt7_eq] at c1
 rw [hx]
 simp only [go_sem]
 refine call c1 [3] ?_
 simp only [go_sem, h2]
 done
theorem doub_succ {M : List Stm} {K : List Cs} {i : Nat} (h : i < K.length) (f : Cs → List (Stm × Stm)) : (K.take (i + 1)).flatMap f = (K.take i).flatMap f ++ f (el K i) := by
 rw [take_el h, List.flatMap_append]
 simp
theorem casesL_len (L : List Stm) : (casesL L).length ≤ L.length := by
 have h1 := kp_len sameC (srtK (rawC L L.length)) (srtK (rawC L L.length)).length
 have h2 : (srtK (rawC L L.length)).length = (rawC L L.length).length := List.length_mergeSort _
 have h3 : (rawC L L.length).length ≤ L.length := by
  unfold rawC
  rw [List.length_map]
  refine Nat.le_trans (List.length_filter_le _ _) ?_
  rw [List.length_take]; omega
 unfold casesL
 omega
def dbl (M : List Stm) (c : Cs) : List (Stm × Stm) := if 1 < (votesL M c).length then [(firX M (el (votesL M c) 0), firX M (el (votesL M c) 1))] else []
theorem doubX_eq (M : List Stm) : doubX M = (casesL M).flatMap (dbl M) := rfl
theorem dbl_len (M : List Stm) (K : List Cs) : ∀ i, ((K.take i).flatMap (dbl M)).length ≤ i
 | 0 => by simp
 | i + 1 => by
  have ih := dbl_len M K i
  by_cases h : i < K.length
  ·rw [doub_succ h (M := M), List.length_append]
   have : (dbl M (el K i)).length ≤ 1 := by
    unfold dbl
    split <;> simp
   omega
  ·rw [List.take_of_length_le (by omega)]
   rw [List.take_of_length_le (by omega)] at ih
   omega
set_option maxHeartbeats 1000000 in
set_option maxRecDepth 100000 in
theorem doubles_den (M : List Stm) (hl : M.length ≤ 1000000) (hs : ∀ s ∈ M, bigS s) : Den Tryz.prog 97 [.vs (M.map sm)] [] (.vs ((pfs 2 (doubX M)).map pf)) [] [] := by
 refine den_of Tryz.mixed Tryz.func97 rfl Tryz.call97 Tryz.ntmps97 (congrArg Array.toList Tryz.results97) (by simp) (by kernel_rfl) [] (exts := []) rfl rfl ?_
 have c1 := casesG_den M hl hs
 have hKl := casesL_len M
 have cv := fun c : Cs => votesG_den M c hl hs
 rw [doubX_eq]
 have hfa := fun (c : Cs) (v : Vt) (h : v ∈ votesL M c) => fir_any h
 have hvb := fun (c : Cs) (v : Vt) (h : v ∈ votesL M c) => okCt_big (votes_okX v h).1
 generalize casesL M = K at *
 simp only [go_sem]
 refine call c1 [] ?_
 simp only [go_sem]
 have hd0 : ∀ i, ((pfs 2 ((K.take i).flatMap (dbl M)))).length ≤ i := fun i => by rw [pfs, List.length_map]; exact dbl_len M K i
 refine promote 3 99 87 27 false ?_ ?_ ?_ (by omega)
 ·refine loop Tryz.mixed 0 (fun i : Nat => [(0, .vs (M.map sm)), (3, .os 99 (pfs 2 ((K.take i).flatMap (dbl M))).length), (8, .vs (K.map cs)), (9, .int .i64 K.length), (10, .int .i64 i)]) (fun i => [(99, .arr 87 27 false ((pfs 2 ((K.take i).flatMap (dbl M))).map pf))]) (fun i => i ≤ K.length) (fun i => K.length - i) (by kernel_rfl) (Nat.zero_le _) ?_ ?_
  ·simp only [go_sem, pfs, List.flatMap_nil, List.map_nil, List.length_nil]
   done
  ·intro i hi
   by_cases hlt : i < K.length
   ·have h1 : (i : Int) < (K.length : Int) := by omega
    have hsu := doub_succ (M := M) hlt (dbl M)
    have hdi := hd0 i
    have cv := cv (el K i)
    have hfa := hfa (el K i)
    have hvb := hvb (el K i)
    have hde : dbl M (el K i) = if 1 < (votesL M (el K i)).length then [(firX M (el (votesL M (el K i)) 0), firX M (el (votesL M (el K i)) 1))] else [] := rfl
    rw [cs_eq] at cv
    generalize votesL M (el K i) = V at *
    have hps : pfs 2 ((K.take (i + 1)).flatMap (dbl M)) = pfs 2 ((K.take i).flatMap (dbl M)) ++ pfs 2 (dbl M (el K i)) := by rw [hsu, pfs, List.map_append]; rfl
    generalize pfs 2 ((K.take i).flatMap (dbl M)) = o at *
    simp only [go_sem, h1, hlt]
    refine call cv [] ?_
    by_cases h2 : 1 < (V.length : Int)
    ·have hV1 : 1 < V.length := by omega
     have hV0 : 0 < V.length := by omega
     have hV0i : (0 : Int) < (V.length : Int) := by omega
     rw [if_pos hV1] at hde
     rw [hde] at hps
     have f0 := firIn_den M (el V 0) (by simp only [big]; omega) hs (hvb _ (el_mem hV0)) (hfa _ (el_mem hV0))
     have f1 := firIn_den M (el V 1) (by simp only [big]; omega) hs (hvb _ (el_mem hV1)) (hfa _ (el_mem hV1))
     rw [vt7_eq, sm_eq] at f0 f1
     generalize firX M (el V 0) = x0 at *
     generalize firX M (el V 1) = x1 at *
     simp only [go_sem, h2, hV1, hV0, hV0i]
     refine call f0 [] ?_
     simp only [go_sem, h2, hV1, hV0, hV0i]
     refine call f1 [] ?_
     simp only [go_sem]
     refine ⟨by omega, okD_of (by kernel_rfl), i + 1, ⟨by omega, by omega⟩, ?_⟩
     rw [hps]
     exact ⟨⟨by simp [pfs], by rw [wrapI] <;> omega⟩, by simp [pfs, pf_eq]⟩
    ·rw [if_neg (by omega)] at hde
     rw [hde] at hps
     simp only [go_sem, h2]
     refine ⟨i + 1, ⟨by omega, by omega⟩, ?_⟩
     rw [hps]
     simp only [go_sem, pfs, List.map_nil, List.append_nil]
     rw [wrapI] <;> omega
   ·have h1 : ¬ (i : Int) < (K.length : Int) := by omega
    have : i = K.length := by omega
    subst this
    simp only [go_sem, h1, List.take_length]
    done
 ·simp only [go_sem]
 ·simp only [go_sem]
end Go.Proofs.Am

/- Courts: rules, a term, forks, and votes on suspensions, with appeals. -/
namespace Go.Proofs.Am
open Go Go.RowKit
open Go.Proofs
def ctGo (l : List Int) (k : Cs) (x : Ct) (seats : List Int) (round : Int) (p : Nat) (o : List Stm) : Nat → Nat × List Stm
 | 0 => (p, o)
 | i + 1 => (dgo l (ctGo l k x seats round p o i).1 1, (ctGo l k x seats round p o i).2 ++ (if dnext l (ctGo l k x seats round p o i).1 9 = 8 then [] else [vt (el seats i) round k x]))
def ctRd (l : List Int) (r : Rl) (t : Tm) (c : Cs) (round : Int) (st : Nat × List Stm) : Nat × List Stm :=
 if (seatsR r t { c with ro := round }).2 ≠ 0 then st
 else ctGo l { c with ro := round } (mcont l st.1 { c with ro := round }).1 (seatsR r t { c with ro := round }).1 (10 + round) (mcont l st.1 { c with ro := round }).2 st.2 (seatsR r t { c with ro := round }).1.length
theorem ctGo_le {l : List Int} {k : Cs} {x : Ct} {seats : List Int} {round : Int} {p : Nat} {o : List Stm} (hp : p ≤ l.length) : ∀ i, (ctGo l k x seats round p o i).1 ≤ l.length
 | 0 => hp
 | i + 1 => dgo_le (ctGo_le hp i) 1
theorem ctGo_len {l : List Int} {k : Cs} {x : Ct} {seats : List Int} {round : Int} {p : Nat} {o : List Stm} : ∀ i, (ctGo l k x seats round p o i).2.length ≤ o.length + i
 | 0 => Nat.le_refl _
 | i + 1 => by
  have h := ctGo_len (l := l) (k := k) (x := x) (seats := seats) (round := round) (p := p) (o := o) i
  simp only [ctGo, List.length_append]
  split <;> simp <;> omega
theorem ctRd_le {l : List Int} {r : Rl} {t : Tm} {c : Cs} {round : Int} {st : Nat × List Stm} (hp : st.1 ≤ l.length) : (ctRd l r t c round st).1 ≤ l.length := by
 unfold ctRd
 split
 ·exact hp
 ·exact ctGo_le (mcont_le hp _) _
theorem ctRd_len {l : List Int} {r : Rl} {t : Tm} {c : Cs} {round : Int} {st : Nat × List Stm} : (ctRd l r t c round st).2.length ≤ st.2.length + 64 := by
 unfold ctRd
 have h0 := seatsR_len r t { c with ro := round }
 split
 ·omega
 ·have h2 := ctGo_len (l := l) (k := { c with ro := round }) (x := (mcont l st.1 { c with ro := round }).1) (seats := (seatsR r t { c with ro := round }).1) (round := 10 + round) (p := (mcont l st.1 { c with ro := round }).2) (o := st.2) (seatsR r t { c with ro := round }).1.length
  omega
def ctC (l : List Int) (p : Nat) : Cs := ⟨0, 3, dnext l p 8, 0⟩
def ctB (l : List Int) (st : Nat × List Stm) : List Stm := if dnext l (dgo l st.1 1) 2 = 1 then [stmt (ctC l st.1).su 30 0 appD, stmt (ctC l st.1).su 30 1 appD] else []
def ctA (l : List Int) (r : Rl) (t : Tm) (st : Nat × List Stm) : Nat → Nat × List Stm
 | 0 => (dgo l st.1 2, st.2 ++ ctB l st)
 | i + 1 => ctRd l r t (ctC l st.1) i (ctA l r t st i)
def ctI (l : List Int) (r : Rl) (t : Tm) (st : Nat × List Stm) : Nat × List Stm :=
 if dnext l (ctA l r t st 2).1 2 = 1 then (dgo l (ctA l r t st 2).1 2, (ctA l r t st 2).2 ++ [stmt (dnext l (dgo l (ctA l r t st 2).1 1) 8) 20 0 (apD (ctC l st.1))])
 else (dgo l (ctA l r t st 2).1 1, (ctA l r t st 2).2)
def ctT (l : List Int) (p : Nat) : Tm := { term0 (mrules l p) with ros := ([0, 1, 2, 3, 4, 5, 6] : List Int).take (3 + dnext l (dgo l p 8) 5).toNat }
def ctN (l : List Int) (p : Nat) : Nat := (1 + dnext l (dgo l p 9) 2).toNat
def ctS (l : List Int) (p : Nat) : Nat → Nat × List Stm
 | 0 => (dgo l p 10, [])
 | i + 1 => ctI l (mrules l p) (ctT l p) (ctS l p i)
def ctF (l : List Int) (p : Nat) : Nat × List Stm := ctS l p (ctN l p)
theorem ctA_le {l : List Int} {r : Rl} {t : Tm} {st : Nat × List Stm} (hp : st.1 ≤ l.length) : ∀ i, (ctA l r t st i).1 ≤ l.length
 | 0 => dgo_le hp _
 | i + 1 => ctRd_le (ctA_le hp i)
theorem ctB_len (l : List Int) (st : Nat × List Stm) : (ctB l st).length ≤ 2 := by
 unfold ctB
 split <;> simp
theorem ctA_len {l : List Int} {r : Rl} {t : Tm} {st : Nat × List Stm} : ∀ i, (ctA l r t st i).2.length ≤ st.2.length + 64 * i + 2
 | 0 => by
  have h := ctB_len l st
  simp only [ctA, List.length_append]; omega
 | i + 1 => by
  have h1 := ctA_len (l := l) (r := r) (t := t) (st := st) i
  have h2 := ctRd_len (l := l) (r := r) (t := t) (c := ctC l st.1) (round := i) (st := ctA l r t st i)
  simp only [ctA]; omega
theorem ctI_le {l : List Int} {r : Rl} {t : Tm} {st : Nat × List Stm} (hp : st.1 ≤ l.length) : (ctI l r t st).1 ≤ l.length := by
 unfold ctI
 split <;> exact dgo_le (ctA_le hp 2) _
theorem ctI_len {l : List Int} {r : Rl} {t : Tm} {st : Nat × List Stm} : (ctI l r t st).2.length ≤ st.2.length + 131 := by
 have h := ctA_len (l := l) (r := r) (t := t) (st := st) 2
 unfold ctI
 split
 ·simp only [List.length_append, List.length_singleton]; omega
 ·simp only; omega
theorem ctS_le {l : List Int} {p : Nat} (hp : p ≤ l.length) : ∀ i, (ctS l p i).1 ≤ l.length
 | 0 => dgo_le hp _
 | i + 1 => ctI_le (ctS_le hp i)
theorem ctS_len {l : List Int} {p : Nat} : ∀ i, (ctS l p i).2.length ≤ 131 * i
 | 0 => by simp [ctS]
 | i + 1 => by
  have h1 := ctS_len (l := l) (p := p) i
  have h2 := ctI_len (l := l) (r := mrules l p) (t := ctT l p) (st := ctS l p i)
  simp only [ctS]; omega
theorem ctN_lt {l : List Int} {p : Nat} : ctN l p ≤ 2 := by
 have b := dnext_lt (l := l) (p := dgo l p 9) (n := 2) (by omega)
 unfold ctN
 omega
theorem ros7c_ok {n : Nat} (h1 : 1 ≤ n) : rosV (([0, 1, 2, 3, 4, 5, 6] : List Int).take n) = true := by
 refine rosV_of (List.Pairwise.sublist (List.take_sublist _ _) (by decide)) (fun x hx => ?_) (fun h => ?_) ?_
 ·have := List.mem_of_mem_take hx
  simp at this
  omega
 ·have h2 : (([0, 1, 2, 3, 4, 5, 6] : List Int).take n).length = 0 := by rw [h]; rfl
  rw [List.length_take] at h2
  simp at h2
  omega
 ·rw [List.length_take]
  simp
  omega
theorem ctT_ok {l : List Int} {p : Nat} : OkT (ctT l p) := by
 have h := term0_ok (mrules_ok l p)
 have b1 := dnext_lt (l := l) (p := dgo l p 8) (n := 5) (by omega)
 exact ⟨h.lo, h.hi, ros7c_ok (by omega), h.bea⟩
theorem ctT_len {l : List Int} {p : Nat} : 3 ≤ (ctT l p).ros.length ∧ (ctT l p).ros.length ≤ 7 := by
 have b1 := dnext_lt (l := l) (p := dgo l p 8) (n := 5) (by omega)
 show 3 ≤ (([0, 1, 2, 3, 4, 5, 6] : List Int).take _).length ∧ (([0, 1, 2, 3, 4, 5, 6] : List Int).take _).length ≤ 7
 rw [List.length_take]
 show 3 ≤ min _ 7 ∧ min _ 7 ≤ 7
 omega
set_option maxHeartbeats 1000000 in
set_option maxRecDepth 100000 in
theorem court_den (l : List Int) (p : Nat) (hl : big l.length) (hp : p ≤ l.length) : Den Tryz.prog 10 [.ptr 1000000 0] [dbox l p] (.tup [.agg (rl (mrules l p)), .agg (tm (ctT l p)), .os 0 (ctF l p).2.length]) [.arr 60 13 false ((ctF l p).2.map sm)] [dbox l (ctF l p).1] := by
 refine den_of Tryz.mixed Tryz.func10 rfl Tryz.call10 Tryz.ntmps10 (congrArg Array.toList Tryz.results10) (by simp) (by kernel_rfl) [120] (exts := [1000000]) rfl rfl ?_
 obtain ⟨z0, z1, z2⟩ := mrules_sz l p
 have hp8 := dgo_le hp 8
 have hp9 := dgo_le hp 9
 have c1 := mrules_den l p hl hp
 have c2 := at0_den (mrules l p) (mrules_ok l p) (by omega) (by omega) (by omega)
 have b1 := dnext_lt (l := l) (p := dgo l p 8) (n := 5) (by omega)
 have b2 := dnext_lt (l := l) (p := dgo l p 9) (n := 2) (by omega)
 have w1 : IntKind.i64.wrap (3 + dnext l (dgo l p 8) 5) = 3 + dnext l (dgo l p 8) 5 := by rw [wrapI] <;> omega
 have hT : tm (ctT l p) = [.int .i64 0, .vs ((([0, 1, 2, 3, 4, 5, 6] : List Int).take (3 + dnext l (dgo l p 8) 5).toNat).map i1), .str (firstV (mrules l p)), .bool false, .vs [], .vs []] := rfl
 have ht0 : tm (term0 (mrules l p)) = [.int .i64 0, .vs ((mrules l p).gen.map i1), .str (firstV (mrules l p)), .bool false, .vs [], .vs []] := rfl
 rw [ht0, rl_eq] at c2
 rw [rl_eq] at c1
 rw [hT, rl_eq]
 have htk : ∀ k : Nat, List.take k [[PV.int IntKind.i64 0], [PV.int IntKind.i64 1], [PV.int IntKind.i64 2], [PV.int IntKind.i64 3], [PV.int IntKind.i64 4], [PV.int IntKind.i64 5], [PV.int IntKind.i64 6]] = List.map i1 (([0, 1, 2, 3, 4, 5, 6] : List Int).take k) := fun k => by
  rw [List.map_take]; rfl
 simp only [go_sem]
 refine call c1 [1000000] ?_
 simp only [go_sem]
 refine call c2 [] ?_
 simp only [go_sem]
 refine call (next_den l (dgo l p 8) 5 hl hp8 (by omega)) [1000000] ?_
 simp only [go_sem, w1, dgo_succ]
 refine ⟨⟨by omega, by omega⟩, ?_⟩
 have w2 : IntKind.i64.wrap (1 + dnext l (dgo l p 9) 2) = 1 + dnext l (dgo l p 9) 2 := by rw [wrapI] <;> omega
 refine call (next_den l (dgo l p 9) 2 hl hp9 (by omega)) [1000000] ?_
 simp only [go_sem, dgo_succ, htk, w2]
 have hn : 1 + dnext l (dgo l p 9) 2 = (ctN l p : Int) := by unfold ctN; omega
 have hnl := ctN_lt (l := l) (p := p)
 have hR2 : rl (mrules l p) = [.vs ((mrules l p).gen.map i1), .vs ((mrules l p).pol.se.map i1), .vs ((mrules l p).pol.ta.map i1), .int .i64 (mrules l p).pol.lv, .int .i64 (mrules l p).seats, .int .i64 (mrules l p).span, .int .i64 (mrules l p).quota] := rfl
 clear c1 c2 ht0 htk w1 w2 b1 b2
 rw [hn, ← hR2, ← hT]
 have hS0 : ctS l p 0 = (dgo l p 10, []) := rfl
 have hS1 : ∀ i : Nat, ctS l p (i + 1) = ctI l (mrules l p) (ctT l p) (ctS l p i) := fun i => rfl
 have hF : ctF l p = ctS l p (ctN l p) := rfl
 have hle := ctS_le (l := l) (p := p) hp
 have hlen := ctS_len (l := l) (p := p)
 have hTl := (ctT_len (l := l) (p := p)).2
 have sT2 := (ctT_ok (l := l) (p := p)).bea
 clear hR2 hT
 generalize mrules l p = R at *
 generalize ctT l p = T at *
 generalize ctF l p = Fm at *
 generalize ctS l p = Sf at *
 generalize ctN l p = n at *
 have sd3 : ∀ (C : Cs) (i : Nat), Den Tryz.prog 25 [.agg (rl R), .agg (tm T), .agg (cs { C with ro := (i : Int) })] [] (.tup [.vs ((seatsR R T { C with ro := (i : Int) }).1.map i1), .int .i64 (seatsR R T { C with ro := (i : Int) }).2]) [] [] :=
  fun C i => seats_den R T _ (by simp only [big]; omega) (by simp only [big]; omega) (by simp only [big]; omega) (by simp only [big]; omega) (fun _ => sT2)
 refine promote 8 120 60 13 false ?_ ?_ ?_ (by omega)
 ·refine loop Tryz.mixed 0 (fun i : Nat => [(0, .ptr 1000000 0), (2, .ptr 2 0), (3, .ptr 3 0), (5, .ptr 5 0), (6, .ptr 6 0), (8, .os 120 (Sf i).2.length), (9, .int .i64 ((n - i : Nat) : Int))]) (fun i => [(1000000, dbox l (Sf i).1), (2, .cells [.nils, .nils, .nils, .int .i64 0, .int .i64 0, .int .i64 0, .int .i64 0]), (3, .cells [.int .i64 0, .nils, .str [], .bool false, .nils, .nils]), (5, .cells (rl R)), (6, .cells (tm T)), (120, .arr 60 13 false ((Sf i).2.map sm))]) (fun i => i ≤ n) (fun i => n - i) (by kernel_rfl) (Nat.zero_le _) ?_ ?_
  ·rw [hS0]
   simp only [go_sem, List.map_nil, List.length_nil]
   omega
  ·intro i hi
   by_cases h : i < n
   ·have hlt : (0 : Int) < ((n - i : Nat) : Int) := by omega
    have hst := hS1 i
    have hp := hle i
    have hln := hlen i
    generalize Sf i = S at *
    obtain ⟨q, o⟩ := S
    dsimp only at hp hln
    have hq1 := dgo_le hp 1
    have hq2 := dgo_le hp 2
    have e0 : dpos l q = dgo l q 1 := rfl
    have hA0 : ctA l R T (q, o) 0 = (dgo l q 2, o ++ ctB l (q, o)) := rfl
    have hA1 : ∀ j : Nat, ctA l R T (q, o) (j + 1) = ctRd l R T (ctC l q) j (ctA l R T (q, o) j) := fun j => rfl
    have hAe := ctA_le (l := l) (r := R) (t := T) (st := (q, o)) hp
    have hAl := ctA_len (l := l) (r := R) (t := T) (st := (q, o))
    have hB : ctB l (q, o) = if dnext l (dgo l q 1) 2 = 1 then [stmt (ctC l q).su 30 0 appD, stmt (ctC l q).su 30 1 appD] else [] := rfl
    rw [ctI] at hst
    dsimp only at hAl hAe hst
    simp only [go_sem, hlt]
    refine call (next_den l q 8 hl hp (by omega)) [1000000] ?_
    simp only [go_sem, e0]
    refine call (one_den l (dgo l q 1) 2 hl hq1 (by omega) (by omega)) [1000000] ?_
    have e2 : dpos l (dgo l q 1) = dgo l q 2 := rfl
    rw [show dnext l q 8 = (ctC l q).su from rfl]
    have hCe : (ctC l q).ep = 0 := rfl
    have hCk : (ctC l q).kd = 3 := rfl
    have c7 := stmt_den (ctC l q).su 30 0 appD (by simp [appD]) rfl
    have c8 := stmt_den (ctC l q).su 30 1 appD (by simp [appD]) rfl
    generalize ctC l q = C at *
    generalize ctA l R T (q, o) = Af at *
    generalize ctB l (q, o) = Bo at *
    cases hb : decide (dnext l (dgo l q 1) 2 = 2 - 1)
    case' false =>
     have hcc : ¬ dnext l (dgo l q 1) 2 = 1 := of_decide_eq_false hb
     rw [if_neg hcc] at hB
     subst hB
     rw [List.append_nil] at hA0
     clear hb hcc c7 c8
     simp only [go_sem, e2]
    case' true =>
     have hcc : dnext l (dgo l q 1) 2 = 1 := of_decide_eq_true hb
     rw [if_pos hcc] at hB
     subst hB
     clear hb hcc
     generalize stmt C.su 30 0 appD = v0 at *
     generalize stmt C.su 30 1 appD = v1 at *
     rw [dr_eq] at c7 c8
     simp only [go_sem, e2]
     refine call c7 [] ?_
     simp only [go_sem]
     refine ⟨⟨rfl, rfl, rfl, rfl, rfl, rfl⟩, call c8 [] ?_⟩
     simp only [go_sem]
     refine ⟨⟨rfl, rfl, rfl, rfl, rfl, rfl⟩, by omega, okD_of (by kernel_rfl), ?_⟩
    all_goals
     refine loop Tryz.mixed 0 (fun j : Nat => [(0, .ptr 1000000 0), (2, .ptr 2 0), (3, .ptr 3 0), (5, .ptr 5 0), (6, .ptr 6 0), (8, .os 120 (Af j).2.length), (9, .int .i64 ((n - i : Nat) : Int)), (10, .ptr 10 0), (11, .int .i64 j)]) (fun j => [(1000000, dbox l (Af j).1), (2, .cells [.nils, .nils, .nils, .int .i64 0, .int .i64 0, .int .i64 0, .int .i64 0]), (3, .cells [.int .i64 0, .nils, .str [], .bool false, .nils, .nils]), (5, .cells (rl R)), (6, .cells (tm T)), (10, .cells [.int .i64 0, .int .i64 C.kd, .int .i64 C.su, .int .i64 ((j - 1 : Nat) : Int)]), (120, .arr 60 13 false ((Af j).2.map sm))]) (fun j => j ≤ 2) (fun j => 2 - j) (by kernel_rfl) (Nat.zero_le _) ?_ ?_
     ·rw [hA0]
      simp only [go_sem, List.map_append, List.map_cons, List.map_nil]
      exact hCk.symm
     ·intro j hj
      by_cases hj2 : j < 2
      ·have hjlt : (j : Int) < 2 := by omega
       have hst2 := hA1 j
       have hp2 := hAe j
       have hln2 := hAl j
       generalize Af j = S2 at *
       obtain ⟨q2, o2⟩ := S2
       dsimp only at hp2 hln2
       have hK : cs { C with ro := (j : Int) } = [.int .i64 0, .int .i64 C.kd, .int .i64 C.su, .int .i64 j] := by rw [cs_eq, hCe]
       have c3 := sd3 C j
       have c4 := content_den l q2 { C with ro := (j : Int) } hl hp2
       have hxo := mcont_ok l q2 { C with ro := (j : Int) }
       have hyo := mcont_le hp2 { C with ro := (j : Int) }
       have sl := seatsR_len R T { C with ro := (j : Int) }
       rw [ctRd] at hst2
       have hj1 : ((j + 1 - 1 : Nat) : Int) = (j : Int) := by omega
       generalize hKK : ({ C with ro := (j : Int) } : Cs) = K at *
       generalize seatsR R T K = SS at *
       obtain ⟨s, k⟩ := SS
       dsimp only at c3 hst2 sl
       generalize mcont l q2 K = X at *
       obtain ⟨x, q3⟩ := X
       dsimp only at c4 hst2 hxo hyo
       rw [rl_eq, tm_eq, hK] at c3
       rw [hK, ct_eq] at c4
       simp only [go_sem, hjlt]
       refine call c3 [] ?_
       by_cases hk : k = 0
       rotate_left
       ·rw [if_pos hk] at hst2
        simp only [go_sem, hk]
        refine ⟨j + 1, ⟨by omega, by omega⟩, ?_⟩
        rw [hst2]
        exact ⟨⟨rfl, by rw [wrapI] <;> omega⟩, rfl, hj1.symm, rfl⟩
       ·rw [if_neg (by simpa using hk)] at hst2
        have cv := fun au nu => vote_den au nu K x hxo
        rw [hK, ct_eq] at cv
        have hG0 : ctGo l K x s (10 + (j : Int)) q3 o2 0 = (q3, o2) := rfl
        have hG1 : ∀ m : Nat, ctGo l K x s (10 + (j : Int)) q3 o2 (m + 1) = (dgo l (ctGo l K x s (10 + (j : Int)) q3 o2 m).1 1, (ctGo l K x s (10 + (j : Int)) q3 o2 m).2 ++ (if dnext l (ctGo l K x s (10 + (j : Int)) q3 o2 m).1 9 = 8 then [] else [vt (el s m) (10 + (j : Int)) K x])) := fun m => rfl
        have hGe := ctGo_le (l := l) (k := K) (x := x) (seats := s) (round := 10 + (j : Int)) (p := q3) (o := o2) hyo
        have hGl := ctGo_len (l := l) (k := K) (x := x) (seats := s) (round := 10 + (j : Int)) (p := q3) (o := o2)
        generalize ctGo l K x s (10 + (j : Int)) q3 o2 = G at *
        simp only [go_sem, hk]
        refine call c4 [1000000] ?_
        simp only [go_sem]
        refine loop Tryz.mixed 0 (fun m : Nat => [(0, .ptr 1000000 0), (2, .ptr 2 0), (3, .ptr 3 0), (5, .ptr 5 0), (6, .ptr 6 0), (8, .os 120 (G m).2.length), (9, .int .i64 ((n - i : Nat) : Int)), (10, .ptr 10 0), (11, .int .i64 j), (12, .vs (s.map i1)), (14, .ptr 14 0), (15, .int .i64 m)]) (fun m => [(1000000, dbox l (G m).1), (2, .cells [.nils, .nils, .nils, .int .i64 0, .int .i64 0, .int .i64 0, .int .i64 0]), (3, .cells [.int .i64 0, .nils, .str [], .bool false, .nils, .nils]), (5, .cells (rl R)), (6, .cells (tm T)), (10, .cells [.int .i64 0, .int .i64 C.kd, .int .i64 C.su, .int .i64 j]), (14, .cells (ct x)), (120, .arr 60 13 false ((G m).2.map sm))]) (fun m => m ≤ s.length) (fun m => s.length - m) (by kernel_rfl) (Nat.zero_le _) ?_ ?_
        ·rw [hG0]
         simp only [go_sem]
        ·intro m hm
         by_cases hm' : m < s.length
         ·have hmlt : (m : Int) < (s.length : Int) := by omega
          have hstep := hG1 m
          have hqe := hGe m
          have hql := hGl m
          generalize G m = g at *
          obtain ⟨q4, o4⟩ := g
          dsimp only at hqe hql hstep
          simp only [go_sem, hmlt]
          refine call (one_den l q4 9 hl hqe (by omega) (by omega)) [1000000] ?_
          have e1 : dpos l q4 = dgo l q4 1 := rfl
          cases hb : decide (dnext l q4 9 = 9 - 1)
          ·have hcc : ¬ dnext l q4 9 = 8 := of_decide_eq_false hb
           rw [if_neg hcc] at hstep
           have cv := cv (el s m) (10 + (j : Int))
           generalize vt (el s m) (10 + (j : Int)) K x = v at *
           have w10 : IntKind.i64.wrap (10 + (j : Int)) = 10 + (j : Int) := by rw [wrapI] <;> omega
           simp only [go_sem, e1, hm', w10]
           refine call cv [] ?_
           simp only [go_sem]
           refine ⟨by omega, okD_of (by kernel_rfl), m + 1, ⟨by omega, by omega⟩, ?_⟩
           rw [hstep]
           exact ⟨⟨by simp, by rw [wrapI] <;> omega⟩, rfl, by rw [List.map_append]; rfl⟩
          ·have hcc : dnext l q4 9 = 8 := of_decide_eq_true hb
           rw [if_pos hcc, List.append_nil] at hstep
           simp only [go_sem, e1]
           refine ⟨m + 1, ⟨by omega, by omega⟩, ?_⟩
           rw [hstep]
           exact ⟨⟨rfl, by rw [wrapI] <;> omega⟩, rfl, rfl⟩
         ·have hmm : m = s.length := by omega
          subst hmm
          have hmlt : ¬ (s.length : Int) < (s.length : Int) := by omega
          simp only [go_sem, hmlt]
          refine ⟨j + 1, ⟨by omega, by omega⟩, ?_⟩
          rw [hst2]
          exact ⟨⟨rfl, by rw [wrapI] <;> omega⟩, rfl, hj1.symm, rfl⟩
      ·have : j = 2 := by omega
       subst this
       have hjlt : ¬ ((2 : Nat) : Int) < 2 := by omega
       have hp2 := hAe 2
       have hln2 := hAl 2
       generalize Af 2 = S2 at *
       obtain ⟨q2, o2⟩ := S2
       dsimp only at hp2 hln2 hst
       simp only [go_sem, hjlt]
       refine call (one_den l q2 2 hl hp2 (by omega) (by omega)) [1000000] ?_
       have e1 : dpos l q2 = dgo l q2 1 := rfl
       have hq3 := dgo_le hp2 1
       have hsb : IntKind.i64.wrap (((n - i : Nat) : Int) - 1) = ((n - (i + 1) : Nat) : Int) := by rw [wrapI] <;> omega
       cases hb : decide (dnext l q2 2 = 2 - 1)
       ·have hcc : ¬ dnext l q2 2 = 1 := of_decide_eq_false hb
        rw [if_neg hcc] at hst
        simp only [go_sem, e1]
        refine ⟨i + 1, ⟨by omega, by omega⟩, ?_⟩
        rw [hst]
        exact ⟨⟨rfl, hsb⟩, rfl, rfl⟩
       ·have hcc : dnext l q2 2 = 1 := of_decide_eq_true hb
        rw [if_pos hcc] at hst
        simp only [go_sem, e1]
        refine call (next_den l (dgo l q2 1) 8 hl hq3 (by omega)) [1000000] ?_
        have c6 := stmt2_den (dnext l (dgo l q2 1) 8) 20 0 (apD C) (apD_ok C)
        rw [dr_eq] at c6
        simp only [apD, hCe] at c6 hst
        generalize stmt (dnext l (dgo l q2 1) 8) 20 0 ⟨15, 0, C.kd, C.su, [], []⟩ = v at *
        simp only [go_sem, dgo_succ]
        refine call c6 [] ?_
        simp only [go_sem]
        refine ⟨by omega, okD_of (by kernel_rfl), i + 1, ⟨by omega, by omega⟩, ?_⟩
        rw [hst]
        exact ⟨⟨by simp, hsb⟩, rfl, by rw [List.map_append]; rfl⟩
   ·have : i = n := by omega
    subst this
    have hlt : ¬ (0 : Int) < ((i - i : Nat) : Int) := by omega
    rw [← hF]
    simp only [go_sem, hlt]
    exact okD_of (by kernel_rfl)
 ·simp only [go_sem]
 ·simp only [go_sem]
end Go.Proofs.Am

/- Who is suspended: the walk. -/
namespace Go.Proofs.Am
open Go Go.RowKit
open Go.Proofs
def mpS (r seats : List Int) : List (PV × PV) := r.map fun k => (.int .i64 k, .bool (decide (k ∈ seats)))
theorem mpS_noH (r seats : List Int) : ∀ e ∈ mpS r seats, noH e.2 := fun e he => by
 obtain ⟨k, _, rfl⟩ := List.mem_map.1 he
 exact .bool _
theorem hin_mpS (d : List Nat) : ∀ r seats : List Int, hinM d (mpS r seats) = true
 | [], _ => rfl
 | a :: r, seats => by
  have ih := hin_mpS d r seats
  unfold mpS at ih ⊢
  simp only [List.map_cons, hinM, ih, Bool.and_true]
  rfl
theorem BoxH_mpS (r seats : List Int) : BoxH (.mp (mpS r seats)) = True := eq_true (mpS_noH r seats)
attribute [go_sem] hin_mpS BoxH_mpS
theorem mpS_find (k : Int) : ∀ (r seats : List Int) (i : Nat), mfind (.int .i64 k) (mpS r seats) i = some ((r.findIdx? fun x => decide (x = k)).map (· + i))
 | [], _, _ => by simp [mpS, mfind]
 | a :: r, seats, i => by
  have ih := mpS_find k r seats (i + 1)
  unfold mpS at ih ⊢
  simp only [List.map_cons, mfind, keyEq, List.findIdx?_cons]
  by_cases h : a = k
  ·subst h
   simp
  ·have h' : ¬ k = a := fun e => h e.symm
   simp only [h, h', decide_false]
   rw [ih]
   cases List.findIdx? (fun x => decide (x = k)) r <;> simp [Nat.add_comm, Nat.add_left_comm]
theorem mpS_look (k : Int) (r seats : List Int) : (k ∉ r ∧ mfind (.int .i64 k) (mpS r seats) 0 = some none) ∨ ∃ i, mfind (.int .i64 k) (mpS r seats) 0 = some (some i) ∧ (mpS r seats).getD i (.undef, .undef) = (.int .i64 k, .bool (decide (k ∈ seats))) ∧ k ∈ r := by
 have hf := mpS_find k r seats 0
 cases hi : r.findIdx? (fun x => decide (x = k)) with
 | none =>
  rw [hi] at hf
  refine .inl ⟨fun h => ?_, hf⟩
  rw [List.findIdx?_eq_none_iff] at hi
  have := hi k h
  simp at this
 | some i =>
  rw [hi] at hf
  obtain ⟨h1, h2, _⟩ := List.findIdx?_eq_some_iff_getElem.1 hi
  have h3 : r[i] = k := of_decide_eq_true h2
  have h5 : (mpS r seats)[i]? = some (.int .i64 k, .bool (decide (k ∈ seats))) := by
   unfold mpS
   rw [List.getElem?_map, List.getElem?_eq_getElem h1, Option.map_some, h3]
  refine .inr ⟨i, hf, ?_, List.mem_of_getElem? (by rw [List.getElem?_eq_getElem h1, h3] : r[i]? = some k)⟩
  exact (List.getD_eq_getElem?_getD).trans (congrArg (fun o => Option.getD o _) h5)
theorem susp1_den (k : Int) (r seats : List Int) (hr : ∀ k ∈ seats, k ∈ r) : Den Tryz.prog 38 [.int .i64 k, .ptr 1000000 0] [.cells [.mh 1000001], .mp (mpS r seats)] (.bool (!decide (k ∈ seats))) [] [.cells [.mh 1000001], .mp (mpS r seats)] := by
 rcases mpS_look k r seats with ⟨hn0, hf⟩ | ⟨i, hf, h4, _⟩
 ·have hn : k ∉ seats := fun h => hn0 (hr k h)
  refine den_ofM Tryz.mixed Tryz.func38 rfl Tryz.call38 Tryz.ntmps38 (congrArg Array.toList Tryz.results38) (by simp) (by kernel_rfl) [] (mpS_noH r seats) [] 1000000 1000001 [] (exts := [1000000, 1000001]) rfl rfl rfl rfl ?_
  simp only [go_sem, hf, mres, hn]
  done
 ·refine den_ofM Tryz.mixed Tryz.func38 rfl Tryz.call38 Tryz.ntmps38 (congrArg Array.toList Tryz.results38) (by simp) (by kernel_rfl) [] (mpS_noH r seats) [] 1000000 1000001 [] (exts := [1000000, 1000001]) rfl rfl rfl rfl ?_
  simp only [go_sem, hf, mres, h4]
  done
theorem indexNZ_den (l r seats : List Int) (hl : big l.length) (hr : ∀ k ∈ seats, k ∈ r) (h : ∀ k ∈ l, k ∈ seats) :
  Den Tryz.prog 57 [.os 1000000 l.length, .fn 38 [.ptr 1000001 0]] [.arr 3 1 false (l.map i1), .cells [.mh 1000002], .mp (mpS r seats)] (.int .i64 (-1)) [] [.arr 3 1 false (l.map i1), .cells [.mh 1000002], .mp (mpS r seats)] := by
 refine den_ofM Tryz.mixed Tryz.func57 rfl Tryz.call57 Tryz.ntmps57 (congrArg Array.toList Tryz.results57) (by simp) (by kernel_rfl) [] (mpS_noH r seats) [1000000] 1000001 1000002 [.arr 3 1 false (l.map i1)] (exts := [1000000, 1000001, 1000002]) rfl rfl rfl rfl ?_
 simp only [go_sem]
 refine loop Tryz.mixed 0 (fun i : Nat => [(0, .os 1000000 l.length), (1, .fn 38 [.ptr 1000001 0]), (7, .int .i64 l.length), (8, .int .i64 i)]) (fun _ => [(1000000, .arr 3 1 false (l.map i1)), (1000001, .cells [.mh 1000002]), (1000002, .mp (mpS r seats))]) (fun i => i ≤ l.length) (fun i => l.length - i) (by kernel_rfl) (Nat.zero_le _) ?_ ?_
 ·simp only [go_sem]
 ·intro i hi
  by_cases hlt : i < l.length
  ·have h1 : (i : Int) < (l.length : Int) := by omega
   have c1 := susp1_den (el l i) r seats hr
   rw [decide_eq_true (h _ (el_mem hlt))] at c1
   simp only [go_sem, h1, hlt]
   refine callM c1 (mpS_noH r seats) [] [] [] 1000001 1000002 [1000001, 1000002] rfl rfl rfl ?_
   simp only [go_sem]
   exact ⟨i + 1, ⟨by omega, by omega⟩, by rw [wrapI] <;> omega⟩
  ·have h1 : ¬ (i : Int) < (l.length : Int) := by omega
   simp only [go_sem, h1]
theorem indexSZ_den (l r seats : List Int) (hl : big l.length) (hr : ∀ k ∈ seats, k ∈ r) {k0 : Nat} (h0 : k0 < l.length) (h1 : el l k0 ∉ seats) (h : ∀ j, j < k0 → el l j ∈ seats) :
  Den Tryz.prog 57 [.os 1000000 l.length, .fn 38 [.ptr 1000001 0]] [.arr 3 1 false (l.map i1), .cells [.mh 1000002], .mp (mpS r seats)] (.int .i64 k0) [] [.arr 3 1 false (l.map i1), .cells [.mh 1000002], .mp (mpS r seats)] := by
 refine den_ofM Tryz.mixed Tryz.func57 rfl Tryz.call57 Tryz.ntmps57 (congrArg Array.toList Tryz.results57) (by simp) (by kernel_rfl) [] (mpS_noH r seats) [1000000] 1000001 1000002 [.arr 3 1 false (l.map i1)] (exts := [1000000, 1000001, 1000002]) rfl rfl rfl rfl ?_
 simp only [go_sem]
 refine loop Tryz.mixed 0 (fun i : Nat => [(0, .os 1000000 l.length), (1, .fn 38 [.ptr 1000001 0]), (7, .int .i64 l.length), (8, .int .i64 i)]) (fun _ => [(1000000, .arr 3 1 false (l.map i1)), (1000001, .cells [.mh 1000002]), (1000002, .mp (mpS r seats))]) (fun i => i ≤ k0) (fun i => l.length - i) (by kernel_rfl) (Nat.zero_le _) ?_ ?_
 ·simp only [go_sem]
 ·intro i hi
  have hlt : i < l.length := by omega
  have g1 : (i : Int) < (l.length : Int) := by omega
  have c1 := susp1_den (el l i) r seats hr
  by_cases hk : i < k0
  ·rw [decide_eq_true (h _ hk)] at c1
   simp only [go_sem, g1, hlt]
   refine callM c1 (mpS_noH r seats) [] [] [] 1000001 1000002 [1000001, 1000002] rfl rfl rfl ?_
   simp only [go_sem]
   exact ⟨i + 1, ⟨by omega, by omega⟩, by rw [wrapI] <;> omega⟩
  ·obtain rfl : i = k0 := by omega
   rw [decide_eq_false h1] at c1
   simp only [go_sem, g1, hlt]
   refine callM c1 (mpS_noH r seats) [] [] [] 1000001 1000002 [1000001, 1000002] rfl rfl rfl ?_
   simp only [go_sem]
theorem deleteSZ_den (l r seats : List Int) (hl : big l.length) (hr : ∀ k ∈ seats, k ∈ r) {k0 : Nat} (h0 : k0 < l.length) (h1 : el l k0 ∉ seats) (h : ∀ j, j < k0 → el l j ∈ seats) :
  Den Tryz.prog 36 [.os 1000000 l.length, .fn 38 [.ptr 1000001 0]] [.arr 3 1 false (l.map i1), .cells [.mh 1000002], .mp (mpS r seats)] (.vs ((inS seats l l.length).map i1)) [] [.arr 3 1 true ((inS seats l l.length).map i1 ++ List.replicate (l.length - (inS seats l l.length).length) zI), .cells [.mh 1000002], .mp (mpS r seats)] := by
 refine den_ofM Tryz.mixed Tryz.func36 rfl Tryz.call36 Tryz.ntmps36 (congrArg Array.toList Tryz.results36) (by simp) (by kernel_rfl) [] (mpS_noH r seats) [1000000] 1000001 1000002 [.arr 3 1 true ((inS seats l l.length).map i1 ++ List.replicate (l.length - (inS seats l l.length).length) zI)] (exts := [1000000, 1000001, 1000002]) rfl rfl rfl rfl ?_
 have ci := indexSZ_den l r seats hl hr h0 h1 h
 have hm1 : ¬ (k0 : Int) = -1 := by omega
 have hw0 : IntKind.i64.wrap ((k0 : Int) + 1) = ((k0 + 1 : Nat) : Int) := by rw [wrapI] <;> omega
 have hk0 : inS seats l (k0 + 1) = l.take k0 := by
  rw [inS_succ h0, decide_eq_false h1, if_neg (by simp), List.append_nil, inS_all h (by omega)]
 have hk1 : (l.take k0).length = k0 := by rw [List.length_take]; omega
 simp only [go_sem]
 refine callM ci (mpS_noH r seats) [.arr 3 1 false (l.map i1)] [.arr 3 1 false (l.map i1)] [1000000] 1000001 1000002 [1000000, 1000001, 1000002] rfl rfl rfl ?_
 simp only [go_sem, hm1, hw0]
 refine ⟨⟨rfl, Nat.le_refl _⟩, ?_⟩
 refine loopC Tryz.mixed (k0 + 1, l) (fun s : Nat × List Int => [(0, .os 1000000 l.length), (1, .fn 38 [.ptr 1000001 0]), (5, .int .i64 (inS seats l s.1).length), (6, .int .i64 s.1)]) (fun s => [(1000000, .arh 3 1 (s.2.map i1)), (1000001, .cells [.mh 1000002]), (1000002, .mp (mpS r seats))])
  (fun s => k0 < s.1 ∧ s.1 ≤ l.length ∧ s.2.length = l.length ∧ (inS seats l s.1).length < s.1 ∧ s.2.take (inS seats l s.1).length = inS seats l s.1 ∧ ∀ a, (inS seats l s.1).length ≤ a → el s.2 a = el l a) (fun s => l.length - s.1) (by kernel_rfl) ⟨Nat.lt_succ_self _, h0, rfl, by rw [hk0, hk1]; exact Nat.lt_succ_self _, by rw [hk0, hk1], fun a _ => rfl⟩ ?_ ?_
 ·refine Cv.trans (Cv.opn (n := 1000000) (by rfl)) (Cv.wk ?_)
  have hin := hinLL_map [1000000, 1000001, 1000002] i1 (fun _ => rfl) l
  simp only [go_sem, hin, hk0, hk1]
 ·rintro ⟨j, L⟩ ⟨j1, j2, j3, j4, j5, j6⟩
  simp only at j1 j2 j3 j4 j5 j6
  simp only
  by_cases hlt : j < l.length
  ·have g1 : (j : Int) < (l.length : Int) := by omega
   have hsu := inS_succ (seats := seats) hlt
   have e1 : el L j = el l j := j6 _ (by omega)
   have g2 : j < L.length := by omega
   have c1 := susp1_den (el l j) r seats hr
   generalize inS seats l j = o at *
   cases hd : decide (el l j ∈ seats) with
   | false =>
    rw [hd, if_neg (by simp), List.append_nil] at hsu
    rw [hd] at c1
    simp only [go_sem, g1, g2, hlt, j3, e1]
    refine callM c1 (mpS_noH r seats) [] [] [] 1000001 1000002 [1000001, 1000002] rfl rfl rfl ?_
    simp only [go_sem]
    refine ⟨(j + 1, L), ⟨⟨by simp only; omega, by simp only; omega, j3, ?_, ?_, ?_⟩, by simp only; omega⟩, Cv.wk ?_⟩
    ·show (inS seats l (j + 1)).length < _
     rw [hsu]; simp only; omega
    ·show L.take (inS seats l (j + 1)).length = inS seats l (j + 1)
     rw [hsu]; exact j5
    ·intro a ha
     have ha' : (inS seats l (j + 1)).length ≤ a := ha
     rw [hsu] at ha'
     exact j6 a ha'
    ·have hin := hinLL_map [1000000, 1000001, 1000002] i1 (fun _ => rfl) L
     simp only [go_sem, hsu, hin]
     rw [wrapI] <;> omega
   | true =>
    rw [hd, if_pos rfl] at hsu
    rw [hd] at c1
    have g8 : o.length < l.length := by omega
    have g9 : o.length < L.length := by omega
    simp only [go_sem, g1, g2, g8, g9, hlt, j3, e1]
    refine callM c1 (mpS_noH r seats) [] [] [] 1000001 1000002 [1000001, 1000002] rfl rfl rfl ?_
    simp only [go_sem, g1, g2, g8, g9, hlt, j3, e1]
    refine ⟨(j + 1, L.set o.length (el l j)), ⟨⟨by simp only; omega, by simp only; omega, by simp only [List.length_set]; exact j3, ?_, ?_, ?_⟩, by simp only; omega⟩, Cv.wk ?_⟩
    ·show (inS seats l (j + 1)).length < _
     rw [hsu, List.length_append, List.length_singleton]; simp only; omega
    ·show (L.set o.length (el l j)).take (inS seats l (j + 1)).length = inS seats l (j + 1)
     rw [hsu]; exact set_take (by omega) j5
    ·intro a ha
     have ha' : (inS seats l (j + 1)).length ≤ a := ha
     rw [hsu, List.length_append, List.length_singleton] at ha'
     show el (L.set o.length _) a = _
     rw [set_el (by omega)]
     exact j6 a (by omega)
    ·have hin := hinLL_map [1000000, 1000001, 1000002] i1 (fun _ => rfl) (L.set o.length (el l j))
     have hset : (L.map i1).set o.length [PV.int .i64 (el l j)] = (L.set o.length (el l j)).map i1 := by rw [List.map_set]; rfl
     have hol : (o ++ [el l j]).length = o.length + 1 := by simp
     simp only [go_sem, hsu, hset, hin, hol]
     exact ⟨by rw [wrapI] <;> omega, by rw [wrapI] <;> omega⟩
  ·have hend : j = l.length := by omega
   subst hend
   generalize hO : inS seats l l.length = o at *
   have g2 : ¬ (l.length : Int) < (l.length : Int) := by omega
   have g3 : (o.length : Int) ≤ (l.length : Int) := by omega
   have htk : (L.map i1).take o.length = o.map i1 := by rw [← List.map_take, j5]
   have hpu : ∀ σ, purLL σ (o.map i1 ++ List.replicate (l.length - o.length) zI) = some (o.map i1 ++ List.replicate (l.length - o.length) zI, []) := fun σ => purLL_of fun x hx => by
    rcases List.mem_append.1 hx with hx | hx
    ·obtain ⟨c, _, rfl⟩ := List.mem_map.1 hx
     rfl
    ·rw [List.eq_of_mem_replicate hx]
     rfl
   have g5 : (o.map i1 ++ List.replicate (l.length - o.length) zI).length = l.length := by simp; omega
   have g6 : (o.map i1 ++ List.replicate (l.length - o.length) zI).take o.length = o.map i1 := by simp
   have g7 : o.length < l.length := by omega
   have g8 : o.length ≤ l.length := by omega
   simp only [go_sem, g2, j3]
   refine cvQ_exit _ _ ?_
   simp only [go_sem, g2, g3, j3, htk, g7, g8, ← zI_eq, hpu, g5, g6]
theorem deleteNZ_den (l r seats : List Int) (hl : big l.length) (hr : ∀ k ∈ seats, k ∈ r) (h : ∀ k ∈ l, k ∈ seats) :
  Den Tryz.prog 36 [.os 1000000 l.length, .fn 38 [.ptr 1000001 0]] [.arr 3 1 false (l.map i1), .cells [.mh 1000002], .mp (mpS r seats)] (.os 1000000 l.length) [] [.arr 3 1 false (l.map i1), .cells [.mh 1000002], .mp (mpS r seats)] := by
 refine den_ofM Tryz.mixed Tryz.func36 rfl Tryz.call36 Tryz.ntmps36 (congrArg Array.toList Tryz.results36) (by simp) (by kernel_rfl) [] (mpS_noH r seats) [1000000] 1000001 1000002 [.arr 3 1 false (l.map i1)] (exts := [1000000, 1000001, 1000002]) rfl rfl rfl rfl ?_
 have ci := indexNZ_den l r seats hl hr h
 simp only [go_sem]
 refine callM ci (mpS_noH r seats) [.arr 3 1 false (l.map i1)] [.arr 3 1 false (l.map i1)] [1000000] 1000001 1000002 [1000000, 1000001, 1000002] rfl rfl rfl ?_
 simp only [go_sem]
 exact ⟨rfl, Nat.le_refl _⟩
theorem deleteZ_den (l r seats : List Int) (hl : big l.length) (hr : ∀ k ∈ seats, k ∈ r) :
  ∃ new, new.length = l.length ∧ Den Tryz.prog 36 [.os 1000000 l.length, .fn 38 [.ptr 1000001 0]] [.arr 3 1 false (l.map i1), .cells [.mh 1000002], .mp (mpS r seats)] (.vs ((l.filter fun k => decide (k ∈ seats)).map i1)) [] [.arr 3 1 true new, .cells [.mh 1000002], .mp (mpS r seats)] := by
 have e : inS seats l l.length = l.filter fun k => decide (k ∈ seats) := by rw [inS, List.take_length]
 rcases first_out seats l with h | ⟨k0, h0, h1, h2⟩
 ·have e2 : (l.filter fun k => decide (k ∈ seats)) = l := List.filter_eq_self.2 fun k hk => decide_eq_true (h k hk)
  rw [e2]
  exact ⟨_, by simp, (deleteNZ_den l r seats hl hr h).vsE (by simp)⟩
 ·rw [← e]
  exact ⟨_, by have := inS_len seats l l.length; simp; omega, deleteSZ_den l r seats hl hr h0 h1 h2⟩
def suspS (r : Rl) (L : List Stm) (t : Tm) : List Int := t.ros.filter fun k => saidB r L t 3 k
theorem mem_suspS {r : Rl} {L : List Stm} {t : Tm} {k : Int} : k ∈ suspS r L t ↔ k ∈ t.ros ∧ saidB r L t 3 k = true := by
 simp [suspS, List.mem_filter]
def mpB (f : Int → Bool) (r : List Int) : List (PV × PV) := r.map fun k => (.int .i64 k, .bool (f k))
theorem hin_mpB (d : List Nat) (f : Int → Bool) : ∀ r : List Int, hinM d (mpB f r) = true
 | [] => rfl
 | a :: r => by
  have ih := hin_mpB d f r
  unfold mpB at ih ⊢
  simp only [List.map_cons, hinM, ih, Bool.and_true]
  rfl
theorem pur_mpB (σ : ASt) (f : Int → Bool) : ∀ r : List Int, purM σ (mpB f r) = some (mpB f r, [])
 | [] => rfl
 | a :: r => by
  have ih := pur_mpB σ f r
  unfold mpB at ih ⊢
  simp only [List.map_cons, purM, ih]
  rfl
attribute [go_sem] hin_mpB pur_mpB
theorem mpB_find (f : Int → Bool) (k : Int) : ∀ (r : List Int) (i : Nat), k ∉ r → mfind (.int .i64 k) (mpB f r) i = some none
 | [], _, _ => rfl
 | a :: r, i, h => by
  have ih := mpB_find f k r (i + 1) fun h1 => h (by simp [h1])
  have hne : ¬ k = a := fun e => h (by simp [e])
  unfold mpB at ih ⊢
  simp only [List.map_cons, mfind, keyEq, hne, decide_false]
  exact ih
theorem mpB_S (r : Rl) (L : List Stm) (t : Tm) : mpB (fun k => saidB r L t 3 k) t.ros = mpS t.ros (suspS r L t) := by
 unfold mpB mpS
 refine List.map_congr_left fun k hk => ?_
 rw [show decide (k ∈ suspS r L t) = saidB r L t 3 k by
  rw [Bool.eq_iff_iff, decide_eq_true_iff, mem_suspS]
  exact ⟨fun h => h.2, fun h => ⟨hk, h⟩⟩]
set_option maxHeartbeats 1000000 in
set_option maxRecDepth 100000 in
theorem yes_den (x : Ct) (hx : bigC x) : Den Tryz.prog 56 [.agg (ct x)] [] (.bool (decide (x.li = [1]))) [] [] := by
 refine den_of Tryz.mixed Tryz.func56 rfl Tryz.call56 Tryz.ntmps56 (congrArg Array.toList Tryz.results56) (by simp) (by kernel_rfl) [] (exts := []) rfl rfl ?_
 have ce := equalI_den x.li [1] hx.1 (by simp [big])
 simp only [go_sem]
 refine call ce [] ?_
 simp only [go_sem]
set_option maxHeartbeats 1000000 in
set_option maxRecDepth 100000 in
theorem of_suspD (t : Tm) (k : Int) : Den Tryz.prog 43 [.agg (tm t), .int .i64 k] [] (.agg (cs (keyC t 3 k))) [] [] := by
 refine den_of Tryz.mixed Tryz.func43 rfl Tryz.call43 Tryz.ntmps43 (congrArg Array.toList Tryz.results43) (by simp) (by kernel_rfl) [] (exts := []) rfl rfl ?_
 simp only [go_sem, keyC]
set_option maxHeartbeats 1000000 in
set_option maxRecDepth 100000 in
theorem outcomes_den (r : Rl) (L : List Stm) (t : Tm) (hr : ruleE r = 0) (ht : OkT t) (hB : RlB r) (hL : L.length ≤ 900) (hs : ∀ s ∈ L, bigS s) (hp : ∀ s ∈ L, plS s) : Den Tryz.prog 35 [.agg (rl r), .vs (L.map sm), .agg (tm t)] [] (.tup [.mh 0, .int .i64 0]) [.mp (mpS t.ros (suspS r L t))] [] := by
 refine den_of Tryz.mixed Tryz.func35 rfl Tryz.call35 Tryz.ntmps35 (congrArg Array.toList Tryz.results35) (by simp) (by kernel_rfl) [24] (exts := []) rfl rfl ?_
 have c1 := rcheckP r (by have := hB.g; simp only [big]; omega) (by have := hB.s; simp only [big]; omega) (by have := hB.t; simp only [big]; omega)
 have hlen := ht.len
 have hbT : big t.ros.length := by simp only [big]; omega
 have c2 := validR_den t.ros hbT
 rw [hr] at c1
 rw [ht.ros] at c2
 have hz : keyE t = 0 := by
  unfold keyE
  rw [if_pos ⟨ht.lo, ht.hi⟩, if_pos ht.bea]
 obtain ⟨hpw, hrng, _, _⟩ := rosV_pw ht.ros
 have c3 := fun k : Int => pout_den r L t (keyC t 3 k) hB hbT hL hs (plX_votes hp) (plX_votes hp)
 have he := fun (k : Int) (hk : k ∈ t.ros) => (out_err (L := L) (k := k) (kd := 3) hr ht.ros (hrng k hk) (by omega)).trans hz
 have hb := fun k : Int => outX_big (r := r) (L := L) (t := t) (c := keyC t 3 k)
 have hS : ∀ k : Int, saidB r L t 3 k = ((outX r L t (keyC t 3 k)).2.1 && decide ((outX r L t (keyC t 3 k)).1.li = [1])) := fun k => rfl
 have c4 := fun k : Int => of_suspD t k
 rw [← mpB_S]
 have hnew : ∀ i, i < t.ros.length → el t.ros i ∉ t.ros.take i := fun i hi h => by
  obtain ⟨j, hj, hje⟩ := List.mem_iff_getElem.1 h
  rw [List.getElem_take] at hje
  have hj2 : j < i := by rw [List.length_take] at hj; omega
  have := List.pairwise_iff_getElem.1 hpw j i (by omega) hi hj2
  rw [hje] at this
  simp [el, List.getD_eq_getElem?_getD, List.getElem?_eq_getElem hi] at this
 have hmp : ∀ i, i < t.ros.length → mpB (fun k => saidB r L t 3 k) (t.ros.take (i + 1)) = mpB (fun k => saidB r L t 3 k) (t.ros.take i) ++ [(.int .i64 (el t.ros i), .bool (saidB r L t 3 (el t.ros i)))] := fun i hi => by
  unfold mpB
  rw [take_el hi, List.map_append]
  rfl
 have hfd := fun i hi => mpB_find (fun k => saidB r L t 3 k) (el t.ros i) (t.ros.take i) 0 (hnew i hi)
 generalize hf : (fun k => saidB r L t 3 k) = f at *
 have hfk : ∀ k, saidB r L t 3 k = f k := fun k => congrFun hf k
 simp only [hfk] at hS hmp
 rw [rl_eq] at c1
 simp only [rl_eq, tm_eq, cs_eq, ct_eq] at c3 c4
 simp only [go_sem]
 refine call c1 [] ?_
 simp only [go_sem]
 refine call c2 [] ?_
 simp only [go_sem]
 refine loop Tryz.mixed (0 : Nat) (fun i : Nat => [(1, .vs (L.map sm)), (3, .ptr 3 0), (5, .ptr 5 0), (9, .mh 24), (26, .vs (t.ros.map i1)), (27, .int .i64 t.ros.length), (28, .int .i64 i)]) (fun i => [(3, .cells (rl r)), (5, .cells (tm t)), (24, .mp (mpB f (t.ros.take i)))]) (fun i => i ≤ t.ros.length) (fun i => t.ros.length - i) (by kernel_rfl) (Nat.zero_le _) ?_ ?_
 ·simp only [go_sem, mpB, List.map_nil]
  done
 ·intro i hi
  by_cases h : i < t.ros.length
  ·have hlt : (i : Int) < (t.ros.length : Int) := by omega
   have hk := el_mem h
   have hm := hmp i h
   have hfd := hfd i h
   have c3 := c3 (el t.ros i)
   have c4 := c4 (el t.ros i)
   have he := he _ hk
   have hb := hb (el t.ros i)
   have hS := hS (el t.ros i)
   generalize outX r L t (keyC t 3 (el t.ros i)) = O at *
   obtain ⟨x, ok, e⟩ := O
   dsimp only at c3 he hb hS
   subst he
   simp only [keyC] at c3 c4
   have cy := yes_den x hb
   rw [ct_eq] at cy
   simp only [go_sem, hlt, h]
   refine call c4 [] ?_
   simp only [go_sem, hlt, h]
   refine call c3 [] ?_
   cases ok
   ·rw [Bool.false_and] at hS
    simp only [go_sem, hfd]
    refine ⟨okD_of (by kernel_rfl), i + 1, ⟨by omega, by omega⟩, ?_⟩
    rw [hm, hS]
    exact ⟨by rw [wrapI] <;> omega, rfl⟩
   ·rw [Bool.true_and] at hS
    simp only [go_sem, hfd]
    refine ⟨okD_of (by kernel_rfl), call cy [] ?_⟩
    simp only [go_sem, hfd]
    refine ⟨i + 1, ⟨by omega, by omega⟩, ?_⟩
    rw [hm, hS]
    exact ⟨by rw [wrapI] <;> omega, rfl⟩
  ·have hlt : ¬ (i : Int) < (t.ros.length : Int) := by omega
   have : i = t.ros.length := by omega
   subst this
   simp only [go_sem, hlt, List.take_length]
   done
end Go.Proofs.Am

/- Suspended, Stays, Due: the program's. -/
namespace Go.Proofs.Am
open Go Go.RowKit
open Go.Proofs
set_option maxHeartbeats 1000000 in
set_option maxRecDepth 100000 in
theorem cloneO_den (l : List Int) (h0 : 0 < l.length) (hl : l.length ≤ 1000000) : Den Tryz.prog 37 [.vs (l.map i1)] [] (.os 0 l.length) [.arr 3 1 false (l.map i1)] [] := by
 refine den_of Tryz.mixed Tryz.func37 rfl Tryz.call37 Tryz.ntmps37 (congrArg Array.toList Tryz.results37) (by simp) (by kernel_rfl) [5] (exts := []) rfl rfl ?_
 simp only [go_sem, h0]
 omega
theorem suspS_filter (r : Rl) (L : List Stm) (t : Tm) : (t.ros.filter fun k => decide (k ∈ suspS r L t)) = suspS r L t := by
 unfold suspS
 refine List.filter_congr fun k hk => ?_
 rw [Bool.eq_iff_iff, decide_eq_true_iff, List.mem_filter]
 exact ⟨fun h => h.2, fun h => ⟨hk, h⟩⟩
set_option maxHeartbeats 1000000 in
set_option maxRecDepth 100000 in
theorem suspended_den (r : Rl) (L : List Stm) (t : Tm) (hr : ruleE r = 0) (ht : OkT t) (hB : RlB r) (hL : L.length ≤ 900) (hs : ∀ s ∈ L, bigS s) (hp : ∀ s ∈ L, plS s) : Den Tryz.prog 15 [.agg (rl r), .vs (L.map sm), .agg (tm t)] [] (.tup [.vs ((suspS r L t).map i1), .int .i64 0]) [] [] := by
 refine den_of Tryz.mixed Tryz.func15 rfl Tryz.call15 Tryz.ntmps15 (congrArg Array.toList Tryz.results15) (by simp) (by kernel_rfl) [] (exts := []) rfl rfl ?_
 have c1 := outcomes_den r L t hr ht hB hL hs hp
 have hl := ht.len
 have h0 : 0 < t.ros.length := List.length_pos_iff.2 (rosV_pw ht.ros).2.2.1
 have c2 := cloneO_den t.ros h0 (by omega)
 obtain ⟨new, hn, c3⟩ := deleteZ_den t.ros t.ros (suspS r L t) (by simp only [big]; omega) fun k hk => (mem_suspS.1 hk).1
 rw [suspS_filter] at c3
 generalize suspS r L t = S at *
 rw [rl_eq, tm_eq] at c1
 simp only [go_sem]
 refine call c1 [] ?_
 simp only [go_sem]
 refine call c2 [] ?_
 simp only [go_sem]
 refine callM c3 (mpS_noH t.ros S) [.arr 3 1 false (t.ros.map i1)] [.arr 3 1 true new] [22] 8 14 [22, 8, 14] rfl rfl rfl ?_
 simp only [go_sem]
 exact ⟨rfl, by omega⟩
set_option maxHeartbeats 1000000 in
set_option maxRecDepth 100000 in
theorem stays_den (r : Rl) (L : List Stm) (t : Tm) (k : Int) (hr : ruleE r = 0) (ht : OkT t) (hB : RlB r) (hL : L.length ≤ 900) (hs : ∀ s ∈ L, bigS s) (hp : ∀ s ∈ L, plS s) : Den Tryz.prog 19 [.agg (rl r), .vs (L.map sm), .agg (tm t), .int .i64 k] [] (.tup [.bool (decide (k ∈ t.ros) && !decide (k ∈ suspS r L t)), .int .i64 0]) [] [] := by
 refine den_of Tryz.mixed Tryz.func19 rfl Tryz.call19 Tryz.ntmps19 (congrArg Array.toList Tryz.results19) (by simp) (by kernel_rfl) [] (exts := []) rfl rfl ?_
 have c1 := outcomes_den r L t hr ht hB hL hs hp
 have hlk := mpS_look k t.ros (suspS r L t)
 generalize suspS r L t = S at *
 rw [rl_eq, tm_eq] at c1
 simp only [go_sem]
 refine call c1 [] ?_
 have g0 : ∀ Q : Prop, (k ∉ t.ros → mfind (.int .i64 k) (mpS t.ros S) 0 = some none → Q) → (∀ i, mfind (.int .i64 k) (mpS t.ros S) 0 = some (some i) → (mpS t.ros S).getD i (.undef, .undef) = (.int .i64 k, .bool (decide (k ∈ S))) → k ∈ t.ros → Q) → Q := fun Q h1 h2 => by
  rcases hlk with ⟨a, b⟩ | ⟨i, a, b, c⟩
  ·exact h1 a b
  ·exact h2 i a b c
 refine g0 _ (fun hn hf => ?_) fun i hf h4 hm => ?_
 ·simp only [go_sem, hf, mres, hn]
  done
 ·simp only [go_sem, hf, mres, h4, hm]
  done
theorem contI_den (l : List Int) (k : Int) (hl : big l.length) : Den Tryz.prog 41 [.vs (l.map i1), .int .i64 k] [] (.bool (decide (k ∈ l))) [] [] := contains_den l k hl
def dueI (r : Rl) (L : List Stm) (t : Tm) (G : List Int) (i : Nat) : List Int := (t.ros.take i).filter fun k => decide (k ∈ G) && !(decG r L t (keyC t 3 k)).2.1
def dueX (r : Rl) (L : List Stm) (t : Tm) (G : List Int) : List Int := t.ros.filter fun k => decide (k ∈ G) && !(decG r L t (keyC t 3 k)).2.1
theorem dueI_succ {r : Rl} {L : List Stm} {t : Tm} {G : List Int} {i : Nat} (h : i < t.ros.length) : dueI r L t G (i + 1) = dueI r L t G i ++ (if (decide (el t.ros i ∈ G) && !(decG r L t (keyC t 3 (el t.ros i))).2.1) = true then [el t.ros i] else []) := by
 unfold dueI
 rw [take_el h, List.filter_append]
 congr 1
 simp only [List.filter_cons, List.filter_nil]
theorem dueI_len (r : Rl) (L : List Stm) (t : Tm) (G : List Int) (i : Nat) : (dueI r L t G i).length ≤ t.ros.length := by
 unfold dueI
 refine Nat.le_trans (List.length_filter_le _ _) ?_
 rw [List.length_take]; omega
theorem dueI_all (r : Rl) (L : List Stm) (t : Tm) (G : List Int) : dueI r L t G t.ros.length = dueX r L t G := by rw [dueI, List.take_length]; rfl
set_option maxHeartbeats 1000000 in
set_option maxRecDepth 100000 in
theorem due_den (r : Rl) (L : List Stm) (t : Tm) (hr : ruleE r = 0) (ht : OkT t) (hB : RlB r) (hL : L.length ≤ 900) (hs : ∀ s ∈ L, bigS s) (hp : ∀ s ∈ L, plS s) (G : List Int) (hG : G.length ≤ 64) (cG : Den Tryz.prog 40 [.vs (L.map sm)] [] (.vs (G.map i1)) [] []) : Den Tryz.prog 17 [.agg (rl r), .vs (L.map sm), .agg (tm t)] [] (.tup [.vs ((dueX r L t G).map i1), .int .i64 0]) [] [] := by
 refine den_of Tryz.mixed Tryz.func17 rfl Tryz.call17 Tryz.ntmps17 (congrArg Array.toList Tryz.results17) (by simp) (by kernel_rfl) [] (exts := []) rfl rfl ?_
 have c1 := outcomes_den r L t hr ht hB hL hs hp
 have hlen := ht.len
 have hbT : big t.ros.length := by simp only [big]; omega
 obtain ⟨_, hrng, _, _⟩ := rosV_pw ht.ros
 have hcv : ∀ k, k ∈ t.ros → caseV (keyC t 3 k) = true := fun k hk => caseV_t ⟨ht.lo, ht.hi, (hrng k hk).1, (hrng k hk).2, by simp [keyC], by simp [keyC], .inr (.inr rfl)⟩
 have d0 : ∀ k, k ∈ t.ros → (decG r L t (keyC t 3 k)).2.2 = 0 := fun k hk => by
  rcases decG_ok (L := L) hr ht (hcv k hk) rfl with ⟨_, _, s3⟩ | ⟨s1, _⟩
  ·rw [s3]
  ·rw [seatsG_zero hr ht (hcv k hk) rfl rfl] at s1; cases s1
 have c2 := fun k : Int => contI_den G k (by simp only [big]; omega)
 have c3 := fun k : Int => decP_den r L t (keyC t 3 k) hB hbT hL hs (plX_votes hp)
 have c4 := fun k : Int => of_suspD t k
 have hsu := fun i (h : i < t.ros.length) => dueI_succ (r := r) (L := L) (t := t) (G := G) h
 have hln := dueI_len r L t G
 have hI0 : dueI r L t G 0 = [] := rfl
 rw [← dueI_all]
 generalize dueI r L t G = I at *
 generalize hD : (fun k => decG r L t (keyC t 3 k)) = D at *
 have hDk : ∀ k, decG r L t (keyC t 3 k) = D k := fun k => congrFun hD k
 simp only [hDk] at d0 c3 hsu
 generalize suspS r L t = S at *
 rw [rl_eq, tm_eq] at c1
 simp only [rl_eq, tm_eq, cs_eq, ct_eq] at c3 c4
 simp only [go_sem]
 refine call c1 [] ?_
 simp only [go_sem]
 refine call cG [] ?_
 simp only [go_sem]
 refine promote 11 110 3 1 false ?_ ?_ ?_ (by omega)
 ·refine loop Tryz.mixed (0 : Nat) (fun i : Nat => [(1, .vs (L.map sm)), (3, .ptr 3 0), (5, .ptr 5 0), (10, .vs (G.map i1)), (11, .os 110 (I i).length), (30, .vs (t.ros.map i1)), (31, .int .i64 t.ros.length), (32, .int .i64 i)]) (fun i => [(3, .cells (rl r)), (5, .cells (tm t)), (110, .arr 3 1 false ((I i).map i1))]) (fun i => i ≤ t.ros.length) (fun i => t.ros.length - i) (by kernel_rfl) (Nat.zero_le _) ?_ ?_
  ·rw [hI0]
   simp only [go_sem, List.map_nil, List.length_nil]
   done
  ·intro i hi
   by_cases h : i < t.ros.length
   ·have hlt : (i : Int) < (t.ros.length : Int) := by omega
    have hk := el_mem h
    have hsu := hsu i h
    have hln := hln i
    have d0 := d0 _ hk
    have c2 := c2 (el t.ros i)
    have c3 := c3 (el t.ros i)
    have c4 := c4 (el t.ros i)
    generalize I i = o at *
    generalize D (el t.ros i) = O at *
    obtain ⟨x, b, e⟩ := O
    dsimp only at d0 c3 hsu
    subst d0
    simp only [keyC] at c3 c4
    simp only [go_sem, hlt, h]
    refine call c2 [] ?_
    by_cases hg : el t.ros i ∈ G
    rotate_left
    ·rw [decide_eq_false hg, Bool.false_and, if_neg (by simp), List.append_nil] at hsu
     simp only [go_sem, hg]
     refine ⟨i + 1, ⟨by omega, by omega⟩, ?_⟩
     rw [hsu]
     exact ⟨⟨rfl, by rw [wrapI] <;> omega⟩, rfl⟩
    rw [decide_eq_true hg, Bool.true_and] at hsu
    simp only [go_sem, hg, hlt, h]
    refine call c4 [] ?_
    simp only [go_sem, hlt, h]
    refine call c3 [] ?_
    cases b
    ·rw [if_pos (by rfl)] at hsu
     simp only [go_sem]
     refine ⟨okD_of (by kernel_rfl), by omega, i + 1, ⟨by omega, by omega⟩, ?_⟩
     rw [hsu]
     exact ⟨⟨by simp, by rw [wrapI] <;> omega⟩, by simp [i1]⟩
    ·rw [if_neg (by simp), List.append_nil] at hsu
     simp only [go_sem]
     refine ⟨okD_of (by kernel_rfl), i + 1, ⟨by omega, by omega⟩, ?_⟩
     rw [hsu]
     exact ⟨⟨rfl, by rw [wrapI] <;> omega⟩, rfl⟩
   ·have hlt : ¬ (i : Int) < (t.ros.length : Int) := by omega
    have : i = t.ros.length := by omega
    subst this
    simp only [go_sem, hlt]
    done
 ·simp only [go_sem]
 ·simp only [go_sem]
end Go.Proofs.Am

/- Proofs of lying, the program's: all of them, and against whom. -/
namespace Go.Proofs.Am
open Go Go.RowKit
open Go.Proofs
theorem findX_zero (L : List Stm) : findX L 0 = [] := rfl
theorem findX_succ (L : List Stm) (i : Nat) : findX L (i + 1) = findX L i ++ findA (ownS L i) := by
 unfold findX
 rw [List.range_succ, List.flatMap_append]
 simp
theorem pfs_len (k : Int) (l : List (Stm × Stm)) : (pfs k l).length = l.length := by simp [pfs]
theorem forksX_len (M : List Stm) : (forksX M).length ≤ 1 := by
 unfold forksX
 split <;> simp
theorem doubX_len (M : List Stm) : (doubX M).length ≤ M.length := by
 have h1 := dbl_len M (casesL M) (casesL M).length
 rw [List.take_length] at h1
 have h2 := casesL_len M
 rw [doubX_eq]
 omega
theorem findA_len (M : List Stm) : (findA M).length ≤ 1 + M.length := by
 have h1 := forksX_len M
 have h2 := doubX_len M
 unfold findA
 split
 ·rw [List.length_append, pfs_len, pfs_len]; omega
 ·simp
theorem findX_len (L : List Stm) : ∀ i, (findX L i).length ≤ i * (1 + L.length)
 | 0 => by simp [findX_zero]
 | i + 1 => by
  have h1 := findX_len L i
  have h2 := findA_len (ownS L i)
  have h3 := ownS_len L i
  rw [findX_succ, List.length_append, Nat.add_mul, Nat.one_mul]
  omega
theorem ownS_mem {L : List Stm} {a : Int} (h : CF L) {s : Stm} (hs : s ∈ ownS L a) : s ∈ L := (mem_ownF.1 (((ownS_ss (a := a) h).2 s).1 hs)).1
set_option maxHeartbeats 1000000 in
set_option maxRecDepth 100000 in
theorem find_den (L : List Stm) (hl : L.length ≤ 900) (hs : ∀ s ∈ L, bigS s) (h : CF L) : Den Tryz.prog 63 [.vs (L.map sm)] [] (.vs ((findX L 64).map pf)) [] [] := by
 refine den_of Tryz.mixed Tryz.func63 rfl Tryz.call63 Tryz.ntmps63 (congrArg Array.toList Tryz.results63) (by simp) (by kernel_rfl) [] (exts := []) rfl rfl ?_
 have co := fun a : Nat => own_den L a (by omega) hs h
 have cf := fun a : Nat => forks_den (ownS L a) (by have := ownS_len L a; simp only [big]; omega)
 have cd := fun a : Nat => doubles_den (ownS L a) (by have := ownS_len L a; omega) fun s hm => hs s (ownS_mem h hm)
 have hln := fun a : Nat => ownS_len L a
 have hsu := findX_succ L
 have hxl := findX_len L
 have hf1 := fun a : Nat => forksX_len (ownS L a)
 have hd1 := fun a : Nat => doubX_len (ownS L a)
 simp only [go_sem]
 refine promote 3 99 87 27 false ?_ ?_ ?_ (by omega)
 ·refine loop Tryz.mixed 0 (fun i : Nat => [(0, .vs (L.map sm)), (3, .os 99 (findX L i).length), (6, .int .i64 i)]) (fun i => [(99, .arr 87 27 false ((findX L i).map pf))]) (fun i => i ≤ 64) (fun i => 64 - i) (by kernel_rfl) (Nat.zero_le _) ?_ ?_
  ·simp only [go_sem, findX_zero, List.map_nil, List.length_nil]
  ·intro i hi
   by_cases hlt : i < 64
   ·have h1 : (i : Int) < 64 := by omega
    have co := co i
    have cf := cf i
    have cd := cd i
    have hln := hln i
    have hsu := hsu i
    have hf1 := hf1 i
    have hd1 := hd1 i
    have hxl := hxl i
    have hmul : i * (1 + L.length) ≤ 64 * 901 := Nat.mul_le_mul (by omega) (by omega)
    have hA : findA (ownS L i) = if 1 < (ownS L i).length then pfs 1 (forksX (ownS L i)) ++ pfs 2 (doubX (ownS L i)) else [] := rfl
    generalize ownS L i = M at *
    have p1 := pfs_len 1 (forksX M)
    have p2 := pfs_len 2 (doubX M)
    generalize pfs 1 (forksX M) = A at *
    generalize pfs 2 (doubX M) = B at *
    generalize findX L i = o at *
    simp only [go_sem, h1]
    refine call co [] ?_
    by_cases h2 : 1 < (M.length : Int)
    ·rw [if_pos (by omega)] at hA
     rw [hA] at hsu
     simp only [go_sem, h2]
     refine call cf [] ?_
     simp only [go_sem]
     refine ⟨by omega, call cd [] ?_⟩
     simp only [go_sem]
     refine ⟨by omega, i + 1, ⟨by omega, by omega⟩, ?_⟩
     rw [hsu]
     exact ⟨⟨by simp only [List.length_append]; omega, by rw [wrapI] <;> omega⟩, by simp only [List.map_append, List.append_assoc]⟩
    ·rw [if_neg (by omega)] at hA
     rw [hA, List.append_nil] at hsu
     simp only [go_sem, h2]
     refine ⟨i + 1, ⟨by omega, by omega⟩, ?_⟩
     rw [hsu]
     exact ⟨⟨rfl, by rw [wrapI] <;> omega⟩, rfl⟩
   ·have h1 : ¬ (i : Int) < 64 := by omega
    have : i = 64 := by omega
    subst this
    simp only [go_sem, h1]
 ·simp only [go_sem]
 ·simp only [go_sem]
set_option maxHeartbeats 1000000 in
set_option maxRecDepth 100000 in
theorem against_den (p : Int × Stm × Stm) : Den Tryz.prog 64 [.agg (pf p)] [] (.int .i64 p.2.1.au) [] [] := by
 refine den_of Tryz.mixed Tryz.func64 rfl Tryz.call64 Tryz.ntmps64 (congrArg Array.toList Tryz.results64) (by simp) (by kernel_rfl) [] (exts := []) rfl rfl ?_
 simp only [go_sem]
set_option maxHeartbeats 1000000 in
set_option maxRecDepth 100000 in
theorem guilty_den (L : List Stm) (hl : L.length ≤ 900) (hs : ∀ s ∈ L, bigS s) (h : CF L) : Den Tryz.prog 40 [.vs (L.map sm)] [] (.vs ((guilX L).map i1)) [] [] := by
 refine den_of Tryz.mixed Tryz.func40 rfl Tryz.call40 Tryz.ntmps40 (congrArg Array.toList Tryz.results40) (by simp) (by kernel_rfl) [] (exts := []) rfl rfl ?_
 have c1 := find_den L hl hs h
 have hxl := findX_len L 64
 have hmul : 64 * (1 + L.length) ≤ 64 * 901 := Nat.mul_le_mul (by omega) (by omega)
 have hg : guilX L = cmpc ((findX L 64).map fun p => p.2.1.au) := rfl
 rw [hg]
 generalize findX L 64 = F at *
 obtain ⟨I, hI⟩ : ∃ I : Nat → List Int, I = fun i => (F.take i).map fun p => p.2.1.au := ⟨_, rfl⟩
 have hI0 : I 0 = [] := by rw [hI]; rfl
 have hsu : ∀ i, i < F.length → I (i + 1) = I i ++ [(el F i).2.1.au] := fun i hi => by
  rw [hI]
  show (F.take (i + 1)).map _ = _
  rw [take_el hi, List.map_append, List.map_singleton]
 have hln : ∀ i, (I i).length ≤ F.length := fun i => by rw [hI]; show ((F.take i).map _).length ≤ _; rw [List.length_map, List.length_take]; omega
 have hIl : F.map (fun p => p.2.1.au) = I F.length := by rw [hI]; show _ = (F.take F.length).map _; rw [List.take_length]
 rw [hIl]
 clear hI hIl
 simp only [go_sem]
 refine call c1 [] ?_
 simp only [go_sem]
 refine promote 3 99 3 1 false ?_ ?_ ?_ (by omega)
 ·refine loop Tryz.mixed 0 (fun i : Nat => [(3, .os 99 (I i).length), (7, .vs (F.map pf)), (8, .int .i64 F.length), (9, .int .i64 i)]) (fun i => [(99, .arr 3 1 false ((I i).map i1))]) (fun i => i ≤ F.length) (fun i => F.length - i) (by kernel_rfl) (Nat.zero_le _) ?_ ?_
  ·rw [hI0]
   simp only [go_sem, List.map_nil, List.length_nil]
  ·intro i hi
   by_cases hlt : i < F.length
   ·have h1 : (i : Int) < (F.length : Int) := by omega
    have hsu := hsu i hlt
    have hln := hln i
    have ca := against_den (el F i)
    rw [pf_eq] at ca
    generalize I i = o at *
    simp only [go_sem, h1, hlt]
    refine call ca [] ?_
    simp only [go_sem]
    refine ⟨by omega, i + 1, ⟨by omega, by omega⟩, ?_⟩
    rw [hsu]
    exact ⟨⟨by simp, by rw [wrapI] <;> omega⟩, by simp [i1]⟩
   ·have h1 : ¬ (i : Int) < (F.length : Int) := by omega
    have : i = F.length := by omega
    subst this
    have hln := hln F.length
    generalize I F.length = o at *
    have cc := compact_den o (by omega)
    simp only [go_sem, h1]
    refine call cc [99] ?_
    simp only [go_sem]
    rw [cmpz_len]
    exact Nat.le_refl _
 ·simp only [go_sem]
 ·simp only [go_sem]
end Go.Proofs.Am

/- The example of the chapter on suspensions. -/
namespace Go.Proofs.Am
open Go Go.RowKit
open Go.Proofs
theorem sha_S (b : List UInt8) : sha b = hsS (allB b) ((allB b).length / 64) fun v => v.flatMap outW := by rw [hsS_eq]; rfl
theorem app_sd (au nu ti : Int) : (stmt au nu ti appD).sd = dig (stmt au nu ti appD) := rfl
set_option maxRecDepth 1000000 in
theorem dig_two : dig (stmt 2 0 0 appD) ≠ dig (stmt 2 0 1 appD) := by
 unfold dig
 rw [sha_S, sha_S]
 decide +kernel
theorem right_app (au nu ti : Int) (h1 : inB au 0 63 = true) (h2 : inB nu 0 199 = true) (h3 : inB ti 0 2147483648 = true) : rightS (stmt au nu ti appD) = true := by
 have hs : (stmt au nu ti appD).sk = (stmt au nu ti appD).au ∧ (stmt au nu ti appD).sd = dig (stmt au nu ti appD) := ⟨rfl, rfl⟩
 rw [rightS, check_app au nu ti h1 h2 h3, decide_eq_true hs]
 rfl
def r37 : Rl := ⟨[0, 1, 2], ⟨[0], [2], 1⟩, 2, 5, 0⟩
theorem r37_ok : ruleE r37 = 0 := by decide
def L37 : List Stm := [stmt 2 0 0 appD, stmt 2 0 1 appD]
theorem appV (au nu ti : Int) (c : Cs) : okV c (stmt au nu ti appD) = false := okV_nk (by show (11 : Int) ≠ 10; omega)
theorem L37_nv (c : Cs) : ∀ s ∈ L37, okV c s = false := fun s hs => by
 simp only [L37, List.mem_cons, List.not_mem_nil, or_false] at hs
 rcases hs with rfl | rfl <;> exact appV _ _ _ _
theorem L37_cf : CF L37 := fun s hs t ht _ _ _ _ hd => by
 simp only [L37, List.mem_cons, List.not_mem_nil, or_false] at hs ht
 rcases hs with rfl | rfl <;> rcases ht with rfl | rfl
 ·rfl
 ·exact absurd ((app_sd 2 0 0).symm.trans (hd.trans (app_sd 2 0 1))) dig_two
 ·exact absurd ((app_sd 2 0 0).symm.trans (hd.symm.trans (app_sd 2 0 1))) dig_two
 ·rfl
theorem L37_uni : UNI L37 := fun c s hs t _ h _ _ => by rw [L37_nv c s hs] at h; cases h
theorem said_nv {r : Rl} {L : List Stm} {t : Tm} {kd k : Int} (h : ∀ c, ∀ s ∈ L, okV c s = false) : saidB r L t kd k = false := by
 have hs : someB L (keyC t kd k) = false := by
  unfold someB
  rw [List.any_eq_false]
  intro x hx _
  obtain ⟨s, hs, v1, v2⟩ := mem_casesL.1 hx
  have := h x s hs
  rw [okV, v1, v2] at this
  simp at this
 unfold saidB
 rw [said_none (r := r) hs, Bool.false_and]
theorem L37_gB (k : Int) : gB L37 k = decide (k = 2) := by
 rw [Bool.eq_iff_iff, gB_iff, decide_eq_true_iff]
 constructor
 ·rintro ⟨s, hs, _⟩
  obtain ⟨h1, h2, _⟩ := mem_ownF.1 hs
  simp only [L37, List.mem_cons, List.not_mem_nil, or_false] at h1
  rcases h1 with rfl | rfl <;> exact h2.symm
 ·rintro rfl
  exact ⟨_, mem_ownF.2 ⟨by simp [L37], rfl, right_app 2 0 0 rfl rfl rfl⟩, _, mem_ownF.2 ⟨by simp [L37], rfl, right_app 2 0 1 rfl rfl rfl⟩, rfl, fun h => absurd (congrArg Stm.ti h) (by decide)⟩
theorem L37_guil : guilX L37 = [2] := by
 rw [guil_eq L37_cf L37_uni]
 have : gB L37 = fun k => decide (k = 2) := funext L37_gB
 rw [this]
 decide
theorem L37_ok : ∀ s ∈ L37, okS s := fun s hs => by
 simp only [L37, List.mem_cons, List.not_mem_nil, or_false] at hs
 rcases hs with rfl | rfl <;> exact okS_app _ _ _
theorem L37_pl : ∀ s ∈ L37, plS s := fun s hs => by
 simp only [L37, List.mem_cons, List.not_mem_nil, or_false] at hs
 rcases hs with rfl | rfl <;> exact pl_stmt (by show (11 : Int) ≠ 10; omega)
set_option maxHeartbeats 1000000 in
set_option maxRecDepth 100000 in
theorem awake37_den : Den Tryz.prog 8 [] [] (.bool true) [] [] := by
 refine den_of Tryz.mixed Tryz.func8 rfl Tryz.call8 Tryz.ntmps8 (congrArg Array.toList Tryz.results8) (by simp) (by kernel_rfl) [] (exts := []) rfl rfl ?_
 have hB : RlB r37 := ⟨by decide, by decide, by decide⟩
 have c1 := at0_den r37 r37_ok (by decide) (by decide) (by decide)
 have ht := term0_ok r37_ok
 have hros : (term0 r37).ros = [0, 1, 2] := rfl
 have hb := fun s hs => (L37_ok s hs).big
 have cG := guilty_den L37 (by decide) hb L37_cf
 rw [L37_guil] at cG
 have c4 := due_den r37 L37 (term0 r37) r37_ok ht hB (by decide) hb L37_pl [2] (by decide) cG
 have c5 := suspended_den r37 L37 (term0 r37) r37_ok ht hB (by decide) hb L37_pl
 have c6 := stays_den r37 L37 (term0 r37) 2 r37_ok ht hB (by decide) hb L37_pl
 have hS : suspS r37 L37 (term0 r37) = [] := by
  unfold suspS
  rw [List.filter_eq_nil_iff]
  intro k _
  rw [said_nv L37_nv]
  simp
 have hD : dueX r37 L37 (term0 r37) [2] = [2] := by
  unfold dueX
  rw [hros]
  have hd : ∀ k, (decG r37 L37 (term0 r37) (keyC (term0 r37) 3 k)).2.1 = false := fun k => decG_none (L37_nv _)
  simp [hd]
 rw [hS] at c5 c6
 rw [hD] at c4
 rw [hros] at c6
 have k6 : (decide ((2 : Int) ∈ ([0, 1, 2] : List Int)) && !decide ((2 : Int) ∈ ([] : List Int))) = true := by decide
 rw [k6] at c6
 have c2 := stmt_den 2 0 0 appD (by simp [appD]) rfl
 have c3 := stmt_den 2 0 1 appD (by simp [appD]) rfl
 have hM : L37.map sm = [sm (stmt 2 0 0 appD), sm (stmt 2 0 1 appD)] := rfl
 rw [hM] at c4 c5 c6
 have hT : tm (term0 r37) = [.int .i64 0, .vs [i1 0, i1 1, i1 2], .str (firstV r37), .bool false, .vs [], .vs []] := rfl
 rw [hT, rl_eq] at c1 c4 c5 c6
 generalize stmt 2 0 0 appD = s0 at *
 generalize stmt 2 0 1 appD = s1 at *
 generalize firstV r37 = v at *
 simp only [sm_eq] at c4 c5 c6
 rw [dr_eq] at c2 c3
 simp only [go_sem]
 refine call c1 [] ?_
 simp only [go_sem]
 refine ⟨⟨rfl, rfl, rfl, rfl, rfl, rfl, rfl⟩, call c2 [] ?_⟩
 simp only [go_sem]
 refine ⟨⟨rfl, rfl, rfl, rfl, rfl, rfl⟩, call c3 [] ?_⟩
 simp only [go_sem]
 refine ⟨⟨rfl, rfl, rfl, rfl, rfl, rfl⟩, call c4 [] ?_⟩
 simp only [go_sem]
 refine ⟨⟨rfl, rfl, rfl, rfl, rfl, rfl, rfl⟩, call c5 [] ?_⟩
 simp only [go_sem]
 refine ⟨⟨rfl, rfl, rfl, rfl, rfl, rfl, rfl⟩, call c6 [] ?_⟩
 simp only [go_sem]
 refine ⟨⟨rfl, rfl, rfl, rfl, rfl, rfl, rfl⟩, ?_⟩
 refine call (sameInts_den [2] [2] (by simp [big]) (by simp [big])) [] ?_
 simp only [go_sem]
 done
end Go.Proofs.Am

/- The law SuspensionAppeals, walked. -/
namespace Go.Proofs.Am
open Go Go.RowKit
open Go.Proofs
theorem seatsG_err {r : Rl} {t : Tm} {c : Cs} (ht : OkT t) (h : (seatsG r t c).2 ≠ 0) : (seatsG r t c).1 = [] := by
 rw [seatsG_32 ht.bea] at h ⊢
 revert h
 unfold seatsR ofR
 repeat' split
 all_goals first | exact fun _ => rfl | exact fun h => absurd rfl h
theorem both_susp {r : Rl} {t : Tm} {c : Cs} {x0 x1 : Ct} {ap : List Stm} (hr : ruleE r = 0) (ht : OkT t) (ho : openB c = true) (he : c.ep = t.ep) (hk : c.kd = 3) (hs : c.su ∈ t.ros) (h0 : rightB c x0 = true) (h1 : rightB (sec1 c) x1 = true)
  (hap : ∀ s ∈ ap, ∀ d, okV d s = false) (has : ap.any (askB t.ros c) = decide (ap ≠ [])) (w : Bool) (hw : w = decide ((if ap ≠ [] ∧ (seatsG r t (sec1 c)).2 = 0 then x1 else x0).li = [1])) :
  suspS r (bothV r t c x0 x1 ap) t = if w = true then [c.su] else [] := by
 have hb := fun k => both_yes (x0 := x0) (x1 := x1) hr ht ho he h0 h1 hap has k
 rw [hk, ← hw] at hb
 unfold suspS
 cases w with
 | false =>
  rw [if_neg (by simp), List.filter_eq_nil_iff]
  intro k _
  rw [hb k]
  simp
 | true =>
  rw [if_pos rfl]
  have hnd : t.ros.Nodup := ((rosV_pw ht.ros).1.imp fun h => by omega)
  have : (t.ros.filter fun k => saidB r (bothV r t c x0 x1 ap) t 3 k) = t.ros.filter fun k => decide (k = c.su) := List.filter_congr fun k _ => by rw [hb k, Bool.and_true]
  rw [this]
  have h2 : (t.ros.filter fun k => decide (k = c.su)) = List.replicate ((t.ros.filter fun k => decide (k = c.su)).length) c.su := List.eq_replicate_iff.2 ⟨rfl, fun b hb => of_decide_eq_true (List.mem_filter.1 hb).2⟩
  have h3 : ((t.ros.filter fun k => decide (k = c.su)).length) = 1 := by
   have := List.count_eq_length_filter (a := c.su) (l := t.ros)
   have h4 := hnd.count (a := c.su)
   rw [if_pos hs] at h4
   have h5 : (t.ros.filter fun k => decide (k = c.su)) = t.ros.filter (· == c.su) := List.filter_congr fun k _ => rfl
   rw [h5]
   omega
  rw [h2, h3]
  rfl
set_option maxHeartbeats 1000000 in
set_option maxRecDepth 100000 in
theorem appl_den (l : List Int) (ap : Bool) : Den Tryz.prog 5 [.vs (l.map i1), .bool ap] [] (.bool true) [] [] := by
 refine den_of Tryz.mixed Tryz.func5 rfl Tryz.call5 Tryz.ntmps5 (congrArg Array.toList Tryz.results5) (by simp) (by kernel_rfl) [] (exts := []) rfl rfl ?_
 by_cases h400 : l.length ≤ 400
 rotate_left
 ·have hd : decide (l.length ≤ 400) = false := decide_eq_false h400
  simp only [go_sem]
  refine call (light_den l) [] ?_
  simp only [go_sem, hd]
  refine call awake37_den [] ?_
  simp only [go_sem]
 have hd : decide (l.length ≤ 400) = true := decide_eq_true h400
 have hl : big l.length := by simp only [big]; omega
 have c1 := court_den l 0 hl (Nat.zero_le _)
 have hB : RlB (mrules l 0) := mrules_RlB l 0
 have hr := mrules_ok l 0
 have hT := ctT_ok (l := l) (p := 0)
 have hTl := ctT_len (l := l) (p := 0)
 have hTe : (ctT l 0).ep = 0 := rfl
 have hq : (ctF l 0).1 ≤ l.length := ctS_le (Nat.zero_le _) _
 generalize mrules l 0 = R at *
 generalize ctT l 0 = T at *
 generalize ctF l 0 = F at *
 obtain ⟨q, L⟩ := F
 dsimp only at c1 hq
 have hq1 := dgo_le hq 1
 have e0 : dpos l q = dgo l q 1 := rfl
 obtain ⟨z, hz⟩ : ∃ z : Nat, dnext l q (T.ros.length : Int) = (z : Int) := ⟨(dnext l q (T.ros.length : Int)).toNat, by have := dnext_lt (l := l) (p := q) (n := (T.ros.length : Int)) (by omega); omega⟩
 have hzl : z < T.ros.length := by have := dnext_lt (l := l) (p := q) (n := (T.ros.length : Int)) (by omega); omega
 have hsm := el_mem hzl
 have hsr := (rosV_pw hT.ros).2.1 _ hsm
 rw [rl_eq, tm_eq] at c1
 simp only [go_sem]
 refine call (light_den l) [] ?_
 simp only [go_sem, hd]
 refine call (roll9 l) [] ?_
 simp only [go_sem]
 refine call c1 [25] ?_
 simp only [go_sem]
 refine call (next_den l q T.ros.length hl hq (by omega)) [25] ?_
 rw [hz]
 simp only [go_sem, hzl, e0]
 refine ⟨okD_of (by kernel_rfl), ?_⟩
 generalize el T.ros z = su at *
 have hC : ∃ C : Cs, C = ⟨0, 3, su, 0⟩ := ⟨_, rfl⟩
 obtain ⟨C, hC⟩ := hC
 have hcv : caseV C = true := by rw [hC]; exact caseV_t ⟨by show (0 : Int) ≤ 0; omega, by show (0 : Int) < 40; omega, by show 0 ≤ su; omega, by show su < 64; omega, by show (0 : Int) ≤ 0; omega, by show (0 : Int) ≤ 1; omega, .inr (.inr rfl)⟩
 have hO : openB C = true := openB_iff.2 ⟨hcv, by rw [hC], by rw [hC]; show (3 : Int) ≠ 1; omega⟩
 have hE : C.ep = T.ep := by rw [hC, hTe]
 have hbT : big T.ros.length := by simp only [big]; omega
 have r0 : rightB C ⟨[1], []⟩ = true := right01 hcv (by rw [hC]; show (3 : Int) ≠ 1; omega) (by omega)
 have r1 : rightB (sec1 C) ⟨[0], []⟩ = true := right01 (sec1_ok hO) (by rw [hC]; show (3 : Int) ≠ 1; omega) (by omega)
 have o0 : okCt ⟨[1], []⟩ := ⟨by simp, by simp⟩
 have o1 : okCt ⟨[0], []⟩ := ⟨by simp, by simp⟩
 have k0 : C.kd ≠ 1 := by rw [hC]; show (3 : Int) ≠ 1; omega
 have p0 : ∀ s : List Int, ∀ y ∈ allFor C 0 ⟨[1], []⟩ s, plS y ∧ bigS y := fun s y hy => ⟨(vt_pl k0 rfl y hy).1, ((vt_pl k0 rfl y hy).2 o0).big⟩
 have p1 : ∀ s : List Int, ∀ y ∈ allFor (sec1 C) 1 ⟨[0], []⟩ s, plS y ∧ bigS y := fun s y hy => ⟨(vt_pl (c := sec1 C) k0 rfl y hy).1, ((vt_pl (c := sec1 C) k0 rfl y hy).2 o1).big⟩
 have d0 := seatsD_den R T C hB hbT
 have d1 := seatsD_den R T (sec1 C) hB hbT
 have l0 := seatsG_len R T C
 have l1 := seatsG_len R T (sec1 C)
 have z0 := seatsG_zero hr hT hcv hE (by rw [hC])
 have cv0 := fun au => vote_den au 0 C ⟨[1], []⟩ o0
 have cv1 := fun au => vote_den au 1 (sec1 C) ⟨[0], []⟩ o1
 have hT0 := mem_of_el (show 0 < T.ros.length by omega)
 have hT0r := (rosV_pw hT.ros).2.1 _ hT0
 have ca := stmt2_den (el T.ros 0) 5 0 (apD C) (apD_ok C)
 have kS := stmt_okS (el T.ros 0) 5 0 (apD C) (apD_ok C)
 have qa : askB T.ros C (stmt (el T.ros 0) 5 0 (apD C)) = true := by
  rw [ask_stmt T.ros (el T.ros 0) 5 0 C C (by omega) (by omega) (by omega) hcv]
  simp [hT0]
 have qv : ∀ d, okV d (stmt (el T.ros 0) 5 0 (apD C)) = false := fun d => okV_nk (by show (15 : Int) ≠ 10; omega)
 have qp : plS (stmt (el T.ros 0) 5 0 (apD C)) := pl_stmt (by show (15 : Int) ≠ 10; omega)
 have law := fun A : List Stm => both_susp (r := R) (t := T) (c := C) (x0 := ⟨[1], []⟩) (x1 := ⟨[0], []⟩) (ap := A) hr hT hO hE (by rw [hC]) (by rw [hC]; exact hsm) r0 r1
 have hbV : ∀ A : List Stm, bothV R T C ⟨[1], []⟩ ⟨[0], []⟩ A = rfL R T C ⟨[1], []⟩ ⟨[0], []⟩ 2 ++ A := fun A => rfl
 simp only [hbV] at law
 have e1 : rfL R T C ⟨[1], []⟩ ⟨[0], []⟩ 1 = allFor C 0 ⟨[1], []⟩ (seatsG R T C).1 := rfl
 have e2 := rfL_two R T C ⟨[1], []⟩ ⟨[0], []⟩
 have ez : rfL R T C ⟨[1], []⟩ ⟨[0], []⟩ 0 = [] := rfl
 generalize rfL R T C ⟨[1], []⟩ ⟨[0], []⟩ = V at *
 generalize hS0 : seatsG R T C = S0 at *
 obtain ⟨s0, f0⟩ := S0
 have hs1n := seatsG_err (r := R) (c := sec1 C) hT
 generalize hS1 : seatsG R T (sec1 C) = S1 at *
 obtain ⟨s1, f1⟩ := S1
 dsimp only at d0 d1 l0 l1 z0 e1 e2 law hs1n
 subst z0
 have hc0 : cs C = [.int .i64 0, .int .i64 3, .int .i64 su, .int .i64 0] := by rw [hC]; rfl
 have hc1 : cs (sec1 C) = [.int .i64 0, .int .i64 3, .int .i64 su, .int .i64 1] := by rw [hC]; rfl
 have hda : dr (apD C) = [.int .i64 15, .int .i64 0, .int .i64 3, .int .i64 su, .vs [], .vs []] := by rw [hC]; rfl
 have hx0 : ct ⟨[1], []⟩ = [.vs [i1 1], .vs []] := rfl
 have hx1 : ct ⟨[0], []⟩ = [.vs [i1 0], .vs []] := rfl
 rw [rl_eq, tm_eq, hc0] at d0
 rw [rl_eq, tm_eq, hc1] at d1
 simp only [hc0, hx0] at cv0
 simp only [hc1, hx1] at cv1
 rw [hda] at ca
 refine promote 10 120 60 13 false ?_ ?_ ?_ (by omega)
 ·refine loop Tryz.mixed (0 : Nat) (fun i : Nat => [(1, .bool ap), (6, .ptr 6 0), (7, .ptr 7 0), (9, .ptr 9 0), (10, .os 120 (V i).length), (11, .bool (if i = 2 then decide (f1 = 0) else false)), (12, .int .i64 i)]) (fun i => [(6, .cells (rl R)), (7, .cells (tm T)), (9, .cells [.int .i64 0, .int .i64 3, .int .i64 su, .int .i64 ((i - 1 : Nat) : Int)]), (120, .arr 60 13 false ((V i).map sm))]) (fun i => i ≤ 2) (fun i => 2 - i) (by kernel_rfl) (Nat.zero_le _) ?_ ?_
  ·rw [ez]
   simp only [go_sem, List.map_nil, List.length_nil]
  ·intro i hi
   have hi3 : i = 0 ∨ i = 1 ∨ i = 2 := by omega
   rcases hi3 with rfl | rfl | rfl
   ·rw [ez]
    simp only [go_sem]
    refine call d0 [] ?_
    simp only [go_sem]
    refine loop Tryz.mixed (0 : Nat) (fun m : Nat => [(1, .bool ap), (6, .ptr 6 0), (7, .ptr 7 0), (9, .ptr 9 0), (10, .os 120 (allFor C 0 ⟨[1], []⟩ (s0.take m)).length), (11, .bool false), (12, .int .i64 0), (13, .vs (s0.map i1)), (15, .int .i64 m)]) (fun m => [(6, .cells (rl R)), (7, .cells (tm T)), (9, .cells [.int .i64 0, .int .i64 3, .int .i64 su, .int .i64 0]), (120, .arr 60 13 false ((allFor C 0 ⟨[1], []⟩ (s0.take m)).map sm))]) (fun m => m ≤ s0.length) (fun m => s0.length - m) (by kernel_rfl) (Nat.zero_le _) ?_ ?_
    ·simp only [go_sem, allFor, List.map_nil, List.length_nil]
    ·intro m hm
     by_cases hm' : m < s0.length
     ·have hlt : (m : Int) < (s0.length : Int) := by omega
      have hsu2 := allFor_succ (c := C) (nu := 0) (x := ⟨[1], []⟩) hm'
      have hln : (allFor C 0 ⟨[1], []⟩ (s0.take m)).length ≤ 64 := by rw [allFor_len, List.length_take]; omega
      have cv := cv0 (el s0 m)
      have w1 : IntKind.i64.wrap 1 = 1 := by decide +kernel
      generalize vt (el s0 m) 0 C ⟨[1], []⟩ = v at *
      generalize allFor C 0 ⟨[1], []⟩ (s0.take m) = o at *
      simp only [go_sem, hlt, hm', w1]
      refine call cv [] ?_
      simp only [go_sem]
      refine ⟨by omega, okD_of (by kernel_rfl), m + 1, ⟨by omega, by omega⟩, ?_⟩
      rw [hsu2]
      exact ⟨⟨by simp, by rw [wrapI] <;> omega⟩, by rw [List.map_append]; rfl⟩
     ·have hlt : ¬ (m : Int) < (s0.length : Int) := by omega
      have : m = s0.length := by omega
      subst this
      rw [List.take_length, ← e1]
      simp only [go_sem, hlt]
      refine ⟨1, ⟨by omega, by omega⟩, ?_⟩
      simp only [go_sem]
      decide +kernel
   ·simp only [go_sem]
    refine call d1 [] ?_
    have e2' : V 2 = V 1 ++ allFor (sec1 C) 1 ⟨[0], []⟩ s1 := by
     rw [e2, e1]
     split
     ·rfl
     ·rename_i h9
      rw [hs1n h9]
      rfl
    have hfl : ∀ b : Bool, b = decide (f1 = 0) → True := fun _ _ => trivial
    simp only [go_sem]
    refine loop Tryz.mixed (0 : Nat) (fun m : Nat => [(1, .bool ap), (6, .ptr 6 0), (7, .ptr 7 0), (9, .ptr 9 0), (10, .os 120 (V 1 ++ allFor (sec1 C) 1 ⟨[0], []⟩ (s1.take m)).length), (11, .bool (decide (f1 = 0))), (12, .int .i64 1), (13, .vs (s1.map i1)), (15, .int .i64 m)]) (fun m => [(6, .cells (rl R)), (7, .cells (tm T)), (9, .cells [.int .i64 0, .int .i64 3, .int .i64 su, .int .i64 1]), (120, .arr 60 13 false ((V 1 ++ allFor (sec1 C) 1 ⟨[0], []⟩ (s1.take m)).map sm))]) (fun m => m ≤ s1.length) (fun m => s1.length - m) (by kernel_rfl) (Nat.zero_le _) ?_ ?_
    ·simp only [go_sem, allFor, List.map_nil, List.length_nil]
    ·intro m hm
     by_cases hm' : m < s1.length
     ·have hlt : (m : Int) < (s1.length : Int) := by omega
      have hsu2 := allFor_succ (c := sec1 C) (nu := 1) (x := ⟨[0], []⟩) hm'
      have hln : (V 1 ++ allFor (sec1 C) 1 ⟨[0], []⟩ (s1.take m)).length ≤ 128 := by rw [List.length_append, e1, allFor_len, allFor_len, List.length_take]; omega
      have cv := cv1 (el s1 m)
      have w1 : IntKind.i64.wrap 0 = 0 := by decide +kernel
      generalize vt (el s1 m) 1 (sec1 C) ⟨[0], []⟩ = v at *
      have ho : V 1 ++ allFor (sec1 C) 1 ⟨[0], []⟩ (s1.take (m + 1)) = (V 1 ++ allFor (sec1 C) 1 ⟨[0], []⟩ (s1.take m)) ++ [v] := by rw [hsu2, List.append_assoc]
      generalize V 1 ++ allFor (sec1 C) 1 ⟨[0], []⟩ (s1.take m) = o at *
      simp only [go_sem, hlt, hm', w1]
      refine call cv [] ?_
      simp only [go_sem]
      refine ⟨by omega, okD_of (by kernel_rfl), m + 1, ⟨by omega, by omega⟩, ?_⟩
      have h9 := congrArg List.length ho
      simp only [List.length_append, List.length_cons, List.length_nil] at h9
      rw [ho]
      exact ⟨⟨by omega, by rw [wrapI] <;> omega⟩, by rw [List.map_append]; rfl⟩
     ·have hlt : ¬ (m : Int) < (s1.length : Int) := by omega
      have : m = s1.length := by omega
      subst this
      rw [List.take_length, ← e2']
      simp only [go_sem, hlt]
      refine ⟨2, ⟨by omega, by omega⟩, ?_⟩
      simp only [go_sem]
      decide +kernel
   ·have hV2 : ∀ y ∈ V 2, plS y ∧ bigS y := fun y hy => by
     rw [e2] at hy
     rcases List.mem_append.1 hy with h | h
     ·exact p0 _ y h
     ·split at h
      ·exact p1 _ y h
      ·simp at h
    have hVl : (V 2).length ≤ 128 := by
     rw [e2, List.length_append, allFor_len]
     split
     ·rw [allFor_len]; omega
     ·simp only [List.length_nil]; omega
    have hsu3 : C.su = su := by rw [hC]
    rw [hsu3] at law
    have u4 : Tryz.prog.underlying 4 = some .bool := by kernel_rfl
    cases ap
    ·have c1 := stays_den R (V 2) T su hr hT hB (by omega) (fun s hs => (hV2 s hs).2) (fun s hs => (hV2 s hs).1)
     have c2 := suspended_den R (V 2) T hr hT hB (by omega) (fun s hs => (hV2 s hs).2) (fun s hs => (hV2 s hs).1)
     have lw := law [] (by simp) (by simp) true (by simp)
     rw [List.append_nil, if_pos rfl] at lw
     rw [lw] at c1 c2
     rw [decide_eq_true hsm, decide_eq_true (show su ∈ [su] by simp)] at c1
     have ch := has24 [su] su (by simp [big])
     rw [decide_eq_true (show su ∈ [su] by simp)] at ch
     rw [rl_eq, tm_eq] at c1 c2
     simp only [go_sem]
     refine call c1 [] ?_
     simp only [go_sem]
     refine call c2 [] ?_
     simp only [go_sem, u4]
     refine call ch [] ?_
     simp only [go_sem, u4]
     refine call awake37_den [] ?_
     simp only [go_sem]
     done
    ·have hMo : ∀ s ∈ V 2 ++ [stmt (el T.ros 0) 5 0 (apD C)], plS s ∧ bigS s := fun s hs => by
      rcases List.mem_append.1 hs with h | h
      ·exact hV2 s h
      ·rw [List.mem_singleton] at h; rw [h]; exact ⟨qp, kS.big⟩
     have hMl : (V 2 ++ [stmt (el T.ros 0) 5 0 (apD C)]).length ≤ 900 := by rw [List.length_append, List.length_singleton]; omega
     have c1 := stays_den R (V 2 ++ [stmt (el T.ros 0) 5 0 (apD C)]) T su hr hT hB hMl (fun s hs => (hMo s hs).2) (fun s hs => (hMo s hs).1)
     have c2 := suspended_den R (V 2 ++ [stmt (el T.ros 0) 5 0 (apD C)]) T hr hT hB hMl (fun s hs => (hMo s hs).2) (fun s hs => (hMo s hs).1)
     have lw := law [stmt (el T.ros 0) 5 0 (apD C)] (fun s hs d => by rw [List.mem_singleton] at hs; rw [hs]; exact qv d) (by simp [qa]) (!decide (f1 = 0)) (by by_cases hf : f1 = 0 <;> simp [hf])
     rw [lw] at c1 c2
     have hMm : (V 2).map sm ++ [sm (stmt (el T.ros 0) 5 0 (apD C))] = (V 2 ++ [stmt (el T.ros 0) 5 0 (apD C)]).map sm := by simp
     have hMn : (V 2).length + 1 = (V 2 ++ [stmt (el T.ros 0) 5 0 (apD C)]).length := by simp
     generalize stmt (el T.ros 0) 5 0 (apD C) = st at *
     simp only [sm_eq] at hMm
     rw [rl_eq, tm_eq] at c1 c2
     by_cases hf : f1 = 0
     ·rw [decide_eq_true hf, Bool.not_true, if_neg (by simp)] at c1 c2
      rw [decide_eq_true hsm] at c1
      have ch := has24 [] su (by simp [big])
      simp only [go_sem, hf]
      refine ⟨by omega, call ca [] ?_⟩
      simp only [go_sem]
      (repeat refine And.intro (by first | omega | exact okD_of (by kernel_rfl)) ?_)
      rw [hMn, hMm]
      refine call c1 [] ?_
      simp only [go_sem]
      refine call c2 [] ?_
      simp only [go_sem, u4, hf, List.map_nil]
      refine call ch [] ?_
      simp only [go_sem, u4]
      refine call awake37_den [] ?_
      simp only [go_sem]
      done
     ·rw [decide_eq_false hf, Bool.not_false, if_pos rfl] at c1 c2
      rw [decide_eq_true hsm, decide_eq_true (show su ∈ [su] by simp)] at c1
      have ch := has24 [su] su (by simp [big])
      rw [decide_eq_true (show su ∈ [su] by simp)] at ch
      simp only [go_sem, hf]
      refine ⟨by omega, call ca [] ?_⟩
      simp only [go_sem]
      (repeat refine And.intro (by first | omega | exact okD_of (by kernel_rfl)) ?_)
      rw [hMn, hMm]
      refine call c1 [] ?_
      simp only [go_sem]
      refine call c2 [] ?_
      simp only [go_sem, u4, hf]
      refine call ch [] ?_
      simp only [go_sem, u4]
      refine call awake37_den [] ?_
      simp only [go_sem]
      done
 ·simp only [go_sem]
 ·simp only [go_sem]
end Go.Proofs.Am
