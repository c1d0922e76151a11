/- The mill's cases and turned lists. -/
import Derived.Test.YtdfieogkeinkmaaGreatDoorCThree
import Derived.Test.YtdfieogkeinkmaaGreatDoorDThree
import Derived.Test.YtdfieogkeinkmaaGreatDoorETwo
set_option linter.unusedSimpArgs false
set_option linter.unusedVariables false
namespace Go.Proofs.Am
open Go Go.RowKit
open Go.Proofs

/-- The mill's case. -/
def mcase (l : List Int) (p : Nat) (ep : Int) : Cs × Nat :=
  if dnext l p 3 ≠ 0 then (⟨ep, 1 + dnext l p 3, dnext l (dgo l p 1) 7, dnext l (dgo l p 2) 2⟩, dgo l p 3) else (⟨ep, 1, 0, 0⟩, dgo l p 1)
/-- A list that begins at another place. -/
def turnS (l : List Stm) (n : Int) : List Stm := (List.range l.length).map fun i => el l ((i + (mmod n l.length).toNat) % l.length)
def turnP (l : List Stm) (n : Int) (i : Nat) : List Stm := (List.range i).map fun i => el l ((i + (mmod n l.length).toNat) % l.length)
theorem turnP_succ (l : List Stm) (n : Int) (i : Nat) : turnP l n (i + 1) = turnP l n i ++ [el l ((i + (mmod n l.length).toNat) % l.length)] := by simp [turnP, List.range_succ]
theorem turnP_len (l : List Stm) (n : Int) (i : Nat) : (turnP l n i).length = i := by simp [turnP]
set_option maxHeartbeats 1000000 in
set_option maxRecDepth 100000 in
theorem mturn_den (l : List Stm) (n : Int) (hl : l.length ≤ 1000000) : Den Tryz.prog 24 [.vs (l.map sm), .int .i64 n] [] (.vs ((turnS l n).map sm)) [] [] := by
  refine den_of Tryz.mixed Tryz.func24 rfl Tryz.call24 Tryz.ntmps24 (congrArg Array.toList Tryz.results24) (by simp) (by kernel_rfl) [] (exts := []) rfl rfl ?_
  simp only [go_sem]
  refine promote 5 110 41 13 false ?_ ?_ ?_ (by omega)
  · refine loop Tryz.mixed 0 (fun i : Nat => [(0, .vs (l.map sm)), (1, .int .i64 n), (5, .os 110 (turnP l n i).length), (6, .int .i64 i)]) (fun i => [(110, .arr 41 13 false ((turnP l n i).map sm))]) (fun i => i ≤ l.length) (fun i => l.length - i) (by kernel_rfl) (Nat.zero_le _) ?_ ?_
    · simp only [go_sem]
      simp [turnP]
    · intro i hi
      by_cases hlt : i < l.length
      · have h1 : (i : Int) < (l.length : Int) := by omega
        have hs := turnP_succ l n i
        have hln := turnP_len l n i
        have hm := mmod_lt (n := n) (m := l.length) (by omega)
        have hmn : mmod n l.length = ((mmod n l.length).toNat : Int) := by omega
        generalize turnP l n i = o at *
        generalize hmk : mmod n l.length = m at *
        simp only [go_sem, h1]
        refine call (mmod29 n l.length (by omega)) [] ?_
        rw [hmk]
        obtain ⟨k, rfl⟩ : ∃ k : Nat, m = k := ⟨m.toNat, hmn⟩
        have hw : IntKind.i64.wrap ((i : Int) + (k : Int)) = ((i + k : Nat) : Int) := by rw [wrapI] <;> omega
        have hw2 : ((i + k : Nat) : Int).tmod (l.length : Int) = (((i + k) % l.length : Nat) : Int) := by rw [Int.tmod_eq_emod_of_nonneg (by omega)]; rfl
        have hlt2 : (i + k) % l.length < l.length := Nat.mod_lt _ (by omega)
        have h0 : ¬ (l.length : Int) = 0 := by omega
        rw [Int.toNat_natCast] at hs
        generalize hj : (i + k) % l.length = j at *
        simp only [go_sem, hw, hw2, h0, hlt2]
        refine ⟨by omega, i + 1, ⟨by omega, by omega⟩, ⟨by rw [hs]; simp, by rw [wrapI] <;> omega⟩, ?_⟩
        rw [hs]
        simp [sm]
      · have h1 : ¬ (i : Int) < (l.length : Int) := by omega
        have : i = l.length := by omega
        subst this
        simp only [go_sem, h1]
        rfl
  · simp only [go_sem]
  · simp only [go_sem]
end Go.Proofs.Am

/- The document's votes and cases: what they are made of. -/
namespace Go.Proofs.Am
open Go Go.RowKit
open Go.Proofs

set_option maxHeartbeats 1000000 in
set_option maxRecDepth 100000 in
theorem rof_den (s : Stm) (hs : bigS s) : Den Tryz.prog 60 [.agg (sm s)] [] (.tup [.agg (vt7 (ofE s).1), .int .i64 (ofE s).2]) [] [] := by
  refine den_of Tryz.mixed Tryz.func60 rfl Tryz.call60 Tryz.ntmps60 (congrArg Array.toList Tryz.results60) (by simp) (by kernel_rfl) [] (exts := []) rfl rfl ?_
  have c2 := rcheck_denB s hs
  generalize hr : ofE s = r
  rw [sm] at c2 ⊢
  simp only [go_sem]
  refine call c2 [] ?_
  by_cases z1 : checkE s = 0
  rotate_left
  · have : r = (noV, checkE s) := by rw [← hr, ofE, if_pos z1]
    subst this
    simp only [go_sem, z1, noV]
  have hx := okS_ct z1
  have hb := (checkE_zero z1)
  have hb1 := hb.1
  have hb2 := hb.2.1
  have c4 := right_den (mkV s).c (mkV s).x hx
  rw [cs_eq, ct_eq] at c4
  simp only [mkV] at c4
  have hz : ¬ checkE s ≠ 0 := fun h => h z1
  have hw : IntKind.i64.wrap (s.b.tdiv 16) = s.b.tdiv 16 := by
    have h4 := hb.2.2.2
    simp only [valB, inB, Bool.and_eq_true, decide_eq_true_eq] at h4
    have h5 : s.b.tdiv 16 = s.b / 16 := Int.tdiv_eq_ediv_of_nonneg (by omega)
    rw [wrapI] <;> omega
  clear hb
  by_cases k1 : s.kd = 10
  rotate_left
  · have : r = (noV, 42) := by rw [← hr, ofE, if_neg hz, if_neg (fun h => k1 h.1)]
    subst this
    simp only [go_sem, z1, k1, noV]
    (repeat refine And.intro (by first | omega | exact okD_of (by kernel_rfl)) ?_)
    all_goals exact okD_of (by kernel_rfl)
  by_cases k2 : s.body = []
  rotate_left
  · have : r = (noV, 42) := by rw [← hr, ofE, if_neg hz, if_neg (fun h => k2 h.2.1)]
    subst this
    simp only [go_sem, z1, k1, k2, noV]
    (repeat refine And.intro (by first | omega | exact okD_of (by kernel_rfl)) ?_)
    all_goals exact okD_of (by kernel_rfl)
  simp only [go_sem, z1, k1, k2]
  (repeat refine And.intro (by first | omega | exact okD_of (by kernel_rfl)) ?_)
  refine call c4 [] ?_
  by_cases k3 : rightB (mkV s).c (mkV s).x = true
  · have : r = (mkV s, 0) := by rw [← hr, ofE, if_neg hz, if_pos ⟨k1, k2, k3⟩]
    subst this
    simp only [mkV] at k3
    simp only [go_sem, k3, mkV, hw]
  · have : r = (noV, 42) := by rw [← hr, ofE, if_neg hz, if_neg (fun h => k3 h.2.2)]
    subst this
    simp only [mkV, Bool.not_eq_true] at k3
    simp only [go_sem, k3, noV, hw]

set_option maxHeartbeats 1000000 in
set_option maxRecDepth 100000 in
theorem rvote_den (s : Stm) (hs : bigS s) : Den Tryz.prog 117 [.agg (sm s)] [] (.tup [.agg (vt7 (voteE s).1), .bool (voteE s).2]) [] [] := by
  refine den_of Tryz.mixed Tryz.func117 rfl Tryz.call117 Tryz.ntmps117 (congrArg Array.toList Tryz.results117) (by simp) (by kernel_rfl) [] (exts := []) rfl rfl ?_
  have c1 := rof_den s hs
  have c2 := fun h : (ofE s).2 = 0 => rsealed_den s (okS_ofE h)
  generalize hr : voteE s = r
  rw [sm] at c1 c2 ⊢
  simp only [go_sem]
  refine call c1 [] ?_
  by_cases k1 : (ofE s).2 = 0
  · simp only [go_sem, k1]
    refine call (c2 k1) [] ?_
    simp only [go_sem]
    refine ⟨okD_of (by kernel_rfl), ?_⟩
    rw [← hr]
    exact ⟨⟨rfl, rfl, rfl, rfl, rfl, rfl, rfl⟩, by simp [voteE, k1]⟩
  · simp only [go_sem, k1]
    refine ⟨okD_of (by kernel_rfl), ?_⟩
    rw [← hr]
    exact ⟨⟨rfl, rfl, rfl, rfl, rfl, rfl, rfl⟩, by simp [voteE, k1]⟩

theorem cmpV_neg (a b : Vt) : cmpV a b < 0 ↔ a.k < b.k ∨ a.k = b.k ∧ ordC a.x b.x < 0 := by
  unfold cmpV or2 cmpI
  by_cases h1 : a.k < b.k
  · simp [h1]
  · by_cases h2 : b.k < a.k
    · simp [h1, h2]; omega
    · have : a.k = b.k := by omega
      simp [this]
set_option maxHeartbeats 1000000 in
set_option maxRecDepth 100000 in
theorem before_den (a b : Vt) (ha : bigC a.x) (hb : bigC b.x) : Den Tryz.prog 118 [.agg (vt7 a), .agg (vt7 b)] [] (.bool (decide (cmpV a b < 0))) [] [] := by
  refine den_of Tryz.mixed Tryz.func118 rfl Tryz.call118 Tryz.ntmps118 (congrArg Array.toList Tryz.results118) (by simp) (by kernel_rfl) [] (exts := []) rfl rfl ?_
  by_cases h1 : a.k < b.k
  · have h : cmpV a b < 0 := (cmpV_neg a b).2 (.inl h1)
    simp only [go_sem, h1, h]
  by_cases h2 : a.k = b.k
  rotate_left
  · have h : ¬ cmpV a b < 0 := fun h => by rcases (cmpV_neg a b).1 h with h | h <;> omega
    simp only [go_sem, h1, h2, h]
  have h : cmpV a b < 0 ↔ ordC a.x b.x < 0 := ⟨fun h => by rcases (cmpV_neg a b).1 h with h | h; omega; exact h.2, fun h => (cmpV_neg a b).2 (.inr ⟨h2, h⟩)⟩
  have h3 : ¬ b.k < b.k := by omega
  simp only [go_sem, h1, h2, h3]
  refine call (order23_den a.x b.x ha.1 ha.2 hb.1 hb.2) [] ?_
  simp only [go_sem]
  simp [h]

/-- A case comes ahead of another one. -/
def earlC (a b : Cs) : Bool := if a.ep ≠ b.ep then decide (a.ep < b.ep) else if a.kd ≠ b.kd then decide (a.kd < b.kd) else if a.su ≠ b.su then decide (a.su < b.su) else decide (a.ro < b.ro)
end Go.Proofs.Am

/- slices.Compact of cases. -/
namespace Go.Proofs.Am
open Go Go.RowKit
open Go.Proofs

theorem kp_full {α : Type} [Inhabited α] (q : α → α → Bool) (l : List α) (h : ∀ j, 0 < j → j < l.length → q (el l j) (el l (j - 1)) = false) : kp q l l.length = l := by
  rw [kp_take q l l.length (Nat.le_refl _) h, List.take_length]
def sameC (a b : Cs) : Bool := decide (a = b)
theorem cs_ext (a b : Cs) : a = b ↔ (a.ep = b.ep ∧ a.kd = b.kd ∧ a.su = b.su ∧ a.ro = b.ro) := by
  cases a
  cases b
  simp
def zC : List PV := [.int .i64 0, .int .i64 0, .int .i64 0, .int .i64 0]
theorem dec_cs (a b : Cs) : (decide (a.ep = b.ep) && (decide (a.kd = b.kd) && (decide (a.su = b.su) && decide (a.ro = b.ro)))) = sameC a b := by
  unfold sameC
  rw [Bool.eq_iff_iff]
  simp [cs_ext]
theorem set_take {α : Type} [Inhabited α] {L o : List α} {v : α} (h1 : o.length < L.length) (h2 : L.take o.length = o) : (L.set o.length v).take (o ++ [v]).length = o ++ [v] := by
  rw [List.length_append, List.length_singleton, List.take_add_one, List.take_set_of_le (Nat.le_refl _), h2]
  simp [h1]
theorem set_el {α : Type} [Inhabited α] {L : List α} {v : α} {k a : Nat} (h : k < a) : el (L.set k v) a = el L a := by
  simp only [el, List.getD_eq_getElem?_getD, List.getElem?_set]
  rw [if_neg (by omega)]
end Go.Proofs.Am
