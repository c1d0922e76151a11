/- The mill's cases and turned lists. -/
import Derived.Test.YtabmciccahfjiaaGreatDoorCThree
import Derived.Test.YtabmciccahfjiaaGreatDoorDThree
import Derived.Test.YtabmciccahfjiaaGreatDoorETwo
set_option linter.unusedSimpArgs false
set_option linter.unusedVariables false
namespace Go.Proofs.Am
open Go Go.RowKit
open Go.Proofs

/-- The mill's case. -/
def mcase (l : List Int) (p : Nat) (ep : Int) : Cs × Nat :=
  if dnext l p 3 ≠ 0 then (⟨ep, 1 + dnext l p 3, dnext l (dgo l p 1) 7, dnext l (dgo l p 2) 2⟩, dgo l p 3) else (⟨ep, 1, 0, 0⟩, dgo l p 1)
theorem mcase_le {l : List Int} {p : Nat} (hp : p ≤ l.length) (ep : Int) : (mcase l p ep).2 ≤ l.length := by
  unfold mcase
  split <;> exact dgo_le hp _
set_option maxHeartbeats 1000000 in
set_option maxRecDepth 100000 in
theorem mcase_den (l : List Int) (p : Nat) (ep : Int) (hl : big l.length) (hp : p ≤ l.length) : Den Tryz.prog 17 [.ptr 1000000 0, .int .i64 ep] [dbox l p] (.agg (cs (mcase l p ep).1)) [] [dbox l (mcase l p ep).2] := by
  refine den_of Tryz.mixed Tryz.func17 rfl Tryz.call17 Tryz.ntmps17 (congrArg Array.toList Tryz.results17) (by simp) (by kernel_rfl) [] (exts := [1000000]) rfl rfl ?_
  have hp1 := dgo_le hp 1
  have hp2 := dgo_le hp 2
  have e0 : dpos l p = dgo l p 1 := rfl
  have b1 := dnext_lt (l := l) (p := p) (n := 3) (by omega)
  have w1 : IntKind.i64.wrap (1 + dnext l p 3) = 1 + dnext l p 3 := by rw [wrapI] <;> omega
  have hm : mcase l p ep = if dnext l p 3 ≠ 0 then (⟨ep, 1 + dnext l p 3, dnext l (dgo l p 1) 7, dnext l (dgo l p 2) 2⟩, dgo l p 3) else (⟨ep, 1, 0, 0⟩, dgo l p 1) := rfl
  generalize mcase l p ep = m at *
  simp only [go_sem]
  refine call (next_den l p 3 hl hp (by omega)) [1000000] ?_
  generalize hk : dnext l p 3 = k at *
  by_cases k0 : k = 0
  · subst k0
    rw [if_neg (by simp)] at hm
    subst hm
    have w0 : IntKind.i64.wrap 1 = 1 := by rw [wrapI] <;> omega
    simp only [go_sem, e0, w0, cs_eq]
  · rw [if_pos k0] at hm
    subst hm
    have k1 : ¬ 1 + k = 1 := by omega
    simp only [go_sem, e0, w1, k1, cs_eq]
    refine call (next_den l (dgo l p 1) 7 hl hp1 (by omega)) [1000000] ?_
    simp only [go_sem, dgo_succ]
    refine call (next_den l (dgo l p 2) 2 hl hp2 (by omega)) [1000000] ?_
    simp only [go_sem, dgo_succ]

/-- A list that begins at another place. -/
def turnS (l : List Stm) (n : Int) : List Stm := (List.range l.length).map fun i => el l ((i + (mmod n l.length).toNat) % l.length)
def turnP (l : List Stm) (n : Int) (i : Nat) : List Stm := (List.range i).map fun i => el l ((i + (mmod n l.length).toNat) % l.length)
theorem turnP_succ (l : List Stm) (n : Int) (i : Nat) : turnP l n (i + 1) = turnP l n i ++ [el l ((i + (mmod n l.length).toNat) % l.length)] := by simp [turnP, List.range_succ]
theorem turnP_len (l : List Stm) (n : Int) (i : Nat) : (turnP l n i).length = i := by simp [turnP]
set_option maxHeartbeats 1000000 in
set_option maxRecDepth 100000 in
theorem mturn_den (l : List Stm) (n : Int) (hl : l.length ≤ 1000000) : Den Tryz.prog 21 [.vs (l.map sm), .int .i64 n] [] (.vs ((turnS l n).map sm)) [] [] := by
  refine den_of Tryz.mixed Tryz.func21 rfl Tryz.call21 Tryz.ntmps21 (congrArg Array.toList Tryz.results21) (by simp) (by kernel_rfl) [] (exts := []) rfl rfl ?_
  simp only [go_sem]
  refine promote 5 110 63 13 false ?_ ?_ ?_ (by omega)
  · refine loop Tryz.mixed 0 (fun i : Nat => [(0, .vs (l.map sm)), (1, .int .i64 n), (5, .os 110 (turnP l n i).length), (6, .int .i64 i)]) (fun i => [(110, .arr 63 13 false ((turnP l n i).map sm))]) (fun i => i ≤ l.length) (fun i => l.length - i) (by kernel_rfl) (Nat.zero_le _) ?_ ?_
    · simp only [go_sem]
      simp [turnP]
    · intro i hi
      by_cases hlt : i < l.length
      · have h1 : (i : Int) < (l.length : Int) := by omega
        have hs := turnP_succ l n i
        have hln := turnP_len l n i
        have hm := mmod_lt (n := n) (m := l.length) (by omega)
        have hmn : mmod n l.length = ((mmod n l.length).toNat : Int) := by omega
        generalize turnP l n i = o at *
        generalize hmk : mmod n l.length = m at *
        simp only [go_sem, h1]
        refine call (mmod29 n l.length (by omega)) [] ?_
        rw [hmk]
        obtain ⟨k, rfl⟩ : ∃ k : Nat, m = k := ⟨m.toNat, hmn⟩
        have hw : IntKind.i64.wrap ((i : Int) + (k : Int)) = ((i + k : Nat) : Int) := by rw [wrapI] <;> omega
        have hw2 : ((i + k : Nat) : Int).tmod (l.length : Int) = (((i + k) % l.length : Nat) : Int) := by rw [Int.tmod_eq_emod_of_nonneg (by omega)]; rfl
        have hlt2 : (i + k) % l.length < l.length := Nat.mod_lt _ (by omega)
        have h0 : ¬ (l.length : Int) = 0 := by omega
        rw [Int.toNat_natCast] at hs
        generalize hj : (i + k) % l.length = j at *
        simp only [go_sem, hw, hw2, h0, hlt2]
        refine ⟨by omega, i + 1, ⟨by omega, by omega⟩, ⟨by rw [hs]; simp, by rw [wrapI] <;> omega⟩, ?_⟩
        rw [hs]
        simp [sm]
      · have h1 : ¬ (i : Int) < (l.length : Int) := by omega
        have : i = l.length := by omega
        subst this
        simp only [go_sem, h1]
        rfl
  · simp only [go_sem]
  · simp only [go_sem]
end Go.Proofs.Am

/- The document's votes and cases: what they are made of. -/
namespace Go.Proofs.Am
open Go Go.RowKit
open Go.Proofs

set_option maxHeartbeats 1000000 in
set_option maxRecDepth 100000 in
theorem rof_den (s : Stm) (hs : bigS s) : Den Tryz.prog 120 [.agg (sm s)] [] (.tup [.agg (vt7 (ofE s).1), .int .i64 (ofE s).2]) [] [] := by
  refine den_of Tryz.mixed Tryz.func120 rfl Tryz.call120 Tryz.ntmps120 (congrArg Array.toList Tryz.results120) (by simp) (by kernel_rfl) [] (exts := []) rfl rfl ?_
  have c2 := rcheck_denB s hs
  generalize hr : ofE s = r
  rw [sm] at c2 ⊢
  simp only [go_sem]
  refine call c2 [] ?_
  by_cases z1 : checkE s = 0
  rotate_left
  · have : r = (noV, checkE s) := by rw [← hr, ofE, if_pos z1]
    subst this
    simp only [go_sem, z1, noV]
  have hx := okS_ct z1
  have hb := (checkE_zero z1)
  have hb1 := hb.1
  have hb2 := hb.2.1
  have c4 := right_den (mkV s).c (mkV s).x hx
  rw [cs_eq, ct_eq] at c4
  simp only [mkV] at c4
  have hz : ¬ checkE s ≠ 0 := fun h => h z1
  have hw : IntKind.i64.wrap (s.b.tdiv 16) = s.b.tdiv 16 := by
    have h4 := hb.2.2.2
    simp only [valB, inB, Bool.and_eq_true, decide_eq_true_eq] at h4
    have h5 : s.b.tdiv 16 = s.b / 16 := Int.tdiv_eq_ediv_of_nonneg (by omega)
    rw [wrapI] <;> omega
  clear hb
  by_cases k1 : s.kd = 10
  rotate_left
  · have : r = (noV, 42) := by rw [← hr, ofE, if_neg hz, if_neg (fun h => k1 h.1)]
    subst this
    simp only [go_sem, z1, k1, noV]
    (repeat refine And.intro (by first | omega | exact okD_of (by kernel_rfl)) ?_)
    all_goals exact okD_of (by kernel_rfl)
  by_cases k2 : s.body = []
  rotate_left
  · have : r = (noV, 42) := by rw [← hr, ofE, if_neg hz, if_neg (fun h => k2 h.2.1)]
    subst this
    simp only [go_sem, z1, k1, k2, noV]
    (repeat refine And.intro (by first | omega | exact okD_of (by kernel_rfl)) ?_)
    all_goals exact okD_of (by kernel_rfl)
  simp only [go_sem, z1, k1, k2]
  (repeat refine And.intro (by first | omega | exact okD_of (by kernel_rfl)) ?_)
  refine call c4 [] ?_
  by_cases k3 : rightB (mkV s).c (mkV s).x = true
  · have : r = (mkV s, 0) := by rw [← hr, ofE, if_neg hz, if_pos ⟨k1, k2, k3⟩]
    subst this
    simp only [mkV] at k3
    simp only [go_sem, k3, mkV, hw]
  · have : r = (noV, 42) := by rw [← hr, ofE, if_neg hz, if_neg (fun h => k3 h.2.2)]
    subst this
    simp only [mkV, Bool.not_eq_true] at k3
    simp only [go_sem, k3, noV, hw]

set_option maxHeartbeats 1000000 in
set_option maxRecDepth 100000 in
theorem rvote_den (s : Stm) (hs : bigS s) : Den Tryz.prog 78 [.agg (sm s)] [] (.tup [.agg (vt7 (voteE s).1), .bool (voteE s).2]) [] [] := by
  refine den_of Tryz.mixed Tryz.func78 rfl Tryz.call78 Tryz.ntmps78 (congrArg Array.toList Tryz.results78) (by simp) (by kernel_rfl) [] (exts := []) rfl rfl ?_
  have c1 := rof_den s hs
  have c2 := fun h : (ofE s).2 = 0 => rsealed_den s (okS_ofE h)
  generalize hr : voteE s = r
  rw [sm] at c1 c2 ⊢
  simp only [go_sem]
  refine call c1 [] ?_
  by_cases k1 : (ofE s).2 = 0
  · simp only [go_sem, k1]
    refine call (c2 k1) [] ?_
    simp only [go_sem]
    refine ⟨okD_of (by kernel_rfl), ?_⟩
    rw [← hr]
    exact ⟨⟨rfl, rfl, rfl, rfl, rfl, rfl, rfl⟩, by simp [voteE, k1]⟩
  · simp only [go_sem, k1]
    refine ⟨okD_of (by kernel_rfl), ?_⟩
    rw [← hr]
    exact ⟨⟨rfl, rfl, rfl, rfl, rfl, rfl, rfl⟩, by simp [voteE, k1]⟩

theorem cmpV_neg (a b : Vt) : cmpV a b < 0 ↔ a.k < b.k ∨ a.k = b.k ∧ ordC a.x b.x < 0 := by
  unfold cmpV or2 cmpI
  by_cases h1 : a.k < b.k
  · simp [h1]
  · by_cases h2 : b.k < a.k
    · simp [h1, h2]; omega
    · have : a.k = b.k := by omega
      simp [this]
set_option maxHeartbeats 1000000 in
set_option maxRecDepth 100000 in
theorem before_den (a b : Vt) (ha : bigC a.x) (hb : bigC b.x) : Den Tryz.prog 79 [.agg (vt7 a), .agg (vt7 b)] [] (.bool (decide (cmpV a b < 0))) [] [] := by
  refine den_of Tryz.mixed Tryz.func79 rfl Tryz.call79 Tryz.ntmps79 (congrArg Array.toList Tryz.results79) (by simp) (by kernel_rfl) [] (exts := []) rfl rfl ?_
  by_cases h1 : a.k < b.k
  · have h : cmpV a b < 0 := (cmpV_neg a b).2 (.inl h1)
    simp only [go_sem, h1, h]
  by_cases h2 : a.k = b.k
  rotate_left
  · have h : ¬ cmpV a b < 0 := fun h => by rcases (cmpV_neg a b).1 h with h | h <;> omega
    simp only [go_sem, h1, h2, h]
  have h : cmpV a b < 0 ↔ ordC a.x b.x < 0 := ⟨fun h => by rcases (cmpV_neg a b).1 h with h | h; omega; exact h.2, fun h => (cmpV_neg a b).2 (.inr ⟨h2, h⟩)⟩
  have h3 : ¬ b.k < b.k := by omega
  simp only [go_sem, h1, h2, h3]
  refine call (order23_den a.x b.x ha.1 ha.2 hb.1 hb.2) [] ?_
  simp only [go_sem]
  simp [h]

/-- A case comes ahead of another one. -/
def earlC (a b : Cs) : Bool := if a.ep ≠ b.ep then decide (a.ep < b.ep) else if a.kd ≠ b.kd then decide (a.kd < b.kd) else if a.su ≠ b.su then decide (a.su < b.su) else decide (a.ro < b.ro)
set_option maxHeartbeats 1000000 in
set_option maxRecDepth 100000 in
theorem earlier_den (a b : Cs) : Den Tryz.prog 80 [.agg (cs a), .agg (cs b)] [] (.bool (earlC a b)) [] [] := by
  refine den_of Tryz.mixed Tryz.func80 rfl Tryz.call80 Tryz.ntmps80 (congrArg Array.toList Tryz.results80) (by simp) (by kernel_rfl) [] (exts := []) rfl rfl ?_
  rw [cs_eq, cs_eq, earlC]
  by_cases h1 : a.ep = b.ep
  rotate_left
  · simp only [go_sem, h1]
  by_cases h2 : a.kd = b.kd
  rotate_left
  · simp only [go_sem, h1, h2]
  by_cases h3 : a.su = b.su
  rotate_left
  · simp only [go_sem, h1, h2, h3]
  simp only [go_sem, h1, h2, h3]

end Go.Proofs.Am

/- slices.Compact of cases. -/
namespace Go.Proofs.Am
open Go Go.RowKit
open Go.Proofs

theorem kp_full {α : Type} [Inhabited α] (q : α → α → Bool) (l : List α) (h : ∀ j, 0 < j → j < l.length → q (el l j) (el l (j - 1)) = false) : kp q l l.length = l := by
  rw [kp_take q l l.length (Nat.le_refl _) h, List.take_length]
def sameC (a b : Cs) : Bool := decide (a = b)
theorem cs_ext (a b : Cs) : a = b ↔ (a.ep = b.ep ∧ a.kd = b.kd ∧ a.su = b.su ∧ a.ro = b.ro) := by
  cases a
  cases b
  simp
def zC : List PV := [.int .i64 0, .int .i64 0, .int .i64 0, .int .i64 0]
theorem zC_eq : zC = [PV.int .i64 0, PV.int .i64 0, PV.int .i64 0, PV.int .i64 0].map purZ := (rfl)
theorem dec_cs (a b : Cs) : (decide (a.ep = b.ep) && (decide (a.kd = b.kd) && (decide (a.su = b.su) && decide (a.ro = b.ro)))) = sameC a b := by
  unfold sameC
  rw [Bool.eq_iff_iff]
  simp [cs_ext]
theorem set_take {α : Type} [Inhabited α] {L o : List α} {v : α} (h1 : o.length < L.length) (h2 : L.take o.length = o) : (L.set o.length v).take (o ++ [v]).length = o ++ [v] := by
  rw [List.length_append, List.length_singleton, List.take_add_one, List.take_set_of_le (Nat.le_refl _), h2]
  simp [h1]
theorem set_el {α : Type} [Inhabited α] {L : List α} {v : α} {k a : Nat} (h : k < a) : el (L.set k v) a = el L a := by
  simp only [el, List.getD_eq_getElem?_getD, List.getElem?_set]
  rw [if_neg (by omega)]
set_option maxHeartbeats 1000000 in
set_option maxRecDepth 100000 in
theorem compactC1_den (l : List Cs) (hl : big l.length) (hd : ∀ i, 0 < i → i < l.length → sameC (el l i) (el l (i - 1)) = false) :
    Den Tryz.prog 58 [.os 1000000 l.length] [.arr 29 4 false (l.map cs)] (.os 1000000 l.length) [] [.arr 29 4 false (l.map cs)] := by
  refine den_of Tryz.mixed Tryz.func58 rfl Tryz.call58 Tryz.ntmps58 (congrArg Array.toList Tryz.results58) (by simp) (by kernel_rfl) [] (exts := [1000000]) rfl rfl ?_
  by_cases h2 : (l.length : Int) < 2
  · simp only [go_sem, h2]
  simp only [go_sem, h2]
  refine loop Tryz.mixed 1 (fun i : Nat => [(0, .os 1000000 l.length), (3, .int .i64 i)]) (fun _ => [(1000000, .arr 29 4 false (l.map cs))]) (fun i => 1 ≤ i ∧ i ≤ l.length) (fun i => l.length - i) (by kernel_rfl) ⟨Nat.le_refl _, by omega⟩ ?_ ?_
  · simp only [go_sem]
  · rintro i ⟨hi0, hi⟩
    by_cases hlt : i < l.length
    · have h1 : (i : Int) < (l.length : Int) := by omega
      obtain ⟨j, rfl⟩ : ∃ j, i = j + 1 := ⟨i - 1, by omega⟩
      have hw : IntKind.i64.wrap (((j + 1 : Nat) : Int) - 1) = (j : Int) := by rw [wrapI] <;> omega
      have hj : j < l.length := by omega
      have hne := hd (j + 1) (by omega) hlt
      rw [Nat.add_sub_cancel] at hne
      have hne2 := of_decide_eq_false hne
      rw [cs_ext] at hne2
      simp only [go_sem, h1, hlt, hw, hj, cs_eq]
      refine ⟨okD_of (by kernel_rfl), fun h => absurd h hne2, fun _ => ⟨j + 1 + 1, ⟨⟨by omega, by omega⟩, by omega⟩, ?_⟩⟩
      rw [wrapI] <;> omega
    · have h1 : ¬ (i : Int) < (l.length : Int) := by omega
      simp only [go_sem, h1]

set_option maxHeartbeats 1000000 in
set_option maxRecDepth 100000 in
theorem compactC2_den (l : List Cs) (hl : big l.length) {k0 : Nat} (h1 : 0 < k0) (h2 : k0 < l.length) (h3 : sameC (el l k0) (el l (k0 - 1)) = true) (h4 : ∀ j, 0 < j → j < k0 → sameC (el l j) (el l (j - 1)) = false) :
    Den Tryz.prog 58 [.os 1000000 l.length] [.arr 29 4 false (l.map cs)] (.vs ((kp sameC l l.length).map cs)) [] [.arr 29 4 true ((kp sameC l l.length).map cs ++ List.replicate (l.length - (kp sameC l l.length).length) zC)] := by
  refine den_of Tryz.mixed Tryz.func58 rfl Tryz.call58 Tryz.ntmps58 (congrArg Array.toList Tryz.results58) (by simp) (by kernel_rfl) [] (exts := [1000000]) rfl rfl ?_
  have hlen : ¬ (l.length : Int) < 2 := by omega
  simp only [go_sem, hlen]
  refine loopC Tryz.mixed 1 (fun i : Nat => [(0, .os 1000000 l.length), (3, .int .i64 i)]) (fun _ => [(1000000, .arh 29 4 (l.map cs))]) (fun i => 1 ≤ i ∧ i ≤ k0) (fun i => k0 - i) (by kernel_rfl) ⟨Nat.le_refl _, by omega⟩ ?_ ?_
  · refine Cv.trans (Cv.opn (n := 1000000) (by rfl)) (Cv.wk ?_)
    have hin := hinLL_map [1000000] cs (fun _ => rfl) l
    simp only [go_sem, hin]
  · rintro i ⟨hi0, hi⟩
    have hlt : i < l.length := by omega
    have g1 : (i : Int) < (l.length : Int) := by omega
    obtain ⟨j, rfl⟩ : ∃ j, i = j + 1 := ⟨i - 1, by omega⟩
    have hw : IntKind.i64.wrap (((j + 1 : Nat) : Int) - 1) = (j : Int) := by rw [wrapI] <;> omega
    have hj : j < l.length := by omega
    have hq : sameC (el l (j + 1)) (el l j) = decide (el l (j + 1) = el l j) := rfl
    by_cases hk : j + 1 < k0
    · have hne := h4 (j + 1) (by omega) hk
      rw [Nat.add_sub_cancel] at hne
      have hne2 := of_decide_eq_false hne
      rw [cs_ext] at hne2
      simp only [go_sem, g1, hlt, hw, hj, cs_eq]
      refine ⟨okD_of (by kernel_rfl), fun h => absurd h hne2, fun _ => ⟨j + 1 + 1, ⟨⟨by omega, by omega⟩, by omega⟩, Cv.wk ?_⟩⟩
      have hin := hinLL_map [1000000] cs (fun _ => rfl) l
      simp only [go_sem, hin]
      rw [wrapI] <;> omega
    · obtain rfl : k0 = j + 1 := by omega
      rw [Nat.add_sub_cancel] at h3
      have he2 := of_decide_eq_true h3
      rw [cs_ext] at he2
      simp only [go_sem, g1, hlt, hw, hj, cs_eq, he2]
      refine ⟨okD_of (by kernel_rfl), ?_⟩
      have kf : kp sameC l (j + 1 + 1) = l.take (j + 1) := by
        have := kp_take sameC l (j + 1) (by omega) h4
        rw [kp, if_neg (fun h => by rcases h with h | h; omega; rw [Nat.add_sub_cancel, h3] at h; cases h), this, List.append_nil]
      refine loopC Tryz.mixed (0, l) (fun s : Nat × List Cs => [(0, .os 1000000 l.length), (3, .int .i64 (kp sameC l (j + 1 + (s.1 + 1))).length), (4, .osl 1000000 l.length (j + 1)), (5, .int .i64 ((s.1 + 1 : Nat) : Int))]) (fun s => [(1000000, .arh 29 4 (s.2.map cs))])
        (fun s => j + 1 + (s.1 + 1) ≤ l.length ∧ s.2.length = l.length ∧ (kp sameC l (j + 1 + (s.1 + 1))).length < j + 1 + (s.1 + 1) ∧ s.2.take (kp sameC l (j + 1 + (s.1 + 1))).length = kp sameC l (j + 1 + (s.1 + 1)) ∧ ∀ a, (kp sameC l (j + 1 + (s.1 + 1))).length ≤ a → el s.2 a = el l a) (fun s => l.length - s.1) (by kernel_rfl) ?_ ?_ ?_
      · have hlt' : (l.take (j + 1)).length = j + 1 := by simp; omega
        refine ⟨by simp only; omega, rfl, ?_, ?_, fun a _ => rfl⟩
        · show (kp sameC l (j + 1 + 1)).length < j + 1 + 1
          rw [kf, hlt']; omega
        · show l.take (kp sameC l (j + 1 + 1)).length = kp sameC l (j + 1 + 1)
          rw [kf, hlt']
      · refine Cv.wk ?_
        have hlt' : (l.take (j + 1)).length = j + 1 := by simp; omega
        have hin := hinLL_map [1000000] cs (fun _ => rfl) l
        simp only [go_sem, hin, kf, hlt']
      · rintro ⟨n, L⟩ ⟨i1, i2, i3, i4, i5⟩
        simp only at i1 i2 i3 i4 i5
        simp only
        have ks : kp sameC l (j + 1 + (n + 1) + 1) = kp sameC l (j + 1 + (n + 1)) ++ if sameC (el l (j + 1 + (n + 1))) (el l (j + 1 + n)) = false then [el l (j + 1 + (n + 1))] else [] := by
          rw [kp]
          have h0 : ¬ j + 1 + (n + 1) = 0 := by omega
          simp only [h0, false_or]
          rfl
        have k0p : 0 < (kp sameC l (j + 1 + (n + 1))).length := kp_pos _ _ (by omega)
        generalize hO : kp sameC l (j + 1 + (n + 1)) = o at *
        by_cases hm : j + 1 + (n + 1) < l.length
        · have g2 : ((n + 1 : Nat) : Int) < ((l.length - (j + 1) : Nat) : Int) := by omega
          have g3 : ((j + 1 : Nat) : Int) + ((n + 1 : Nat) : Int) < (l.length : Int) := by omega
          have g4 : ((j + 1 : Nat) : Int) + (n : Int) < (l.length : Int) := by omega
          have g5 : IntKind.i64.wrap (((n + 1 : Nat) : Int) - 1) = (n : Int) := by rw [wrapI] <;> omega
          have g6 : j + 1 + (n + 1) < L.length := by omega
          have g7 : j + 1 + n < L.length := by omega
          have e1 : el L (j + 1 + (n + 1)) = el l (j + 1 + (n + 1)) := i5 _ (by omega)
          have e2 : el L (j + 1 + n) = el l (j + 1 + n) := i5 _ (by omega)
          have ks' : kp sameC l (j + 1 + ((n + 1) + 1)) = o ++ if sameC (el l (j + 1 + (n + 1))) (el l (j + 1 + n)) = false then [el l (j + 1 + (n + 1))] else [] := ks
          cases hsame : sameC (el l (j + 1 + (n + 1))) (el l (j + 1 + n)) with
          | true =>
            rw [hsame, if_neg (by simp), List.append_nil] at ks'
            simp only [go_sem, g2, g3, g4, g5, g6, g7, i2, e1, e2, dec_cs, hsame]
            refine ⟨hm, by omega, okD_of (by kernel_rfl), (n + 1, L), ⟨⟨by simp only; omega, i2, ?_, ?_, fun a ha => i5 a ?_⟩, by simp only; omega⟩, Cv.wk ?_⟩
            · show (kp sameC l (j + 1 + ((n + 1) + 1))).length < _
              rw [ks']; simp only; omega
            · show L.take (kp sameC l (j + 1 + ((n + 1) + 1))).length = _
              rw [ks']; exact i4
            · have ha' : (kp sameC l (j + 1 + ((n + 1) + 1))).length ≤ a := ha
              rwa [ks'] at ha'
            · have hin := hinLL_map [1000000] cs (fun _ => rfl) L
              simp only [go_sem, ks', hin]
              rw [wrapI] <;> omega
          | false =>
            rw [hsame, if_pos rfl] at ks'
            simp only [go_sem, g2, g3, g4, g5, g6, g7, i2, e1, e2, dec_cs, hsame]
            refine ⟨hm, by omega, okD_of (by kernel_rfl), hm, by omega, by omega, (n + 1, L.set o.length (el l (j + 1 + (n + 1)))), ⟨⟨by simp only; omega, by simp only [List.length_set]; exact i2, ?_, ?_, fun a ha => ?_⟩, by simp only; omega⟩, Cv.wk ?_⟩
            · show (kp sameC l (j + 1 + ((n + 1) + 1))).length < _
              rw [ks', List.length_append, List.length_singleton]; simp only; omega
            · show (L.set o.length (el l (j + 1 + (n + 1)))).take (kp sameC l (j + 1 + ((n + 1) + 1))).length = kp sameC l (j + 1 + ((n + 1) + 1))
              rw [ks']; exact set_take (by omega) i4
            · have ha' : (kp sameC l (j + 1 + ((n + 1) + 1))).length ≤ a := ha
              rw [ks', List.length_append, List.length_singleton] at ha'
              show el (L.set o.length _) a = _
              rw [set_el (by omega)]
              exact i5 a (by omega)
            · have hin := hinLL_map [1000000] cs (fun _ => rfl) (L.set o.length (el l (j + 1 + (n + 1))))
              have hset : (L.map cs).set o.length [PV.int IntKind.i64 (el l (j + 1 + (n + 1))).ep, PV.int IntKind.i64 (el l (j + 1 + (n + 1))).kd, PV.int IntKind.i64 (el l (j + 1 + (n + 1))).su, PV.int IntKind.i64 (el l (j + 1 + (n + 1))).ro] = (L.set o.length (el l (j + 1 + (n + 1)))).map cs := by rw [List.map_set]; rfl
              have hol : (o ++ [el l (j + 1 + (n + 1))]).length = o.length + 1 := by simp
              simp only [go_sem, ks', hset, hin, hol]
              exact ⟨by rw [wrapI] <;> omega, by rw [wrapI] <;> omega⟩
        · have hend : j + 1 + (n + 1) = l.length := by omega
          have g2 : ¬ ((n + 1 : Nat) : Int) < ((l.length - (j + 1) : Nat) : Int) := by omega
          have g3 : (o.length : Int) < (l.length : Int) := by omega
          rw [hend] at hO
          rw [hO]
          have htk : (L.map cs).take o.length = o.map cs := by rw [← List.map_take, i4]
          have hpu : ∀ σ, purLL σ (o.map cs ++ List.replicate (l.length - o.length) zC) = some (o.map cs ++ List.replicate (l.length - o.length) zC, []) := fun σ => purLL_of fun x hx => by
            rcases List.mem_append.1 hx with hx | hx
            · obtain ⟨c, _, rfl⟩ := List.mem_map.1 hx
              rfl
            · rw [List.eq_of_mem_replicate hx]
              rfl
          have g4 : (o.length : Int) ≤ (l.length : Int) := by omega
          have g5 : (o.map cs ++ List.replicate (l.length - o.length) zC).length = l.length := by simp; omega
          have g6 : (o.map cs ++ List.replicate (l.length - o.length) zC).take o.length = o.map cs := by simp
          simp only [go_sem, g2, g3, i2, htk]
          refine cvQ_exit _ _ ?_
          have g7 : o.length < l.length := by omega
          simp only [go_sem, g2, g3, i2, htk, g7, ← zC_eq, hpu, g4, g5, g6]
          refine cvQ_ret _ ?_
          simp only [go_sem]

/-- slices.Compact of cases. -/
theorem compactC_den (l : List Cs) (hl : big l.length) :
    ∃ new, new.length = l.length ∧ Den Tryz.prog 58 [.os 1000000 l.length] [.arr 29 4 false (l.map cs)] (.vs ((kp sameC l l.length).map cs)) [] [.arr 29 4 true new] := by
  rcases kp_first sameC l l.length (Nat.le_refl _) with h | ⟨k0, h1, h2, h3, h4⟩
  · rw [kp_full _ _ h]
    exact ⟨_, by simp, (compactC1_den l hl h).vsE (by simp)⟩
  · exact ⟨_, by have := kp_len sameC l l.length; simp; omega, compactC2_den l hl h1 h2 h3 h4⟩
end Go.Proofs.Am
