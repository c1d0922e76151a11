/- The mill's cases and turned lists. -/
import Derived.Test.YteheffakmcpdjaaGreatDoorCThree
import Derived.Test.YteheffakmcpdjaaGreatDoorDThree
import Derived.Test.YteheffakmcpdjaaGreatDoorETwo
set_option linter.unusedSimpArgs false
set_option linter.unusedVariables false
namespace Go.Proofs.Am
open Go Go.RowKit
open Go.Proofs

/-- The mill's case. -/
def mcase (l : List Int) (p : Nat) (ep : Int) : Cs × Nat :=
  if dnext l p 3 ≠ 0 then (⟨ep, 1 + dnext l p 3, dnext l (dgo l p 1) 7, dnext l (dgo l p 2) 2⟩, dgo l p 3) else (⟨ep, 1, 0, 0⟩, dgo l p 1)
theorem mcase_le {l : List Int} {p : Nat} (hp : p ≤ l.length) (ep : Int) : (mcase l p ep).2 ≤ l.length := by
  unfold mcase
  split <;> exact dgo_le hp _
set_option maxHeartbeats 1000000 in
set_option maxRecDepth 100000 in
theorem mcase_den (l : List Int) (p : Nat) (ep : Int) (hl : big l.length) (hp : p ≤ l.length) : Den Tryz.prog 12 [.ptr 1000000 0, .int .i64 ep] [dbox l p] (.agg (cs (mcase l p ep).1)) [] [dbox l (mcase l p ep).2] := by
  refine den_of Tryz.mixed Tryz.func12 rfl Tryz.call12 Tryz.ntmps12 (congrArg Array.toList Tryz.results12) (by simp) (by kernel_rfl) [] (exts := [1000000]) rfl rfl ?_
  have hp1 := dgo_le hp 1
  have hp2 := dgo_le hp 2
  have e0 : dpos l p = dgo l p 1 := rfl
  have b1 := dnext_lt (l := l) (p := p) (n := 3) (by omega)
  have w1 : IntKind.i64.wrap (1 + dnext l p 3) = 1 + dnext l p 3 := by rw [wrapI] <;> omega
  have hm : mcase l p ep = if dnext l p 3 ≠ 0 then (⟨ep, 1 + dnext l p 3, dnext l (dgo l p 1) 7, dnext l (dgo l p 2) 2⟩, dgo l p 3) else (⟨ep, 1, 0, 0⟩, dgo l p 1) := rfl
  generalize mcase l p ep = m at *
  simp only [go_sem]
  refine call (next_den l p 3 hl hp (by omega)) [1000000] ?_
  generalize hk : dnext l p 3 = k at *
  by_cases k0 : k = 0
  · subst k0
    rw [if_neg (by simp)] at hm
    subst hm
    have w0 : IntKind.i64.wrap 1 = 1 := by rw [wrapI] <;> omega
    simp only [go_sem, e0, w0, cs_eq]
  · rw [if_pos k0] at hm
    subst hm
    have k1 : ¬ 1 + k = 1 := by omega
    simp only [go_sem, e0, w1, k1, cs_eq]
    refine call (next_den l (dgo l p 1) 7 hl hp1 (by omega)) [1000000] ?_
    simp only [go_sem, dgo_succ]
    refine call (next_den l (dgo l p 2) 2 hl hp2 (by omega)) [1000000] ?_
    simp only [go_sem, dgo_succ]

/-- A list that begins at another place. -/
def turnS (l : List Stm) (n : Int) : List Stm := (List.range l.length).map fun i => el l ((i + (mmod n l.length).toNat) % l.length)
def turnP (l : List Stm) (n : Int) (i : Nat) : List Stm := (List.range i).map fun i => el l ((i + (mmod n l.length).toNat) % l.length)
theorem turnP_succ (l : List Stm) (n : Int) (i : Nat) : turnP l n (i + 1) = turnP l n i ++ [el l ((i + (mmod n l.length).toNat) % l.length)] := by simp [turnP, List.range_succ]
theorem turnP_len (l : List Stm) (n : Int) (i : Nat) : (turnP l n i).length = i := by simp [turnP]
set_option maxHeartbeats 1000000 in
set_option maxRecDepth 100000 in
theorem mturn_den (l : List Stm) (n : Int) (hl : l.length ≤ 1000000) : Den Tryz.prog 28 [.vs (l.map sm), .int .i64 n] [] (.vs ((turnS l n).map sm)) [] [] := by
  refine den_of Tryz.mixed Tryz.func28 rfl Tryz.call28 Tryz.ntmps28 (congrArg Array.toList Tryz.results28) (by simp) (by kernel_rfl) [] (exts := []) rfl rfl ?_
  simp only [go_sem]
  refine promote 5 110 44 13 false ?_ ?_ ?_ (by omega)
  · refine loop Tryz.mixed 0 (fun i : Nat => [(0, .vs (l.map sm)), (1, .int .i64 n), (5, .os 110 (turnP l n i).length), (6, .int .i64 i)]) (fun i => [(110, .arr 44 13 false ((turnP l n i).map sm))]) (fun i => i ≤ l.length) (fun i => l.length - i) (by kernel_rfl) (Nat.zero_le _) ?_ ?_
    · simp only [go_sem]
      simp [turnP]
    · intro i hi
      by_cases hlt : i < l.length
      · have h1 : (i : Int) < (l.length : Int) := by omega
        have hs := turnP_succ l n i
        have hln := turnP_len l n i
        have hm := mmod_lt (n := n) (m := l.length) (by omega)
        have hmn : mmod n l.length = ((mmod n l.length).toNat : Int) := by omega
        generalize turnP l n i = o at *
        generalize hmk : mmod n l.length = m at *
        simp only [go_sem, h1]
        refine call (mmod29 n l.length (by omega)) [] ?_
        rw [hmk]
        obtain ⟨k, rfl⟩ : ∃ k : Nat, m = k := ⟨m.toNat, hmn⟩
        have hw : IntKind.i64.wrap ((i : Int) + (k : Int)) = ((i + k : Nat) : Int) := by rw [wrapI] <;> omega
        have hw2 : ((i + k : Nat) : Int).tmod (l.length : Int) = (((i + k) % l.length : Nat) : Int) := by rw [Int.tmod_eq_emod_of_nonneg (by omega)]; rfl
        have hlt2 : (i + k) % l.length < l.length := Nat.mod_lt _ (by omega)
        have h0 : ¬ (l.length : Int) = 0 := by omega
        rw [Int.toNat_natCast] at hs
        generalize hj : (i + k) % l.length = j at *
        simp only [go_sem, hw, hw2, h0, hlt2]
        refine ⟨by omega, i + 1, ⟨by omega, by omega⟩, ⟨by rw [hs]; simp, by rw [wrapI] <;> omega⟩, ?_⟩
        rw [hs]
        simp [sm]
      · have h1 : ¬ (i : Int) < (l.length : Int) := by omega
        have : i = l.length := by omega
        subst this
        simp only [go_sem, h1]
        rfl
  · simp only [go_sem]
  · simp only [go_sem]
end Go.Proofs.Am

/- The document's votes and cases: what they are made of. -/
namespace Go.Proofs.Am
open Go Go.RowKit
open Go.Proofs

/-- A case comes ahead of another one. -/
def earlC (a b : Cs) : Bool := if a.ep ≠ b.ep then decide (a.ep < b.ep) else if a.kd ≠ b.kd then decide (a.kd < b.kd) else if a.su ≠ b.su then decide (a.su < b.su) else decide (a.ro < b.ro)
end Go.Proofs.Am

/- slices.Compact of cases. -/
namespace Go.Proofs.Am
open Go Go.RowKit
open Go.Proofs

theorem kp_full {α : Type} [Inhabited α] (q : α → α → Bool) (l : List α) (h : ∀ j, 0 < j → j < l.length → q (el l j) (el l (j - 1)) = false) : kp q l l.length = l := by
  rw [kp_take q l l.length (Nat.le_refl _) h, List.take_length]
def sameC (a b : Cs) : Bool := decide (a = b)
theorem cs_ext (a b : Cs) : a = b ↔ (a.ep = b.ep ∧ a.kd = b.kd ∧ a.su = b.su ∧ a.ro = b.ro) := by
  cases a
  cases b
  simp
def zC : List PV := [.int .i64 0, .int .i64 0, .int .i64 0, .int .i64 0]
theorem dec_cs (a b : Cs) : (decide (a.ep = b.ep) && (decide (a.kd = b.kd) && (decide (a.su = b.su) && decide (a.ro = b.ro)))) = sameC a b := by
  unfold sameC
  rw [Bool.eq_iff_iff]
  simp [cs_ext]
theorem set_take {α : Type} [Inhabited α] {L o : List α} {v : α} (h1 : o.length < L.length) (h2 : L.take o.length = o) : (L.set o.length v).take (o ++ [v]).length = o ++ [v] := by
  rw [List.length_append, List.length_singleton, List.take_add_one, List.take_set_of_le (Nat.le_refl _), h2]
  simp [h1]
theorem set_el {α : Type} [Inhabited α] {L : List α} {v : α} {k a : Nat} (h : k < a) : el (L.set k v) a = el L a := by
  simp only [el, List.getD_eq_getElem?_getD, List.getElem?_set]
  rw [if_neg (by omega)]
end Go.Proofs.Am
