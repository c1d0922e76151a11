/- RF1. -/
import Derived.Test.YtdodifpogaoioaaGreatB18
import Derived.Test.YtdodifpogaoioaaGreatAmZ
import Derived.RangeFuncNested
import Derived.RangeFuncBound
import Derived.RangeFuncCalls
import Derived.RangeFuncLeaves
import Derived.Shelf.Abstract
import Derived.Shelf.RegionOpen
import Derived.WalkKit
import Derived.OwnWalkIn
import Derived.TacticsInMore
import Derived.LoopNIn
import Derived.LoopIn
set_option linter.unusedSimpArgs false
set_option linter.unusedVariables false
namespace Go.Proofs.Am
open Go Go.RowKit Go.Shelf
open Go.Proofs
attribute [local go_sem] Oper.semAt_some
def KeepC (S : Addr → Prop) (A B : World) : Prop := A.heap.size ≤ B.heap.size ∧ ∀ a, S a → B.cell? a = A.cell? a
def Nums (S : Addr → Prop) (W : World) (v : Value) (l : List Int) : Prop := RP (fun a u => W.cell? a = some u ∧ S a) v (.vs (l.map i1))
theorem nums_vals {S : Addr → Prop} {W : World} {v : Value} {l : List Int} (h : Nums S W v l) : ∃ (a : Option Addr) (c : Nat), v = .slice a l.length c ∧ l.length ≤ c ∧ (0 < l.length → ∃ ad, a = some ad ∧ ∀ i, i < l.length → W.cell? (ad.add i) = some (.int .i64 (el l i)) ∧ S (ad.add i)) := by
 obtain ⟨a, c, sz, U, h1, h2, h3, h4, h5, h6⟩ := h.vs_inv
 simp only [List.length_map] at h1 h2 h5
 refine ⟨a, c, h1, h2, fun h0 => ?_⟩
 obtain ⟨ad, rfl, h7⟩ := h5 h0
 refine ⟨ad, rfl, fun i hi => ?_⟩
 have hsz : sz = 1 := by
  have := h3 (i1 (el l 0)) (List.mem_map.2 ⟨_, el_memB l 0 h0, rfl⟩)
  simpa [i1] using this.symm
 subst hsz
 have e1 : (l.map i1)[i]? = some [.int .i64 (el l i)] := by rw [List.getElem?_map, List.getElem?_eq_getElem hi, el_get l i hi]; rfl
 have := h7 i _ 0 _ e1 rfl
 rw [Nat.mul_one, Nat.add_zero] at this
 have hu := h6 i _ 0 _ e1 rfl
 have : U i 0 = .int .i64 (el l i) := by
  generalize U i 0 = u at hu
  cases hu; rfl
 have h8 := h7 i _ 0 _ e1 rfl
 rw [Nat.mul_one, Nat.add_zero, this] at h8
 exact h8
theorem Nums.keep {S : Addr → Prop} {A B : World} {v : Value} {l : List Int} (h : Nums S A v l) (hk : KeepC S A B) : Nums S B v l :=
 RP.mono (fun a u ⟨h1, h2⟩ => ⟨(hk.2 a h2).trans h1, h2⟩) h
theorem has_calls {S : Addr → Prop} {W : World} {v : Value} {l : List Int} (k : Int) (h : Nums S W v l) (hl : big l.length) :
  Calls Tryz.prog 66 #[v, .int .i64 k] W fun e W' => e = .returned (.bool (decide (k ∈ l))) ∧ W.grownBy W' none := by
 refine (den_calls (rhas l k hl) W ⟨trivial⟩ S [v, .int .i64 k] rfl fun i w u hi hu => ?_).mono fun en w' => ?_
 ·match i, hi, hu with
  | 0, hi, hu => simp only [List.getElem?_cons_zero, Option.some.injEq] at hi hu; subst hi hu; exact h
  | 1, hi, hu => simp at hi hu; subst hi hu; exact .int _ _
  | i + 2, hi, hu => simp at hi
 ·rintro ⟨w, rfl, hg, E, hR, _⟩
  rw [hR.bool_inv]
  exact ⟨rfl, hg⟩
theorem KeepC.refl (S : Addr → Prop) (A : World) : KeepC S A A := ⟨Nat.le_refl _, fun _ _ => rfl⟩
theorem KeepC.trans {S : Addr → Prop} {A B C : World} (h : KeepC S A B) (k : KeepC S B C) : KeepC S A C := ⟨Nat.le_trans h.1 k.1, fun a ha => (k.2 a ha).trans (h.2 a ha)⟩
theorem keepC_grown {S : Addr → Prop} {A B : World} (hS : ∀ a, S a → a.block < A.heap.size) (h : A.grownBy B none) : KeepC S A B :=
 ⟨h.size, fun a ha => World.cell?_of_block (h.block a.block (hS a ha) (by simp))⟩
theorem want_lt {appl ref order : List Int} {i : Nat} (h : i < order.length) (hc : (decide (el order i ∈ appl) && !decide (el order i ∈ ref)) = true) : (want appl ref (order.take i)).length < (want appl ref order).length := by
 have h1 : want appl ref order = want appl ref (order.take (i + 1)) ++ want appl ref (order.drop (i + 1)) := by
  rw [want, want, want, ← List.filter_append, List.take_append_drop]
 rw [h1, want_take h, hc]
 simp
theorem want_pre {appl ref order : List Int} (i : Nat) : want appl ref (order.take i) <+: want appl ref order := by
 refine ⟨want appl ref (order.drop i), ?_⟩
 rw [want, want, want, ← List.filter_append, List.take_append_drop]
set_option maxRecDepth 100000 in
set_option maxHeartbeats 1000000 in
theorem wanted1_in (n : Nat) (l b1 b2 b3 : Nat) (order appl ref : List Int) (ad : Option Addr) (c : Nat) (vA vR : Value) (S : Addr → Prop) (J Jx : List Int → World → Prop) (W : World)
  (ho : order.length ≤ 1000000) (ha : big appl.length) (hf : big ref.length)
  (hY : ∀ pre x W, J pre W → pre.length < (want appl ref order).length → YieldAt Fence.wide (n - 1) Tryz.prog l #[.int .i64 x] W fun e W' =>
   (e = .returned (.bool true) ∧ J (pre ++ [x]) W' ∧ KeepC S W W') ∨ (e = .returned (.bool false) ∧ Jx (pre ++ [x]) W'))
  (hJ : ∀ pre A B, J pre A → A.grownBy B none → J pre B)
  (hS : ∀ a, S a → a.block < W.heap.size)
  (s1 : S ⟨b1, 0, none⟩) (s2 : S ⟨b2, 0, none⟩) (s3 : S ⟨b3, 0, none⟩)
  (h1 : W.cell? ⟨b1, 0, none⟩ = some (.slice ad order.length c)) (h2 : W.cell? ⟨b2, 0, none⟩ = some vA) (h3 : W.cell? ⟨b3, 0, none⟩ = some vR)
  (nO : Nums S W (.slice ad order.length c) order) (nA : Nums S W vA appl) (nR : Nums S W vR ref) (h0 : J [] W) :
  CallsIn Fence.wide n Tryz.prog 120 #[.func (.yield l) #[] #[], .pointer (some ⟨b1, 0, none⟩), .pointer (some ⟨b2, 0, none⟩), .pointer (some ⟨b3, 0, none⟩)] W fun e W' => (∃ v, e = .returned v) ∧
   ((∃ ys, ys = want appl ref order ∧ J ys W') ∨ (∃ pre, pre <+: want appl ref order ∧ Jx pre W')) := by
 refine callsIn_of_wp Tryz.func120 rfl trivial ?_ rfl
 simp only [Tryz.ntmps120, List.size_toArray, List.length_cons, List.length_nil, Nat.reduceAdd, Nat.reduceSub, Array.replicate_succ, Array.replicate_zero, List.push_toArray, List.append_toArray, List.nil_append, List.cons_append]
 gi_wp2
 gi_loopw [9] (fun p wr => ∃ i : Nat, p = .int .i64 i ∧ i ≤ order.length ∧ J (want appl ref (order.take i)) wr ∧ KeepC S W wr)
  (fun p wr => order.length - (intOf p).toNat)
 case atStart =>
  exact ⟨0, rfl, by omega, h0, .refl _ _⟩
 case round =>
  obtain ⟨i, rfl, hi, hJs, hK⟩ := hrel
  have k1 : wr.cell? ⟨b1, 0, none⟩ = some (.slice ad order.length c) := (hK.2 _ s1).trans h1
  have k2 : wr.cell? ⟨b2, 0, none⟩ = some vA := (hK.2 _ s2).trans h2
  have k3 : wr.cell? ⟨b3, 0, none⟩ = some vR := (hK.2 _ s3).trans h3
  by_cases hi' : i < order.length
  ·obtain ⟨ad', c', hv, _, hc⟩ := nums_vals (nO.keep hK)
   cases hv
   obtain ⟨ad1, had, hc2⟩ := hc (by omega)
   subst had
   obtain ⟨hci, _⟩ := hc2 i hi'
   have hA := has_calls (el order i) (nA.keep hK) ha
   gi_wp2
   refine ⟨trivial, fun h => (by cases h), ?_⟩
   refine (callsIn_wide.2 hA).mono ?_
   rintro e W2 ⟨rfl, hg2⟩
   have hS1 : ∀ a, S a → a.block < wr.heap.size := fun a ha => Nat.lt_of_lt_of_le (hS a ha) hK.1
   have hK2 := keepC_grown hS1 hg2
   have hS2 : ∀ a, S a → a.block < W2.heap.size := fun a ha => Nat.lt_of_lt_of_le (hS1 a ha) hK2.1
   have k5 : W2.cell? ⟨b3, 0, none⟩ = some vR := (hK2.2 _ s3).trans k3
   have hR := has_calls (el order i) ((nR.keep hK).keep hK2) hf
   have hJ2 := hJ _ _ _ hJs hg2
   have hw := want_take (appl := appl) (ref := ref) hi'
   by_cases m1 : el order i ∈ appl
   ·have hd1 : decide (el order i ∈ appl) = true := decide_eq_true m1
    rw [hd1]
    gi_wp2
    refine ⟨trivial, fun h => (by cases h), ?_⟩
    refine (callsIn_wide.2 hR).mono ?_
    rintro e W3 ⟨rfl, hg3⟩
    have hJ3 := hJ _ _ _ hJ2 hg3
    have hK3 := keepC_grown hS2 hg3
    by_cases m2 : el order i ∈ ref
    ·have hd2 : decide (el order i ∈ ref) = true := decide_eq_true m2
     rw [hd2]
     rw [show (decide (el order i ∈ appl) && !decide (el order i ∈ ref)) = false by simp [m2]] at hw
     gi_wp2
     refine ⟨fun _ h => (by cases h), ?_⟩
     gi_wp2
     go_roundw
     case rel => exact ⟨i + 1, rfl, by omega, by rw [hw]; simpa using hJ3, (hK.trans hK2).trans hK3⟩
     case measure => simp only [intOf]; omega
    ·have hd2 : decide (el order i ∈ ref) = false := decide_eq_false m2
     rw [hd2]
     rw [show (decide (el order i ∈ appl) && !decide (el order i ∈ ref)) = true by simp [m1, m2]] at hw
     have hlen : (want appl ref (order.take i)).length < (want appl ref order).length := want_lt hi' (by simp [m1, m2])
     obtain ⟨fn, tmps, assign, body, hy, hRd⟩ := hY (want appl ref (order.take i)) (el order i) W3 hJ3 hlen
     gi_wp2
     refine ⟨fun h => (by cases h), hRd.mono ?_⟩
     rintro e W4 (⟨rfl, hJ4, hK4⟩ | ⟨rfl, hJx4⟩)
     ·gi_wp2
      go_roundw
      case rel => exact ⟨i + 1, rfl, by omega, by rw [hw]; exact hJ4, ((hK.trans hK2).trans hK3).trans hK4⟩
      case measure => simp only [intOf]; omega
     ·gi_wp2
      refine bodyPost_ret (results_none rfl _ _ _) rfl ?_
      exact ⟨⟨_, rfl⟩, .inr ⟨want appl ref (order.take i) ++ [el order i], by have := want_pre (appl := appl) (ref := ref) (order := order) (i + 1); rw [hw] at this; exact this, hJx4⟩⟩
   ·have hd1 : decide (el order i ∈ appl) = false := decide_eq_false m1
    rw [hd1]
    rw [show (decide (el order i ∈ appl) && !decide (el order i ∈ ref)) = false by simp [m1]] at hw
    gi_wp2
    refine ⟨trivial, ?_⟩
    gi_wp2
    refine ⟨fun _ h => (by cases h), ?_⟩
    gi_wp2
    go_roundw
    case rel => exact ⟨i + 1, rfl, by omega, by rw [hw]; simpa using hJ2, hK.trans hK2⟩
    case measure => simp only [intOf]; omega
  ·have hi2 : i = order.length := by omega
   subst hi2
   gi_wp2
   go_end0
   exact ⟨⟨_, rfl⟩, .inl ⟨_, by rw [List.take_length], hJs⟩⟩
end Go.Proofs.Am
