/- EOne. -/
import Derived.Test.YteakcpfdfglndaaGreatDoorCThree
import Derived.Test.YteakcpfdfglndaaGreatDoorDThree
import Derived.Test.YteakcpfdfglndaaGreatDoorETwo
import Derived.Test.YteakcpfdfglndaaGreatDoorDSix
import Derived.Test.YteakcpfdfglndaaGreatDoorDEight
import Derived.Test.YteakcpfdfglndaaGreatDoorLOne
set_option linter.unusedSimpArgs false
set_option linter.unusedVariables false
namespace Go.Proofs.Am
open Go Go.RowKit
open Go.Proofs
end Go.Proofs.Am

/- The document's votes and cases: what they are made of. -/
namespace Go.Proofs.Am
open Go Go.RowKit
open Go.Proofs
def earlC (a b : Cs) : Bool := if a.ep ≠ b.ep then decide (a.ep < b.ep) else if a.kd ≠ b.kd then decide (a.kd < b.kd) else if a.su ≠ b.su then decide (a.su < b.su) else decide (a.ro < b.ro)
end Go.Proofs.Am

/- slices.Compact of cases. -/
namespace Go.Proofs.Am
open Go Go.RowKit
open Go.Proofs
theorem kp_full {α : Type} [Inhabited α] (q : α → α → Bool) (l : List α) (h : ∀ j, 0 < j → j < l.length → q (el l j) (el l (j - 1)) = false) : kp q l l.length = l := by
 rw [kp_take q l l.length (Nat.le_refl _) h, List.take_length]
def sameC (a b : Cs) : Bool := decide (a = b)
theorem cs_ext (a b : Cs) : a = b ↔ (a.ep = b.ep ∧ a.kd = b.kd ∧ a.su = b.su ∧ a.ro = b.ro) := by
 cases a
 cases b
 simp
def zC : List PV := [.int .i64 0, .int .i64 0, .int .i64 0, .int .i64 0]
theorem zC_eq : zC = [PV.int .i64 0, PV.int .i64 0, PV.int .i64 0, PV.int .i64 0].map purZ := (rfl)
theorem dec_cs (a b : Cs) : (decide (a.ep = b.ep) && (decide (a.kd = b.kd) && (decide (a.su = b.su) && decide (a.ro = b.ro)))) = sameC a b := by
 unfold sameC
 rw [Bool.eq_iff_iff]
 simp [cs_ext]
theorem set_take {α : Type} [Inhabited α] {L o : List α} {v : α} (h1 : o.length < L.length) (h2 : L.take o.length = o) : (L.set o.length v).take (o ++ [v]).length = o ++ [v] := by
 rw [List.length_append, List.length_singleton, List.take_add_one, List.take_set_of_le (Nat.le_refl _), h2]
 simp [h1]
theorem set_el {α : Type} [Inhabited α] {L : List α} {v : α} {k a : Nat} (h : k < a) : el (L.set k v) a = el L a := by
 simp only [el, List.getD_eq_getElem?_getD, List.getElem?_set]
 rw [if_neg (by omega)]
set_option maxHeartbeats 1000000 in
set_option maxRecDepth 100000 in
theorem compactC1_den (l : List Cs) (hl : big l.length) (hd : ∀ i, 0 < i → i < l.length → sameC (el l i) (el l (i - 1)) = false) :
  Den Tryz.prog 168 [.os 1000000 l.length] [.arr 52 4 false (l.map cs)] (.os 1000000 l.length) [] [.arr 52 4 false (l.map cs)] := by
 refine den_of Tryz.mixed Tryz.func168 rfl Tryz.call168 Tryz.ntmps168 (congrArg Array.toList Tryz.results168) (by simp) (by kernel_rfl) [] (exts := [1000000]) rfl rfl ?_
 by_cases h2 : (l.length : Int) < 2
 ·simp only [go_sem, h2]
 simp only [go_sem, h2]
 refine loop Tryz.mixed 1 (fun i : Nat => [(0, .os 1000000 l.length), (3, .int .i64 i)]) (fun _ => [(1000000, .arr 52 4 false (l.map cs))]) (fun i => 1 ≤ i ∧ i ≤ l.length) (fun i => l.length - i) (by kernel_rfl) ⟨Nat.le_refl _, by omega⟩ ?_ ?_
 ·simp only [go_sem]
 ·rintro i ⟨hi0, hi⟩
  by_cases hlt : i < l.length
  ·have h1 : (i : Int) < (l.length : Int) := by omega
   obtain ⟨j, rfl⟩ : ∃ j, i = j + 1 := ⟨i - 1, by omega⟩
   have hw : IntKind.i64.wrap (((j + 1 : Nat) : Int) - 1) = (j : Int) := by rw [wrapI] <;> omega
   have hj : j < l.length := by omega
   have hne := hd (j + 1) (by omega) hlt
   rw [Nat.add_sub_cancel] at hne
   have hne2 := of_decide_eq_false hne
   rw [cs_ext] at hne2
   simp only [go_sem, h1, hlt, hw, hj, cs_eq]
   refine ⟨okD_of (by kernel_rfl), fun h => absurd h hne2, fun _ => ⟨j + 1 + 1, ⟨⟨by omega, by omega⟩, by omega⟩, ?_⟩⟩
   rw [wrapI] <;> omega
  ·have h1 : ¬ (i : Int) < (l.length : Int) := by omega
   simp only [go_sem, h1]
set_option maxHeartbeats 1000000 in
set_option maxRecDepth 100000 in
theorem compactC2_den (l : List Cs) (hl : big l.length) {k0 : Nat} (h1 : 0 < k0) (h2 : k0 < l.length) (h3 : sameC (el l k0) (el l (k0 - 1)) = true) (h4 : ∀ j, 0 < j → j < k0 → sameC (el l j) (el l (j - 1)) = false) :
  Den Tryz.prog 168 [.os 1000000 l.length] [.arr 52 4 false (l.map cs)] (.vs ((kp sameC l l.length).map cs)) [] [.arr 52 4 true ((kp sameC l l.length).map cs ++ List.replicate (l.length - (kp sameC l l.length).length) zC)] := by
 refine den_of Tryz.mixed Tryz.func168 rfl Tryz.call168 Tryz.ntmps168 (congrArg Array.toList Tryz.results168) (by simp) (by kernel_rfl) [] (exts := [1000000]) rfl rfl ?_
 have hlen : ¬ (l.length : Int) < 2 := by omega
 simp only [go_sem, hlen]
 refine loopC Tryz.mixed 1 (fun i : Nat => [(0, .os 1000000 l.length), (3, .int .i64 i)]) (fun _ => [(1000000, .arh 52 4 (l.map cs))]) (fun i => 1 ≤ i ∧ i ≤ k0) (fun i => k0 - i) (by kernel_rfl) ⟨Nat.le_refl _, by omega⟩ ?_ ?_
 ·refine Cv.trans (Cv.opn (n := 1000000) (by rfl)) (Cv.wk ?_)
  have hin := hinLL_map [1000000] cs (fun _ => rfl) l
  simp only [go_sem, hin]
 ·rintro i ⟨hi0, hi⟩
  have hlt : i < l.length := by omega
  have g1 : (i : Int) < (l.length : Int) := by omega
  obtain ⟨j, rfl⟩ : ∃ j, i = j + 1 := ⟨i - 1, by omega⟩
  have hw : IntKind.i64.wrap (((j + 1 : Nat) : Int) - 1) = (j : Int) := by rw [wrapI] <;> omega
  have hj : j < l.length := by omega
  have hq : sameC (el l (j + 1)) (el l j) = decide (el l (j + 1) = el l j) := rfl
  by_cases hk : j + 1 < k0
  ·have hne := h4 (j + 1) (by omega) hk
   rw [Nat.add_sub_cancel] at hne
   have hne2 := of_decide_eq_false hne
   rw [cs_ext] at hne2
   simp only [go_sem, g1, hlt, hw, hj, cs_eq]
   refine ⟨okD_of (by kernel_rfl), fun h => absurd h hne2, fun _ => ⟨j + 1 + 1, ⟨⟨by omega, by omega⟩, by omega⟩, Cv.wk ?_⟩⟩
   have hin := hinLL_map [1000000] cs (fun _ => rfl) l
   simp only [go_sem, hin]
   rw [wrapI] <;> omega
  ·obtain rfl : k0 = j + 1 := by omega
   rw [Nat.add_sub_cancel] at h3
   have he2 := of_decide_eq_true h3
   rw [cs_ext] at he2
   simp only [go_sem, g1, hlt, hw, hj, cs_eq, he2]
   refine ⟨okD_of (by kernel_rfl), ?_⟩
   have kf : kp sameC l (j + 1 + 1) = l.take (j + 1) := by
    have := kp_take sameC l (j + 1) (by omega) h4
    rw [kp, if_neg (fun h => by rcases h with h | h; omega; rw [Nat.add_sub_cancel, h3] at h; cases h), this, List.append_nil]
   refine loopC Tryz.mixed (0, l) (fun s : Nat × List Cs => [(0, .os 1000000 l.length), (3, .int .i64 (kp sameC l (j + 1 + (s.1 + 1))).length), (4, .osl 1000000 l.length (j + 1)), (5, .int .i64 ((s.1 + 1 : Nat) : Int))]) (fun s => [(1000000, .arh 52 4 (s.2.map cs))])
    (fun s => j + 1 + (s.1 + 1) ≤ l.length ∧ s.2.length = l.length ∧ (kp sameC l (j + 1 + (s.1 + 1))).length < j + 1 + (s.1 + 1) ∧ s.2.take (kp sameC l (j + 1 + (s.1 + 1))).length = kp sameC l (j + 1 + (s.1 + 1)) ∧ ∀ a, (kp sameC l (j + 1 + (s.1 + 1))).length ≤ a → el s.2 a = el l a) (fun s => l.length - s.1) (by kernel_rfl) ?_ ?_ ?_
   ·have hlt' : (l.take (j + 1)).length = j + 1 := by simp; omega
    refine ⟨by simp only; omega, rfl, ?_, ?_, fun a _ => rfl⟩
    ·show (kp sameC l (j + 1 + 1)).length < j + 1 + 1
     rw [kf, hlt']; omega
    ·show l.take (kp sameC l (j + 1 + 1)).length = kp sameC l (j + 1 + 1)
     rw [kf, hlt']
   ·refine Cv.wk ?_
    have hlt' : (l.take (j + 1)).length = j + 1 := by simp; omega
    have hin := hinLL_map [1000000] cs (fun _ => rfl) l
    simp only [go_sem, hin, kf, hlt']
   ·rintro ⟨n, L⟩ ⟨i1, i2, i3, i4, i5⟩
    simp only at i1 i2 i3 i4 i5
    simp only
    have ks : kp sameC l (j + 1 + (n + 1) + 1) = kp sameC l (j + 1 + (n + 1)) ++ if sameC (el l (j + 1 + (n + 1))) (el l (j + 1 + n)) = false then [el l (j + 1 + (n + 1))] else [] := by
     rw [kp]
     have h0 : ¬ j + 1 + (n + 1) = 0 := by omega
     simp only [h0, false_or]
     rfl
    have k0p : 0 < (kp sameC l (j + 1 + (n + 1))).length := kp_pos _ _ (by omega)
    generalize hO : kp sameC l (j + 1 + (n + 1)) = o at *
    by_cases hm : j + 1 + (n + 1) < l.length
    ·have g2 : ((n + 1 : Nat) : Int) < ((l.length - (j + 1) : Nat) : Int) := by omega
     have g3 : ((j + 1 : Nat) : Int) + ((n + 1 : Nat) : Int) < (l.length : Int) := by omega
     have g4 : ((j + 1 : Nat) : Int) + (n : Int) < (l.length : Int) := by omega
     have g5 : IntKind.i64.wrap (((n + 1 : Nat) : Int) - 1) = (n : Int) := by rw [wrapI] <;> omega
     have g6 : j + 1 + (n + 1) < L.length := by omega
     have g7 : j + 1 + n < L.length := by omega
     have e1 : el L (j + 1 + (n + 1)) = el l (j + 1 + (n + 1)) := i5 _ (by omega)
     have e2 : el L (j + 1 + n) = el l (j + 1 + n) := i5 _ (by omega)
     have ks' : kp sameC l (j + 1 + ((n + 1) + 1)) = o ++ if sameC (el l (j + 1 + (n + 1))) (el l (j + 1 + n)) = false then [el l (j + 1 + (n + 1))] else [] := ks
     cases hsame : sameC (el l (j + 1 + (n + 1))) (el l (j + 1 + n)) with
     | true =>
      rw [hsame, if_neg (by simp), List.append_nil] at ks'
      simp only [go_sem, g2, g3, g4, g5, g6, g7, i2, e1, e2, dec_cs, hsame]
      refine ⟨hm, by omega, okD_of (by kernel_rfl), (n + 1, L), ⟨⟨by simp only; omega, i2, ?_, ?_, fun a ha => i5 a ?_⟩, by simp only; omega⟩, Cv.wk ?_⟩
      ·show (kp sameC l (j + 1 + ((n + 1) + 1))).length < _
       rw [ks']; simp only; omega
      ·show L.take (kp sameC l (j + 1 + ((n + 1) + 1))).length = _
       rw [ks']; exact i4
      ·have ha' : (kp sameC l (j + 1 + ((n + 1) + 1))).length ≤ a := ha
       rwa [ks'] at ha'
      ·have hin := hinLL_map [1000000] cs (fun _ => rfl) L
       simp only [go_sem, ks', hin]
       rw [wrapI] <;> omega
     | false =>
      rw [hsame, if_pos rfl] at ks'
      simp only [go_sem, g2, g3, g4, g5, g6, g7, i2, e1, e2, dec_cs, hsame]
      refine ⟨hm, by omega, okD_of (by kernel_rfl), hm, by omega, by omega, (n + 1, L.set o.length (el l (j + 1 + (n + 1)))), ⟨⟨by simp only; omega, by simp only [List.length_set]; exact i2, ?_, ?_, fun a ha => ?_⟩, by simp only; omega⟩, Cv.wk ?_⟩
      ·show (kp sameC l (j + 1 + ((n + 1) + 1))).length < _
       rw [ks', List.length_append, List.length_singleton]; simp only; omega
      ·show (L.set o.length (el l (j + 1 + (n + 1)))).take (kp sameC l (j + 1 + ((n + 1) + 1))).length = kp sameC l (j + 1 + ((n + 1) + 1))
       rw [ks']; exact set_take (by omega) i4
      ·have ha' : (kp sameC l (j + 1 + ((n + 1) + 1))).length ≤ a := ha
       rw [ks', List.length_append, List.length_singleton] at ha'
       show el (L.set o.length _) a = _
       rw [set_el (by omega)]
       exact i5 a (by omega)
      ·have hin := hinLL_map [1000000] cs (fun _ => rfl) (L.set o.length (el l (j + 1 + (n + 1))))
       have hset : (L.map cs).set o.length [PV.int IntKind.i64 (el l (j + 1 + (n + 1))).ep, PV.int IntKind.i64 (el l (j + 1 + (n + 1))).kd, PV.int IntKind.i64 (el l (j + 1 + (n + 1))).su, PV.int IntKind.i64 (el l (j + 1 + (n + 1))).ro] = (L.set o.length (el l (j + 1 + (n + 1)))).map cs := by rw [List.map_set]; rfl
       have hol : (o ++ [el l (j + 1 + (n + 1))]).length = o.length + 1 := by simp
       simp only [go_sem, ks', hset, hin, hol]
       exact ⟨by rw [wrapI] <;> omega, by rw [wrapI] <;> omega⟩
    ·have hend : j + 1 + (n + 1) = l.length := by omega
     have g2 : ¬ ((n + 1 : Nat) : Int) < ((l.length - (j + 1) : Nat) : Int) := by omega
     have g3 : (o.length : Int) < (l.length : Int) := by omega
     rw [hend] at hO
     rw [hO]
     have htk : (L.map cs).take o.length = o.map cs := by rw [← List.map_take, i4]
     have hpu : ∀ σ, purLL σ (o.map cs ++ List.replicate (l.length - o.length) zC) = some (o.map cs ++ List.replicate (l.length - o.length) zC, []) := fun σ => purLL_of fun x hx => by
      rcases List.mem_append.1 hx with hx | hx
      ·obtain ⟨c, _, rfl⟩ := List.mem_map.1 hx
       rfl
      ·rw [List.eq_of_mem_replicate hx]
       rfl
     have g4 : (o.length : Int) ≤ (l.length : Int) := by omega
     have g5 : (o.map cs ++ List.replicate (l.length - o.length) zC).length = l.length := by simp; omega
     have g6 : (o.map cs ++ List.replicate (l.length - o.length) zC).take o.length = o.map cs := by simp
     simp only [go_sem, g2, g3, i2, htk]
     refine cvQ_exit _ _ ?_
     have g7 : o.length < l.length := by omega
     simp only [go_sem, g2, g3, i2, htk, g7, ← zC_eq, hpu, g4, g5, g6]
     refine cvQ_ret _ ?_
     simp only [go_sem]
theorem compactC_den (l : List Cs) (hl : big l.length) :
  ∃ new, new.length = l.length ∧ Den Tryz.prog 168 [.os 1000000 l.length] [.arr 52 4 false (l.map cs)] (.vs ((kp sameC l l.length).map cs)) [] [.arr 52 4 true new] := by
 rcases kp_first sameC l l.length (Nat.le_refl _) with h | ⟨k0, h1, h2, h3, h4⟩
 ·rw [kp_full _ _ h]
  exact ⟨_, by simp, (compactC1_den l hl h).vsE (by simp)⟩
 ·exact ⟨_, by have := kp_len sameC l l.length; simp; omega, compactC2_den l hl h1 h2 h3 h4⟩
end Go.Proofs.Am

/- slices.CompactFunc of votes; ballot.Votes. -/
namespace Go.Proofs.Am
open Go Go.RowKit
open Go.Proofs
def sameV (a b : Vt) : Bool := decide (cmpV a b = 0)
def zV : List PV := [.int .i64 0, .int .i64 0, .int .i64 0, .int .i64 0, .int .i64 0, .vs [], .vs []]
theorem zV_eq : zV = [PV.int .i64 0, PV.int .i64 0, PV.int .i64 0, PV.int .i64 0, PV.int .i64 0, .nils, .nils].map purZ := (rfl)
set_option maxHeartbeats 1000000 in
set_option maxRecDepth 100000 in
theorem compactV2_den (l : List Vt) (hl : big l.length) (hb : ∀ a ∈ l, bigC a.x) {k0 : Nat} (h1 : 0 < k0) (h2 : k0 < l.length) (h3 : sameV (el l k0) (el l (k0 - 1)) = true) (h4 : ∀ j, 0 < j → j < k0 → sameV (el l j) (el l (j - 1)) = false) :
  Den Tryz.prog 172 [.os 1000000 l.length, .fn 173 [.ptr 1000001 0]] [.arr 116 7 false (l.map vt7), .cells [.fn 169 []]] (.vs ((kp sameV l l.length).map vt7)) [] [.arr 116 7 true ((kp sameV l l.length).map vt7 ++ List.replicate (l.length - (kp sameV l l.length).length) zV), .cells [.fn 169 []]] := by
 refine den_of Tryz.mixed Tryz.func172 rfl Tryz.call172 Tryz.ntmps172 (congrArg Array.toList Tryz.results172) (by simp) (by kernel_rfl) [] (exts := [1000000, 1000001]) rfl rfl ?_
 have hlen : ¬ (l.length : Int) < 2 := by omega
 simp only [go_sem, hlen]
 refine loopC Tryz.mixed 1 (fun i : Nat => [(0, .os 1000000 l.length), (1, .fn 173 [.ptr 1000001 0]), (5, .int .i64 i)]) (fun _ => [(1000000, .arh 116 7 (l.map vt7)), (1000001, .cells [.fn 169 []])]) (fun i => 1 ≤ i ∧ i ≤ k0) (fun i => k0 - i) (by kernel_rfl) ⟨Nat.le_refl _, by omega⟩ ?_ ?_
 ·refine Cv.trans (Cv.opn (n := 1000000) (by rfl)) (Cv.wk ?_)
  have hin := hinLL_map [1000000, 1000001] vt7 (fun _ => rfl) l
  simp only [go_sem, hin]
 ·rintro i ⟨hi0, hi⟩
  have hlt : i < l.length := by omega
  have g1 : (i : Int) < (l.length : Int) := by omega
  obtain ⟨j, rfl⟩ : ∃ j, i = j + 1 := ⟨i - 1, by omega⟩
  have hw : IntKind.i64.wrap (((j + 1 : Nat) : Int) - 1) = (j : Int) := by rw [wrapI] <;> omega
  have hj : j < l.length := by omega
  have cq := eqV_den (el l (j + 1)) (el l j) (hb _ (el_mem hlt)) (hb _ (el_mem hj))
  have hq : decide (cmpV (el l (j + 1)) (el l j) = 0) = sameV (el l (j + 1)) (el l j) := rfl
  rw [hq] at cq
  by_cases hk : j + 1 < k0
  ·have hne := h4 (j + 1) (by omega) hk
   rw [Nat.add_sub_cancel] at hne
   rw [hne] at cq
   simp only [go_sem, g1, hlt, hw, hj]
   refine call cq [1000001] ?_
   simp only [go_sem]
   refine ⟨okD_of (by kernel_rfl), j + 1 + 1, ⟨⟨by omega, by omega⟩, by omega⟩, Cv.wk ?_⟩
   have hin := hinLL_map [1000000, 1000001] vt7 (fun _ => rfl) l
   simp only [go_sem, hin]
   rw [wrapI] <;> omega
  ·obtain rfl : k0 = j + 1 := by omega
   rw [Nat.add_sub_cancel] at h3
   rw [h3] at cq
   simp only [go_sem, g1, hlt, hw, hj]
   refine call cq [1000001] ?_
   simp only [go_sem, g1, hlt, hw, hj]
   refine ⟨okD_of (by kernel_rfl), ?_⟩
   have kf : kp sameV l (j + 1 + 1) = l.take (j + 1) := by
    have := kp_take sameV l (j + 1) (by omega) h4
    rw [kp, if_neg (fun h => by rcases h with h | h; omega; rw [Nat.add_sub_cancel, h3] at h; cases h), this, List.append_nil]
   refine loopC Tryz.mixed (0, l) (fun s : Nat × List Vt => [(0, .os 1000000 l.length), (1, .fn 173 [.ptr 1000001 0]), (5, .int .i64 (kp sameV l (j + 1 + (s.1 + 1))).length), (6, .osl 1000000 l.length (j + 1)), (7, .int .i64 ((s.1 + 1 : Nat) : Int))]) (fun s => [(1000000, .arh 116 7 (s.2.map vt7)), (1000001, .cells [.fn 169 []])])
    (fun s => j + 1 + (s.1 + 1) ≤ l.length ∧ s.2.length = l.length ∧ (kp sameV l (j + 1 + (s.1 + 1))).length < j + 1 + (s.1 + 1) ∧ s.2.take (kp sameV l (j + 1 + (s.1 + 1))).length = kp sameV l (j + 1 + (s.1 + 1)) ∧ ∀ a, (kp sameV l (j + 1 + (s.1 + 1))).length ≤ a → el s.2 a = el l a) (fun s => l.length - s.1) (by kernel_rfl) ?_ ?_ ?_
   ·have hlt' : (l.take (j + 1)).length = j + 1 := by simp; omega
    refine ⟨by simp only; omega, rfl, ?_, ?_, fun a _ => rfl⟩
    ·show (kp sameV l (j + 1 + 1)).length < j + 1 + 1
     rw [kf, hlt']; omega
    ·show l.take (kp sameV l (j + 1 + 1)).length = kp sameV l (j + 1 + 1)
     rw [kf, hlt']
   ·refine Cv.wk ?_
    have hlt' : (l.take (j + 1)).length = j + 1 := by simp; omega
    have hin := hinLL_map [1000000, 1000001] vt7 (fun _ => rfl) l
    simp only [go_sem, hin, kf, hlt']
   ·rintro ⟨n, L⟩ ⟨i1, i2, i3, i4, i5⟩
    simp only at i1 i2 i3 i4 i5
    simp only
    have ks : kp sameV l (j + 1 + (n + 1) + 1) = kp sameV l (j + 1 + (n + 1)) ++ if sameV (el l (j + 1 + (n + 1))) (el l (j + 1 + n)) = false then [el l (j + 1 + (n + 1))] else [] := by
     rw [kp]
     have h0 : ¬ j + 1 + (n + 1) = 0 := by omega
     simp only [h0, false_or]
     rfl
    have k0p : 0 < (kp sameV l (j + 1 + (n + 1))).length := kp_pos _ _ (by omega)
    generalize hO : kp sameV l (j + 1 + (n + 1)) = o at *
    by_cases hm : j + 1 + (n + 1) < l.length
    ·have g2 : ((n + 1 : Nat) : Int) < ((l.length - (j + 1) : Nat) : Int) := by omega
     have g3 : ((j + 1 : Nat) : Int) + ((n + 1 : Nat) : Int) < (l.length : Int) := by omega
     have g4 : ((j + 1 : Nat) : Int) + (n : Int) < (l.length : Int) := by omega
     have g5 : IntKind.i64.wrap (((n + 1 : Nat) : Int) - 1) = (n : Int) := by rw [wrapI] <;> omega
     have g6 : j + 1 + (n + 1) < L.length := by omega
     have g7 : j + 1 + n < L.length := by omega
     have e1 : el L (j + 1 + (n + 1)) = el l (j + 1 + (n + 1)) := i5 _ (by omega)
     have e2 : el L (j + 1 + n) = el l (j + 1 + n) := i5 _ (by omega)
     have ks' : kp sameV l (j + 1 + ((n + 1) + 1)) = o ++ if sameV (el l (j + 1 + (n + 1))) (el l (j + 1 + n)) = false then [el l (j + 1 + (n + 1))] else [] := ks
     have cq2 := eqV_den (el l (j + 1 + (n + 1))) (el l (j + 1 + n)) (hb _ (el_mem hm)) (hb _ (el_mem (by omega)))
     have hq2 : decide (cmpV (el l (j + 1 + (n + 1))) (el l (j + 1 + n)) = 0) = sameV (el l (j + 1 + (n + 1))) (el l (j + 1 + n)) := rfl
     rw [hq2] at cq2
     have hm2 : j + 1 + n < l.length := by omega
     cases hsame : sameV (el l (j + 1 + (n + 1))) (el l (j + 1 + n)) with
     | true =>
      rw [hsame, if_neg (by simp), List.append_nil] at ks'
      rw [hsame] at cq2
      simp only [go_sem, g2, g3, g4, g5, g6, g7, i2, e1, e2, hm, hm2]
      refine call cq2 [1000001] ?_
      simp only [go_sem, g2, g3, g4, g5, g6, g7, i2, e1, e2, hm, hm2]
      refine ⟨okD_of (by kernel_rfl), (n + 1, L), ⟨⟨by simp only; omega, i2, ?_, ?_, fun a ha => i5 a ?_⟩, by simp only; omega⟩, Cv.wk ?_⟩
      ·show (kp sameV l (j + 1 + ((n + 1) + 1))).length < _
       rw [ks']; simp only; omega
      ·show L.take (kp sameV l (j + 1 + ((n + 1) + 1))).length = _
       rw [ks']; exact i4
      ·have ha' : (kp sameV l (j + 1 + ((n + 1) + 1))).length ≤ a := ha
       rwa [ks'] at ha'
      ·have hin := hinLL_map [1000000, 1000001] vt7 (fun _ => rfl) L
       simp only [go_sem, ks', hin]
       rw [wrapI] <;> omega
     | false =>
      rw [hsame, if_pos rfl] at ks'
      rw [hsame] at cq2
      have g8 : o.length < l.length := by omega
      simp only [go_sem, g2, g3, g4, g5, g6, g7, g8, i2, e1, e2, hm, hm2]
      refine call cq2 [1000001] ?_
      simp only [go_sem, g2, g3, g4, g5, g6, g7, g8, i2, e1, e2, hm, hm2]
      refine ⟨okD_of (by kernel_rfl), (n + 1, L.set o.length (el l (j + 1 + (n + 1)))), ⟨⟨by simp only; omega, by simp only [List.length_set]; exact i2, ?_, ?_, fun a ha => ?_⟩, by simp only; omega⟩, Cv.wk ?_⟩
      ·show (kp sameV l (j + 1 + ((n + 1) + 1))).length < _
       rw [ks', List.length_append, List.length_singleton]; simp only; omega
      ·show (L.set o.length (el l (j + 1 + (n + 1)))).take (kp sameV l (j + 1 + ((n + 1) + 1))).length = kp sameV l (j + 1 + ((n + 1) + 1))
       rw [ks']; exact set_take (by omega) i4
      ·have ha' : (kp sameV l (j + 1 + ((n + 1) + 1))).length ≤ a := ha
       rw [ks', List.length_append, List.length_singleton] at ha'
       show el (L.set o.length _) a = _
       rw [set_el (by omega)]
       exact i5 a (by omega)
      ·have hin := hinLL_map [1000000, 1000001] vt7 (fun _ => rfl) (L.set o.length (el l (j + 1 + (n + 1))))
       have hset : (L.map vt7).set o.length [PV.int IntKind.i64 (el l (j + 1 + (n + 1))).k, PV.int IntKind.i64 (el l (j + 1 + (n + 1))).c.ep, PV.int IntKind.i64 (el l (j + 1 + (n + 1))).c.kd, PV.int IntKind.i64 (el l (j + 1 + (n + 1))).c.su, PV.int IntKind.i64 (el l (j + 1 + (n + 1))).c.ro, PV.vs (List.map Am.i1 (el l (j + 1 + (n + 1))).x.li), PV.vs (List.map pn (el l (j + 1 + (n + 1))).x.pi)] = (L.set o.length (el l (j + 1 + (n + 1)))).map vt7 := by rw [List.map_set]; rfl
       have hol : (o ++ [el l (j + 1 + (n + 1))]).length = o.length + 1 := by simp
       simp only [go_sem, ks', hset, hin, hol]
       exact ⟨by rw [wrapI] <;> omega, by rw [wrapI] <;> omega⟩
    ·have hend : j + 1 + (n + 1) = l.length := by omega
     have g2 : ¬ ((n + 1 : Nat) : Int) < ((l.length - (j + 1) : Nat) : Int) := by omega
     have g3 : (o.length : Int) < (l.length : Int) := by omega
     rw [hend] at hO
     rw [hO]
     have htk : (L.map vt7).take o.length = o.map vt7 := by rw [← List.map_take, i4]
     have hpu : ∀ σ, purLL σ (o.map vt7 ++ List.replicate (l.length - o.length) zV) = some (o.map vt7 ++ List.replicate (l.length - o.length) zV, []) := fun σ => purLL_of fun x hx => by
      rcases List.mem_append.1 hx with hx | hx
      ·obtain ⟨c, _, rfl⟩ := List.mem_map.1 hx
       rfl
      ·rw [List.eq_of_mem_replicate hx]
       rfl
     have g4 : (o.length : Int) ≤ (l.length : Int) := by omega
     have g5 : (o.map vt7 ++ List.replicate (l.length - o.length) zV).length = l.length := by simp; omega
     have g6 : (o.map vt7 ++ List.replicate (l.length - o.length) zV).take o.length = o.map vt7 := by simp
     simp only [go_sem, g2, g3, i2, htk]
     refine cvQ_exit _ _ ?_
     have g7 : o.length < l.length := by omega
     simp only [go_sem, g2, g3, i2, htk, g7, ← zV_eq, hpu, g4, g5, g6]
     refine cvQ_ret _ ?_
     simp only [go_sem]
theorem compactVG_den (l : List Vt) (hl : big l.length) (hb : ∀ a ∈ l, bigC a.x) :
  ∃ new, new.length = l.length ∧ Den Tryz.prog 172 [.os 1000000 l.length, .fn 173 [.ptr 1000001 0]] [.arr 116 7 false (l.map vt7), .cells [.fn 169 []]] (.vs ((kp sameV l l.length).map vt7)) [] [.arr 116 7 true new, .cells [.fn 169 []]] := by
 rcases kp_first sameV l l.length (Nat.le_refl _) with h | ⟨k0, h1, h2, h3, h4⟩
 ·rw [kp_full _ _ h]
  exact ⟨_, by simp, (compactV_den l hl hb fun i h5 h6 e => by have := h i h5 h6; simp [sameV, e] at this).vsE (by simp)⟩
 ·exact ⟨_, by have := kp_len sameV l l.length; simp; omega, compactV2_den l hl hb h1 h2 h3 h4⟩
end Go.Proofs.Am

/- ballot.Votes. -/
namespace Go.Proofs.Am
open Go Go.RowKit
open Go.Proofs
def votesL (l : List Stm) (c : Cs) : List Vt := kp sameV (srtV (rawV l c l.length)) (srtV (rawV l c l.length)).length
set_option maxHeartbeats 1000000 in
set_option maxRecDepth 100000 in
theorem votesG_den (l : List Stm) (c : Cs) (hl : l.length ≤ 1000000) (hs : ∀ s ∈ l, bigS s) :
  Den Tryz.prog 130 [.vs (l.map sm), .agg (cs c)] [] (.vs ((votesL l c).map vt7)) [] [] := by
 refine den_of Tryz.mixed Tryz.func130 rfl Tryz.call130 Tryz.ntmps130 (congrArg Array.toList Tryz.results130) (by simp) (by kernel_rfl) [] (exts := []) rfl rfl ?_
 simp only [go_sem]
 refine promote 5 99 116 7 false ?_ ?_ ?_ (by omega)
 ·refine loop Tryz.mixed 0 (fun i : Nat => [(11, .vs (l.map sm)), (12, .int .i64 l.length), (13, .int .i64 i), (3, .ptr 3 0), (5, .os 99 (rawV l c i).length)]) (fun i => [(3, .cells [.int .i64 c.ep, .int .i64 c.kd, .int .i64 c.su, .int .i64 c.ro]), (99, .arr 116 7 false ((rawV l c i).map vt7))]) (fun i => i ≤ l.length) (fun i => l.length - i) (by kernel_rfl) (Nat.zero_le _) ?_ ?_
  ·simp only [go_sem]
   exact ⟨rfl, rfl⟩
  ·intro i hi
   by_cases hlt : i < l.length
   ·have h1 : (i : Int) < (l.length : Int) := by omega
    have hsu := rawV_succ (c := c) hlt
    have hrl := rawV_len l c i
    have hv := vote_denB (el l i) (hs _ (el_mem hlt))
    rw [sm_eq] at hv
    generalize rawV l c i = o at *
    generalize hve : voteE (el l i) = ve at *
    obtain ⟨w, b⟩ := ve
    simp only [okV, hve] at hsu
    simp only [go_sem, h1, hlt]
    refine call hv [] ?_
    cases b with
    | false =>
     simp only [go_sem]
     refine ⟨i + 1, ⟨by omega, by omega⟩, ?_⟩
     rw [hsu]
     simp only [Bool.false_and, Bool.false_eq_true, if_false, List.append_nil]
     simp only [go_sem]
     rw [wrapI] <;> omega
    | true =>
     have hce : (w.c = c) ↔ (w.c.ep = c.ep ∧ w.c.kd = c.kd ∧ w.c.su = c.su ∧ w.c.ro = c.ro) := by
      cases hw : w.c
      cases c
      simp
     simp only [go_sem]
     refine ⟨fun h => ⟨by omega, i + 1, ⟨by omega, by omega⟩, ?_⟩, fun h => ⟨i + 1, ⟨by omega, by omega⟩, ?_⟩⟩
     ·rw [hsu]
      simp only [hce.2 h, decide_true, Bool.and_self, if_true]
      exact ⟨⟨by rw [wrapI] <;> omega, by simp⟩, by simp [vt7, hce.2 h]⟩
     ·have hn : ¬ w.c = c := fun e => by
       have := hce.1 e
       simp [this] at h
      rw [hsu]
      simp only [hn, decide_false, Bool.and_false, Bool.false_eq_true, if_false, List.append_nil]
      exact ⟨⟨by rw [wrapI] <;> omega, trivial⟩, trivial⟩
   ·have h1 : ¬ (i : Int) < (l.length : Int) := by omega
    have : i = l.length := by omega
    subst this
    simp only [go_sem, h1]
    have hrl := rawV_len l c l.length
    have hrb : ∀ a ∈ rawV l c l.length, bigC a.x := fun a ha => by
     obtain ⟨s, _, rfl⟩ := List.mem_map.1 ha
     exact okCt_big voteE_ok
    have hrc : ∀ a ∈ rawV l c l.length, a.c = c := fun a ha => by
     obtain ⟨s, hs', rfl⟩ := List.mem_map.1 ha
     have := (List.mem_filter.1 hs').2
     simp only [okV, Bool.and_eq_true, decide_eq_true_eq] at this
     exact this.2
    have hvl : votesL l c = kp sameV (srtV (rawV l c l.length)) (srtV (rawV l c l.length)).length := rfl
    rw [hvl]
    clear hvl
    generalize rawV l c l.length = o at *
    refine call (sortV_den o (by omega) hrb (fun a ha b hb => (hrc a ha).trans (hrc b hb).symm)) [99] ?_
    have hsl : (srtV o).length = o.length := List.length_mergeSort _
    simp only [go_sem, hsl]
    obtain ⟨new, hnl, hcc⟩ := compactVG_den (srtV o) (by simp only [big]; omega) (fun a ha => hrb a ((List.mergeSort_perm _ _).mem_iff.1 ha))
    rw [hsl] at hcc hnl
    refine ⟨Nat.le_refl _, ?_⟩
    refine call hcc [99, 10] ?_
    simp only [go_sem, hsl]
    omega
 ·simp only [go_sem]
 ·simp only [go_sem]
end Go.Proofs.Am

/- The document's votes and cases. -/
namespace Go.Proofs.Am
open Go Go.RowKit
open Go.Proofs
def ltV (a b : Vt) : Bool := decide (cmpV a b < 0)
def refV (l : List Stm) (c : Cs) (i : Nat) : List Vt := (rawV l c i).foldl (insG ltV) []
theorem refV_succ {l : List Stm} {c : Cs} {i : Nat} (h : i < l.length) : refV l c (i + 1) = if okV c (el l i) = true then insG ltV (refV l c i) (voteE (el l i)).1 else refV l c i := by
 simp only [refV, rawV_succ h, List.foldl_append]
 split <;> rfl
theorem refV_ok {l : List Stm} {c : Cs} : ∀ i, i ≤ l.length → (refV l c i).length ≤ i ∧ ∀ y ∈ refV l c i, bigC y.x
 | 0, _ => by simp [refV, rawV]
 | i + 1, h => by
  have ih := refV_ok (c := c) i (by omega : i ≤ l.length)
  rw [refV_succ (by omega)]
  split
  ·refine ⟨Nat.le_trans (insG_len _ _ _) (by omega), fun y hy => ?_⟩
   rcases insG_sub _ _ _ _ hy with rfl | hy
   ·exact okCt_big voteE_ok
   ·exact ih.2 y hy
  ·exact ⟨by omega, ih.2⟩
def rawC (l : List Stm) (i : Nat) : List Cs := ((l.take i).filter fun s => (voteE s).2).map fun s => (voteE s).1.c
theorem rawC_succ {l : List Stm} {i : Nat} (h : i < l.length) : rawC l (i + 1) = rawC l i ++ if (voteE (el l i)).2 = true then [(voteE (el l i)).1.c] else [] := by
 simp only [rawC, take_el h, List.filter_append, List.map_append, List.filter_cons, List.filter_nil]
 split <;> rfl
theorem rawC_len (l : List Stm) (i : Nat) : (rawC l i).length ≤ l.length := by
 simp only [rawC, List.length_map]
 refine Nat.le_trans (List.length_filter_le _ _) ?_
 simp; omega
theorem earlC_self (a : Cs) : earlC a a = false := by simp [earlC]
end Go.Proofs.Am

/- ballot.Cases; the program's votes and cases are the document's. -/
namespace Go.Proofs.Am
open Go Go.RowKit
open Go.Proofs
def cmpC (a b : Cs) : Int := or2 (cmpI a.ep b.ep) (or2 (cmpI a.kd b.kd) (or2 (cmpI a.su b.su) (cmpI a.ro b.ro)))
set_option maxHeartbeats 1000000 in
set_option maxRecDepth 100000 in
theorem cmpC_den (a b : Cs) : Den Tryz.prog 167 [.agg (cs a), .agg (cs b)] [] (.int .i64 (cmpC a b)) [] [] := by
 refine den_of Tryz.mixed Tryz.func167 rfl Tryz.call167 Tryz.ntmps167 (congrArg Array.toList Tryz.results167) (by simp) (by kernel_rfl) [] (exts := []) rfl rfl ?_
 rw [cs_eq, cs_eq]
 simp only [go_sem]
 refine call (cmpI_den a.ep b.ep) [] ?_
 simp only [go_sem]
 refine call (cmpI_den a.kd b.kd) [] ?_
 simp only [go_sem]
 refine call (cmpI_den a.su b.su) [] ?_
 simp only [go_sem]
 refine call (cmpI_den a.ro b.ro) [] ?_
 simp only [go_sem]
 refine call (or_den [cmpI a.ep b.ep, cmpI a.kd b.kd, cmpI a.su b.su, cmpI a.ro b.ro] (by simp [big])) [] ?_
 simp only [go_sem]
 refine ⟨okD_of (by kernel_rfl), ?_⟩
 simp only [orL, cmpC, or2]
 repeat' split
 all_goals simp_all
theorem to_C : TO cmpC := to_map (to_pair to_cmpI (to_pair to_cmpI (to_pair to_cmpI to_cmpI))) (fun c : Cs => (c.ep, (c.kd, (c.su, c.ro)))) fun x y h => by
 cases x
 cases y
 simpa using h
theorem earlC_cmp (a b : Cs) : earlC a b = decide (cmpC a b < 0) := by
 unfold earlC cmpC or2 cmpI
 by_cases h1 : a.ep = b.ep
 ·by_cases h2 : a.kd = b.kd
  ·by_cases h3 : a.su = b.su
   ·simp only [h1, h2, h3]
    simp
    by_cases h4 : a.ro < b.ro
    ·simp [h4]
    ·by_cases h5 : b.ro < a.ro <;> simp [h4, h5]
   ·by_cases h4 : a.su < b.su
    ·simp [h1, h2, h3, h4]
    ·have h5 : b.su < a.su := by omega
     simp [h1, h2, h3, h4, h5]
  ·by_cases h4 : a.kd < b.kd
   ·simp [h1, h2, h4]
   ·have h5 : b.kd < a.kd := by omega
    simp [h1, h2, h4, h5]
 ·by_cases h4 : a.ep < b.ep
  ·simp [h1, h4]
  ·have h5 : b.ep < a.ep := by omega
   simp [h1, h4, h5]
theorem ko_of {α : Type} {f : α → α → Int} {S : α → Prop} (hirr : ∀ a, ¬ f a a < 0) (htr : ∀ a b c, f a b < 0 → f b c < 0 → f a c < 0) (hnt : ∀ a b c, ¬ f a b < 0 → ¬ f b c < 0 → ¬ f a c < 0) (htri : ∀ a b, S a → S b → ¬ f a b < 0 → ¬ f b a < 0 → a = b) : KO (fun a b => decide (f a b < 0)) S where
 irr a := decide_eq_false (hirr a)
 tr a b c h1 h2 := decide_eq_true (htr a b c (of_decide_eq_true h1) (of_decide_eq_true h2))
 nt a b c h1 h2 := decide_eq_false (hnt a b c (of_decide_eq_false h1) (of_decide_eq_false h2))
 tri a b ha hb h1 h2 := htri a b ha hb (of_decide_eq_false h1) (of_decide_eq_false h2)
theorem ko_C : KO earlC fun _ => True := by
 have : earlC = fun a b => decide (cmpC a b < 0) := by funext a b; exact earlC_cmp a b
 rw [this]
 refine ko_of to_C.irr to_C.tr to_C.nt fun a b _ _ h1 h2 => ?_
 refine (to_C.eq a b).1 ?_
 have := to_C.flip b a
 omega
theorem ko_V (c : Cs) : KO ltV fun v => v.c = c := by
 refine ko_of (f := cmpV) (fun a => to_V.irr (a.k, a.x)) (fun a b d => to_V.tr (a.k, a.x) (b.k, b.x) (d.k, d.x)) (fun a b d => to_V.nt (a.k, a.x) (b.k, b.x) (d.k, d.x)) fun a b ha hb h1 h2 => ?_
 have e : (a.k, a.x) = (b.k, b.x) := (to_V.eq (a.k, a.x) (b.k, b.x)).1 (by
  have := to_V.flip (b.k, b.x) (a.k, a.x)
  simp only [cmpV] at h1 h2
  simp only at this ⊢
  omega)
 cases a
 cases b
 simp only [Prod.mk.injEq] at e
 simp only at ha hb
 simp [e, ha, hb]
theorem sameV_iff (a b : Vt) : sameV a b = true ↔ (ltV a b = false ∧ ltV b a = false) := by
 have := to_V.flip (b.k, b.x) (a.k, a.x)
 have h2 := to_V.flip (a.k, a.x) (b.k, b.x)
 simp only at this h2
 have e1 : cmpV a b = or2 (cmpI a.k b.k) (ordC a.x b.x) := rfl
 have e2 : cmpV b a = or2 (cmpI b.k a.k) (ordC b.x a.x) := rfl
 rw [← e1, ← e2] at this h2
 unfold sameV ltV
 rw [decide_eq_true_iff, decide_eq_false_iff_not, decide_eq_false_iff_not]
 constructor
 ·intro h; constructor <;> omega
 ·rintro ⟨h3, h4⟩; omega
theorem sameC_iff (a b : Cs) : sameC a b = true ↔ (earlC a b = false ∧ earlC b a = false) := by
 simp only [sameC, decide_eq_true_eq]
 constructor
 ·rintro rfl
  exact ⟨earlC_self _, earlC_self _⟩
 ·rintro ⟨h1, h2⟩
  exact ko_C.tri a b trivial trivial h1 h2
theorem srtV_le (l : List Vt) : (srtV l).Pairwise fun a b => ltV b a = false := by
 have := List.pairwise_mergeSort (le := fun a b : Vt => !decide (cmpV b a < 0)) (fun a b c h1 h2 => by
  simp only [Bool.not_eq_true', decide_eq_false_iff_not] at h1 h2 ⊢
  exact to_V.nt (c.k, c.x) (b.k, b.x) (a.k, a.x) h2 h1) (fun a b => by
  simp only [Bool.or_eq_true, Bool.not_eq_true', decide_eq_false_iff_not]
  have := to_V.flip (b.k, b.x) (a.k, a.x)
  simp only [cmpV]
  simp only at this
  omega) l
 exact this.imp fun h => by simpa [ltV] using h
theorem rawV_c {l : List Stm} {c : Cs} {n : Nat} : ∀ v ∈ rawV l c n, v.c = c := fun a ha => by
 obtain ⟨s, hs', rfl⟩ := List.mem_map.1 ha
 have := (List.mem_filter.1 hs').2
 simp only [okV, Bool.and_eq_true, decide_eq_true_eq] at this
 exact this.2
theorem votes_ss (l : List Stm) (c : Cs) : SS ltV (votesL l c) ∧ ∀ x, x ∈ votesL l c ↔ x ∈ rawV l c l.length := by
 have hp := List.mergeSort_perm (rawV l c l.length) fun a b : Vt => !decide (cmpV b a < 0)
 have h := (ko_V c).kp_inv sameV_iff (l := srtV (rawV l c l.length)) (fun x hx => rawV_c x (hp.mem_iff.1 hx)) (srtV_le _) _ (Nat.le_refl _)
 refine ⟨h.1, fun x => ?_⟩
 rw [votesL, h.2, List.take_length]
 exact hp.mem_iff
theorem votes_eq (l : List Stm) (c : Cs) : votesL l c = refV l c l.length := by
 obtain ⟨h1, h2⟩ := votes_ss l c
 refine (ko_V c).ss_eq h1 ((ko_V c).fold_ss rawV_c (by simp) (by simp)) fun x => ?_
 rw [h2, refV, (ko_V c).fold_mem rawV_c (by simp)]
 simp
def srtK (l : List Cs) : List Cs := l.mergeSort fun a b => !decide (cmpC b a < 0)
def casesL (l : List Stm) : List Cs := kp sameC (srtK (rawC l l.length)) (srtK (rawC l l.length)).length
theorem srtK_le (l : List Cs) : (srtK l).Pairwise fun a b => earlC b a = false := by
 have := List.pairwise_mergeSort (le := fun a b : Cs => !decide (cmpC b a < 0)) (fun a b c h1 h2 => by
  simp only [Bool.not_eq_true', decide_eq_false_iff_not] at h1 h2 ⊢
  exact to_C.nt c b a h2 h1) (fun a b => by
  simp only [Bool.or_eq_true, Bool.not_eq_true', decide_eq_false_iff_not]
  have := to_C.flip b a
  omega) l
 exact this.imp fun h => by rw [earlC_cmp]; simpa using h
theorem cases_ss (l : List Stm) : SS earlC (casesL l) ∧ ∀ x, x ∈ casesL l ↔ x ∈ rawC l l.length := by
 have hp := List.mergeSort_perm (rawC l l.length) fun a b : Cs => !decide (cmpC b a < 0)
 have h := ko_C.kp_inv sameC_iff (l := srtK (rawC l l.length)) (fun _ _ => trivial) (srtK_le _) _ (Nat.le_refl _)
 refine ⟨h.1, fun x => ?_⟩
 rw [casesL, h.2, List.take_length]
 exact hp.mem_iff
theorem sortK_den (l : List Cs) (hl : l.length < 4611686018427387904) :
  Den Tryz.prog 166 [.os 1000000 l.length, .fn 167 []] [.arr 52 4 false (l.map cs)] (.tup []) [] [.arr 52 4 false ((srtK l).map cs)] := by
 refine den_sort (F := cs) (cf := cmpC) (enters_of Tryz.func166 (by kernel_rfl) rfl) hl
  (fun m enc hk h1 c hO b cap d w hcmp hH hblk hsz => AnyQ.slices_SortFunc Tryz.sortCase 4 (fun _ => by kernel_rfl) (fun _ => by kernel_rfl) enc hk h1 c hO _ _ b 0 cap d w (enters_of Tryz.func167 (by kernel_rfl) rfl) hcmp hH hblk hsz)
  (fun p cap fv w => AnyF.slices_SortFunc_none Tryz.sortCase p cap fv w)
  (fun x hx y hy => cmpC_den x y) (fun x _ => to_C.irr x) (fun x _ y _ z _ => to_C.tr x y z) (fun x _ y _ z _ => to_C.nt x y z) (fun x hx y hy h1 h2 => ?_) (List.mergeSort_perm _ _) ?_
 ·refine (to_C.eq x y).1 ?_
  have := to_C.flip y x
  omega
 ·exact (srtK_le l).imp fun {a b} h => by rw [earlC_cmp] at h; exact of_decide_eq_false h
set_option maxHeartbeats 1000000 in
set_option maxRecDepth 100000 in
theorem casesG_den (l : List Stm) (hl : l.length ≤ 1000000) (hs : ∀ s ∈ l, bigS s) :
  Den Tryz.prog 129 [.vs (l.map sm)] [] (.vs ((casesL l).map cs)) [] [] := by
 refine den_of Tryz.mixed Tryz.func129 rfl Tryz.call129 Tryz.ntmps129 (congrArg Array.toList Tryz.results129) (by simp) (by kernel_rfl) [] (exts := []) rfl rfl ?_
 simp only [go_sem]
 refine promote 3 99 52 4 false ?_ ?_ ?_ (by omega)
 ·refine loop Tryz.mixed 0 (fun i : Nat => [(8, .vs (l.map sm)), (9, .int .i64 l.length), (10, .int .i64 i), (3, .os 99 (rawC l i).length)]) (fun i => [(99, .arr 52 4 false ((rawC l i).map cs))]) (fun i => i ≤ l.length) (fun i => l.length - i) (by kernel_rfl) (Nat.zero_le _) ?_ ?_
  ·simp only [go_sem]
   exact ⟨rfl, rfl⟩
  ·intro i hi
   by_cases hlt : i < l.length
   ·have h1 : (i : Int) < (l.length : Int) := by omega
    have hsu := rawC_succ hlt
    have hrl := rawC_len l i
    have hv := vote_denB (el l i) (hs _ (el_mem hlt))
    rw [sm_eq] at hv
    generalize rawC l i = o at *
    generalize hve : voteE (el l i) = ve at *
    obtain ⟨w, b⟩ := ve
    simp only at hsu
    simp only [go_sem, h1, hlt]
    refine call hv [] ?_
    cases b with
    | false =>
     simp only [go_sem]
     refine ⟨i + 1, ⟨by omega, by omega⟩, ?_⟩
     rw [hsu]
     simp only [Bool.false_eq_true, if_false, List.append_nil]
     simp only [go_sem]
     rw [wrapI] <;> omega
    | true =>
     rw [if_pos rfl] at hsu
     simp only [go_sem]
     refine ⟨by omega, i + 1, ⟨by omega, by omega⟩, ?_⟩
     rw [hsu]
     exact ⟨⟨by rw [wrapI] <;> omega, by simp⟩, by simp [cs]⟩
   ·have h1 : ¬ (i : Int) < (l.length : Int) := by omega
    have : i = l.length := by omega
    subst this
    simp only [go_sem, h1]
    have hrl := rawC_len l l.length
    have hvl : casesL l = kp sameC (srtK (rawC l l.length)) (srtK (rawC l l.length)).length := rfl
    rw [hvl]
    clear hvl
    generalize rawC l l.length = o at *
    refine call (sortK_den o (by omega)) [99] ?_
    have hsl : (srtK o).length = o.length := List.length_mergeSort _
    simp only [go_sem, hsl]
    obtain ⟨new, hnl, hcc⟩ := compactC_den (srtK o) (by simp only [big]; omega)
    rw [hsl] at hcc hnl
    refine ⟨Nat.le_refl _, ?_⟩
    refine call hcc [99] ?_
    simp only [go_sem, hsl]
    omega
 ·simp only [go_sem]
 ·simp only [go_sem]
theorem okX_vote (s : Stm) : okO (voteE s).1.x := by
 simp only [voteE, ofE]
 split
 ·exact ⟨⟨by simp [noV], by simp [noV]⟩, by simp [noV], by simp [noV]⟩
 ·rename_i h
  have hc : checkE s = 0 := by simpa using h
  split
  ·refine ⟨okS_ct hc, ?_, ?_⟩
   ·intro n hn
    have hn' : n ∈ s.li := hn
    have hv : valB n = true := by
     unfold checkE at hc
     repeat' split at hc
     all_goals (try (omega; done))
     rename_i h1 h2 h3 h4 h5 h6
     simp only [Bool.or_eq_true, not_or] at h4
     have h7 := h4.2
     cases hb : valB n with
     | true => rfl
     | false => exact absurd (List.any_eq_true.2 ⟨n, hn', by simp [hb]⟩) h7
    simp only [valB, inB, Bool.and_eq_true, decide_eq_true_eq] at hv
    exact ⟨by omega, by omega⟩
   ·intro p hp
    have hp' : p ∈ s.pins := hp
    have h3 := of_decide_eq_true (checkE_zero hc).2.2.1
    obtain ⟨i, hi, rfl⟩ := List.mem_iff_getElem.1 hp'
    have := h3 i hi
    simp only [pinOK, inB, el, List.getD_eq_getElem?_getD, List.getElem?_eq_getElem hi, Option.getD_some, Bool.and_eq_true, decide_eq_true_eq] at this
    obtain ⟨⟨⟨a1, a2⟩, a3⟩, a4⟩ := this
    exact ⟨⟨by omega, by omega⟩, by omega, by omega⟩
  ·exact ⟨⟨by simp [noV], by simp [noV]⟩, by simp [noV], by simp [noV]⟩
end Go.Proofs.Am

/- The mill's votes are not too long; all functions agree with the document. -/
namespace Go.Proofs.Am
open Go Go.RowKit
open Go.Proofs
theorem vt_okS (k nu : Int) (c : Cs) {x : Ct} (hx : okCt x) : okS (vt k nu c x) := stmt_okB _ _ _ _ (vdraft_ok c x hx)
end Go.Proofs.Am

/- Plain laws of votes, cases and counts. -/
namespace Go.Proofs.Am
open Go Go.RowKit
open Go.Proofs
theorem mem_rawV {l : List Stm} {c : Cs} {v : Vt} : v ∈ rawV l c l.length ↔ ∃ s ∈ l, okV c s = true ∧ (voteE s).1 = v := by
 simp only [rawV, List.take_length, List.mem_map, List.mem_filter]
 constructor
 ·rintro ⟨s, ⟨h1, h2⟩, h3⟩; exact ⟨s, h1, h2, h3⟩
 ·rintro ⟨s, h1, h2, h3⟩; exact ⟨s, ⟨h1, h2⟩, h3⟩
theorem mem_votesL {l : List Stm} {c : Cs} {v : Vt} : v ∈ votesL l c ↔ ∃ s ∈ l, okV c s = true ∧ (voteE s).1 = v := by rw [(votes_ss l c).2, mem_rawV]
theorem mem_casesL {l : List Stm} {x : Cs} : x ∈ casesL l ↔ ∃ s ∈ l, (voteE s).2 = true ∧ (voteE s).1.c = x := by
 rw [(cases_ss l).2]
 simp only [rawC, List.take_length, List.mem_map, List.mem_filter]
 constructor
 ·rintro ⟨s, ⟨h1, h2⟩, h3⟩; exact ⟨s, h1, h2, h3⟩
 ·rintro ⟨s, h1, h2, h3⟩; exact ⟨s, ⟨h1, h2⟩, h3⟩
theorem votes_same {l m : List Stm} (c : Cs) (h : ∀ s, s ∈ l ↔ s ∈ m) : votesL l c = votesL m c := by
 refine (ko_V c).ss_eq (votes_ss l c).1 (votes_ss m c).1 fun x => ?_
 rw [mem_votesL, mem_votesL]
 constructor
 ·rintro ⟨s, h1, h2⟩; exact ⟨s, (h s).1 h1, h2⟩
 ·rintro ⟨s, h1, h2⟩; exact ⟨s, (h s).2 h1, h2⟩
theorem votes_len (l : List Stm) (c : Cs) : (votesL l c).length ≤ l.length := by
 rw [votes_eq]
 exact (refV_ok (c := c) l.length (Nat.le_refl _)).1
theorem votes_okX {l : List Stm} {c : Cs} : ∀ y ∈ votesL l c, okO y.x := fun y hy => by
 obtain ⟨s, _, _, rfl⟩ := mem_votesL.1 hy
 exact okX_vote s
theorem len_sub {l m : List Int} (hl : l.Nodup) (h : ∀ x ∈ l, x ∈ m) : l.length ≤ m.length := by
 induction l generalizing m with
 | nil => simp
 | cons a r ih =>
  obtain ⟨h1, h2⟩ := List.nodup_cons.1 hl
  have ha := h a (by simp)
  have := ih (m := m.erase a) h2 fun x hx => (List.mem_erase_of_ne (fun e : x = a => h1 (by rw [← e]; exact hx))).2 (h x (by simp [hx]))
  rw [List.length_erase_of_mem ha] at this
  have := List.length_pos_of_mem ha
  simp only [List.length_cons]
  omega
theorem Rvote_mem {seats : List Int} {v : List Vt} {x : Ct} {k : Int} : Rvote seats v v.length x k ↔ k ∈ seats ∧ ∃ y ∈ v, y.x = x ∧ y.k = k := by
 unfold Rvote
 refine and_congr_right fun _ => ?_
 constructor
 ·rintro ⟨a, h1, h2, h3⟩; exact ⟨el v a, el_mem h1, h2, h3⟩
 ·rintro ⟨y, hy, h2, h3⟩
  obtain ⟨a, ha, rfl⟩ := List.mem_iff_getElem.1 hy
  exact ⟨a, ha, by simpa [el, List.getD_eq_getElem?_getD, ha] using h2, by simpa [el, List.getD_eq_getElem?_getD, ha] using h3⟩
theorem cnR_spec (seats : List Int) (v : List Vt) : CnSpec (Rvote seats v v.length) (cnR seats v) := cnI_spec seats v v.length (Nat.le_refl _)
theorem cnR_none (seats : List Int) : cnR seats [] = [] := rfl
theorem cnR_own {seats : List Int} {a : List Vt} : cnR seats (a.filter fun y => decide (y.k ∈ seats)) = cnR seats a := by
 refine cn_ext (cnR_spec seats _) ⟨(cnR_spec seats a).r1, (cnR_spec seats a).r2, fun x k => ?_, (cnR_spec seats a).r4⟩
 rw [(cnR_spec seats a).r3, Rvote_mem, Rvote_mem]
 refine and_congr_right fun hk => ?_
 constructor
 ·rintro ⟨y, hy, h2, h3⟩; exact ⟨y, List.mem_filter.2 ⟨hy, by rw [h3]; simpa using hk⟩, h2, h3⟩
 ·rintro ⟨y, hy, h2, h3⟩; exact ⟨y, (List.mem_filter.1 hy).1, h2, h3⟩
end Go.Proofs.Am

/- The mill's votes as a slice of the caller's own. -/
namespace Go.Proofs.Am
open Go Go.RowKit
open Go.Proofs
end Go.Proofs.Am

/- BallotSet, walked. -/
namespace Go.Proofs.Am
open Go Go.RowKit
open Go.Proofs
end Go.Proofs.Am
