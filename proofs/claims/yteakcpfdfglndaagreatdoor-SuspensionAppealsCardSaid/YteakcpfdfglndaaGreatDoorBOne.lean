/- BOne. -/
import Derived.Test.YteakcpfdfglndaaGreatDoorAmV
import Derived.Test.YteakcpfdfglndaaGreatDoorR1F
import Derived.Laws.Bits64
import Derived.Laws.Bits64b
import Derived.Test.YteakcpfdfglndaaGreatDoorAmW
set_option linter.unusedSimpArgs false
set_option linter.unusedVariables false
namespace Go.Proofs.Am
open Go Go.RowKit
open Go.Proofs
theorem Tryz.mixed : Tryz.prog.follows .mixedOrders = true := by kernel_rfl
def i1 (x : Int) : List PV := [.int .i64 x]
theorem i1_eq (x : Int) : i1 x = [.int .i64 x] := rfl
attribute [go_sem] i1_eq
abbrev big (n : Nat) : Prop := n < 4611686018427387904
theorem wrapI {n : Int} (h : -9223372036854775808 ≤ n) (h' : n < 9223372036854775808) : IntKind.i64.wrap n = n := by rw [IntKind.wrap_i64]; omega
theorem mem_of_el {l : List Int} {i : Nat} (h : i < l.length) : el l i ∈ l := by
 simp only [el, List.getD_eq_getElem?_getD, List.getElem?_eq_getElem h, Option.getD_some]
 exact List.getElem_mem h
theorem el_of_mem {l : List Int} {x : Int} (h : x ∈ l) : ∃ i, i < l.length ∧ el l i = x := by
 obtain ⟨i, h1, h2⟩ := List.getElem_of_mem h
 exact ⟨i, h1, by simp only [el, List.getD_eq_getElem?_getD, List.getElem?_eq_getElem h1, Option.getD_some]; exact h2⟩
theorem notMem_of_el {l : List Int} {x : Int} {n : Nat} (hn : l.length ≤ n) (h : ∀ j, j < n → el l j ≠ x) : x ∉ l := fun hx => by
 obtain ⟨i, h1, h2⟩ := el_of_mem hx
 exact h i (by omega) h2
theorem el_cons_succ (a : Int) (l : List Int) (i : Nat) : el (a :: l) (i + 1) = el l i := by simp [el]
theorem el_cons_zero (a : Int) (l : List Int) : el (a :: l) 0 = a := by simp [el]
theorem idx_of : ∀ {l : List Int} {i : Nat} {k : Int}, i < l.length → k = el l i → (∀ j, j < i → el l j ≠ k) → l.idxOf k = i
 | [], _, _, h, _, _ => by simp at h
 | a :: l, 0, k, _, hk, _ => by rw [hk, el_cons_zero]; simp
 | a :: l, i + 1, k, h, hk, hn => by
  have h0 := hn 0 (by omega)
  rw [el_cons_zero] at h0
  rw [el_cons_succ] at hk
  have := idx_of (l := l) (i := i) (k := k) (by simpa using h) hk fun j hj => by have := hn (j + 1) (by omega); rwa [el_cons_succ] at this
  rw [List.idxOf_cons, this]
  have : (a == k) = false := by simpa using h0
  simp only [this, cond_false]
set_option maxHeartbeats 1000000 in
set_option maxRecDepth 100000 in
theorem has24 (l : List Int) (k : Int) (hl : big l.length) : Den Tryz.prog 24 [.vs (l.map i1), .int .i64 k] [] (.bool (decide (k ∈ l))) [] [] := by
 refine den_of Tryz.mixed Tryz.func24 rfl Tryz.call24 Tryz.ntmps24 (congrArg Array.toList Tryz.results24) (by simp) (by kernel_rfl) [] (exts := []) rfl rfl ?_
 simp only [go_sem]
 refine loop (by kernel_rfl) 0 (fun i : Nat => [(0, .vs (l.map i1)), (1, .int .i64 k), (5, .int .i64 i)]) (fun _ => []) (fun i => i ≤ l.length ∧ ∀ j, j < i → el l j ≠ k) (fun i => l.length - i) (by kernel_rfl) ?_ ?_ ?_
 ·simp
 ·simp only [go_sem]
 ·intro i ⟨hi, hn⟩
  simp only [go_sem]
  refine ⟨fun h => ⟨by omega, fun e => ?_, fun e => ⟨i + 1, ⟨⟨by omega, fun j hj => ?_⟩, by omega⟩, ?_⟩⟩, fun h => ?_⟩
  ·rw [← e]; simp [mem_of_el h]
  ·rcases Nat.lt_succ_iff_lt_or_eq.1 hj with h' | h'
   ·exact hn j h'
   ·rw [h']; exact e
  ·rw [wrapI] <;> omega
  ·simp [notMem_of_el (by omega) hn]
set_option maxHeartbeats 1000000 in
set_option maxRecDepth 100000 in
theorem index_den (l : List Int) (k : Int) (hl : big l.length) : Den Tryz.prog 66 [.vs (l.map i1), .int .i64 k] [] (.int .i64 (if k ∈ l then (l.idxOf k : Nat) else -1)) [] [] := by
 refine den_of Tryz.mixed Tryz.func66 rfl Tryz.call66 Tryz.ntmps66 (congrArg Array.toList Tryz.results66) (by simp) (by kernel_rfl) [] (exts := []) rfl rfl ?_
 simp only [go_sem]
 refine loop (by kernel_rfl) 0 (fun i : Nat => [(0, .vs (l.map i1)), (1, .int .i64 k), (7, .int .i64 l.length), (8, .int .i64 i)]) (fun _ => []) (fun i => i ≤ l.length ∧ ∀ j, j < i → el l j ≠ k) (fun i => l.length - i) (by kernel_rfl) ?_ ?_ ?_
 ·simp
 ·simp only [go_sem]
 ·intro i ⟨hi, hn⟩
  simp only [go_sem]
  refine ⟨fun h => ⟨by omega, fun e => ?_, fun e => ⟨i + 1, ⟨⟨by omega, fun j hj => ?_⟩, by omega⟩, ?_⟩⟩, fun h => ?_⟩
  ·have hm : k ∈ l := by rw [e]; exact mem_of_el h
   rw [if_pos hm]
   rw [idx_of h e hn]
  ·rcases Nat.lt_succ_iff_lt_or_eq.1 hj with h' | h'
   ·exact hn j h'
   ·rw [h']; exact fun h2 => e h2.symm
  ·rw [wrapI] <;> omega
  ·rw [if_neg (notMem_of_el (by omega) hn)]
set_option maxHeartbeats 1000000 in
set_option maxRecDepth 100000 in
theorem contains_den (l : List Int) (k : Int) (hl : big l.length) : Den Tryz.prog 41 [.vs (l.map i1), .int .i64 k] [] (.bool (decide (k ∈ l))) [] [] := by
 refine den_of Tryz.mixed Tryz.func41 rfl Tryz.call41 Tryz.ntmps41 (congrArg Array.toList Tryz.results41) (by simp) (by kernel_rfl) [] (exts := []) rfl rfl ?_
 simp only [go_sem]
 refine call (index_den l k hl) [] ?_
 simp only [go_sem]
 by_cases h : k ∈ l
 ·simp [h]
 ·simp [h]
set_option maxHeartbeats 1000000 in
set_option maxRecDepth 100000 in
theorem rhas (l : List Int) (k : Int) (hl : big l.length) : Den Tryz.prog 333 [.vs (l.map i1), .int .i64 k] [] (.bool (decide (k ∈ l))) [] [] := by
 refine den_of Tryz.mixed Tryz.func333 rfl Tryz.call333 Tryz.ntmps333 (congrArg Array.toList Tryz.results333) (by simp) (by kernel_rfl) [] (exts := []) rfl rfl ?_
 simp only [go_sem]
 refine call (contains_den l k hl) [] ?_
 simp only [go_sem]
end Go.Proofs.Am

/- Dice. -/
namespace Go.Proofs.Am
open Go Go.RowKit
open Go.Proofs
def mmod (n m : Int) : Int := if m < 1 then 0 else n % m
theorem tmod_emod {n m : Int} (hm : 0 < m) (h : n.tmod m < 0) : n.tmod m + m = n % m := by
 have h1 := Int.lt_tmod_of_pos n (b := m) hm
 have e1 := Int.mul_tdiv_add_tmod n m
 have e : n = (n.tmod m + m) + m * (n.tdiv m - 1) := by rw [Int.mul_sub]; omega
 conv => rhs; rw [e]
 rw [Int.add_mul_emod_self_left]
 exact (Int.emod_eq_of_lt (by omega) (by omega)).symm
theorem tmod_emod' {n m : Int} (hm : 0 < m) (h : ¬ n.tmod m < 0) : n.tmod m = n % m := by
 have h1 := Int.tmod_lt_of_pos n (b := m) hm
 have e1 := Int.mul_tdiv_add_tmod n m
 have e : n = n.tmod m + m * (n.tdiv m) := by omega
 conv => rhs; rw [e]
 rw [Int.add_mul_emod_self_left]
 exact (Int.emod_eq_of_lt (by omega) (by omega)).symm
set_option maxHeartbeats 1000000 in
set_option maxRecDepth 100000 in
theorem mod24 (n m : Int) (hm : m < 9223372036854775808) : Den Tryz.prog 33 [.int .i64 n, .int .i64 m] [] (.int .i64 (mmod n m)) [] [] := by
 refine den_of Tryz.mixed Tryz.func33 rfl Tryz.call33 Tryz.ntmps33 (congrArg Array.toList Tryz.results33) (by simp) (by kernel_rfl) [] (exts := []) rfl rfl ?_
 simp only [go_sem]
 refine ⟨fun h => ?_, fun h => ⟨by omega, fun h' => ?_, fun h' => ?_⟩⟩
 ·simp [mmod, h]
 ·have h2 := Int.lt_tmod_of_pos n (b := m) (by omega)
  rw [wrapI (by omega) (by omega)]
  simp only [mmod, if_neg h]
  exact tmod_emod (by omega) h'
 ·simp only [mmod, if_neg h]
  exact tmod_emod' (by omega) h'
def dnext (l : List Int) (p : Nat) (n : Int) : Int := if p < l.length then mmod (el l p) n else 0
def dpos (l : List Int) (p : Nat) : Nat := if p < l.length then p + 1 else p
abbrev dbox (l : List Int) (p : Nat) : Box := .cells [.vs (l.map i1), .int .i64 p]
set_option maxHeartbeats 1000000 in
set_option maxRecDepth 100000 in
theorem next_den (l : List Int) (p : Nat) (n : Int) (hl : big l.length) (hp : p ≤ l.length) (hn : n < 9223372036854775808) : Den Tryz.prog 11 [.ptr 1000000 0, .int .i64 n] [dbox l p] (.int .i64 (dnext l p n)) [] [dbox l (dpos l p)] := by
 refine den_of Tryz.mixed Tryz.func11 rfl Tryz.call11 Tryz.ntmps11 (congrArg Array.toList Tryz.results11) (by simp) (by kernel_rfl) [] (exts := [1000000]) rfl rfl ?_
 simp only [go_sem]
 refine ⟨okD_of (by kernel_rfl), fun h => ?_, fun h => ?_⟩
 ·have : ¬ p < l.length := by omega
  simp [dpos, dnext, this]
 ·have e1 : IntKind.i64.wrap ((p : Int) + 1) = (p : Int) + 1 := wrapI (by omega) (by omega)
  have e2 : IntKind.i64.wrap ((p : Int) + 1 - 1) = (p : Int) := by rw [wrapI] <;> omega
  simp only [e1, e2]
  refine ⟨by omega, call (mod24 (el l (p : Int).toNat) n hn) [] ?_⟩
  simp only [go_sem]
  have hp : p < l.length := by omega
  refine ⟨okD_of (by kernel_rfl), ?_, ?_⟩
  ·simp [dpos, hp]
  ·simp [dnext, hp]
theorem dpos_le {l : List Int} {p : Nat} (h : p ≤ l.length) : dpos l p ≤ l.length := by unfold dpos; split <;> omega
theorem mmod_lt {n m : Int} (h : 0 < m) : 0 ≤ mmod n m ∧ mmod n m < m := by
 unfold mmod
 rw [if_neg (by omega)]
 exact ⟨Int.emod_nonneg _ (by omega), Int.emod_lt_of_pos _ h⟩
theorem dnext_lt {l : List Int} {p : Nat} {n : Int} (h : 0 < n) : 0 ≤ dnext l p n ∧ dnext l p n < n := by
 unfold dnext
 split
 ·exact mmod_lt h
 ·omega
set_option maxHeartbeats 1000000 in
set_option maxRecDepth 100000 in
theorem one_den (l : List Int) (p : Nat) (n : Int) (hl : big l.length) (hp : p ≤ l.length) (h0 : 0 < n) (hn : n < 9223372036854775808) : Den Tryz.prog 31 [.ptr 1000000 0, .int .i64 n] [dbox l p] (.bool (decide (dnext l p n = n - 1))) [] [dbox l (dpos l p)] := by
 refine den_of Tryz.mixed Tryz.func31 rfl Tryz.call31 Tryz.ntmps31 (congrArg Array.toList Tryz.results31) (by simp) (by kernel_rfl) [] (exts := [1000000]) rfl rfl ?_
 simp only [go_sem]
 refine call (next_den l p n hl hp hn) [1000000] ?_
 simp only [go_sem]
 rw [wrapI (by omega) (by omega)]
set_option maxHeartbeats 1000000 in
set_option maxRecDepth 100000 in
theorem of_den (l : List Int) (p : Nat) (xs : List Int) (hl : big l.length) (hp : p ≤ l.length) (hx : 0 < xs.length) (hxb : big xs.length) : Den Tryz.prog 13 [.ptr 1000000 0, .vs (xs.map i1)] [dbox l p] (.int .i64 (el xs (dnext l p xs.length).toNat)) [] [dbox l (dpos l p)] := by
 refine den_of Tryz.mixed Tryz.func13 rfl Tryz.call13 Tryz.ntmps13 (congrArg Array.toList Tryz.results13) (by simp) (by kernel_rfl) [] (exts := [1000000]) rfl rfl ?_
 simp only [go_sem]
 refine call (next_den l p xs.length hl hp (by omega)) [1000000] ?_
 simp only [go_sem]
 have := dnext_lt (l := l) (p := p) (n := xs.length) (by omega)
 omega
set_option maxHeartbeats 1000000 in
set_option maxRecDepth 100000 in
theorem roll23 (l : List Int) : Den Tryz.prog 29 [.vs (l.map i1)] [] (.ptr 0 0) [dbox l 0] [] := by
 refine den_of Tryz.mixed Tryz.func29 rfl Tryz.call29 Tryz.ntmps29 (congrArg Array.toList Tryz.results29) (by simp) (by kernel_rfl) [5] (exts := []) rfl rfl ?_
 simp only [go_sem]
set_option maxHeartbeats 1000000 in
set_option maxRecDepth 100000 in
theorem roll9 (l : List Int) : Den Tryz.prog 9 [.vs (l.map i1)] [] (.ptr 0 0) [dbox l 0] [] := by
 refine den_of Tryz.mixed Tryz.func9 rfl Tryz.call9 Tryz.ntmps9 (congrArg Array.toList Tryz.results9) (by simp) (by kernel_rfl) [4] (exts := []) rfl rfl ?_
 simp only [go_sem]
 refine call (roll23 l) [] ?_
 simp only [go_sem]
end Go.Proofs.Am

/- Lists of numbers: sets of keys, who comes in. -/
namespace Go.Proofs.Am
open Go Go.RowKit
open Go.Proofs
set_option maxHeartbeats 1000000 in
set_option maxRecDepth 100000 in
theorem light_den (l : List Int) : Den Tryz.prog 7 [.vs (l.map i1)] [] (.bool (decide (l.length ≤ 400))) [] [] := by
 refine den_of Tryz.mixed Tryz.func7 rfl Tryz.call7 Tryz.ntmps7 (congrArg Array.toList Tryz.results7) (by simp) (by kernel_rfl) [] (exts := []) rfl rfl ?_
 simp only [go_sem]
 simp only [decide_eq_decide]
 omega
set_option maxHeartbeats 1000000 in
set_option maxRecDepth 100000 in
theorem sameInts_den (a b : List Int) (ha : big a.length) (hb : big b.length) : Den Tryz.prog 21 [.vs (a.map i1), .vs (b.map i1)] [] (.bool (decide (a = b))) [] [] := by
 refine den_of Tryz.mixed Tryz.func21 rfl Tryz.call21 Tryz.ntmps21 (congrArg Array.toList Tryz.results21) (by simp) (by kernel_rfl) [] (exts := []) rfl rfl ?_
 simp only [go_sem]
 refine ⟨fun h => ?_, fun h => ?_⟩
 ·have : ¬ a = b := fun e => h (by rw [e])
  simp [this]
 have hlen : a.length = b.length := by omega
 refine loop Tryz.mixed 0 (fun i : Nat => [(0, .vs (a.map i1)), (1, .vs (b.map i1)), (5, .int .i64 i)]) (fun _ => []) (fun i => i ≤ a.length ∧ ∀ j, j < i → el a j = el b j) (fun i => a.length - i) (by kernel_rfl) ?_ ?_ ?_
 ·simp
 ·simp only [go_sem]
 ·intro i ⟨hi, hn⟩
  simp only [go_sem]
  refine ⟨fun h => ⟨by omega, by omega, okD_of (by kernel_rfl), fun e => ?_, fun e => ⟨i + 1, ⟨⟨by omega, fun j hj => ?_⟩, by omega⟩, ?_⟩⟩, fun h => ?_⟩
  ·have : ¬ a = b := fun e' => e (by rw [e'])
   simp [this]
  ·rcases Nat.lt_succ_iff_lt_or_eq.1 hj with h' | h'
   ·exact hn j h'
   ·rw [h']; exact e
  ·rw [wrapI] <;> omega
  ·have : a = b := by
    apply List.ext_getElem hlen
    intro j h1 h2
    have := hn j (by omega)
    simpa [el, List.getD_eq_getElem?_getD, h1, h2] using this
   simp [this]
def keysW (c : Int → Bool) (n : Nat) : List Int := ((List.range n).map fun i : Nat => (i : Int)).filter c
theorem keysW_succ (c : Int → Bool) (n : Nat) : keysW c (n + 1) = keysW c n ++ (if c n then [(n : Int)] else []) := by
 simp only [keysW, List.range_succ, List.map_append, List.filter_append, List.map_cons, List.map_nil, List.filter_cons, List.filter_nil]
theorem keysW_len (c : Int → Bool) : ∀ n, (keysW c n).length ≤ n := fun n => by
 have := List.length_filter_le c ((List.range n).map fun i : Nat => (i : Int))
 simpa [keysW] using this
theorem mem_keysW {c : Int → Bool} {n : Nat} {x : Int} : x ∈ keysW c n ↔ (0 ≤ x ∧ x < n) ∧ c x = true := by
 simp only [keysW, List.mem_filter, List.mem_map, List.mem_range]
 constructor
 ·rintro ⟨⟨i, h1, rfl⟩, h2⟩; exact ⟨⟨by omega, by omega⟩, h2⟩
 ·rintro ⟨⟨h0, h1⟩, h2⟩; exact ⟨⟨x.toNat, by omega, by omega⟩, h2⟩
end Go.Proofs.Am

/- Who comes in. -/
namespace Go.Proofs.Am
open Go Go.RowKit
open Go.Proofs
end Go.Proofs.Am

/- Numbers and strings as bytes. -/
namespace Go.Proofs.Am
open Go Go.RowKit
open Go.Proofs
def bAt (v : Int) (j : Nat) : UInt8 := UInt8.ofNat ((v / (2 : Int) ^ j) % 256).toNat
def be8 (v : Int) : List UInt8 := [bAt v 56, bAt v 48, bAt v 40, bAt v 32, bAt v 24, bAt v 16, bAt v 8, bAt v 0]
theorem bAt_toNat (v : Int) (j : Nat) : ((bAt v j).toNat : Int) = (v / (2 : Int) ^ j) % 256 := by
 have h1 := Int.emod_nonneg (v / (2 : Int) ^ j) (b := 256) (by omega)
 have h2 := Int.emod_lt_of_pos (v / (2 : Int) ^ j) (b := 256) (by omega)
 simp only [bAt]
 rw [UInt8.toNat_ofNat']
 omega
theorem wrapB (v : Int) (j : Nat) : IntKind.u8.wrap (v.fdiv ((2 : Int) ^ j)) = ((bAt v j).toNat : Int) := by
 have h : (0 : Int) ≤ (2 : Int) ^ j := Int.pow_nonneg (by omega)
 rw [IntKind.wrap_u8, bAt_toNat, Int.fdiv_eq_ediv_of_nonneg _ h]
theorem wrapB64 (v : Int) (j : Nat) (hj : j ≤ 56) : IntKind.u8.wrap ((IntKind.u64.wrap v).fdiv ((2 : Int) ^ j)) = ((bAt v j).toNat : Int) := by
 have h : (0 : Int) < (2 : Int) ^ j := Int.pow_pos (by omega)
 rw [IntKind.wrap_u8, bAt_toNat, Int.fdiv_eq_ediv_of_nonneg _ (by omega), IntKind.wrap_u64]
 have e64 : (18446744073709551616 : Int) = (2 : Int) ^ j * (256 * (2 : Int) ^ (56 - j)) := by
  rw [show (256 : Int) = 2 ^ 8 by rfl, ← Int.pow_add, ← Int.pow_add]
  have : j + (8 + (56 - j)) = 64 := by omega
  rw [this]
  rfl
 have e1 : v = (v % 18446744073709551616) + (2 : Int) ^ j * (256 * (2 : Int) ^ (56 - j)) * (v / 18446744073709551616) := by
  rw [← e64]
  have := Int.emod_add_mul_ediv v 18446744073709551616
  omega
 generalize v % 18446744073709551616 = r at *
 generalize v / 18446744073709551616 = q at *
 rw [e1, Int.mul_assoc, Int.add_mul_ediv_left _ _ (by omega), Int.mul_assoc, Int.add_mul_emod_self_left]
abbrev small (n : Nat) : Prop := n ≤ 1000000000000
set_option maxHeartbeats 1000000 in
set_option maxRecDepth 100000 in
theorem put_den (bs : List UInt8) (v : Int) (hb : small bs.length) : Den Tryz.prog 268 [.os 1000000 bs.length, .int .i64 v] [.arr 5 1 false (bs.map u8)] (.os 1000000 (bs ++ be8 v).length) [] [.arr 5 1 false ((bs ++ be8 v).map u8)] := by
 refine den_of Tryz.mixed Tryz.func268 rfl Tryz.call268 Tryz.ntmps268 (congrArg Array.toList Tryz.results268) (by simp) (by kernel_rfl) [] (exts := [1000000]) rfl rfl ?_
 simp only [go_sem]
 refine loop Tryz.mixed 0 (fun m : Nat => [(0, .os 1000000 (bs ++ (be8 v).take m).length), (1, .int .i64 v), (5, .int .i64 (56 - 8 * (m : Int)))]) (fun m => [(1000000, .arr 5 1 false ((bs ++ (be8 v).take m).map u8))]) (fun m => m ≤ 8) (fun m => 8 - m) (by kernel_rfl) ?_ ?_ ?_
 ·simp
 ·simp only [go_sem]
 ·intro m hm
  have hl : ((be8 v).take m).length = m := by simp [be8]; omega
  simp only [go_sem]
  rw [hl]
  have e1 : m < 8 → IntKind.u64.wrap (56 - 8 * (m : Int)) = ((56 - 8 * m : Nat) : Int) := fun h => by rw [IntKind.wrap_u64]; omega
  refine ⟨fun h => ⟨by rw [e1] <;> omega, by omega, m + 1, ⟨by omega, by omega⟩, ?_⟩, fun h => ?_⟩
  ·have e0 : (be8 v).take (m + 1) = (be8 v).take m ++ [bAt v (56 - 8 * m)] := by
    have : m = 0 ∨ m = 1 ∨ m = 2 ∨ m = 3 ∨ m = 4 ∨ m = 5 ∨ m = 6 ∨ m = 7 := by omega
    rcases this with rfl | rfl | rfl | rfl | rfl | rfl | rfl | rfl <;> rfl
   have e1 := e1 (by omega)
   have e2 : min (56 - 8 * m) 64 = 56 - 8 * m := by omega
   simp only [e0, e1, Int.toNat_natCast, e2]
   rw [wrapB64 _ _ (by omega)]
   simp only [go_sem, List.map_append]
   refine ⟨⟨by omega, ?_⟩, ?_⟩
   ·rw [wrapI] <;> omega
   ·simp
  ·have : m = 8 := by omega
   subst this
   simp [be8]
theorem be8_len (v : Int) : (be8 v).length = 8 := rfl
set_option maxHeartbeats 1000000 in
set_option maxRecDepth 100000 in
theorem clone_den (bs : List UInt8) (hb : small bs.length) : Den Tryz.prog 269 [.vs (bs.map u8)] [] (.os 0 bs.length) [.arr 5 1 false (bs.map u8)] [] := by
 cases bs with
 | nil =>
  refine den_split [] fun b => ?_
  refine den_ofX Tryz.mixed Tryz.func269 rfl Tryz.call269 Tryz.ntmps269 (congrArg Array.toList Tryz.results269) (by simp) (by kernel_rfl) (exts := []) rfl rfl ?_
  simp only [go_sem]
  refine ⟨fun h => retX_of [(2, 99, 5, 1)] [99] ?_ ?_, fun h => retX_of [] [5] ?_ ?_⟩
  ·simp only [go_sem]
  ·simp only [go_sem]
  ·simp only [go_sem]
  ·simp only [go_sem]
 | cons c bs =>
  refine den_ofX Tryz.mixed Tryz.func269 rfl Tryz.call269 Tryz.ntmps269 (congrArg Array.toList Tryz.results269) (by simp) (by kernel_rfl) (exts := []) rfl rfl ?_
  have hb' : small (bs.length + 1) := by simpa using hb
  simp only [go_sem, Nat.zero_lt_succ, List.mem_map, List.forall_mem_cons]
  refine ⟨?_, by omega, retX_of [] [5] ?_ ?_⟩
  ·rintro y (rfl | ⟨a, _, rfl⟩) <;> rfl
  ·simp only [go_sem]
  ·simp only [go_sem]
set_option maxHeartbeats 1000000 in
set_option maxRecDepth 100000 in
theorem wint_den (bs : List UInt8) (v : Int) (hb : small bs.length) : Den Tryz.prog 219 [.vs (bs.map u8), .int .i64 v] [] (.os 0 (bs ++ be8 v).length) [.arr 5 1 false ((bs ++ be8 v).map u8)] [] := by
 refine den_of Tryz.mixed Tryz.func219 rfl Tryz.call219 Tryz.ntmps219 (congrArg Array.toList Tryz.results219) (by simp) (by kernel_rfl) [6] (exts := []) rfl rfl ?_
 simp only [go_sem]
 refine call (clone_den bs hb) [] ?_
 simp only [go_sem]
 refine call (put_den bs v hb) [6] ?_
 simp only [go_sem]
 omega
set_option maxHeartbeats 1000000 in
set_option maxRecDepth 100000 in
theorem wtext_den (bs : List UInt8) (s : List UInt8) (hb : small bs.length) (hs : small s.length) : Den Tryz.prog 220 [.vs (bs.map u8), .str s] [] (.os 0 (bs ++ (be8 s.length ++ s)).length) [.arr 5 1 false ((bs ++ (be8 s.length ++ s)).map u8)] [] := by
 refine den_of Tryz.mixed Tryz.func220 rfl Tryz.call220 Tryz.ntmps220 (congrArg Array.toList Tryz.results220) (by simp) (by kernel_rfl) [8] (exts := []) rfl rfl ?_
 simp only [go_sem]
 refine call (wint_den bs s.length hb) [] ?_
 simp only [go_sem, be8_len, List.append_assoc, List.map_append]
 omega
def beL (l : List Int) : List UInt8 := l.flatMap be8
theorem beL_len (l : List Int) : (beL l).length = 8 * l.length := by
 induction l with
 | nil => rfl
 | cons a r ih => simp only [beL, List.flatMap_cons, List.length_append, be8_len, List.length_cons] at *; omega
theorem beL_append (l m : List Int) : beL (l ++ m) = beL l ++ beL m := by simp [beL]
theorem take_el {α : Type} [Inhabited α] {l : List α} {i : Nat} (h : i < l.length) : l.take (i + 1) = l.take i ++ [el l i] := by
 simp [el, List.getD_eq_getElem?_getD, h, List.take_append_getElem]
set_option maxHeartbeats 1000000 in
set_option maxRecDepth 100000 in
theorem wints_den (bs : List UInt8) (l : List Int) (hb : bs.length ≤ 1000000000) (hl : l.length ≤ 1000000000) : Den Tryz.prog 221 [.vs (bs.map u8), .vs (l.map i1)] [] (.os 0 (bs ++ (be8 l.length ++ beL l)).length) [.arr 5 1 false ((bs ++ (be8 l.length ++ beL l)).map u8)] [] := by
 refine den_of Tryz.mixed Tryz.func221 rfl Tryz.call221 Tryz.ntmps221 (congrArg Array.toList Tryz.results221) (by simp) (by kernel_rfl) [11] (exts := []) rfl rfl ?_
 simp only [go_sem]
 refine call (wint_den bs l.length (by simp only [small]; omega)) [] ?_
 simp only [go_sem]
 refine loop Tryz.mixed 0 (fun i : Nat => [(1, .vs (l.map i1)), (5, .os 11 (bs ++ (be8 l.length ++ beL (l.take i))).length), (12, .vs (l.map i1)), (13, .int .i64 l.length), (14, .int .i64 i)]) (fun i => [(11, .arr 5 1 false ((bs ++ (be8 l.length ++ beL (l.take i))).map u8))]) (fun i => i ≤ l.length) (fun i => l.length - i) (by kernel_rfl) ?_ ?_ ?_
 ·simp
 ·simp only [go_sem, List.take_zero, beL, List.flatMap_nil]
 ·intro i hi
  have hti : (l.take i).length = i := by simp; omega
  simp only [go_sem]
  refine ⟨fun h => ⟨by omega, call (put_den (bs ++ (be8 l.length ++ beL (l.take i))) (el l i) (by simp only [small, List.length_append, be8_len, beL_len, hti]; omega)) [11] ?_⟩, fun h => ?_⟩
  ·simp only [go_sem]
   refine ⟨?_, i + 1, ⟨by omega, by omega⟩, ?_⟩
   ·omega
   ·rw [take_el h, beL_append]
    simp only [go_sem, List.map_append, List.append_assoc, beL, List.flatMap_cons, List.flatMap_nil]
    refine ⟨by omega, ?_⟩
    rw [wrapI] <;> omega
  ·have : i = l.length := by omega
   subst this
   simp only [go_sem, List.take_length]
set_option maxHeartbeats 1000000 in
set_option maxRecDepth 100000 in
theorem rint_den (bs : List UInt8) (v : Int) (hb : small bs.length) : Den Tryz.prog 147 [.vs (bs.map u8), .int .i64 v] [] (.os 0 (bs ++ be8 v).length) [.arr 5 1 false ((bs ++ be8 v).map u8)] [] := by
 refine den_of Tryz.mixed Tryz.func147 rfl Tryz.call147 Tryz.ntmps147 (congrArg Array.toList Tryz.results147) (by simp) (by kernel_rfl) [8] (exts := []) rfl rfl ?_
 simp only [go_sem]
 refine ⟨by omega, ?_⟩
 refine loop Tryz.mixed 0 (fun m : Nat => [(1, .int .i64 v), (5, .os 8 (bs ++ (be8 v).take m).length), (6, .int .i64 (7 - (m : Int)))]) (fun m => [(8, .arr 5 1 false ((bs ++ (be8 v).take m).map u8))]) (fun m => m ≤ 8) (fun m => 8 - m) (by kernel_rfl) ?_ ?_ ?_
 ·simp
 ·simp only [go_sem]
 ·intro m hm
  have hl : ((be8 v).take m).length = m := by simp [be8]; omega
  simp only [go_sem]
  rw [hl]
  have e1 : m < 8 → IntKind.u64.wrap (IntKind.i64.wrap (8 * (7 - (m : Int)))) = ((56 - 8 * m : Nat) : Int) := fun h => by rw [wrapI (by omega) (by omega), IntKind.wrap_u64]; omega
  refine ⟨fun h => ⟨by rw [e1] <;> omega, by omega, m + 1, ⟨by omega, by omega⟩, ?_⟩, fun h => ?_⟩
  ·have e0 : (be8 v).take (m + 1) = (be8 v).take m ++ [bAt v (56 - 8 * m)] := by
    have : m = 0 ∨ m = 1 ∨ m = 2 ∨ m = 3 ∨ m = 4 ∨ m = 5 ∨ m = 6 ∨ m = 7 := by omega
    rcases this with rfl | rfl | rfl | rfl | rfl | rfl | rfl | rfl <;> rfl
   have e1 := e1 (by omega)
   have e2 : min (56 - 8 * m) 64 = 56 - 8 * m := by omega
   simp only [e0, e1, Int.toNat_natCast, e2]
   rw [wrapB]
   simp only [go_sem, List.map_append]
   refine ⟨⟨by omega, ?_⟩, ?_⟩
   ·rw [wrapI] <;> omega
   ·simp
  ·have : m = 8 := by omega
   subst this
   simp [be8]
set_option maxHeartbeats 1000000 in
set_option maxRecDepth 100000 in
theorem rtext_den (bs : List UInt8) (s : List UInt8) (hb : small bs.length) (hs : small s.length) : Den Tryz.prog 146 [.vs (bs.map u8), .str s] [] (.os 0 (bs ++ (be8 s.length ++ s)).length) [.arr 5 1 false ((bs ++ (be8 s.length ++ s)).map u8)] [] := by
 refine den_of Tryz.mixed Tryz.func146 rfl Tryz.call146 Tryz.ntmps146 (congrArg Array.toList Tryz.results146) (by simp) (by kernel_rfl) [8] (exts := []) rfl rfl ?_
 simp only [go_sem]
 refine call (rint_den bs s.length hb) [] ?_
 simp only [go_sem, be8_len, List.append_assoc, List.map_append]
 omega
set_option maxHeartbeats 1000000 in
set_option maxRecDepth 100000 in
theorem rints_den (bs : List UInt8) (l : List Int) (hb : bs.length ≤ 1000000000) (hl : l.length ≤ 1000000000) : Den Tryz.prog 148 [.vs (bs.map u8), .vs (l.map i1)] [] (.vs ((bs ++ (be8 l.length ++ beL l)).map u8)) [] [] := by
 refine den_of Tryz.mixed Tryz.func148 rfl Tryz.call148 Tryz.ntmps148 (congrArg Array.toList Tryz.results148) (by simp) (by kernel_rfl) [] (exts := []) rfl rfl ?_
 simp only [go_sem]
 refine call ((rint_den bs l.length (by simp only [small]; omega)).vs (by simp) trivial rfl) [] ?_
 simp only [go_sem]
 refine loop Tryz.mixed 0 (fun i : Nat => [(1, .vs (l.map i1)), (5, .vs ((bs ++ (be8 l.length ++ beL (l.take i))).map u8)), (6, .int .i64 i)]) (fun i => []) (fun i => i ≤ l.length) (fun i => l.length - i) (by kernel_rfl) ?_ ?_ ?_
 ·simp
 ·simp only [go_sem, List.take_zero, beL, List.flatMap_nil]
 ·intro i hi
  have hti : (l.take i).length = i := by simp; omega
  simp only [go_sem]
  refine ⟨fun h => ⟨by omega, call ((rint_den (bs ++ (be8 l.length ++ beL (l.take i))) (el l i) (by simp only [small, List.length_append, be8_len, beL_len, hti]; omega)).vs (by simp) trivial rfl) [] ?_⟩, fun h => ?_⟩
  ·simp only [go_sem]
   refine ⟨i + 1, ⟨by omega, by omega⟩, ?_⟩
   rw [take_el h, beL_append]
   simp only [go_sem, List.map_append, List.append_assoc, beL, List.flatMap_cons, List.flatMap_nil]
   rw [wrapI] <;> omega
  ·have : i = l.length := by omega
   subst this
   simp only [go_sem, List.take_length]
end Go.Proofs.Am

/- The digest: the reference. -/
namespace Go.Proofs.Am
open Go Go.RowKit
open Go.Proofs
def u4 (x : Int) : List PV := [.int .u32 x]
theorem u4_eq (x : Int) : u4 x = [.int .u32 x] := rfl
theorem set_u4 (l : List Int) (i : Nat) (v : Int) : (l.map u4).set i [.int .u32 v] = (l.set i v).map u4 := by rw [List.map_set]; rfl
theorem mn24 : min 24 32 = 24 := (rfl)
theorem mn16 : min 16 32 = 16 := (rfl)
theorem mn8 : min 8 32 = 8 := (rfl)
theorem mn3 : min 3 32 = 3 := (rfl)
theorem mn10 : min 10 32 = 10 := (rfl)
attribute [go_sem] u4_eq set_u4 mn24 mn16 mn8 mn3 mn10
def ad (a b : Int) : Int := IntKind.u32.wrap (a + b)
def rot (x : Int) (n : Nat) : Int := bits .or .u32 (x.fdiv (2 ^ n)) (IntKind.u32.wrap (x * 2 ^ (32 - n)))
def xo (a b : Int) : Int := bits .xor .u32 a b
def an (a b : Int) : Int := bits .and .u32 a b
def nt (a : Int) : Int := bits .xor .u32 IntKind.u32.max a
def sr (a : Int) (n : Nat) : Int := a.fdiv (2 ^ n)
set_option maxHeartbeats 1000000 in
set_option maxRecDepth 100000 in
theorem turn_den (x : Int) (n : Nat) {m : Int} (hm : m = n) (h0 : 0 < n) (hn : n < 32) : Den Tryz.prog 187 [.int .u32 x, .int .u64 m] [] (.int .u32 (rot x n)) [] [] := by
 refine den_of Tryz.mixed Tryz.func187 rfl Tryz.call187 Tryz.ntmps187 (congrArg Array.toList Tryz.results187) (by simp) (by kernel_rfl) [] (exts := []) rfl rfl ?_
 simp only [go_sem]
 have e1 : IntKind.u64.wrap (32 - m) = ((32 - n : Nat) : Int) := by rw [IntKind.wrap_u64]; omega
 rw [e1, hm]
 have e2 : min n 32 = n := by omega
 have e3 : min (32 - n) 32 = 32 - n := by omega
 simp only [Int.toNat_natCast, e2, e3, rot]
 exact ⟨by omega, by omega, trivial⟩
def w16 (b : List UInt8) (i : Nat) : Int := bits .or .u32 (bits .or .u32 (bits .or .u32 (IntKind.u32.wrap (IntKind.u32.wrap (el b (4 * i)).toNat * 2 ^ 24)) (IntKind.u32.wrap (IntKind.u32.wrap (el b (4 * i + 1)).toNat * 2 ^ 16))) (IntKind.u32.wrap (IntKind.u32.wrap (el b (4 * i + 2)).toNat * 2 ^ 8))) (IntKind.u32.wrap (el b (4 * i + 3)).toNat)
def wA (b : List UInt8) : Nat → List Int
 | 0 => List.replicate 64 0
 | m + 1 => (wA b m).set m (w16 b m)
theorem wA_len (b : List UInt8) : ∀ m, (wA b m).length = 64
 | 0 => by simp [wA]
 | m + 1 => by simp [wA, wA_len b m]
def wst (w : List Int) (m : Nat) : Int :=
 ad (ad (ad (el w m) (xo (xo (rot (el w (m + 1)) 7) (rot (el w (m + 1)) 18)) (sr (el w (m + 1)) 3))) (el w (m + 9))) (xo (xo (rot (el w (m + 14)) 17) (rot (el w (m + 14)) 19)) (sr (el w (m + 14)) 10))
def wB (b : List UInt8) : Nat → List Int
 | 0 => wA b 16
 | m + 1 => (wB b m).set (16 + m) (wst (wB b m) m)
theorem wB_len (b : List UInt8) : ∀ m, (wB b m).length = 64
 | 0 => wA_len b 16
 | m + 1 => by simp [wB, wB_len b m]
def rx (v : List Int) (k w : Int) : Int := ad (ad (ad (ad (el v 7) (xo (xo (rot (el v 4) 6) (rot (el v 4) 11)) (rot (el v 4) 25))) (xo (an (el v 4) (el v 5)) (an (nt (el v 4)) (el v 6)))) k) w
def rs (v : List Int) : Int := xo (xo (rot (el v 0) 2) (rot (el v 0) 13)) (rot (el v 0) 22)
def rm (v : List Int) : Int := xo (xo (an (el v 0) (el v 1)) (an (el v 0) (el v 2))) (an (el v 1) (el v 2))
def rnd (v : List Int) (k w : Int) : List Int := [ad (ad (rx v k w) (rs v)) (rm v), el v 0, el v 1, el v 2, ad (el v 3) (rx v k w), el v 4, el v 5, el v 6]
def rnds (h k w : List Int) : Nat → List Int
 | 0 => h
 | m + 1 => rnd (rnds h k w m) (el k m) (el w m)
theorem rnds_len {h k w : List Int} (hh : h.length = 8) : ∀ m, (rnds h k w m).length = 8
 | 0 => hh
 | _ + 1 => rfl
def fin (v h : List Int) : Nat → List Int
 | 0 => v
 | m + 1 => (fin v h m).set m (ad (el (fin v h m) m) (el h m))
theorem fin_len {v h : List Int} (hv : v.length = 8) : ∀ m, (fin v h m).length = 8
 | 0 => hv
 | m + 1 => by simp [fin, fin_len hv m]
def sblk (h : List Int) (b : List UInt8) (k : List Int) : List Int := fin (rnds h k (wB b 48) 64) h 8
set_option maxRecDepth 100000 in
theorem block_den (h : List Int) (b : List UInt8) (k : List Int) (hh : h.length = 8) (hb : b.length = 64) (hk : k.length = 64) : Den Tryz.prog 145 [.vs (h.map u4), .vs (b.map u8), .vs (k.map u4)] [] (.vs ((sblk h b k).map u4)) [] [] := by
 refine den_of Tryz.mixed Tryz.func145 rfl Tryz.call145 Tryz.ntmps145 (congrArg Array.toList Tryz.results145) (by simp) (by kernel_rfl) [] (exts := []) rfl rfl ?_
 simp only [go_sem]
 (repeat refine And.intro (by first | omega | exact okD_of (by kernel_rfl)) ?_)
 refine loop Tryz.mixed 0 (fun i : Nat => [(0, .vs (h.map u4)), (1, .vs (b.map u8)), (2, .vs (k.map u4)), (7, .os 19 64), (8, .int .i64 i)]) (fun i => [(19, .arr 188 1 false ((wA b i).map u4))]) (fun i => i ≤ 16) (fun i => 16 - i) (by kernel_rfl) ?_ ?_ ?_
 ·simp
 ·simp only [go_sem, wA, List.map_replicate, purZ]
 ·intro i hi
  have e1 : i < 16 → IntKind.i64.wrap (4 * (i : Int)) = ((4 * i : Nat) : Int) := fun h => by rw [wrapI] <;> omega
  have e2 : i < 16 → IntKind.i64.wrap (((4 * i : Nat) : Int) + 1) = ((4 * i + 1 : Nat) : Int) := fun h => by rw [wrapI] <;> omega
  have e3 : i < 16 → IntKind.i64.wrap (((4 * i : Nat) : Int) + 2) = ((4 * i + 2 : Nat) : Int) := fun h => by rw [wrapI] <;> omega
  have e4 : i < 16 → IntKind.i64.wrap (((4 * i : Nat) : Int) + 3) = ((4 * i + 3 : Nat) : Int) := fun h => by rw [wrapI] <;> omega
  have hw := wA_len b i
  by_cases hi' : i < 16
  ·simp only [go_sem, e1 hi', e2 hi', e3 hi', e4 hi', hw, hb]
   refine ⟨fun _ => ⟨by omega, by omega, by omega, by omega, by omega, by omega, okD_of (by kernel_rfl), i + 1, ⟨by omega, by omega⟩, ?_⟩, fun h => by omega⟩
   exact ⟨by rw [wrapI] <;> omega, rfl⟩
  ·have : i = 16 := by omega
   have hf : ¬ ((i : Int) < 16) := by omega
   simp only [go_sem, hf]
   subst this
   refine loop Tryz.mixed 0 (fun m : Nat => [(0, .vs (h.map u4)), (2, .vs (k.map u4)), (7, .os 19 64), (9, .int .i64 ((16 + m : Nat) : Int))]) (fun m => [(19, .arr 188 1 false ((wB b m).map u4))]) (fun m => m ≤ 48) (fun m => 48 - m) (by kernel_rfl) ?_ ?_ ?_
   ·simp
   ·simp only [go_sem, wB]
   ·intro m hm
    have hw := wB_len b m
    by_cases hm' : m < 48
    ·have f1 : IntKind.i64.wrap (((16 + m : Nat) : Int) - 15) = ((m + 1 : Nat) : Int) := by rw [wrapI] <;> omega
     have f2 : IntKind.i64.wrap (((16 + m : Nat) : Int) - 2) = ((m + 14 : Nat) : Int) := by rw [wrapI] <;> omega
     have f3 : IntKind.i64.wrap (((16 + m : Nat) : Int) - 16) = ((m : Nat) : Int) := by rw [wrapI] <;> omega
     have f4 : IntKind.i64.wrap (((16 + m : Nat) : Int) - 7) = ((m + 9 : Nat) : Int) := by rw [wrapI] <;> omega
     simp only [go_sem, f1, f2, f3, f4, hw]
     refine ⟨fun _ => ?_, fun h => by omega⟩
     (repeat refine And.intro (by first | omega | exact okD_of (by kernel_rfl)) ?_)
     refine call (turn_den (el (wB b m) (m + 1)) 7 rfl (by omega) (by omega)) [] ?_
     simp only [go_sem, f1, f2, f3, f4, hw]
     (repeat refine And.intro (by first | omega | exact okD_of (by kernel_rfl)) ?_)
     refine call (turn_den (el (wB b m) (m + 1)) 18 rfl (by omega) (by omega)) [] ?_
     simp only [go_sem, f1, f2, f3, f4, hw]
     (repeat refine And.intro (by first | omega | exact okD_of (by kernel_rfl)) ?_)
     refine call (turn_den (el (wB b m) (m + 14)) 17 rfl (by omega) (by omega)) [] ?_
     simp only [go_sem, f1, f2, f3, f4, hw]
     (repeat refine And.intro (by first | omega | exact okD_of (by kernel_rfl)) ?_)
     refine call (turn_den (el (wB b m) (m + 14)) 19 rfl (by omega) (by omega)) [] ?_
     simp only [go_sem, f1, f2, f3, f4, hw]
     (repeat refine And.intro (by first | omega | exact okD_of (by kernel_rfl)) ?_)
     refine ⟨m + 1, ⟨by omega, by omega⟩, ?_⟩
     exact ⟨by rw [wrapI] <;> omega, rfl⟩
    ·have hf : ¬ (((16 + m : Nat) : Int) < 64) := by omega
     simp only [go_sem, hf]
     have : m = 48 := by omega
     subst this
     (repeat refine And.intro (by first | omega | exact okD_of (by kernel_rfl)) ?_)
     generalize hW : wB b 48 = W at *
     refine loopR Tryz.mixed 0 (fun j : Nat => [(0, .vs (h.map u4)), (2, .vs (k.map u4)), (7, .vs (W.map u4)), (12, .os 123 8), (13, .int .i64 j)]) (fun j => [(123, .arr 188 1 false ((rnds h k W j).map u4))]) (fun j => j ≤ 64) (fun j => 64 - j) (by kernel_rfl) [] ?_ ?_ ?_
     ·simp
     ·simp only [go_sem, rnds, hw, hh]
     ·intro j hj
      have hv := rnds_len (k := k) (w := W) hh j
      by_cases hj' : j < 64
      ·have hR : rnds h k W (j + 1) = rnd (rnds h k W j) (el k j) (el W j) := rfl
       generalize rnds h k W j = V at *
       simp only [go_sem, hv, hw, hk]
       refine ⟨fun _ => ?_, fun h => by omega⟩
       (repeat refine And.intro (by first | omega | exact okD_of (by kernel_rfl)) ?_)
       refine call (turn_den (el V 4) 6 rfl (by omega) (by omega)) [] ?_
       simp only [go_sem, hv, hw, hk]
       refine call (turn_den (el V 4) 11 rfl (by omega) (by omega)) [] ?_
       simp only [go_sem, hv, hw, hk]
       refine call (turn_den (el V 4) 25 rfl (by omega) (by omega)) [] ?_
       simp only [go_sem, hv, hw, hk]
       (repeat refine And.intro (by first | omega | exact okD_of (by kernel_rfl)) ?_)
       refine call (turn_den (el V 0) 2 rfl (by omega) (by omega)) [] ?_
       simp only [go_sem, hv, hw, hk]
       refine call (turn_den (el V 0) 13 rfl (by omega) (by omega)) [] ?_
       simp only [go_sem, hv, hw, hk]
       refine call (turn_den (el V 0) 22 rfl (by omega) (by omega)) [] ?_
       simp only [go_sem, hv, hw, hk]
       (repeat refine And.intro (by first | omega | exact okD_of (by kernel_rfl)) ?_)
       refine ⟨j + 1, [(123, 99), (240, 123)], ⟨by omega, by omega⟩, ?_⟩
       rw [hR]
       simp only [go_sem, hv, hw, hk]
       exact ⟨by rw [wrapI] <;> omega, rfl⟩
      ·have hf : ¬ ((j : Int) < 64) := by omega
       simp only [go_sem, hf]
       have : j = 64 := by omega
       subst this
       generalize hV : rnds h k W 64 = V at *
       refine loop Tryz.mixed 0 (fun j : Nat => [(0, .vs (h.map u4)), (12, .os 123 8), (18, .int .i64 j)]) (fun j => [(123, .arr 188 1 false ((fin V h j).map u4))]) (fun j => j ≤ 8) (fun j => 8 - j) (by kernel_rfl) ?_ ?_ ?_
       ·simp
       ·simp only [go_sem, fin]
       ·intro j hj
        have hfl := fin_len (h := h) hv j
        by_cases hj' : j < 8
        ·simp only [go_sem, hfl, hh]
         refine ⟨fun _ => ?_, fun h => by omega⟩
         (repeat refine And.intro (by first | omega | exact okD_of (by kernel_rfl)) ?_)
         exact ⟨j + 1, ⟨by omega, by omega⟩, by rw [wrapI] <;> omega, rfl⟩
        ·have hf : ¬ ((j : Int) < 8) := by omega
         simp only [go_sem, hf]
         have : j = 8 := by omega
         subst this
         simp only [go_sem, hfl]
         rw [sblk, hW, hV]
end Go.Proofs.Am

/- The digest: the reference, all of it. -/
namespace Go.Proofs.Am
open Go Go.RowKit
open Go.Proofs
def kK : List Int := [0x428a2f98, 0x71374491, 0xb5c0fbcf, 0xe9b5dba5, 0x3956c25b, 0x59f111f1, 0x923f82a4, 0xab1c5ed5,
 0xd807aa98, 0x12835b01, 0x243185be, 0x550c7dc3, 0x72be5d74, 0x80deb1fe, 0x9bdc06a7, 0xc19bf174,
 0xe49b69c1, 0xefbe4786, 0x0fc19dc6, 0x240ca1cc, 0x2de92c6f, 0x4a7484aa, 0x5cb0a9dc, 0x76f988da,
 0x983e5152, 0xa831c66d, 0xb00327c8, 0xbf597fc7, 0xc6e00bf3, 0xd5a79147, 0x06ca6351, 0x14292967,
 0x27b70a85, 0x2e1b2138, 0x4d2c6dfc, 0x53380d13, 0x650a7354, 0x766a0abb, 0x81c2c92e, 0x92722c85,
 0xa2bfe8a1, 0xa81a664b, 0xc24b8b70, 0xc76c51a3, 0xd192e819, 0xd6990624, 0xf40e3585, 0x106aa070,
 0x19a4c116, 0x1e376c08, 0x2748774c, 0x34b0bcb5, 0x391c0cb3, 0x4ed8aa4a, 0x5b9cca4f, 0x682e6ff3,
 0x748f82ee, 0x78a5636f, 0x84c87814, 0x8cc70208, 0x90befffa, 0xa4506ceb, 0xbef9a3f7, 0xc67178f2]
set_option maxRecDepth 100000 in
theorem consts_den : Den Tryz.prog 144 [] [] (.vs (kK.map u4)) [] [] := by
 refine den_of Tryz.mixed Tryz.func144 rfl Tryz.call144 Tryz.ntmps144 (congrArg Array.toList Tryz.results144) (by simp) (by kernel_rfl) [] (exts := []) rfl rfl ?_
 simp only [go_sem]
 rfl
theorem tm64 (n : Nat) : ((n : Nat) : Int).tmod 64 = ((n % 64 : Nat) : Int) := rfl
def padN (n : Nat) : Nat := (119 - n % 64) % 64
theorem padN_spec (n : Nat) : (n + 1 + padN n) % 64 = 56 := by unfold padN; omega
theorem padN_lt {n z : Nat} (h : z < padN n) : (n + 1 + z) % 64 ≠ 56 := by unfold padN at h; omega
theorem padN_le (n : Nat) : padN n < 64 := by unfold padN; omega
def pad0 (b : List UInt8) (z : Nat) : List UInt8 := b ++ (128 :: List.replicate z 0)
theorem pad0_len (b : List UInt8) (z : Nat) : (pad0 b z).length = b.length + 1 + z := by simp [pad0]; omega
theorem pad0_succ (b : List UInt8) (z : Nat) : pad0 b (z + 1) = pad0 b z ++ [0] := by simp [pad0, List.replicate_succ']
def allB (b : List UInt8) : List UInt8 := pad0 b (padN b.length) ++ be8 ((8 * b.length : Nat) : Int)
theorem allB_len (b : List UInt8) : ∃ q, (allB b).length = 64 * q ∧ 64 * q ≤ b.length + 128 := by
 have := padN_spec b.length
 have := padN_le b.length
 have hl : (allB b).length = b.length + 1 + padN b.length + 8 := by simp only [allB, List.length_append, pad0_len, be8_len]
 exact ⟨(b.length + 1 + padN b.length + 8) / 64, by omega, by omega⟩
def h0 : List Int := [0x6a09e667, 0xbb67ae85, 0x3c6ef372, 0xa54ff53a, 0x510e527f, 0x9b05688c, 0x1f83d9ab, 0x5be0cd19]
def hs (b : List UInt8) : Nat → List Int
 | 0 => h0
 | m + 1 => sblk (hs b m) (((allB b).take (64 * m + 64)).drop (64 * m)) kK
theorem hs_len (b : List UInt8) : ∀ m, (hs b m).length = 8
 | 0 => rfl
 | m + 1 => fin_len (rnds_len (hs_len b m) 64) 8
def outW (x : Int) : List UInt8 := [bAt x 24, bAt x 16, bAt x 8, bAt x 0]
theorem outL_len (l : List Int) : (l.flatMap outW).length = 4 * l.length := by
 induction l with
 | nil => rfl
 | cons a r ih => simp only [List.flatMap_cons, List.length_append, List.length_cons, ih, outW, List.length_nil]; omega
theorem wrapB0 (v : Int) : IntKind.u8.wrap v = ((bAt v 0).toNat : Int) := by
 rw [← wrapB]; simp
def sha (b : List UInt8) : List UInt8 := (hs b ((allB b).length / 64)).flatMap outW
set_option maxRecDepth 100000 in
theorem sum_den (b : List UInt8) (hb : b.length ≤ 1000000000) : Den Tryz.prog 108 [.vs (b.map u8)] [] (.str (sha b)) [] [] := by
 refine den_of Tryz.mixed Tryz.func108 rfl Tryz.call108 Tryz.ntmps108 (congrArg Array.toList Tryz.results108) (by simp) (by kernel_rfl) [] (exts := []) rfl rfl ?_
 simp only [go_sem]
 (repeat refine And.intro (by first | omega | exact okD_of (by kernel_rfl)) ?_)
 refine loop Tryz.mixed 0 (fun z : Nat => [(0, .vs (b.map u8)), (3, .os 11 8), (4, .os 13 (pad0 b z).length)]) (fun z => [(11, .arr 188 1 false (h0.map u4)), (13, .arr 5 1 false ((pad0 b z).map u8))]) (fun z => z ≤ padN b.length) (fun z => padN b.length - z) (by kernel_rfl) ?_ ?_ ?_
 ·simp
 ·simp only [go_sem]
  simp [pad0, u8, h0, u4]
 ·intro z hz
  have hpl := pad0_len b z
  have hpn := padN_le b.length
  by_cases hz' : z < padN b.length
  ·have hc : ¬ ((((pad0 b z).length : Nat) : Int).tmod 64 = 56) := by
    have := padN_lt hz'
    rw [hpl, tm64]; omega
   simp only [go_sem, hc]
   refine ⟨by omega, z + 1, ⟨by omega, by omega⟩, ?_⟩
   rw [pad0_succ]
   simp only [go_sem, List.map_append]
   simp [u8]
  ·have hz2 : z = padN b.length := by omega
   subst hz2
   have hc : (((pad0 b (padN b.length)).length : Nat) : Int).tmod 64 = 56 := by
    have := padN_spec b.length
    rw [hpl, tm64]; omega
   simp only [go_sem, hc]
   generalize hp : pad0 b (padN b.length) = p at *
   refine loop Tryz.mixed 0 (fun m : Nat => [(3, .os 11 8), (4, .os 13 (p ++ (be8 ((8 * b.length : Nat) : Int)).take m).length), (5, .int .u64 ((8 * b.length : Nat) : Int)), (6, .int .i64 (7 - (m : Int)))]) (fun m => [(11, .arr 188 1 false (h0.map u4)), (13, .arr 5 1 false ((p ++ (be8 ((8 * b.length : Nat) : Int)).take m).map u8))]) (fun m => m ≤ 8) (fun m => 8 - m) (by kernel_rfl) ?_ ?_ ?_
   ·simp
   ·simp only [go_sem, List.take_zero, List.append_nil]
    simp only [IntKind.wrap_u64]
    omega
   ·intro m hm
    generalize hv : 8 * b.length = v at *
    have hl : ((be8 (v : Int)).take m).length = m := by simp [be8]; omega
    have e1 : m < 8 → IntKind.u64.wrap (IntKind.i64.wrap (8 * (7 - (m : Int)))) = ((56 - 8 * m : Nat) : Int) := fun h => by rw [wrapI (by omega) (by omega), IntKind.wrap_u64]; omega
    by_cases hm' : m < 8
    ·have e0 : (be8 (v : Int)).take (m + 1) = (be8 (v : Int)).take m ++ [bAt v (56 - 8 * m)] := by
      have : m = 0 ∨ m = 1 ∨ m = 2 ∨ m = 3 ∨ m = 4 ∨ m = 5 ∨ m = 6 ∨ m = 7 := by omega
      rcases this with rfl | rfl | rfl | rfl | rfl | rfl | rfl | rfl <;> rfl
     have e2 : min (56 - 8 * m) 64 = 56 - 8 * m := by omega
     have hc : (0 : Int) ≤ 7 - (m : Int) := by omega
     rw [List.length_append, hl]
     simp only [go_sem, e1 hm', hc, e2, wrapB, hl]
     refine ⟨by omega, m + 1, ⟨by omega, by omega⟩, ?_⟩
     rw [e0]
     simp only [go_sem, List.map_append, List.append_assoc, hl]
     rw [wrapI] <;> omega
    ·have hm2 : m = 8 := by omega
     subst hm2
     have hS : p ++ (be8 (v : Int)).take 8 = allB b := by rw [allB, hp, hv]; rfl
     rw [hS]
     simp only [go_sem]
     refine call consts_den [] ?_
     simp only [go_sem]
     obtain ⟨q0, hq0, hq1⟩ := allB_len b
     have hkl : kK.length = 64 := rfl
     refine loop Tryz.mixed 0 (fun q : Nat => [(3, .vs ((hs b q).map u4)), (4, .vs ((allB b).map u8)), (7, .vs (kK.map u4)), (8, .int .i64 ((64 * q : Nat) : Int))]) (fun q => []) (fun q => q ≤ q0) (fun q => q0 - q) (by kernel_rfl) ?_ ?_ ?_
     ·simp
     ·simp only [go_sem, hs]
      rfl
     ·intro q hq
      have hhl := hs_len b q
      by_cases hq' : q < q0
      ·have e1 : IntKind.i64.wrap (((64 * q : Nat) : Int) + 64) = ((64 * q + 64 : Nat) : Int) := by rw [wrapI] <;> omega
       have hcl : ((allB b).take (64 * q + 64) |>.drop (64 * q)).length = 64 := by simp; omega
       simp only [go_sem, hq0, e1, Int.toNat_natCast]
       refine ⟨fun _ => ⟨⟨by omega, by omega, by omega⟩, ?_⟩, fun h => by omega⟩
       refine call (block_den (hs b q) _ kK hhl hcl hkl) [] ?_
       simp only [go_sem, e1]
       exact ⟨q + 1, ⟨by omega, by omega⟩, rfl, by omega⟩
      ·have hq2 : q = q0 := by omega
       subst hq2
       have hf : ¬ (((64 * q : Nat) : Int) < ((allB b).length : Int)) := by omega
       simp only [go_sem, hf]
       have hsha : sha b = (hs b q).flatMap outW := by rw [sha, hq0, Nat.mul_div_cancel_left _ (by omega)]
       generalize hV : hs b q = V at *
       refine promote 9 14 5 1 false ?_ ?_ ?_ (by omega)
       ·refine loop Tryz.mixed 0 (fun j : Nat => [(3, .vs (V.map u4)), (9, .os 14 ((V.take j).flatMap outW).length), (10, .int .i64 j)]) (fun j => [(14, .arr 5 1 false (((V.take j).flatMap outW).map u8))]) (fun j => j ≤ 8) (fun j => 8 - j) (by kernel_rfl) ?_ ?_ ?_
        ·simp
        ·simp only [go_sem, List.take_zero, List.flatMap_nil]
        ·intro j hj
         have hjl : ((V.take j).flatMap outW).length = 4 * j := by
          rw [outL_len]; simp; omega
         by_cases hj' : j < 8
         ·simp only [go_sem, hhl]
          refine ⟨fun _ => ?_, fun h => by omega⟩
          (repeat refine And.intro (by first | omega | exact okD_of (by kernel_rfl)) ?_)
          refine ⟨j + 1, ⟨by omega, by omega⟩, ?_⟩
          rw [take_el (by omega), wrapB, wrapB, wrapB, wrapB0]
          simp only [go_sem, List.flatMap_append, List.map_append, List.flatMap_cons, List.flatMap_nil, outW]
          rw [wrapI] <;> omega
         ·have hj2 : j = 8 := by omega
          subst hj2
          have hV8 : V.take 8 = V := by rw [← hhl, List.take_length]
          rw [hV8, ← hsha]
          simp only [go_sem]
          exact ⟨_, rfl, rfl⟩
       ·simp only [go_sem]
       ·simp only [go_sem]
end Go.Proofs.Am

/- The digest: the program's own. -/
namespace Go.Proofs.Am
open Go Go.RowKit
open Go.Proofs
theorem or_comm4 (k : IntKind) (a b : Int) : bits .or k a b = bits .or k b a := by
 unfold bits
 simp only [BitVec.or_comm]
set_option maxHeartbeats 1000000 in
set_option maxRecDepth 100000 in
theorem rotl_den (x k : Int) (n : Nat) (h0 : 0 < n) (hn : n < 32) (hk : bits .and .u64 (IntKind.u64.wrap k) 31 = ((32 - n : Nat) : Int)) : Den Tryz.prog 267 [.int .u32 x, .int .i64 k] [] (.int .u32 (rot x n)) [] [] := by
 refine den_of Tryz.mixed Tryz.func267 rfl Tryz.call267 Tryz.ntmps267 (congrArg Array.toList Tryz.results267) (by simp) (by kernel_rfl) [] (exts := []) rfl rfl ?_
 have e1 : IntKind.u64.wrap (32 - ((32 - n : Nat) : Int)) = (n : Int) := by rw [IntKind.wrap_u64]; omega
 have e2 : min n 32 = n := by omega
 have e3 : min (32 - n) 32 = 32 - n := by omega
 simp only [go_sem, hk, e1, e2, e3]
 rw [or_comm4]; rfl
set_option maxHeartbeats 1000000 in
set_option maxRecDepth 100000 in
theorem turn2_den (x : Int) (n : Nat) (m : Int) (h0 : 0 < n) (hn : n < 32) (hk : bits .and .u64 (IntKind.u64.wrap (IntKind.i64.wrap (0 - m))) 31 = ((32 - n : Nat) : Int)) : Den Tryz.prog 266 [.int .u32 x, .int .i64 m] [] (.int .u32 (rot x n)) [] [] := by
 refine den_of Tryz.mixed Tryz.func266 rfl Tryz.call266 Tryz.ntmps266 (congrArg Array.toList Tryz.results266) (by simp) (by kernel_rfl) [] (exts := []) rfl rfl ?_
 simp only [go_sem]
 refine call (rotl_den x _ n h0 hn hk) [] ?_
 simp only [go_sem]
set_option maxRecDepth 100000 in
theorem rounds_den : Den Tryz.prog 217 [] [] (.agg (kK.map c4)) [] [] := by
 refine den_of Tryz.mixed Tryz.func217 rfl Tryz.call217 Tryz.ntmps217 (congrArg Array.toList Tryz.results217) (by simp) (by kernel_rfl) [] (exts := []) rfl rfl ?_
 simp only [go_sem]
 rfl
theorem ad_assoc (a b c : Int) : ad (ad a b) c = ad a (ad b c) := by
 simp only [ad, IntKind.wrap_u32]; omega
theorem ad_comm (a b : Int) : ad a b = ad b a := by
 simp only [ad, Int.add_comm]
theorem fin_comm {v h : List Int} (hv : v.length = 8) (hh : h.length = 8) : fin v h 8 = fin h v 8 := by
 match v, h, hv, hh with
 | [a0, a1, a2, a3, a4, a5, a6, a7], [b0, b1, b2, b3, b4, b5, b6, b7], _, _ =>
  show [ad a0 b0, ad a1 b1, ad a2 b2, ad a3 b3, ad a4 b4, ad a5 b5, ad a6 b6, ad a7 b7] = [ad b0 a0, ad b1 a1, ad b2 a2, ad b3 a3, ad b4 a4, ad b5 a5, ad b6 a6, ad b7 a7]
  rw [ad_comm a0, ad_comm a1, ad_comm a2, ad_comm a3, ad_comm a4, ad_comm a5, ad_comm a6, ad_comm a7]
set_option maxRecDepth 100000 in
theorem block2_den (h : List Int) (b : List UInt8) (k : List Int) (hh : h.length = 8) (hb : b.length = 64) (hk : k.length = 64) : Den Tryz.prog 218 [.ptr 1000000 0, .vs (b.map u8), .ptr 1000001 0] [.cells (h.map c4), .cells (k.map c4)] (.tup []) [] [.cells ((sblk h b k).map c4), .cells (k.map c4)] := by
 refine den_of Tryz.mixed Tryz.func218 rfl Tryz.call218 Tryz.ntmps218 (congrArg Array.toList Tryz.results218) (by simp) (by kernel_rfl) [] (exts := [1000000, 1000001]) rfl rfl ?_
 simp only [go_sem]
 refine loop Tryz.mixed 0 (fun i : Nat => [(0, .ptr 1000000 0), (1, .vs (b.map u8)), (2, .ptr 1000001 0), (6, .ptr 6 0), (19, .int .i64 i)]) (fun i => [(6, .cells ((wA b i).map c4)), (1000000, .cells (h.map c4)), (1000001, .cells (k.map c4))]) (fun i => i ≤ 16) (fun i => 16 - i) (by kernel_rfl) ?_ ?_ ?_
 ·simp
 ·simp only [go_sem, wA, List.map_replicate]
  rfl
 ·intro i hi
  have e1 : i < 16 → IntKind.i64.wrap (4 * (i : Int)) = ((4 * i : Nat) : Int) := fun h => by rw [wrapI] <;> omega
  have e2 : i < 16 → IntKind.i64.wrap (((4 * i : Nat) : Int) + 1) = ((4 * i + 1 : Nat) : Int) := fun h => by rw [wrapI] <;> omega
  have e3 : i < 16 → IntKind.i64.wrap (((4 * i : Nat) : Int) + 2) = ((4 * i + 2 : Nat) : Int) := fun h => by rw [wrapI] <;> omega
  have e4 : i < 16 → IntKind.i64.wrap (((4 * i : Nat) : Int) + 3) = ((4 * i + 3 : Nat) : Int) := fun h => by rw [wrapI] <;> omega
  have hw := wA_len b i
  by_cases hi' : i < 16
  ·simp only [go_sem, e1 hi', e2 hi', e3 hi', e4 hi', hw, hb]
   refine ⟨fun _ => ⟨by omega, by omega, by omega, by omega, by omega, by omega, okD_of (by kernel_rfl), i + 1, ⟨by omega, by omega⟩, ?_⟩, fun h => by omega⟩
   exact ⟨by rw [wrapI] <;> omega, rfl⟩
  ·have : i = 16 := by omega
   have hf : ¬ ((i : Int) < 16) := by omega
   simp only [go_sem, hf]
   subst this
   refine loop Tryz.mixed 0 (fun m : Nat => [(0, .ptr 1000000 0), (2, .ptr 1000001 0), (6, .ptr 6 0), (8, .fn 266 []), (9, .int .i64 ((16 + m : Nat) : Int))]) (fun m => [(6, .cells ((wB b m).map c4)), (1000000, .cells (h.map c4)), (1000001, .cells (k.map c4))]) (fun m => m ≤ 48) (fun m => 48 - m) (by kernel_rfl) ?_ ?_ ?_
   ·simp
   ·simp only [go_sem, wB]
   ·intro m hm
    have hw := wB_len b m
    by_cases hm' : m < 48
    ·have f1 : IntKind.i64.wrap (((16 + m : Nat) : Int) - 15) = ((m + 1 : Nat) : Int) := by rw [wrapI] <;> omega
     have f2 : IntKind.i64.wrap (((16 + m : Nat) : Int) - 2) = ((m + 14 : Nat) : Int) := by rw [wrapI] <;> omega
     have f3 : IntKind.i64.wrap (((16 + m : Nat) : Int) - 16) = ((m : Nat) : Int) := by rw [wrapI] <;> omega
     have f4 : IntKind.i64.wrap (((16 + m : Nat) : Int) - 7) = ((m + 9 : Nat) : Int) := by rw [wrapI] <;> omega
     simp only [go_sem, f1, f2, f3, f4, hw]
     refine ⟨fun _ => ?_, fun h => by omega⟩
     (repeat refine And.intro (by first | omega | exact okD_of (by kernel_rfl)) ?_)
     refine call (turn2_den (el (wB b m) (m + 1)) 7 7 (by omega) (by omega) (by rfl)) [] ?_
     simp only [go_sem, f1, f2, f3, f4, hw]
     (repeat refine And.intro (by first | omega | exact okD_of (by kernel_rfl)) ?_)
     refine call (turn2_den (el (wB b m) (m + 1)) 18 18 (by omega) (by omega) (by rfl)) [] ?_
     simp only [go_sem, f1, f2, f3, f4, hw]
     (repeat refine And.intro (by first | omega | exact okD_of (by kernel_rfl)) ?_)
     refine call (turn2_den (el (wB b m) (m + 14)) 17 17 (by omega) (by omega) (by rfl)) [] ?_
     simp only [go_sem, f1, f2, f3, f4, hw]
     (repeat refine And.intro (by first | omega | exact okD_of (by kernel_rfl)) ?_)
     refine call (turn2_den (el (wB b m) (m + 14)) 19 19 (by omega) (by omega) (by rfl)) [] ?_
     simp only [go_sem, f1, f2, f3, f4, hw]
     (repeat refine And.intro (by first | omega | exact okD_of (by kernel_rfl)) ?_)
     refine ⟨m + 1, ⟨by omega, by omega⟩, ?_⟩
     exact ⟨by rw [wrapI] <;> omega, rfl⟩
    ·have hf : ¬ (((16 + m : Nat) : Int) < 64) := by omega
     have : m = 48 := by omega
     subst this
     generalize hW : wB b 48 = W at *
     have ht8 : h.take 8 = h := by rw [← hh, List.take_length]
     simp only [go_sem, hf, ht8, hh]
     refine loop Tryz.mixed 0 (fun j : Nat => [(0, .ptr 1000000 0), (2, .ptr 1000001 0), (6, .ptr 6 0), (8, .fn 266 []), (12, .ptr 12 0), (106, .int .i64 j)]) (fun j => [(6, .cells (W.map c4)), (12, .cells ((rnds h k W j).map c4)), (1000000, .cells (h.map c4)), (1000001, .cells (k.map c4))]) (fun j => j ≤ 64) (fun j => 64 - j) (by kernel_rfl) ?_ ?_ ?_
     ·simp
     ·simp only [go_sem, rnds]
     ·intro j hj
      have hv := rnds_len (k := k) (w := W) hh j
      by_cases hj' : j < 64
      ·have hR : rnds h k W (j + 1) = rnd (rnds h k W j) (el k j) (el W j) := rfl
       generalize rnds h k W j = V at *
       simp only [go_sem, hv, hw, hk]
       refine ⟨fun _ => ?_, fun h => by omega⟩
       (repeat refine And.intro (by first | omega | exact okD_of (by kernel_rfl)) ?_)
       refine call (turn2_den (el V 4) 6 6 (by omega) (by omega) (by rfl)) [] ?_
       simp only [go_sem, hv, hw, hk]
       refine call (turn2_den (el V 4) 11 11 (by omega) (by omega) (by rfl)) [] ?_
       simp only [go_sem, hv, hw, hk]
       refine call (turn2_den (el V 4) 25 25 (by omega) (by omega) (by rfl)) [] ?_
       simp only [go_sem, hv, hw, hk]
       (repeat refine And.intro (by first | omega | exact okD_of (by kernel_rfl)) ?_)
       refine call (turn2_den (el V 0) 2 2 (by omega) (by omega) (by rfl)) [] ?_
       simp only [go_sem, hv, hw, hk]
       refine call (turn2_den (el V 0) 13 13 (by omega) (by omega) (by rfl)) [] ?_
       simp only [go_sem, hv, hw, hk]
       refine call (turn2_den (el V 0) 22 22 (by omega) (by omega) (by rfl)) [] ?_
       simp only [go_sem, hv, hw, hk]
       (repeat refine And.intro (by first | omega | exact okD_of (by kernel_rfl)) ?_)
       refine ⟨j + 1, ⟨by omega, by omega⟩, by rw [wrapI] <;> omega, ?_⟩
       rw [hR, rnd, ad_assoc, List.drop_of_length_le (by omega : V.length ≤ 8)]
       rfl
      ·have hf : ¬ ((j : Int) < 64) := by omega
       simp only [go_sem, hf]
       have : j = 64 := by omega
       subst this
       generalize hV : rnds h k W 64 = V at *
       refine loop Tryz.mixed 0 (fun j : Nat => [(0, .ptr 1000000 0), (12, .ptr 12 0), (196, .int .i64 j)]) (fun j => [(12, .cells (V.map c4)), (1000000, .cells ((fin h V j).map c4)), (1000001, .cells (k.map c4))]) (fun j => j ≤ 8) (fun j => 8 - j) (by kernel_rfl) ?_ ?_ ?_
       ·simp
       ·simp only [go_sem, fin]
       ·intro j hj
        have hfl := fin_len (h := V) hh j
        by_cases hj' : j < 8
        ·simp only [go_sem, hfl, hh, hv]
         refine ⟨fun _ => ?_, fun h => by omega⟩
         (repeat refine And.intro (by first | omega | exact okD_of (by kernel_rfl)) ?_)
         exact ⟨j + 1, ⟨by omega, by omega⟩, by rw [wrapI] <;> omega, rfl⟩
        ·have hf : ¬ ((j : Int) < 8) := by omega
         simp only [go_sem, hf]
         have : j = 8 := by omega
         subst this
         have hs : sblk h b k = fin V h 8 := by rw [← hV, ← hW]; rfl
         rw [hs, fin_comm hv hh]
end Go.Proofs.Am
