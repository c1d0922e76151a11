/- Committees. -/
import Derived.Test.YthcphdogfdghkaaGreatC4
set_option linter.unusedSimpArgs false
set_option linter.unusedVariables false
namespace Go.Proofs.Am
open Go Go.RowKit
open Go.Proofs

set_option maxHeartbeats 1000000 in
set_option maxRecDepth 100000 in
theorem minus_den (a b : List Int) (ha : big a.length) (hb : big b.length) : Den Tryz.prog 58 [.vs (a.map i1), .vs (b.map i1)] [] (.vs ((keysW (fun k => decide (k ∈ a) && !decide (k ∈ b)) 64).map i1)) [] [] := by
  refine den_of Tryz.mixed Tryz.func58 rfl Tryz.call58 Tryz.ntmps58 (congrArg Array.toList Tryz.results58) (by simp) (by kernel_rfl) [] (exts := []) rfl rfl ?_
  simp only [go_sem, ↓reduceIte, reduceCtorEq, Nat.reduceEqDiff, Nat.reduceAdd, Nat.reduceSub, Nat.reduceMul, Nat.reduceLT, Nat.reduceLeDiff, Int.reduceLT, Int.reduceLE, Int.reduceEq, Int.reduceNe, Int.reduceToNat, Int.reduceAdd, Int.reduceSub, Int.reduceMul, Int.natCast_zero]
  generalize hc : (fun k => decide (k ∈ a) && !decide (k ∈ b)) = c
  have hc' : ∀ k, c k = (decide (k ∈ a) && !decide (k ∈ b)) := fun k => by rw [← hc]
  refine promote 5 99 3 1 false ?_ ?_ ?_ (by omega)
  · simp only [go_sem, ↓reduceIte, reduceCtorEq, Nat.reduceEqDiff, Nat.reduceAdd, Nat.reduceSub, Nat.reduceMul, Nat.reduceLT, Nat.reduceLeDiff, Int.reduceLT, Int.reduceLE, Int.reduceEq, Int.reduceNe, Int.reduceToNat, Int.reduceAdd, Int.reduceSub, Int.reduceMul, Int.natCast_zero]
    refine loop Tryz.mixed 0 (fun i : Nat => [(0, .vs (a.map i1)), (1, .vs (b.map i1)), (5, .os 99 (keysW c i).length), (6, .int .i64 i)]) (fun i => [(99, .arr 3 1 false ((keysW c i).map i1))]) (fun i => i ≤ 64) (fun i => 64 - i) (by kernel_rfl) ?_ ?_ ?_
    · simp
    · simp only [keysW, List.range_zero, List.map_nil, List.filter_nil]
      simp only [go_sem, ↓reduceIte, reduceCtorEq, Nat.reduceEqDiff, Nat.reduceAdd, Nat.reduceSub, Nat.reduceMul, Nat.reduceLT, Nat.reduceLeDiff, Int.reduceLT, Int.reduceLE, Int.reduceEq, Int.reduceNe, Int.reduceToNat, Int.reduceAdd, Int.reduceSub, Int.reduceMul, Int.natCast_zero]
    · intro i hi
      have hl := keysW_len c i
      have hs := keysW_succ c i
      rw [hc'] at hs
      have fin : ∀ t : Bool, (decide ((i : Int) ∈ a) && !decide ((i : Int) ∈ b)) = t → keysW c (i + 1) = keysW c i ++ (if t then [(i : Int)] else []) := fun t ht => by rw [hs, ht]
      by_cases hi' : i < 64
      · have hlt : (i : Int) < 64 := by omega
        simp only [go_sem, ↓reduceIte, reduceCtorEq, Nat.reduceEqDiff, Nat.reduceAdd, Nat.reduceSub, Nat.reduceMul, Nat.reduceLT, Nat.reduceLeDiff, Int.reduceLT, Int.reduceLE, Int.reduceEq, Int.reduceNe, Int.reduceToNat, Int.reduceAdd, Int.reduceSub, Int.reduceMul, Int.natCast_zero, hlt]
        refine call (has24 a i ha) [] ?_
        by_cases h1 : (i : Int) ∈ a
        · simp only [go_sem, ↓reduceIte, reduceCtorEq, Nat.reduceEqDiff, Nat.reduceAdd, Nat.reduceSub, Nat.reduceMul, Nat.reduceLT, Nat.reduceLeDiff, Int.reduceLT, Int.reduceLE, Int.reduceEq, Int.reduceNe, Int.reduceToNat, Int.reduceAdd, Int.reduceSub, Int.reduceMul, Int.natCast_zero, h1]
          refine call (has24 b i hb) [] ?_
          by_cases h2 : (i : Int) ∈ b
          · have := fin false (by simp [h2])
            simp only [go_sem, ↓reduceIte, reduceCtorEq, Nat.reduceEqDiff, Nat.reduceAdd, Nat.reduceSub, Nat.reduceMul, Nat.reduceLT, Nat.reduceLeDiff, Int.reduceLT, Int.reduceLE, Int.reduceEq, Int.reduceNe, Int.reduceToNat, Int.reduceAdd, Int.reduceSub, Int.reduceMul, Int.natCast_zero, h2]
            refine ⟨i + 1, ⟨by omega, by omega⟩, ?_⟩
            simp only [go_sem, ↓reduceIte, reduceCtorEq, Nat.reduceEqDiff, Nat.reduceAdd, Nat.reduceSub, Nat.reduceMul, Nat.reduceLT, Nat.reduceLeDiff, Int.reduceLT, Int.reduceLE, Int.reduceEq, Int.reduceNe, Int.reduceToNat, Int.reduceAdd, Int.reduceSub, Int.reduceMul, Int.natCast_zero, this, List.map_append, List.length_append]
            rw [wrapI] <;> omega
          · have := fin true (by simp [h1, h2])
            simp only [go_sem, ↓reduceIte, reduceCtorEq, Nat.reduceEqDiff, Nat.reduceAdd, Nat.reduceSub, Nat.reduceMul, Nat.reduceLT, Nat.reduceLeDiff, Int.reduceLT, Int.reduceLE, Int.reduceEq, Int.reduceNe, Int.reduceToNat, Int.reduceAdd, Int.reduceSub, Int.reduceMul, Int.natCast_zero, h2]
            refine ⟨by omega, i + 1, ⟨by omega, by omega⟩, ?_⟩
            simp only [go_sem, ↓reduceIte, reduceCtorEq, Nat.reduceEqDiff, Nat.reduceAdd, Nat.reduceSub, Nat.reduceMul, Nat.reduceLT, Nat.reduceLeDiff, Int.reduceLT, Int.reduceLE, Int.reduceEq, Int.reduceNe, Int.reduceToNat, Int.reduceAdd, Int.reduceSub, Int.reduceMul, Int.natCast_zero, this, List.map_append, List.length_append]
            rw [wrapI] <;> omega
        · have := fin false (by simp [h1])
          simp only [go_sem, ↓reduceIte, reduceCtorEq, Nat.reduceEqDiff, Nat.reduceAdd, Nat.reduceSub, Nat.reduceMul, Nat.reduceLT, Nat.reduceLeDiff, Int.reduceLT, Int.reduceLE, Int.reduceEq, Int.reduceNe, Int.reduceToNat, Int.reduceAdd, Int.reduceSub, Int.reduceMul, Int.natCast_zero, h1]
          refine ⟨i + 1, ⟨by omega, by omega⟩, ?_⟩
          simp only [go_sem, ↓reduceIte, reduceCtorEq, Nat.reduceEqDiff, Nat.reduceAdd, Nat.reduceSub, Nat.reduceMul, Nat.reduceLT, Nat.reduceLeDiff, Int.reduceLT, Int.reduceLE, Int.reduceEq, Int.reduceNe, Int.reduceToNat, Int.reduceAdd, Int.reduceSub, Int.reduceMul, Int.natCast_zero, this, List.map_append, List.length_append]
          rw [wrapI] <;> omega
      · have : i = 64 := by omega
        have hf : ¬ ((i : Int) < 64) := by omega
        simp only [go_sem, ↓reduceIte, reduceCtorEq, Nat.reduceEqDiff, Nat.reduceAdd, Nat.reduceSub, Nat.reduceMul, Nat.reduceLT, Nat.reduceLeDiff, Int.reduceLT, Int.reduceLE, Int.reduceEq, Int.reduceNe, Int.reduceToNat, Int.reduceAdd, Int.reduceSub, Int.reduceMul, Int.natCast_zero, hf]
        subst this
        rfl
  · simp only [go_sem, ↓reduceIte, reduceCtorEq, Nat.reduceEqDiff, Nat.reduceAdd, Nat.reduceSub, Nat.reduceMul, Nat.reduceLT, Nat.reduceLeDiff, Int.reduceLT, Int.reduceLE, Int.reduceEq, Int.reduceNe, Int.reduceToNat, Int.reduceAdd, Int.reduceSub, Int.reduceMul, Int.natCast_zero]
  · simp only [go_sem, ↓reduceIte, reduceCtorEq, Nat.reduceEqDiff, Nat.reduceAdd, Nat.reduceSub, Nat.reduceMul, Nat.reduceLT, Nat.reduceLeDiff, Int.reduceLT, Int.reduceLE, Int.reduceEq, Int.reduceNe, Int.reduceToNat, Int.reduceAdd, Int.reduceSub, Int.reduceMul, Int.natCast_zero]


theorem or_nat (a b : Nat) (ha : a < 9223372036854775808) (hb : b < 9223372036854775808) : bits .or .i64 (a : Int) (b : Int) = ((a ||| b : Nat) : Int) := by
  have hx : a ||| b < 2 ^ 63 := Nat.or_lt_two_pow (by omega) (by omega)
  have h1 : (BitVec.ofInt 64 (a : Int)).toNat = a := by
    rw [BitVec.ofInt_natCast, BitVec.toNat_ofNat]; exact Nat.mod_eq_of_lt (by omega)
  have h2 : (BitVec.ofInt 64 (b : Int)).toNat = b := by
    rw [BitVec.ofInt_natCast, BitVec.toNat_ofNat]; exact Nat.mod_eq_of_lt (by omega)
  show IntKind.i64.wrap ((BitVec.ofInt 64 (a : Int) ||| BitVec.ofInt 64 (b : Int)).toNat : Int) = _
  rw [BitVec.toNat_or, h1, h2, IntKind.wrap_i64]
  omega
theorem num32_nn (s : List UInt8) : 0 ≤ num32 s := by
  have hb : ∀ k, (s.getD k 0).toNat < 256 := fun k => (s.getD k 0).toNat_lt
  have w : ∀ k, IntKind.i64.wrap ((s.getD k 0).toNat : Int) = ((s.getD k 0).toNat : Int) := fun k => wrapI (by omega) (by have := hb k; omega)
  unfold num32
  rw [w, w, w, w]
  have b0 := hb 0
  have b1 := hb 1
  have b2 := hb 2
  have b3 := hb 3
  generalize (s.getD 0 0).toNat = x0 at *
  generalize (s.getD 1 0).toNat = x1 at *
  generalize (s.getD 2 0).toNat = x2 at *
  generalize (s.getD 3 0).toNat = x3 at *
  have e0 : IntKind.i64.wrap ((x0 : Int) * 2 ^ min 24 64) = ((x0 * 16777216 : Nat) : Int) := by
    have : (2 : Int) ^ min 24 64 = 16777216 := by rfl
    rw [this, wrapI] <;> omega
  have e1 : IntKind.i64.wrap ((x1 : Int) * 2 ^ min 16 64) = ((x1 * 65536 : Nat) : Int) := by
    have : (2 : Int) ^ min 16 64 = 65536 := by rfl
    rw [this, wrapI] <;> omega
  have e2 : IntKind.i64.wrap ((x2 : Int) * 2 ^ min 8 64) = ((x2 * 256 : Nat) : Int) := by
    have : (2 : Int) ^ min 8 64 = 256 := by rfl
    rw [this, wrapI] <;> omega
  rw [e0, e1, e2, or_nat _ _ (by omega) (by omega)]
  have l1 : x0 * 16777216 ||| x1 * 65536 < 2 ^ 32 := Nat.or_lt_two_pow (by omega) (by omega)
  rw [or_nat _ _ (by omega) (by omega)]
  have l2 : (x0 * 16777216 ||| x1 * 65536) ||| x2 * 256 < 2 ^ 32 := Nat.or_lt_two_pow (by omega) (by omega)
  rw [or_nat _ _ (by omega) (by omega)]
  omega
theorem numAt_nn (v : List UInt8) (tag : List Int) (i : Nat) : 0 ≤ numAt v tag i := num32_nn _
theorem nums_nn (v : List UInt8) (tag : List Int) : ∀ n, ∀ x ∈ nums v tag n, 0 ≤ x
  | 0, x, h => by simp [nums] at h
  | n + 1, x, h => by
    rw [nums, List.mem_append] at h
    rcases h with h | h
    · exact nums_nn v tag n x h
    · rw [List.mem_singleton] at h; rw [h]; exact numAt_nn _ _ _

def enoughB (v s : Int) : Bool := decide (1 ≤ s ∧ s ≤ 9 ∧ 0 ≤ v ∧ v ≤ s ∧ 3 * s < 4 * v)
set_option maxHeartbeats 1000000 in
set_option maxRecDepth 100000 in
theorem enough_den (v s : Int) : Den Tryz.prog 101 [.int .i64 v, .int .i64 s] [] (.bool (enoughB v s)) [] [] := by
  refine den_of Tryz.mixed Tryz.func101 rfl Tryz.call101 Tryz.ntmps101 (congrArg Array.toList Tryz.results101) (by simp) (by kernel_rfl) [] (exts := []) rfl rfl ?_
  by_cases h1 : 1 ≤ s
  · by_cases h2 : s ≤ 9
    · by_cases h3 : 0 ≤ v
      · by_cases h4 : v ≤ s
        · have e1 : IntKind.i64.wrap (4 * v) = 4 * v := by rw [wrapI] <;> omega
          have e2 : IntKind.i64.wrap (3 * s) = 3 * s := by rw [wrapI] <;> omega
          simp only [go_sem, ↓reduceIte, reduceCtorEq, Nat.reduceEqDiff, Nat.reduceAdd, Nat.reduceSub, Nat.reduceMul, Nat.reduceLT, Nat.reduceLeDiff, Int.reduceLT, Int.reduceLE, Int.reduceEq, Int.reduceNe, Int.reduceToNat, Int.reduceAdd, Int.reduceSub, Int.reduceMul, Int.natCast_zero, h1, h2, h3, h4, e1, e2]
          simp [enoughB, h1, h2, h3, h4]
        · have : enoughB v s = false := decide_eq_false (by omega)
          simp only [go_sem, ↓reduceIte, reduceCtorEq, Nat.reduceEqDiff, Nat.reduceAdd, Nat.reduceSub, Nat.reduceMul, Nat.reduceLT, Nat.reduceLeDiff, Int.reduceLT, Int.reduceLE, Int.reduceEq, Int.reduceNe, Int.reduceToNat, Int.reduceAdd, Int.reduceSub, Int.reduceMul, Int.natCast_zero, h1, h2, h3, h4, this]
      · have : enoughB v s = false := decide_eq_false (by omega)
        simp only [go_sem, ↓reduceIte, reduceCtorEq, Nat.reduceEqDiff, Nat.reduceAdd, Nat.reduceSub, Nat.reduceMul, Nat.reduceLT, Nat.reduceLeDiff, Int.reduceLT, Int.reduceLE, Int.reduceEq, Int.reduceNe, Int.reduceToNat, Int.reduceAdd, Int.reduceSub, Int.reduceMul, Int.natCast_zero, h1, h2, h3, this]
    · have : enoughB v s = false := decide_eq_false (by omega)
      simp only [go_sem, ↓reduceIte, reduceCtorEq, Nat.reduceEqDiff, Nat.reduceAdd, Nat.reduceSub, Nat.reduceMul, Nat.reduceLT, Nat.reduceLeDiff, Int.reduceLT, Int.reduceLE, Int.reduceEq, Int.reduceNe, Int.reduceToNat, Int.reduceAdd, Int.reduceSub, Int.reduceMul, Int.natCast_zero, h1, h2, this]
  · have : enoughB v s = false := decide_eq_false (by omega)
    simp only [go_sem, ↓reduceIte, reduceCtorEq, Nat.reduceEqDiff, Nat.reduceAdd, Nat.reduceSub, Nat.reduceMul, Nat.reduceLT, Nat.reduceLeDiff, Int.reduceLT, Int.reduceLE, Int.reduceEq, Int.reduceNe, Int.reduceToNat, Int.reduceAdd, Int.reduceSub, Int.reduceMul, Int.natCast_zero, h1, this]

/-! ### Sorted lists of keys -/
theorem elg {l : List Int} {i : Nat} (h : i < l.length) : el l i = l[i] := by
  simp only [el, List.getD_eq_getElem?_getD, List.getElem?_eq_getElem h, Option.getD_some]
theorem setV_of {l : List Int} {n : Int} (hp : l.Pairwise (· < ·)) (hb : ∀ x ∈ l, 0 ≤ x ∧ x < n) : setV l n = true :=
  allI_t fun i hi => decide_eq_true (by
    have h1 := hb _ (mem_of_el hi)
    refine ⟨h1.1, h1.2, fun h0 => ?_⟩
    have := List.pairwise_iff_getElem.1 hp (i - 1) i (by omega) hi (by omega)
    rwa [elg (by omega), elg hi])
theorem setV_pw {l : List Int} {n : Int} (h : setV l n = true) : l.Pairwise (· < ·) ∧ ∀ x ∈ l, 0 ≤ x ∧ x < n := by
  have h' : ∀ i, i < l.length → okKey n l i = true := of_decide_eq_true h
  have ok : ∀ i, i < l.length → (0 ≤ el l i ∧ el l i < n ∧ (0 < i → el l (i - 1) < el l i)) := fun i hi => of_decide_eq_true (h' i hi)
  refine ⟨List.pairwise_iff_getElem.2 ?_, fun x hx => ?_⟩
  · have key : ∀ d i, i + (d + 1) < l.length → el l i < el l (i + (d + 1)) := by
      intro d
      induction d with
      | zero => intro i hi; exact (ok (i + 1) hi).2.2 (by omega)
      | succ d ih =>
        intro i hi
        have h1 := ih i (by omega)
        have h2 := (ok (i + (d + 1 + 1)) hi).2.2 (by omega)
        exact Int.lt_trans h1 h2
    intro i j hi hj hij
    have := key (j - i - 1) i (by omega)
    rw [elg hi] at this
    have e : i + (j - i - 1 + 1) = j := by omega
    rw [e, elg hj] at this
    exact this
  · obtain ⟨i, hi, rfl⟩ := el_of_mem hx
    exact ⟨(ok i hi).1, (ok i hi).2.1⟩
theorem rosV_of {l : List Int} (hp : l.Pairwise (· < ·)) (hb : ∀ x ∈ l, 0 ≤ x ∧ x < 64) (h0 : l ≠ []) (h1 : l.length ≤ 64) : rosV l = true := by
  have : 0 < l.length := by cases l with | nil => exact absurd rfl h0 | cons => simp
  rw [rosV, decide_eq_true (by omega), setV_of hp hb]; rfl
theorem rosV_pw {l : List Int} (h : rosV l = true) : l.Pairwise (· < ·) ∧ (∀ x ∈ l, 0 ≤ x ∧ x < 64) ∧ l ≠ [] ∧ l.length ≤ 64 := by
  rw [rosV, Bool.and_eq_true] at h
  have h1 := of_decide_eq_true h.1
  have h2 := setV_pw h.2
  exact ⟨h2.1, h2.2, fun e => by rw [e] at h1; simp at h1, h1.2⟩
theorem keysW_pw (c : Int → Bool) (n : Nat) : (keysW c n).Pairwise (· < ·) := by
  unfold keysW
  refine List.Pairwise.filter _ ?_
  rw [List.pairwise_map]
  exact List.pairwise_lt_range.imp fun h => by omega
theorem keysW_ros {c : Int → Bool} (h : keysW c 64 ≠ []) : rosV (keysW c 64) = true :=
  rosV_of (keysW_pw c 64) (fun x hx => by have := (mem_keysW.1 hx).1; omega) h (keysW_len c 64)

/-- Draws: who has a seat, and who is left. -/
def drawS (l nu : List Int) : Nat → List Int × List Int
  | 0 => ([], l)
  | i + 1 =>
    ((drawS l nu i).1 ++ [el (drawS l nu i).2 ((el nu i).tmod (drawS l nu i).2.length).toNat],
     (drawS l nu i).2.take ((el nu i).tmod (drawS l nu i).2.length).toNat ++ (drawS l nu i).2.drop (((el nu i).tmod (drawS l nu i).2.length).toNat + 1))
theorem tmod_bd {a : Int} {n : Nat} (ha : 0 ≤ a) (hn : 0 < n) : 0 ≤ a.tmod n ∧ a.tmod n < n := ⟨Int.tmod_nonneg _ ha, Int.tmod_lt_of_pos _ (by omega)⟩
theorem draw_len {l nu : List Int} (hn : ∀ x ∈ nu, 0 ≤ x) : ∀ i, i ≤ l.length → (drawS l nu i).1.length = i ∧ (drawS l nu i).2.length = l.length - i
  | 0, _ => ⟨rfl, rfl⟩
  | i + 1, hi => by
    have ih := draw_len (l := l) hn i (by omega)
    have h0 : 0 ≤ el nu i := by
      by_cases h : i < nu.length
      · exact hn _ (mem_of_el h)
      · have : el nu i = 0 := by simp [el, List.getD_eq_getElem?_getD, List.getElem?_eq_none (by omega : nu.length ≤ i)]
        omega
    have hb := tmod_bd (n := (drawS l nu i).2.length) h0 (by omega)
    simp only [drawS, List.length_append, List.length_cons, List.length_nil, List.length_take, List.length_drop]
    omega
theorem draw_perm {l nu : List Int} (hn : ∀ x ∈ nu, 0 ≤ x) : ∀ i, i ≤ l.length → List.Perm ((drawS l nu i).1 ++ (drawS l nu i).2) l
  | 0, _ => by simp [drawS]
  | i + 1, hi => by
    have ih := draw_perm (l := l) hn i (by omega)
    have hl := draw_len (l := l) hn i (by omega)
    have h0 : 0 ≤ el nu i := by
      by_cases h : i < nu.length
      · exact hn _ (mem_of_el h)
      · have : el nu i = 0 := by simp [el, List.getD_eq_getElem?_getD, List.getElem?_eq_none (by omega : nu.length ≤ i)]
        omega
    have hb := tmod_bd (n := (drawS l nu i).2.length) h0 (by omega)
    refine List.Perm.trans ?_ ih
    simp only [drawS]
    generalize hk : ((el nu i).tmod (drawS l nu i).2.length).toNat = k
    generalize (drawS l nu i).1 = o at *
    generalize (drawS l nu i).2 = f at *
    have hkl : k < f.length := by omega
    rw [List.append_assoc]
    refine List.Perm.append_left o ?_
    have hf : f = f.take k ++ (el f k :: f.drop (k + 1)) := by
      have := take_el hkl
      conv => lhs; rw [← List.take_append_drop (k + 1) f]
      rw [this]; simp
    (conv => rhs; rw [hf])
    rw [List.singleton_append]
    exact List.perm_middle.symm
theorem draw_mem {l nu : List Int} (hn : ∀ x ∈ nu, 0 ≤ x) {i : Nat} (hi : i ≤ l.length) {x : Int} (hx : x ∈ (drawS l nu i).1) : x ∈ l :=
  (draw_perm hn i hi).mem_iff.1 (List.mem_append_left _ hx)
theorem draw_nodup {l nu : List Int} (hn : ∀ x ∈ nu, 0 ≤ x) {i : Nat} (hi : i ≤ l.length) (hl : l.Nodup) : (drawS l nu i).1.Nodup :=
  (List.nodup_append.1 ((draw_perm hn i hi).nodup_iff.2 hl)).1

set_option maxHeartbeats 1000000 in
set_option maxRecDepth 100000 in
theorem draw_den (l nu : List Int) (s : Int) (hr : rosV l = true) (h1 : 1 ≤ s) (h9 : s ≤ 9) (hs : 9 ≤ nu.length) (hnb : big nu.length) (hn : ∀ x ∈ nu, 0 ≤ x) : Den Tryz.prog 59 [.vs (l.map i1), .vs (nu.map i1), .int .i64 s] [] (.tup [.vs ((drawS l nu (min s.toNat l.length)).1.map i1), .int .i64 0]) [] [] := by
  refine den_of Tryz.mixed Tryz.func59 rfl Tryz.call59 Tryz.ntmps59 (congrArg Array.toList Tryz.results59) (by simp) (by kernel_rfl) [] (exts := []) rfl rfl ?_
  obtain ⟨_, _, hne, hl64⟩ := rosV_pw hr
  simp only [go_sem, ↓reduceIte, reduceCtorEq, Nat.reduceEqDiff, Nat.reduceAdd, Nat.reduceSub, Nat.reduceMul, Nat.reduceLT, Nat.reduceLeDiff, Int.reduceLT, Int.reduceLE, Int.reduceEq, Int.reduceNe, Int.reduceToNat, Int.reduceAdd, Int.reduceSub, Int.reduceMul, Int.natCast_zero]
  refine call (ros24 l (by simp only [big]; omega)) [] ?_
  rw [hr]
  have g1 : ¬ s < 1 := by omega
  have g2 : ¬ 9 < s := by omega
  generalize hm : min s.toNat l.length = m
  have g0 : (if (l.length : Int) < s then (l.length : Int) else s) = (m : Int) := by split <;> omega
  have g3 : ¬ (nu.length : Int) < (m : Int) := by omega
  simp only [go_sem, ↓reduceIte, reduceCtorEq, Nat.reduceEqDiff, Nat.reduceAdd, Nat.reduceSub, Nat.reduceMul, Nat.reduceLT, Nat.reduceLeDiff, Int.reduceLT, Int.reduceLE, Int.reduceEq, Int.reduceNe, Int.reduceToNat, Int.reduceAdd, Int.reduceSub, Int.reduceMul, Int.natCast_zero, g0, g1, g2, g3]
  refine ⟨by omega, ?_⟩
  refine promote 10 99 3 1 false ?_ ?_ ?_ (by omega)
  · refine loop Tryz.mixed 0 (fun i : Nat => [(1, .vs (nu.map i1)), (8, .int .i64 m), (9, .vs ((drawS l nu i).2.map i1)), (10, .os 99 (drawS l nu i).1.length), (11, .int .i64 i)]) (fun i => [(99, .arr 3 1 false ((drawS l nu i).1.map i1))]) (fun i => i ≤ m) (fun i => m - i) (by kernel_rfl) ?_ ?_ ?_
    · simp
    · simp only [go_sem, ↓reduceIte, reduceCtorEq, Nat.reduceEqDiff, Nat.reduceAdd, Nat.reduceSub, Nat.reduceMul, Nat.reduceLT, Nat.reduceLeDiff, Int.reduceLT, Int.reduceLE, Int.reduceEq, Int.reduceNe, Int.reduceToNat, Int.reduceAdd, Int.reduceSub, Int.reduceMul, Int.natCast_zero, drawS, List.map_nil, List.length_nil]
    · intro i hi
      obtain ⟨hl1, hl2⟩ := draw_len (l := l) hn i (by omega)
      by_cases h : i < m
      · have hlt : (i : Int) < (m : Int) := by omega
        have hin : i < nu.length := by omega
        have h0 : 0 ≤ el nu i := hn _ (mem_of_el hin)
        have g5 : ¬ el nu i < 0 := by omega
        have hd1 : (drawS l nu (i + 1)).1 = (drawS l nu i).1 ++ [el (drawS l nu i).2 ((el nu i).tmod (drawS l nu i).2.length).toNat] := rfl
        have hd2 : (drawS l nu (i + 1)).2 = (drawS l nu i).2.take ((el nu i).tmod (drawS l nu i).2.length).toNat ++ (drawS l nu i).2.drop (((el nu i).tmod (drawS l nu i).2.length).toNat + 1) := rfl
        have hb := tmod_bd (n := (drawS l nu i).2.length) h0 (by omega)
        generalize (drawS l nu i).1 = o at *
        generalize (drawS l nu i).2 = f at *
        obtain ⟨k, hk⟩ : ∃ k : Nat, (el nu i).tmod f.length = (k : Int) := ⟨((el nu i).tmod f.length).toNat, by omega⟩
        rw [hk] at hb hd1 hd2
        have e1 : IntKind.i64.wrap ((k : Int) + 1) = ((k + 1 : Nat) : Int) := by rw [wrapI] <;> omega
        have hfn : ¬ (f.length : Int) = 0 := by omega
        simp only [go_sem, ↓reduceIte, reduceCtorEq, Nat.reduceEqDiff, Nat.reduceAdd, Nat.reduceSub, Nat.reduceMul, Nat.reduceLT, Nat.reduceLeDiff, Int.reduceLT, Int.reduceLE, Int.reduceEq, Int.reduceNe, Int.reduceToNat, Int.reduceAdd, Int.reduceSub, Int.reduceMul, Int.natCast_zero, hlt, hin, g5, hk, hfn, e1]
        have t1 : (List.take k f).length ≤ 64 := by rw [List.length_take]; omega
        have t2 : (List.drop (k + 1) (List.take f.length f)).length ≤ 64 := by rw [List.length_drop, List.length_take]; omega
        refine ⟨by omega, by omega, ⟨by omega, by omega⟩, by omega, ⟨by omega, by omega, by omega⟩, by omega, okD_of (by kernel_rfl), i + 1, ⟨by omega, by omega⟩, ⟨?_, ?_, ?_⟩, ?_⟩
        · rw [hd2, List.map_append, List.take_length]; rfl
        · rw [hd1, List.length_append]; rfl
        · rw [wrapI] <;> omega
        · rw [hd1, List.map_append]; rfl
      · have hm2 : i = m := by omega
        subst hm2
        have hc : ¬ (i : Int) < (i : Int) := by omega
        simp only [go_sem, ↓reduceIte, reduceCtorEq, Nat.reduceEqDiff, Nat.reduceAdd, Nat.reduceSub, Nat.reduceMul, Nat.reduceLT, Nat.reduceLeDiff, Int.reduceLT, Int.reduceLE, Int.reduceEq, Int.reduceNe, Int.reduceToNat, Int.reduceAdd, Int.reduceSub, Int.reduceMul, Int.natCast_zero, hc]
  · simp only [go_sem, ↓reduceIte, reduceCtorEq, Nat.reduceEqDiff, Nat.reduceAdd, Nat.reduceSub, Nat.reduceMul, Nat.reduceLT, Nat.reduceLeDiff, Int.reduceLT, Int.reduceLE, Int.reduceEq, Int.reduceNe, Int.reduceToNat, Int.reduceAdd, Int.reduceSub, Int.reduceMul, Int.natCast_zero]
  · simp only [go_sem, ↓reduceIte, reduceCtorEq, Nat.reduceEqDiff, Nat.reduceAdd, Nat.reduceSub, Nat.reduceMul, Nat.reduceLT, Nat.reduceLeDiff, Int.reduceLT, Int.reduceLE, Int.reduceEq, Int.reduceNe, Int.reduceToNat, Int.reduceAdd, Int.reduceSub, Int.reduceMul, Int.natCast_zero]

/-- Who is left; a round of a committee. -/
def restW (l prev : List Int) : List Int := keysW (fun k => decide (k ∈ l) && !decide (k ∈ prev)) 64
def tagC (c : Cs) (j : Int) : List Int := [c.ep, c.kd, c.su, j]
def ofRd (r : Rl) (v : List UInt8) (l : List Int) (c : Cs) (j : Int) (prev : List Int) : List Int :=
  (drawS (restW l prev) (nums v (tagC c j) 9) (min r.seats.toNat (restW l prev).length)).1
def ofR (r : Rl) (v : List UInt8) (l : List Int) (c : Cs) : List Int × Int :=
  if ruleE r ≠ 0 then ([], ruleE r) else if rosV l = false then ([], 43) else if caseV c = false then ([], 41)
  else if c.ro = 0 then (ofRd r v l c 0 [], 0)
  else if restW l (ofRd r v l c 0 []) = [] then ([], 44)
  else (ofRd r v l c 1 (ofRd r v l c 0 []), 0)
theorem restW_mem {l prev : List Int} {x : Int} : x ∈ restW l prev ↔ (0 ≤ x ∧ x < 64) ∧ x ∈ l ∧ x ∉ prev := by
  rw [restW, mem_keysW]
  simp
theorem restW_nil {l : List Int} (h : rosV l = true) : restW l [] ≠ [] := by
  obtain ⟨_, hb, hne, _⟩ := rosV_pw h
  cases l with
  | nil => exact absurd rfl hne
  | cons a t =>
    have : a ∈ restW (a :: t) [] := restW_mem.2 ⟨hb a (by simp), by simp, by simp⟩
    intro e
    rw [e] at this
    simp at this
theorem restW_len (l prev : List Int) : (restW l prev).length ≤ 64 := keysW_len _ 64
theorem ofRd_len {r : Rl} {v : List UInt8} {l : List Int} {c : Cs} {j : Int} {prev : List Int} : (ofRd r v l c j prev).length = min r.seats.toNat (restW l prev).length :=
  (draw_len (l := restW l prev) (nums_nn _ _ 9) _ (by omega)).1
theorem ofRd_mem {r : Rl} {v : List UInt8} {l : List Int} {c : Cs} {j : Int} {prev : List Int} {x : Int} (h : x ∈ ofRd r v l c j prev) : x ∈ restW l prev :=
  draw_mem (nums_nn _ _ 9) (by omega) h
theorem ofRd_nodup {r : Rl} {v : List UInt8} {l : List Int} {c : Cs} {j : Int} {prev : List Int} : (ofRd r v l c j prev).Nodup :=
  draw_nodup (nums_nn _ _ 9) (by omega) ((keysW_pw _ _).imp fun h => by omega)

theorem ofR_eq (r : Rl) (v : List UInt8) (l : List Int) (c : Cs) : ofR r v l c = (if ruleE r ≠ 0 then ([], ruleE r) else if rosV l = false then ([], 43) else if caseV c = false then ([], 41)
  else if c.ro = 0 then (ofRd r v l c 0 [], 0)
  else if restW l (ofRd r v l c 0 []) = [] then ([], 44)
  else (ofRd r v l c 1 (ofRd r v l c 0 []), 0)) := rfl

set_option maxHeartbeats 1000000 in
set_option maxRecDepth 100000 in
theorem ofR_den (r : Rl) (v : List UInt8) (l : List Int) (c : Cs) (h0 : big r.gen.length) (h1 : big r.pol.se.length) (h2 : big r.pol.ta.length) (hl : big l.length) (hv : rosV l = true → v.length = 32) : Den Tryz.prog 33 [.agg (rl r), .str v, .vs (l.map i1), .agg (cs c)] [] (.tup [.vs ((ofR r v l c).1.map i1), .int .i64 (ofR r v l c).2]) [] [] := by
  refine den_of Tryz.mixed Tryz.func33 rfl Tryz.call33 Tryz.ntmps33 (congrArg Array.toList Tryz.results33) (by simp) (by kernel_rfl) [] (exts := []) rfl rfl ?_
  have hQ := ofR_eq r v l c
  generalize hm : ofR r v l c = m at *
  have c0 := rcheck24 r h0 h1 h2
  rw [rl_eq] at c0
  simp only [go_sem, ↓reduceIte, reduceCtorEq, Nat.reduceEqDiff, Nat.reduceAdd, Nat.reduceSub, Nat.reduceMul, Nat.reduceLT, Nat.reduceLeDiff, Int.reduceLT, Int.reduceLE, Int.reduceEq, Int.reduceNe, Int.reduceToNat, Int.reduceAdd, Int.reduceSub, Int.reduceMul, Int.natCast_zero]
  refine call c0 [] ?_
  by_cases a1 : ruleE r = 0
  rotate_left
  · rw [if_pos a1] at hQ
    subst hQ
    simp only [go_sem, ↓reduceIte, reduceCtorEq, Nat.reduceEqDiff, Nat.reduceAdd, Nat.reduceSub, Nat.reduceMul, Nat.reduceLT, Nat.reduceLeDiff, Int.reduceLT, Int.reduceLE, Int.reduceEq, Int.reduceNe, Int.reduceToNat, Int.reduceAdd, Int.reduceSub, Int.reduceMul, Int.natCast_zero, a1, List.map_nil]
  rw [if_neg (by simpa using a1)] at hQ
  simp only [go_sem, ↓reduceIte, reduceCtorEq, Nat.reduceEqDiff, Nat.reduceAdd, Nat.reduceSub, Nat.reduceMul, Nat.reduceLT, Nat.reduceLeDiff, Int.reduceLT, Int.reduceLE, Int.reduceEq, Int.reduceNe, Int.reduceToNat, Int.reduceAdd, Int.reduceSub, Int.reduceMul, Int.natCast_zero, a1]
  refine call (ros24 l hl) [] ?_
  cases a2 : rosV l
  · rw [if_pos a2] at hQ
    subst hQ
    simp only [go_sem, ↓reduceIte, reduceCtorEq, Nat.reduceEqDiff, Nat.reduceAdd, Nat.reduceSub, Nat.reduceMul, Nat.reduceLT, Nat.reduceLeDiff, Int.reduceLT, Int.reduceLE, Int.reduceEq, Int.reduceNe, Int.reduceToNat, Int.reduceAdd, Int.reduceSub, Int.reduceMul, Int.natCast_zero, List.map_nil]
  rw [if_neg (by simp [a2])] at hQ
  have c2 := cvalid23 c
  rw [cs_eq] at c2
  simp only [go_sem, ↓reduceIte, reduceCtorEq, Nat.reduceEqDiff, Nat.reduceAdd, Nat.reduceSub, Nat.reduceMul, Nat.reduceLT, Nat.reduceLeDiff, Int.reduceLT, Int.reduceLE, Int.reduceEq, Int.reduceNe, Int.reduceToNat, Int.reduceAdd, Int.reduceSub, Int.reduceMul, Int.natCast_zero]
  refine call c2 [] ?_
  cases a3 : caseV c
  · rw [if_pos a3] at hQ
    subst hQ
    simp only [go_sem, ↓reduceIte, reduceCtorEq, Nat.reduceEqDiff, Nat.reduceAdd, Nat.reduceSub, Nat.reduceMul, Nat.reduceLT, Nat.reduceLeDiff, Int.reduceLT, Int.reduceLE, Int.reduceEq, Int.reduceNe, Int.reduceToNat, Int.reduceAdd, Int.reduceSub, Int.reduceMul, Int.natCast_zero, List.map_nil]
  rw [if_neg (by simp [a3])] at hQ
  have hc := of_decide_eq_true a3
  obtain ⟨_, _, hne, hl64⟩ := rosV_pw a2
  have hv := hv a2
  have hS := (rule0 a1).2.2
  simp only [go_sem, ↓reduceIte, reduceCtorEq, Nat.reduceEqDiff, Nat.reduceAdd, Nat.reduceSub, Nat.reduceMul, Nat.reduceLT, Nat.reduceLeDiff, Int.reduceLT, Int.reduceLE, Int.reduceEq, Int.reduceNe, Int.reduceToNat, Int.reduceAdd, Int.reduceSub, Int.reduceMul, Int.natCast_zero]
  refine loop Tryz.mixed 0 (fun i : Nat => [(1, .str v), (2, .vs (l.map i1)), (4, .ptr 4 0), (7, .ptr 7 0), (11, .vs ((match i with | 0 => [] | 1 => ofRd r v l c 0 [] | _ => ofRd r v l c 1 (ofRd r v l c 0 [])).map i1)), (12, .int .i64 i)]) (fun i => [(4, .cells (rl r)), (7, .cells (cs c))]) (fun i => (i = 0 ∨ i = 1 ∨ (i = 2 ∧ c.ro = 1 ∧ restW l (ofRd r v l c 0 []) ≠ []))) (fun i => 2 - i) (by kernel_rfl) ?_ ?_ ?_
  · simp
  · simp only [go_sem, ↓reduceIte, reduceCtorEq, Nat.reduceEqDiff, Nat.reduceAdd, Nat.reduceSub, Nat.reduceMul, Nat.reduceLT, Nat.reduceLeDiff, Int.reduceLT, Int.reduceLE, Int.reduceEq, Int.reduceNe, Int.reduceToNat, Int.reduceAdd, Int.reduceSub, Int.reduceMul, Int.natCast_zero, List.map_nil]
  · rintro i hi
    by_cases i0 : i = 0
    · subst i0
      have g1 : (0 : Int) ≤ c.ro := by omega
      simp only [go_sem, ↓reduceIte, reduceCtorEq, Nat.reduceEqDiff, Nat.reduceAdd, Nat.reduceSub, Nat.reduceMul, Nat.reduceLT, Nat.reduceLeDiff, Int.reduceLT, Int.reduceLE, Int.reduceEq, Int.reduceNe, Int.reduceToNat, Int.reduceAdd, Int.reduceSub, Int.reduceMul, Int.natCast_zero, g1]
      refine call (numbers_den v (tagC c 0) 9 hv (by simp [tagC]) (by omega)) [] ?_
      simp only [go_sem, ↓reduceIte, reduceCtorEq, Nat.reduceEqDiff, Nat.reduceAdd, Nat.reduceSub, Nat.reduceMul, Nat.reduceLT, Nat.reduceLeDiff, Int.reduceLT, Int.reduceLE, Int.reduceEq, Int.reduceNe, Int.reduceToNat, Int.reduceAdd, Int.reduceSub, Int.reduceMul, Int.natCast_zero]
      refine ⟨rfl, call (minus_den l [] hl (by simp [big])) [] ?_⟩
      have hw : keysW (fun k => decide (k ∈ l) && !decide (k ∈ ([] : List Int))) 64 = restW l [] := rfl
      rw [hw]
      have hne := restW_nil a2
      have hrv : rosV (restW l []) = true := keysW_ros hne
      have hrl : 0 < (restW l []).length := by cases h : restW l [] with | nil => exact absurd h hne | cons => simp
      have hol : (ofRd r v l c 0 []) = (drawS (restW l []) (nums v (tagC c 0) 9) (min r.seats.toNat (restW l []).length)).1 := rfl
      have hnl := nums_len v (tagC c 0) 9
      have hnn := nums_nn v (tagC c 0) 9
      generalize hWW : restW l [] = W at *
      generalize nums v (tagC c 0) 9 = N at *
      have g2 : ¬ (W.length : Int) = 0 := by omega
      simp only [go_sem, ↓reduceIte, reduceCtorEq, Nat.reduceEqDiff, Nat.reduceAdd, Nat.reduceSub, Nat.reduceMul, Nat.reduceLT, Nat.reduceLeDiff, Int.reduceLT, Int.reduceLE, Int.reduceEq, Int.reduceNe, Int.reduceToNat, Int.reduceAdd, Int.reduceSub, Int.reduceMul, Int.natCast_zero, g2]
      refine call (draw_den W N r.seats hrv (by omega) (by omega) (by omega) (by simp only [big]; omega) hnn) [] ?_
      rw [← hol]
      simp only [go_sem, ↓reduceIte, reduceCtorEq, Nat.reduceEqDiff, Nat.reduceAdd, Nat.reduceSub, Nat.reduceMul, Nat.reduceLT, Nat.reduceLeDiff, Int.reduceLT, Int.reduceLE, Int.reduceEq, Int.reduceNe, Int.reduceToNat, Int.reduceAdd, Int.reduceSub, Int.reduceMul, Int.natCast_zero]
      exact ⟨1, ⟨by simp, by omega⟩, rfl, by rw [wrapI] <;> omega⟩
    by_cases i1' : i = 1
    · subst i1'
      have hal := ofRd_len (r := r) (v := v) (l := l) (c := c) (j := 0) (prev := [])
      have har := restW_len l []
      generalize ha : ofRd r v l c 0 [] = a at *
      by_cases hro : c.ro = 0
      · have g1 : ¬ (1 : Int) ≤ c.ro := by omega
        rw [if_pos hro] at hQ
        subst hQ
        simp only [go_sem, ↓reduceIte, reduceCtorEq, Nat.reduceEqDiff, Nat.reduceAdd, Nat.reduceSub, Nat.reduceMul, Nat.reduceLT, Nat.reduceLeDiff, Int.reduceLT, Int.reduceLE, Int.reduceEq, Int.reduceNe, Int.reduceToNat, Int.reduceAdd, Int.reduceSub, Int.reduceMul, Int.natCast_zero, g1]
      rw [if_neg hro] at hQ
      have g1 : (1 : Int) ≤ c.ro := by omega
      simp only [go_sem, ↓reduceIte, reduceCtorEq, Nat.reduceEqDiff, Nat.reduceAdd, Nat.reduceSub, Nat.reduceMul, Nat.reduceLT, Nat.reduceLeDiff, Int.reduceLT, Int.reduceLE, Int.reduceEq, Int.reduceNe, Int.reduceToNat, Int.reduceAdd, Int.reduceSub, Int.reduceMul, Int.natCast_zero, g1]
      refine call (numbers_den v (tagC c 1) 9 hv (by simp [tagC]) (by omega)) [] ?_
      simp only [go_sem, ↓reduceIte, reduceCtorEq, Nat.reduceEqDiff, Nat.reduceAdd, Nat.reduceSub, Nat.reduceMul, Nat.reduceLT, Nat.reduceLeDiff, Int.reduceLT, Int.reduceLE, Int.reduceEq, Int.reduceNe, Int.reduceToNat, Int.reduceAdd, Int.reduceSub, Int.reduceMul, Int.natCast_zero]
      refine ⟨rfl, call (minus_den l a hl (by simp only [big]; omega)) [] ?_⟩
      have hw : keysW (fun k => decide (k ∈ l) && !decide (k ∈ (a : List Int))) 64 = restW l a := rfl
      rw [hw]
      by_cases hne : restW l a = []
      · rw [if_pos hne] at hQ
        subst hQ
        have g2 : ((restW l a).length : Int) = 0 := by rw [hne]; rfl
        simp only [go_sem, ↓reduceIte, reduceCtorEq, Nat.reduceEqDiff, Nat.reduceAdd, Nat.reduceSub, Nat.reduceMul, Nat.reduceLT, Nat.reduceLeDiff, Int.reduceLT, Int.reduceLE, Int.reduceEq, Int.reduceNe, Int.reduceToNat, Int.reduceAdd, Int.reduceSub, Int.reduceMul, Int.natCast_zero, g2, List.map_nil]
        done
      rw [if_neg hne] at hQ
      have hne0 := hne
      have hrv : rosV (restW l a) = true := keysW_ros hne
      have hrl : 0 < (restW l a).length := by cases h : restW l a with | nil => exact absurd h hne | cons => simp
      have hol : (ofRd r v l c 1 a) = (drawS (restW l a) (nums v (tagC c 1) 9) (min r.seats.toNat (restW l a).length)).1 := rfl
      have hnl := nums_len v (tagC c 1) 9
      have hnn := nums_nn v (tagC c 1) 9
      generalize hWW : restW l a = W at *
      generalize nums v (tagC c 1) 9 = N at *
      have g2 : ¬ (W.length : Int) = 0 := by omega
      simp only [go_sem, ↓reduceIte, reduceCtorEq, Nat.reduceEqDiff, Nat.reduceAdd, Nat.reduceSub, Nat.reduceMul, Nat.reduceLT, Nat.reduceLeDiff, Int.reduceLT, Int.reduceLE, Int.reduceEq, Int.reduceNe, Int.reduceToNat, Int.reduceAdd, Int.reduceSub, Int.reduceMul, Int.natCast_zero, g2]
      refine call (draw_den W N r.seats hrv (by omega) (by omega) (by omega) (by simp only [big]; omega) hnn) [] ?_
      rw [← hol]
      simp only [go_sem, ↓reduceIte, reduceCtorEq, Nat.reduceEqDiff, Nat.reduceAdd, Nat.reduceSub, Nat.reduceMul, Nat.reduceLT, Nat.reduceLeDiff, Int.reduceLT, Int.reduceLE, Int.reduceEq, Int.reduceNe, Int.reduceToNat, Int.reduceAdd, Int.reduceSub, Int.reduceMul, Int.natCast_zero]
      exact ⟨2, ⟨.inr (.inr ⟨rfl, by omega, hne0⟩), by omega⟩, rfl, by rw [wrapI] <;> omega⟩
    · have i2 : i = 2 ∧ c.ro = 1 ∧ restW l (ofRd r v l c 0 []) ≠ [] := by
        rcases hi with h | h | h
        · exact absurd h i0
        · exact absurd h i1'
        · exact h
      obtain ⟨i2, hro, hne⟩ := i2
      subst i2
      have g1 : ¬ (2 : Int) ≤ c.ro := by omega
      rw [if_neg (by omega), if_neg hne] at hQ
      subst hQ
      simp only [go_sem, ↓reduceIte, reduceCtorEq, Nat.reduceEqDiff, Nat.reduceAdd, Nat.reduceSub, Nat.reduceMul, Nat.reduceLT, Nat.reduceLeDiff, Int.reduceLT, Int.reduceLE, Int.reduceEq, Int.reduceNe, Int.reduceToNat, Int.reduceAdd, Int.reduceSub, Int.reduceMul, Int.natCast_zero, g1]
end Go.Proofs.Am
