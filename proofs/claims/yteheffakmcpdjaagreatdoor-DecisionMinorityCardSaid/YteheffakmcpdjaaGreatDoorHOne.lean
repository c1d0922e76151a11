/- Rosters and seats: plain laws. -/
import Derived.Test.YteheffakmcpdjaaGreatDoorEFour
import Derived.Test.YteheffakmcpdjaaGreatDoorGOne
import Derived.Test.YteheffakmcpdjaaGreatDoorZOne
set_option linter.unusedSimpArgs false
set_option linter.unusedVariables false
namespace Go.Proofs.Am
open Go Go.RowKit
open Go.Proofs

def keyB (k : Int) : Bool := decide (0 ≤ k ∧ k < 64)
theorem keyB_iff {k : Int} : keyB k = true ↔ 0 ≤ k ∧ k < 64 := by simp [keyB]
/-- The keys of a list. -/
def keyF (l : List Int) (s : List Bool) : List Bool := l.foldl (fun s k => if keyB k = true then s.set k.toNat true else s) s
def setI (l : List Int) (i : Nat) : List Bool := keyF (l.take i) (List.replicate 64 false)
def setB (l : List Int) : List Bool := setI l l.length
theorem setI_succ {l : List Int} {i : Nat} (h : i < l.length) : setI l (i + 1) = if keyB (el l i) = true then (setI l i).set (el l i).toNat true else setI l i := by
  simp only [setI, keyF, take_el h, List.foldl_append, List.foldl_cons, List.foldl_nil]
theorem setI_len (l : List Int) : ∀ i, i ≤ l.length → (setI l i).length = 64
  | 0, _ => by simp [setI, keyF]
  | i + 1, h => by
    have ih := setI_len l i (by omega)
    rw [setI_succ (by omega)]
    split
    · rw [List.length_set, ih]
    · exact ih
theorem keyF_true : ∀ (l : List Int) (s : List Bool) (n : Nat), s[n]? = some true → (keyF l s)[n]? = some true
  | [], _, _, h => h
  | k :: l, s, n, h => by
    have hn : n < s.length := (List.getElem?_eq_some_iff.1 h).1
    show (keyF l (if keyB k = true then s.set k.toNat true else s))[n]? = some true
    refine keyF_true l _ n ?_
    split
    · rw [List.getElem?_set]
      split
      · simp; omega
      · exact h
    · exact h
theorem keyF_mem : ∀ (l : List Int) (s : List Bool), s.length = 64 → ∀ k ∈ l, keyB k = true → (keyF l s)[k.toNat]? = some true
  | [], _, _, k, h, _ => by cases h
  | j :: l, s, hs, k, h, hk => by
    show (keyF l (if keyB j = true then s.set j.toNat true else s))[k.toNat]? = some true
    rcases List.mem_cons.1 h with rfl | h
    · rw [if_pos hk]
      refine keyF_true l _ _ ?_
      have := keyB_iff.1 hk
      rw [List.getElem?_set_self (by omega)]
    · refine keyF_mem l _ ?_ k h hk
      split
      · rw [List.length_set, hs]
      · exact hs
theorem setB_ne {l : List Int} {k : Int} (h : k ∈ l) (hk : keyB k = true) : setB l ≠ List.replicate 64 false := fun e => by
  have h1 := keyF_mem (l.take l.length) (List.replicate 64 false) (by simp) k (by rwa [List.take_length]) hk
  have e2 : keyF (l.take l.length) (List.replicate 64 false) = List.replicate 64 false := e
  rw [e2, List.getElem?_replicate] at h1
  split at h1 <;> cases h1

/-- A roster: keys that ascend, and one at least. -/
def rosOK (l : List Int) (i : Nat) : Bool := keyB (el l i) && (decide (i = 0) || decide (el l (i - 1) < el l i))
def validB (l : List Int) : Bool := allI (rosOK l) l.length && decide (setB l ≠ List.replicate 64 false)
theorem asc_steps {l : List Int} (h : ∀ i, 0 < i → i < l.length → el l (i - 1) < el l i) : asc l := by
  have main : ∀ j, j < l.length → ∀ i, i < j → el l i < el l j := fun j => by
    induction j with
    | zero => intro _ i hi; omega
    | succ j ih =>
      intro hj i hi
      have h1 := h (j + 1) (by omega) hj
      rw [Nat.add_sub_cancel] at h1
      rcases Nat.lt_succ_iff_lt_or_eq.1 hi with h2 | rfl
      · have := ih (by omega) i h2; omega
      · exact h1
  unfold asc
  rw [List.pairwise_iff_getElem]
  intro i j hi hj hij
  have := main j hj i hij
  simpa [el, List.getD_eq_getElem?_getD, hi, hj] using this
theorem validB_iff {l : List Int} : validB l = true ↔ l ≠ [] ∧ (∀ k ∈ l, keyB k = true) ∧ asc l := by
  unfold validB
  rw [Bool.and_eq_true, decide_eq_true_eq, allI, decide_eq_true_eq]
  constructor
  · rintro ⟨h1, h2⟩
    refine ⟨fun e => h2 (by rw [e]; rfl), fun k hk => ?_, asc_steps fun i h0 hi => ?_⟩
    · obtain ⟨i, hi, rfl⟩ := mem_el hk
      have := h1 i hi
      simp only [rosOK, Bool.and_eq_true] at this
      exact this.1
    · have := h1 i hi
      simp only [rosOK, Bool.and_eq_true, Bool.or_eq_true, decide_eq_true_eq] at this
      rcases this.2 with h | h
      · omega
      · exact h
  · rintro ⟨h1, h2, h3⟩
    refine ⟨fun i hi => ?_, ?_⟩
    · simp only [rosOK, Bool.and_eq_true, Bool.or_eq_true, decide_eq_true_eq]
      refine ⟨h2 _ (el_mem hi), ?_⟩
      rcases Nat.eq_zero_or_pos i with h | h
      · exact .inl h
      · have := List.pairwise_iff_getElem.1 h3 (i - 1) i (by omega) hi (by omega)
        exact .inr (by simpa [el, List.getD_eq_getElem?_getD, hi, show i - 1 < l.length by omega] using this)
    · obtain ⟨k, r, rfl⟩ := List.exists_cons_of_ne_nil h1
      exact setB_ne (k := k) (by simp) (h2 k (by simp))

/-- Seats: some keys, each once, not too many. -/
def seatedB (s : List Int) : Bool := validB (srt s) && decide (s.length ≤ 9)
theorem seatedB_iff {s : List Int} : seatedB s = true ↔ s ≠ [] ∧ (∀ k ∈ s, keyB k = true) ∧ s.Nodup ∧ s.length ≤ 9 := by
  unfold seatedB
  rw [Bool.and_eq_true, decide_eq_true_eq, validB_iff]
  have hn : srt s ≠ [] ↔ s ≠ [] := by rw [ne_eq, ne_eq, ← List.length_eq_zero_iff, ← List.length_eq_zero_iff, srt_len]
  have hm : (∀ k ∈ srt s, keyB k = true) ↔ ∀ k ∈ s, keyB k = true := by simp only [mem_srt]
  have ha : asc (srt s) ↔ s.Nodup := ⟨fun h => (List.mergeSort_perm _ _).nodup_iff.1 (h.imp fun h => by omega), asc_srt⟩
  rw [hn, hm, ha, and_assoc, and_assoc]
theorem ck_iff {s : List Int} : allI (seatOK s) s.length = true ↔ (∀ k ∈ s, keyB k = true) ∧ s.Nodup := by
  rw [allI, decide_eq_true_eq]
  constructor
  · intro h
    refine ⟨fun k hk => ?_, ?_⟩
    · obtain ⟨i, hi, rfl⟩ := mem_el hk
      have := of_decide_eq_true (h i hi)
      exact keyB_iff.2 ⟨this.1, this.2.1⟩
    · unfold List.Nodup
      rw [List.pairwise_iff_getElem]
      intro i j hi hj hij e
      have := (of_decide_eq_true (h j hj)).2.2
      refine this ?_
      have e2 : el s j = s[j] := by simp [el, List.getD_eq_getElem?_getD, hj]
      rw [e2, ← e]
      exact List.mem_iff_getElem.2 ⟨i, by simp; omega, by simp⟩
  · rintro ⟨h1, h2⟩ i hi
    obtain ⟨h3, h4⟩ := keyB_iff.1 (h1 _ (el_mem hi))
    refine decide_eq_true ⟨h3, h4, fun h => ?_⟩
    obtain ⟨j, hj, e⟩ := List.mem_iff_getElem.1 h
    have hj' : j < i := by simp at hj; omega
    rw [List.getElem_take] at e
    have e2 : el s i = s[i] := by simp [el, List.getD_eq_getElem?_getD, hi]
    rw [e2] at e
    exact List.pairwise_iff_getElem.1 h2 j i (by omega) hi hj' e
/-- The program's look at seats is the document's. -/
theorem ck_seated (c : Cs) (s : List Int) : ckS c s = if caseV c = false then 41 else if seatedB s = true then 0 else 44 := by
  unfold ckS
  split
  · rfl
  · by_cases h : seatedB s = true
    · rw [if_pos h]
      obtain ⟨h1, h2, h3, h4⟩ := seatedB_iff.1 h
      have : s.length ≠ 0 := fun e => h1 (List.eq_nil_of_length_eq_zero e)
      rw [if_neg (by omega), if_pos (ck_iff.2 ⟨h2, h3⟩)]
    · rw [if_neg h]
      split
      · rfl
      · rename_i h5
        rw [if_neg fun h6 => h (seatedB_iff.2 ⟨fun e => by subst e; simp at h5, (ck_iff.1 h6).1, (ck_iff.1 h6).2, by omega⟩)]
theorem ckS_zero {c : Cs} {s : List Int} (h : ckS c s = 0) : caseV c = true ∧ s.length ≤ 9 ∧ s.Nodup ∧ ∀ k ∈ s, 0 ≤ k ∧ k < 64 := by
  rw [ck_seated] at h
  split at h
  · cases h
  · split at h
    · rename_i h1 h2
      obtain ⟨h3, h4, h5, h6⟩ := seatedB_iff.1 h2
      exact ⟨by simpa using h1, h6, h5, fun k hk => keyB_iff.1 (h4 k hk)⟩
    · cases h
end Go.Proofs.Am

/- Rosters: the keys of a list; which lists are rosters; enough votes. -/
namespace Go.Proofs.Am
open Go Go.RowKit
open Go.Proofs

set_option maxHeartbeats 1000000 in
set_option maxRecDepth 100000 in
theorem rkey_den (k : Int) : Den Tryz.prog 138 [.int .i64 k] [] (.bool (keyB k)) [] [] := by
  refine den_of Tryz.mixed Tryz.func138 rfl Tryz.call138 Tryz.ntmps138 (congrArg Array.toList Tryz.results138) (by simp) (by kernel_rfl) [] (exts := []) rfl rfl ?_
  by_cases h1 : 0 ≤ k
  · by_cases h2 : k < 64
    · simp only [go_sem, h1, h2]
      simp [keyB, h1, h2]
    · simp only [go_sem, h1, h2]
      simp [keyB, h2]
  · simp only [go_sem, h1]
    simp [keyB, h1]
def z64 : List Bool := List.replicate 64 false
set_option maxHeartbeats 1000000 in
set_option maxRecDepth 100000 in
theorem rset_den (l : List Int) (hl : big l.length) : Den Tryz.prog 139 [.vs (l.map i1)] [] (.agg ((setB l).map cb)) [] [] := by
  refine den_of Tryz.mixed Tryz.func139 rfl Tryz.call139 Tryz.ntmps139 (congrArg Array.toList Tryz.results139) (by simp) (by kernel_rfl) [] (exts := []) rfl rfl ?_
  have hz : setI l 0 = z64 := rfl
  simp only [go_sem]
  refine loop Tryz.mixed 0 (fun i : Nat => [(2, .ptr 2 0), (3, .ptr 3 0), (6, .vs (l.map i1)), (7, .int .i64 l.length), (8, .int .i64 i)]) (fun i => [(2, .cells (z64.map cb)), (3, .cells ((setI l i).map cb))]) (fun i => i ≤ l.length) (fun i => l.length - i) (by kernel_rfl) (Nat.zero_le _) ?_ ?_
  · simp only [go_sem, hz]
    exact ⟨rfl, rfl⟩
  · intro i hi
    have hln := setI_len l i hi
    by_cases hlt : i < l.length
    · have h1 : (i : Int) < (l.length : Int) := by omega
      have hsu := setI_succ hlt
      have ck := rkey_den (el l i)
      generalize setI l i = s at *
      cases hk : keyB (el l i)
      · rw [hk] at ck
        rw [hk, if_neg (by simp)] at hsu
        simp only [go_sem, h1, hlt]
        refine call ck [] ?_
        simp only [go_sem]
        refine ⟨i + 1, ⟨by omega, by omega⟩, ?_⟩
        rw [hsu]
        simp only [go_sem]
        rw [wrapI] <;> omega
      · rw [hk] at ck
        rw [hk, if_pos rfl] at hsu
        obtain ⟨k1, k2⟩ := keyB_iff.1 hk
        obtain ⟨k, hkk⟩ : ∃ k : Nat, el l i = (k : Int) := ⟨(el l i).toNat, by omega⟩
        have k3 : k < s.length := by omega
        have k4 : k < 64 := by omega
        rw [hkk] at ck hsu
        rw [Int.toNat_natCast] at hsu
        simp only [go_sem, h1, hlt, hkk]
        refine call ck [] ?_
        simp only [go_sem, k3, k4]
        exact ⟨by omega, i + 1, ⟨by omega, by omega⟩, by rw [wrapI] <;> omega, hsu.symm⟩
    · have h1 : ¬ (i : Int) < (l.length : Int) := by omega
      have : i = l.length := by omega
      subst this
      have e3 : z64.length = 64 := rfl
      have e4 : z64.drop 64 = [] := rfl
      have e5 : setB l = setI l l.length := rfl
      rw [e5]
      generalize setI l l.length = s at *
      have e1 : s.take 64 = s := List.take_of_length_le (by omega)
      simp only [go_sem, h1, e1, e3, e4, hln]
set_option maxHeartbeats 1000000 in
set_option maxRecDepth 100000 in
theorem valid_den (l : List Int) (hl : big l.length) : Den Tryz.prog 103 [.vs (l.map i1)] [] (.bool (validB l)) [] [] := by
  refine den_of Tryz.mixed Tryz.func103 rfl Tryz.call103 Tryz.ntmps103 (congrArg Array.toList Tryz.results103) (by simp) (by kernel_rfl) [] (exts := []) rfl rfl ?_
  have hv : ∀ b, validB l = b → validB l = b := fun _ h => h
  have hbad : ∀ i, i < l.length → rosOK l i = false → validB l = false := fun i hi h => by rw [validB, allI_f hi h, Bool.false_and]
  have hgood : (∀ i, i < l.length → rosOK l i = true) → validB l = decide (setB l ≠ List.replicate 64 false) := fun h => by rw [validB, allI_t h, Bool.true_and]
  have cset := rset_den l hl
  have sl : (setB l).length = 64 := setI_len l l.length (Nat.le_refl _)
  generalize validB l = v at *
  simp only [go_sem]
  refine loop Tryz.mixed 0 (fun i : Nat => [(0, .vs (l.map i1)), (5, .vs (l.map i1)), (6, .int .i64 l.length), (7, .int .i64 i)]) (fun _ => []) (fun i => i ≤ l.length ∧ ∀ j, j < i → rosOK l j = true) (fun i => l.length - i) (by kernel_rfl) ⟨Nat.zero_le _, by simp⟩ ?_ ?_
  · simp only [go_sem]
  · rintro i ⟨hi, hp⟩
    by_cases hlt : i < l.length
    · have h1 : (i : Int) < (l.length : Int) := by omega
      simp only [go_sem, h1, hlt]
      refine call (rkey_den (el l i)) [] ?_
      cases hk : keyB (el l i)
      · have hq : rosOK l i = false := by simp [rosOK, hk]
        simp only [go_sem, h1, hlt]
        exact (hbad i hlt hq).symm
      · rcases Nat.eq_zero_or_pos i with h0 | h0
        · subst h0
          have hq : rosOK l 0 = true := by simp [rosOK, hk]
          have g : ¬ (0 : Int) < ((0 : Nat) : Int) := by omega
          simp only [go_sem, h1, hlt, g]
          exact ⟨0 + 1, ⟨⟨by omega, upto_succ hp hq⟩, by omega⟩, rfl⟩
        · obtain ⟨j, rfl⟩ : ∃ j, i = j + 1 := ⟨i - 1, by omega⟩
          have g : (0 : Int) < ((j + 1 : Nat) : Int) := by omega
          have g2 : IntKind.i64.wrap (((j + 1 : Nat) : Int) - 1) = (j : Int) := by rw [wrapI] <;> omega
          have g3 : j < l.length := by omega
          by_cases h2 : el l (j + 1) ≤ el l j
          · have hq : rosOK l (j + 1) = false := by simp [rosOK, hk]; omega
            simp only [go_sem, h1, hlt, g, g2, g3, h2]
            exact (hbad (j + 1) hlt hq).symm
          · have hq : rosOK l (j + 1) = true := by simp [rosOK, hk]; omega
            simp only [go_sem, h1, hlt, g, g2, g3, h2]
            exact ⟨j + 1 + 1, ⟨⟨by omega, upto_succ hp hq⟩, by omega⟩, by rw [wrapI] <;> omega⟩
    · have h1 : ¬ (i : Int) < (l.length : Int) := by omega
      have : i = l.length := by omega
      subst this
      have hv := hgood hp
      have he := eqCs_cb (setB l) (List.replicate 64 false) (by rw [sl]; simp)
      rw [sl] at he
      simp only [go_sem, h1]
      refine call cset [] ?_
      generalize setB l = s at *
      simp only [go_sem]
      change (match eqCs (List.replicate 64 CK.bool) (List.map cb s) (List.map cb (List.replicate 64 false)) with | some b => (!b) = v | none => False)
      rw [he, hv]
      simp
set_option maxHeartbeats 1000000 in
set_option maxRecDepth 100000 in
theorem cenough_den (v s : Nat) (hv : v ≤ 1000000) (hs : s ≤ 1000000) : Den Tryz.prog 38 [.int .i64 v, .int .i64 s] [] (.bool (enoB v s)) [] [] := by
  refine den_of Tryz.mixed Tryz.func38 rfl Tryz.call38 Tryz.ntmps38 (congrArg Array.toList Tryz.results38) (by simp) (by kernel_rfl) [] (exts := []) rfl rfl ?_
  have e1 : IntKind.i64.wrap (4 * (v : Int)) = 4 * v := by rw [wrapI] <;> omega
  have e2 : IntKind.i64.wrap (3 * (s : Int)) = 3 * s := by rw [wrapI] <;> omega
  have h3 : (0 : Int) ≤ (v : Int) := by omega
  by_cases h1 : 1 ≤ (s : Int)
  · by_cases h2 : (s : Int) ≤ 9
    · by_cases h4 : (v : Int) ≤ (s : Int)
      · simp only [go_sem, h1, h2, h3, h4, e1, e2]
        rw [enoB, Bool.eq_iff_iff]
        simp only [decide_eq_true_eq]
        omega
      · have : enoB v s = false := decide_eq_false (by omega)
        simp only [go_sem, h1, h2, h3, h4, this]
    · have : enoB v s = false := decide_eq_false (by omega)
      simp only [go_sem, h1, h2, this]
  · have : enoB v s = false := decide_eq_false (by omega)
    simp only [go_sem, h1, this]
end Go.Proofs.Am
