/- Decisions: what has enough votes; the program's and the document's. -/
import Derived.Test.YteheffakmcpdjaaGreatDoorHOne
import Derived.Test.YteheffakmcpdjaaGreatDoorGOne
set_option linter.unusedSimpArgs false
set_option linter.unusedVariables false
namespace Go.Proofs.Am
open Go Go.RowKit
open Go.Proofs

set_option maxHeartbeats 1000000 in
set_option maxRecDepth 100000 in
theorem dcheck_den (c : Cs) (s : List Int) (hs : s.length ≤ 1000000) : Den Tryz.prog 35 [.agg (cs c), .vs (s.map i1)] [] (.int .i64 (ckS c s)) [] [] := by
  refine den_of Tryz.mixed Tryz.func35 rfl Tryz.call35 Tryz.ntmps35 (congrArg Array.toList Tryz.results35) (by simp) (by kernel_rfl) [] (exts := []) rfl rfl ?_
  have c1 := cvalidP c
  have c2 := seated_den s hs
  rw [cs_eq] at c1 ⊢
  rw [ck_seated]
  simp only [go_sem]
  refine call c1 [] ?_
  cases a1 : caseV c
  · simp only [go_sem]
  · simp only [go_sem]
    refine call c2 [] ?_
    cases a2 : seatedB s
    · simp only [go_sem]
    · simp only [go_sem]

/-- The first contents with enough votes. -/
def allN (m : Nat) (N : List Cn) (i : Nat) : List Ct := ((N.take i).filter fun n => enoB n.ks.length m).map Cn.x
theorem allN_succ {m : Nat} {N : List Cn} {i : Nat} (h : i < N.length) : allN m N (i + 1) = allN m N i ++ if enoB (el N i).ks.length m = true then [(el N i).x] else [] := by
  simp only [allN, take_el h, List.filter_append, List.map_append, List.filter_cons, List.filter_nil]
  split <;> rfl
theorem allN_len (m : Nat) (N : List Cn) (i : Nat) : (allN m N i).length ≤ N.length := by
  simp only [allN, List.length_map]
  refine Nat.le_trans (List.length_filter_le _ _) ?_
  rw [List.length_take]; omega
theorem allN_all {seats : List Int} {v : List Vt} : allN seats.length (cnR seats v) (cnR seats v).length = allV seats v := by simp only [allN, List.take_length, allV]
theorem renough_den (v s : Nat) : Den Tryz.prog 26 [.int .i64 v, .int .i64 s] [] (.bool (enoB v s)) [] [] := by
  have h := enough_den v s
  rwa [show enoughB v s = enoB v s by simp only [enoughB, enoB]; congr 1; apply propext; omega] at h

set_option maxHeartbeats 1000000 in
set_option maxRecDepth 100000 in
theorem all_den (l : List Stm) (c : Cs) (seats : List Int) (hl : l.length ≤ 900) (hs : ∀ s ∈ l, bigS s) (hb : seats.length ≤ 1000000) :
    Den Tryz.prog 15 [.vs (l.map sm), .agg (cs c), .vs (seats.map i1)] [] (.tup [.vs ((if ckS c seats = 0 then allV seats (votesL l c) else []).map ct), .int .i64 (ckS c seats)]) [] [] := by
  refine den_of Tryz.mixed Tryz.func15 rfl Tryz.call15 Tryz.ntmps15 (congrArg Array.toList Tryz.results15) (by simp) (by kernel_rfl) [] (exts := []) rfl rfl ?_
  have hbs : big seats.length := by simp only [big]; omega
  have c1 := dcheck_den c seats hb
  have c2 := votesG_den l c (by omega) hs
  have lV := votes_len l c
  have xV := votes_okX (l := l) (c := c)
  rw [cs_eq] at c1 c2
  generalize hk : ckS c seats = k at *
  generalize votesL l c = V at *
  have c3 := cn_den V seats (by omega) hbs xV
  rw [cn_same' xV] at c3
  have hok := cnI_ok seats (fun y hy => (xV y hy).1) V.length (Nat.le_refl _)
  have hN : cnI seats V V.length = cnR seats V := rfl
  rw [hN] at hok
  have hall := allN_all (seats := seats) (v := V)
  have hks : k = 0 → ∀ n ∈ cnR seats V, n.ks.length ≤ seats.length := fun _ n hn => ks_len hn
  generalize allV seats V = A at *
  generalize cnR seats V = N at *
  clear hN
  simp only [go_sem, cs_eq]
  refine call c1 [] ?_
  by_cases hz : k = 0
  rotate_left
  · simp only [go_sem, hz]
  · subst hz
    simp only [go_sem]
    refine call c2 [] ?_
    simp only [go_sem]
    refine call c3 [] ?_
    simp only [go_sem]
    refine promote 9 110 40 2 false ?_ ?_ ?_ (by omega)
    · refine loop Tryz.mixed 0 (fun i : Nat => [(2, .vs (seats.map i1)), (9, .os 110 (allN seats.length N i).length), (22, .vs (N.map cn3)), (23, .int .i64 N.length), (24, .int .i64 i)]) (fun i => [(110, .arr 40 2 false ((allN seats.length N i).map ct))]) (fun i => i ≤ N.length) (fun i => N.length - i) (by kernel_rfl) (Nat.zero_le _) ?_ ?_
      · simp only [go_sem]
        simp [allN]
      · intro i hi
        by_cases hlt : i < N.length
        · have h1 : (i : Int) < (N.length : Int) := by omega
          have hsu := allN_succ (m := seats.length) hlt
          have hln := allN_len seats.length N i
          have hkn := hks rfl _ (el_mem hlt)
          have ce := cenough_den (el N i).ks.length seats.length (by omega) hb
          generalize allN seats.length N i = o at *
          simp only [go_sem, h1, hlt]
          refine call ce [] ?_
          cases he : enoB (el N i).ks.length seats.length
          · rw [he, if_neg (by simp), List.append_nil] at hsu
            simp only [go_sem]
            refine ⟨i + 1, ⟨by omega, by omega⟩, ?_⟩
            rw [hsu]
            exact ⟨⟨rfl, by rw [wrapI] <;> omega⟩, rfl⟩
          · rw [he, if_pos rfl] at hsu
            simp only [go_sem]
            refine ⟨by omega, i + 1, ⟨by omega, by omega⟩, ?_⟩
            rw [hsu]
            exact ⟨⟨by simp, by rw [wrapI] <;> omega⟩, by simp [ct]⟩
        · have h1 : ¬ (i : Int) < (N.length : Int) := by omega
          have : i = N.length := by omega
          subst this
          simp only [go_sem, h1, hall]
    · simp only [go_sem]
    · simp only [go_sem]

set_option maxHeartbeats 1000000 in
set_option maxRecDepth 100000 in
theorem rall_den (l : List Stm) (c : Cs) (seats : List Int) (hl : l.length ≤ 900) (hs : ∀ s ∈ l, bigS s) (hb : big seats.length) :
    Den Tryz.prog 56 [.vs (l.map sm), .agg (cs c), .vs (seats.map i1)] [] (.tup [.vs ((if ckS c seats = 0 then allV seats (votesL l c) else []).map ct), .int .i64 (ckS c seats)]) [] [] := by
  refine den_of Tryz.mixed Tryz.func56 rfl Tryz.call56 Tryz.ntmps56 (congrArg Array.toList Tryz.results56) (by simp) (by kernel_rfl) [] (exts := []) rfl rfl ?_
  have c1 := check28_den c seats hb
  have c2 := refVotes_den l c (by omega) hs
  rw [← votes_eq] at c2
  have lV := votes_len l c
  have xV := votes_okX (l := l) (c := c)
  rw [cs_eq] at c1 c2
  generalize hk : ckS c seats = k at *
  generalize votesL l c = V at *
  have c3 := cnR_den seats V (by omega) hb (fun y hy => (xV y hy).1)
  have hok := cnI_ok seats (fun y hy => (xV y hy).1) V.length (Nat.le_refl _)
  have hN : cnI seats V V.length = cnR seats V := rfl
  rw [hN] at hok
  have hall := allN_all (seats := seats) (v := V)
  generalize allV seats V = A at *
  generalize cnR seats V = N at *
  clear hN
  simp only [go_sem, cs_eq]
  refine call c1 [] ?_
  by_cases hz : k = 0
  rotate_left
  · simp only [go_sem, hz]
  · subst hz
    simp only [go_sem]
    refine call c2 [] ?_
    simp only [go_sem]
    refine call c3 [] ?_
    simp only [go_sem]
    refine promote 10 110 40 2 false ?_ ?_ ?_ (by omega)
    · refine loop Tryz.mixed 0 (fun i : Nat => [(2, .vs (seats.map i1)), (9, .vs (N.map cn3)), (10, .os 110 (allN seats.length N i).length), (11, .int .i64 i)]) (fun i => [(110, .arr 40 2 false ((allN seats.length N i).map ct))]) (fun i => i ≤ N.length) (fun i => N.length - i) (by kernel_rfl) (Nat.zero_le _) ?_ ?_
      · simp only [go_sem]
        simp [allN]
      · intro i hi
        by_cases hlt : i < N.length
        · have h1 : (i : Int) < (N.length : Int) := by omega
          have hsu := allN_succ (m := seats.length) hlt
          have hln := allN_len seats.length N i
          have ce := renough_den (el N i).ks.length seats.length
          generalize allN seats.length N i = o at *
          simp only [go_sem, h1, hlt]
          refine call ce [] ?_
          cases he : enoB (el N i).ks.length seats.length
          · rw [he, if_neg (by simp), List.append_nil] at hsu
            simp only [go_sem]
            refine ⟨i + 1, ⟨by omega, by omega⟩, ?_⟩
            rw [hsu]
            exact ⟨⟨rfl, by rw [wrapI] <;> omega⟩, rfl⟩
          · rw [he, if_pos rfl] at hsu
            simp only [go_sem, hlt]
            refine ⟨by omega, i + 1, ⟨by omega, by omega⟩, ?_⟩
            rw [hsu]
            exact ⟨⟨by simp, by rw [wrapI] <;> omega⟩, by simp [ct]⟩
        · have h1 : ¬ (i : Int) < (N.length : Int) := by omega
          have : i = N.length := by omega
          subst this
          simp only [go_sem, h1, hall]
    · simp only [go_sem]
    · simp only [go_sem]

/-- The one content that was decided. -/
def oneC (A : List Ct) : Ct := if A.length = 1 then el A 0 else noC
set_option maxHeartbeats 1000000 in
set_option maxRecDepth 100000 in
theorem dof_den (l : List Stm) (c : Cs) (seats : List Int) (hl : l.length ≤ 900) (hs : ∀ s ∈ l, bigS s) (hb : seats.length ≤ 1000000) (A : List Ct) (hA : A = if ckS c seats = 0 then allV seats (votesL l c) else []) (hA2 : big A.length) :
    Den Tryz.prog 32 [.vs (l.map sm), .agg (cs c), .vs (seats.map i1)] [] (.tup [.agg (ct (oneC A)), .bool (decide (A.length = 1)), .int .i64 (ckS c seats)]) [] [] := by
  refine den_of Tryz.mixed Tryz.func32 rfl Tryz.call32 Tryz.ntmps32 (congrArg Array.toList Tryz.results32) (by simp) (by kernel_rfl) [] (exts := []) rfl rfl ?_
  have c1 := all_den l c seats hl hs hb
  rw [← hA, cs_eq] at c1
  have hne : ckS c seats ≠ 0 → A = [] := fun h => by rw [hA, if_neg h]
  generalize ckS c seats = k at *
  clear hA
  rw [cs_eq]
  simp only [go_sem]
  refine call c1 [] ?_
  by_cases hz : k = 0
  rotate_left
  · have := hne hz
    subst this
    simp only [go_sem, hz, oneC, noC, List.length_nil]
  · subst hz
    by_cases h1 : A.length = 1
    · obtain ⟨x, rfl⟩ := List.length_eq_one_iff.1 h1
      simp only [go_sem, oneC, List.length_singleton, List.map_cons, List.map_nil]
      exact ⟨rfl, rfl⟩
    · have h2 : ¬ (A.length : Int) = 1 := by omega
      simp only [go_sem, h1, h2, oneC, noC]
set_option maxHeartbeats 1000000 in
set_option maxRecDepth 100000 in
theorem rof28_den (l : List Stm) (c : Cs) (seats : List Int) (hl : l.length ≤ 900) (hs : ∀ s ∈ l, bigS s) (hb : big seats.length) (A : List Ct) (hA : A = if ckS c seats = 0 then allV seats (votesL l c) else []) (hA2 : big A.length) :
    Den Tryz.prog 57 [.vs (l.map sm), .agg (cs c), .vs (seats.map i1)] [] (.tup [.agg (ct (oneC A)), .bool (decide (A.length = 1)), .int .i64 (ckS c seats)]) [] [] := by
  refine den_of Tryz.mixed Tryz.func57 rfl Tryz.call57 Tryz.ntmps57 (congrArg Array.toList Tryz.results57) (by simp) (by kernel_rfl) [] (exts := []) rfl rfl ?_
  have c1 := rall_den l c seats hl hs hb
  rw [← hA, cs_eq] at c1
  have hne : ckS c seats ≠ 0 → A = [] := fun h => by rw [hA, if_neg h]
  generalize ckS c seats = k at *
  clear hA
  rw [cs_eq]
  simp only [go_sem]
  refine call c1 [] ?_
  by_cases hz : k = 0
  rotate_left
  · have := hne hz
    subst this
    simp only [go_sem, hz, oneC, noC, List.length_nil]
  · subst hz
    by_cases h1 : A.length = 1
    · obtain ⟨x, rfl⟩ := List.length_eq_one_iff.1 h1
      simp only [go_sem, oneC, List.length_singleton, List.map_cons, List.map_nil]
      exact ⟨rfl, rfl⟩
    · have h2 : ¬ (A.length : Int) = 1 := by omega
      simp only [go_sem, h1, h2, oneC, noC]

set_option maxHeartbeats 1000000 in
set_option maxRecDepth 100000 in
theorem sameCts_den (a b : List Ct) (ha : big a.length) (hb : big b.length) (ga : ∀ x ∈ a, bigC x) (gb : ∀ x ∈ b, bigC x) : Den Tryz.prog 19 [.vs (a.map ct), .vs (b.map ct)] [] (.bool (decide (a = b))) [] [] := by
  refine den_of Tryz.mixed Tryz.func19 rfl Tryz.call19 Tryz.ntmps19 (congrArg Array.toList Tryz.results19) (by simp) (by kernel_rfl) [] (exts := []) rfl rfl ?_
  by_cases h0 : a.length = b.length
  rotate_left
  · have h1 : ¬ (a.length : Int) = (b.length : Int) := by omega
    have h2 : ¬ a = b := fun e => h0 (by rw [e])
    simp only [go_sem, h1, h2]
  simp only [go_sem, h0]
  refine loop Tryz.mixed 0 (fun i : Nat => [(0, .vs (a.map ct)), (1, .vs (b.map ct)), (5, .int .i64 i)]) (fun _ => []) (fun i => i ≤ a.length ∧ a.take i = b.take i) (fun i => a.length - i) (by kernel_rfl) ⟨Nat.zero_le _, by simp⟩ ?_ ?_
  · simp only [go_sem]
  · rintro i ⟨hi, he⟩
    by_cases hlt : i < a.length
    · have h1 : (i : Int) < (b.length : Int) := by omega
      have hlt2 : i < b.length := by omega
      obtain ⟨q1, q2⟩ := ga _ (el_mem hlt)
      obtain ⟨q3, q4⟩ := gb _ (el_mem hlt2)
      simp only [go_sem, h0, h1, hlt, hlt2]
      refine call (order23_den (el a i) (el b i) q1 q2 q3 q4) [] ?_
      by_cases z : ordC (el a i) (el b i) = 0
      · have z2 := (ordC_eq _ _).1 z
        simp only [go_sem, z]
        refine ⟨okD_of (by kernel_rfl), i + 1, ⟨⟨by omega, by rw [take_el hlt, take_el hlt2, he, z2]⟩, by omega⟩, by rw [wrapI] <;> omega⟩
      · have h2 : ¬ a = b := fun e => z (by rw [e]; exact (ordC_eq _ _).2 rfl)
        simp only [go_sem, z, h2]
        exact okD_of (by kernel_rfl)
    · have h1 : ¬ (i : Int) < (b.length : Int) := by omega
      have h2 : a = b := by
        rw [List.take_of_length_le (by omega), List.take_of_length_le (by omega)] at he
        exact he
      simp only [go_sem, h0, h1]
      rw [decide_eq_true h2]
end Go.Proofs.Am

/- Who has voted twice: slices.DeleteFunc; the program's and the document's. -/
namespace Go.Proofs.Am
open Go Go.RowKit
open Go.Proofs

set_option maxHeartbeats 1000000 in
set_option maxRecDepth 100000 in
theorem liars1_den (k : Int) (seats : List Int) (hb : big seats.length) : Den Tryz.prog 53 [.int .i64 k, .ptr 1000000 0] [.cells [.vs (seats.map i1)]] (.bool (!decide (k ∈ seats))) [] [.cells [.vs (seats.map i1)]] := by
  refine den_of Tryz.mixed Tryz.func53 rfl Tryz.call53 Tryz.ntmps53 (congrArg Array.toList Tryz.results53) (by simp) (by kernel_rfl) [] (exts := [1000000]) rfl rfl ?_
  have c1 := contains_den seats k hb
  simp only [go_sem]
  refine call c1 [] ?_
  simp only [go_sem]
set_option maxHeartbeats 1000000 in
set_option maxRecDepth 100000 in
/-- Nothing is to be deleted. -/
theorem indexN_den (l seats : List Int) (hl : big l.length) (hb : big seats.length) (h : ∀ k ∈ l, k ∈ seats) :
    Den Tryz.prog 90 [.os 1000000 l.length, .fn 53 [.ptr 1000001 0]] [.arr 3 1 false (l.map i1), .cells [.vs (seats.map i1)]] (.int .i64 (-1)) [] [.arr 3 1 false (l.map i1), .cells [.vs (seats.map i1)]] := by
  refine den_of Tryz.mixed Tryz.func90 rfl Tryz.call90 Tryz.ntmps90 (congrArg Array.toList Tryz.results90) (by simp) (by kernel_rfl) [] (exts := [1000000, 1000001]) rfl rfl ?_
  simp only [go_sem]
  refine loop Tryz.mixed 0 (fun i : Nat => [(0, .os 1000000 l.length), (1, .fn 53 [.ptr 1000001 0]), (7, .int .i64 l.length), (8, .int .i64 i)]) (fun _ => [(1000000, .arr 3 1 false (l.map i1)), (1000001, .cells [.vs (seats.map i1)])]) (fun i => i ≤ l.length) (fun i => l.length - i) (by kernel_rfl) (Nat.zero_le _) ?_ ?_
  · simp only [go_sem]
  · intro i hi
    by_cases hlt : i < l.length
    · have h1 : (i : Int) < (l.length : Int) := by omega
      have c1 := liars1_den (el l i) seats hb
      rw [decide_eq_true (h _ (el_mem hlt))] at c1
      simp only [go_sem, h1, hlt]
      refine call c1 [1000001] ?_
      simp only [go_sem]
      exact ⟨i + 1, ⟨by omega, by omega⟩, by rw [wrapI] <;> omega⟩
    · have h1 : ¬ (i : Int) < (l.length : Int) := by omega
      simp only [go_sem, h1]
set_option maxHeartbeats 1000000 in
set_option maxRecDepth 100000 in
theorem indexS_den (l seats : List Int) (hl : big l.length) (hb : big seats.length) {k0 : Nat} (h0 : k0 < l.length) (h1 : el l k0 ∉ seats) (h : ∀ j, j < k0 → el l j ∈ seats) :
    Den Tryz.prog 90 [.os 1000000 l.length, .fn 53 [.ptr 1000001 0]] [.arr 3 1 false (l.map i1), .cells [.vs (seats.map i1)]] (.int .i64 k0) [] [.arr 3 1 false (l.map i1), .cells [.vs (seats.map i1)]] := by
  refine den_of Tryz.mixed Tryz.func90 rfl Tryz.call90 Tryz.ntmps90 (congrArg Array.toList Tryz.results90) (by simp) (by kernel_rfl) [] (exts := [1000000, 1000001]) rfl rfl ?_
  simp only [go_sem]
  refine loop Tryz.mixed 0 (fun i : Nat => [(0, .os 1000000 l.length), (1, .fn 53 [.ptr 1000001 0]), (7, .int .i64 l.length), (8, .int .i64 i)]) (fun _ => [(1000000, .arr 3 1 false (l.map i1)), (1000001, .cells [.vs (seats.map i1)])]) (fun i => i ≤ k0) (fun i => l.length - i) (by kernel_rfl) (Nat.zero_le _) ?_ ?_
  · simp only [go_sem]
  · intro i hi
    have hlt : i < l.length := by omega
    have g1 : (i : Int) < (l.length : Int) := by omega
    have c1 := liars1_den (el l i) seats hb
    by_cases hk : i < k0
    · rw [decide_eq_true (h _ hk)] at c1
      simp only [go_sem, g1, hlt]
      refine call c1 [1000001] ?_
      simp only [go_sem]
      exact ⟨i + 1, ⟨by omega, by omega⟩, by rw [wrapI] <;> omega⟩
    · obtain rfl : i = k0 := by omega
      rw [decide_eq_false h1] at c1
      simp only [go_sem, g1, hlt]
      refine call c1 [1000001] ?_
      simp only [go_sem]

def inS (seats : List Int) (l : List Int) (i : Nat) : List Int := (l.take i).filter fun k => decide (k ∈ seats)
theorem inS_succ {seats l : List Int} {i : Nat} (h : i < l.length) : inS seats l (i + 1) = inS seats l i ++ if decide (el l i ∈ seats) = true then [el l i] else [] := by
  simp only [inS, take_el h, List.filter_append, List.filter_cons, List.filter_nil]
theorem inS_len (seats l : List Int) (i : Nat) : (inS seats l i).length ≤ i := by
  refine Nat.le_trans (List.length_filter_le _ _) ?_
  rw [List.length_take]; omega
theorem inS_all {seats l : List Int} {i : Nat} (h : ∀ j, j < i → el l j ∈ seats) (hi : i ≤ l.length) : inS seats l i = l.take i := by
  unfold inS
  rw [List.filter_eq_self]
  intro k hk
  obtain ⟨j, hj, e⟩ := List.mem_iff_getElem.1 hk
  have hj' : j < i := by simp at hj; omega
  rw [List.getElem_take] at e
  have e2 : el l j = l[j] := by simp [el, List.getD_eq_getElem?_getD, show j < l.length by omega]
  rw [← e, ← e2]
  exact decide_eq_true (h j hj')
def zI : List PV := [.int .i64 0]
theorem zI_eq : zI = [PV.int .i64 0].map purZ := (rfl)
set_option maxHeartbeats 1000000 in
set_option maxRecDepth 100000 in
theorem deleteS_den (l seats : List Int) (hl : big l.length) (hb : big seats.length) {k0 : Nat} (h0 : k0 < l.length) (h1 : el l k0 ∉ seats) (h : ∀ j, j < k0 → el l j ∈ seats) :
    Den Tryz.prog 52 [.os 1000000 l.length, .fn 53 [.ptr 1000001 0]] [.arr 3 1 false (l.map i1), .cells [.vs (seats.map i1)]] (.vs ((inS seats l l.length).map i1)) [] [.arr 3 1 true ((inS seats l l.length).map i1 ++ List.replicate (l.length - (inS seats l l.length).length) zI), .cells [.vs (seats.map i1)]] := by
  refine den_of Tryz.mixed Tryz.func52 rfl Tryz.call52 Tryz.ntmps52 (congrArg Array.toList Tryz.results52) (by simp) (by kernel_rfl) [] (exts := [1000000, 1000001]) rfl rfl ?_
  have ci := indexS_den l seats hl hb h0 h1 h
  have hm1 : ¬ (k0 : Int) = -1 := by omega
  have hw0 : IntKind.i64.wrap ((k0 : Int) + 1) = ((k0 + 1 : Nat) : Int) := by rw [wrapI] <;> omega
  have hk0 : inS seats l (k0 + 1) = l.take k0 := by
    rw [inS_succ h0, decide_eq_false h1, if_neg (by simp), List.append_nil, inS_all h (by omega)]
  have hk1 : (l.take k0).length = k0 := by rw [List.length_take]; omega
  simp only [go_sem]
  refine call ci [1000000, 1000001] ?_
  simp only [go_sem, hm1, hw0]
  refine ⟨Nat.le_refl _, ?_⟩
  refine loopC Tryz.mixed (k0 + 1, l) (fun s : Nat × List Int => [(0, .os 1000000 l.length), (1, .fn 53 [.ptr 1000001 0]), (5, .int .i64 (inS seats l s.1).length), (6, .int .i64 s.1)]) (fun s => [(1000000, .arh 3 1 (s.2.map i1)), (1000001, .cells [.vs (seats.map i1)])])
    (fun s => k0 < s.1 ∧ s.1 ≤ l.length ∧ s.2.length = l.length ∧ (inS seats l s.1).length < s.1 ∧ s.2.take (inS seats l s.1).length = inS seats l s.1 ∧ ∀ a, (inS seats l s.1).length ≤ a → el s.2 a = el l a) (fun s => l.length - s.1) (by kernel_rfl) ⟨Nat.lt_succ_self _, h0, rfl, by rw [hk0, hk1]; exact Nat.lt_succ_self _, by rw [hk0, hk1], fun a _ => rfl⟩ ?_ ?_
  · refine Cv.trans (Cv.opn (n := 1000000) (by rfl)) (Cv.wk ?_)
    have hin := hinLL_map [1000000, 1000001] i1 (fun _ => rfl) l
    simp only [go_sem, hin, hk0, hk1]
  · rintro ⟨j, L⟩ ⟨j1, j2, j3, j4, j5, j6⟩
    simp only at j1 j2 j3 j4 j5 j6
    simp only
    by_cases hlt : j < l.length
    · have g1 : (j : Int) < (l.length : Int) := by omega
      have hsu := inS_succ (seats := seats) hlt
      have e1 : el L j = el l j := j6 _ (by omega)
      have g2 : j < L.length := by omega
      have c1 := liars1_den (el l j) seats hb
      generalize inS seats l j = o at *
      cases hd : decide (el l j ∈ seats) with
      | false =>
        rw [hd, if_neg (by simp), List.append_nil] at hsu
        rw [hd] at c1
        simp only [go_sem, g1, g2, hlt, j3, e1]
        refine call c1 [1000001] ?_
        simp only [go_sem]
        refine ⟨(j + 1, L), ⟨⟨by simp only; omega, by simp only; omega, j3, ?_, ?_, ?_⟩, by simp only; omega⟩, Cv.wk ?_⟩
        · show (inS seats l (j + 1)).length < _
          rw [hsu]; simp only; omega
        · show L.take (inS seats l (j + 1)).length = inS seats l (j + 1)
          rw [hsu]; exact j5
        · intro a ha
          have ha' : (inS seats l (j + 1)).length ≤ a := ha
          rw [hsu] at ha'
          exact j6 a ha'
        · have hin := hinLL_map [1000000, 1000001] i1 (fun _ => rfl) L
          simp only [go_sem, hsu, hin]
          rw [wrapI] <;> omega
      | true =>
        rw [hd, if_pos rfl] at hsu
        rw [hd] at c1
        have g8 : o.length < l.length := by omega
        have g9 : o.length < L.length := by omega
        simp only [go_sem, g1, g2, g8, g9, hlt, j3, e1]
        refine call c1 [1000001] ?_
        simp only [go_sem, g1, g2, g8, g9, hlt, j3, e1]
        refine ⟨(j + 1, L.set o.length (el l j)), ⟨⟨by simp only; omega, by simp only; omega, by simp only [List.length_set]; exact j3, ?_, ?_, ?_⟩, by simp only; omega⟩, Cv.wk ?_⟩
        · show (inS seats l (j + 1)).length < _
          rw [hsu, List.length_append, List.length_singleton]; simp only; omega
        · show (L.set o.length (el l j)).take (inS seats l (j + 1)).length = inS seats l (j + 1)
          rw [hsu]; exact set_take (by omega) j5
        · intro a ha
          have ha' : (inS seats l (j + 1)).length ≤ a := ha
          rw [hsu, List.length_append, List.length_singleton] at ha'
          show el (L.set o.length _) a = _
          rw [set_el (by omega)]
          exact j6 a (by omega)
        · have hin := hinLL_map [1000000, 1000001] i1 (fun _ => rfl) (L.set o.length (el l j))
          have hset : (L.map i1).set o.length [PV.int .i64 (el l j)] = (L.set o.length (el l j)).map i1 := by rw [List.map_set]; rfl
          have hol : (o ++ [el l j]).length = o.length + 1 := by simp
          simp only [go_sem, hsu, hset, hin, hol]
          exact ⟨by rw [wrapI] <;> omega, by rw [wrapI] <;> omega⟩
    · have hend : j = l.length := by omega
      subst hend
      generalize hO : inS seats l l.length = o at *
      have g2 : ¬ (l.length : Int) < (l.length : Int) := by omega
      have g3 : (o.length : Int) ≤ (l.length : Int) := by omega
      have htk : (L.map i1).take o.length = o.map i1 := by rw [← List.map_take, j5]
      have hpu : ∀ σ, purLL σ (o.map i1 ++ List.replicate (l.length - o.length) zI) = some (o.map i1 ++ List.replicate (l.length - o.length) zI, []) := fun σ => purLL_of fun x hx => by
        rcases List.mem_append.1 hx with hx | hx
        · obtain ⟨c, _, rfl⟩ := List.mem_map.1 hx
          rfl
        · rw [List.eq_of_mem_replicate hx]
          rfl
      have g5 : (o.map i1 ++ List.replicate (l.length - o.length) zI).length = l.length := by simp; omega
      have g6 : (o.map i1 ++ List.replicate (l.length - o.length) zI).take o.length = o.map i1 := by simp
      have g7 : o.length < l.length := by omega
      have g8 : o.length ≤ l.length := by omega
      simp only [go_sem, g2, j3]
      refine cvQ_exit _ _ ?_
      simp only [go_sem, g2, g3, j3, htk, g7, g8, ← zI_eq, hpu, g5, g6]
theorem first_out (seats l : List Int) : (∀ k ∈ l, k ∈ seats) ∨ ∃ k0, k0 < l.length ∧ el l k0 ∉ seats ∧ ∀ j, j < k0 → el l j ∈ seats := by
  have main : ∀ n, n ≤ l.length → (∀ j, j < n → el l j ∈ seats) ∨ ∃ k0, k0 < l.length ∧ el l k0 ∉ seats ∧ ∀ j, j < k0 → el l j ∈ seats := fun n => by
    induction n with
    | zero => intro _; exact .inl fun j hj => by omega
    | succ n ih =>
      intro hn
      rcases ih (by omega) with h | h
      · by_cases hm : el l n ∈ seats
        · refine .inl fun j hj => ?_
          rcases Nat.lt_succ_iff_lt_or_eq.1 hj with h1 | rfl
          · exact h j h1
          · exact hm
        · exact .inr ⟨n, by omega, hm, h⟩
      · exact .inr h
  rcases main l.length (Nat.le_refl _) with h | h
  · refine .inl fun k hk => ?_
    obtain ⟨i, hi, rfl⟩ := mem_el hk
    exact h i hi
  · exact .inr h
set_option maxHeartbeats 1000000 in
set_option maxRecDepth 100000 in
theorem deleteN_den (l seats : List Int) (hl : big l.length) (hb : big seats.length) (h : ∀ k ∈ l, k ∈ seats) :
    Den Tryz.prog 52 [.os 1000000 l.length, .fn 53 [.ptr 1000001 0]] [.arr 3 1 false (l.map i1), .cells [.vs (seats.map i1)]] (.os 1000000 l.length) [] [.arr 3 1 false (l.map i1), .cells [.vs (seats.map i1)]] := by
  refine den_of Tryz.mixed Tryz.func52 rfl Tryz.call52 Tryz.ntmps52 (congrArg Array.toList Tryz.results52) (by simp) (by kernel_rfl) [] (exts := [1000000, 1000001]) rfl rfl ?_
  have ci := indexN_den l seats hl hb h
  simp only [go_sem]
  refine call ci [1000000, 1000001] ?_
  simp only [go_sem]
  exact Nat.le_refl _
theorem delete_den (l seats : List Int) (hl : big l.length) (hb : big seats.length) :
    ∃ new, new.length = l.length ∧ Den Tryz.prog 52 [.os 1000000 l.length, .fn 53 [.ptr 1000001 0]] [.arr 3 1 false (l.map i1), .cells [.vs (seats.map i1)]] (.vs ((l.filter fun k => decide (k ∈ seats)).map i1)) [] [.arr 3 1 true new, .cells [.vs (seats.map i1)]] := by
  have e : inS seats l l.length = l.filter fun k => decide (k ∈ seats) := by rw [inS, List.take_length]
  rcases first_out seats l with h | ⟨k0, h0, h1, h2⟩
  · have e2 : (l.filter fun k => decide (k ∈ seats)) = l := List.filter_eq_self.2 fun k hk => decide_eq_true (h k hk)
    rw [e2]
    exact ⟨_, by simp, (deleteN_den l seats hl hb h).vsE (by simp)⟩
  · rw [← e]
    exact ⟨_, by have := inS_len seats l l.length; simp; omega, deleteS_den l seats hl hb h0 h1 h2⟩

set_option maxHeartbeats 1000000 in
set_option maxRecDepth 100000 in
theorem liars_den (l : List Stm) (c : Cs) (seats : List Int) (hl : l.length ≤ 900) (hs : ∀ s ∈ l, bigS s) (hb : seats.length ≤ 1000000) :
    Den Tryz.prog 24 [.vs (l.map sm), .agg (cs c), .vs (seats.map i1)] [] (.tup [.vs ((if ckS c seats = 0 then lieV seats (votesL l c) else []).map i1), .int .i64 (ckS c seats)]) [] [] := by
  refine den_of Tryz.mixed Tryz.func24 rfl Tryz.call24 Tryz.ntmps24 (congrArg Array.toList Tryz.results24) (by simp) (by kernel_rfl) [] (exts := []) rfl rfl ?_
  have hbs : big seats.length := by simp only [big]; omega
  have c1 := dcheck_den c seats hb
  have c2 := votesG_den l c (by omega) hs
  have lV := votes_len l c
  have xV := votes_okX (l := l) (c := c)
  rw [cs_eq] at c1 c2
  generalize hk : ckS c seats = k at *
  generalize votesL l c = V at *
  have c3 := twCO_den V (by omega) (fun y hy => (xV y hy).1)
  rw [tw_same V] at c3
  have hL : lieV seats V = (twR V).filter fun k => decide (k ∈ seats) := rfl
  have hT : big (twR V).length := by
    have := twI_len V V.length
    have h5 : V.length * V.length ≤ 900 * 900 := Nat.mul_le_mul (by omega) (by omega)
    simp only [big, twR]
    omega
  obtain ⟨new, hnew, c4⟩ := delete_den (twR V) seats hT hbs
  rw [hL]
  clear hL
  generalize twR V = T at *
  simp only [go_sem, cs_eq]
  refine call c1 [] ?_
  by_cases hz : k = 0
  rotate_left
  · simp only [go_sem, hz]
  · subst hz
    simp only [go_sem]
    refine call c2 [] ?_
    simp only [go_sem]
    refine call c3 [] ?_
    simp only [go_sem]
    refine call c4 [19, 5] ?_
    simp only [go_sem]
    omega

set_option maxHeartbeats 1000000 in
set_option maxRecDepth 100000 in
theorem rliars_den (l : List Stm) (c : Cs) (seats : List Int) (hl : l.length ≤ 900) (hs : ∀ s ∈ l, bigS s) (hb : big seats.length) :
    Den Tryz.prog 59 [.vs (l.map sm), .agg (cs c), .vs (seats.map i1)] [] (.tup [.vs ((if ckS c seats = 0 then lieV seats (votesL l c) else []).map i1), .int .i64 (ckS c seats)]) [] [] := by
  refine den_of Tryz.mixed Tryz.func59 rfl Tryz.call59 Tryz.ntmps59 (congrArg Array.toList Tryz.results59) (by simp) (by kernel_rfl) [] (exts := []) rfl rfl ?_
  have c1 := check28_den c seats hb
  have c2 := refVotes_den l c (by omega) hs
  rw [← votes_eq] at c2
  have lV := votes_len l c
  have xV := votes_okX (l := l) (c := c)
  rw [cs_eq] at c1 c2
  generalize hk : ckS c seats = k at *
  generalize votesL l c = V at *
  have c3 := twR_den V (by omega) (fun y hy => okCt_big (xV y hy).1)
  have hL : lieV seats V = inS seats (twR V) (twR V).length := by rw [inS, List.take_length]; rfl
  have hT : (twR V).length ≤ 810000 := by
    have := twI_len V V.length
    have h5 : V.length * V.length ≤ 900 * 900 := Nat.mul_le_mul (by omega) (by omega)
    simp only [twR]
    omega
  rw [hL]
  clear hL
  generalize twR V = T at *
  simp only [go_sem, cs_eq]
  refine call c1 [] ?_
  by_cases hz : k = 0
  rotate_left
  · simp only [go_sem, hz]
  · subst hz
    simp only [go_sem]
    refine call c2 [] ?_
    simp only [go_sem]
    refine call c3 [] ?_
    simp only [go_sem]
    refine promote 10 110 3 1 false ?_ ?_ ?_ (by omega)
    · refine loop Tryz.mixed 0 (fun i : Nat => [(2, .vs (seats.map i1)), (9, .vs (T.map i1)), (10, .os 110 (inS seats T i).length), (11, .int .i64 i)]) (fun i => [(110, .arr 3 1 false ((inS seats T i).map i1))]) (fun i => i ≤ T.length) (fun i => T.length - i) (by kernel_rfl) (Nat.zero_le _) ?_ ?_
      · simp only [go_sem]
        simp [inS]
      · intro i hi
        by_cases hlt : i < T.length
        · have h1 : (i : Int) < (T.length : Int) := by omega
          have hsu := inS_succ (seats := seats) hlt
          have hln := inS_len seats T i
          have ce := has24 seats (el T i) hb
          generalize inS seats T i = o at *
          simp only [go_sem, h1, hlt]
          refine call ce [] ?_
          cases he : decide (el T i ∈ seats)
          · rw [he, if_neg (by simp), List.append_nil] at hsu
            simp only [go_sem]
            refine ⟨i + 1, ⟨by omega, by omega⟩, ?_⟩
            rw [hsu]
            exact ⟨⟨rfl, by rw [wrapI] <;> omega⟩, rfl⟩
          · rw [he, if_pos rfl] at hsu
            simp only [go_sem, hlt]
            refine ⟨by omega, i + 1, ⟨by omega, by omega⟩, ?_⟩
            rw [hsu]
            exact ⟨⟨by simp, by rw [wrapI] <;> omega⟩, by simp [i1]⟩
        · have h1 : ¬ (i : Int) < (T.length : Int) := by omega
          have : i = T.length := by omega
          subst this
          simp only [go_sem, h1]
    · simp only [go_sem]
    · simp only [go_sem]
end Go.Proofs.Am
