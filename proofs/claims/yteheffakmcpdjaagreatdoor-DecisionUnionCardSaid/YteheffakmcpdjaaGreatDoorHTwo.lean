/- Decisions: what has enough votes; the program's and the document's. -/
import Derived.Test.YteheffakmcpdjaaGreatDoorSOne
import Derived.Test.YteheffakmcpdjaaGreatDoorGOne
set_option linter.unusedSimpArgs false
set_option linter.unusedVariables false
namespace Go.Proofs.Am
open Go Go.RowKit
open Go.Proofs

set_option maxHeartbeats 1000000 in
set_option maxRecDepth 100000 in
theorem dcheck_den (c : Cs) (s : List Int) (hs : s.length ≤ 1000000) : Den Tryz.prog 35 [.agg (cs c), .vs (s.map i1)] [] (.int .i64 (ckS c s)) [] [] := by
  refine den_of Tryz.mixed Tryz.func35 rfl Tryz.call35 Tryz.ntmps35 (congrArg Array.toList Tryz.results35) (by simp) (by kernel_rfl) [] (exts := []) rfl rfl ?_
  have c1 := cvalidP c
  have c2 := seated_den s hs
  rw [cs_eq] at c1 ⊢
  rw [ck_seated]
  simp only [go_sem]
  refine call c1 [] ?_
  cases a1 : caseV c
  · simp only [go_sem]
  · simp only [go_sem]
    refine call c2 [] ?_
    cases a2 : seatedB s
    · simp only [go_sem]
    · simp only [go_sem]

/-- The first contents with enough votes. -/
def allN (m : Nat) (N : List Cn) (i : Nat) : List Ct := ((N.take i).filter fun n => enoB n.ks.length m).map Cn.x
theorem allN_succ {m : Nat} {N : List Cn} {i : Nat} (h : i < N.length) : allN m N (i + 1) = allN m N i ++ if enoB (el N i).ks.length m = true then [(el N i).x] else [] := by
  simp only [allN, take_el h, List.filter_append, List.map_append, List.filter_cons, List.filter_nil]
  split <;> rfl
theorem allN_len (m : Nat) (N : List Cn) (i : Nat) : (allN m N i).length ≤ N.length := by
  simp only [allN, List.length_map]
  refine Nat.le_trans (List.length_filter_le _ _) ?_
  rw [List.length_take]; omega
theorem allN_all {seats : List Int} {v : List Vt} : allN seats.length (cnR seats v) (cnR seats v).length = allV seats v := by simp only [allN, List.take_length, allV]
set_option maxHeartbeats 1000000 in
set_option maxRecDepth 100000 in
theorem all_den (l : List Stm) (c : Cs) (seats : List Int) (hl : l.length ≤ 900) (hs : ∀ s ∈ l, bigS s) (hb : seats.length ≤ 1000000) :
    Den Tryz.prog 15 [.vs (l.map sm), .agg (cs c), .vs (seats.map i1)] [] (.tup [.vs ((if ckS c seats = 0 then allV seats (votesL l c) else []).map ct), .int .i64 (ckS c seats)]) [] [] := by
  refine den_of Tryz.mixed Tryz.func15 rfl Tryz.call15 Tryz.ntmps15 (congrArg Array.toList Tryz.results15) (by simp) (by kernel_rfl) [] (exts := []) rfl rfl ?_
  have hbs : big seats.length := by simp only [big]; omega
  have c1 := dcheck_den c seats hb
  have c2 := votesG_den l c (by omega) hs
  have lV := votes_len l c
  have xV := votes_okX (l := l) (c := c)
  rw [cs_eq] at c1 c2
  generalize hk : ckS c seats = k at *
  generalize votesL l c = V at *
  have c3 := cn_den V seats (by omega) hbs xV
  rw [cn_same' xV] at c3
  have hok := cnI_ok seats (fun y hy => (xV y hy).1) V.length (Nat.le_refl _)
  have hN : cnI seats V V.length = cnR seats V := rfl
  rw [hN] at hok
  have hall := allN_all (seats := seats) (v := V)
  have hks : k = 0 → ∀ n ∈ cnR seats V, n.ks.length ≤ seats.length := fun _ n hn => ks_len hn
  generalize allV seats V = A at *
  generalize cnR seats V = N at *
  clear hN
  simp only [go_sem, cs_eq]
  refine call c1 [] ?_
  by_cases hz : k = 0
  rotate_left
  · simp only [go_sem, hz]
  · subst hz
    simp only [go_sem]
    refine call c2 [] ?_
    simp only [go_sem]
    refine call c3 [] ?_
    simp only [go_sem]
    refine promote 9 110 40 2 false ?_ ?_ ?_ (by omega)
    · refine loop Tryz.mixed 0 (fun i : Nat => [(2, .vs (seats.map i1)), (9, .os 110 (allN seats.length N i).length), (22, .vs (N.map cn3)), (23, .int .i64 N.length), (24, .int .i64 i)]) (fun i => [(110, .arr 40 2 false ((allN seats.length N i).map ct))]) (fun i => i ≤ N.length) (fun i => N.length - i) (by kernel_rfl) (Nat.zero_le _) ?_ ?_
      · simp only [go_sem]
        simp [allN]
      · intro i hi
        by_cases hlt : i < N.length
        · have h1 : (i : Int) < (N.length : Int) := by omega
          have hsu := allN_succ (m := seats.length) hlt
          have hln := allN_len seats.length N i
          have hkn := hks rfl _ (el_mem hlt)
          have ce := cenough_den (el N i).ks.length seats.length (by omega) hb
          generalize allN seats.length N i = o at *
          simp only [go_sem, h1, hlt]
          refine call ce [] ?_
          cases he : enoB (el N i).ks.length seats.length
          · rw [he, if_neg (by simp), List.append_nil] at hsu
            simp only [go_sem]
            refine ⟨i + 1, ⟨by omega, by omega⟩, ?_⟩
            rw [hsu]
            exact ⟨⟨rfl, by rw [wrapI] <;> omega⟩, rfl⟩
          · rw [he, if_pos rfl] at hsu
            simp only [go_sem]
            refine ⟨by omega, i + 1, ⟨by omega, by omega⟩, ?_⟩
            rw [hsu]
            exact ⟨⟨by simp, by rw [wrapI] <;> omega⟩, by simp [ct]⟩
        · have h1 : ¬ (i : Int) < (N.length : Int) := by omega
          have : i = N.length := by omega
          subst this
          simp only [go_sem, h1, hall]
    · simp only [go_sem]
    · simp only [go_sem]

/-- The one content that was decided. -/
def oneC (A : List Ct) : Ct := if A.length = 1 then el A 0 else noC
set_option maxHeartbeats 1000000 in
set_option maxRecDepth 100000 in
theorem dof_den (l : List Stm) (c : Cs) (seats : List Int) (hl : l.length ≤ 900) (hs : ∀ s ∈ l, bigS s) (hb : seats.length ≤ 1000000) (A : List Ct) (hA : A = if ckS c seats = 0 then allV seats (votesL l c) else []) (hA2 : big A.length) :
    Den Tryz.prog 32 [.vs (l.map sm), .agg (cs c), .vs (seats.map i1)] [] (.tup [.agg (ct (oneC A)), .bool (decide (A.length = 1)), .int .i64 (ckS c seats)]) [] [] := by
  refine den_of Tryz.mixed Tryz.func32 rfl Tryz.call32 Tryz.ntmps32 (congrArg Array.toList Tryz.results32) (by simp) (by kernel_rfl) [] (exts := []) rfl rfl ?_
  have c1 := all_den l c seats hl hs hb
  rw [← hA, cs_eq] at c1
  have hne : ckS c seats ≠ 0 → A = [] := fun h => by rw [hA, if_neg h]
  generalize ckS c seats = k at *
  clear hA
  rw [cs_eq]
  simp only [go_sem]
  refine call c1 [] ?_
  by_cases hz : k = 0
  rotate_left
  · have := hne hz
    subst this
    simp only [go_sem, hz, oneC, noC, List.length_nil]
  · subst hz
    by_cases h1 : A.length = 1
    · obtain ⟨x, rfl⟩ := List.length_eq_one_iff.1 h1
      simp only [go_sem, oneC, List.length_singleton, List.map_cons, List.map_nil]
      exact ⟨rfl, rfl⟩
    · have h2 : ¬ (A.length : Int) = 1 := by omega
      simp only [go_sem, h1, h2, oneC, noC]
set_option maxHeartbeats 1000000 in
set_option maxRecDepth 100000 in
theorem sameCts_den (a b : List Ct) (ha : big a.length) (hb : big b.length) (ga : ∀ x ∈ a, bigC x) (gb : ∀ x ∈ b, bigC x) : Den Tryz.prog 19 [.vs (a.map ct), .vs (b.map ct)] [] (.bool (decide (a = b))) [] [] := by
  refine den_of Tryz.mixed Tryz.func19 rfl Tryz.call19 Tryz.ntmps19 (congrArg Array.toList Tryz.results19) (by simp) (by kernel_rfl) [] (exts := []) rfl rfl ?_
  by_cases h0 : a.length = b.length
  rotate_left
  · have h1 : ¬ (a.length : Int) = (b.length : Int) := by omega
    have h2 : ¬ a = b := fun e => h0 (by rw [e])
    simp only [go_sem, h1, h2]
  simp only [go_sem, h0]
  refine loop Tryz.mixed 0 (fun i : Nat => [(0, .vs (a.map ct)), (1, .vs (b.map ct)), (5, .int .i64 i)]) (fun _ => []) (fun i => i ≤ a.length ∧ a.take i = b.take i) (fun i => a.length - i) (by kernel_rfl) ⟨Nat.zero_le _, by simp⟩ ?_ ?_
  · simp only [go_sem]
  · rintro i ⟨hi, he⟩
    by_cases hlt : i < a.length
    · have h1 : (i : Int) < (b.length : Int) := by omega
      have hlt2 : i < b.length := by omega
      obtain ⟨q1, q2⟩ := ga _ (el_mem hlt)
      obtain ⟨q3, q4⟩ := gb _ (el_mem hlt2)
      simp only [go_sem, h0, h1, hlt, hlt2]
      refine call (order23_den (el a i) (el b i) q1 q2 q3 q4) [] ?_
      by_cases z : ordC (el a i) (el b i) = 0
      · have z2 := (ordC_eq _ _).1 z
        simp only [go_sem, z]
        refine ⟨okD_of (by kernel_rfl), i + 1, ⟨⟨by omega, by rw [take_el hlt, take_el hlt2, he, z2]⟩, by omega⟩, by rw [wrapI] <;> omega⟩
      · have h2 : ¬ a = b := fun e => z (by rw [e]; exact (ordC_eq _ _).2 rfl)
        simp only [go_sem, z, h2]
        exact okD_of (by kernel_rfl)
    · have h1 : ¬ (i : Int) < (b.length : Int) := by omega
      have h2 : a = b := by
        rw [List.take_of_length_le (by omega), List.take_of_length_le (by omega)] at he
        exact he
      simp only [go_sem, h0, h1]
      rw [decide_eq_true h2]
end Go.Proofs.Am

/- Who has voted twice: slices.DeleteFunc; the program's and the document's. -/
namespace Go.Proofs.Am
open Go Go.RowKit
open Go.Proofs

def inS (seats : List Int) (l : List Int) (i : Nat) : List Int := (l.take i).filter fun k => decide (k ∈ seats)
def zI : List PV := [.int .i64 0]
end Go.Proofs.Am
