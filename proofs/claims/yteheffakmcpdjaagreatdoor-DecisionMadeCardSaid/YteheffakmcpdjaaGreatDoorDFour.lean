/- slices.Sort and slices.Compact: the kit's contracts, on abstract values. -/
import Derived.Test.YteheffakmcpdjaaGreatDoorBTwo
import Derived.Test.YteheffakmcpdjaaGreatDoorShP
import Derived.Test.YteheffakmcpdjaaGreatDoorDOne
set_option linter.unusedSimpArgs false
set_option linter.unusedVariables false
namespace Go.Proofs.Am
open Go Go.RowKit Go.Sort
open Go.Proofs

/-- Sorted. -/
def srt (l : List Int) : List Int := l.mergeSort fun x y => decide (x ≤ y)
theorem srt_len (l : List Int) : (srt l).length = l.length := List.length_mergeSort l
theorem sort_den (l : List Int) (hl : l.length < 4611686018427387904) : Den Tryz.prog 66 [.os 1000000 l.length] [.arr 3 1 false (l.map i1)] (.tup []) [] [.arr 3 1 false ((srt l).map i1)] :=
  den_inplace (e := 3) (l := l) (new := srt l) (enters_of Tryz.func66 (by kernel_rfl) rfl) (srt_len l)
    (fun g cap w hH hlt _ => Any.slices_Sort_int Tryz.laysSort g 0 cap l w hH hlt hl)
    (fun h p cap w => Any.slices_Sort_int_none Tryz.laysSort p cap w)

/-- The first of each run of equal numbers. -/
def cmpc (l : List Int) : List Int := Lib.compact l
theorem cmpc_le (l : List Int) : (cmpc l).length ≤ l.length := by
  simp only [cmpc, Lib.compact, Lib.compactUpTo, List.length_map]
  exact Nat.le_trans (List.length_filter_le _ _) (by simp)
/-- What lies in the row then. -/
def cmpz (l : List Int) : List Int := cmpc l ++ List.replicate (l.length - (cmpc l).length) 0
theorem cmpz_len (l : List Int) : (cmpz l).length = l.length := by
  have := cmpc_le l
  simp [cmpz]; omega
theorem compact_den (l : List Int) (hl : l.length ≤ 9223372036854775807) : Den Tryz.prog 67 [.os 1000000 l.length] [.arr 3 1 false (l.map i1)] (.vs ((cmpc l).map i1)) [] [.arr 3 1 true ((cmpz l).map i1)] :=
  den_cut (e := 3) (l := l) (enters_of Tryz.func67 (by kernel_rfl) rfl) (cmpz_len l) (by simp [cmpz]) (fun g cap w hH hlt hc => Any.slices_Compact_int Tryz.laysCompact g 0 cap l w hH hl hc)
    fun h p cap w => Any.slices_Compact_int_empty Tryz.laysCompact p cap w
end Go.Proofs.Am

/- Who votes twice: the program's. -/
namespace Go.Proofs.Am
open Go Go.RowKit
open Go.Proofs

def kidx {β : Type} (k : Int) (M : List (Int × β)) : Option Nat := M.findIdx? fun p => decide (p.1 = k)
theorem mfind_int {β : Type} (g : β → PV) (k : Int) : ∀ (M : List (Int × β)) (i : Nat), mfind (.int .i64 k) (M.map fun p => (PV.int .i64 p.1, g p.2)) i = some ((kidx k M).map (· + i))
  | [], i => by simp [mfind, kidx]
  | p :: M, i => by
    have ih := mfind_int g k M (i + 1)
    simp only [List.map_cons, mfind, keyEq, if_true, kidx, List.findIdx?_cons]
    by_cases h : k = p.1
    · have h' : p.1 = k := h.symm
      simp [h']
    · have h' : ¬ p.1 = k := fun e => h e.symm
      simp only [h, h', decide_false, Bool.false_eq_true, if_false]
      rw [ih]
      simp only [kidx, Option.map_map]
      cases List.findIdx? (fun p => decide (p.fst = k)) M with
      | none => rfl
      | some x => simp; omega
theorem mfind_int0 {β : Type} (g : β → PV) (k : Int) (M : List (Int × β)) : mfind (.int .i64 k) (M.map fun p => (PV.int .i64 p.1, g p.2)) 0 = some (kidx k M) := by
  rw [mfind_int]
  cases kidx k M <;> simp
theorem kidx_some {β : Type} {k : Int} {M : List (Int × β)} {i : Nat} (h : kidx k M = some i) : ∃ hi : i < M.length, M[i].1 = k := by
  unfold kidx at h
  rw [List.findIdx?_eq_some_iff_getElem] at h
  obtain ⟨hi, h1, _⟩ := h
  exact ⟨hi, by simpa using h1⟩
theorem kidx_none {β : Type} {k : Int} {M : List (Int × β)} : kidx k M = none ↔ ∀ p ∈ M, p.1 ≠ k := by
  unfold kidx
  rw [List.findIdx?_eq_none_iff]
  simp

/-- The maps, as lists. -/
def fE (p : Int × Ct) : PV × PV := (.int .i64 p.1, .agg (ct p.2))
def tE (p : Int × Unit) : PV × PV := (.int .i64 p.1, .bool true)
theorem mfind_fE (k : Int) (M : List (Int × Ct)) : mfind (.int .i64 k) (M.map fE) 0 = some (kidx k M) := mfind_int0 (fun x : Ct => .agg (ct x)) k M
theorem mfind_tE (k : Int) (M : List (Int × Unit)) : mfind (.int .i64 k) (M.map tE) 0 = some (kidx k M) := mfind_int0 (fun _ : Unit => .bool true) k M
theorem hin_fE (d : List Nat) : ∀ M : List (Int × Ct), hinM d (M.map fE) = true
  | [] => rfl
  | p :: M => by
    have ih := hin_fE d M
    simp only [List.map_cons, hinM, ih, Bool.and_true]
    rfl
theorem hin_tE (d : List Nat) : ∀ M : List (Int × Unit), hinM d (M.map tE) = true
  | [] => rfl
  | p :: M => by
    have ih := hin_tE d M
    simp only [List.map_cons, hinM, ih, Bool.and_true]
    rfl
def twP (st : List (Int × Ct) × List (Int × Unit)) (y : Vt) : List (Int × Ct) × List (Int × Unit) :=
  match kidx y.k st.1 with
  | none => (st.1 ++ [(y.k, y.x)], st.2)
  | some i => if ordC y.x (st.1.getD i (0, default)).2 = 0 then st else (st.1, if kidx y.k st.2 = none then st.2 ++ [(y.k, ())] else st.2)
def twF (v : List Vt) (i : Nat) : List (Int × Ct) × List (Int × Unit) := (v.take i).foldl twP ([], [])
theorem twF_succ {v : List Vt} {i : Nat} (h : i < v.length) : twF v (i + 1) = twP (twF v i) (el v i) := by
  simp only [twF, take_el h, List.foldl_append, List.foldl_cons, List.foldl_nil]
theorem twF_ok {v : List Vt} (hx : ∀ y ∈ v, okCt y.x) : ∀ i, i ≤ v.length → (∀ p ∈ (twF v i).1, okCt p.2) ∧ (twF v i).2.length ≤ i
  | 0, _ => by simp [twF]
  | i + 1, h => by
    have ih := twF_ok hx i (by omega)
    have hlt : i < v.length := by omega
    rw [twF_succ hlt]
    generalize twF v i = st at ih
    obtain ⟨M, T⟩ := st
    obtain ⟨h1, h2⟩ := ih
    simp only at h1 h2
    simp only [twP]
    split
    · refine ⟨fun p hp => ?_, by simp only; omega⟩
      rcases List.mem_append.1 hp with hp | hp
      · exact h1 p hp
      · simp only [List.mem_singleton] at hp
        subst hp
        exact hx _ (el_mem hlt)
    · split
      · exact ⟨h1, by simp only; omega⟩
      · refine ⟨h1, ?_⟩
        simp only
        split
        · simp; omega
        · omega
def twC (v : List Vt) : List Int := srt ((twF v v.length).2.map (·.1))

theorem srt_perm {l m : List Int} (h : l.Perm m) : srt l = srt m := by
  refine List.Perm.eq_of_pairwise (le := fun x y : Int => x ≤ y) (fun a b _ _ h1 h2 => Int.le_antisymm h1 h2) ?_ ?_ ((List.mergeSort_perm _ _).trans (h.trans (List.mergeSort_perm _ _).symm))
  · have := List.pairwise_mergeSort (le := fun x y : Int => decide (x ≤ y)) (fun a b c h1 h2 => by simp at *; omega) (fun a b => by simp; omega) l
    simpa [srt] using this
  · have := List.pairwise_mergeSort (le := fun x y : Int => decide (x ≤ y)) (fun a b c h1 h2 => by simp at *; omega) (fun a b => by simp; omega) m
    simpa [srt] using this
theorem keys_perm {T : List (Int × Unit)} {d : List Nat} (hn : d.Nodup) (hd : ∀ i ∈ d, i < T.length) (hall : ∀ i, i < T.length → i ∈ d) : (d.map fun i => (T.getD i (0, ())).1).Perm (T.map (·.1)) := by
  have hp : d.Perm (List.range T.length) := by
    refine (List.perm_ext_iff_of_nodup hn List.nodup_range).2 fun i => ?_
    rw [List.mem_range]
    exact ⟨hd i, hall i⟩
  have h2 : (List.range T.length).map (fun i => (T.getD i (0, ())).1) = T.map (·.1) := by
    apply List.ext_getElem (by simp)
    intro i h1 h2
    have : i < T.length := by simpa using h2
    simp [List.getD_eq_getElem?_getD, this]
  rw [← h2]
  exact hp.map _
theorem nodup_len {d : List Nat} {n : Nat} (hn : d.Nodup) (hd : ∀ i ∈ d, i < n) : d.length ≤ n := by
  have h : d ⊆ List.range n := fun i hi => List.mem_range.2 (hd i hi)
  have := List.Nodup.length_le_of_subset hn h
  simpa using this
set_option maxHeartbeats 1000000 in
set_option maxRecDepth 100000 in
theorem twCO_den (v : List Vt) (hv : v.length ≤ 900) (hx : ∀ y ∈ v, okCt y.x) : Den Tryz.prog 51 [.vs (v.map vt7)] [] (.os 0 (twC v).length) [.arr 3 1 false ((twC v).map i1)] [] := by
  refine den_of Tryz.mixed Tryz.func51 rfl Tryz.call51 Tryz.ntmps51 (congrArg Array.toList Tryz.results51) (by simp) (by kernel_rfl) [99] (exts := []) rfl rfl ?_
  simp only [go_sem]
  refine loop Tryz.mixed 0 (fun i : Nat => [(13, .vs (v.map vt7)), (3, .mh 11), (4, .mh 12), (14, .int .i64 v.length), (15, .int .i64 i)]) (fun i => [(11, .mp ((twF v i).1.map fE)), (12, .mp ((twF v i).2.map tE))]) (fun i => i ≤ v.length) (fun i => v.length - i) (by kernel_rfl) (Nat.zero_le _) ?_ ?_
  · simp only [go_sem, hin_fE, hin_tE]
    exact ⟨rfl, rfl⟩
  · intro i hi
    by_cases hlt : i < v.length
    · have h1 : (i : Int) < (v.length : Int) := by omega
      have hsu := twF_succ hlt
      have hok := twF_ok hx i hi
      generalize twF v i = st at *
      obtain ⟨M, T⟩ := st
      have hm := mfind_fE (el v i).k M
      have hm2 := mfind_tE (el v i).k T
      simp only [twP] at hsu
      cases hkm : kidx (el v i).k M with
      | none =>
        rw [hkm] at hsu hm
        simp only [go_sem, h1, hlt, hm, mres, mput]
        refine ⟨i + 1, ⟨by omega, by omega⟩, by rw [wrapI] <;> omega, ?_⟩
        rw [hsu]
        exact ⟨⟨by simp [fE, ct], rfl⟩, hin_fE _ _, hin_tE _ _⟩
      | some j =>
        rw [hkm] at hsu hm
        obtain ⟨hj, hjk⟩ := kidx_some hkm
        have hg : ((List.map fE M).getD j (PV.undef, PV.undef)).2 = .agg [.vs ((M.getD j (0, default)).2.li.map i1), .vs ((M.getD j (0, default)).2.pi.map pn)] := by
          simp [List.getD_eq_getElem?_getD, hj, fE, ct]
        have hjo : okCt (M.getD j (0, default)).2 := by
          refine hok.1 (M.getD j (0, default)) ?_
          simp [List.getD_eq_getElem?_getD, hj]
        generalize hX : (M.getD j (0, default)).2 = x0 at *
        have q1 := okCt_big (hx (el v i) (el_mem hlt))
        have q2 := okCt_big hjo
        simp only [go_sem, h1, hlt, hm, mres, hg]
        refine call (orderC_den (el v i).x x0 q1.1 q1.2 q2.1 q2.2) [] ?_
        by_cases z1 : ordC (el v i).x x0 = 0
        · simp only [hX, z1, if_true] at hsu
          simp only [go_sem, z1]
          refine ⟨i + 1, ⟨by omega, by omega⟩, by rw [wrapI] <;> omega, ?_⟩
          rw [hsu]
          exact ⟨⟨rfl, rfl⟩, hin_fE _ _, hin_tE _ _⟩
        · simp only [hX, z1, if_false] at hsu
          cases hkt : kidx (el v i).k T with
          | none =>
            rw [hkt] at hsu hm2
            simp only [go_sem, z1, hm2, mput]
            refine ⟨i + 1, ⟨by omega, by omega⟩, by rw [wrapI] <;> omega, ?_⟩
            rw [hsu]
            exact ⟨⟨rfl, by simp [tE]⟩, hin_fE _ _, hin_tE _ _⟩
          | some jt =>
            rw [hkt] at hsu hm2
            simp only [go_sem, z1, hm2, mput]
            refine ⟨i + 1, ⟨by omega, by omega⟩, by rw [wrapI] <;> omega, ?_⟩
            rw [hsu]
            obtain ⟨hjt, hjtk⟩ := kidx_some hkt
            refine ⟨⟨rfl, ?_⟩, hin_fE _ _, hin_tE _ _⟩
            simp only [reduceCtorEq, if_false]
            have hse : (((List.map tE T).getD jt (PV.undef, PV.undef)).fst, PV.bool true) = (List.map tE T)[jt]'(by simpa using hjt) := by simp [List.getD_eq_getElem?_getD, hjt, tE]
            rw [hse, List.set_getElem_self]
    · have h1 : ¬ (i : Int) < (v.length : Int) := by omega
      have : i = v.length := by omega
      subst this
      simp only [go_sem, h1]
      have hok := (twF_ok hx v.length (Nat.le_refl _)).2
      have hD : twC v = srt ((twF v v.length).2.map (·.1)) := rfl
      generalize (twF v v.length).2 = T at *
      rw [hD]
      clear hD
      refine promote 9 99 3 1 false ?_ ?_ ?_ (by omega)
      · refine loop Tryz.mixed [] (fun d : List Nat => [(43, .mh 43), (9, .os 99 d.length)]) (fun d => [(12, .mp (T.map tE)), (43, .it 12 T.length d), (99, .arr 3 1 false ((d.map fun i => (T.getD i (0, ())).1).map i1))]) (fun d => d.Nodup ∧ ∀ i ∈ d, i < T.length) (fun d => T.length - d.length) (by kernel_rfl) ⟨List.nodup_nil, by simp⟩ ?_ ?_
        · simp only [go_sem, hin_tE]
        · rintro d ⟨hn, hd⟩
          have hnd : d.length ≤ T.length := nodup_len hn hd
          simp only [go_sem]
          refine ⟨fun i hi hnot => ⟨d, i, rfl, hi, ?_⟩, fun hall => ?_⟩
          · have hgt : ((List.map tE T).getD i (PV.undef, PV.undef)).fst = .int .i64 (T.getD i (0, ())).1 := by simp [List.getD_eq_getElem?_getD, hi, tE]
            simp only [go_sem, hgt]
            have hn2 : (d ++ [i]).Nodup := by
              rw [List.nodup_append]
              exact ⟨hn, by simp, fun a ha b hb e => hnot (by simp at hb; rw [← hb, ← e]; exact ha)⟩
            have hd2 : ∀ j ∈ d ++ [i], j < T.length := fun j hj => by
              rcases List.mem_append.1 hj with h | h
              · exact hd j h
              · simp at h; omega
            have hl2 := nodup_len hn2 hd2
            rw [List.length_append, List.length_singleton] at hl2
            exact ⟨by omega, d ++ [i], ⟨⟨hn2, hd2⟩, by simp; omega⟩, by simp, ⟨rfl, by simp [i1]⟩, hin_tE _ _⟩
          · have hsr := srt_perm (keys_perm hn hd hall)
            have hml : d.length = (d.map fun i => (T.getD i (0, ())).1).length := by simp
            have hcomp : List.map (i1 ∘ fun i => (T.getD i (0, ())).1) d = (d.map fun i => (T.getD i (0, ())).1).map i1 := by simp
            rw [hcomp]
            generalize (d.map fun i => (T.getD i (0, ())).1) = L at hsr hml ⊢
            rw [hml]
            refine call (sort_den L (by omega)) [99] ?_
            simp only [go_sem, srt_len]
            rw [hsr]
            refine ⟨Nat.le_refl _, rfl, ?_⟩
            have := congrArg List.length hsr
            rw [srt_len, srt_len, List.length_map] at this
            exact this
      · simp only [go_sem]
      · simp only [go_sem]
end Go.Proofs.Am
