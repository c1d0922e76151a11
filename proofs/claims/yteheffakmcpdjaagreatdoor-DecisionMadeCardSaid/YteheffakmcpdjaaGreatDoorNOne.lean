/- slices.insertionSortCmpFunc of statements. -/
import Derived.Test.YteheffakmcpdjaaGreatDoorEFour
import Derived.Test.YteheffakmcpdjaaGreatDoorGOne
import Derived.Test.YteheffakmcpdjaaGreatDoorEThree
import Derived.Test.YteheffakmcpdjaaGreatDoorHThree
set_option linter.unusedSimpArgs false
set_option linter.unusedVariables false
namespace Go.Proofs.Am
open Go Go.RowKit
open Go.Proofs

set_option maxHeartbeats 1000000 in
set_option maxRecDepth 100000 in
theorem cmpS_den (a b : Stm) : Den Tryz.prog 92 [.agg (sm a), .agg (sm b)] [] (.int .i64 (cmpS a b)) [] [] := by
  refine den_of Tryz.mixed Tryz.func92 rfl Tryz.call92 Tryz.ntmps92 (congrArg Array.toList Tryz.results92) (by simp) (by kernel_rfl) [] (exts := []) rfl rfl ?_
  simp only [go_sem]
  refine call (cmpI_den a.au b.au) [] ?_
  simp only [go_sem]
  refine call (cmpI_den a.nu b.nu) [] ?_
  simp only [go_sem]
  refine call (strCmp_den a.sd b.sd) [] ?_
  simp only [go_sem]
  refine call (or_den [cmpI a.au b.au, cmpI a.nu b.nu, Lib.compareBytes a.sd b.sd] (by simp [big])) [] ?_
  simp only [go_sem]
  refine ⟨okD_of (by kernel_rfl), ?_⟩
  simp only [orL, cmpS, or2]
  repeat' split
  all_goals simp_all

set_option maxHeartbeats 1000000 in
set_option maxRecDepth 100000 in
theorem insS_den (P S Q : List Stm) (n a b : Nat) (hn : n = (P ++ S ++ Q).length) (ha : a = P.length) (hab : b = P.length + S.length) (hl : big n) :
    Den Tryz.prog 180 [.os 1000000 n, .int .i64 a, .int .i64 b, .fn 92 []] [.arr 44 13 false ((P ++ S ++ Q).map sm)] (.tup []) [] [.arr 44 13 false ((P ++ insL ltS S ++ Q).map sm)] := by
  refine den_of Tryz.mixed Tryz.func180 rfl Tryz.call180 Tryz.ntmps180 (congrArg Array.toList Tryz.results180) (by simp) (by kernel_rfl) [] (exts := [1000000]) rfl rfl ?_
  have hn' : n = P.length + S.length + Q.length := by rw [hn]; simp; omega
  have h1 : insL ltS (S.take 1) ++ S.drop 1 = S := by cases S <;> simp [insL, insB]
  have h2 : IntKind.i64.wrap ((a : Int) + 1) = ((a + 1 : Nat) : Int) := by rw [wrapI] <;> omega
  simp only [go_sem]
  refine loop Tryz.mixed 1 (fun k : Nat => [(0, .os 1000000 n), (1, .int .i64 a), (2, .int .i64 b), (3, .fn 92 []), (8, .int .i64 ((a + k : Nat) : Int))]) (fun k => [(1000000, .arr 44 13 false ((P ++ (insL ltS (S.take k) ++ S.drop k) ++ Q).map sm))]) (fun k => 1 ≤ k ∧ (k ≤ 1 ∨ k ≤ S.length)) (fun k => S.length + 1 - k) (by kernel_rfl) ⟨Nat.le_refl _, .inl (Nat.le_refl _)⟩ ?_ ?_
  · simp only [go_sem, h1, h2]
  · rintro k ⟨hk0, hk⟩
    by_cases hlt : k < S.length
    rotate_left
    · have g1 : ¬ ((a + k : Nat) : Int) < (b : Int) := by omega
      have e1 : insL ltS (S.take k) ++ S.drop k = insL ltS S := by
        rw [List.take_of_length_le (by omega), List.drop_of_length_le (by omega), List.append_nil]
      simp only [go_sem, g1, e1]
    · have g1 : ((a + k : Nat) : Int) < (b : Int) := by omega
      obtain ⟨et, ed⟩ := tk_el hlt
      have hT := insL_rea woS (S.take k)
      have hTl := insL_len woS (S.take k)
      rw [List.length_take, Nat.min_eq_left (by omega)] at hTl
      have en := insL_snoc ltS (S.take k) (el S k)
      rw [← et] at en
      rw [ed]
      generalize hxx : el S k = x at *
      generalize hTT : insL ltS (S.take k) = T at *
      simp only [go_sem, g1]
      refine loop Tryz.mixed k (fun j : Nat => [(0, .os 1000000 n), (1, .int .i64 a), (2, .int .i64 b), (3, .fn 92 []), (8, .int .i64 ((a + k : Nat) : Int)), (9, .int .i64 ((a + j : Nat) : Int))]) (fun j => [(1000000, .arr 44 13 false ((P ++ (T.take j ++ x :: T.drop j) ++ (S.drop (k + 1) ++ Q)).map sm))]) (fun j => j ≤ k ∧ ∀ s ∈ T.drop j, ltS x s = true) (fun j => j) (by kernel_rfl) ⟨Nat.le_refl _, by rw [← hTl]; simp⟩ ?_ ?_
      · have e2 : P ++ (T.take k ++ x :: T.drop k) ++ (S.drop (k + 1) ++ Q) = P ++ (T ++ x :: S.drop (k + 1)) ++ Q := by rw [← hTl]; simp
        simp only [go_sem, e2]
      · rintro j ⟨hj, hjs⟩
        have hex : ∀ (h : ∀ s ∈ T.take j, ltS x s = false), P ++ (T.take j ++ x :: T.drop j) ++ (S.drop (k + 1) ++ Q) = P ++ (insL ltS (S.take (k + 1)) ++ S.drop (k + 1)) ++ Q := fun h => by
          have := insB_at ltS x (T.drop j) hjs (T.take j) h
          rw [List.take_append_drop] at this
          rw [en, this]
          simp
        have hWl : (P ++ (T.take j ++ x :: T.drop j) ++ (S.drop (k + 1) ++ Q)).length = n := by
          rw [hn']; simp; omega
        have g3 : IntKind.i64.wrap (((a + k : Nat) : Int) + 1) = ((a + (k + 1) : Nat) : Int) := by rw [wrapI] <;> omega
        by_cases hj0 : j = 0
        · subst hj0
          have e3 := hex (by simp)
          generalize P ++ (T.take 0 ++ x :: T.drop 0) ++ (S.drop (k + 1) ++ Q) = W at *
          simp only [go_sem, g3, Nat.lt_irrefl, Int.lt_irrefl]
          refine ⟨okD_of (by kernel_rfl), k + 1, ⟨⟨by omega, .inr (by omega)⟩, by omega⟩, ?_⟩
          rw [e3]
          exact ⟨rfl, rfl⟩
        · obtain ⟨i, rfl⟩ : ∃ i, j = i + 1 := ⟨j - 1, by omega⟩
          have g2 : ((a + (i + 1) : Nat) : Int) > (a : Int) := by omega
          have g4 : IntKind.i64.wrap (((a + (i + 1) : Nat) : Int) - 1) = ((a + i : Nat) : Int) := by rw [wrapI] <;> omega
          have hi : i < T.length := by omega
          obtain ⟨t1, t2⟩ := tk_el hi
          have hfr : ltS x (el T i) = false → ∀ s ∈ T.take (i + 1), ltS x s = false := fun h s hs => by
            have h5 : Srt ltS (T.take i ++ [el T i]) := by
              rw [← t1]
              exact List.Pairwise.take hT.2
            rw [t1] at hs
            exact srt_front woS h5 h s hs
          generalize hyy : el T i = y at *
          have hW : P ++ (T.take (i + 1) ++ x :: T.drop (i + 1)) ++ (S.drop (k + 1) ++ Q) = (P ++ T.take i) ++ y :: ([] ++ x :: (T.drop (i + 1) ++ (S.drop (k + 1) ++ Q))) := by rw [t1]; simp
          have hsw := swp_at' (P := P ++ T.take i) (M := []) (Q := T.drop (i + 1) ++ (S.drop (k + 1) ++ Q)) (x := y) (y := x) (i := a + i) (j := a + (i + 1)) (by simp; omega) (by simp; omega)
          have w1 : el (P ++ (T.take (i + 1) ++ x :: T.drop (i + 1)) ++ (S.drop (k + 1) ++ Q)) (a + (i + 1)) = x := by
            rw [t1, show P ++ (T.take i ++ [y] ++ x :: T.drop (i + 1)) ++ (S.drop (k + 1) ++ Q) = (P ++ T.take i ++ [y]) ++ x :: (T.drop (i + 1) ++ (S.drop (k + 1) ++ Q)) by simp]
            exact el_at (by simp; omega)
          have w2 : el (P ++ (T.take (i + 1) ++ x :: T.drop (i + 1)) ++ (S.drop (k + 1) ++ Q)) (a + i) = y := by
            rw [hW]; exact el_at (by simp; omega)
          rw [← hW] at hsw
          generalize P ++ (T.take (i + 1) ++ x :: T.drop (i + 1)) ++ (S.drop (k + 1) ++ Q) = W at *
          have l1 : a + (i + 1) < W.length := by omega
          have l2 : a + i < W.length := by omega
          have n1 : a + (i + 1) < n := by omega
          have n2 : a + i < n := by omega
          have cq := cmpS_den x y
          have hq : ltS x y = decide (cmpS x y < 0) := rfl
          generalize cmpS x y = c at *
          simp only [go_sem, g2, g4, l1, l2, n1, n2, w1, w2, hWl]
          refine call cq [] ?_
          by_cases hc : c < 0
          · rw [decide_eq_true hc] at hq
            have q1 : (W.map sm).set (a + (i + 1)) [PV.int IntKind.i64 y.au, PV.int IntKind.i64 y.nu, PV.str y.prev, PV.int IntKind.i64 y.ti, PV.int IntKind.i64 y.kd, PV.int IntKind.i64 y.a, PV.int IntKind.i64 y.b, PV.int IntKind.i64 y.c, PV.vs (List.map Am.i1 y.li), PV.vs (List.map pn y.pins), PV.str y.body, PV.int IntKind.i64 y.sk, PV.str y.sd] = (W.set (a + (i + 1)) y).map sm := by rw [List.map_set]; rfl
            have q2 : ((W.set (a + (i + 1)) y).map sm).set (a + i) [PV.int IntKind.i64 x.au, PV.int IntKind.i64 x.nu, PV.str x.prev, PV.int IntKind.i64 x.ti, PV.int IntKind.i64 x.kd, PV.int IntKind.i64 x.a, PV.int IntKind.i64 x.b, PV.int IntKind.i64 x.c, PV.vs (List.map Am.i1 x.li), PV.vs (List.map pn x.pins), PV.str x.body, PV.int IntKind.i64 x.sk, PV.str x.sd] = (swp W (a + (i + 1)) (a + i)).map sm := by unfold swp; rw [w1, w2, List.map_set (l := W.set _ _)]; rfl
            have q3 : (W.set (a + (i + 1)) y).length = n := by rw [List.length_set, hWl]
            have q4 : a + i < (W.set (a + (i + 1)) y).length := by rw [q3]; exact n2
            simp only [go_sem, hc, g2, g4, l1, l2, n1, n2, w1, w2, hWl, q1, q2, q3, q4]
            refine ⟨okD_of (by kernel_rfl), okD_of (by kernel_rfl), i, ⟨⟨by omega, ?_⟩, by omega⟩, ?_⟩
            · rw [t2]
              intro s hs
              rcases List.mem_cons.1 hs with rfl | hs
              · exact hq
              · exact hjs s hs
            · rw [hsw, t2]
              simp
          · rw [decide_eq_false hc] at hq
            have e3 := hex (hfr hq)
            simp only [go_sem, hc, g3]
            refine ⟨okD_of (by kernel_rfl), k + 1, ⟨⟨by omega, .inr (by omega)⟩, by omega⟩, ?_⟩
            rw [e3]
            exact ⟨rfl, rfl⟩
end Go.Proofs.Am

/- slices.SortStableFunc of statements, where these are few. -/
namespace Go.Proofs.Am
open Go Go.RowKit
open Go.Proofs

set_option maxHeartbeats 1000000 in
set_option maxRecDepth 100000 in
theorem stable1_den (L : List Stm) (n : Nat) (hn : n = L.length) (hl : n < 20) :
    Den Tryz.prog 129 [.os 1000000 n, .int .i64 n, .fn 92 []] [.arr 44 13 false (L.map sm)] (.tup []) [] [.arr 44 13 false ((insL ltS L).map sm)] := by
  refine den_of Tryz.mixed Tryz.func129 rfl Tryz.call129 Tryz.ntmps129 (congrArg Array.toList Tryz.results129) (by simp) (by kernel_rfl) [] (exts := [1000000]) rfl rfl ?_
  have c1 := insS_den [] L [] n 0 n (by simp [hn]) rfl (by simp [hn]) (by simp only [big]; omega)
  simp only [List.nil_append, List.append_nil] at c1
  have g1 : ¬ (20 : Int) ≤ (n : Int) := by omega
  have g2 : ¬ (20 : Int) < (n : Int) := by omega
  simp only [go_sem]
  refine loop Tryz.mixed 0 (fun _ : Nat => [(0, .os 1000000 n), (1, .int .i64 n), (2, .fn 92 []), (6, .int .i64 20), (7, .int .i64 0), (8, .int .i64 20)]) (fun _ => [(1000000, .arr 44 13 false (L.map sm))]) (fun _ => True) (fun _ => 0) (by kernel_rfl) trivial ?_ ?_
  · simp only [go_sem]
  · intro _ _
    simp only [go_sem, g1]
    have hil := insL_len woS L
    refine call c1 [1000000] ?_
    simp only [go_sem]
    refine ⟨by omega, ?_⟩
    refine loop Tryz.mixed 0 (fun _ : Nat => [(0, .os 1000000 n), (1, .int .i64 n), (2, .fn 92 []), (6, .int .i64 20)]) (fun _ => [(1000000, .arr 44 13 false ((insL ltS L).map sm))]) (fun _ => True) (fun _ => 0) (by kernel_rfl) trivial ?_ ?_
    · simp only [go_sem]
    · intro _ _
      simp only [go_sem, g2]
set_option maxHeartbeats 1000000 in
set_option maxRecDepth 100000 in
theorem sortS1_den (L : List Stm) (n : Nat) (hn : n = L.length) (hl : n < 20) :
    Den Tryz.prog 91 [.os 1000000 n, .fn 92 []] [.arr 44 13 false (L.map sm)] (.tup []) [] [.arr 44 13 false ((insL ltS L).map sm)] := by
  refine den_of Tryz.mixed Tryz.func91 rfl Tryz.call91 Tryz.ntmps91 (congrArg Array.toList Tryz.results91) (by simp) (by kernel_rfl) [] (exts := [1000000]) rfl rfl ?_
  simp only [go_sem]
  refine ⟨hn, ?_⟩
  have hil := insL_len woS L
  refine call (stable1_den L n hn hl) [1000000] ?_
  simp only [go_sem]
  omega
end Go.Proofs.Am

/- slices.CompactFunc of statements: the first of each author. -/
namespace Go.Proofs.Am
open Go Go.RowKit
open Go.Proofs

def sameA (a b : Stm) : Bool := decide (a.au = b.au)
def zS : List PV := [.int .i64 0, .int .i64 0, .str [], .int .i64 0, .int .i64 0, .int .i64 0, .int .i64 0, .int .i64 0, .vs [], .vs [], .str [], .int .i64 0, .str []]
theorem zS_eq : zS = [PV.int .i64 0, PV.int .i64 0, PV.str [], PV.int .i64 0, PV.int .i64 0, PV.int .i64 0, PV.int .i64 0, PV.int .i64 0, .nils, .nils, PV.str [], PV.int .i64 0, PV.str []].map purZ := (rfl)
set_option maxHeartbeats 1000000 in
set_option maxRecDepth 100000 in
theorem eqA_den (a b : Stm) : Den Tryz.prog 95 [.agg (sm a), .agg (sm b)] [] (.bool (sameA a b)) [] [] := by
  refine den_of Tryz.mixed Tryz.func95 rfl Tryz.call95 Tryz.ntmps95 (congrArg Array.toList Tryz.results95) (by simp) (by kernel_rfl) [] (exts := []) rfl rfl ?_
  simp only [go_sem]
  rfl
set_option maxHeartbeats 1000000 in
set_option maxRecDepth 100000 in
/-- slices.CompactFunc where no element equals the one ahead of it. -/
theorem compactS_den (l : List Stm) (hl : big l.length) (hd : ∀ i, 0 < i → i < l.length → sameA (el l i) (el l (i - 1)) = false) :
    Den Tryz.prog 94 [.os 1000000 l.length, .fn 95 []] [.arr 44 13 false (l.map sm)] (.os 1000000 l.length) [] [.arr 44 13 false (l.map sm)] := by
  refine den_of Tryz.mixed Tryz.func94 rfl Tryz.call94 Tryz.ntmps94 (congrArg Array.toList Tryz.results94) (by simp) (by kernel_rfl) [] (exts := [1000000]) rfl rfl ?_
  by_cases h2 : (l.length : Int) < 2
  · simp only [go_sem, h2]
  simp only [go_sem, h2]
  refine loop Tryz.mixed 1 (fun i : Nat => [(0, .os 1000000 l.length), (1, .fn 95 []), (5, .int .i64 i)]) (fun _ => [(1000000, .arr 44 13 false (l.map sm))]) (fun i => 1 ≤ i ∧ i ≤ l.length) (fun i => l.length - i) (by kernel_rfl) ⟨Nat.le_refl _, by omega⟩ ?_ ?_
  · simp only [go_sem]
  · rintro i ⟨hi0, hi⟩
    by_cases hlt : i < l.length
    · have h1 : (i : Int) < (l.length : Int) := by omega
      obtain ⟨j, rfl⟩ : ∃ j, i = j + 1 := ⟨i - 1, by omega⟩
      have hw : IntKind.i64.wrap (((j + 1 : Nat) : Int) - 1) = (j : Int) := by rw [wrapI] <;> omega
      have hj : j < l.length := by omega
      simp only [go_sem, h1, hlt, hw, hj]
      have hne := hd (j + 1) (by omega) hlt
      rw [Nat.add_sub_cancel] at hne
      refine call (eqA_den (el l (j + 1)) (el l j)) [] ?_
      simp only [go_sem, hne]
      refine ⟨okD_of (by kernel_rfl), j + 1 + 1, ⟨⟨by omega, by omega⟩, by omega⟩, ?_⟩
      rw [wrapI] <;> omega
    · have h1 : ¬ (i : Int) < (l.length : Int) := by omega
      simp only [go_sem, h1]


set_option maxHeartbeats 1000000 in
set_option maxRecDepth 100000 in
theorem compactS2_den (l : List Stm) (hl : big l.length) {k0 : Nat} (h1 : 0 < k0) (h2 : k0 < l.length) (h3 : sameA (el l k0) (el l (k0 - 1)) = true) (h4 : ∀ j, 0 < j → j < k0 → sameA (el l j) (el l (j - 1)) = false) :
    Den Tryz.prog 94 [.os 1000000 l.length, .fn 95 []] [.arr 44 13 false (l.map sm)] (.vs ((kp sameA l l.length).map sm)) [] [.arr 44 13 true ((kp sameA l l.length).map sm ++ List.replicate (l.length - (kp sameA l l.length).length) zS)] := by
  refine den_of Tryz.mixed Tryz.func94 rfl Tryz.call94 Tryz.ntmps94 (congrArg Array.toList Tryz.results94) (by simp) (by kernel_rfl) [] (exts := [1000000]) rfl rfl ?_
  have hlen : ¬ (l.length : Int) < 2 := by omega
  simp only [go_sem, hlen]
  refine loopC Tryz.mixed 1 (fun i : Nat => [(0, .os 1000000 l.length), (1, .fn 95 []), (5, .int .i64 i)]) (fun _ => [(1000000, .arh 44 13 (l.map sm))]) (fun i => 1 ≤ i ∧ i ≤ k0) (fun i => k0 - i) (by kernel_rfl) ⟨Nat.le_refl _, by omega⟩ ?_ ?_
  · refine Cv.trans (Cv.opn (n := 1000000) (by rfl)) (Cv.wk ?_)
    have hin := hinLL_map [1000000] sm (fun _ => rfl) l
    simp only [go_sem, hin]
  · rintro i ⟨hi0, hi⟩
    have hlt : i < l.length := by omega
    have g1 : (i : Int) < (l.length : Int) := by omega
    obtain ⟨j, rfl⟩ : ∃ j, i = j + 1 := ⟨i - 1, by omega⟩
    have hw : IntKind.i64.wrap (((j + 1 : Nat) : Int) - 1) = (j : Int) := by rw [wrapI] <;> omega
    have hj : j < l.length := by omega
    have cq := eqA_den (el l (j + 1)) (el l j)
    by_cases hk : j + 1 < k0
    · have hne := h4 (j + 1) (by omega) hk
      rw [Nat.add_sub_cancel] at hne
      rw [hne] at cq
      simp only [go_sem, g1, hlt, hw, hj]
      refine call cq [] ?_
      simp only [go_sem]
      refine ⟨okD_of (by kernel_rfl), j + 1 + 1, ⟨⟨by omega, by omega⟩, by omega⟩, Cv.wk ?_⟩
      have hin := hinLL_map [1000000] sm (fun _ => rfl) l
      simp only [go_sem, hin]
      rw [wrapI] <;> omega
    · obtain rfl : k0 = j + 1 := by omega
      rw [Nat.add_sub_cancel] at h3
      rw [h3] at cq
      simp only [go_sem, g1, hlt, hw, hj]
      refine call cq [] ?_
      simp only [go_sem, g1, hlt, hw, hj]
      refine ⟨okD_of (by kernel_rfl), ?_⟩
      have kf : kp sameA l (j + 1 + 1) = l.take (j + 1) := by
        have := kp_take sameA l (j + 1) (by omega) h4
        rw [kp, if_neg (fun h => by rcases h with h | h; omega; rw [Nat.add_sub_cancel, h3] at h; cases h), this, List.append_nil]
      refine loopC Tryz.mixed (0, l) (fun s : Nat × List Stm => [(0, .os 1000000 l.length), (1, .fn 95 []), (5, .int .i64 (kp sameA l (j + 1 + (s.1 + 1))).length), (6, .osl 1000000 l.length (j + 1)), (7, .int .i64 ((s.1 + 1 : Nat) : Int))]) (fun s => [(1000000, .arh 44 13 (s.2.map sm))])
        (fun s => j + 1 + (s.1 + 1) ≤ l.length ∧ s.2.length = l.length ∧ (kp sameA l (j + 1 + (s.1 + 1))).length < j + 1 + (s.1 + 1) ∧ s.2.take (kp sameA l (j + 1 + (s.1 + 1))).length = kp sameA l (j + 1 + (s.1 + 1)) ∧ ∀ a, (kp sameA l (j + 1 + (s.1 + 1))).length ≤ a → el s.2 a = el l a) (fun s => l.length - s.1) (by kernel_rfl) ?_ ?_ ?_
      · have hlt' : (l.take (j + 1)).length = j + 1 := by simp; omega
        refine ⟨by simp only; omega, rfl, ?_, ?_, fun a _ => rfl⟩
        · show (kp sameA l (j + 1 + 1)).length < j + 1 + 1
          rw [kf, hlt']; omega
        · show l.take (kp sameA l (j + 1 + 1)).length = kp sameA l (j + 1 + 1)
          rw [kf, hlt']
      · refine Cv.wk ?_
        have hlt' : (l.take (j + 1)).length = j + 1 := by simp; omega
        have hin := hinLL_map [1000000] sm (fun _ => rfl) l
        simp only [go_sem, hin, kf, hlt']
      · rintro ⟨n, L⟩ ⟨i1, i2, i3, i4, i5⟩
        simp only at i1 i2 i3 i4 i5
        simp only
        have ks : kp sameA l (j + 1 + (n + 1) + 1) = kp sameA l (j + 1 + (n + 1)) ++ if sameA (el l (j + 1 + (n + 1))) (el l (j + 1 + n)) = false then [el l (j + 1 + (n + 1))] else [] := by
          rw [kp]
          have h0 : ¬ j + 1 + (n + 1) = 0 := by omega
          simp only [h0, false_or]
          rfl
        have k0p : 0 < (kp sameA l (j + 1 + (n + 1))).length := kp_pos _ _ (by omega)
        generalize hO : kp sameA l (j + 1 + (n + 1)) = o at *
        by_cases hm : j + 1 + (n + 1) < l.length
        · have g2 : ((n + 1 : Nat) : Int) < ((l.length - (j + 1) : Nat) : Int) := by omega
          have g3 : ((j + 1 : Nat) : Int) + ((n + 1 : Nat) : Int) < (l.length : Int) := by omega
          have g4 : ((j + 1 : Nat) : Int) + (n : Int) < (l.length : Int) := by omega
          have g5 : IntKind.i64.wrap (((n + 1 : Nat) : Int) - 1) = (n : Int) := by rw [wrapI] <;> omega
          have g6 : j + 1 + (n + 1) < L.length := by omega
          have g7 : j + 1 + n < L.length := by omega
          have e1 : el L (j + 1 + (n + 1)) = el l (j + 1 + (n + 1)) := i5 _ (by omega)
          have e2 : el L (j + 1 + n) = el l (j + 1 + n) := i5 _ (by omega)
          have ks' : kp sameA l (j + 1 + ((n + 1) + 1)) = o ++ if sameA (el l (j + 1 + (n + 1))) (el l (j + 1 + n)) = false then [el l (j + 1 + (n + 1))] else [] := ks
          have cq2 := eqA_den (el l (j + 1 + (n + 1))) (el l (j + 1 + n))
          have hm2 : j + 1 + n < l.length := by omega
          cases hsame : sameA (el l (j + 1 + (n + 1))) (el l (j + 1 + n)) with
          | true =>
            rw [hsame, if_neg (by simp), List.append_nil] at ks'
            rw [hsame] at cq2
            simp only [go_sem, g2, g3, g4, g5, g6, g7, i2, e1, e2, hm, hm2]
            refine call cq2 [] ?_
            simp only [go_sem, g2, g3, g4, g5, g6, g7, i2, e1, e2, hm, hm2]
            refine ⟨okD_of (by kernel_rfl), (n + 1, L), ⟨⟨by simp only; omega, i2, ?_, ?_, fun a ha => i5 a ?_⟩, by simp only; omega⟩, Cv.wk ?_⟩
            · show (kp sameA l (j + 1 + ((n + 1) + 1))).length < _
              rw [ks']; simp only; omega
            · show L.take (kp sameA l (j + 1 + ((n + 1) + 1))).length = _
              rw [ks']; exact i4
            · have ha' : (kp sameA l (j + 1 + ((n + 1) + 1))).length ≤ a := ha
              rwa [ks'] at ha'
            · have hin := hinLL_map [1000000] sm (fun _ => rfl) L
              simp only [go_sem, ks', hin]
              rw [wrapI] <;> omega
          | false =>
            rw [hsame, if_pos rfl] at ks'
            rw [hsame] at cq2
            have g8 : o.length < l.length := by omega
            simp only [go_sem, g2, g3, g4, g5, g6, g7, g8, i2, e1, e2, hm, hm2]
            refine call cq2 [] ?_
            simp only [go_sem, g2, g3, g4, g5, g6, g7, g8, i2, e1, e2, hm, hm2]
            refine ⟨okD_of (by kernel_rfl), (n + 1, L.set o.length (el l (j + 1 + (n + 1)))), ⟨⟨by simp only; omega, by simp only [List.length_set]; exact i2, ?_, ?_, fun a ha => ?_⟩, by simp only; omega⟩, Cv.wk ?_⟩
            · show (kp sameA l (j + 1 + ((n + 1) + 1))).length < _
              rw [ks', List.length_append, List.length_singleton]; simp only; omega
            · show (L.set o.length (el l (j + 1 + (n + 1)))).take (kp sameA l (j + 1 + ((n + 1) + 1))).length = kp sameA l (j + 1 + ((n + 1) + 1))
              rw [ks']; exact set_take (by omega) i4
            · have ha' : (kp sameA l (j + 1 + ((n + 1) + 1))).length ≤ a := ha
              rw [ks', List.length_append, List.length_singleton] at ha'
              show el (L.set o.length _) a = _
              rw [set_el (by omega)]
              exact i5 a (by omega)
            · have hin := hinLL_map [1000000] sm (fun _ => rfl) (L.set o.length (el l (j + 1 + (n + 1))))
              have hset : (L.map sm).set o.length [PV.int IntKind.i64 (el l (j + 1 + (n + 1))).au, PV.int IntKind.i64 (el l (j + 1 + (n + 1))).nu, PV.str (el l (j + 1 + (n + 1))).prev, PV.int IntKind.i64 (el l (j + 1 + (n + 1))).ti, PV.int IntKind.i64 (el l (j + 1 + (n + 1))).kd, PV.int IntKind.i64 (el l (j + 1 + (n + 1))).a, PV.int IntKind.i64 (el l (j + 1 + (n + 1))).b, PV.int IntKind.i64 (el l (j + 1 + (n + 1))).c, PV.vs (List.map Am.i1 (el l (j + 1 + (n + 1))).li), PV.vs (List.map pn (el l (j + 1 + (n + 1))).pins), PV.str (el l (j + 1 + (n + 1))).body, PV.int IntKind.i64 (el l (j + 1 + (n + 1))).sk, PV.str (el l (j + 1 + (n + 1))).sd] = (L.set o.length (el l (j + 1 + (n + 1)))).map sm := by rw [List.map_set]; rfl
              have hol : (o ++ [el l (j + 1 + (n + 1))]).length = o.length + 1 := by simp
              simp only [go_sem, ks', hset, hin, hol]
              exact ⟨by rw [wrapI] <;> omega, by rw [wrapI] <;> omega⟩
        · have hend : j + 1 + (n + 1) = l.length := by omega
          have g2 : ¬ ((n + 1 : Nat) : Int) < ((l.length - (j + 1) : Nat) : Int) := by omega
          have g3 : (o.length : Int) < (l.length : Int) := by omega
          rw [hend] at hO
          rw [hO]
          have htk : (L.map sm).take o.length = o.map sm := by rw [← List.map_take, i4]
          have hpu : ∀ σ, purLL σ (o.map sm ++ List.replicate (l.length - o.length) zS) = some (o.map sm ++ List.replicate (l.length - o.length) zS, []) := fun σ => purLL_of fun x hx => by
            rcases List.mem_append.1 hx with hx | hx
            · obtain ⟨c, _, rfl⟩ := List.mem_map.1 hx
              rfl
            · rw [List.eq_of_mem_replicate hx]
              rfl
          have g4 : (o.length : Int) ≤ (l.length : Int) := by omega
          have g5 : (o.map sm ++ List.replicate (l.length - o.length) zS).length = l.length := by simp; omega
          have g6 : (o.map sm ++ List.replicate (l.length - o.length) zS).take o.length = o.map sm := by simp
          simp only [go_sem, g2, g3, i2, htk]
          refine cvQ_exit _ _ ?_
          have g7 : o.length < l.length := by omega
          simp only [go_sem, g2, g3, i2, htk, g7, ← zS_eq, hpu, g4, g5, g6]
          refine cvQ_ret _ ?_
          simp only [go_sem]


/-- slices.CompactFunc of votes. -/
theorem compactSG_den (l : List Stm) (hl : big l.length) :
    ∃ new, new.length = l.length ∧ Den Tryz.prog 94 [.os 1000000 l.length, .fn 95 []] [.arr 44 13 false (l.map sm)] (.vs ((kp sameA l l.length).map sm)) [] [.arr 44 13 true new] := by
  rcases kp_first sameA l l.length (Nat.le_refl _) with h | ⟨k0, h1, h2, h3, h4⟩
  · rw [kp_full _ _ h]
    exact ⟨_, by simp, (compactS_den l hl h).vsE (by simp)⟩
  · exact ⟨_, by have := kp_len sameA l l.length; simp; omega, compactS2_den l hl h1 h2 h3 h4⟩


end Go.Proofs.Am

/- Certificates of what was decided. -/
namespace Go.Proofs.Am
open Go Go.RowKit
open Go.Proofs

def forI (l : List Stm) (c : Cs) (x : Ct) (seats : List Int) (i : Nat) : List Stm := (l.take i).filter (forX c x seats)
theorem forI_succ {l : List Stm} {c : Cs} {x : Ct} {seats : List Int} {i : Nat} (h : i < l.length) : forI l c x seats (i + 1) = forI l c x seats i ++ if forX c x seats (el l i) = true then [el l i] else [] := by
  simp only [forI, take_el h, List.filter_append, List.filter_cons, List.filter_nil]
theorem forI_len (l : List Stm) (c : Cs) (x : Ct) (seats : List Int) (i : Nat) : (forI l c x seats i).length ≤ l.length := by
  refine Nat.le_trans (List.length_filter_le _ _) ?_
  rw [List.length_take]; omega
theorem forX_of {c : Cs} {x : Ct} {seats : List Int} {s : Stm} : forX c x seats s = (decide ((ofE s).2 = 0) && (decide (s.sk = s.au ∧ s.sd = dig s) && (sameC (ofE s).1.c c && (decide ((ofE s).1.x = x) && decide (s.au ∈ seats))))) := by
  unfold forX
  rw [okV_of, Bool.and_assoc, Bool.and_assoc, Bool.and_assoc]
  rfl
theorem ordC_dec (a b : Ct) : decide (ordC a b = 0) = decide (a = b) := by
  rw [Bool.eq_iff_iff, decide_eq_true_eq, decide_eq_true_eq]
  exact ordC_eq a b
set_option maxHeartbeats 1000000 in
set_option maxRecDepth 100000 in
theorem certs_den (l : List Stm) (c : Cs) (x : Ct) (seats : List Int) (hl : l.length ≤ 900) (hs : ∀ s ∈ l, bigS s) (hb : big seats.length) (hx : bigC x)
    (hS : Den Tryz.prog 91 [.os 1000000 (l.filter (forX c x seats)).length, .fn 92 []] [.arr 44 13 false ((l.filter (forX c x seats)).map sm)] (.tup []) [] [.arr 44 13 false ((insL ltS (l.filter (forX c x seats))).map sm)]) :
    Den Tryz.prog 55 [.vs (l.map sm), .agg (cs c), .agg (ct x), .vs (seats.map i1)] [] (.vs ((certL l c x seats).map sm)) [] [] := by
  refine den_of Tryz.mixed Tryz.func55 rfl Tryz.call55 Tryz.ntmps55 (congrArg Array.toList Tryz.results55) (by simp) (by kernel_rfl) [] (exts := []) rfl rfl ?_
  simp only [go_sem, cs_eq, ct_eq]
  refine promote 9 110 44 13 false ?_ ?_ ?_ (by omega)
  · refine loop Tryz.mixed 0 (fun i : Nat => [(3, .vs (seats.map i1)), (5, .ptr 5 0), (6, .ptr 6 0), (9, .os 110 (forI l c x seats i).length), (14, .vs (l.map sm)), (15, .int .i64 l.length), (16, .int .i64 i)]) (fun i => [(5, .cells [.int .i64 c.ep, .int .i64 c.kd, .int .i64 c.su, .int .i64 c.ro]), (6, .cells [.vs (x.li.map i1), .vs (x.pi.map pn)]), (110, .arr 44 13 false ((forI l c x seats i).map sm))]) (fun i => i ≤ l.length) (fun i => l.length - i) (by kernel_rfl) (Nat.zero_le _) ?_ ?_
    · simp only [go_sem]
      simp [forI]
    · intro i hi
      by_cases hlt : i < l.length
      · have h1 : (i : Int) < (l.length : Int) := by omega
        have hsu := forI_succ (c := c) (x := x) (seats := seats) hlt
        have hln := forI_len l c x seats i
        have cv := cof_den (el l i) (hs _ (el_mem hlt))
        have cs' := fun h => sealed_den (el l i) (okS_ofE h)
        have ch := contains_den seats (el l i).au hb
        have hby : bigC (ofE (el l i)).1.x := okCt_big (voteE_ok (s := el l i))
        have co := orderC_den (ofE (el l i)).1.x x hby.1 hby.2 hx.1 hx.2
        have hq := forX_of (c := c) (x := x) (seats := seats) (s := el l i)
        rw [← ordC_dec] at hq
        rw [sm_eq] at cv cs'
        generalize forI l c x seats i = o at *
        generalize ofE (el l i) = ve at *
        obtain ⟨w, e⟩ := ve
        simp only at hq hby co cv cs'
        generalize hb2 : decide ((el l i).sk = (el l i).au ∧ (el l i).sd = dig (el l i)) = b2 at *
        generalize hb4 : decide ((el l i).au ∈ seats) = b4 at *
        have skip : forX c x seats (el l i) = false → forI l c x seats (i + 1) = o := fun h => by rw [hsu, h, if_neg (by simp), List.append_nil]
        simp only [go_sem, h1, hlt]
        refine call cv [] ?_
        by_cases z1 : e = 0
        rotate_left
        · rw [decide_eq_false z1, Bool.false_and] at hq
          simp only [go_sem, z1]
          refine ⟨i + 1, ⟨by omega, by omega⟩, ?_⟩
          rw [skip hq]
          exact ⟨⟨rfl, by rw [wrapI] <;> omega⟩, rfl⟩
        subst z1
        simp only [go_sem]
        refine call (cs' rfl) [] ?_
        cases b2
        · have hq : forX c x seats (el l i) = false := hq
          simp only [go_sem]
          refine ⟨i + 1, ⟨by omega, by omega⟩, ?_⟩
          rw [skip hq]
          exact ⟨⟨rfl, by rw [wrapI] <;> omega⟩, rfl⟩
        cases hsc : sameC w.c c
        · rw [hsc] at hq
          have hq : forX c x seats (el l i) = false := hq
          simp only [go_sem, dec_cs, hsc]
          refine ⟨i + 1, ⟨by omega, by omega⟩, ?_⟩
          rw [skip hq]
          exact ⟨⟨rfl, by rw [wrapI] <;> omega⟩, rfl⟩
        rw [hsc] at hq
        simp only [go_sem, dec_cs, hsc]
        refine call co [] ?_
        by_cases z : ordC w.x x = 0
        rotate_left
        · rw [decide_eq_false z] at hq
          have hq : forX c x seats (el l i) = false := hq
          simp only [go_sem, z]
          refine ⟨i + 1, ⟨by omega, by omega⟩, ?_⟩
          rw [skip hq]
          exact ⟨⟨rfl, by rw [wrapI] <;> omega⟩, rfl⟩
        rw [decide_eq_true z] at hq
        simp only [go_sem, z]
        refine call ch [] ?_
        cases b4
        · have hq : forX c x seats (el l i) = false := hq
          simp only [go_sem]
          refine ⟨i + 1, ⟨by omega, by omega⟩, ?_⟩
          rw [skip hq]
          exact ⟨⟨rfl, by rw [wrapI] <;> omega⟩, rfl⟩
        · have hq : forX c x seats (el l i) = true := hq
          rw [hq, if_pos rfl] at hsu
          simp only [go_sem]
          refine ⟨by omega, i + 1, ⟨by omega, by omega⟩, ?_⟩
          rw [hsu]
          exact ⟨⟨by simp, by rw [wrapI] <;> omega⟩, by simp [sm]⟩
      · have h1 : ¬ (i : Int) < (l.length : Int) := by omega
        have : i = l.length := by omega
        subst this
        have e1 : forI l c x seats l.length = l.filter (forX c x seats) := by rw [forI, List.take_length]
        have hln := forI_len l c x seats l.length
        have hcl : certL l c x seats = kp sameA (insL ltS (l.filter (forX c x seats))) (insL ltS (l.filter (forX c x seats))).length := rfl
        rw [hcl]
        clear hcl
        rw [e1] at hln
        have hil := insL_len woS (l.filter (forX c x seats))
        rw [e1]
        generalize l.filter (forX c x seats) = o at *
        obtain ⟨new, hnl, hcc⟩ := compactSG_den (insL ltS o) (by simp only [big]; omega)
        rw [hil] at hcc hnl
        rw [hil]
        simp only [go_sem, h1]
        refine call hS [110] ?_
        simp only [go_sem]
        refine ⟨by omega, ?_⟩
        refine call hcc [110] ?_
        simp only [go_sem]
        omega
  · simp only [go_sem]
  · simp only [go_sem]

/-- The certificate of a case. -/
def noCs : Cs := ⟨0, 0, 0, 0⟩
def certX (l : List Stm) (c : Cs) (seats : List Int) : Cs × List Stm × Int :=
  if ckS c seats ≠ 0 then (noCs, [], ckS c seats) else if (allV seats (votesL l c)).length = 1 then (c, certL l c (oneC (allV seats (votesL l c))) seats, 0) else (noCs, [], 11)
theorem oneC_big {seats : List Int} {l : List Stm} {c : Cs} : bigC (oneC (allV seats (votesL l c))) := by
  unfold oneC
  split
  · rename_i h
    have hm : el (allV seats (votesL l c)) 0 ∈ allV seats (votesL l c) := el_mem (by omega)
    obtain ⟨n, hn, e, he⟩ := mem_allV.1 hm
    have hk : n.ks ≠ [] := (cnR_spec seats (votesL l c)).r4 n hn
    obtain ⟨k, r, hk⟩ := List.exists_cons_of_ne_nil hk
    obtain ⟨_, y, hy, e2, _⟩ := ks_vote hn (k := k) (by rw [hk]; simp)
    rw [← e, ← e2]
    exact okCt_big (votes_okX y hy).1
  · exact ⟨by simp [noC, big], by simp [noC, big]⟩
theorem allV_lenX {seats : List Int} {l : List Stm} {c : Cs} : (allV seats (votesL l c)).length ≤ l.length := by
  have h1 := votes_len l c
  have h2 := (cnI_ok seats (fun y hy => (votes_okX (l := l) (c := c) y hy).1) _ (Nat.le_refl _)).1
  have h3 : (allV seats (votesL l c)).length ≤ (cnR seats (votesL l c)).length := by
    unfold allV
    rw [List.length_map]
    exact List.length_filter_le _ _
  have h4 : cnI seats (votesL l c) (votesL l c).length = cnR seats (votesL l c) := rfl
  rw [h4] at h2
  omega
set_option maxHeartbeats 1000000 in
set_option maxRecDepth 100000 in
theorem dcert_den (l : List Stm) (c : Cs) (seats : List Int) (hl : l.length ≤ 900) (hs : ∀ s ∈ l, bigS s) (hb : seats.length ≤ 1000000)
    (hS : ∀ x, bigC x → Den Tryz.prog 91 [.os 1000000 (l.filter (forX c x seats)).length, .fn 92 []] [.arr 44 13 false ((l.filter (forX c x seats)).map sm)] (.tup []) [] [.arr 44 13 false ((insL ltS (l.filter (forX c x seats))).map sm)]) :
    Den Tryz.prog 29 [.vs (l.map sm), .agg (cs c), .vs (seats.map i1)] [] (.tup [.agg (ce (certX l c seats).1 (certX l c seats).2.1), .int .i64 (certX l c seats).2.2]) [] [] := by
  refine den_of Tryz.mixed Tryz.func29 rfl Tryz.call29 Tryz.ntmps29 (congrArg Array.toList Tryz.results29) (by simp) (by kernel_rfl) [] (exts := []) rfl rfl ?_
  have c1 := dof_den l c seats hl hs hb _ rfl (by
    have := allV_lenX (seats := seats) (l := l) (c := c)
    split <;> simp only [big, List.length_nil] <;> omega)
  have hX : certX l c seats = if ckS c seats ≠ 0 then (noCs, [], ckS c seats) else if (allV seats (votesL l c)).length = 1 then (c, certL l c (oneC (allV seats (votesL l c))) seats, 0) else (noCs, [], 11) := rfl
  have c2 := certs_den l c (oneC (allV seats (votesL l c))) seats hl hs (by simp only [big]; omega) oneC_big (hS _ oneC_big)
  rw [cs_eq] at c1 c2
  generalize certX l c seats = r at *
  by_cases hz : ckS c seats = 0
  rotate_left
  · rw [if_pos hz] at hX
    subst hX
    rw [if_neg hz] at c1
    generalize ckS c seats = k at *
    simp only [go_sem, cs_eq]
    refine call c1 [] ?_
    simp only [go_sem, hz, ce_eq, noCs, List.map_nil]
  · rw [if_neg (by simp [hz])] at hX
    rw [if_pos hz, hz] at c1
    generalize allV seats (votesL l c) = A at *
    generalize oneC A = x at *
    generalize hcl : certL l c x seats = C at *
    by_cases h1 : A.length = 1
    · rw [if_pos h1] at hX
      subst hX
      rw [decide_eq_true h1] at c1
      simp only [go_sem, cs_eq]
      refine call c1 [] ?_
      rw [ct_eq] at c2
      simp only [go_sem, ce_eq]
      refine call c2 [] ?_
      simp only [go_sem, ce_eq]
      exact okD_of (by kernel_rfl)
    · rw [if_neg h1] at hX
      subst hX
      rw [decide_eq_false h1] at c1
      simp only [go_sem, cs_eq]
      refine call c1 [] ?_
      simp only [go_sem, ce_eq, noCs, List.map_nil]
end Go.Proofs.Am
