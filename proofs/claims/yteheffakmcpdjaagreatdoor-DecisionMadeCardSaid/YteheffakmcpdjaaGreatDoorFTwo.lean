/- Ranges of statements are exchanged, and turned. -/
import Derived.Test.YteheffakmcpdjaaGreatDoorNOne
set_option linter.unusedSimpArgs false
set_option linter.unusedVariables false
namespace Go.Proofs.Am
open Go Go.RowKit
open Go.Proofs

def cS : PV := .fn 92 []
set_option maxHeartbeats 1000000 in
set_option maxRecDepth 100000 in
theorem swapS_den (P X M Y Q : List Stm) (n a b c : Nat) (hn : n = (P ++ (X ++ (M ++ (Y ++ Q)))).length) (ha : a = P.length) (hb : b = a + X.length + M.length) (hc : X.length = c) (hc' : Y.length = c) (hl : big n) :
    Den Tryz.prog 215 [.os 1000000 n, .int .i64 a, .int .i64 b, .int .i64 c, .fn 92 []] [.arr 44 13 false ((P ++ (X ++ (M ++ (Y ++ Q)))).map sm)] (.tup []) [] [.arr 44 13 false ((P ++ (Y ++ (M ++ (X ++ Q)))).map sm)] := by
  refine den_of Tryz.mixed Tryz.func215 rfl Tryz.call215 Tryz.ntmps215 (congrArg Array.toList Tryz.results215) (by simp) (by kernel_rfl) [] (exts := [1000000]) rfl rfl ?_
  have hn' : n = P.length + X.length + M.length + Y.length + Q.length := by rw [hn]; simp; omega
  simp only [go_sem]
  refine loop Tryz.mixed 0 (fun k : Nat => [(0, .os 1000000 n), (1, .int .i64 a), (2, .int .i64 b), (3, .int .i64 c), (10, .int .i64 (k : Nat))]) (fun k => [(1000000, .arr 44 13 false ((swr P X M Y Q k).map sm))]) (fun k => k ≤ c) (fun k => c - k) (by kernel_rfl) (Nat.zero_le _) ?_ ?_
  · simp only [go_sem, swr_zero]
  · intro k hk
    by_cases hlt : k < c
    · have g1 : (k : Int) < (c : Int) := by omega
      have hlen := swr_len P X M Y Q k (hc.trans hc'.symm)
      obtain ⟨w1, w2, w3⟩ := swr_step P X M Y Q (k := k) (by omega) (hc.trans hc'.symm) ha hb
      generalize swr P X M Y Q k = W at *
      generalize hW' : swr P X M Y Q (k + 1) = W' at *
      generalize el X k = x at *
      generalize el Y k = y at *
      have g2 : IntKind.i64.wrap ((a : Int) + (k : Int)) = ((a + k : Nat) : Int) := by rw [wrapI] <;> omega
      have g3 : IntKind.i64.wrap ((b : Int) + (k : Int)) = ((b + k : Nat) : Int) := by rw [wrapI] <;> omega
      have g4 : IntKind.i64.wrap ((k : Int) + 1) = ((k + 1 : Nat) : Int) := by rw [wrapI] <;> omega
      have l1 : a + k < W.length := by omega
      have l2 : b + k < W.length := by omega
      have n1 : a + k < n := by omega
      have n2 : b + k < n := by omega
      have hWl : W.length = n := by omega
      have q1 : (W.map sm).set (a + k) (sm y) = (W.set (a + k) y).map sm := by rw [List.map_set]
      have q2 : ((W.set (a + k) y).map sm).set (b + k) (sm x) = W'.map sm := by rw [← w3, swp, w1, w2, List.map_set (l := W.set _ _)]
      have q3 : (W.set (a + k) y).length = n := by rw [List.length_set, hWl]
      have q4 : b + k < (W.set (a + k) y).length := by rw [q3]; exact n2
      rw [sm] at q1 q2
      simp only [go_sem, g1, g2, g3, g4, l1, l2, n1, n2, w1, w2, hWl, q1, q2, q3, q4]
      exact ⟨okD_of (by kernel_rfl), k + 1, ⟨by omega, by omega⟩, rfl, by rw [hW']⟩
    · have g1 : ¬ (k : Int) < (c : Int) := by omega
      obtain rfl : k = c := by omega
      have := swr_end P X M Y Q hc hc'
      simp only [go_sem, g1, this]

set_option maxHeartbeats 1000000 in
set_option maxRecDepth 100000 in
theorem rotS_den (P X Y Q : List Stm) (n a m b : Nat) (hn : n = (P ++ (X ++ (Y ++ Q))).length) (ha : a = P.length) (hm : m = a + X.length) (hb : b = m + Y.length) (hX : 0 < X.length) (hY : 0 < Y.length) (hl : big n) :
    Den Tryz.prog 205 [.os 1000000 n, .int .i64 a, .int .i64 m, .int .i64 b, .fn 92 []] [.arr 44 13 false ((P ++ (X ++ (Y ++ Q))).map sm)] (.tup []) [] [.arr 44 13 false ((P ++ (Y ++ (X ++ Q))).map sm)] := by
  refine den_of Tryz.mixed Tryz.func205 rfl Tryz.call205 Tryz.ntmps205 (congrArg Array.toList Tryz.results205) (by simp) (by kernel_rfl) [] (exts := [1000000]) rfl rfl ?_
  have hn' : n = P.length + X.length + Y.length + Q.length := by rw [hn]; simp; omega
  have g1 : IntKind.i64.wrap ((m : Int) - (a : Int)) = (X.length : Int) := by rw [wrapI] <;> omega
  have g2 : IntKind.i64.wrap ((b : Int) - (m : Int)) = (Y.length : Int) := by rw [wrapI] <;> omega
  simp only [go_sem, g1, g2]
  refine loop Tryz.mixed (P, X, Y, Q) (fun s : List Stm × List Stm × List Stm × List Stm => [(0, .os 1000000 n), (2, .int .i64 m), (4, .fn 92 []), (10, .int .i64 s.2.1.length), (11, .int .i64 s.2.2.1.length)]) (fun s => [(1000000, .arr 44 13 false ((s.1 ++ (s.2.1 ++ (s.2.2.1 ++ s.2.2.2))).map sm))])
    (fun s => s.1.length + s.2.1.length = m ∧ 0 < s.2.1.length ∧ 0 < s.2.2.1.length ∧ m + s.2.2.1.length + s.2.2.2.length = n ∧ s.1 ++ (s.2.2.1 ++ (s.2.1 ++ s.2.2.2)) = P ++ (Y ++ (X ++ Q))) (fun s => s.2.1.length + s.2.2.1.length) (by kernel_rfl) ⟨by simp only; omega, hX, hY, by simp only; omega, rfl⟩ ?_ ?_
  · simp only [go_sem]
  · rintro ⟨p, x, y, q⟩ ⟨i1, i2, i3, i4, i5⟩
    simp only at i1 i2 i3 i4 i5
    simp only
    have g3 : IntKind.i64.wrap ((m : Int) - (x.length : Int)) = (p.length : Int) := by rw [wrapI] <;> omega
    by_cases he : x.length = y.length
    · have c := swapS_den p x [] y q n p.length m x.length (by simp; omega) rfl (by simp; omega) rfl he.symm hl
      rw [List.nil_append, List.nil_append, i5] at c
      rw [he] at g3 c
      simp only [go_sem, he, g3]
      refine call c [1000000] ?_
      simp only [go_sem]
      omega
    · by_cases hgt : y.length < x.length
      · obtain ⟨x1, x2, rfl, hx1⟩ : ∃ x1 x2, x = x1 ++ x2 ∧ x1.length = y.length := ⟨x.take y.length, x.drop y.length, by simp, by rw [List.length_take]; omega⟩
        have hxl : (x1 ++ x2).length = y.length + x2.length := by rw [List.length_append]; omega
        have c := swapS_den p x1 x2 y q n p.length m y.length (by simp only [List.length_append] at *; omega) rfl (by omega) hx1 rfl hl
        have e1 : p ++ (x1 ++ x2 ++ (y ++ q)) = p ++ (x1 ++ (x2 ++ (y ++ q))) := by simp
        have h1 : (x1 ++ x2).length > y.length := hgt
        have h2 : ((x1 ++ x2).length : Int) > (y.length : Int) := by omega
        have h3 : ¬ ((x1 ++ x2).length : Int) = (y.length : Int) := by omega
        have h4 : IntKind.i64.wrap (((x1 ++ x2).length : Int) - (y.length : Int)) = (x2.length : Int) := by rw [wrapI] <;> omega
        have hgI : ((x1 ++ x2).length : Int) > (y.length : Int) := by omega
        rw [e1]
        generalize hxx : (x1 ++ x2).length = xl at *
        simp only [go_sem, h3, hgt, g3, h4]
        refine call c [1000000] ?_
        simp only [go_sem, h4]
        rw [← i5]
        refine ⟨by omega, (p ++ y, x2, x1, q), ⟨⟨?_, ?_, ?_, ?_, ?_⟩, ?_⟩, ⟨?_, ?_⟩, ?_⟩
        · simp only [List.length_append]; omega
        · simp only; omega
        · simp only; omega
        · simp only; omega
        · simp
        · simp only; omega
        · rfl
        · simp only; omega
        · simp
      · obtain ⟨y1, y2, rfl, hy2⟩ : ∃ y1 y2, y = y1 ++ y2 ∧ y2.length = x.length := ⟨y.take (y.length - x.length), y.drop (y.length - x.length), by simp, by rw [List.length_drop]; omega⟩
        have hyl : (y1 ++ y2).length = y1.length + x.length := by rw [List.length_append]; omega
        have c := swapS_den p x y1 y2 q n p.length (m + y1.length) x.length (by simp only [List.length_append] at *; omega) rfl (by omega) rfl hy2 hl
        have e1 : p ++ (x ++ (y1 ++ y2 ++ q)) = p ++ (x ++ (y1 ++ (y2 ++ q))) := by simp
        have h4 : IntKind.i64.wrap (IntKind.i64.wrap ((m : Int) + ((y1 ++ y2).length : Int)) - (x.length : Int)) = ((m + y1.length : Nat) : Int) := by
          rw [hyl]
          have : IntKind.i64.wrap ((m : Int) + ((y1.length + x.length : Nat) : Int)) = ((m + (y1.length + x.length) : Nat) : Int) := by rw [wrapI] <;> omega
          rw [this]
          rw [wrapI] <;> omega
        have h5 : IntKind.i64.wrap (((y1 ++ y2).length : Int) - (x.length : Int)) = (y1.length : Int) := by rw [wrapI] <;> omega
        have h6 : ¬ (x.length : Int) = ((y1 ++ y2).length : Int) := by omega
        rw [e1]
        generalize hyy : (y1 ++ y2).length = yl at *
        simp only [go_sem, h6, hgt, g3, h4, h5]
        refine call c [1000000] ?_
        simp only [go_sem, h4, h5]
        rw [← i5]
        refine ⟨by omega, (p, y2, y1, x ++ q), ⟨⟨?_, ?_, ?_, ?_, ?_⟩, ?_⟩, ⟨?_, ?_⟩, ?_⟩
        · simp only; omega
        · simp only; omega
        · simp only; omega
        · simp only [List.length_append]; omega
        · simp
        · simp only; omega
        · simp only; omega
        · rfl
        · simp
end Go.Proofs.Am

/- Two sorted ranges of statements are merged in place. -/
namespace Go.Proofs.Am
open Go Go.RowKit
open Go.Proofs

theorem half_w {i j : Nat} (h : i + j ≤ 9223372036854775806) : IntKind.i64.wrap ((IntKind.u64.wrap (IntKind.i64.wrap ((i : Int) + (j : Int)))).fdiv (2 ^ min 1 64)) = (((i + j) / 2 : Nat) : Int) := by
  have h1 : IntKind.i64.wrap ((i : Int) + (j : Int)) = ((i + j : Nat) : Int) := by rw [wrapI] <;> omega
  have h2 : IntKind.u64.wrap ((i + j : Nat) : Int) = ((i + j : Nat) : Int) := by
    unfold IntKind.wrap
    simp [IntKind.signed, IntKind.bits]
    omega
  rw [h1, h2, Int.fdiv_eq_ediv_of_nonneg _ (by decide)]
  have h3 : ((i + j : Nat) : Int) / (2 ^ min 1 64) = (((i + j) / 2 : Nat) : Int) := by
    rw [show ((2 : Int) ^ min 1 64) = 2 from rfl]
    omega
  rw [h3, wrapI] <;> omega

set_option maxHeartbeats 1000000 in
set_option maxRecDepth 100000 in
/-- One statement ahead of the others. -/
theorem symS1_den (P B Q : List Stm) (x : Stm) (n a m b : Nat) (hn : n = (P ++ [x] ++ (B ++ Q)).length) (ha : a = P.length) (hm : m = a + 1) (hb : b = m + B.length) (hB : Srt ltS B) (hl : big n) :
    Den Tryz.prog 181 [.os 1000000 n, .int .i64 a, .int .i64 m, .int .i64 b, .fn 92 []] [.arr 44 13 false ((P ++ [x] ++ (B ++ Q)).map sm)] (.tup []) [] [.arr 44 13 false ((P ++ insL ltS ([x] ++ B) ++ Q).map sm)] := by
  refine den_of Tryz.mixed Tryz.func181 rfl Tryz.call181 Tryz.ntmps181 (congrArg Array.toList Tryz.results181) (by simp) (by kernel_rfl) [] (exts := [1000000]) rfl rfl ?_
  have hn' : n = P.length + 1 + B.length + Q.length := by rw [hn]; simp; omega
  have hbig : n ≤ 4611686018427387903 := by unfold big at hl; omega
  have g1 : IntKind.i64.wrap ((m : Int) - (a : Int)) = 1 := by rw [wrapI] <;> omega
  simp only [go_sem, g1]
  refine loop Tryz.mixed (m, b) (fun s : Nat × Nat => [(0, .os 1000000 n), (1, .int .i64 a), (4, .fn 92 []), (10, .int .i64 s.1), (11, .int .i64 s.2)]) (fun _ => [(1000000, .arr 44 13 false ((P ++ [x] ++ (B ++ Q)).map sm))])
    (fun s => m ≤ s.1 ∧ s.1 ≤ s.2 ∧ s.2 ≤ b ∧ (s.1 = m ∨ ltS (el B (s.1 - 1 - m)) x = true) ∧ (s.2 = b ∨ ltS (el B (s.2 - m)) x = false)) (fun s => s.2 - s.1) (by kernel_rfl) ⟨Nat.le_refl _, by simp only; omega, Nat.le_refl _, .inl rfl, .inl rfl⟩ ?_ ?_
  · simp only [go_sem]
  · rintro ⟨i, j⟩ ⟨i1, i2, i3, i4, i5⟩
    simp only at i1 i2 i3 i4 i5
    simp only
    by_cases hij : i < j
    · have g2 : (i : Int) < (j : Int) := by omega
      have g3 := half_w (i := i) (j := j) (by omega)
      obtain ⟨k1, k2⟩ := half_lt hij
      generalize hh : (i + j) / 2 = h at *
      have w1 : el (P ++ [x] ++ (B ++ Q)) h = el B (h - m) := by
        rw [← el_B (P := P) (A := [x]) (B := B) (Q := Q) (m := m) (i := h - m) (by simp; omega) (by omega)]; congr 1; omega
      have w2 : el (P ++ [x] ++ (B ++ Q)) a = x := by
        rw [show P ++ [x] ++ (B ++ Q) = P ++ x :: (B ++ Q) by simp]; exact el_at ha
      have l1 : h < (P ++ [x] ++ (B ++ Q)).length := by rw [← hn]; omega
      have l2 : a < (P ++ [x] ++ (B ++ Q)).length := by rw [← hn]; omega
      have n1 : h < n := by omega
      have n2 : a < n := by omega
      have cq := cmpS_den (el B (h - m)) x
      have hq : ltS (el B (h - m)) x = decide (cmpS (el B (h - m)) x < 0) := rfl
      generalize P ++ [x] ++ (B ++ Q) = W at *
      generalize hy : el B (h - m) = y at *
      generalize cmpS y x = c at *
      have g6 : IntKind.i64.wrap ((h : Int) + 1) = ((h + 1 : Nat) : Int) := by rw [wrapI] <;> omega
      have hWl : W.length = n := hn.symm
      simp only [go_sem, g2, g3, w1, w2, l1, l2, n1, n2, hWl]
      refine call cq [] ?_
      by_cases hc : c < 0
      · rw [decide_eq_true hc] at hq
        simp only [go_sem, hc, g6]
        refine ⟨okD_of (by kernel_rfl), (h + 1, j), ⟨⟨by simp only; omega, by simp only; omega, by simp only; omega, .inr ?_, i5⟩, by simp only; omega⟩, rfl, rfl⟩
        simp only
        rw [show h + 1 - 1 - m = h - m by omega, hy]
        exact hq
      · rw [decide_eq_false hc] at hq
        simp only [go_sem, hc]
        refine ⟨okD_of (by kernel_rfl), (i, h), ⟨⟨by simp only; omega, by simp only; omega, by simp only; omega, i4, .inr ?_⟩, by simp only; omega⟩, rfl, rfl⟩
        simp only
        rw [hy]
        exact hq
    · obtain rfl : i = j := by omega
      have g2 : ¬ (i : Int) < (i : Int) := by omega
      have g4 : IntKind.i64.wrap ((i : Int) - 1) = ((i - 1 : Nat) : Int) := by rw [wrapI] <;> omega
      have hone := one_l woS (x := x) hB (i := i - m) (by omega) (by
        rcases i4 with h | h
        · exact .inl (by omega)
        · exact .inr (by rw [show i - m - 1 = i - 1 - m by omega]; exact h)) (by
        rcases i5 with h | h
        · exact .inl (by omega)
        · exact .inr h)
      have hfin : P ++ (B.take (i - m) ++ x :: B.drop (i - m)) ++ Q = P ++ insL ltS ([x] ++ B) ++ Q := by rw [insL_uniq woS hone.1 hone.2]
      simp only [go_sem, Int.lt_irrefl, Nat.lt_irrefl]
      refine loop Tryz.mixed 0 (fun t : Nat => [(0, .os 1000000 n), (10, .int .i64 i), (13, .int .i64 ((a + t : Nat) : Int))]) (fun t => [(1000000, .arr 44 13 false ((P ++ (B.take t ++ x :: B.drop t) ++ Q).map sm))]) (fun t => t ≤ i - m) (fun t => i - m - t) (by kernel_rfl) (Nat.zero_le _) ?_ ?_
      · simp only [go_sem]
        simp
      · intro t ht
        by_cases hti : t < i - m
        · have g5 : ((a + t : Nat) : Int) < ((i - 1 : Nat) : Int) := by omega
          have g6 : IntKind.i64.wrap (((a + t : Nat) : Int) + 1) = ((a + (t + 1) : Nat) : Int) := by rw [wrapI] <;> omega
          obtain ⟨t1, t2⟩ := tk_el (T := B) (i := t) (by omega)
          generalize hy : el B t = y at *
          have hW : P ++ (B.take t ++ x :: B.drop t) ++ Q = (P ++ B.take t) ++ x :: ([] ++ y :: (B.drop (t + 1) ++ Q)) := by rw [t2]; simp
          have lt : (P ++ B.take t).length = a + t := by rw [List.length_append, List.length_take]; omega
          have hsw := swp_at (P := P ++ B.take t) (M := []) (Q := B.drop (t + 1) ++ Q) (x := x) (y := y) (i := a + t) (j := a + (t + 1)) lt.symm (by rw [lt, List.length_nil]; omega)
          have w1 : el (P ++ (B.take t ++ x :: B.drop t) ++ Q) (a + t) = x := by rw [hW]; exact el_at lt.symm
          have w2 : el (P ++ (B.take t ++ x :: B.drop t) ++ Q) (a + (t + 1)) = y := by
            rw [hW, show (P ++ B.take t) ++ x :: ([] ++ y :: (B.drop (t + 1) ++ Q)) = (P ++ B.take t ++ [x]) ++ y :: (B.drop (t + 1) ++ Q) by simp]
            exact el_at (by rw [List.length_append, lt, List.length_singleton]; omega)
          have hWl : (P ++ (B.take t ++ x :: B.drop t) ++ Q).length = n := by
            rw [hn']
            simp only [List.length_append, List.length_take, List.length_cons, List.length_drop]
            omega
          have hnx : P ++ B.take t ++ y :: ([] ++ x :: (B.drop (t + 1) ++ Q)) = P ++ (B.take (t + 1) ++ x :: B.drop (t + 1)) ++ Q := by rw [t1]; simp
          rw [← hW, hnx] at hsw
          generalize P ++ (B.take t ++ x :: B.drop t) ++ Q = W at *
          have l1 : a + t < W.length := by omega
          have l2 : a + (t + 1) < W.length := by omega
          have n1 : a + t < n := by omega
          have n2 : a + (t + 1) < n := by omega
          have q1 : (W.map sm).set (a + t) (sm y) = (W.set (a + t) y).map sm := by rw [List.map_set]
          have q2 : ((W.set (a + t) y).map sm).set (a + (t + 1)) (sm x) = (P ++ (B.take (t + 1) ++ x :: B.drop (t + 1)) ++ Q).map sm := by rw [← hsw, swp, w1, w2, List.map_set (l := W.set _ _)]
          have q3 : (W.set (a + t) y).length = n := by rw [List.length_set, hWl]
          have q4 : a + (t + 1) < (W.set (a + t) y).length := by rw [q3]; exact n2
          rw [sm] at q1 q2
          simp only [go_sem, g4, g5, g6, l1, l2, n1, n2, w1, w2, hWl, q1, q2, q3, q4]
          exact ⟨okD_of (by kernel_rfl), t + 1, ⟨by omega, by omega⟩, rfl, rfl⟩
        · obtain rfl : t = i - m := by omega
          have g5 : ¬ ((a + (i - m) : Nat) : Int) < ((i - 1 : Nat) : Int) := by omega
          simp only [go_sem, g4, g5, hfin]
end Go.Proofs.Am

/- One statement behind the others is put among them. -/
namespace Go.Proofs.Am
open Go Go.RowKit
open Go.Proofs

set_option maxHeartbeats 1000000 in
set_option maxRecDepth 100000 in
theorem symS2_den (P A Q : List Stm) (x : Stm) (n a m b : Nat) (hn : n = (P ++ A ++ ([x] ++ Q)).length) (ha : a = P.length) (hm : m = a + A.length) (hb : b = m + 1) (h1 : A.length ≠ 1) (hA : Srt ltS A) (hl : big n) :
    Den Tryz.prog 181 [.os 1000000 n, .int .i64 a, .int .i64 m, .int .i64 b, .fn 92 []] [.arr 44 13 false ((P ++ A ++ ([x] ++ Q)).map sm)] (.tup []) [] [.arr 44 13 false ((P ++ insL ltS (A ++ [x]) ++ Q).map sm)] := by
  refine den_of Tryz.mixed Tryz.func181 rfl Tryz.call181 Tryz.ntmps181 (congrArg Array.toList Tryz.results181) (by simp) (by kernel_rfl) [] (exts := [1000000]) rfl rfl ?_
  have hn' : n = P.length + A.length + 1 + Q.length := by rw [hn]; simp; omega
  have hbig : n ≤ 4611686018427387903 := by unfold big at hl; omega
  have g0 : IntKind.i64.wrap ((m : Int) - (a : Int)) = (A.length : Int) := by rw [wrapI] <;> omega
  have g0' : ¬ (A.length : Int) = 1 := by omega
  have g1 : IntKind.i64.wrap ((b : Int) - (m : Int)) = 1 := by rw [wrapI] <;> omega
  simp only [go_sem, g0, g0', g1, h1]
  refine loop Tryz.mixed (a, m) (fun s : Nat × Nat => [(0, .os 1000000 n), (2, .int .i64 m), (4, .fn 92 []), (14, .int .i64 s.1), (15, .int .i64 s.2)]) (fun _ => [(1000000, .arr 44 13 false ((P ++ A ++ ([x] ++ Q)).map sm))])
    (fun s => a ≤ s.1 ∧ s.1 ≤ s.2 ∧ s.2 ≤ m ∧ (s.1 = a ∨ ltS x (el A (s.1 - 1 - a)) = false) ∧ (s.2 = m ∨ ltS x (el A (s.2 - a)) = true)) (fun s => s.2 - s.1) (by kernel_rfl) ⟨Nat.le_refl _, by simp only; omega, Nat.le_refl _, .inl rfl, .inl rfl⟩ ?_ ?_
  · simp only [go_sem]
  · rintro ⟨i, j⟩ ⟨i1, i2, i3, i4, i5⟩
    simp only at i1 i2 i3 i4 i5
    simp only
    by_cases hij : i < j
    · have g2 : (i : Int) < (j : Int) := by omega
      have g3 := half_w (i := i) (j := j) (by omega)
      obtain ⟨k1, k2⟩ := half_lt hij
      generalize hh : (i + j) / 2 = h at *
      have w1 : el (P ++ A ++ ([x] ++ Q)) h = el A (h - a) := by
        rw [← el_A (P := P) (A := A) (R := [x] ++ Q) (a := a) (i := h - a) ha (by omega)]; congr 1; omega
      have w2 : el (P ++ A ++ ([x] ++ Q)) m = x := by
        rw [show P ++ A ++ ([x] ++ Q) = (P ++ A) ++ x :: Q by simp]; exact el_at (by simp; omega)
      have l1 : h < (P ++ A ++ ([x] ++ Q)).length := by rw [← hn]; omega
      have l2 : m < (P ++ A ++ ([x] ++ Q)).length := by rw [← hn]; omega
      have n1 : h < n := by omega
      have n2 : m < n := by omega
      have cq := cmpS_den x (el A (h - a))
      have hq : ltS x (el A (h - a)) = decide (cmpS x (el A (h - a)) < 0) := rfl
      generalize P ++ A ++ ([x] ++ Q) = W at *
      generalize hy : el A (h - a) = y at *
      generalize cmpS x y = c at *
      have g6 : IntKind.i64.wrap ((h : Int) + 1) = ((h + 1 : Nat) : Int) := by rw [wrapI] <;> omega
      have hWl : W.length = n := hn.symm
      simp only [go_sem, g2, g3, w1, w2, l1, l2, n1, n2, hWl]
      refine call cq [] ?_
      by_cases hc : c < 0
      · rw [decide_eq_true hc] at hq
        simp only [go_sem, hc]
        refine ⟨okD_of (by kernel_rfl), (i, h), ⟨⟨by simp only; omega, by simp only; omega, by simp only; omega, i4, .inr ?_⟩, by simp only; omega⟩, rfl, rfl⟩
        simp only
        rw [hy]
        exact hq
      · rw [decide_eq_false hc] at hq
        simp only [go_sem, hc, g6]
        refine ⟨okD_of (by kernel_rfl), (h + 1, j), ⟨⟨by simp only; omega, by simp only; omega, by simp only; omega, .inr ?_, i5⟩, by simp only; omega⟩, rfl, rfl⟩
        simp only
        rw [show h + 1 - 1 - a = h - a by omega, hy]
        exact hq
    · obtain rfl : i = j := by omega
      have hone := one_r woS (x := x) hA (i := i - a) (by omega) (by
        rcases i4 with h | h
        · exact .inl (by omega)
        · exact .inr (by rw [show i - a - 1 = i - 1 - a by omega]; exact h)) (by
        rcases i5 with h | h
        · exact .inl (by omega)
        · exact .inr h)
      have hfin : P ++ (A.take (i - a) ++ x :: A.drop (i - a)) ++ Q = P ++ insL ltS (A ++ [x]) ++ Q := by rw [insL_uniq woS hone.1 hone.2]
      simp only [go_sem, Int.lt_irrefl, Nat.lt_irrefl]
      refine loop Tryz.mixed A.length (fun t : Nat => [(0, .os 1000000 n), (14, .int .i64 i), (17, .int .i64 ((a + t : Nat) : Int))]) (fun t => [(1000000, .arr 44 13 false ((P ++ (A.take t ++ x :: A.drop t) ++ Q).map sm))]) (fun t => i - a ≤ t ∧ t ≤ A.length) (fun t => t) (by kernel_rfl) ⟨by omega, Nat.le_refl _⟩ ?_ ?_
      · simp only [go_sem]
        simp
        omega
      · rintro t ⟨ht0, ht⟩
        by_cases hti : i - a < t
        · obtain ⟨s, rfl⟩ : ∃ s, t = s + 1 := ⟨t - 1, by omega⟩
          have g5 : ((a + (s + 1) : Nat) : Int) > (i : Int) := by omega
          have g6 : IntKind.i64.wrap (((a + (s + 1) : Nat) : Int) - 1) = ((a + s : Nat) : Int) := by rw [wrapI] <;> omega
          obtain ⟨t1, t2⟩ := tk_el (T := A) (i := s) (by omega)
          generalize hy : el A s = y at *
          have hW : P ++ (A.take (s + 1) ++ x :: A.drop (s + 1)) ++ Q = (P ++ A.take s) ++ y :: ([] ++ x :: (A.drop (s + 1) ++ Q)) := by rw [t1]; simp
          have lt : (P ++ A.take s).length = a + s := by rw [List.length_append, List.length_take]; omega
          have hsw := swp_at' (P := P ++ A.take s) (M := []) (Q := A.drop (s + 1) ++ Q) (x := y) (y := x) (i := a + s) (j := a + (s + 1)) lt.symm (by rw [lt, List.length_nil]; omega)
          have w1 : el (P ++ (A.take (s + 1) ++ x :: A.drop (s + 1)) ++ Q) (a + s) = y := by rw [hW]; exact el_at lt.symm
          have w2 : el (P ++ (A.take (s + 1) ++ x :: A.drop (s + 1)) ++ Q) (a + (s + 1)) = x := by
            rw [hW, show (P ++ A.take s) ++ y :: ([] ++ x :: (A.drop (s + 1) ++ Q)) = (P ++ A.take s ++ [y]) ++ x :: (A.drop (s + 1) ++ Q) by simp]
            exact el_at (by rw [List.length_append, lt, List.length_singleton]; omega)
          have hWl : (P ++ (A.take (s + 1) ++ x :: A.drop (s + 1)) ++ Q).length = n := by
            rw [hn']
            simp only [List.length_append, List.length_take, List.length_cons, List.length_drop]
            omega
          have hnx : P ++ A.take s ++ x :: ([] ++ y :: (A.drop (s + 1) ++ Q)) = P ++ (A.take s ++ x :: A.drop s) ++ Q := by rw [t2]; simp
          rw [← hW, hnx] at hsw
          generalize P ++ (A.take (s + 1) ++ x :: A.drop (s + 1)) ++ Q = W at *
          have l1 : a + s < W.length := by omega
          have l2 : a + (s + 1) < W.length := by omega
          have n1 : a + s < n := by omega
          have n2 : a + (s + 1) < n := by omega
          have q1 : (W.map sm).set (a + (s + 1)) (sm y) = (W.set (a + (s + 1)) y).map sm := by rw [List.map_set]
          have q2 : ((W.set (a + (s + 1)) y).map sm).set (a + s) (sm x) = (P ++ (A.take s ++ x :: A.drop s) ++ Q).map sm := by rw [← hsw, swp, w1, w2, List.map_set (l := W.set _ _)]
          have q3 : (W.set (a + (s + 1)) y).length = n := by rw [List.length_set, hWl]
          have q4 : a + s < (W.set (a + (s + 1)) y).length := by rw [q3]; exact n1
          rw [sm] at q1 q2
          have g7 : i < a + (s + 1) := by omega
          simp only [go_sem, g5, g6, g7, l1, l2, n1, n2, w1, w2, hWl, q1, q2, q3, q4]
          exact ⟨okD_of (by kernel_rfl), s, ⟨⟨by omega, by omega⟩, by omega⟩, rfl, rfl⟩
        · obtain rfl : t = i - a := by omega
          have g5 : ¬ ((a + (i - a) : Nat) : Int) > (i : Int) := by omega
          have g7 : ¬ i < a + (i - a) := by omega
          simp only [go_sem, g5, g7, hfin]
end Go.Proofs.Am

/- Two sorted ranges of statements are merged in place: what is to be shown. -/
namespace Go.Proofs.Am
open Go Go.RowKit
open Go.Proofs

def SymD (k : Nat) : Prop := ∀ (P A B Q : List Stm) (n a m b : Nat), A.length + B.length ≤ k → n = (P ++ A ++ (B ++ Q)).length → a = P.length → m = a + A.length → b = m + B.length → 0 < A.length → 0 < B.length → Srt ltS A → Srt ltS B → big n →
    Den Tryz.prog 181 [.os 1000000 n, .int .i64 a, .int .i64 m, .int .i64 b, .fn 92 []] [.arr 44 13 false ((P ++ A ++ (B ++ Q)).map sm)] (.tup []) [] [.arr 44 13 false ((P ++ insL ltS (A ++ B) ++ Q).map sm)]
/-! ### Code in pieces: a cut before which what is known is written down -/
theorem W_pre {P : Program} (hm : P.follows .mixedOrders = true) {N : Nat} {a b : Code} {Q : Post} {fr : AFr} {σ : ASt} (hc : codeOK N a = true) (h : wv P N a (thenQ (fun fr' σ' => W P N b Q fr' σ') Q) fr σ) : W P N (.seq a b) Q fr σ := fun x ac hv w hG =>
  wp_seq (wp_mono (wv_sound hm a hc _ fr σ h x ac hv w hG) fun _ _ _ hq => lift_then (fun _ _ a'' hv'' w'' hk hg => hk x a'' hv'' w'' hg) hq)
/-- The first part ends as written down; the second begins there. -/
theorem W_cut {P : Program} (hm : P.follows .mixedOrders = true) {N : Nat} {a b : Code} {Q : Post} {fr : AFr} {σ : ASt} (fr' : AFr) (σ' : ASt) (hc : codeOK N a = true) (h : wv P N a (thenQ (fun fr1 σ1 => wk fr1 σ1 fr' σ') Q) fr σ) (h2 : W P N b Q fr' σ') : W P N (.seq a b) Q fr σ := fun x ac hv w hG =>
  wp_seq (wp_mono (wv_sound hm a hc _ fr σ h x ac hv w hG) fun _ _ _ hq => lift_then (fun _ _ a'' hv'' w'' hk hg => h2 x a'' hv'' w'' (hg.wk hk)) hq)
theorem W_cutI {P : Program} (hm : P.follows .mixedOrders = true) {N : Nat} {a b : Code} {Q : Post} {fr : AFr} {σ : ASt} {ι : Type} (fs : ι → AFr) (ss : ι → ASt) (I : ι → Prop) (hc : codeOK N a = true) (h : wv P N a (thenQ (fun fr1 σ1 => ∃ i, I i ∧ wk fr1 σ1 (fs i) (ss i)) Q) fr σ) (h2 : ∀ i, I i → W P N b Q (fs i) (ss i)) : W P N (.seq a b) Q fr σ := fun x ac hv w hG =>
  wp_seq (wp_mono (wv_sound hm a hc _ fr σ h x ac hv w hG) fun _ _ _ hq => lift_then (fun _ _ a'' hv'' w'' ⟨i, hi, hk⟩ hg => h2 i hi x a'' hv'' w'' (hg.wk hk)) hq)
theorem W_of {P : Program} (hm : P.follows .mixedOrders = true) {N : Nat} {c : Code} {Q : Post} {fr : AFr} {σ : ASt} (hc : codeOK N c = true) (h : wv P N c Q fr σ) : W P N c Q fr σ := wv_sound hm c hc Q fr σ h
theorem den_W {P : Program} (hm : P.follows .mixedOrders = true) {k : FuncId} {fn : Func} {c : Code} {N : Nat} {rs : List ResultVar} {args : List PV} {ext : List Box} {r : PV} {nb ext' : List Box} (hf : P.funcs[k]? = some fn) (hb : fn.body = some c)
    (hen : ∀ av w, (callFunc k av).run P w = .ok (.enter k av) w) (hN : fn.ntmps = N) (hrs : fn.results.toList = rs) (hle : args.length ≤ N) (ns : List Nat) {exts : List Nat} (hexts : exts = List.range' 1000000 ext'.length) (hel : ext'.length = ext.length)
    (h : W P N c (retQ P rs ns exts r nb ext') (initF 0 args) (initS 0 ext)) : Den P k args ext r nb ext' := by
  refine den_ofW hm hf hb hen hN hrs hle hexts hel fun x a hv w hG => wp_mono (h x a hv w hG) fun e a' w' hq => ?_
  have go : ∀ fr σ, retV P rs ns exts r nb ext' fr σ → retX P rs exts r nb ext' fr σ := fun fr σ h => ⟨[], ns, trivial, h⟩
  cases e with
  | normal => obtain ⟨fr, σ, hv', h1, h2⟩ := hq; exact ⟨fr, σ, hv', go _ _ h1, h2⟩
  | ret => obtain ⟨fr, σ, hv', h1, h2⟩ := hq; exact ⟨fr, σ, hv', go _ _ h1, h2⟩
  | exit id => exact hq
  | goto l => exact hq
  | panic c => exact hq
  | outgrown => exact hq
end Go.Proofs.Am

/- Two sorted ranges of statements are merged in place: one step. -/
namespace Go.Proofs.Am
open Go Go.RowKit
open Go.Proofs

set_option maxHeartbeats 8000000 in
theorem symR_den (k : Nat) (IH : SymD k) (P A B Q : List Stm) (n a m b : Nat) (hk : A.length + B.length ≤ k + 1) (hn : n = (P ++ A ++ (B ++ Q)).length) (ha : a = P.length) (hm : m = a + A.length) (hb : b = m + B.length) (hA0 : 0 < A.length) (hB0 : 0 < B.length) (hA : Srt ltS A) (hB : Srt ltS B) (hl : big n) (a1 : ¬ A.length = 1) (b1 : ¬ B.length = 1) :
    Den Tryz.prog 181 [.os 1000000 n, .int .i64 a, .int .i64 m, .int .i64 b, .fn 92 []] [.arr 44 13 false ((P ++ A ++ (B ++ Q)).map sm)] (.tup []) [] [.arr 44 13 false ((P ++ insL ltS (A ++ B) ++ Q).map sm)] := by
  refine den_W Tryz.mixed Tryz.func181 rfl Tryz.call181 Tryz.ntmps181 (congrArg Array.toList Tryz.results181) (by simp) [] (exts := [1000000]) rfl rfl ?_
  have hn' : n = P.length + A.length + B.length + Q.length := by rw [hn]; simp; omega
  have hbig : n ≤ 4611686018427387903 := by unfold big at hl; omega
  have g0 : IntKind.i64.wrap ((m : Int) - (a : Int)) = (A.length : Int) := by rw [wrapI] <;> omega
  have g0' : ¬ (A.length : Int) = 1 := by omega
  have g1 : IntKind.i64.wrap ((b : Int) - (m : Int)) = (B.length : Int) := by rw [wrapI] <;> omega
  have g1' : ¬ (B.length : Int) = 1 := by omega
  have g2 := half_w (i := a) (j := b) (by omega)
  generalize hmid : (a + b) / 2 = mid at *
  have g3 : IntKind.i64.wrap ((mid : Int) + (m : Int)) = ((mid + m : Nat) : Int) := by rw [wrapI] <;> omega
  have g4 : IntKind.i64.wrap (((mid + m : Nat) : Int) - 1) = ((mid + m - 1 : Nat) : Int) := by rw [wrapI] <;> omega
  simp only [initF, initS]
  refine W_pre Tryz.mixed (by kernel_rfl) ?_
  simp only [go_sem, g0, g0', g1, g1', g2, g3, g4, a1, b1]
  refine W_pre Tryz.mixed (by kernel_rfl) ?_
  simp only [go_sem, g0, g0', g1, g1', g2, g3, g4, a1, b1]
  refine W_pre Tryz.mixed (by kernel_rfl) ?_
  simp only [go_sem, g0, g0', g1, g1', g2, g3, g4, a1, b1]
  refine W_pre Tryz.mixed (by kernel_rfl) ?_
  simp only [go_sem, g0, g0', g1, g1', g2, g3, g4, a1, b1]
  refine W_pre Tryz.mixed (by kernel_rfl) ?_
  simp only [go_sem, g0, g0', g1, g1', g2, g3, g4, a1, b1]
  refine W_cutI Tryz.mixed (fun s : Nat × Nat => [(0, .os 1000000 n), (1, .int .i64 a), (2, .int .i64 m), (3, .int .i64 b), (4, .fn 92 []), (18, .int .i64 mid), (19, .int .i64 ((mid + m : Nat) : Int)), (20, .int .i64 s.1), (21, .int .i64 s.2)]) (fun _ => [(1000000, .arr 44 13 false ((P ++ A ++ (B ++ Q)).map sm))]) (fun s => (mid < m ∧ s.1 + b = mid + m ∧ s.2 = mid) ∨ (m ≤ mid ∧ s.1 = a ∧ s.2 = m)) (by kernel_rfl) ?_ ?_
  · by_cases hc0 : mid < m
    · have g6 : IntKind.i64.wrap (((mid + m : Nat) : Int) - (b : Int)) = ((mid + m - b : Nat) : Int) := by rw [wrapI] <;> omega
      simp only [go_sem, hc0, g6]
      have e9 : mid + m - b + b = mid + m := by omega
      exact ⟨(mid + m - b, mid), Or.inl ⟨e9, rfl⟩, rfl, rfl⟩
    · simp only [go_sem, hc0]
      have e9 : m ≤ mid := by omega
      exact ⟨(a, m), ⟨e9, rfl, rfl⟩, rfl, rfl⟩
  rintro ⟨s0, r0⟩ hc
  simp only at hc
  simp only
  refine W_pre Tryz.mixed (by kernel_rfl) ?_
  simp only [go_sem, g4]
  refine W_cutI Tryz.mixed (fun i : Nat => [(0, .os 1000000 n), (1, .int .i64 a), (2, .int .i64 m), (3, .int .i64 b), (4, .fn 92 []), (18, .int .i64 mid), (19, .int .i64 ((mid + m : Nat) : Int)), (20, .int .i64 i)]) (fun _ => [(1000000, .arr 44 13 false ((P ++ A ++ (B ++ Q)).map sm))]) (fun i => s0 ≤ i ∧ i ≤ r0 ∧ (i = s0 ∨ ltS (el (P ++ A ++ (B ++ Q)) (mid + m - i)) (el (P ++ A ++ (B ++ Q)) (i - 1)) = false) ∧ (i = r0 ∨ ltS (el (P ++ A ++ (B ++ Q)) (mid + m - 1 - i)) (el (P ++ A ++ (B ++ Q)) i) = true)) (by kernel_rfl) ?_ ?_
  · simp only [go_sem]
    refine loop Tryz.mixed (s0, r0) (fun s : Nat × Nat => [(0, .os 1000000 n), (1, .int .i64 a), (2, .int .i64 m), (3, .int .i64 b), (4, .fn 92 []), (18, .int .i64 mid), (19, .int .i64 ((mid + m : Nat) : Int)), (22, .int .i64 ((mid + m - 1 : Nat) : Int)), (20, .int .i64 s.1), (21, .int .i64 s.2)]) (fun _ => [(1000000, .arr 44 13 false ((P ++ A ++ (B ++ Q)).map sm))])
      (fun s => s0 ≤ s.1 ∧ s.1 ≤ s.2 ∧ s.2 ≤ r0 ∧ (s.1 = s0 ∨ ltS (el (P ++ A ++ (B ++ Q)) (mid + m - s.1)) (el (P ++ A ++ (B ++ Q)) (s.1 - 1)) = false) ∧ (s.2 = r0 ∨ ltS (el (P ++ A ++ (B ++ Q)) (mid + m - 1 - s.2)) (el (P ++ A ++ (B ++ Q)) s.2) = true)) (fun s => s.2 - s.1) (by kernel_rfl) ⟨Nat.le_refl _, by simp only; omega, Nat.le_refl _, .inl rfl, .inl rfl⟩ ?_ ?_
    · simp only [go_sem]
    · rintro ⟨i, j⟩ ⟨i1, i2, i3, i4, i5⟩
      simp only at i1 i2 i3 i4 i5
      simp only
      by_cases hij : i < j
      · have q2 := half_w (i := i) (j := j) (by omega)
        obtain ⟨k1, k2⟩ := half_lt hij
        generalize hh : (i + j) / 2 = h at *
        have q1 : (i : Int) < (j : Int) := by omega
        have q3 : IntKind.i64.wrap (((mid + m - 1 : Nat) : Int) - (h : Int)) = ((mid + m - 1 - h : Nat) : Int) := by rw [wrapI] <;> omega
        have q6 : IntKind.i64.wrap ((h : Int) + 1) = ((h + 1 : Nat) : Int) := by rw [wrapI] <;> omega
        have n1 : h < n := by omega
        have n2 : mid + m - 1 - h < n := by omega
        generalize hWW : P ++ A ++ (B ++ Q) = W at *
        have l1 : h < W.length := by omega
        have l2 : mid + m - 1 - h < W.length := by omega
        have hWl : W.length = n := hn.symm
        have cq := cmpS_den (el W (mid + m - 1 - h)) (el W h)
        have hq : ltS (el W (mid + m - 1 - h)) (el W h) = decide (cmpS (el W (mid + m - 1 - h)) (el W h) < 0) := rfl
        generalize hy : el W (mid + m - 1 - h) = y at *
        generalize hx : el W h = x at *
        generalize cmpS y x = c at *
        simp only [go_sem, q1, q2, q3, n1, n2, l1, l2, hWl, hy, hx]
        refine call cq [] ?_
        by_cases hc : c < 0
        · rw [decide_eq_true hc] at hq
          simp only [go_sem, hc]
          refine ⟨okD_of (by kernel_rfl), (i, h), ⟨⟨by simp only; omega, by simp only; omega, by simp only; omega, i4, .inr ?_⟩, by simp only; omega⟩, rfl, rfl⟩
          simp only
          rw [hy, hx]
          exact hq
        · rw [decide_eq_false hc] at hq
          simp only [go_sem, hc, q6]
          refine ⟨okD_of (by kernel_rfl), (h + 1, j), ⟨⟨by simp only; omega, by simp only; omega, by simp only; omega, .inr ?_, i5⟩, by simp only; omega⟩, rfl, rfl⟩
          simp only
          rw [show mid + m - (h + 1) = mid + m - 1 - h by omega, show h + 1 - 1 = h by omega, hy, hx]
          exact hq
      · obtain rfl : i = j := by omega
        simp only [go_sem, Int.lt_irrefl, Nat.lt_irrefl]
        exact ⟨i, ⟨i1, i3, i4, i5⟩, rfl⟩
  rintro i ⟨i1, i3, i4, i5⟩
  refine W_pre Tryz.mixed (by kernel_rfl) ?_
  obtain ⟨A1, A2, B1, B2, rfl, rfl, u1, u2, u3, u4⟩ := sym_cut woS (Q := Q) hA hB ha hm hb hmid.symm hc i1 i3 i4 i5
  have q1 : IntKind.i64.wrap (((mid + m : Nat) : Int) - (i : Int)) = ((mid + m - i : Nat) : Int) := by rw [wrapI] <;> omega
  have z1 : A1.length + A2.length = m - a := by rw [List.length_append] at hm; omega
  have z2 : B1.length + B2.length = b - m := by rw [List.length_append] at hb; omega
  have z3 : (A1 ++ A2).length = A1.length + A2.length := List.length_append
  have z4 : (B1 ++ B2).length = B1.length + B2.length := List.length_append
  have sA1 : Srt ltS A1 := (List.pairwise_append.1 hA).1
  have sA2 : Srt ltS A2 := (List.pairwise_append.1 hA).2.1
  have sB1 : Srt ltS B1 := (List.pairwise_append.1 hB).1
  have sB2 : Srt ltS B2 := (List.pairwise_append.1 hB).2.1
  have y1 := insL_rea woS (A1 ++ B1)
  have y2 := insL_rea woS (A2 ++ B2)
  have y3 := mrg_rea woS hA hB u3 u4 y1.1 y1.2 y2.1 y2.2
  have y4 := insL_uniq woS y3.1 y3.2
  have y5 := insL_len woS (A1 ++ B1)
  rw [List.length_append] at y5
  have t0 : (P ++ A1) ++ (A2 ++ (B1 ++ (B2 ++ Q))) = P ++ (A1 ++ A2) ++ (B1 ++ B2 ++ Q) := by simp
  have t2 : P ++ insL ltS (A1 ++ B1) ++ A2 ++ (B2 ++ Q) = P ++ insL ltS (A1 ++ B1) ++ (A2 ++ (B2 ++ Q)) := by simp
  have t3 : P ++ insL ltS (A1 ++ B1) ++ insL ltS (A2 ++ B2) ++ Q = P ++ insL ltS (A1 ++ A2 ++ (B1 ++ B2)) ++ Q := by rw [← y4]; simp
  have cR : 0 < A2.length → 0 < B1.length → _ := fun h h' => rotS_den (P ++ A1) A2 B1 (B2 ++ Q) n i m (mid + m - i) (by rw [t0]; exact hn) (by rw [List.length_append]; omega) (by omega) (by omega) h h' hl
  have cX : 0 < A1.length → 0 < B1.length → _ := fun h h' => IH P A1 B1 (A2 ++ (B2 ++ Q)) n a i mid (by omega) (by rw [hn]; simp only [List.length_append]; omega) ha (by omega) (by omega) h h' sA1 sB1 hl
  have cY : 0 < A2.length → 0 < B2.length → _ := fun h h' => IH (P ++ insL ltS (A1 ++ B1)) A2 B2 Q n mid (mid + m - i) b (by omega) (by rw [hn]; simp only [List.length_append, y5]; omega) (by rw [List.length_append, y5]; omega) (by omega) (by omega) h h' sA2 sB2 hl
  rw [t0] at cR
  rw [t2, t3] at cY
  have v01 : A2.length = 0 ∨ B1.length = 0 → P ++ (A1 ++ A2) ++ (B1 ++ B2 ++ Q) = P ++ A1 ++ (B1 ++ (A2 ++ (B2 ++ Q))) := by
    rintro (h | h)
    · rw [List.length_eq_zero_iff.1 h]; simp
    · rw [List.length_eq_zero_iff.1 h]; simp
  have v12 : A1.length = 0 ∨ B1.length = 0 → P ++ A1 ++ (B1 ++ (A2 ++ (B2 ++ Q))) = P ++ insL ltS (A1 ++ B1) ++ (A2 ++ (B2 ++ Q)) := by
    rintro (h | h)
    · rw [List.length_eq_zero_iff.1 h, List.nil_append, insL_srt woS sB1]; simp
    · rw [List.length_eq_zero_iff.1 h, List.append_nil, insL_srt woS sA1]; simp
  have v23 : A2.length = 0 ∨ B2.length = 0 → P ++ insL ltS (A1 ++ B1) ++ (A2 ++ (B2 ++ Q)) = P ++ insL ltS (A1 ++ A2 ++ (B1 ++ B2)) ++ Q := by
    rw [← t3]
    rintro (h | h)
    · simp only [List.length_eq_zero_iff.1 h, List.nil_append, List.append_assoc]; rw [insL_srt woS sB2]
    · simp only [List.length_eq_zero_iff.1 h, List.nil_append, List.append_nil, List.append_assoc]; rw [insL_srt woS sA2]
  have w0 : (P ++ (A1 ++ A2) ++ (B1 ++ B2 ++ Q)).length = n := hn.symm
  have w1 : (P ++ A1 ++ (B1 ++ (A2 ++ (B2 ++ Q)))).length = n := by rw [← w0]; simp only [List.length_append]; omega
  have w2 : (P ++ insL ltS (A1 ++ B1) ++ (A2 ++ (B2 ++ Q))).length = n := by rw [← w0]; simp only [List.length_append, y5]; omega
  have w3 : (P ++ insL ltS (A1 ++ A2 ++ (B1 ++ B2)) ++ Q).length = n := by rw [← t3, ← w2]; simp only [List.length_append, insL_len woS]; omega
  clear hn hA hB u3 u4 y1 y2 y3 y4 t0 t2 t3 i4 i5
  generalize P ++ (A1 ++ A2) ++ (B1 ++ B2 ++ Q) = W0 at *
  generalize P ++ A1 ++ (B1 ++ (A2 ++ (B2 ++ Q))) = W1 at *
  generalize P ++ insL ltS (A1 ++ B1) ++ (A2 ++ (B2 ++ Q)) = W2 at *
  generalize P ++ insL ltS (A1 ++ A2 ++ (B1 ++ B2)) ++ Q = W3 at *
  simp only [go_sem, q1, w0]
  refine W_cut Tryz.mixed [(0, .os 1000000 n), (1, .int .i64 a), (2, .int .i64 m), (3, .int .i64 b), (4, .fn 92 []), (18, .int .i64 mid), (20, .int .i64 i), (24, .int .i64 ((mid + m - i : Nat) : Int))] [(1000000, .arr 44 13 false ((W1).map sm))] (by kernel_rfl) ?_ ?_
  · by_cases f0 : i < m
    · by_cases f1 : m < mid + m - i
      · simp only [go_sem, f0, f1, w0, w1, Nat.le_refl]
        refine call (cR (by omega) (by omega)) [1000000] ?_
        simp only [go_sem, w0, w1, Nat.le_refl]
      · have e01 := v01 (by omega)
        subst e01
        simp only [go_sem, f0, f1, w0, w1, Nat.le_refl]
    · have e01 := v01 (by omega)
      subst e01
      simp only [go_sem, f0, w0, w1, Nat.le_refl]
  refine W_cut Tryz.mixed [(0, .os 1000000 n), (1, .int .i64 a), (2, .int .i64 m), (3, .int .i64 b), (4, .fn 92 []), (18, .int .i64 mid), (20, .int .i64 i), (24, .int .i64 ((mid + m - i : Nat) : Int))] [(1000000, .arr 44 13 false ((W2).map sm))] (by kernel_rfl) ?_ ?_
  · by_cases f0 : a < i
    · by_cases f1 : i < mid
      · simp only [go_sem, f0, f1, w2, w1, Nat.le_refl]
        refine call (cX (by omega) (by omega)) [1000000] ?_
        simp only [go_sem, w2, w1, Nat.le_refl]
      · have e12 := v12 (by omega)
        subst e12
        simp only [go_sem, f0, f1, w2, w1, Nat.le_refl]
    · have e12 := v12 (by omega)
      subst e12
      simp only [go_sem, f0, w2, w1, Nat.le_refl]
  refine W_of Tryz.mixed (by kernel_rfl) ?_
  by_cases f0 : mid < mid + m - i
  · by_cases f1 : mid + m - i < b
    · simp only [go_sem, f0, f1, w2, w3, Nat.le_refl]
      refine call (cY (by omega) (by omega)) [1000000] ?_
      simp only [go_sem, w2, w3, Nat.le_refl]
    · have e23 := v23 (by omega)
      subst e23
      simp only [go_sem, f0, f1, w2, w3, Nat.le_refl]
  · have e23 := v23 (by omega)
    subst e23
    simp only [go_sem, f0, w2, w3, Nat.le_refl]
end Go.Proofs.Am

/- Two sorted ranges of statements are merged in place. -/
namespace Go.Proofs.Am
open Go Go.RowKit
open Go.Proofs

theorem symS_all : ∀ k, SymD k
  | 0 => fun _ A _ _ _ _ _ _ hk _ _ _ _ hA0 _ _ _ _ => absurd hA0 (by omega)
  | k + 1 => fun P A B Q n a m b hk hn ha hm hb hA0 hB0 hA hB hl => by
    by_cases a1 : A.length = 1
    · obtain ⟨x, rfl⟩ := List.length_eq_one_iff.1 a1
      exact symS1_den P B Q x n a m b hn ha hm hb hB hl
    by_cases b1 : B.length = 1
    · obtain ⟨x, rfl⟩ := List.length_eq_one_iff.1 b1
      exact symS2_den P A Q x n a m b hn ha hm hb a1 hA hl
    exact symR_den k (symS_all k) P A B Q n a m b hk hn ha hm hb hA0 hB0 hA hB hl a1 b1
theorem symS_den (k : Nat) (P A B Q : List Stm) (n a m b : Nat) (hk : A.length + B.length ≤ k) (hn : n = (P ++ A ++ (B ++ Q)).length) (ha : a = P.length) (hm : m = a + A.length) (hb : b = m + B.length) (hA0 : 0 < A.length) (hB0 : 0 < B.length) (hA : Srt ltS A) (hB : Srt ltS B) (hl : big n) :
    Den Tryz.prog 181 [.os 1000000 n, .int .i64 a, .int .i64 m, .int .i64 b, .fn 92 []] [.arr 44 13 false ((P ++ A ++ (B ++ Q)).map sm)] (.tup []) [] [.arr 44 13 false ((P ++ insL ltS (A ++ B) ++ Q).map sm)] :=
  symS_all k P A B Q n a m b hk hn ha hm hb hA0 hB0 hA hB hl
end Go.Proofs.Am

/- slices.SortStableFunc of statements: two blocks. -/
namespace Go.Proofs.Am
open Go Go.RowKit
open Go.Proofs

set_option maxHeartbeats 1000000 in
set_option maxRecDepth 100000 in
theorem stable2_den (L : List Stm) (n : Nat) (hn : n = L.length) (h20 : 20 ≤ n) (hl : n < 40) :
    Den Tryz.prog 129 [.os 1000000 n, .int .i64 n, .fn 92 []] [.arr 44 13 false (L.map sm)] (.tup []) [] [.arr 44 13 false ((insL ltS L).map sm)] := by
  refine den_of Tryz.mixed Tryz.func129 rfl Tryz.call129 Tryz.ntmps129 (congrArg Array.toList Tryz.results129) (by simp) (by kernel_rfl) [] (exts := [1000000]) rfl rfl ?_
  have t1 : (L.take 20).length = 20 := by rw [List.length_take]; omega
  have t2 : (L.drop 20).length = n - 20 := by rw [List.length_drop]; omega
  have i1' := insL_len woS (L.take 20)
  have i2' := insL_len woS (L.drop 20)
  have hbig : big n := by simp only [big]; omega
  have c1 := insS_den [] (L.take 20) (L.drop 20) n 0 20 (by simp; omega) rfl (by simp; omega) hbig
  have c2 := insS_den (insL ltS (L.take 20)) (L.drop 20) [] n 20 n (by simp; omega) (by omega) (by omega) hbig
  have c3 : 20 < n → _ := fun h => symS_den 60 [] (insL ltS (L.take 20)) (insL ltS (L.drop 20)) [] n 0 20 n (by omega) (by simp; omega) rfl (by simp; omega) (by omega) (by omega) (by omega) (insL_rea woS _).2 (insL_rea woS _).2 hbig
  have e3 : insL ltS (insL ltS (L.take 20) ++ insL ltS (L.drop 20)) = insL ltS L := blk_last woS
  have e4 : n = 20 → insL ltS (L.take 20) ++ insL ltS (L.drop 20) = insL ltS L := fun h => by
    rw [List.take_of_length_le (by omega), List.drop_of_length_le (by omega)]
    simp [insL]
  simp only [List.nil_append, List.append_nil, e3, List.take_append_drop] at c1 c2 c3
  have il := insL_len woS L
  generalize insL ltS L = Z at *
  generalize hM1 : insL ltS (L.take 20) ++ L.drop 20 = M1 at *
  have l1 : M1.length = n := by rw [← hM1, List.length_append]; omega
  generalize hM2 : insL ltS (L.take 20) ++ insL ltS (L.drop 20) = M2 at *
  have l2 : M2.length = n := by rw [← hM2, List.length_append]; omega
  simp only [go_sem]
  refine loop Tryz.mixed (0, L) (fun s : Nat × List Stm => [(0, .os 1000000 n), (1, .int .i64 n), (2, .fn 92 []), (6, .int .i64 20), (7, .int .i64 s.1), (8, .int .i64 ((s.1 + 20 : Nat) : Int))]) (fun s => [(1000000, .arr 44 13 false (s.2.map sm))]) (fun s => (s.1 = 0 ∧ s.2 = L) ∨ (s.1 = 20 ∧ s.2 = M1)) (fun s => 40 - s.1) (by kernel_rfl) (.inl ⟨rfl, rfl⟩) ?_ ?_
  · simp only [go_sem]
  · rintro ⟨a, M⟩ h
    simp only at h
    simp only
    rcases h with ⟨rfl, rfl⟩ | ⟨rfl, rfl⟩
    · have g1 : (20 : Int) ≤ (n : Int) := by omega
      simp only [go_sem, g1]
      refine call c1 [1000000] ?_
      simp only [go_sem]
      refine ⟨by omega, (20, M1), ⟨.inr ⟨rfl, rfl⟩, by simp only; omega⟩, ⟨rfl, by rw [wrapI] <;> simp⟩, rfl⟩
    · have g1 : ¬ (40 : Int) ≤ (n : Int) := by omega
      simp only [go_sem, g1]
      refine call c2 [1000000] ?_
      simp only [go_sem]
      refine ⟨by omega, ?_⟩
      have g3 : ¬ (40 : Int) ≤ (n : Int) := by omega
      refine loop Tryz.mixed (20, M2) (fun s : Nat × List Stm => [(0, .os 1000000 n), (1, .int .i64 n), (2, .fn 92 []), (6, .int .i64 s.1), (7, .int .i64 ((40 - s.1 : Nat) : Int)), (8, .int .i64 40)]) (fun s => [(1000000, .arr 44 13 false (s.2.map sm))]) (fun s => (s.1 = 20 ∧ s.2 = M2) ∨ (s.1 = 40 ∧ s.2 = Z)) (fun s => 40 - s.1) (by kernel_rfl) (.inl ⟨rfl, rfl⟩) ?_ ?_
      · simp only [go_sem]
      · rintro ⟨a, N⟩ h
        simp only at h
        simp only
        rcases h with ⟨rfl, rfl⟩ | ⟨rfl, rfl⟩
        · by_cases h2 : 20 < n
          · have g2 : (20 : Int) < (n : Int) := by omega
            simp only [go_sem, g2]
            refine loop Tryz.mixed () (fun _ : Unit => [(0, .os 1000000 n), (1, .int .i64 n), (2, .fn 92 []), (6, .int .i64 20), (7, .int .i64 0), (8, .int .i64 40)]) (fun _ => [(1000000, .arr 44 13 false (N.map sm))]) (fun _ => True) (fun _ => 0) (by kernel_rfl) trivial ?_ ?_
            · have g4 : IntKind.i64.wrap 40 = 40 := by rw [wrapI] <;> simp
              simp only [go_sem, g4]
            · intro _ _
              have g4 : IntKind.i64.wrap 20 = 20 := by rw [wrapI] <;> simp
              simp only [go_sem, g3, g2, g4]
              refine call (c3 h2) [1000000] ?_
              simp only [go_sem]
              refine ⟨by omega, (40, Z), ⟨.inr ⟨rfl, rfl⟩, by simp⟩, ⟨by rw [wrapI] <;> simp, rfl⟩, rfl⟩
          · have g2 : ¬ (20 : Int) < (n : Int) := by omega
            have e5 := e4 (by omega)
            subst e5
            simp only [go_sem, g2]
        · have g2 : ¬ (40 : Int) < (n : Int) := by omega
          simp only [go_sem, g2]
end Go.Proofs.Am
