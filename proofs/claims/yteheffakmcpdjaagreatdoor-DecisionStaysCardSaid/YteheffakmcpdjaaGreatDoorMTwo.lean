/- DecisionStays, walked. -/
import Derived.Test.YteheffakmcpdjaaGreatDoorNOne
import Derived.Test.YteheffakmcpdjaaGreatDoorMOne
set_option linter.unusedSimpArgs false
set_option linter.unusedVariables false
namespace Go.Proofs.Am
open Go Go.RowKit
open Go.Proofs

theorem turnS_has {l : List Stm} {n : Int} {s : Stm} (h : s ∈ l) : s ∈ turnS l n := by
  obtain ⟨j, hj, rfl⟩ := mem_el h
  have h0 : 0 < l.length := by omega
  have hm := mmod_lt (n := n) (m := l.length) (by omega)
  obtain ⟨m, hmm⟩ : ∃ m : Nat, mmod n l.length = (m : Int) := ⟨(mmod n l.length).toNat, by omega⟩
  have hm2 : m < l.length := by omega
  unfold turnS
  rw [List.mem_map]
  refine ⟨(j + (l.length - m)) % l.length, List.mem_range.2 (Nat.mod_lt _ h0), ?_⟩
  rw [hmm, Int.toNat_natCast, Nat.mod_add_mod, show j + (l.length - m) + m = j + l.length by omega, Nat.add_mod_right, Nat.mod_eq_of_lt hj]
theorem certX_one {l : List Stm} {c : Cs} {seats : List Int} (h : ckS c seats = 0) (h1 : (allV seats (votesL l c)).length = 1) : certX l c seats = (c, certL l c (oneC (allV seats (votesL l c))) seats, 0) := by
  unfold certX
  rw [if_neg (by simp [h]), if_pos h1]
theorem certX_no {l : List Stm} {c : Cs} {seats : List Int} (h : ckS c seats = 0) (h1 : ¬ (allV seats (votesL l c)).length = 1) : certX l c seats = (noCs, [], 11) := by
  unfold certX
  rw [if_neg (by simp [h]), if_neg h1]
theorem oneC_mem {A : List Ct} (h : A.length = 1) : oneC A ∈ A ∧ oneC A = el A 0 := by
  have e : oneC A = el A 0 := by rw [oneC, if_pos h]
  exact ⟨by rw [e]; exact el_mem (by omega), e⟩
/-- The certificate of what was decided is accepted. -/
theorem certX_chk {l : List Stm} {c : Cs} {seats : List Int} (h : ckS c seats = 0) (h1 : (allV seats (votesL l c)).length = 1) : chkX c (certL l c (oneC (allV seats (votesL l c))) seats) seats = (oneC (allV seats (votesL l c)), 0) :=
  chkX_of h (cert_chk (ckS_zero h).2.2.2 (oneC_mem h1).1)
theorem certL_big {l : List Stm} {c : Cs} {x : Ct} {seats : List Int} (hs : ∀ k ∈ seats, 0 ≤ k ∧ k < 64) (h : ∀ s ∈ l, bigS s) : ∀ s ∈ certL l c x seats, bigS s := fun s hs' => h s (certL_mem hs hs').1
theorem certL_le {l : List Stm} {c : Cs} {x : Ct} {seats : List Int} : (certL l c x seats).length ≤ l.length := by
  unfold certL kpf
  have h1 := kp_len (fun a b : Stm => decide (a.au = b.au)) (insL ltS (l.filter (forX c x seats))) (insL ltS (l.filter (forX c x seats))).length
  have h2 := insL_len woS (l.filter (forX c x seats))
  have h3 := List.length_filter_le (forX c x seats) l
  omega
theorem sortF_den (l : List Stm) (c : Cs) (x : Ct) (seats : List Int) (h : l.length < 20) :
    Den Tryz.prog 91 [.os 1000000 (l.filter (forX c x seats)).length, .fn 92 []] [.arr 44 13 false ((l.filter (forX c x seats)).map sm)] (.tup []) [] [.arr 44 13 false ((insL ltS (l.filter (forX c x seats))).map sm)] :=
  sortS1_den _ _ rfl (by have := List.length_filter_le (forX c x seats) l; omega)

set_option maxHeartbeats 1000000 in
set_option maxRecDepth 100000 in
theorem stays28_den (l : List Int) (turn : Int) : Den Tryz.prog 6 [.vs (l.map i1), .int .i64 turn] [] (.bool true) [] [] := by
  refine den_of Tryz.mixed Tryz.func6 rfl Tryz.call6 Tryz.ntmps6 (congrArg Array.toList Tryz.results6) (by simp) (by kernel_rfl) [] (exts := []) rfl rfl ?_
  by_cases h0 : l.length ≤ 400
  rotate_left
  · simp only [go_sem]
    refine call (light_den l) [] ?_
    simp only [go_sem, h0]
    refine call awake28_den [] ?_
    simp only [go_sem]
  have hl : big l.length := by simp only [big]; omega
  simp only [go_sem]
  refine call (light_den l) [] ?_
  simp only [go_sem, h0]
  refine call (roll9 l) [] ?_
  have m1 := mcase_le (Nat.zero_le l.length) 0
  have cm1 := mcase_den l 0 0 hl (Nat.zero_le _)
  have hcV := mcase_ok l 0 (ep := 0) ⟨by omega, by omega⟩
  generalize mcase l 0 0 = M1 at *
  obtain ⟨c, q2⟩ := M1
  simp only at m1 cm1 hcV
  have n1 := dkpos_le2 l 7 q2 m1
  have n2 := dkeys_max l (n := 7) (by omega) q2
  have n3 := dkeys_in l (n := 7) (by omega) q2
  have n4 := ckS_mill l (n := 7) (by omega) (by omega) q2 hcV
  have ck := keys_den l q2 7 hl m1 (by omega)
  generalize dkpos l 7 q2 = q3 at *
  generalize dkeys l 7 q2 = seats at *
  have cA := most_den l q3 c seats hl n1 (by omega)
  have pA := mostP_le n1 c seats
  have okA := mostGo_ok (l := l) (c := c) (seats := seats) (p := (mcont l q3 c).2) (mcont_ok l q3 c) seats.length
  have lnA := mostGo_len (l := l) (c := c) (x := (mcont l q3 c).1) (seats := seats) (p := (mcont l q3 c).2) seats.length
  have hA : mostGo l c (mcont l q3 c).1 seats (mcont l q3 c).2 seats.length = mostX l q3 c seats := rfl
  rw [hA] at okA lnA
  clear hA
  generalize (mostX l q3 c seats).2 = a at *
  generalize mostP l q3 c seats = q4 at *
  have u2 := mvotes_len l q4 c seats
  have u3 := mvotes_okS l q4 c seats
  have cv := votes_den l q4 c seats hl pA (by omega)
  generalize mvotes l q4 c seats = V at *
  obtain ⟨more, q5⟩ := V
  simp only at u2 u3 cv
  have gA : ∀ s ∈ a, bigS s := fun s hs => (okA s hs).big
  have gT : ∀ s ∈ turnS (a ++ more) turn, bigS s := fun s hs => by
    rcases List.mem_append.1 (turnS_mem hs) with h | h
    · exact gA s h
    · exact (u3 s h).big
  have tl : (turnS (a ++ more) turn).length = a.length + more.length := by simp [turnS]
  have ctu := mturn_den (a ++ more) turn (by simp; omega)
  have dA := all_den a c seats (by omega) gA (by omega)
  have dB := all_den (turnS (a ++ more) turn) c seats (by omega) gT (by omega)
  have dC := dcert_den a c seats (by omega) gA (by omega) fun x _ => sortF_den a c x seats (by omega)
  rw [n4, if_pos rfl] at dA dB
  have sub : ∀ x, x ∈ allV seats (votesL a c) → x ∈ allV seats (votesL (turnS (a ++ more) turn) c) := fun x hx => all_more (fun s hs => turnS_has (List.mem_append.2 (.inl hs))) hx
  have oX := allV_ok (seats := seats) (l := a) (c := c)
  have oZ := allV_ok (seats := seats) (l := turnS (a ++ more) turn) (c := c)
  have lX := allV_len (seats := seats) (l := a) (c := c)
  have lZ := allV_len (seats := seats) (l := turnS (a ++ more) turn) (c := c)
  have k0 : ∀ k ∈ seats, 0 ≤ k ∧ k < 64 := fun k hk => by have := n3 k hk; omega
  have kc := fun x => dCheck_den c (certL a c x seats) seats (by have := certL_le (l := a) (c := c) (x := x) (seats := seats); omega) (certL_big k0 gA) (by omega)
  have c1 := certX_one (l := a) n4
  have c0 := certX_no (l := a) n4
  have cX := certX_chk (l := a) n4
  have o1 := oneC_mem (A := allV seats (votesL a c))
  have oB := oneC_big (seats := seats) (l := a) (c := c)
  generalize certX a c seats = r at *
  generalize turnS (a ++ more) turn = tu at *
  generalize allV seats (votesL a c) = X at *
  generalize allV seats (votesL tu c) = Z at *
  rw [cs_eq] at cm1 cA cv dA dB dC
  simp only [go_sem]
  refine call cm1 [26] ?_
  simp only [go_sem]
  refine call ck [26] ?_
  simp only [go_sem]
  refine call cA [26] ?_
  simp only [go_sem]
  refine call cv [26] ?_
  simp only [go_sem]
  refine ⟨okD_of (by kernel_rfl), ?_⟩
  refine call dA [] ?_
  simp only [go_sem]
  (repeat refine And.intro (by first | omega | exact okD_of (by kernel_rfl)) ?_)
  rw [← List.map_append, ← List.length_append]
  refine call ctu [] ?_
  simp only [go_sem]
  refine call dB [] ?_
  simp only [go_sem]
  refine ⟨okD_of (by kernel_rfl), ?_⟩
  refine call dC [] ?_
  obtain ⟨C, L, g⟩ := r
  simp only [go_sem, ce_eq]
  have hg : (X.length = 1 ∧ C = c ∧ L = certL a c (oneC X) seats ∧ g = 0) ∨ (¬ X.length = 1 ∧ g = 11) := by
    by_cases h1 : X.length = 1
    · have := c1 h1
      simp only [Prod.mk.injEq] at this
      exact .inl ⟨h1, this.1, this.2.1, this.2.2⟩
    · have := c0 h1
      simp only [Prod.mk.injEq] at this
      exact .inr ⟨h1, this.2.2⟩
  have hd : decide (g = 0) = decide ((X.length : Int) = 1) := by
    rcases hg with ⟨h1, _, _, h2⟩ | ⟨h1, h2⟩
    · rw [decide_eq_true h2, decide_eq_true (by omega)]
    · rw [decide_eq_false (by omega), decide_eq_false (by omega)]
  refine ⟨Tryz.underlying4, fun h => absurd hd h, fun _ => ?_⟩
  refine loop Tryz.mixed 0 (fun i : Nat => [(7, .vs (seats.map i1)), (10, .vs (X.map ct)), (12, .vs (Z.map ct)), (14, .ptr 14 0), (15, .int .i64 g), (16, .int .i64 i)]) (fun _ => [(14, .cells [.int .i64 C.ep, .int .i64 C.kd, .int .i64 C.su, .int .i64 C.ro, .vs (L.map sm)])]) (fun i => i ≤ X.length) (fun i => X.length - i) (by kernel_rfl) (Nat.zero_le _) ?_ ?_
  · simp only [go_sem]
  · intro i hi
    by_cases hlt : i < X.length
    · have h1 : (i : Int) < (X.length : Int) := by omega
      have hmem := sub _ (el_mem hlt)
      have q1 := oX _ (el_mem hlt)
      simp only [go_sem, h1]
      refine loop Tryz.mixed (0, false) (fun s : Nat × Bool => [(7, .vs (seats.map i1)), (10, .vs (X.map ct)), (12, .vs (Z.map ct)), (14, .ptr 14 0), (15, .int .i64 g), (16, .int .i64 i), (17, .bool s.2), (18, .int .i64 s.1)]) (fun _ => [(14, .cells [.int .i64 C.ep, .int .i64 C.kd, .int .i64 C.su, .int .i64 C.ro, .vs (L.map sm)])]) (fun s => s.1 ≤ Z.length ∧ (s.2 = true ↔ ∃ j, j < s.1 ∧ el Z j = el X i)) (fun s => Z.length - s.1) (by kernel_rfl) ⟨Nat.zero_le _, by simp⟩ ?_ ?_
      · simp only [go_sem]
      · rintro ⟨k, f⟩ ⟨hk, hf⟩
        simp only at hk hf
        by_cases hkl : k < Z.length
        · have h2 : (k : Int) < (Z.length : Int) := by omega
          have q2 := oZ _ (el_mem hkl)
          cases f with
          | true =>
            obtain ⟨j, hj, e⟩ := hf.1 rfl
            simp only [go_sem, h2]
            exact ⟨okD_of (by kernel_rfl), (k + 1, true), ⟨⟨by simp only; omega, ⟨fun _ => ⟨j, by simp only; omega, e⟩, fun _ => rfl⟩⟩, by simp only; omega⟩, rfl, by simp only; rw [wrapI] <;> omega⟩
          | false =>
            have hno : ¬ ∃ j, j < k ∧ el Z j = el X i := fun h => by have := hf.2 h; cases this
            simp only [go_sem, h2, hlt, hkl]
            refine call (order23_den (el X i) (el Z k) q1.1 q1.2 q2.1 q2.2) [] ?_
            by_cases z : ordC (el X i) (el Z k) = 0
            · have z2 := (ordC_eq _ _).1 z
              simp only [go_sem, z]
              exact ⟨okD_of (by kernel_rfl), (k + 1, true), ⟨⟨by simp only; omega, ⟨fun _ => ⟨k, by simp, z2.symm⟩, fun _ => rfl⟩⟩, by simp only; omega⟩, rfl, by simp only; rw [wrapI] <;> omega⟩
            · have z2 : ¬ el Z k = el X i := fun e => z ((ordC_eq _ _).2 e.symm)
              simp only [go_sem, z]
              refine ⟨okD_of (by kernel_rfl), (k + 1, false), ⟨⟨by simp only; omega, ⟨fun h => by simp at h, ?_⟩⟩, by simp only; omega⟩, rfl, by simp only; rw [wrapI] <;> omega⟩
              rintro ⟨j, hj, e⟩
              rcases Nat.lt_succ_iff_lt_or_eq.1 hj with h | rfl
              · exact absurd ⟨j, h, e⟩ hno
              · exact absurd e z2
        · have h2 : ¬ (k : Int) < (Z.length : Int) := by omega
          have hf1 : f = true := hf.2 (by
            obtain ⟨j, hj, e⟩ := mem_el hmem
            exact ⟨j, by omega, e.symm⟩)
          subst hf1
          simp only [go_sem, h2]
          exact ⟨i + 1, ⟨by omega, by omega⟩, by rw [wrapI] <;> omega⟩
    · have h1 : ¬ (i : Int) < (X.length : Int) := by omega
      rcases hg with ⟨g1, rfl, rfl, rfl⟩ | ⟨g1, rfl⟩
      · have c2 := kc (oneC X)
        have e1 := cX g1
        rw [e1, ce_eq] at c2
        have e2 := (o1 g1).2
        have h3 : 0 < X.length := by omega
        rw [e2] at c2 oB
        have co := order23_den (el X 0) (el X 0) oB.1 oB.2 oB.1 oB.2
        rw [(ordC_eq _ _).2 rfl] at co
        rw [e2]
        simp only [go_sem, h1]
        refine call c2 [] ?_
        simp only [go_sem, h3]
        refine ⟨by omega, ?_⟩
        refine call co [] ?_
        simp only [go_sem]
        refine call awake28_den [] ?_
        simp only [go_sem]
        exact okD_of (by kernel_rfl)
      · simp only [go_sem, h1]
        refine call awake28_den [] ?_
        simp only [go_sem]
end Go.Proofs.Am
