/- WTwo. -/
import Derived.Test.YtdfieogkeinkmaaGreatDoorWOne
import Derived.Test.YtdfieogkeinkmaaGreatDoorMTwo
import Derived.Test.YtdfieogkeinkmaaGreatDoorMSix
set_option linter.unusedSimpArgs false
set_option linter.unusedVariables false
namespace Go.Proofs.Am
open Go Go.RowKit
open Go.Proofs
set_option maxHeartbeats 1000000 in
set_option maxRecDepth 100000 in
theorem valid05_den : Den Tryz.prog 36 [.agg [.vs []]] [] (.bool true) [] [] := by
  refine den_of Tryz.mixed Tryz.func36 rfl Tryz.call36 Tryz.ntmps36 (congrArg Array.toList Tryz.results36) (by simp) (by kernel_rfl) [] (exts := []) rfl rfl ?_
  simp only [go_sem]
  refine loop Tryz.mixed (0 : Nat) (fun i : Nat => [(1, .ptr 1 0), (3, .int .i64 0)]) (fun i => [(1, .cells [.vs []])]) (fun i => True) (fun i => 0) (by kernel_rfl) trivial ?_ ?_
  · simp only [go_sem]
  · rintro i -
    simp only [go_sem]
    done
structure LinkP (r : Rl) (L : List Stm) (T : List Tm) (i : Nat) : Prop where
  ok : OkT (el T i)
  ep : (el T i).ep = i
  of : ofG r (el T i).bea (el T i).ros (rcase i) = (stS r (el T i), 0)
  ck : ckS (rcase i) (stS r (el T i)) = 0
  dec : (el T i).dec = decide ((stA r L (el T i)).length = 1)
  nx : (el T i).nx = oneC (stA r L (el T i))
  next : i + 1 < T.length → (el T i).dec = true ∧ decL (el T i).nx.li = ((el T (i + 1)).ros, 0) ∧ nextV (el T i).bea i (el T i).nx.li = (el T (i + 1)).bea ∧ (el T i).nx.li.length = 2
theorem linkP {r : Rl} {L : List Stm} (hr : ruleE r = 0) {i : Nat} (hi : i < (termsX r L).length) : LinkP r L (termsX r L) i := by
  obtain ⟨h1, h2, h3, h4⟩ := termsX_spec hr L hi
  have h5 := seatsR_st hr h1
  unfold seatsR at h5
  rw [if_neg (by simp [rcase]), h2, ← ofG_32 h1.bea] at h5
  have h6 := stS_ck hr h1
  rw [h2] at h6
  have hf : fillT r L (el (termsX r L) i) = { el (termsX r L) i with dec := decide ((stA r L (el (termsX r L) i)).length = 1), nx := oneC (stA r L (el (termsX r L) i)) } := rfl
  refine ⟨h1, h2, h5, h6, ?_, ?_, fun h => ?_⟩
  · conv => lhs; rw [← h3, hf]
  · conv => lhs; rw [← h3, hf]
  · obtain ⟨w, a1, a2⟩ := h4 h
    obtain ⟨b1, b2, rfl⟩ := afterT_some a1
    rw [a2]
    refine ⟨b1, by rw [show (fillT r L _).ros = (decL (el (termsX r L) i).nx.li).1 from rfl, ← b2], by rw [← h2]; rfl, (decL_ros b2).1.1⟩
set_option maxHeartbeats 1000000 in
set_option maxRecDepth 100000 in
theorem links_den (l : List Int) : Den Tryz.prog 5 [.vs (l.map i1)] [] (.bool true) [] [] := by
  refine den_of Tryz.mixed Tryz.func5 rfl Tryz.call5 Tryz.ntmps5 (congrArg Array.toList Tryz.results5) (by simp) (by kernel_rfl) [] (exts := []) rfl rfl ?_
  by_cases h400 : l.length ≤ 400
  rotate_left
  · have hd : decide (l.length ≤ 400) = false := decide_eq_false h400
    simp only [go_sem]
    refine call (light_den l) [] ?_
    simp only [go_sem, hd]
    refine call awake29_den [] ?_
    simp only [go_sem]
  have hd : decide (l.length ≤ 400) = true := decide_eq_true h400
  have hl : big l.length := by simp only [big]; omega
  have c1 := chain_den l 0 hl (Nat.zero_le _)
  have hB := mrules_RlB l 0
  have hr := mrules_ok l 0
  have hI := chainX_ok (l := l) (p := 0) (Nat.zero_le _)
  have hLl := hI.len
  have hLo : ∀ s ∈ (chainX l 0).L, bigS s := fun s hs => (hI.ok s hs).ok.big
  generalize chainX l 0 = X at *
  obtain ⟨p, L, ros, v⟩ := X
  generalize mrules l 0 = r at *
  simp only at c1 hLl hLo
  clear hI
  have t1 := termsP_den r L hB (by omega) hLo
  rw [termsE_ok hr] at t1
  have hT := fun i (hi : i < (termsX r L).length) => linkP hr hi
  have h0 : (el (termsX r L) 0).ros = r.gen := rfl
  have hT0 := termsX_pos r L
  have hT40 := termsX_len r L
  generalize termsX r L = T at *
  have cI := sameInts_den r.gen r.gen (by have := hB.g; simp only [big]; omega) (by have := hB.g; simp only [big]; omega)
  have e0 : ¬ (T.length : Int) = 0 := by omega
  have u4 : Tryz.prog.underlying 4 = some .bool := by kernel_rfl
  have hRl : rl r = [.vs (r.gen.map i1), .vs (r.pol.se.map i1), .vs (r.pol.ta.map i1), .int .i64 r.pol.lv, .int .i64 r.seats, .int .i64 r.span, .int .i64 r.quota] := rfl
  rw [rl_eq] at c1 t1
  simp only [go_sem]
  refine call (light_den l) [] ?_
  simp only [go_sem, hd]
  refine call (roll9 l) [] ?_
  simp only [go_sem]
  refine call c1 [25] ?_
  simp only [go_sem]
  refine call t1 [] ?_
  simp only [go_sem, e0, hT0, h0]
  refine ⟨by omega, call cI [] ?_⟩
  simp only [go_sem]
  rw [← hRl]
  refine ⟨okD_of (by kernel_rfl), ?_⟩
  refine loop Tryz.mixed (0 : Nat) (fun i : Nat => [(4, .ptr 4 0), (5, .vs (L.map sm)), (6, .vs (T.map tm)), (8, .int .i64 i)]) (fun i => [(4, .cells (rl r))]) (fun i => i ≤ T.length) (fun i => T.length - i) (by kernel_rfl) (Nat.zero_le _) ?_ ?_
  · simp only [go_sem]
  · intro i hi
    by_cases h : i < T.length
    · have hlt : (i : Int) < (T.length : Int) := by omega
      have P := hT i h
      have cV := ros24 (el T i).ros (by have := P.ok.len; simp only [big]; omega)
      rw [P.ok.ros] at cV
      have cR := roster_den i
      have cO := ofG_den r (el T i).bea (el T i).ros (rcase i) (by have := hB.g; simp only [big]; omega) (by have := hB.s; simp only [big]; omega) (by have := hB.t; simp only [big]; omega) (by have := P.ok.len; simp only [big]; omega)
      rw [P.of] at cO
      have hSl := stS_len (r := r) (t := el T i) hr
      have cC := rcert_den L (rcase i) (stS r (el T i)) (by omega) hLo (by simp only [big]; omega)
      have hC : cs (rcase (i : Int)) = [.int .i64 i, .int .i64 1, .int .i64 0, .int .i64 0] := rfl
      have hC' : cs ⟨(i : Int), 1, 0, 0⟩ = [.int .i64 i, .int .i64 1, .int .i64 0, .int .i64 0] := rfl
      have hep := P.ep
      have w1 : IntKind.i64.wrap ((T.length : Int) - 1) = (T.length : Int) - 1 := by rw [wrapI] <;> omega
      have w2 : IntKind.i64.wrap ((i : Int) + 1) = ((i + 1 : Nat) : Int) := by rw [wrapI] <;> omega
      rw [hC'] at cR
      rw [hC, rl_eq] at cO
      rw [hC] at cC
      rw [rl_eq]
      by_cases hlast : i + 1 < T.length
      · have hl1 : (i : Int) < (T.length : Int) - 1 := by omega
        have hl2 : ¬ (i : Int) = (T.length : Int) - 1 := by omega
        obtain ⟨hdec, hde, hnv, hn2⟩ := P.next hlast
        have hone : (stA r L (el T i)).length = 1 := by have := P.dec; rw [hdec] at this; exact of_decide_eq_true this.symm
        simp only [go_sem, hlt, h, hep, w1, hl1]
        refine call cV [] ?_
        simp only [go_sem, hdec, w1, hl1, h]
        refine call cR [] ?_
        simp only [go_sem, h]
        have hk64 : ∀ k ∈ stS r (el T i), 0 ≤ k ∧ k < 64 := (ckS_zero P.ck).2.2.2
        have cK := rCheck_den (rcase i) (certL L (rcase i) (oneC (allV (stS r (el T i)) (votesL L (rcase i)))) (stS r (el T i))) (stS r (el T i)) (by have := certL_le (l := L) (c := rcase i) (x := oneC (allV (stS r (el T i)) (votesL L (rcase i)))) (seats := stS r (el T i)); omega) (certL_big hk64 hLo) (by omega)
        have hA : stA r L (el T i) = allV (stS r (el T i)) (votesL L (rcase i)) := by rw [← hep]; rfl
        have hnx := P.nx
        rw [hA] at hone hnx
        rw [certX_one P.ck hone] at cC
        rw [certX_chk P.ck hone, ← hnx] at cK
        rw [← hnx] at cC
        have hnb : bigC (el T i).nx := by rw [hnx]; exact oneC_big
        have cD := rdec_den (el T i).nx.li hnb.1
        rw [hde] at cD
        have cN := rnext_den (el T i).bea i (el T i).nx.li P.ok.bea (by omega) (by omega) (by omega)
        rw [hnv] at cN
        have cE := order23_den (el T i).nx (el T i).nx hnb.1 hnb.2 hnb.1 hnb.2
        rw [(ordC_eq _ _).2 rfl] at cE
        have Q := (hT (i + 1) hlast).ok.len
        have cJ := sameInts_den (el T (i + 1)).ros (el T (i + 1)).ros (by simp only [big]; omega) (by simp only [big]; omega)
        rw [decide_eq_true rfl] at cJ
        generalize certL L (rcase i) (el T i).nx (stS r (el T i)) = Z at *
        have hce : ce (rcase (i : Int)) Z = [.int .i64 i, .int .i64 1, .int .i64 0, .int .i64 0, .vs (Z.map sm)] := rfl
        simp only [hce] at cC
        rw [hce, ct_eq] at cK
        rw [ct_eq] at cE
        refine call cO [] ?_
        simp only [go_sem]
        refine ⟨okD_of (by kernel_rfl), call cC [] ?_⟩
        simp only [go_sem, h, hdec, w1, hl2, u4]
        refine call cK [] ?_
        simp only [go_sem]
        refine call cD [] ?_
        simp only [go_sem, h]
        refine call cN [] ?_
        simp only [go_sem, h]
        refine ⟨okD_of (by kernel_rfl), call cE [] ?_⟩
        simp only [go_sem, h, w2, hlast]
        refine call cJ [] ?_
        simp only [go_sem, h, w2, hlast]
        exact ⟨okD_of (by kernel_rfl), i + 1, ⟨by omega, by omega⟩, rfl⟩
      · have hl1 : ¬ (i : Int) < (T.length : Int) - 1 := by omega
        have w3 : IntKind.i64.wrap ((T.length : Int) - 1) = (i : Int) := by rw [wrapI] <;> omega
        have hl2 : (i : Int) = (T.length : Int) - 1 := by omega
        simp only [go_sem, hlt, h, hep, w1, hl1]
        refine call cV [] ?_
        simp only [go_sem, w1, hl1, h]
        refine call cR [] ?_
        simp only [go_sem, h]
        refine call cO [] ?_
        simp only [go_sem]
        by_cases hone : (stA r L (el T i)).length = 1
        · have hdec : (el T i).dec = true := by rw [P.dec, decide_eq_true hone]
          have hA : stA r L (el T i) = allV (stS r (el T i)) (votesL L (rcase i)) := by rw [← hep]; rfl
          rw [hA] at hone
          rw [certX_one P.ck hone] at cC
          generalize certL L (rcase i) (oneC (allV (stS r (el T i)) (votesL L (rcase i)))) (stS r (el T i)) = Z at *
          have hce : ce (rcase (i : Int)) Z = [.int .i64 i, .int .i64 1, .int .i64 0, .int .i64 0, .vs (Z.map sm)] := rfl
          simp only [hce] at cC
          refine ⟨okD_of (by kernel_rfl), call cC [] ?_⟩
          simp only [go_sem, h, hdec, w3, u4]
          exact ⟨i + 1, ⟨by omega, by omega⟩, by rw [wrapI] <;> omega⟩
        · have hdec : (el T i).dec = false := by rw [P.dec, decide_eq_false hone]
          have hA : stA r L (el T i) = allV (stS r (el T i)) (votesL L (rcase i)) := by rw [← hep]; rfl
          rw [hA] at hone
          rw [certX_no P.ck hone] at cC
          have hce : ce noCs [] = [.int .i64 0, .int .i64 0, .int .i64 0, .int .i64 0, .vs []] := rfl
          simp only [hce] at cC
          refine ⟨okD_of (by kernel_rfl), call cC [] ?_⟩
          simp only [go_sem, h, hdec, u4]
          exact ⟨i + 1, ⟨by omega, by omega⟩, by rw [wrapI] <;> omega⟩
    · have hlt : ¬ (i : Int) < (T.length : Int) := by omega
      simp only [go_sem, hlt]
      refine call valid05_den [] ?_
      simp only [go_sem]
      refine call awake29_den [] ?_
      simp only [go_sem]
end Go.Proofs.Am
