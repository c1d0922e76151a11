/- WTwo. -/
import Derived.Test.YtdfieogkeinkmaaGreatDoorWOne
import Derived.Test.YtdfieogkeinkmaaGreatDoorMTwo
import Derived.Test.YtdfieogkeinkmaaGreatDoorMSix
import Derived.Test.YtdfieogkeinkmaaGreatDoorEOne
import Derived.Test.YtdfieogkeinkmaaGreatDoorB17
import Derived.Test.YtdfieogkeinkmaaGreatDoorMOne
set_option linter.unusedSimpArgs false
set_option linter.unusedVariables false
namespace Go.Proofs.Am
open Go Go.RowKit
open Go.Proofs
structure LinkP (r : Rl) (L : List Stm) (T : List Tm) (i : Nat) : Prop where
  ok : OkT (el T i)
  ep : (el T i).ep = i
  of : ofG r (el T i).bea (el T i).ros (rcase i) = (stS r (el T i), 0)
  ck : ckS (rcase i) (stS r (el T i)) = 0
  dec : (el T i).dec = decide ((stA r L (el T i)).length = 1)
  nx : (el T i).nx = oneC (stA r L (el T i))
  next : i + 1 < T.length → (el T i).dec = true ∧ decL (el T i).nx.li = ((el T (i + 1)).ros, 0) ∧ nextV (el T i).bea i (el T i).nx.li = (el T (i + 1)).bea ∧ (el T i).nx.li.length = 2
theorem linkP {r : Rl} {L : List Stm} (hr : ruleE r = 0) {i : Nat} (hi : i < (termsX r L).length) : LinkP r L (termsX r L) i := by
  obtain ⟨h1, h2, h3, h4⟩ := termsX_spec hr L hi
  have h5 := seatsR_st hr h1
  unfold seatsR at h5
  rw [if_neg (by simp [rcase]), h2, ← ofG_32 h1.bea] at h5
  have h6 := stS_ck hr h1
  rw [h2] at h6
  have hf : fillT r L (el (termsX r L) i) = { el (termsX r L) i with dec := decide ((stA r L (el (termsX r L) i)).length = 1), nx := oneC (stA r L (el (termsX r L) i)) } := rfl
  refine ⟨h1, h2, h5, h6, ?_, ?_, fun h => ?_⟩
  · conv => lhs; rw [← h3, hf]
  · conv => lhs; rw [← h3, hf]
  · obtain ⟨w, a1, a2⟩ := h4 h
    obtain ⟨b1, b2, rfl⟩ := afterT_some a1
    rw [a2]
    refine ⟨b1, by rw [show (fillT r L _).ros = (decL (el (termsX r L) i).nx.li).1 from rfl, ← b2], by rw [← h2]; rfl, (decL_ros b2).1.1⟩
end Go.Proofs.Am

/- The law SuccessionGrows, walked. -/
namespace Go.Proofs.Am
open Go Go.RowKit
open Go.Proofs
end Go.Proofs.Am

/- The law SuccessionSeats, walked. -/
namespace Go.Proofs.Am
open Go Go.RowKit
open Go.Proofs
theorem mdraft_small (l : List Int) (p : Nat) (me : Int) (n : Nat) (ti : Int) (hp : p ≤ l.length) (hn : n ≤ 1000) : ((mdraft l p me n ti).1.li.length ≤ 1000 ∧ (mdraft l p me n ti).1.pins = []) ∧ (mdraft l p me n ti).2 ≤ l.length := by
  have h1 := dpos_le hp
  have h2 := dpos_le h1
  have h3 := dpos_le h2
  have h4 := dpos_le h3
  have hg : (mguard l (dpos l (dpos l p)) me n).length ≤ 64 := keysW_len _ 64
  have hd := dsome_len l n 0 (dpos l (dpos l (dpos l p)))
  have hk := dkpos_le l n (dpos l (dpos l p)) h2
  have hk2 := dpos_le hk
  have hs := dskip_le l n (dpos l (dpos l (dpos l p))) h3
  unfold mdraft
  simp only
  split
  · exact ⟨⟨by simp, rfl⟩, h3⟩
  split
  · exact ⟨⟨by simp [appD], rfl⟩, h2⟩
  split
  · exact ⟨⟨by simp only; omega, rfl⟩, hk2⟩
  split
  · exact ⟨⟨by simp, rfl⟩, h3⟩
  split
  · exact ⟨⟨by simp only; omega, rfl⟩, hs⟩
  split
  · exact ⟨⟨by simp, rfl⟩, h4⟩
  · exact ⟨⟨by simp, rfl⟩, h4⟩
theorem stmt_okS9 (au nu ti : Int) (d : Drf) (h1 : d.li.length ≤ 1000) (h2 : d.pins = []) : okS (stmt au nu ti d) := by
  have : okS (sealS ⟨au, nu, if 0 < nu then List.replicate 32 0 else [], ti, d.kd, d.a, d.b, d.c, d.li, d.pins, [], 0, []⟩) := by
    simp only [okS, sealS, stB, pre2, pre1, hdB, List.length_append, beL_len, be8_len, txB_len, l5, List.length_cons, List.length_nil, h2, List.flatMap_nil]
    split <;> simp <;> omega
  exact this
theorem mdraft_kd (l : List Int) (p : Nat) (me : Int) (n : Nat) (ti : Int) : (mdraft l p me n ti).1.kd ≠ 10 := by
  unfold mdraft
  simp only
  (repeat' split) <;> simp [appD]
theorem okV_kd {au nu ti : Int} {d : Drf} {c : Cs} (h : d.kd ≠ 10) : okV c (stmt au nu ti d) = false := by
  have hk : (stmt au nu ti d).kd = d.kd := rfl
  have he : (ofE (stmt au nu ti d)).2 ≠ 0 := by
    unfold ofE
    split
    · assumption
    · rw [if_neg (fun hh => h (hk ▸ hh.1))]
      simp
  simp [okV, voteE, he]
def seX (l : List Int) (s : Nat × List Stm) : Ct × Nat := mcont l (dgo l s.1 1) (rcase (dnext l s.1 3))
def seD (l : List Int) (s : Nat × List Stm) : Drf × Nat := mdraft l (dgo l (seX l s).2 1) 0 6 3
def seStep (l : List Int) (i : Nat) (s : Nat × List Stm) : Nat × List Stm :=
  ((seD l s).2, s.2 ++ [vt (40 + i) 0 (rcase (dnext l s.1 3)) (seX l s).1, stmt (dnext l (seX l s).2 7) 50 0 (seD l s).1])
def seGo (l : List Int) (p : Nat) : Nat → Nat × List Stm
  | 0 => (p, [])
  | i + 1 => seStep l i (seGo l p i)
structure SeI (l : List Int) (i : Nat) (s : Nat × List Stm) : Prop where
  p : s.1 ≤ l.length
  len : s.2.length = 2 * i
  ok : ∀ t ∈ s.2, okS t ∧ ∀ c, okV c t = true → 32 < t.au
theorem seStep_ok {l : List Int} {i : Nat} {s : Nat × List Stm} (h : SeI l i s) : SeI l (i + 1) (seStep l i s) := by
  have h1 : (seX l s).2 ≤ l.length := mcont_le (dgo_le h.p 1) _
  have h2 := mdraft_small l (dgo l (seX l s).2 1) 0 6 3 (dgo_le h1 1) (by omega)
  refine ⟨h2.2, ?_, fun t ht => ?_⟩
  · show (s.2 ++ [_, _]).length = _
    rw [List.length_append, h.len]
    simp
    omega
  · rcases List.mem_append.1 ht with ht | ht
    · exact h.ok t ht
    · rcases List.mem_cons.1 ht with rfl | ht
      · refine ⟨vt_okS _ _ _ (mcont_ok _ _ _), fun c _ => ?_⟩
        show (32 : Int) < 40 + i
        omega
      · rw [List.mem_singleton] at ht
        subst ht
        exact ⟨stmt_okS9 _ _ _ _ h2.1.1 h2.1.2, fun c hc => by
          have h9 : okV c (stmt (dnext l (seX l s).2 7) 50 0 (seD l s).1) = false := okV_kd (mdraft_kd _ _ _ _ _)
          rw [h9] at hc
          cases hc⟩
theorem seGo_ok {l : List Int} {p : Nat} (hp : p ≤ l.length) : ∀ i, SeI l i (seGo l p i)
  | 0 => ⟨hp, rfl, fun t ht => by simp [seGo] at ht⟩
  | i + 1 => seStep_ok (seGo_ok hp i)
set_option maxHeartbeats 1000000 in
set_option maxRecDepth 100000 in
theorem seats29_den (l : List Int) : Den Tryz.prog 6 [.vs (l.map i1)] [] (.bool true) [] [] := by
  refine den_of Tryz.mixed Tryz.func6 rfl Tryz.call6 Tryz.ntmps6 (congrArg Array.toList Tryz.results6) (by simp) (by kernel_rfl) [] (exts := []) rfl rfl ?_
  by_cases h400 : l.length ≤ 400
  rotate_left
  · have hd : decide (l.length ≤ 400) = false := decide_eq_false h400
    simp only [go_sem]
    refine call (light_den l) [] ?_
    simp only [go_sem, hd]
    refine call awake29_den [] ?_
    simp only [go_sem]
  have hd : decide (l.length ≤ 400) = true := decide_eq_true h400
  have hl : big l.length := by simp only [big]; omega
  have c1 := chain_den l 0 hl (Nat.zero_le _)
  have hB := mrules_RlB l 0
  have hr := mrules_ok l 0
  have hg32 := mrules_gen l 0
  have hI := chainX_ok (l := l) (p := 0) (Nat.zero_le _)
  have hLl := hI.len
  have hLp := hI.p
  have hLv := hI.ok
  have hLo : ∀ s ∈ (chainX l 0).L, bigS s := fun s hs => (hI.ok s hs).ok.big
  generalize chainX l 0 = X at *
  obtain ⟨p, L, ros, v⟩ := X
  generalize mrules l 0 = r at *
  simp only at c1 hLl hLo hLp hLv
  clear hI
  have t1 := termsP_den r L hB (by omega) hLo
  rw [termsE_ok hr] at t1
  have hT := fun i (hi : i < (termsX r L).length) => linkP (L := L) hr hi
  have hT0 := termsX_pos r L
  have hT40 := termsX_len r L
  have hTb := terms_bigT (r := r) (L := L) hr
  generalize hTT : termsX r L = T at *
  have e0 : ¬ (T.length : Int) = 0 := by omega
  have bj := dnext_lt (l := l) (p := p) (n := (T.length : Int)) (by omega)
  obtain ⟨j, hj⟩ : ∃ j : Nat, dnext l p T.length = (j : Int) := ⟨(dnext l p T.length).toNat, by omega⟩
  rw [hj] at bj
  have hjl : j < T.length := by omega
  have P := hT j hjl
  have hpe : dpos l p = dgo l p 1 := rfl
  have hp1 := dgo_le hLp 1
  have c3 := mcase_den l (dgo l p 1) (el T j).ep hl hp1
  have hc := mcase_ok l (dgo l p 1) ⟨P.ok.lo, P.ok.hi⟩
  have hce : (mcase l (dgo l p 1) (el T j).ep).1.ep = (el T j).ep := by unfold mcase; split <;> rfl
  have hp2 := mcase_le hp1 (el T j).ep
  generalize mcase l (dgo l p 1) (el T j).ep = C at *
  obtain ⟨c, p2⟩ := C
  simp only at c3 hc hce hp2
  have cS := seatsP_den r (el T j) c hB (by have := P.ok.len; simp only [big]; omega)
  rw [seatsG_32 P.ok.bea] at cS
  obtain ⟨s1, s2, s3, _⟩ := seatsR_any hr P.ok hc hce
  have sl := seatsR_len r (el T j) c
  generalize seatsR r (el T j) c = S at *
  obtain ⟨S, g⟩ := S
  simp only at s1 s2 s3 cS sl
  have hRl : rl r = [.vs (r.gen.map i1), .vs (r.pol.se.map i1), .vs (r.pol.ta.map i1), .int .i64 r.pol.lv, .int .i64 r.seats, .int .i64 r.span, .int .i64 r.quota] := rfl
  rw [rl_eq] at c1 t1 cS
  rw [tm_eq, cs_eq] at cS
  rw [cs_eq] at c3
  simp only [go_sem]
  refine call (light_den l) [] ?_
  simp only [go_sem, hd]
  refine call (roll9 l) [] ?_
  simp only [go_sem]
  refine call c1 [23] ?_
  simp only [go_sem]
  refine call t1 [] ?_
  simp only [go_sem, e0]
  refine call (next_den l p T.length hl hLp (by omega)) [23] ?_
  simp only [go_sem, hj, hjl, hpe]
  refine call c3 [23] ?_
  simp only [go_sem]
  refine call cS [] ?_
  have hsum := seGo_ok (l := l) (p := p2) hp2
  have hG0 : seGo l p2 0 = (p2, []) := rfl
  have hG1 : ∀ i, seGo l p2 (i + 1) = seStep l i (seGo l p2 i) := fun i => rfl
  have hex : termsX r (L ++ (seGo l p2 6).2) = T := by rw [← hTT]; exact terms_extra hLv hg32 fun s hs c hc => ((hsum 6).ok s hs).2 c hc
  have t2 := termsP_den r (L ++ (seGo l p2 6).2) hB (by rw [List.length_append, (hsum 6).len]; omega) fun s hs => by
    rcases List.mem_append.1 hs with hs | hs
    · exact hLo s hs
    · exact ((hsum 6).ok s hs).1.big
  rw [termsE_ok hr, hex, rl_eq] at t2
  have cE := sameTs_den T T (by simp only [big]; omega) (by simp only [big]; omega) hTb hTb
  rw [decide_eq_true rfl] at cE
  generalize seGo l p2 = G at *
  rcases s1 with s1 | s1 <;> subst s1
  all_goals
    simp only [go_sem]
    refine loop Tryz.mixed (0 : Nat) (fun i : Nat => [(3, .ptr 23 0), (4, .ptr 4 0), (5, .vs (L.map sm)), (6, .vs (T.map tm)), (8, .ptr 8 0), (10, .vs (S.map i1)), (12, .int .i64 i)]) (fun i => [(23, dbox l p2), (4, .cells (rl r)), (8, .cells (tm (el T j)))]) (fun i => i ≤ S.length) (fun i => S.length - i) (by kernel_rfl) (Nat.zero_le _) ?_ ?_
    · simp only [go_sem]
    · intro i hi
      by_cases h : i < S.length
      · have hlt : (i : Int) < (S.length : Int) := by omega
        have m1 := s3 _ (el_mem h)
        have m2 := mem_take_lt s2 h
        have k1 := has24 (el T j).ros (el S i) (by have := P.ok.len; simp only [big]; omega)
        have k2 := has24 (S.take i) (el S i) (by rw [List.length_take]; simp only [big]; omega)
        rw [decide_eq_true m1] at k1
        rw [decide_eq_false m2] at k2
        simp only [go_sem, hlt, h]
        refine call k1 [] ?_
        simp only [go_sem, h]
        refine ⟨⟨by omega, Nat.le_refl _⟩, call k2 [] ?_⟩
        simp only [go_sem]
        exact ⟨okD_of (by kernel_rfl), i + 1, ⟨by omega, by omega⟩, by rw [wrapI] <;> omega⟩
      · have hlt : ¬ (i : Int) < (S.length : Int) := by omega
        simp only [go_sem, hlt]
        refine ⟨by omega, ?_⟩
        refine loop Tryz.mixed (0 : Nat) (fun i : Nat => [(3, .ptr 23 0), (4, .ptr 4 0), (6, .vs (T.map tm)), (13, .os 90 (L ++ (G i).2).length), (14, .int .i64 i)]) (fun i => [(23, dbox l (G i).1), (4, .cells (rl r)), (90, .arr 41 13 false ((L ++ (G i).2).map sm))]) (fun i => i ≤ 6) (fun i => 6 - i) (by kernel_rfl) (Nat.zero_le _) ?_ ?_
        · rw [hG0, List.append_nil]
          simp only [go_sem]
        · intro i hi
          have hsi := hsum i
          by_cases h : i < 6
          · have hlt : (i : Int) < 6 := by omega
            have hst := hG1 i
            rw [seStep] at hst
            generalize G i = g at *
            obtain ⟨q, M⟩ := g
            have hq := hsi.p
            have hM := hsi.len
            simp only at hq hM hst
            have e1 : dpos l q = dgo l q 1 := rfl
            have hq1 := dgo_le hq 1
            have be := dnext_lt (l := l) (p := q) (n := 3) (by omega)
            have w40 : IntKind.i64.wrap (40 + (i : Int)) = 40 + (i : Int) := by rw [wrapI] <;> omega
            have hX : seX l (q, M) = mcont l (dgo l q 1) (rcase (dnext l q 3)) := rfl
            have hD : seD l (q, M) = mdraft l (dgo l (seX l (q, M)).2 1) 0 6 3 := rfl
            have cR := roster_den (dnext l q 3)
            have cX := content_den l (dgo l q 1) (rcase (dnext l q 3)) hl hq1
            have oX := mcont_ok l (dgo l q 1) (rcase (dnext l q 3))
            have lX := mcont_le hq1 (rcase (dnext l q 3))
            rw [← hX] at cX oX lX
            generalize seX l (q, M) = X at *
            obtain ⟨x, q2⟩ := X
            simp only at cX oX lX hst hD
            have lX1 := dgo_le lX 1
            have e2 : dpos l q2 = dgo l q2 1 := rfl
            have cD := mdraft_den l (dgo l q2 1) 0 6 3 hl lX1 (by omega) (by omega)
            have sD := mdraft_small l (dgo l q2 1) 0 6 3 lX1 (by omega)
            rw [← hD] at cD sD
            generalize seD l (q, M) = D at *
            obtain ⟨D, q4⟩ := D
            simp only at cD sD hst
            have hK : cs (rcase (dnext l q 3)) = [.int .i64 (dnext l q 3), .int .i64 1, .int .i64 0, .int .i64 0] := rfl
            have hK' : cs ⟨dnext l q 3, 1, 0, 0⟩ = [.int .i64 (dnext l q 3), .int .i64 1, .int .i64 0, .int .i64 0] := rfl
            have cv := vote_den (40 + (i : Int)) 0 (rcase (dnext l q 3)) x oX
            have cT := stmt_den (dnext l q2 7) 50 0 D sD.1.1 sD.1.2
            rw [hK'] at cR
            rw [hK] at cX cv
            rw [ct_eq] at cX cv
            rw [dr_eq] at cD cT
            rw [show ((6 : Nat) : Int) = 6 from rfl] at cD
            generalize vt (40 + (i : Int)) 0 (rcase (dnext l q 3)) x = v1 at *
            generalize stmt (dnext l q2 7) 50 0 D = v2 at *
            simp only [go_sem, hlt]
            refine call (next_den l q 3 hl hq (by omega)) [23] ?_
            simp only [go_sem, e1]
            refine call cR [] ?_
            simp only [go_sem, w40]
            refine call cX [23] ?_
            simp only [go_sem]
            refine call cv [] ?_
            simp only [go_sem]
            refine call (next_den l q2 7 hl lX (by omega)) [23] ?_
            simp only [go_sem, e2]
            refine call cD [23] ?_
            simp only [go_sem]
            refine call cT [] ?_
            simp only [go_sem]
            refine ⟨by omega, okD_of (by kernel_rfl), i + 1, ⟨by omega, by omega⟩, ?_⟩
            rw [hst]
            exact ⟨⟨by simp only [List.length_append, List.length_cons, List.length_nil]; omega, by rw [wrapI] <;> omega⟩, rfl, by rw [← List.append_assoc, List.map_append (l₁ := L ++ M)]; rfl⟩
          · have hh : i = 6 := by omega
            subst hh
            have hlt : ¬ ((6 : Nat) : Int) < 6 := by omega
            rw [rl_eq]
            simp only [go_sem, hlt]
            refine call t2 [] ?_
            simp only [go_sem]
            refine call cE [] ?_
            simp only [go_sem]
            refine call awake29_den [] ?_
            simp only [go_sem]
end Go.Proofs.Am
