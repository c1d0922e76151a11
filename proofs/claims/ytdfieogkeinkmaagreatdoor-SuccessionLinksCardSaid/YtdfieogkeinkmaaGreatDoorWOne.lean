/- WOne. -/
import Derived.Test.YtdfieogkeinkmaaGreatDoorUOne
import Derived.Test.YtdfieogkeinkmaaGreatDoorVTwo
set_option linter.unusedSimpArgs false
set_option linter.unusedVariables false
namespace Go.Proofs.Am
open Go Go.RowKit
open Go.Proofs
theorem stA_nil (r : Rl) (t : Tm) : stA r [] t = [] := List.eq_nil_of_length_eq_zero (by
  have := allV_len (seats := stS r t) (l := []) (c := rcase t.ep)
  unfold stA
  simp only [List.length_nil] at this
  omega)
theorem terms_nil {r : Rl} : termsX r [] = [term0 r] := by
  have h := (terms_stop (r := r) (L := []) (by rw [stA_nil]; simp)).1
  rw [h]
  unfold fillT
  rw [stA_nil]
  rfl
def r29 : Rl := ⟨[0, 1], ⟨[0], [2], 1⟩, 2, 5, 0⟩
theorem r29_ok : ruleE r29 = 0 := by decide
set_option maxHeartbeats 1000000 in
set_option maxRecDepth 100000 in
theorem awake29_den : Den Tryz.prog 21 [] [] (.bool true) [] [] := by
  refine den_of Tryz.mixed Tryz.func21 rfl Tryz.call21 Tryz.ntmps21 (congrArg Array.toList Tryz.results21) (by simp) (by kernel_rfl) [] (exts := []) rfl rfl ?_
  have c1 := termsP_den r29 [] ⟨by decide, by decide, by decide⟩ (by simp) (by simp)
  rw [termsE_ok r29_ok, terms_nil, rl_eq] at c1
  have h1 : (term0 r29).bea.length = 32 := sha_len _
  have ht : [term0 r29].map tm = [[.int .i64 0, .vs [i1 0, i1 1], .str (term0 r29).bea, .bool false, .vs [], .vs []]] := rfl
  simp only [ht] at c1
  generalize (term0 r29).bea = v at *
  have h2 : (v.length : Int) = 32 := by omega
  simp only [go_sem]
  refine call c1 [] ?_
  simp only [go_sem]
  refine ⟨⟨rfl, rfl, rfl, rfl, rfl, rfl, rfl⟩, ?_⟩
  refine call (sameInts_den [0, 1] [0, 1] (by simp [big]) (by simp [big])) [] ?_
  simp only [go_sem, h2]
  done
end Go.Proofs.Am

/- The mill's chain of votes for rosters: the walk. -/
namespace Go.Proofs.Am
open Go Go.RowKit
open Go.Proofs
theorem mrules_sz (l : List Int) (p : Nat) : (mrules l p).gen.length ≤ 7 ∧ (mrules l p).pol.se.length ≤ 2 ∧ (mrules l p).pol.ta.length ≤ 2 := by
  refine ⟨?_, ?_, ?_⟩
  · show (([0, 1, 2, 3, 4, 5, 6] : List Int).take _).length ≤ 7
    rw [List.length_take]
    exact Nat.min_le_right _ _
  · show (if _ then [0, 1] else [0] : List Int).length ≤ 2
    split <;> simp
  · exact Nat.le_refl 2
theorem mrules_RlB (l : List Int) (p : Nat) : RlB (mrules l p) := by
  obtain ⟨h0, h1, h2⟩ := mrules_sz l p
  exact ⟨by omega, by omega, by omega⟩
theorem chS_of {l : List Int} {ep : Nat} {r : Rl} {s : ChS} (hr : ruleE r = 0) (he : ep < 40) (h : ChI l ep s) : ofG r s.v s.ros (rcase ep) = (chS r ep s, 0) := by
  have hc : caseV (rcase (ep : Int)) = true := rcase_ok (by omega) (by omega)
  rw [ofG_32 h.v, ofR_eq, if_neg (by simp [hr]), if_neg (by simp [h.ros]), if_neg (by simp [hc])]
  exact if_pos rfl
theorem chStep_eq (l : List Int) (r : Rl) (ep : Int) (s : ChS) : chStep l r ep s = ⟨(chGo l ep (chX l ep s).1 (chY l ep s).1 (chS r ep s) ((chY l ep s).2, s.L) (chS r ep s).length).1,
   (chGo l ep (chX l ep s).1 (chY l ep s).1 (chS r ep s) ((chY l ep s).2, s.L) (chS r ep s).length).2,
   (decL (chX l ep s).1.li).1, nextV s.v ep (chX l ep s).1.li⟩ := rfl
set_option maxHeartbeats 1000000 in
set_option maxRecDepth 100000 in
theorem chain_den (l : List Int) (p : Nat) (hl : big l.length) (hp : p ≤ l.length) : Den Tryz.prog 22 [.ptr 1000000 0] [dbox l p] (.tup [.agg (rl (mrules l p)), .vs ((chainX l p).L.map sm)]) [] [dbox l (chainX l p).p] := by
  refine den_of Tryz.mixed Tryz.func22 rfl Tryz.call22 Tryz.ntmps22 (congrArg Array.toList Tryz.results22) (by simp) (by kernel_rfl) [] (exts := [1000000]) rfl rfl ?_
  have hB := mrules_RlB l p
  have c1 := mrules_den l p hl hp
  have c2 := first_den (mrules l p) (mrules_ok l p) hB.g hB.s hB.t
  have hr := mrules_ok l p
  have i0 := chain0_ok (l := l) (p := p) hp
  have hX : chainX l p = chRun l (mrules l p) 4 0 (chain0 l p) := rfl
  have h0 : chain0 l p = ⟨dgo l p 8, [], (mrules l p).gen, firstV (mrules l p)⟩ := rfl
  generalize chainX l p = X at *
  generalize chain0 l p = s0 at *
  generalize mrules l p = r at *
  rw [rl_eq] at c1 c2
  simp only [go_sem]
  refine call c1 [1000000] ?_
  simp only [go_sem]
  refine call c2 [] ?_
  simp only [go_sem]
  rw [← rl_eq r]
  refine promote 5 210 41 13 false ?_ ?_ ?_ (by omega)
  · refine loop Tryz.mixed ((0 : Nat), s0) (fun i : Nat × ChS => [(0, .ptr 1000000 0), (2, .ptr 2 0), (4, .ptr 4 0), (5, .os 210 i.2.L.length), (6, .vs (i.2.ros.map i1)), (7, .str i.2.v), (9, .int .i64 i.1)]) (fun i => [(1000000, dbox l i.2.p), (2, .cells [.nils, .nils, .nils, .int .i64 0, .int .i64 0, .int .i64 0, .int .i64 0]), (4, .cells (rl r)), (210, .arr 41 13 false (i.2.L.map sm))]) (fun i => i.1 ≤ 3 ∧ ChI l i.1 i.2 ∧ chRun l r (4 - i.1) i.1 i.2 = X) (fun i => 4 - i.1) (by kernel_rfl) ⟨by omega, i0, hX.symm⟩ ?_ ?_
    · subst h0
      simp only [go_sem, List.map_nil, List.length_nil]
    · rintro ⟨ep, s⟩ ⟨he, hI, hR⟩
      dsimp only at he hI hR ⊢
      have hnx := dnext_lt (l := l) (p := s.p) (n := 4) (by omega)
      have hsub : 4 - ep = (3 - ep) + 1 := by omega
      rw [hsub, chRun] at hR
      have e0 : dpos l s.p = dgo l s.p 1 := rfl
      have hp0 := hI.p
      have hp1 := dgo_le hp0 1
      by_cases hlt : (ep : Int) < dnext l s.p 4
      · rw [if_pos hlt] at hR
        have hI2 := chStep_ok hr (by omega) hI
        have k1 := rcase_ok (ep := (ep : Int)) (by omega) (by omega)
        have hS := chS_of hr (by omega) hI
        have hln := hI.len
        have cO := ofG_den r s.v s.ros (rcase ep) (by have := hB.g; simp only [big]; omega) (by have := hB.s; simp only [big]; omega) (by have := hB.t; simp only [big]; omega) (by have := (rosV_pw hI.ros).2.2.2; simp only [big]; omega)
        rw [hS] at cO
        have hSl := chS_len hr ep s
        have hv := hI.v
        rw [chStep_eq] at hI2 hR
        have hC : cs (rcase (ep : Int)) = [.int .i64 ep, .int .i64 1, .int .i64 0, .int .i64 0] := rfl
        have cR := roster_den (ep : Int)
        have hC' : cs ⟨(ep : Int), 1, 0, 0⟩ = [.int .i64 ep, .int .i64 1, .int .i64 0, .int .i64 0] := rfl
        rw [hC'] at cR
        have cX := content_den l (dgo l s.p 1) (rcase ep) hl hp1
        have cY := content_den l (chX l ep s).2 (rcase ep) hl (mcont_le hp1 _)
        have sX := mcont_small l (dgo l s.p 1) (c := rcase (ep : Int)) rfl
        have oX := mcont_ok l (dgo l s.p 1) (rcase (ep : Int))
        have oY := mcont_ok l (chX l ep s).2 (rcase (ep : Int))
        have lY := mcont_le (l := l) (p := (chX l ep s).2) (mcont_le hp1 _) (rcase (ep : Int))
        have hx : mcont l (dgo l s.p 1) (rcase ep) = chX l ep s := rfl
        have hy : mcont l (chX l ep s).2 (rcase ep) = chY l ep s := rfl
        rw [hx] at cX sX oX
        rw [hy] at cY oY lY
        have g0 : chGo l ep (chX l ep s).1 (chY l ep s).1 (chS r ep s) ((chY l ep s).2, s.L) 0 = ((chY l ep s).2, s.L) := rfl
        have gS : ∀ i, chGo l ep (chX l ep s).1 (chY l ep s).1 (chS r ep s) ((chY l ep s).2, s.L) (i + 1) = chVote l ep (chX l ep s).1 (chY l ep s).1 (el (chS r ep s) i) (chGo l ep (chX l ep s).1 (chY l ep s).1 (chS r ep s) ((chY l ep s).2, s.L) i) := fun i => rfl
        have gK : ∀ i, i ≤ (chS r ep s).length → (chGo l ep (chX l ep s).1 (chY l ep s).1 (chS r ep s) ((chY l ep s).2, s.L) i).1 ≤ l.length ∧ (chGo l ep (chX l ep s).1 (chY l ep s).1 (chS r ep s) ((chY l ep s).2, s.L) i).2.length ≤ s.L.length + 2 * i := fun i hi => by
          induction i with
          | zero => exact ⟨lY, by rw [g0]; simp⟩
          | succ i ih =>
            obtain ⟨a1, a2⟩ := ih (by omega)
            rw [gS]
            refine ⟨dgo_le a1 1, ?_⟩
            have : ∀ st : Nat × List Stm, (chVote l ep (chX l ep s).1 (chY l ep s).1 (el (chS r ep s) i) st).2.length ≤ st.2.length + 2 := fun st => by
              simp only [chVote, List.length_append]
              (repeat' split) <;> simp
            have := this (chGo l ep (chX l ep s).1 (chY l ep s).1 (chS r ep s) ((chY l ep s).2, s.L) i)
            omega
        have gV : ∀ st : Nat × List Stm, ∀ k, chVote l ep (chX l ep s).1 (chY l ep s).1 k st = (dgo l st.1 1, st.2 ++ (if dnext l st.1 14 = 0 then [] else if dnext l st.1 14 = 1 then [vt k ep (rcase ep) (chY l ep s).1] else if dnext l st.1 14 = 2 then [vt k ep (rcase ep) (chX l ep s).1, vt k (ep + 9) (rcase ep) (chY l ep s).1] else [vt k ep (rcase ep) (chX l ep s).1])) := fun st k => rfl
        have cN := rnext_den s.v ep (chX l ep s).1.li hv (by omega) (by omega) (by have := sX.1; omega)
        have cD := rdec_den (chX l ep s).1.li (by have := sX.1; simp only [big]; omega)
        have hd0 : (decL (chX l ep s).1.li).2 = 0 := by rw [decL_of sX.ok]
        have cv := fun k nu => vote_den k nu (rcase ep) (chX l ep s).1 oX
        have cw := fun k nu => vote_den k nu (rcase ep) (chY l ep s).1 oY
        generalize chGo l ep (chX l ep s).1 (chY l ep s).1 (chS r ep s) ((chY l ep s).2, s.L) = G at *
        clear hx hy hI hS lY sX
        generalize chVote l ep (chX l ep s).1 (chY l ep s).1 = CV at *
        generalize nextV s.v ep (chX l ep s).1.li = nv' at *
        generalize hDD : decL (chX l ep s).1.li = DD at *
        generalize chX l ep s = XX at *
        generalize chY l ep s = YY at *
        generalize chS r ep s = S at *
        obtain ⟨d1, d2⟩ := DD
        obtain ⟨x, q1⟩ := XX
        obtain ⟨y, q2⟩ := YY
        simp only at hd0 hI2 hR cX cY cN cD cv cw g0 gS gK gV hDD
        subst hd0
        rw [hC] at cX cY cO cv cw
        rw [ct_eq] at cX cY cv cw
        rw [← rl_eq r] at *
        simp only [go_sem]
        refine call (next_den l s.p 4 hl hp0 (by omega)) [1000000] ?_
        simp only [go_sem, hlt, e0]
        refine call cR [] ?_
        simp only [go_sem]
        refine call cO [] ?_
        simp only [go_sem]
        refine call cX [1000000] ?_
        simp only [go_sem]
        refine call cY [1000000] ?_
        simp only [go_sem]
        refine ⟨okD_of (by kernel_rfl), ?_⟩
        refine loop Tryz.mixed (0 : Nat) (fun i : Nat => [(0, .ptr 1000000 0), (2, .ptr 2 0), (4, .ptr 4 0), (5, .os 210 (G i).2.length), (7, .str s.v), (9, .int .i64 ep), (10, .ptr 10 0), (11, .vs (S.map i1)), (13, .ptr 13 0), (14, .ptr 14 0), (15, .int .i64 i)]) (fun i => [(1000000, dbox l (G i).1), (2, .cells [.nils, .nils, .nils, .int .i64 0, .int .i64 0, .int .i64 0, .int .i64 0]), (4, .cells (rl r)), (10, .cells [.int .i64 ep, .int .i64 1, .int .i64 0, .int .i64 0]), (13, .cells (ct x)), (14, .cells (ct y)), (210, .arr 41 13 false ((G i).2.map sm))]) (fun i => i ≤ S.length) (fun i => S.length - i) (by kernel_rfl) (Nat.zero_le _) ?_ ?_
        · rw [g0]
          simp only [go_sem]
        · intro i hi
          obtain ⟨a1, a2⟩ := gK i hi
          by_cases hj : i < S.length
          · have hjl : (i : Int) < (S.length : Int) := by omega
            have hst := gS i
            rw [gV] at hst
            generalize G i = g at *
            obtain ⟨q, o⟩ := g
            simp only at a1 a2 hst
            have e1 : dpos l q = dgo l q 1 := rfl
            have b14 := dnext_lt (l := l) (p := q) (n := 14) (by omega)
            simp only [go_sem, hjl]
            refine call (next_den l q 14 hl a1 (by omega)) [1000000] ?_
            by_cases n0 : dnext l q 14 = 0
            · rw [if_pos n0, List.append_nil] at hst
              simp only [go_sem, n0, e1]
              refine ⟨i + 1, ⟨by omega, by omega⟩, ?_⟩
              rw [hst]
              exact ⟨⟨rfl, by rw [wrapI] <;> omega⟩, rfl, rfl⟩
            rw [if_neg n0] at hst
            by_cases n1 : dnext l q 14 = 1
            · rw [if_pos n1] at hst
              have cw := cw (el S i) ep
              generalize vt (el S i) ep (rcase ep) y = w at *
              simp only [go_sem, n0, n1, e1, hj]
              refine call cw [] ?_
              simp only [go_sem]
              refine ⟨by omega, okD_of (by kernel_rfl), i + 1, ⟨by omega, by omega⟩, ?_⟩
              rw [hst]
              exact ⟨⟨by simp, by rw [wrapI] <;> omega⟩, rfl, by rw [List.map_append]; rfl⟩
            rw [if_neg n1] at hst
            by_cases n2 : dnext l q 14 = 2
            · rw [if_pos n2] at hst
              have cv := cv (el S i) ep
              have cw := cw (el S i) (ep + 9)
              have w9 : IntKind.i64.wrap ((ep : Int) + 9) = (ep : Int) + 9 := by rw [wrapI] <;> omega
              generalize vt (el S i) ep (rcase ep) x = v at *
              generalize vt (el S i) (ep + 9) (rcase ep) y = w at *
              simp only [go_sem, n0, n1, n2, e1, hj]
              refine call cv [] ?_
              simp only [go_sem, w9]
              refine ⟨hj, call cw [] ?_⟩
              simp only [go_sem]
              refine ⟨by omega, okD_of (by kernel_rfl), i + 1, ⟨by omega, by omega⟩, ?_⟩
              rw [hst]
              exact ⟨⟨by simp, by rw [wrapI] <;> omega⟩, rfl, by rw [List.map_append]; rfl⟩
            rw [if_neg n2] at hst
            have cv := cv (el S i) ep
            generalize vt (el S i) ep (rcase ep) x = v at *
            simp only [go_sem, n0, n1, n2, e1, hj]
            refine call cv [] ?_
            simp only [go_sem]
            refine ⟨by omega, okD_of (by kernel_rfl), i + 1, ⟨by omega, by omega⟩, ?_⟩
            rw [hst]
            exact ⟨⟨by simp, by rw [wrapI] <;> omega⟩, rfl, by rw [List.map_append]; rfl⟩
          · have : i = S.length := by omega
            subst this
            have hjl : ¬ (S.length : Int) < (S.length : Int) := by omega
            generalize G S.length = g at *
            obtain ⟨q, o⟩ := g
            simp only at hI2 hR
            simp only [go_sem, hjl]
            refine call cD [] ?_
            simp only [go_sem]
            refine call cN [] ?_
            simp only [go_sem]
            refine ⟨(ep + 1, ⟨q, o, d1, nv'⟩), ⟨⟨by show ep + 1 ≤ 3; omega, hI2, ?_⟩, by show 4 - (ep + 1) < 4 - ep; omega⟩, ⟨rfl, rfl, rfl, by show _ = ((ep + 1 : Nat) : Int); rw [wrapI] <;> omega⟩, rfl, rfl⟩
            rw [← hR]
            show chRun l r (4 - (ep + 1)) (ep + 1) _ = _
            rw [show 4 - (ep + 1) = 3 - ep by omega]
      · rw [if_neg hlt] at hR
        subst hR
        simp only [go_sem]
        refine call (next_den l s.p 4 hl hI.p (by omega)) [1000000] ?_
        simp only [go_sem, hlt, e0]
        done
  · simp only [go_sem]
  · simp only [go_sem]
end Go.Proofs.Am

/- The law SuccessionEnds, walked. -/
namespace Go.Proofs.Am
open Go Go.RowKit
open Go.Proofs
end Go.Proofs.Am
