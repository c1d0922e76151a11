/- X7. -/
import Derived.Test.YtdodifpogaoioaaGreatXOne
import Derived.Test.YtdodifpogaoioaaGreatWOne
import Derived.Test.YtdodifpogaoioaaGreatEOne
import Derived.Test.YtdodifpogaoioaaGreatY1
import Derived.Test.YtdodifpogaoioaaGreatAmCut
set_option linter.unusedSimpArgs false
set_option linter.unusedVariables false
namespace Go.Proofs.Am
open Go Go.RowKit
open Go.Proofs
theorem W_nil {P : Program} {N : Nat} {c : Code} {Q : Post} {fr : AFr} {σ : ASt} {m j : Nat} {cs : List PV} (hm : find σ m = some (.cells cs)) (hj : cs[j]? = some .nils)
  (h : W P N c Q fr (put1 σ m (.cells (cs.set j (.vs []))))) : W P N c Q fr σ := fun x a hv w hG => by
 refine h x a hv w (hG.again hm (fun off h => h.elim) (fun v => ⟨⟨_, rfl⟩, rfl⟩) fun hb => ?_)
 obtain ⟨b, t, arr, h1, h2, h3, h4⟩ := hb
 refine ⟨b, t, arr, h1, h2, by simp [h3], fun i u hu => ?_⟩
 rw [List.getElem?_set] at hu
 split at hu
 ·rename_i hij
  subst hij
  split at hu
  ·cases hu
   rw [(h4 _ _ hj).nils_inv]
   exact .pure (.vs (sz := 0) (fun _ _ => undef) rfl (Nat.le_refl _) (by simp) (by simp) (by simp) (by simp))
  ·cases hu
 ·exact h4 i u hu
theorem W_nilV {P : Program} {N : Nat} {c : Code} {Q : Post} {fr : AFr} {V : PV} {xs : List (List PV)} (ss : PV → ASt) (m j : Nat) (cs : List PV) (hV : V = .vs xs ∨ V = .nils ∧ xs = []) (h1 : find (ss .nils) m = some (.cells cs)) (h2 : cs[j]? = some .nils)
  (h3 : put1 (ss .nils) m (.cells (cs.set j (.vs []))) = ss (.vs [])) (h : W P N c Q fr (ss (.vs xs))) : W P N c Q fr (ss V) := by
 rcases hV with rfl | ⟨rfl, rfl⟩
 ·exact h
 ·exact W_nil h1 h2 (h3 ▸ h)
set_option maxHeartbeats 1000000 in
set_option maxRecDepth 100000 in
theorem sameDr_den (d : Drf) (h1 : big d.li.length) (h2 : big d.pins.length) : Den Tryz.prog 26 [.agg (dr d), .agg (dr d)] [] (.bool true) [] [] := by
 refine den_of Tryz.mixed Tryz.func26 rfl Tryz.call26 Tryz.ntmps26 (congrArg Array.toList Tryz.results26) (by simp) (by kernel_rfl) [] (exts := []) rfl rfl ?_
 have e7 := order23_den ⟨d.li, d.pins⟩ ⟨d.li, d.pins⟩ h1 h2 h1 h2
 rw [(ordC_eq _ _).2 rfl, ct_eq] at e7
 simp only [go_sem]
 refine call e7 [] ?_
 simp only [go_sem]
theorem apDr_big (c : Cs) : big (apDr c).1.li.length ∧ big (apDr c).1.pins.length := by
 unfold apDr
 split <;> exact ⟨by simp [apD, noD, big], by simp [apD, noD, big]⟩
structure MdS where
 R : Rl
 T : Tm
 V : PV
 C : Cs
 S : List Stm
def MdI (s : MdS) : Prop := RlB s.R ∧ s.T.ros.length ≤ 8 ∧ (s.V = .vs (s.T.ros.map i1) ∨ s.V = .nils ∧ s.T.ros.map i1 = []) ∧ s.S.length ≤ 401 ∧ (∀ x ∈ s.S, bigS x) ∧ ∀ x ∈ s.S, plS x
set_option maxHeartbeats 1000000 in
set_option maxRecDepth 100000 in
theorem made32_den (l : List Int) (z turn : Int) : Den Tryz.prog 3 [.vs (l.map i1), .int .u8 z, .int .i64 turn] [] (.bool true) [] [] := by
 by_cases h400 : l.length ≤ 400
 rotate_left
 ·refine den_of Tryz.mixed Tryz.func3 rfl Tryz.call3 Tryz.ntmps3 (congrArg Array.toList Tryz.results3) (by simp) (by kernel_rfl) [] (exts := []) rfl rfl ?_
  have hd : decide (l.length ≤ 400) = false := decide_eq_false h400
  simp only [go_sem]
  refine call (light_den l) [] ?_
  simp only [go_sem, hd]
  refine call awake32_den [] ?_
  simp only [go_sem]
 refine den_W Tryz.mixed Tryz.func3 rfl Tryz.call3 Tryz.ntmps3 (congrArg Array.toList Tryz.results3) (by simp) [] (exts := []) rfl rfl ?_
 have hd : decide (l.length ≤ 400) = true := decide_eq_true h400
 have hl : big l.length := by simp only [big]; omega
 have c1 := disputeO_den l 0 hl (Nat.zero_le _)
 have hB : RlB (dspR l 0) := mrules_RlB l 0
 have hTl := (dspT_len (l := l) (Nat.zero_le _)).2
 have hLo := dspF_ok (l := l) (p := 0)
 have hLl := dspF_len (l := l) (p := 0)
 have hLp := dspF_pl (l := l) (Nat.zero_le _)
 have hq := dspF_le (l := l) (p := 0) (Nat.zero_le _)
 generalize dspR l 0 = R at *
 generalize dspT l 0 = T at *
 generalize dspC l 0 = C at *
 generalize dspF l 0 = F at *
 obtain ⟨q, L⟩ := F
 simp only at c1 hLo hLl hLp hq
 have hLb : ∀ s ∈ L, bigS s := fun s hs => (hLo s hs).big
 rw [rl_eq, tm_eq, cs_eq] at c1
 simp only [initF, initS]
 refine W_pre Tryz.mixed (by kernel_rfl) ?_
 simp only [go_sem]
 refine W_pre Tryz.mixed (by kernel_rfl) ?_
 simp only [go_sem]
 refine call (light_den l) [] ?_
 simp only [go_sem, hd]
 refine W_pre Tryz.mixed (by kernel_rfl) ?_
 simp only [go_sem]
 refine call (roll9 l) [] ?_
 simp only [go_sem]
 refine W_pre Tryz.mixed (by kernel_rfl) ?_
 simp only [go_sem]
 refine call c1 [35] ?_
 simp only [go_sem]
 refine W_cutI Tryz.mixed (fun s : MdS => [(2, .int .i64 turn), (8, .ptr 8 0), (9, .ptr 9 0), (10, .ptr 10 0), (11, .vs (s.S.map sm))]) (fun s => [(8, .cells (rl s.R)), (9, .cells [.int .i64 s.T.ep, s.V, .str s.T.bea, .bool s.T.dec, .vs (s.T.nx.li.map i1), .vs (s.T.nx.pi.map pn)]), (10, .cells (cs s.C))]) MdI (by kernel_rfl) ?_ ?_
 ·generalize hw : z.tmod 10 = w
  have b5 := dnext_lt (l := l) (p := q) (n := 5) (by omega)
  by_cases w0 : w = 0
  ·simp only [go_sem, hw, w0]
   refine call (modd_den l q R hl hq) [35] ?_
   have hB2 := oddR_RlB (l := l) (p := q) hB
   generalize (oddR l q R).1 = R2 at *
   simp only [go_sem]
   exact ⟨⟨R2, T, .vs (T.ros.map i1), C, L⟩, ⟨hB2, hTl, .inl rfl, hLl, hLb, hLp⟩, by simp only [go_sem]⟩
  by_cases w1 : w = 1
  ·simp only [go_sem, hw, w0, w1]
   exact ⟨⟨R, T, .vs (T.ros.map i1), { C with ro := 1 }, L⟩, ⟨hB, hTl, .inl rfl, hLl, hLb, hLp⟩, by simp only [go_sem]⟩
  by_cases w2 : w = 2
  ·simp only [go_sem, hw, w0, w1, w2]
   refine call (next_den l q 5 hl hq (by omega)) [35] ?_
   simp only [go_sem]
   exact ⟨⟨R, T, .vs (T.ros.map i1), { C with kd := dnext l q 5 }, L⟩, ⟨hB, hTl, .inl rfl, hLl, hLb, hLp⟩, by simp only [go_sem]⟩
  by_cases w3 : w = 3
  ·simp only [go_sem, hw, w0, w1, w2, w3]
   refine call (of_den l q [-1, 64, 0] hl hq (by simp) (by simp [big])) [35] ?_
   simp only [go_sem]
   exact ⟨⟨R, T, .vs (T.ros.map i1), { C with su := dofX l q [-1, 64, 0] }, L⟩, ⟨hB, hTl, .inl rfl, hLl, hLb, hLp⟩, by simp only [go_sem]; rfl⟩
  by_cases w4 : w = 4
  ·simp only [go_sem, hw, w0, w1, w2, w3, w4]
   exact ⟨⟨R, T, .vs (T.ros.map i1), { C with ep := 1 }, L⟩, ⟨hB, hTl, .inl rfl, hLl, hLb, hLp⟩, by simp only [go_sem]⟩
  by_cases w5 : w = 5
  ·simp only [go_sem, hw, w0, w1, w2, w3, w4, w5]
   exact ⟨⟨R, { T with ros := [] }, .nils, C, L⟩, ⟨hB, by simp, .inr ⟨rfl, rfl⟩, hLl, hLb, hLp⟩, by simp only [go_sem]⟩
  by_cases w6 : w = 6
  ·by_cases h0 : 0 < (L.length : Int)
   ·obtain ⟨m, hm⟩ : ∃ m : Nat, L.length = m + 1 := ⟨L.length - 1, by omega⟩
    have wm : IntKind.i64.wrap ((L.length : Int) - 1) = (m : Int) := by rw [wrapI] <;> omega
    have hml : m < L.length := by omega
    have hE : (L.map sm).set m (sm { el L m with body := [120] }) = (L.set m { el L m with body := [120] }).map sm := by rw [List.map_set]
    rw [sm_eq] at hE
    dsimp only at hE
    have hmem : ∀ x ∈ L.set m { el L m with body := [120] }, x ∈ L ∨ x = { el L m with body := [120] } := fun x hx => List.mem_or_eq_of_mem_set hx
    have hel := el_mem hml
    simp only [go_sem, hw, w0, w1, w2, w3, w4, w5, w6, h0, wm, hml, hE, List.length_set]
    refine ⟨⟨R, T, .vs (T.ros.map i1), C, L.set m { el L m with body := [120] }⟩, ⟨hB, hTl, .inl rfl, by rw [List.length_set]; exact hLl, fun x hx => ?_, fun x hx => ?_⟩, by simp only [go_sem, List.length_set]⟩
    ·rcases hmem x hx with h | h
     ·exact hLb x h
     ·rw [h]
      have h9 := hLb _ hel
      exact h9
    ·rcases hmem x hx with h | h
     ·exact hLp x h
     ·rw [h]
      have h9 := hLp _ hel
      exact h9
   ·simp only [go_sem, hw, w0, w1, w2, w3, w4, w5, w6, h0]
    exact ⟨⟨R, T, .vs (T.ros.map i1), C, L⟩, ⟨hB, hTl, .inl rfl, hLl, hLb, hLp⟩, by simp only [go_sem]⟩
  by_cases w7 : w = 7
  ·simp only [go_sem, hw, w0, w1, w2, w3, w4, w5, w6, w7]
   refine call (roster_den 0) [] ?_
   simp only [go_sem]
   exact ⟨⟨R, T, .vs (T.ros.map i1), ⟨0, 1, 0, 0⟩, L⟩, ⟨hB, hTl, .inl rfl, hLl, hLb, hLp⟩, by simp only [go_sem]⟩
  ·simp only [go_sem, hw, w0, w1, w2, w3, w4, w5, w6, w7]
   exact ⟨⟨R, T, .vs (T.ros.map i1), C, L⟩, ⟨hB, hTl, .inl rfl, hLl, hLb, hLp⟩, by simp only [go_sem]⟩
 ·rintro ⟨R, T, V, C, S⟩ ⟨hB, hTl, hV, hSl, hSo, hSp⟩
  dsimp only at hB hTl hV hSl hSo hSp ⊢
  refine W_nilV (fun V => [(8, .cells (rl R)), (9, .cells [.int .i64 T.ep, V, .str T.bea, .bool T.dec, .vs (T.nx.li.map i1), .vs (T.nx.pi.map pn)]), (10, .cells (cs C))]) 9 1 _ hV rfl rfl rfl ?_
  refine W_of Tryz.mixed (by kernel_rfl) ?_
  have ct := mturn_den S turn (by omega)
  have hMl : (turnS S turn).length ≤ 401 := by simp only [turnS, List.length_map, List.length_range]; omega
  have hMo : ∀ s ∈ turnS S turn, bigS s := fun s hs => hSo s (turnS_mem hs)
  have hMp : ∀ s ∈ turnS S turn, plS s := fun s hs => hSp s (turnS_mem hs)
  generalize turnS S turn = M at *
  have hbT : big T.ros.length := by simp only [big]; omega
  have d1 := adraftA C
  have d2 := rdraftA C
  have d3 := sameDr_den (apDr C).1 (apDr_big C).1 (apDr_big C).2
  have s1 := asecond C
  have s2 := rsecond C
  have o1 := pout_den R M T C hB hbT (by omega) hMo (plX_votes hMp) (plX_votes hMp)
  have o2 := rout_den R M T C hB hbT (by omega) hMo
  have o3 := pset_den R M T C hB hbT (by omega) hMo (plX_votes hMp) (plX_votes hMp)
  have o4 := rsettle_den R M T C hB hbT (by omega) hMo
  have o5 := asked_den M T C hbT (by simp only [big]; omega) hMo
  have o6 := rasked_den M T C hbT (by simp only [big]; omega) hMo
  have bx := outX_big (r := R) (L := M) (t := T) (c := C)
  have e7 := order23_den (outX R M T C).1 (outX R M T C).1 bx.1 bx.2 bx.1 bx.2
  rw [(ordC_eq _ _).2 rfl] at e7
  generalize outX R M T C = O at *
  generalize setX R M T C = Q at *
  generalize askedB M T C = A at *
  generalize apDr C = D at *
  generalize secC C = E at *
  obtain ⟨x, b, e⟩ := O
  obtain ⟨p, f⟩ := Q
  obtain ⟨d, g⟩ := D
  obtain ⟨c2, k⟩ := E
  dsimp only at d1 d2 d3 s1 s2 o1 o2 o3 o4 e7
  rw [rl_eq, tm_eq, cs_eq] at o1 o2 o3 o4
  rw [ct_eq] at o1 o2 e7
  rw [tm_eq, cs_eq] at o5 o6
  rw [cs_eq, dr_eq] at d1 d2
  rw [dr_eq] at d3
  rw [cs_eq C] at s1 s2
  have u4 : Tryz.prog.underlying 4 = some .bool := by kernel_rfl
  simp only [go_sem]
  refine call ct [] ?_
  simp only [go_sem]
  refine call d1 [] ?_
  simp only [go_sem]
  refine call d2 [] ?_
  simp only [go_sem]
  refine call s1 [] ?_
  simp only [go_sem]
  refine call s2 [] ?_
  simp only [go_sem]
  refine call o1 [] ?_
  simp only [go_sem]
  refine call o2 [] ?_
  simp only [go_sem]
  refine call o3 [] ?_
  simp only [go_sem]
  refine call o4 [] ?_
  simp only [go_sem]
  refine call d3 [] ?_
  simp only [go_sem, u4]
  refine call e7 [] ?_
  simp only [go_sem, u4]
  refine call o5 [] ?_
  simp only [go_sem]
  refine call o6 [] ?_
  simp only [go_sem, u4]
  refine call awake32_den [] ?_
  simp only [go_sem]
  exact okD_of (by kernel_rfl)
end Go.Proofs.Am
