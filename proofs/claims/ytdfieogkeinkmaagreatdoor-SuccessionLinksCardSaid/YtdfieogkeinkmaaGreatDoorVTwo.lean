/- VTwo. -/
import Derived.Test.YtdfieogkeinkmaaGreatDoorVOne
set_option linter.unusedSimpArgs false
set_option linter.unusedVariables false
namespace Go.Proofs.Am
open Go Go.RowKit
open Go.Proofs
theorem decU_nm (i : Nat) (h : i < 9) : decU [116, 114, 117, 115, 116, 102, 108, 111, 119] i = ((([116, 114, 117, 115, 116, 102, 108, 111, 119] : List UInt8).getD i 0).toNat, 1) := by
  have : i = 0 ∨ i = 1 ∨ i = 2 ∨ i = 3 ∨ i = 4 ∨ i = 5 ∨ i = 6 ∨ i = 7 ∨ i = 8 := by omega
  rcases this with rfl | rfl | rfl | rfl | rfl | rfl | rfl | rfl | rfl <;> rfl
def nmT (i : Nat) : List UInt8 := ([116, 114, 117, 115, 116, 102, 108, 111, 119] : List UInt8).take i
def nmC (i : Nat) : UInt8 := ([116, 114, 117, 115, 116, 102, 108, 111, 119] : List UInt8).getD i 0
theorem nmT_step {i : Nat} (h : i < 9) : nmT (i + 1) = nmT i ++ [nmC i] := by
  have : i = 0 ∨ i = 1 ∨ i = 2 ∨ i = 3 ∨ i = 4 ∨ i = 5 ∨ i = 6 ∨ i = 7 ∨ i = 8 := by omega
  rcases this with rfl | rfl | rfl | rfl | rfl | rfl | rfl | rfl | rfl <;> rfl
theorem nmT_len {i : Nat} (h : i ≤ 9) : (nmT i).length = i := by
  have : i = 0 ∨ i = 1 ∨ i = 2 ∨ i = 3 ∨ i = 4 ∨ i = 5 ∨ i = 6 ∨ i = 7 ∨ i = 8 ∨ i = 9 := by omega
  rcases this with rfl | rfl | rfl | rfl | rfl | rfl | rfl | rfl | rfl | rfl <;> rfl
def bkF (r : Rl) : Nat → List UInt8
  | 0 => [116, 114, 117, 115, 116, 102, 108, 111, 119]
  | 1 => [116, 114, 117, 115, 116, 102, 108, 111, 119] ++ lsB r.gen
  | 2 => ([116, 114, 117, 115, 116, 102, 108, 111, 119] ++ lsB r.gen) ++ lsB r.pol.se
  | 3 => (([116, 114, 117, 115, 116, 102, 108, 111, 119] ++ lsB r.gen) ++ lsB r.pol.se) ++ lsB r.pol.ta
  | _ => b0 r
def rowsF (r : Rl) : List (List PV) := [[.vs (r.gen.map i1)], [.vs (r.pol.se.map i1)], [.vs (r.pol.ta.map i1)], [.vs [i1 r.pol.lv, i1 r.seats, i1 r.span, i1 r.quota]]]
set_option maxHeartbeats 1000000 in
set_option maxRecDepth 100000 in
theorem firstP_den (r : Rl) (hr : ruleE r = 0) (h0 : r.gen.length ≤ 1000000) (h1 : r.pol.se.length ≤ 1000000) (h2 : r.pol.ta.length ≤ 1000000) : Den Tryz.prog 66 [.agg (rl r)] [] (.tup [.str (firstV r), .int .i64 0]) [] [] := by
  refine den_of Tryz.mixed Tryz.func66 rfl Tryz.call66 Tryz.ntmps66 (congrArg Array.toList Tryz.results66) (by simp) (by kernel_rfl) [] (exts := []) rfl rfl ?_
  have c0 := rcheckP r (by simp only [big]; omega) (by simp only [big]; omega) (by simp only [big]; omega)
  rw [hr, rl_eq] at c0
  simp only [go_sem]
  refine call c0 [] ?_
  simp only [go_sem]
  refine promote 5 99 5 1 false ?_ ?_ ?_ (by omega)
  · refine loop Tryz.mixed 0 (fun i : Nat => [(1, .ptr 1 0), (5, .os 99 (nmT i).length), (15, .mh 15)]) (fun i => [(1, .cells (rl r)), (15, .si [116, 114, 117, 115, 116, 102, 108, 111, 119] i), (99, .arr 5 1 false ((nmT i).map u8))]) (fun i => i ≤ 9) (fun i => 9 - i) (by kernel_rfl) (Nat.zero_le _) ?_ ?_
    · simp only [go_sem]
      exact ⟨rfl, rfl⟩
    · intro i hi
      have hd := decU_nm i
      have hst := nmT_step (i := i)
      have hln := nmT_len hi
      by_cases h : i < 9
      · have hd := hd h
        have hst := hst h
        have hw : IntKind.u8.wrap ((nmC i).toNat : Int) = ((nmC i).toNat : Int) := by
          rw [IntKind.wrap_u8]
          have := (nmC i).toNat_lt
          omega
        have hn : (([116, 114, 117, 115, 116, 102, 108, 111, 119] : List UInt8).getD i 0) = nmC i := rfl
        rw [hn] at hd
        simp only [go_sem, h, hd, hw]
        refine ⟨by omega, i + 1, ⟨by omega, by omega⟩, ?_, rfl, ?_⟩
        · rw [hst]; simp
        · rw [hst]; simp [u8]
      · have : i = 9 := by omega
        subst this
        have e9 : nmT 9 = [116, 114, 117, 115, 116, 102, 108, 111, 119] := rfl
        rw [e9]
        clear hd hst hln e9 h hi
        simp only [go_sem]
        refine loop Tryz.mixed 0 (fun k : Nat => [(5, .os 99 (bkF r k).length), (42, .vs (rowsF r)), (43, .int .i64 4), (44, .int .i64 k)]) (fun k => [(99, .arr 5 1 false ((bkF r k).map u8))]) (fun k => k ≤ 4) (fun k => 4 - k) (by kernel_rfl) (Nat.zero_le _) ?_ ?_
        · simp only [go_sem, rowsF, bkF]
        · intro k hk
          have cS := sum2_den (b0 r) (by simp only [b0, List.length_append, lsB_len, List.length_cons, List.length_nil]; omega)
          have d0 := listO_den (bkF r 0) r.gen (by simp [bkF]) (by omega)
          have d1 := listO_den (bkF r 1) r.pol.se (by simp only [bkF, List.length_append, lsB_len, List.length_cons, List.length_nil]; omega) (by omega)
          have d2 := listO_den (bkF r 2) r.pol.ta (by simp only [bkF, List.length_append, lsB_len, List.length_cons, List.length_nil]; omega) (by omega)
          have d3 := listO_den (bkF r 3) [r.pol.lv, r.seats, r.span, r.quota] (by simp only [bkF, List.length_append, lsB_len, List.length_cons, List.length_nil]; omega) (by simp)
          have s0 : bkF r 0 ++ lsB r.gen = bkF r 1 := rfl
          have s1 : bkF r 1 ++ lsB r.pol.se = bkF r 2 := rfl
          have s2 : bkF r 2 ++ lsB r.pol.ta = bkF r 3 := rfl
          have s3 : bkF r 3 ++ lsB [r.pol.lv, r.seats, r.span, r.quota] = bkF r 4 := rfl
          have b4 : bkF r 4 = b0 r := rfl
          rw [s0] at d0
          rw [s1] at d1
          rw [s2] at d2
          rw [s3] at d3
          rw [← b4] at cS
          have hv : firstV r = sha (bkF r 4) := rfl
          rw [hv]
          generalize bkF r = B at *
          have : k = 0 ∨ k = 1 ∨ k = 2 ∨ k = 3 ∨ k = 4 := by omega
          rcases this with rfl | rfl | rfl | rfl | rfl
          · simp only [go_sem, rowsF]
            refine call d0 [99] ?_
            simp only [go_sem, rowsF]
            exact ⟨by rw [← s0, List.length_append]; omega, 1, ⟨by omega, by omega⟩, ⟨rfl, by rw [wrapI] <;> omega⟩, rfl⟩
          · simp only [go_sem, rowsF]
            refine call d1 [99] ?_
            simp only [go_sem, rowsF]
            exact ⟨by rw [← s1, List.length_append]; omega, 2, ⟨by omega, by omega⟩, ⟨rfl, by rw [wrapI] <;> omega⟩, rfl⟩
          · simp only [go_sem, rowsF]
            refine call d2 [99] ?_
            simp only [go_sem, rowsF]
            exact ⟨by rw [← s2, List.length_append]; omega, 3, ⟨by omega, by omega⟩, ⟨rfl, by rw [wrapI] <;> omega⟩, rfl⟩
          · simp only [go_sem, rowsF]
            refine call d3 [99] ?_
            simp only [go_sem, rowsF]
            exact ⟨by rw [← s3, List.length_append]; omega, 4, ⟨by omega, by omega⟩, ⟨rfl, by rw [wrapI] <;> omega⟩, rfl⟩
          · simp only [go_sem, rowsF]
            refine call cS [] ?_
            simp only [go_sem]
  · simp only [go_sem]
  · simp only [go_sem]
end Go.Proofs.Am

/- What is decided in a term, and which term follows: the program's and the document's. -/
namespace Go.Proofs.Am
open Go Go.RowKit
open Go.Proofs
def seatsG (r : Rl) (t : Tm) (c : Cs) : List Int × Int := if c.ep ≠ t.ep then ([], 46) else ofG r t.bea t.ros c
theorem seatsG_32 {r : Rl} {t : Tm} {c : Cs} (h : t.bea.length = 32) : seatsG r t c = seatsR r t c := by
  unfold seatsG seatsR
  rw [ofG_32 h]
theorem ofG_len (r : Rl) (v : List UInt8) (l : List Int) (c : Cs) : (ofG r v l c).1.length ≤ 64 := by
  unfold ofG
  split
  · simp
  · exact ofR_len _ _ _ _
theorem seatsG_len (r : Rl) (t : Tm) (c : Cs) : (seatsG r t c).1.length ≤ 64 := by
  unfold seatsG
  split
  · simp
  · exact ofG_len _ _ _ _
def decG (r : Rl) (L : List Stm) (t : Tm) (c : Cs) : Ct × Bool × Int :=
  if (seatsG r t c).2 ≠ 0 then (noC, false, (seatsG r t c).2) else (oneC (decA L c (seatsG r t c).1), decide ((decA L c (seatsG r t c).1).length = 1), ckS c (seatsG r t c).1)
theorem decG_32 {r : Rl} {L : List Stm} {t : Tm} {c : Cs} (h : t.bea.length = 32) : decG r L t c = decR r L t c := by
  unfold decG decR
  rw [seatsG_32 h]
theorem decA_len (L : List Stm) (c : Cs) (s : List Int) : (decA L c s).length ≤ L.length := by
  unfold decA
  split
  · exact allV_len
  · simp
structure RlB (r : Rl) : Prop where
  g : r.gen.length ≤ 1000000
  s : r.pol.se.length ≤ 1000000
  t : r.pol.ta.length ≤ 1000000
set_option maxHeartbeats 1000000 in
set_option maxRecDepth 100000 in
theorem seatsP_den (r : Rl) (t : Tm) (c : Cs) (hr : RlB r) (hl : big t.ros.length) : Den Tryz.prog 26 [.agg (rl r), .agg (tm t), .agg (cs c)] [] (.tup [.vs ((seatsG r t c).1.map i1), .int .i64 (seatsG r t c).2]) [] [] := by
  refine den_of Tryz.mixed Tryz.func26 rfl Tryz.call26 Tryz.ntmps26 (congrArg Array.toList Tryz.results26) (by simp) (by kernel_rfl) [] (exts := []) rfl rfl ?_
  have c1 := ofP_den r t.bea t.ros c (by have := hr.g; simp only [big]; omega) (by have := hr.s; simp only [big]; omega) (by have := hr.t; simp only [big]; omega) hl
  rw [cs_eq, rl_eq] at c1
  have hm : seatsG r t c = if c.ep ≠ t.ep then ([], 46) else ofG r t.bea t.ros c := rfl
  generalize seatsG r t c = m at *
  by_cases h : c.ep = t.ep
  · rw [if_neg (by simpa using h)] at hm
    rw [← hm] at c1
    simp only [go_sem, h]
    rw [h] at c1
    refine call c1 [] ?_
    simp only [go_sem]
  · rw [if_pos h] at hm
    subst hm
    simp only [go_sem, h, List.map_nil]
set_option maxHeartbeats 1000000 in
set_option maxRecDepth 100000 in
theorem decP_den (r : Rl) (L : List Stm) (t : Tm) (c : Cs) (hr : RlB r) (hl : big t.ros.length) (hL : L.length ≤ 900) (hs : ∀ s ∈ L, bigS s) : Den Tryz.prog 69 [.agg (rl r), .vs (L.map sm), .agg (tm t), .agg (cs c)] [] (.tup [.agg (ct (decG r L t c).1), .bool (decG r L t c).2.1, .int .i64 (decG r L t c).2.2]) [] [] := by
  refine den_of Tryz.mixed Tryz.func69 rfl Tryz.call69 Tryz.ntmps69 (congrArg Array.toList Tryz.results69) (by simp) (by kernel_rfl) [] (exts := []) rfl rfl ?_
  have hsl := seatsG_len r t c
  have c1 := seatsP_den r t c hr hl
  have hal := decA_len L c (seatsG r t c).1
  have c2 := dof_den L c (seatsG r t c).1 hL hs (by omega) (decA L c (seatsG r t c).1) rfl (by simp only [big]; omega)
  have hm : decG r L t c = if (seatsG r t c).2 ≠ 0 then (noC, false, (seatsG r t c).2) else (oneC (decA L c (seatsG r t c).1), decide ((decA L c (seatsG r t c).1).length = 1), ckS c (seatsG r t c).1) := rfl
  generalize decG r L t c = m at *
  generalize seatsG r t c = S at *
  obtain ⟨s, k⟩ := S
  simp only at hm c1 c2
  generalize oneC (decA L c s) = x at *
  generalize decide ((decA L c s).length = 1) = b at *
  generalize ckS c s = e at *
  rw [cs_eq, rl_eq, tm_eq] at c1
  rw [cs_eq, ct_eq] at c2
  simp only [go_sem]
  refine call c1 [] ?_
  by_cases h : k = 0
  · rw [if_neg (by simpa using h)] at hm
    subst hm
    simp only [go_sem, h]
    refine call c2 [] ?_
    simp only [go_sem]
  · rw [if_pos h] at hm
    subst hm
    simp only [go_sem, h, noC, List.map_nil]
set_option maxHeartbeats 1000000 in
set_option maxRecDepth 100000 in
theorem rnext_den (v : List UInt8) (ep : Int) (l : List Int) (hv : v.length = 32) (h0 : 0 ≤ ep) (h1 : ep < 40) (hl : l.length ≤ 64) : Den Tryz.prog 35 [.str v, .int .i64 ep, .vs (l.map i1)] [] (.tup [.str (nextV v ep l), .int .i64 0]) [] [] := by
  refine den_of Tryz.mixed Tryz.func35 rfl Tryz.call35 Tryz.ntmps35 (congrArg Array.toList Tryz.results35) (by simp) (by kernel_rfl) [] (exts := []) rfl rfl ?_
  have g1 : (v.length : Int) = 32 := by omega
  have g2 : ¬ ep < 0 := by omega
  have g3 : ¬ (40 : Int) ≤ ep := by omega
  have g4 : ¬ (64 : Int) < (l.length : Int) := by omega
  simp only [go_sem, g1, g2, g3, g4]
  refine ⟨by omega, call (number_den v ep (by simp only [small]; omega)) [20] ?_⟩
  simp only [go_sem]
  refine ⟨by omega, call (list_den (v ++ be8 ep) l (by simp only [List.length_append, be8_len]; omega) (by omega)) [20] ?_⟩
  simp only [go_sem]
  refine ⟨by omega, call (sum_den ((v ++ be8 ep) ++ lsB l) (by simp only [List.length_append, lsB_len, be8_len]; omega)) [] ?_⟩
  simp only [go_sem, nextV]
def noT : Tm := ⟨0, [], [], false, noC⟩
def followX (t : Tm) : Tm × Bool := if t.dec = true ∧ t.ep < 39 ∧ (decL t.nx.li).2 = 0 then (⟨t.ep + 1, (decL t.nx.li).1, nextV t.bea t.ep t.nx.li, false, noC⟩, true) else (noT, false)
set_option maxHeartbeats 1000000 in
set_option maxRecDepth 100000 in
theorem follow_den (t : Tm) (h0 : 0 ≤ t.ep) (hv : t.bea.length = 32) (hn : big t.nx.li.length) : Den Tryz.prog 68 [.agg (tm t)] [] (.tup [.agg (tm (followX t).1), .bool (followX t).2]) [] [] := by
  refine den_of Tryz.mixed Tryz.func68 rfl Tryz.call68 Tryz.ntmps68 (congrArg Array.toList Tryz.results68) (by simp) (by kernel_rfl) [] (exts := []) rfl rfl ?_
  have hm : followX t = if t.dec = true ∧ t.ep < 39 ∧ (decL t.nx.li).2 = 0 then (⟨t.ep + 1, (decL t.nx.li).1, nextV t.bea t.ep t.nx.li, false, noC⟩, true) else (noT, false) := rfl
  generalize followX t = m at *
  cases a1 : t.dec
  · rw [if_neg (fun h => by rw [a1] at h; cases h.1)] at hm
    subst hm
    simp only [go_sem, a1, noT, noC, List.map_nil]
  by_cases a2 : 39 ≤ t.ep
  · rw [if_neg (fun h => by omega)] at hm
    subst hm
    simp only [go_sem, a1, a2, noT, noC, List.map_nil]
  simp only [go_sem, a1, a2]
  refine call (pdec_den t.nx.li hn) [] ?_
  by_cases a3 : decOK t.nx.li
  rotate_left
  · rw [decL_no a3] at hm ⊢
    rw [if_neg (fun h => by cases h.2.2)] at hm
    subst hm
    simp only [go_sem, noT, noC, List.map_nil]
  rw [decL_of a3] at hm ⊢
  rw [if_pos ⟨a1, by omega, rfl⟩] at hm
  subst hm
  have cn := nextP_den t.bea t.ep t.nx.li hv h0 (by omega) (by have := a3.1; omega)
  have w : IntKind.i64.wrap (t.ep + 1) = t.ep + 1 := by rw [wrapI] <;> omega
  simp only [go_sem]
  refine call cn [] ?_
  simp only [go_sem, w, noC, List.map_nil]
end Go.Proofs.Am

/- All terms: the program's and the document's. -/
namespace Go.Proofs.Am
open Go Go.RowKit
open Go.Proofs
def termsE (r : Rl) (L : List Stm) : List Tm × Int := if ruleE r ≠ 0 then ([], ruleE r) else (termsX r L, 0)
theorem termsE_ok {r : Rl} {L : List Stm} (h : ruleE r = 0) : termsE r L = (termsX r L, 0) := if_neg (by simp [h])
theorem terms_cut {r : Rl} {L : List Stm} {t : Tm} {out X : List Tm} (hl : out.length < 40) (hX : out ++ termsG r L (40 - out.length) t = X) :
    X = (out ++ [fillT r L t]) ++ (match afterT (fillT r L t) with | none => [] | some u => termsG r L (40 - (out.length + 1)) u) := by
  rw [← hX, show 40 - out.length = 40 - (out.length + 1) + 1 by omega]
  simp only [termsG, List.append_assoc, List.singleton_append]
  cases afterT (fillT r L t) <;> rfl
theorem terms_step {r : Rl} {L : List Stm} {t : Tm} {out X : List Tm} (ht : OkT t) (he : t.ep = out.length) (hX : out ++ termsG r L (40 - out.length) t = X) :
    ((followX (fillT r L t)).2 = true → OkT (followX (fillT r L t)).1 ∧ (followX (fillT r L t)).1.ep = out.length + 1 ∧ (followX (fillT r L t)).1.dec = false ∧ (followX (fillT r L t)).1.nx = noC ∧ (out ++ [fillT r L t]) ++ termsG r L (40 - (out.length + 1)) (followX (fillT r L t)).1 = X) ∧
    ((followX (fillT r L t)).2 = false → (followX (fillT r L t)).1 = noT ∧ out ++ [fillT r L t] = X) := by
  have hlt := ht.hi
  have hc := terms_cut (by omega) hX
  have hep : (fillT r L t).ep = t.ep := rfl
  generalize hf : fillT r L t = f at *
  unfold followX
  split
  · rename_i h
    have ha : afterT f = some ⟨f.ep + 1, (decL f.nx.li).1, nextV f.bea f.ep f.nx.li, false, noC⟩ := if_pos ⟨h.1, h.2.2⟩
    refine ⟨fun _ => ⟨?_, by show f.ep + 1 = _; omega, rfl, rfl, ?_⟩, fun h => by cases h⟩
    · exact afterT_ok (hf ▸ fillT_ok ht) ha h.2.1
    · rw [hc, ha]
  · rename_i h
    refine ⟨fun h => (by cases h), fun _ => ⟨rfl, ?_⟩⟩
    rw [hc]
    cases ha : afterT f with
    | none => simp
    | some u =>
      obtain ⟨h1, h2, _⟩ := afterT_some ha
      have : ¬ f.ep < 39 := fun h3 => h ⟨h1, h3, h2⟩
      have : out.length = 39 := by omega
      rw [this]
      simp [termsG]
theorem decG_st {r : Rl} {L : List Stm} {t : Tm} (hr : ruleE r = 0) (ht : OkT t) : decG r L t ⟨t.ep, 1, 0, 0⟩ = ((fillT r L t).nx, (fillT r L t).dec, 0) := (decG_32 ht.bea).trans (decR_st hr ht)
theorem stA_big {r : Rl} {L : List Stm} {t : Tm} : bigC (fillT r L t).nx := by
  show bigC (oneC (stA r L t))
  exact oneC_big
structure TSt where
  t : Tm
  out : List Tm
  more : Bool
def zN : List Tm → PV
  | [] => .nils
  | _ :: _ => .vs []
theorem zN_nil : zN [] = .nils := rfl
theorem zN_cons (o : Tm) (l : List Tm) : zN (o :: l) = .vs [] := rfl
theorem zN_or : ∀ o : List Tm, zN o = .nils ∨ zN o = .vs []
  | [] => .inl rfl
  | _ :: _ => .inr rfl
theorem zN_app (o : List Tm) (x : Tm) : zN (o ++ [x]) = .vs [] := by cases o <;> rfl
set_option maxHeartbeats 1000000 in
set_option maxRecDepth 100000 in
theorem termsP_den (r : Rl) (L : List Stm) (hr : RlB r) (hL : L.length ≤ 900) (hs : ∀ s ∈ L, bigS s) : Den Tryz.prog 23 [.agg (rl r), .vs (L.map sm)] [] (.tup [.vs ((termsE r L).1.map tm), .int .i64 (termsE r L).2]) [] [] := by
  refine den_of Tryz.mixed Tryz.func23 rfl Tryz.call23 Tryz.ntmps23 (congrArg Array.toList Tryz.results23) (by simp) (by kernel_rfl) [] (exts := []) rfl rfl ?_
  have c0 := rcheckP r (by have := hr.g; simp only [big]; omega) (by have := hr.s; simp only [big]; omega) (by have := hr.t; simp only [big]; omega)
  have c0' := c0
  rw [rl_eq] at c0
  have hE : termsE r L = if ruleE r ≠ 0 then ([], ruleE r) else (termsX r L, 0) := rfl
  generalize termsE r L = m at *
  simp only [go_sem]
  refine call c0 [] ?_
  by_cases a1 : ruleE r = 0
  rotate_left
  · rw [if_pos a1] at hE
    subst hE
    simp only [go_sem, a1, List.map_nil]
  rw [if_neg (by simpa using a1)] at hE
  subst hE
  have c1 := firstP_den r a1 hr.g hr.s hr.t
  rw [rl_eq] at c1
  have hg := (rosV_pw (rule0 a1).1).2.2.1
  have hg0 : 0 < r.gen.length := List.length_pos_iff.2 hg
  simp only [go_sem, a1]
  refine call c1 [] ?_
  simp only [go_sem]
  refine call (cloneI_den r.gen hg0 (by have := hr.g; omega)) [] ?_
  simp only [go_sem]
  refine promote 9 99 64 6 false ?_ ?_ ?_ (by omega)
  · refine loop Tryz.mixed (⟨term0 r, [], true⟩ : TSt) (fun s : TSt => [(1, .vs (L.map sm)), (2, .ptr 2 0), (9, .os 99 s.out.length), (10, .ptr 10 0), (11, .bool s.more)]) (fun s => [(2, .cells (rl r)), (10, .cells [.int .i64 s.t.ep, .vs (s.t.ros.map i1), .str s.t.bea, .bool s.t.dec, zN s.out, zN s.out]), (99, .arr 64 6 false (s.out.map tm))])
      (fun s => s.out.length ≤ 40 ∧ (s.more = true → OkT s.t ∧ s.t.ep = s.out.length ∧ s.t.dec = false ∧ s.t.nx = noC ∧ s.out ++ termsG r L (40 - s.out.length) s.t = termsX r L) ∧ (s.more = false → s.out = termsX r L)) (fun s => 41 - s.out.length) (by kernel_rfl) ⟨by simp, fun _ => ⟨term0_ok a1, rfl, rfl, rfl, rfl⟩, fun h => by cases h⟩ ?_ ?_
    · simp only [go_sem, zN_nil, List.map_nil, List.length_nil]
      exact ⟨rfl, rfl, rfl, rfl⟩
    · rintro ⟨t, out, more⟩ ⟨hl, h1, h2⟩
      simp only at hl h1 h2 ⊢
      cases more
      · have h2 := h2 rfl
        subst h2
        simp only [go_sem]
      · obtain ⟨ht, he, hd, hn, hX⟩ := h1 rfl
        have hlt := ht.hi
        have cd := decP_den r L t ⟨t.ep, 1, 0, 0⟩ hr (by have := ht.len; simp only [big]; omega) hL hs
        rw [decG_st a1 ht] at cd
        have st := terms_step ht he hX
        have hfe : fillT r L t = ⟨t.ep, t.ros, t.bea, (fillT r L t).dec, (fillT r L t).nx⟩ := rfl
        have cf := follow_den (fillT r L t) ht.lo ht.bea stA_big.1
        have htm : tm t = [.int .i64 t.ep, .vs (t.ros.map i1), .str t.bea, .bool t.dec, .vs [], .vs []] := by rw [tm_eq, hn]; rfl
        rw [htm, rl_eq, cs_eq, ct_eq] at cd
        rw [tm_eq] at cf
        generalize fillT r L t = f at *
        have q1 : f.ep = t.ep := by rw [hfe]
        have q2 : f.ros = t.ros := by rw [hfe]
        have q3 : f.bea = t.bea := by rw [hfe]
        rw [q1, q2, q3, tm_eq] at cf
        generalize followX f = g at *
        obtain ⟨u, b⟩ := g
        simp only at st cf cd
        have hun : u.nx = noC := by
          cases b
          · rw [(st.2 rfl).1]; rfl
          · exact (st.1 rfl).2.2.2.1
        have hfr : tm f = [.int .i64 t.ep, .vs (t.ros.map i1), .str t.bea, .bool f.dec, .vs (f.nx.li.map i1), .vs (f.nx.pi.map pn)] := by rw [tm_eq, q1, q2, q3]
        rw [hun, show noC.li.map i1 = [] from rfl, show noC.pi.map pn = [] from rfl] at cf
        have hlo : out.length < 40 := by omega
        rcases zN_or out with hz | hz
        · simp only [go_sem, hz]
          refine call cd [] ?_
          simp only [go_sem]
          refine ⟨by omega, ?_⟩
          refine call cf [] ?_
          simp only [go_sem]
          refine ⟨⟨u, out ++ [f], b⟩, ⟨⟨by simp only [List.length_append, List.length_cons, List.length_nil]; omega, fun hb => ?_, fun hb => ?_⟩, by simp only [List.length_append, List.length_cons, List.length_nil]; omega⟩, ?_⟩
          · obtain ⟨g1, g2, g3, g4, g5⟩ := st.1 hb
            exact ⟨g1, by rw [g2]; simp, g3, g4, by rw [List.length_append]; exact g5⟩
          · exact (st.2 hb).2
          · simp only [go_sem, zN_app, List.length_append, List.map_append, List.map_cons, List.map_nil, hfr]
            done
        · simp only [go_sem, hz]
          refine call cd [] ?_
          simp only [go_sem]
          refine ⟨by omega, ?_⟩
          refine call cf [] ?_
          simp only [go_sem]
          refine ⟨⟨u, out ++ [f], b⟩, ⟨⟨by simp only [List.length_append, List.length_cons, List.length_nil]; omega, fun hb => ?_, fun hb => ?_⟩, by simp only [List.length_append, List.length_cons, List.length_nil]; omega⟩, ?_⟩
          · obtain ⟨g1, g2, g3, g4, g5⟩ := st.1 hb
            exact ⟨g1, by rw [g2]; simp, g3, g4, by rw [List.length_append]; exact g5⟩
          · exact (st.2 hb).2
          · simp only [go_sem, zN_app, List.length_append, List.map_append, List.map_cons, List.map_nil, hfr]
            done
  · simp only [go_sem]
  · simp only [go_sem]
end Go.Proofs.Am

/- All terms: the document's. -/
namespace Go.Proofs.Am
open Go Go.RowKit
open Go.Proofs
structure RSt where
  t : Tm
  out : List Tm
end Go.Proofs.Am

/- Terms: the one with an epoch; equal ones. -/
namespace Go.Proofs.Am
open Go Go.RowKit
open Go.Proofs
end Go.Proofs.Am
