/- MSix. -/
import Derived.Test.YtdfieogkeinkmaaGreatDoorNOne
set_option linter.unusedSimpArgs false
set_option linter.unusedVariables false
namespace Go.Proofs.Am
open Go Go.RowKit
open Go.Proofs
def leI (l : List Stm) (k : Int) (c : Cs) (x : Ct) (i : Nat) : Option Stm := fstL lessN ((l.take i).filter (forK c x k))
theorem leI_succ {l : List Stm} {k : Int} {c : Cs} {x : Ct} {i : Nat} (h : i < l.length) : leI l k c x (i + 1) = if forK c x k (el l i) = true then (match leI l k c x i with | none => some (el l i) | some t => if lessN (el l i) t = true then some (el l i) else some t) else leI l k c x i := by
  simp only [leI, fstL, take_el h, List.filter_append, List.foldl_append, List.filter_cons, List.filter_nil]
  split
  · simp only [List.foldl_cons, List.foldl_nil]
    generalize List.foldl _ _ _ = z
    cases z <;> rfl
  · rfl
theorem leI_all {l : List Stm} {k : Int} {c : Cs} {x : Ct} : leI l k c x l.length = leastL l k c x := by rw [leI, List.take_length]; rfl
def noS : Stm := ⟨0, 0, [], 0, 0, 0, 0, 0, [], [], [], 0, []⟩
def bestC : Option Stm → List PV
  | none => [.int .i64 0, .int .i64 0, .str [], .int .i64 0, .int .i64 0, .int .i64 0, .int .i64 0, .int .i64 0, .nils, .nils, .str [], .int .i64 0, .str []]
  | some s => sm s
theorem bestC_none : bestC none = [.int .i64 0, .int .i64 0, .str [], .int .i64 0, .int .i64 0, .int .i64 0, .int .i64 0, .int .i64 0, .nils, .nils, .str [], .int .i64 0, .str []] := rfl
theorem bestC_some (s : Stm) : bestC (some s) = sm s := rfl
theorem hin_best (d : List Nat) (o : Option Stm) : hinL d (bestC o) = true := by cases o <;> rfl
theorem len_best (o : Option Stm) : (bestC o).length = 13 := by cases o <;> rfl
theorem forK_of {c : Cs} {x : Ct} {k : Int} {s : Stm} : forK c x k s = (decide ((ofE s).2 = 0) && (decide (s.sk = s.au ∧ s.sd = dig s) && (decide (s.au = k) && (sameC (ofE s).1.c c && decide ((ofE s).1.x = x))))) := by
  unfold forK
  rw [okV_of]
  have e1 : (voteE s).1.x = (ofE s).1.x := rfl
  have e2 : decide ((ofE s).1.c = c) = sameC (ofE s).1.c c := rfl
  rw [e1, e2]
  cases decide ((ofE s).2 = 0) <;> cases decide (s.sk = s.au ∧ s.sd = dig s) <;> cases decide (s.au = k) <;> cases sameC (ofE s).1.c c <;> rfl
set_option maxHeartbeats 1000000 in
set_option maxRecDepth 100000 in
theorem least_den (l : List Stm) (k : Int) (c : Cs) (x : Ct) (hl : l.length ≤ 900) (hs : ∀ s ∈ l, bigS s) (hx : bigC x) :
    Den Tryz.prog 80 [.vs (l.map sm), .int .i64 k, .agg (cs c), .agg (ct x)] [] (.tup [.agg (sm ((leastL l k c x).getD noS)), .bool (leastL l k c x).isSome]) [] [] := by
  refine den_of Tryz.mixed Tryz.func80 rfl Tryz.call80 Tryz.ntmps80 (congrArg Array.toList Tryz.results80) (by simp) (by kernel_rfl) [] (exts := []) rfl rfl ?_
  rw [← leI_all]
  simp only [go_sem, cs_eq, ct_eq]
  refine loop Tryz.mixed 0 (fun i : Nat => [(0, .vs (l.map sm)), (1, .int .i64 k), (6, .ptr 6 0), (7, .ptr 7 0), (8, .ptr 8 0), (10, .ptr 10 0), (11, .bool (leI l k c x i).isSome), (12, .int .i64 i)]) (fun i => [(6, .cells [.int .i64 c.ep, .int .i64 c.kd, .int .i64 c.su, .int .i64 c.ro]), (7, .cells [.vs (x.li.map i1), .vs (x.pi.map pn)]), (8, .cells [.int .i64 0, .int .i64 0, .str [], .int .i64 0, .int .i64 0, .int .i64 0, .int .i64 0, .int .i64 0, .nils, .nils, .str [], .int .i64 0, .str []]), (10, .cells (bestC (leI l k c x i)))]) (fun i => i ≤ l.length) (fun i => l.length - i) (by kernel_rfl) (Nat.zero_le _) ?_ ?_
  · have e0 : leI l k c x 0 = none := rfl
    simp only [go_sem, e0, bestC_none, Option.isSome_none]
  · intro i hi
    by_cases hlt : i < l.length
    · have h1 : (i : Int) < (l.length : Int) := by omega
      have hsu := leI_succ (k := k) (c := c) (x := x) hlt
      have cv := rof_den (el l i) (hs _ (el_mem hlt))
      have cs' := fun h => rsealed_den (el l i) (okS_ofE h)
      have hk := fun h => ofE_k (s := el l i) h
      have hby : bigC (ofE (el l i)).1.x := okCt_big (voteE_ok (s := el l i))
      have co := order23_den (ofE (el l i)).1.x x hby.1 hby.2 hx.1 hx.2
      have hq := forK_of (c := c) (x := x) (k := k) (s := el l i)
      rw [← ordC_dec] at hq
      rw [sm_eq] at cv cs'
      generalize leI l k c x i = o at *
      generalize ofE (el l i) = ve at *
      obtain ⟨w, e⟩ := ve
      simp only at hq hby co cv cs' hk
      generalize hb2 : decide ((el l i).sk = (el l i).au ∧ (el l i).sd = dig (el l i)) = b2 at *
      have skip : forK c x k (el l i) = false → leI l k c x (i + 1) = o := fun h => by rw [hsu, h, if_neg (by simp)]
      simp only [go_sem, h1, hlt]
      refine call cv [] ?_
      by_cases z1 : e = 0
      rotate_left
      · rw [decide_eq_false z1, Bool.false_and] at hq
        simp only [go_sem, z1]
        refine ⟨i + 1, ⟨by omega, by omega⟩, ?_⟩
        rw [skip hq]
        simp only [go_sem, hin_best]
        rw [wrapI] <;> omega
      subst z1
      have hk := hk rfl
      simp only [go_sem, hlt]
      refine call (cs' rfl) [] ?_
      cases b2
      · have hq : forK c x k (el l i) = false := hq
        simp only [go_sem]
        refine ⟨i + 1, ⟨by omega, by omega⟩, ?_⟩
        rw [skip hq]
        simp only [go_sem, hin_best]
        rw [wrapI] <;> omega
      by_cases ha : (el l i).au = k
      rotate_left
      · rw [decide_eq_false ha] at hq
        have hq : forK c x k (el l i) = false := hq
        simp only [go_sem, hk, ha]
        refine ⟨i + 1, ⟨by omega, by omega⟩, ?_⟩
        rw [skip hq]
        simp only [go_sem, hin_best]
        rw [wrapI] <;> omega
      rw [decide_eq_true ha] at hq
      cases hsc : sameC w.c c
      · rw [hsc] at hq
        have hq : forK c x k (el l i) = false := hq
        simp only [go_sem, hk, ha, dec_cs, hsc]
        refine ⟨i + 1, ⟨by omega, by omega⟩, ?_⟩
        rw [skip hq]
        simp only [go_sem, hin_best]
        rw [wrapI] <;> omega
      rw [hsc] at hq
      simp only [go_sem, hk, ha, dec_cs, hsc]
      refine call co [] ?_
      by_cases z : ordC w.x x = 0
      rotate_left
      · rw [decide_eq_false z] at hq
        have hq : forK c x k (el l i) = false := hq
        simp only [go_sem, z]
        refine ⟨i + 1, ⟨by omega, by omega⟩, ?_⟩
        rw [skip hq]
        simp only [go_sem, hin_best]
        rw [wrapI] <;> omega
      rw [decide_eq_true z] at hq
      have hq : forK c x k (el l i) = true := hq
      rw [hq, if_pos rfl] at hsu
      cases o with
      | none =>
        simp only at hsu
        simp only [go_sem, z, hlt, Option.isSome_none]
        refine ⟨okD_of (by kernel_rfl), by rw [len_best]; exact Nat.le_refl _, i + 1, ⟨by omega, by omega⟩, ?_⟩
        rw [hsu]
        simp only [go_sem, Option.isSome_some, hin_best, bestC_some]
        refine ⟨?_, rfl⟩
        rw [wrapI] <;> omega
      | some t =>
        simp only at hsu
        have hle : lessN (el l i) t = decide ((el l i).nu < t.nu ∨ (el l i).nu = t.nu ∧ Lib.compareBytes (el l i).sd t.sd < 0) := rfl
        by_cases d1 : (el l i).nu < t.nu
        · rw [hle, decide_eq_true (.inl d1), if_pos rfl] at hsu
          simp only [go_sem, z, hlt, Option.isSome_some, bestC_some, d1]
          refine ⟨okD_of (by kernel_rfl), i + 1, ⟨by omega, by omega⟩, ?_⟩
          rw [hsu]
          simp only [go_sem, Option.isSome_some, hin_best, bestC_some]
          rw [wrapI] <;> omega
        by_cases d2 : (el l i).nu = t.nu
        rotate_left
        · rw [hle, decide_eq_false (fun h => by rcases h with h | h; exact d1 h; exact d2 h.1), if_neg (by simp)] at hsu
          simp only [go_sem, z, hlt, Option.isSome_some, bestC_some, d1, d2]
          refine ⟨okD_of (by kernel_rfl), i + 1, ⟨by omega, by omega⟩, ?_⟩
          rw [hsu]
          simp only [go_sem, Option.isSome_some, hin_best, bestC_some]
          rw [wrapI] <;> omega
        by_cases d3 : Lib.compareBytes (el l i).sd t.sd < 0
        · rw [hle, decide_eq_true (.inr ⟨d2, d3⟩), if_pos rfl] at hsu
          have d4 : Op.bytesLess (el l i).sd t.sd = true := by rw [bytesLess_cmp, decide_eq_true d3]
          simp only [go_sem, z, hlt, Option.isSome_some, bestC_some, d1, d2, d4, Int.lt_irrefl]
          refine ⟨okD_of (by kernel_rfl), i + 1, ⟨by omega, by omega⟩, ?_⟩
          rw [hsu]
          simp only [go_sem, Option.isSome_some, hin_best, bestC_some]
          rw [wrapI] <;> omega
        · rw [hle, decide_eq_false (fun h => by rcases h with h | h; exact d1 h; exact d3 h.2), if_neg (by simp)] at hsu
          have d4 : Op.bytesLess (el l i).sd t.sd = false := by rw [bytesLess_cmp, decide_eq_false d3]
          simp only [go_sem, z, hlt, Option.isSome_some, bestC_some, d1, d2, d4, Int.lt_irrefl]
          refine ⟨okD_of (by kernel_rfl), i + 1, ⟨by omega, by omega⟩, ?_⟩
          rw [hsu]
          simp only [go_sem, Option.isSome_some, hin_best, bestC_some]
          rw [wrapI] <;> omega
    · have h1 : ¬ (i : Int) < (l.length : Int) := by omega
      have : i = l.length := by omega
      subst this
      cases leI l k c x l.length with
      | none =>
        simp only [go_sem, h1, bestC_none, Option.isSome_none, Option.getD_none, noS, List.map_nil]
      | some t =>
        simp only [go_sem, h1, bestC_some, Option.isSome_some, Option.getD_some]
end Go.Proofs.Am

/- The document's certificate; certificates are compared. -/
namespace Go.Proofs.Am
open Go Go.RowKit
open Go.Proofs
def ceI (l : List Stm) (c : Cs) (x : Ct) (seats : List Int) (i : Nat) : List Stm := (List.range i).filterMap fun (k : Nat) => if (k : Int) ∈ seats then leastL l k c x else none
theorem ceI_succ {l : List Stm} {c : Cs} {x : Ct} {seats : List Int} {i : Nat} : ceI l c x seats (i + 1) = ceI l c x seats i ++ (match (if (i : Int) ∈ seats then leastL l i c x else none) with | none => [] | some s => [s]) := by
  simp only [ceI, List.range_succ, List.filterMap_append, List.filterMap_cons, List.filterMap_nil]
  split <;> simp_all
theorem ceI_len {l : List Stm} {c : Cs} {x : Ct} {seats : List Int} : ∀ i, (ceI l c x seats i).length ≤ i
  | 0 => by simp [ceI]
  | i + 1 => by
    have := ceI_len (l := l) (c := c) (x := x) (seats := seats) i
    rw [ceI_succ, List.length_append]
    split <;> simp <;> omega
theorem ceI_all {l : List Stm} {c : Cs} {x : Ct} {seats : List Int} : ceI l c x seats 64 = certR l c x seats := rfl
def celV : List Stm → PV
  | [] => .nils
  | s :: r => .os 54 (s :: r).length
def celB : List Stm → ASt
  | [] => []
  | s :: r => [(54, .arr 41 13 false ((s :: r).map sm))]
theorem celV_nil : celV [] = .nils := rfl
theorem celV_cons (s : Stm) (r : List Stm) : celV (s :: r) = .os 54 (s :: r).length := rfl
theorem celB_nil : celB [] = [] := rfl
theorem celB_cons (s : Stm) (r : List Stm) : celB (s :: r) = [(54, .arr 41 13 false ((s :: r).map sm))] := rfl
set_option maxHeartbeats 1000000 in
set_option maxRecDepth 100000 in
theorem rcert_den (l : List Stm) (c : Cs) (seats : List Int) (hl : l.length ≤ 900) (hs : ∀ s ∈ l, bigS s) (hb : big seats.length) :
    Den Tryz.prog 33 [.vs (l.map sm), .agg (cs c), .vs (seats.map i1)] [] (.tup [.agg (ce (certX l c seats).1 (certX l c seats).2.1), .int .i64 (certX l c seats).2.2]) [] [] := by
  refine den_of Tryz.mixed Tryz.func33 rfl Tryz.call33 Tryz.ntmps33 (congrArg Array.toList Tryz.results33) (by simp) (by kernel_rfl) [] (exts := []) rfl rfl ?_
  have c1 := rof28_den l c seats hl hs hb _ rfl (by
    have := allV_lenX (seats := seats) (l := l) (c := c)
    split <;> simp only [big, List.length_nil] <;> omega)
  have hX : certX l c seats = if ckS c seats ≠ 0 then (noCs, [], ckS c seats) else if (allV seats (votesL l c)).length = 1 then (c, certL l c (oneC (allV seats (votesL l c))) seats, 0) else (noCs, [], 11) := rfl
  have c2 := fun k => least_den l k c (oneC (allV seats (votesL l c))) hl hs oneC_big
  have hkeys : ckS c seats = 0 → certL l c (oneC (allV seats (votesL l c))) seats = ceI l c (oneC (allV seats (votesL l c))) seats 64 := fun h => certL_keys (ckS_zero h).2.2.2
  rw [cs_eq] at c1
  generalize certX l c seats = r at *
  by_cases hz : ckS c seats = 0
  rotate_left
  · rw [if_pos hz] at hX
    subst hX
    rw [if_neg hz] at c1
    generalize ckS c seats = k at *
    simp only [go_sem, cs_eq]
    refine call c1 [] ?_
    simp only [go_sem, hz, ce_eq, noCs, List.map_nil]
  · rw [if_neg (by simp [hz])] at hX
    rw [hkeys hz] at hX
    rw [if_pos hz, hz] at c1
    generalize allV seats (votesL l c) = A at *
    generalize oneC A = x at *
    by_cases h1 : A.length = 1
    · rw [if_pos h1] at hX
      subst hX
      rw [decide_eq_true h1] at c1
      have hst := fun i => ceI_succ (l := l) (c := c) (x := x) (seats := seats) (i := i)
      have hln := fun i => ceI_len (l := l) (c := c) (x := x) (seats := seats) i
      simp only [go_sem, cs_eq]
      refine call c1 [] ?_
      simp only [go_sem, ce_eq, ct_eq]
      refine loop Tryz.mixed 0 (fun i : Nat => [(0, .vs (l.map sm)), (2, .vs (seats.map i1)), (4, .ptr 4 0), (6, .ptr 6 0), (8, .ptr 8 0), (11, .ptr 11 0), (12, .int .i64 i)]) (fun i => (4, .cells [.int .i64 c.ep, .int .i64 c.kd, .int .i64 c.su, .int .i64 c.ro]) :: (6, .cells [.int .i64 0, .int .i64 0, .int .i64 0, .int .i64 0, .nils]) :: (8, .cells [.vs (x.li.map i1), .vs (x.pi.map pn)]) :: (11, .cells [.int .i64 c.ep, .int .i64 c.kd, .int .i64 c.su, .int .i64 c.ro, celV (ceI l c x seats i)]) :: celB (ceI l c x seats i)) (fun i => i ≤ 64) (fun i => 64 - i) (by kernel_rfl) (Nat.zero_le _) ?_ ?_
      · have e0 : ceI l c x seats 0 = [] := rfl
        simp only [go_sem, e0, celV_nil, celB_nil]
      · intro i hi
        by_cases hlt : i < 64
        · have h2 : (i : Int) < 64 := by omega
          have c3 := c2 (i : Int)
          have c4 := has24 seats (i : Int) hb
          have hst := hst i
          have hln := hln i
          rw [cs_eq, ct_eq] at c3
          generalize ceI l c x seats i = o at *
          generalize leastL l i c x = m at *
          cases m with
          | none =>
            have hn0 : (if (i : Int) ∈ seats then (none : Option Stm) else none) = none := by split <;> rfl
            have hst : ceI l c x seats (i + 1) = o := by rw [hst, hn0]; simp
            rw [Option.isSome_none] at c3
            cases o with
            | nil =>
              simp only [go_sem, h2, celV_nil, celB_nil]
              refine call c3 [] ?_
              simp only [go_sem]
              refine ⟨i + 1, ⟨by omega, by omega⟩, ?_⟩
              rw [hst]
              simp only [go_sem, celV_nil, celB_nil]
              rw [wrapI] <;> omega
            | cons a r =>
              simp only [go_sem, h2, celV_cons, celB_cons]
              refine call c3 [] ?_
              simp only [go_sem]
              refine ⟨i + 1, ⟨by omega, by omega⟩, ?_⟩
              rw [hst]
              simp only [go_sem, celV_cons, celB_cons]
              rw [wrapI] <;> omega
          | some s =>
            rw [Option.isSome_some, Option.getD_some, sm_eq] at c3
            by_cases hm : (i : Int) ∈ seats
            · rw [decide_eq_true hm] at c4
              rw [if_pos hm] at hst
              simp only at hst
              cases o with
              | nil =>
                simp only [go_sem, h2, celV_nil, celB_nil]
                refine call c3 [] ?_
                simp only [go_sem]
                refine call c4 [] ?_
                simp only [go_sem]
                refine ⟨i + 1, ⟨by omega, by omega⟩, by rw [wrapI] <;> omega, ?_⟩
                rw [hst]
                simp only [go_sem, List.nil_append, celV_cons, celB_cons]
              | cons a r =>
                simp only [go_sem, h2, celV_cons, celB_cons]
                refine call c3 [] ?_
                simp only [go_sem]
                refine call c4 [] ?_
                simp only [go_sem]
                refine ⟨by simp only [List.length_cons] at hln; omega, i + 1, ⟨by omega, by omega⟩, by rw [wrapI] <;> omega, ?_⟩
                rw [hst]
                simp only [go_sem, List.cons_append, celV_cons, celB_cons]
                simp only [List.map_append, List.map_cons, List.map_nil, sm_eq]
            · rw [decide_eq_false hm] at c4
              rw [if_neg hm] at hst
              have hst : ceI l c x seats (i + 1) = o := by rw [hst]; simp
              cases o with
              | nil =>
                simp only [go_sem, h2, celV_nil, celB_nil]
                refine call c3 [] ?_
                simp only [go_sem]
                refine call c4 [] ?_
                simp only [go_sem]
                refine ⟨i + 1, ⟨by omega, by omega⟩, ?_⟩
                rw [hst]
                simp only [go_sem, celV_nil, celB_nil]
                rw [wrapI] <;> omega
              | cons a r =>
                simp only [go_sem, h2, celV_cons, celB_cons]
                refine call c3 [] ?_
                simp only [go_sem]
                refine call c4 [] ?_
                simp only [go_sem]
                refine ⟨i + 1, ⟨by omega, by omega⟩, ?_⟩
                rw [hst]
                simp only [go_sem, celV_cons, celB_cons]
                rw [wrapI] <;> omega
        · have h2 : ¬ (i : Int) < 64 := by omega
          have : i = 64 := by omega
          subst this
          generalize ceI l c x seats 64 = o at *
          cases o with
          | nil =>
            simp only [go_sem, h2, celV_nil, celB_nil, ce_eq, List.map_nil]
          | cons a r =>
            simp only [go_sem, h2, celV_cons, celB_cons, ce_eq]
            trace_state
    · rw [if_neg h1] at hX
      subst hX
      rw [decide_eq_false h1] at c1
      simp only [go_sem, cs_eq]
      refine call c1 [] ?_
      simp only [go_sem, ce_eq, noCs, List.map_nil]
end Go.Proofs.Am
