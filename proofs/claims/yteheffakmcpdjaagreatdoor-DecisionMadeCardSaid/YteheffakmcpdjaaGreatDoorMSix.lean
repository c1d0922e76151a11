/- The document's certificates. -/
import Derived.Test.YteheffakmcpdjaaGreatDoorNOne
import Derived.Test.YteheffakmcpdjaaGreatDoorFTwo
import Derived.Test.YteheffakmcpdjaaGreatDoorMTwo
import Derived.Test.YteheffakmcpdjaaGreatDoorMOne
set_option linter.unusedSimpArgs false
set_option linter.unusedVariables false
namespace Go.Proofs.Am
open Go Go.RowKit
open Go.Proofs

/-- The least of the first statements. -/
def leI (l : List Stm) (k : Int) (c : Cs) (x : Ct) (i : Nat) : Option Stm := fstL lessN ((l.take i).filter (forK c x k))
theorem leI_succ {l : List Stm} {k : Int} {c : Cs} {x : Ct} {i : Nat} (h : i < l.length) : leI l k c x (i + 1) = if forK c x k (el l i) = true then (match leI l k c x i with | none => some (el l i) | some t => if lessN (el l i) t = true then some (el l i) else some t) else leI l k c x i := by
  simp only [leI, fstL, take_el h, List.filter_append, List.foldl_append, List.filter_cons, List.filter_nil]
  split
  · simp only [List.foldl_cons, List.foldl_nil]
    generalize List.foldl _ _ _ = z
    cases z <;> rfl
  · rfl
theorem leI_all {l : List Stm} {k : Int} {c : Cs} {x : Ct} : leI l k c x l.length = leastL l k c x := by rw [leI, List.take_length]; rfl
def noS : Stm := ⟨0, 0, [], 0, 0, 0, 0, 0, [], [], [], 0, []⟩
/-- What the box of the best holds. -/
def bestC : Option Stm → List PV
  | none => [.int .i64 0, .int .i64 0, .str [], .int .i64 0, .int .i64 0, .int .i64 0, .int .i64 0, .int .i64 0, .nils, .nils, .str [], .int .i64 0, .str []]
  | some s => sm s
theorem bestC_none : bestC none = [.int .i64 0, .int .i64 0, .str [], .int .i64 0, .int .i64 0, .int .i64 0, .int .i64 0, .int .i64 0, .nils, .nils, .str [], .int .i64 0, .str []] := rfl
theorem bestC_some (s : Stm) : bestC (some s) = sm s := rfl
theorem hin_best (d : List Nat) (o : Option Stm) : hinL d (bestC o) = true := by cases o <;> rfl
theorem len_best (o : Option Stm) : (bestC o).length = 13 := by cases o <;> rfl
theorem forK_of {c : Cs} {x : Ct} {k : Int} {s : Stm} : forK c x k s = (decide ((ofE s).2 = 0) && (decide (s.sk = s.au ∧ s.sd = dig s) && (decide (s.au = k) && (sameC (ofE s).1.c c && decide ((ofE s).1.x = x))))) := by
  unfold forK
  rw [okV_of]
  have e1 : (voteE s).1.x = (ofE s).1.x := rfl
  have e2 : decide ((ofE s).1.c = c) = sameC (ofE s).1.c c := rfl
  rw [e1, e2]
  cases decide ((ofE s).2 = 0) <;> cases decide (s.sk = s.au ∧ s.sd = dig s) <;> cases decide (s.au = k) <;> cases sameC (ofE s).1.c c <;> rfl
set_option maxHeartbeats 1000000 in
set_option maxRecDepth 100000 in
theorem least_den (l : List Stm) (k : Int) (c : Cs) (x : Ct) (hl : l.length ≤ 900) (hs : ∀ s ∈ l, bigS s) (hx : bigC x) :
    Den Tryz.prog 98 [.vs (l.map sm), .int .i64 k, .agg (cs c), .agg (ct x)] [] (.tup [.agg (sm ((leastL l k c x).getD noS)), .bool (leastL l k c x).isSome]) [] [] := by
  refine den_of Tryz.mixed Tryz.func98 rfl Tryz.call98 Tryz.ntmps98 (congrArg Array.toList Tryz.results98) (by simp) (by kernel_rfl) [] (exts := []) rfl rfl ?_
  rw [← leI_all]
  simp only [go_sem, cs_eq, ct_eq]
  refine loop Tryz.mixed 0 (fun i : Nat => [(0, .vs (l.map sm)), (1, .int .i64 k), (6, .ptr 6 0), (7, .ptr 7 0), (8, .ptr 8 0), (10, .ptr 10 0), (11, .bool (leI l k c x i).isSome), (12, .int .i64 i)]) (fun i => [(6, .cells [.int .i64 c.ep, .int .i64 c.kd, .int .i64 c.su, .int .i64 c.ro]), (7, .cells [.vs (x.li.map i1), .vs (x.pi.map pn)]), (8, .cells [.int .i64 0, .int .i64 0, .str [], .int .i64 0, .int .i64 0, .int .i64 0, .int .i64 0, .int .i64 0, .nils, .nils, .str [], .int .i64 0, .str []]), (10, .cells (bestC (leI l k c x i)))]) (fun i => i ≤ l.length) (fun i => l.length - i) (by kernel_rfl) (Nat.zero_le _) ?_ ?_
  · have e0 : leI l k c x 0 = none := rfl
    simp only [go_sem, e0, bestC_none, Option.isSome_none]
  · intro i hi
    by_cases hlt : i < l.length
    · have h1 : (i : Int) < (l.length : Int) := by omega
      have hsu := leI_succ (k := k) (c := c) (x := x) hlt
      have cv := rof_den (el l i) (hs _ (el_mem hlt))
      have cs' := fun h => rsealed_den (el l i) (okS_ofE h)
      have hk := fun h => ofE_k (s := el l i) h
      have hby : bigC (ofE (el l i)).1.x := okCt_big (voteE_ok (s := el l i))
      have co := order23_den (ofE (el l i)).1.x x hby.1 hby.2 hx.1 hx.2
      have hq := forK_of (c := c) (x := x) (k := k) (s := el l i)
      rw [← ordC_dec] at hq
      rw [sm_eq] at cv cs'
      generalize leI l k c x i = o at *
      generalize ofE (el l i) = ve at *
      obtain ⟨w, e⟩ := ve
      simp only at hq hby co cv cs' hk
      generalize hb2 : decide ((el l i).sk = (el l i).au ∧ (el l i).sd = dig (el l i)) = b2 at *
      have skip : forK c x k (el l i) = false → leI l k c x (i + 1) = o := fun h => by rw [hsu, h, if_neg (by simp)]
      simp only [go_sem, h1, hlt]
      refine call cv [] ?_
      by_cases z1 : e = 0
      rotate_left
      · rw [decide_eq_false z1, Bool.false_and] at hq
        simp only [go_sem, z1]
        refine ⟨i + 1, ⟨by omega, by omega⟩, ?_⟩
        rw [skip hq]
        simp only [go_sem, hin_best]
        rw [wrapI] <;> omega
      subst z1
      have hk := hk rfl
      simp only [go_sem, hlt]
      refine call (cs' rfl) [] ?_
      cases b2
      · have hq : forK c x k (el l i) = false := hq
        simp only [go_sem]
        refine ⟨i + 1, ⟨by omega, by omega⟩, ?_⟩
        rw [skip hq]
        simp only [go_sem, hin_best]
        rw [wrapI] <;> omega
      by_cases ha : (el l i).au = k
      rotate_left
      · rw [decide_eq_false ha] at hq
        have hq : forK c x k (el l i) = false := hq
        simp only [go_sem, hk, ha]
        refine ⟨i + 1, ⟨by omega, by omega⟩, ?_⟩
        rw [skip hq]
        simp only [go_sem, hin_best]
        rw [wrapI] <;> omega
      rw [decide_eq_true ha] at hq
      cases hsc : sameC w.c c
      · rw [hsc] at hq
        have hq : forK c x k (el l i) = false := hq
        simp only [go_sem, hk, ha, dec_cs, hsc]
        refine ⟨i + 1, ⟨by omega, by omega⟩, ?_⟩
        rw [skip hq]
        simp only [go_sem, hin_best]
        rw [wrapI] <;> omega
      rw [hsc] at hq
      simp only [go_sem, hk, ha, dec_cs, hsc]
      refine call co [] ?_
      by_cases z : ordC w.x x = 0
      rotate_left
      · rw [decide_eq_false z] at hq
        have hq : forK c x k (el l i) = false := hq
        simp only [go_sem, z]
        refine ⟨i + 1, ⟨by omega, by omega⟩, ?_⟩
        rw [skip hq]
        simp only [go_sem, hin_best]
        rw [wrapI] <;> omega
      rw [decide_eq_true z] at hq
      have hq : forK c x k (el l i) = true := hq
      rw [hq, if_pos rfl] at hsu
      cases o with
      | none =>
        simp only at hsu
        simp only [go_sem, z, hlt, Option.isSome_none]
        refine ⟨okD_of (by kernel_rfl), by rw [len_best]; exact Nat.le_refl _, i + 1, ⟨by omega, by omega⟩, ?_⟩
        rw [hsu]
        simp only [go_sem, Option.isSome_some, hin_best, bestC_some]
        refine ⟨?_, rfl⟩
        rw [wrapI] <;> omega
      | some t =>
        simp only at hsu
        have hle : lessN (el l i) t = decide ((el l i).nu < t.nu ∨ (el l i).nu = t.nu ∧ Lib.compareBytes (el l i).sd t.sd < 0) := rfl
        by_cases d1 : (el l i).nu < t.nu
        · rw [hle, decide_eq_true (.inl d1), if_pos rfl] at hsu
          simp only [go_sem, z, hlt, Option.isSome_some, bestC_some, d1]
          refine ⟨okD_of (by kernel_rfl), i + 1, ⟨by omega, by omega⟩, ?_⟩
          rw [hsu]
          simp only [go_sem, Option.isSome_some, hin_best, bestC_some]
          rw [wrapI] <;> omega
        by_cases d2 : (el l i).nu = t.nu
        rotate_left
        · rw [hle, decide_eq_false (fun h => by rcases h with h | h; exact d1 h; exact d2 h.1), if_neg (by simp)] at hsu
          simp only [go_sem, z, hlt, Option.isSome_some, bestC_some, d1, d2]
          refine ⟨okD_of (by kernel_rfl), i + 1, ⟨by omega, by omega⟩, ?_⟩
          rw [hsu]
          simp only [go_sem, Option.isSome_some, hin_best, bestC_some]
          rw [wrapI] <;> omega
        by_cases d3 : Lib.compareBytes (el l i).sd t.sd < 0
        · rw [hle, decide_eq_true (.inr ⟨d2, d3⟩), if_pos rfl] at hsu
          have d4 : Op.bytesLess (el l i).sd t.sd = true := by rw [bytesLess_cmp, decide_eq_true d3]
          simp only [go_sem, z, hlt, Option.isSome_some, bestC_some, d1, d2, d4, Int.lt_irrefl]
          refine ⟨okD_of (by kernel_rfl), i + 1, ⟨by omega, by omega⟩, ?_⟩
          rw [hsu]
          simp only [go_sem, Option.isSome_some, hin_best, bestC_some]
          rw [wrapI] <;> omega
        · rw [hle, decide_eq_false (fun h => by rcases h with h | h; exact d1 h; exact d3 h.2), if_neg (by simp)] at hsu
          have d4 : Op.bytesLess (el l i).sd t.sd = false := by rw [bytesLess_cmp, decide_eq_false d3]
          simp only [go_sem, z, hlt, Option.isSome_some, bestC_some, d1, d2, d4, Int.lt_irrefl]
          refine ⟨okD_of (by kernel_rfl), i + 1, ⟨by omega, by omega⟩, ?_⟩
          rw [hsu]
          simp only [go_sem, Option.isSome_some, hin_best, bestC_some]
          rw [wrapI] <;> omega
    · have h1 : ¬ (i : Int) < (l.length : Int) := by omega
      have : i = l.length := by omega
      subst this
      cases leI l k c x l.length with
      | none =>
        simp only [go_sem, h1, bestC_none, Option.isSome_none, Option.getD_none, noS, List.map_nil]
      | some t =>
        simp only [go_sem, h1, bestC_some, Option.isSome_some, Option.getD_some]
end Go.Proofs.Am

/- The document's certificate; certificates are compared. -/
namespace Go.Proofs.Am
open Go Go.RowKit
open Go.Proofs

set_option maxHeartbeats 1000000 in
set_option maxRecDepth 100000 in
theorem sameI03_den (a : List Int) (h : big a.length) : Den Tryz.prog 183 [.vs (a.map i1), .vs (a.map i1)] [] (.bool true) [] [] := by
  refine den_of Tryz.mixed Tryz.func183 rfl Tryz.call183 Tryz.ntmps183 (congrArg Array.toList Tryz.results183) (by simp) (by kernel_rfl) [] (exts := []) rfl rfl ?_
  simp only [go_sem]
  refine loop Tryz.mixed 0 (fun i : Nat => [(0, .vs (a.map i1)), (1, .vs (a.map i1)), (5, .int .i64 i)]) (fun _ => []) (fun i => i ≤ a.length) (fun i => a.length - i) (by kernel_rfl) (Nat.zero_le _) ?_ ?_
  · simp only [go_sem]
  · intro i hi
    by_cases hlt : i < a.length
    · have h1 : (i : Int) < (a.length : Int) := by omega
      simp only [go_sem, h1, hlt]
      exact ⟨okD_of (by kernel_rfl), i + 1, ⟨by omega, by omega⟩, by rw [wrapI] <;> omega⟩
    · have h1 : ¬ (i : Int) < (a.length : Int) := by omega
      simp only [go_sem, h1]
set_option maxHeartbeats 1000000 in
set_option maxRecDepth 100000 in
theorem sameP03_den (a : List Pn) (h : big a.length) : Den Tryz.prog 184 [.vs (a.map pn), .vs (a.map pn)] [] (.bool true) [] [] := by
  refine den_of Tryz.mixed Tryz.func184 rfl Tryz.call184 Tryz.ntmps184 (congrArg Array.toList Tryz.results184) (by simp) (by kernel_rfl) [] (exts := []) rfl rfl ?_
  simp only [go_sem]
  refine loop Tryz.mixed 0 (fun i : Nat => [(0, .vs (a.map pn)), (1, .vs (a.map pn)), (5, .int .i64 i)]) (fun _ => []) (fun i => i ≤ a.length) (fun i => a.length - i) (by kernel_rfl) (Nat.zero_le _) ?_ ?_
  · simp only [go_sem]
  · intro i hi
    by_cases hlt : i < a.length
    · have h1 : (i : Int) < (a.length : Int) := by omega
      have hP : (el a i).au = (el a i).au ∧ (el a i).he = (el a i).he ∧ (el a i).di = (el a i).di := ⟨rfl, rfl, rfl⟩
      simp only [go_sem, h1, hlt]
      exact ⟨okD_of (by kernel_rfl), i + 1, ⟨by omega, by omega⟩, by rw [wrapI] <;> omega⟩
    · have h1 : ¬ (i : Int) < (a.length : Int) := by omega
      simp only [go_sem, h1]
set_option maxHeartbeats 1000000 in
set_option maxRecDepth 100000 in
theorem same03_den (s : Stm) (h : bigS s) : Den Tryz.prog 135 [.agg (sm s), .agg (sm s)] [] (.bool true) [] [] := by
  refine den_of Tryz.mixed Tryz.func135 rfl Tryz.call135 Tryz.ntmps135 (congrArg Array.toList Tryz.results135) (by simp) (by kernel_rfl) [] (exts := []) rfl rfl ?_
  have c1 := sameI03_den s.li h.1
  have c2 := sameP03_den s.pins h.2
  rw [sm_eq]
  simp only [go_sem, List.append_eq, List.cons_append, List.nil_append]
  refine call c1 [] ?_
  simp only [go_sem]
  refine call c2 [] ?_
  simp only [go_sem]
set_option maxHeartbeats 1000000 in
set_option maxRecDepth 100000 in
theorem sameSt_den (l : List Stm) (hl : big l.length) (hs : ∀ s ∈ l, bigS s) : Den Tryz.prog 100 [.vs (l.map sm), .vs (l.map sm)] [] (.bool true) [] [] := by
  refine den_of Tryz.mixed Tryz.func100 rfl Tryz.call100 Tryz.ntmps100 (congrArg Array.toList Tryz.results100) (by simp) (by kernel_rfl) [] (exts := []) rfl rfl ?_
  simp only [go_sem]
  refine loop Tryz.mixed 0 (fun i : Nat => [(0, .vs (l.map sm)), (1, .vs (l.map sm)), (5, .int .i64 i)]) (fun _ => []) (fun i => i ≤ l.length) (fun i => l.length - i) (by kernel_rfl) (Nat.zero_le _) ?_ ?_
  · simp only [go_sem]
  · intro i hi
    by_cases hlt : i < l.length
    · have h1 : (i : Int) < (l.length : Int) := by omega
      have c1 := same03_den (el l i) (hs _ (el_mem hlt))
      rw [sm_eq] at c1
      simp only [go_sem, h1, hlt]
      refine call c1 [] ?_
      simp only [go_sem]
      exact ⟨okD_of (by kernel_rfl), i + 1, ⟨by omega, by omega⟩, by rw [wrapI] <;> omega⟩
    · have h1 : ¬ (i : Int) < (l.length : Int) := by omega
      simp only [go_sem, h1]
set_option maxHeartbeats 1000000 in
set_option maxRecDepth 100000 in
theorem sameCe_den (c : Cs) (l : List Stm) (hl : big l.length) (hs : ∀ s ∈ l, bigS s) : Den Tryz.prog 60 [.agg (ce c l), .agg (ce c l)] [] (.bool true) [] [] := by
  refine den_of Tryz.mixed Tryz.func60 rfl Tryz.call60 Tryz.ntmps60 (congrArg Array.toList Tryz.results60) (by simp) (by kernel_rfl) [] (exts := []) rfl rfl ?_
  have c1 := sameSt_den l hl hs
  rw [ce_eq]
  simp only [go_sem]
  refine call c1 [] ?_
  simp only [go_sem]

/-- The document's certificate, from the first keys. -/
def ceI (l : List Stm) (c : Cs) (x : Ct) (seats : List Int) (i : Nat) : List Stm := (List.range i).filterMap fun (k : Nat) => if (k : Int) ∈ seats then leastL l k c x else none
theorem ceI_succ {l : List Stm} {c : Cs} {x : Ct} {seats : List Int} {i : Nat} : ceI l c x seats (i + 1) = ceI l c x seats i ++ (match (if (i : Int) ∈ seats then leastL l i c x else none) with | none => [] | some s => [s]) := by
  simp only [ceI, List.range_succ, List.filterMap_append, List.filterMap_cons, List.filterMap_nil]
  split <;> simp_all
theorem ceI_len {l : List Stm} {c : Cs} {x : Ct} {seats : List Int} : ∀ i, (ceI l c x seats i).length ≤ i
  | 0 => by simp [ceI]
  | i + 1 => by
    have := ceI_len (l := l) (c := c) (x := x) (seats := seats) i
    rw [ceI_succ, List.length_append]
    split <;> simp <;> omega
theorem ceI_all {l : List Stm} {c : Cs} {x : Ct} {seats : List Int} : ceI l c x seats 64 = certR l c x seats := rfl
def celV : List Stm → PV
  | [] => .nils
  | s :: r => .os 54 (s :: r).length
def celB : List Stm → ASt
  | [] => []
  | s :: r => [(54, .arr 44 13 false ((s :: r).map sm))]
theorem celV_nil : celV [] = .nils := rfl
theorem celV_cons (s : Stm) (r : List Stm) : celV (s :: r) = .os 54 (s :: r).length := rfl
theorem celB_nil : celB [] = [] := rfl
theorem celB_cons (s : Stm) (r : List Stm) : celB (s :: r) = [(54, .arr 44 13 false ((s :: r).map sm))] := rfl
set_option maxHeartbeats 1000000 in
set_option maxRecDepth 100000 in
theorem rcert_den (l : List Stm) (c : Cs) (seats : List Int) (hl : l.length ≤ 900) (hs : ∀ s ∈ l, bigS s) (hb : big seats.length) :
    Den Tryz.prog 58 [.vs (l.map sm), .agg (cs c), .vs (seats.map i1)] [] (.tup [.agg (ce (certX l c seats).1 (certX l c seats).2.1), .int .i64 (certX l c seats).2.2]) [] [] := by
  refine den_of Tryz.mixed Tryz.func58 rfl Tryz.call58 Tryz.ntmps58 (congrArg Array.toList Tryz.results58) (by simp) (by kernel_rfl) [] (exts := []) rfl rfl ?_
  have c1 := rof28_den l c seats hl hs hb _ rfl (by
    have := allV_lenX (seats := seats) (l := l) (c := c)
    split <;> simp only [big, List.length_nil] <;> omega)
  have hX : certX l c seats = if ckS c seats ≠ 0 then (noCs, [], ckS c seats) else if (allV seats (votesL l c)).length = 1 then (c, certL l c (oneC (allV seats (votesL l c))) seats, 0) else (noCs, [], 11) := rfl
  have c2 := fun k => least_den l k c (oneC (allV seats (votesL l c))) hl hs oneC_big
  have hkeys : ckS c seats = 0 → certL l c (oneC (allV seats (votesL l c))) seats = ceI l c (oneC (allV seats (votesL l c))) seats 64 := fun h => certL_keys (ckS_zero h).2.2.2
  rw [cs_eq] at c1
  generalize certX l c seats = r at *
  by_cases hz : ckS c seats = 0
  rotate_left
  · rw [if_pos hz] at hX
    subst hX
    rw [if_neg hz] at c1
    generalize ckS c seats = k at *
    simp only [go_sem, cs_eq]
    refine call c1 [] ?_
    simp only [go_sem, hz, ce_eq, noCs, List.map_nil]
  · rw [if_neg (by simp [hz])] at hX
    rw [hkeys hz] at hX
    rw [if_pos hz, hz] at c1
    generalize allV seats (votesL l c) = A at *
    generalize oneC A = x at *
    by_cases h1 : A.length = 1
    · rw [if_pos h1] at hX
      subst hX
      rw [decide_eq_true h1] at c1
      have hst := fun i => ceI_succ (l := l) (c := c) (x := x) (seats := seats) (i := i)
      have hln := fun i => ceI_len (l := l) (c := c) (x := x) (seats := seats) i
      simp only [go_sem, cs_eq]
      refine call c1 [] ?_
      simp only [go_sem, ce_eq, ct_eq]
      refine loop Tryz.mixed 0 (fun i : Nat => [(0, .vs (l.map sm)), (2, .vs (seats.map i1)), (4, .ptr 4 0), (6, .ptr 6 0), (8, .ptr 8 0), (11, .ptr 11 0), (12, .int .i64 i)]) (fun i => (4, .cells [.int .i64 c.ep, .int .i64 c.kd, .int .i64 c.su, .int .i64 c.ro]) :: (6, .cells [.int .i64 0, .int .i64 0, .int .i64 0, .int .i64 0, .nils]) :: (8, .cells [.vs (x.li.map i1), .vs (x.pi.map pn)]) :: (11, .cells [.int .i64 c.ep, .int .i64 c.kd, .int .i64 c.su, .int .i64 c.ro, celV (ceI l c x seats i)]) :: celB (ceI l c x seats i)) (fun i => i ≤ 64) (fun i => 64 - i) (by kernel_rfl) (Nat.zero_le _) ?_ ?_
      · have e0 : ceI l c x seats 0 = [] := rfl
        simp only [go_sem, e0, celV_nil, celB_nil]
      · intro i hi
        by_cases hlt : i < 64
        · have h2 : (i : Int) < 64 := by omega
          have c3 := c2 (i : Int)
          have c4 := has24 seats (i : Int) hb
          have hst := hst i
          have hln := hln i
          rw [cs_eq, ct_eq] at c3
          generalize ceI l c x seats i = o at *
          generalize leastL l i c x = m at *
          cases m with
          | none =>
            have hn0 : (if (i : Int) ∈ seats then (none : Option Stm) else none) = none := by split <;> rfl
            have hst : ceI l c x seats (i + 1) = o := by rw [hst, hn0]; simp
            rw [Option.isSome_none] at c3
            cases o with
            | nil =>
              simp only [go_sem, h2, celV_nil, celB_nil]
              refine call c3 [] ?_
              simp only [go_sem]
              refine ⟨i + 1, ⟨by omega, by omega⟩, ?_⟩
              rw [hst]
              simp only [go_sem, celV_nil, celB_nil]
              rw [wrapI] <;> omega
            | cons a r =>
              simp only [go_sem, h2, celV_cons, celB_cons]
              refine call c3 [] ?_
              simp only [go_sem]
              refine ⟨i + 1, ⟨by omega, by omega⟩, ?_⟩
              rw [hst]
              simp only [go_sem, celV_cons, celB_cons]
              rw [wrapI] <;> omega
          | some s =>
            rw [Option.isSome_some, Option.getD_some, sm_eq] at c3
            by_cases hm : (i : Int) ∈ seats
            · rw [decide_eq_true hm] at c4
              rw [if_pos hm] at hst
              simp only at hst
              cases o with
              | nil =>
                simp only [go_sem, h2, celV_nil, celB_nil]
                refine call c3 [] ?_
                simp only [go_sem]
                refine call c4 [] ?_
                simp only [go_sem]
                refine ⟨i + 1, ⟨by omega, by omega⟩, by rw [wrapI] <;> omega, ?_⟩
                rw [hst]
                simp only [go_sem, List.nil_append, celV_cons, celB_cons]
              | cons a r =>
                simp only [go_sem, h2, celV_cons, celB_cons]
                refine call c3 [] ?_
                simp only [go_sem]
                refine call c4 [] ?_
                simp only [go_sem]
                refine ⟨by simp only [List.length_cons] at hln; omega, i + 1, ⟨by omega, by omega⟩, by rw [wrapI] <;> omega, ?_⟩
                rw [hst]
                simp only [go_sem, List.cons_append, celV_cons, celB_cons]
                simp only [List.map_append, List.map_cons, List.map_nil, sm_eq]
            · rw [decide_eq_false hm] at c4
              rw [if_neg hm] at hst
              have hst : ceI l c x seats (i + 1) = o := by rw [hst]; simp
              cases o with
              | nil =>
                simp only [go_sem, h2, celV_nil, celB_nil]
                refine call c3 [] ?_
                simp only [go_sem]
                refine call c4 [] ?_
                simp only [go_sem]
                refine ⟨i + 1, ⟨by omega, by omega⟩, ?_⟩
                rw [hst]
                simp only [go_sem, celV_nil, celB_nil]
                rw [wrapI] <;> omega
              | cons a r =>
                simp only [go_sem, h2, celV_cons, celB_cons]
                refine call c3 [] ?_
                simp only [go_sem]
                refine call c4 [] ?_
                simp only [go_sem]
                refine ⟨i + 1, ⟨by omega, by omega⟩, ?_⟩
                rw [hst]
                simp only [go_sem, celV_cons, celB_cons]
                rw [wrapI] <;> omega
        · have h2 : ¬ (i : Int) < 64 := by omega
          have : i = 64 := by omega
          subst this
          generalize ceI l c x seats 64 = o at *
          cases o with
          | nil =>
            simp only [go_sem, h2, celV_nil, celB_nil, ce_eq, List.map_nil]
          | cons a r =>
            simp only [go_sem, h2, celV_cons, celB_cons, ce_eq]
            trace_state
    · rw [if_neg h1] at hX
      subst hX
      rw [decide_eq_false h1] at c1
      simp only [go_sem, cs_eq]
      refine call c1 [] ?_
      simp only [go_sem, ce_eq, noCs, List.map_nil]
end Go.Proofs.Am

/- All functions of decisions agree with the document. -/
namespace Go.Proofs.Am
open Go Go.RowKit
open Go.Proofs

set_option maxHeartbeats 1000000 in
set_option maxRecDepth 100000 in
theorem sortS2_den (L : List Stm) (n : Nat) (hn : n = L.length) (hl : n < 40) :
    Den Tryz.prog 91 [.os 1000000 n, .fn 92 []] [.arr 44 13 false (L.map sm)] (.tup []) [] [.arr 44 13 false ((insL ltS L).map sm)] := by
  by_cases h20 : n < 20
  · exact sortS1_den L n hn h20
  · refine den_of Tryz.mixed Tryz.func91 rfl Tryz.call91 Tryz.ntmps91 (congrArg Array.toList Tryz.results91) (by simp) (by kernel_rfl) [] (exts := [1000000]) rfl rfl ?_
    simp only [go_sem]
    refine ⟨hn, ?_⟩
    have hil := insL_len woS L
    refine call (stable2_den L n hn (by omega) hl) [1000000] ?_
    simp only [go_sem]
    omega
theorem sortG_den (l : List Stm) (c : Cs) (x : Ct) (seats : List Int) (h : l.length < 40) :
    Den Tryz.prog 91 [.os 1000000 (l.filter (forX c x seats)).length, .fn 92 []] [.arr 44 13 false ((l.filter (forX c x seats)).map sm)] (.tup []) [] [.arr 44 13 false ((insL ltS (l.filter (forX c x seats))).map sm)] :=
  sortS2_den _ _ rfl (by have := List.length_filter_le (forX c x seats) l; omega)
theorem certX_partsG {l : List Stm} {c : Cs} {seats : List Int} (hs : ∀ s ∈ l, bigS s) : (∀ s ∈ (certX l c seats).2.1, bigS s) ∧ (certX l c seats).2.1.length ≤ l.length := by
  by_cases h : ckS c seats = 0
  · by_cases h1 : (allV seats (votesL l c)).length = 1
    · rw [certX_one h h1]
      exact ⟨certL_big (ckS_zero h).2.2.2 hs, certL_le⟩
    · rw [certX_no h h1]
      simp
  · unfold certX
    rw [if_pos h]
    simp
set_option maxHeartbeats 1000000 in
set_option maxRecDepth 100000 in
theorem agree28_den (l : List Stm) (c : Cs) (seats : List Int) (hl : l.length < 40) (hs : ∀ s ∈ l, bigS s) (hb : seats.length ≤ 1000000) :
    Den Tryz.prog 31 [.vs (l.map sm), .agg (cs c), .vs (seats.map i1)] [] (.bool true) [] [] := by
  refine den_of Tryz.mixed Tryz.func31 rfl Tryz.call31 Tryz.ntmps31 (congrArg Array.toList Tryz.results31) (by simp) (by kernel_rfl) [] (exts := []) rfl rfl ?_
  have hbs : big seats.length := by simp only [big]; omega
  obtain ⟨A, hA⟩ : ∃ A, A = if ckS c seats = 0 then allV seats (votesL l c) else [] := ⟨_, rfl⟩
  have lA : A.length ≤ l.length := by
    have := allV_lenX (seats := seats) (l := l) (c := c)
    rw [hA]
    split
    · exact this
    · simp
  have oA : ∀ x ∈ A, bigC x := by
    rw [hA]
    split
    · exact allV_ok
    · simp
  have o1 : bigC (oneC A) := by
    rw [hA]
    split
    · exact oneC_big
    · exact ⟨by simp [oneC, noC, big], by simp [oneC, noC, big]⟩
  have c1 := all_den l c seats (by omega) hs hb
  have c2 := rall_den l c seats (by omega) hs hbs
  have c3 := dof_den l c seats (by omega) hs hb A hA (by simp only [big]; omega)
  have c4 := rof28_den l c seats (by omega) hs hbs A hA (by simp only [big]; omega)
  have c5 := dcert_den l c seats (by omega) hs hb fun x _ => sortG_den l c x seats hl
  have c6 := rcert_den l c seats (by omega) hs hbs
  have c7 := liars_den l c seats (by omega) hs hb
  have c8 := rliars_den l c seats (by omega) hs hbs
  rw [← hA] at c1 c2
  have c9 := sameCts_den A A (by simp only [big]; omega) (by simp only [big]; omega) oA oA
  rw [decide_eq_true (rfl : A = A)] at c9
  have c10 := order23_den (oneC A) (oneC A) o1.1 o1.2 o1.1 o1.2
  rw [(ordC_eq _ _).2 rfl] at c10
  obtain ⟨pS, pL⟩ := certX_partsG (c := c) (seats := seats) hs
  have c11 := sameCe_den (certX l c seats).1 (certX l c seats).2.1 (by simp only [big]; omega) pS
  obtain ⟨T, hT⟩ : ∃ T, T = if ckS c seats = 0 then lieV seats (votesL l c) else [] := ⟨_, rfl⟩
  have lT : big T.length := by
    rw [hT]
    split
    · have : (lieV seats (votesL l c)).length ≤ seats.length := len_sub (List.Pairwise.filter _ ((twR_asc _).imp fun h => by omega)) fun k hk => by simpa using (List.mem_filter.1 hk).2
      simp only [big]; omega
    · simp [big]
  rw [← hT] at c7 c8
  have c12 := sameInts_den T T lT lT
  rw [decide_eq_true (rfl : T = T)] at c12
  generalize certX l c seats = R at *
  obtain ⟨C, L, g⟩ := R
  simp only at c5 c6 c11
  generalize ckS c seats = k at *
  generalize oneC A = x at *
  generalize decide (A.length = 1) = ok at *
  clear hA hT
  rw [cs_eq] at c1 c2 c3 c4 c5 c6 c7 c8
  rw [ce_eq] at c5 c6 c11
  simp only [go_sem, cs_eq]
  refine call c1 [] ?_
  simp only [go_sem]
  refine call c2 [] ?_
  simp only [go_sem]
  refine call c3 [] ?_
  simp only [go_sem]
  refine call c4 [] ?_
  simp only [go_sem]
  refine call c5 [] ?_
  simp only [go_sem]
  refine call c6 [] ?_
  simp only [go_sem]
  refine call c7 [] ?_
  simp only [go_sem]
  refine call c8 [] ?_
  simp only [go_sem]
  refine ⟨Tryz.underlying4, ?_⟩
  refine call c9 [] ?_
  simp only [go_sem]
  refine call c10 [] ?_
  simp only [go_sem]
  refine call c11 [] ?_
  simp only [go_sem]
  refine call c12 [] ?_
  simp only [go_sem]
end Go.Proofs.Am

/- The mill's votes, of seats that are the caller's own. -/
namespace Go.Proofs.Am
open Go Go.RowKit
open Go.Proofs

set_option maxHeartbeats 1000000 in
set_option maxRecDepth 100000 in
theorem votesS_den (l : List Int) (p : Nat) (c : Cs) (seats : List Int) (hl : big l.length) (hp : p ≤ l.length) (hs : seats.length ≤ 1000) : Den Tryz.prog 27 [.ptr 1000000 0, .agg (cs c), .os 1000001 seats.length] [dbox l p, .arr 3 1 false (seats.map i1)] (.os 0 (mvotes l p c seats).1.length) [.arr 44 13 false ((mvotes l p c seats).1.map sm)] [dbox l (mvotes l p c seats).2, .arr 3 1 false (seats.map i1)] := by
  refine den_of Tryz.mixed Tryz.func27 rfl Tryz.call27 Tryz.ntmps27 (congrArg Array.toList Tryz.results27) (by simp) (by kernel_rfl) [110] (exts := [1000000, 1000001]) rfl rfl ?_
  have hm : mvotes l p c seats = if dnext l (mvGo l c (mcont l p c).1 (mcont l (mcont l p c).2 c).1 seats (mcont l (mcont l p c).2 c).2 seats.length).1 4 = 3 then
    ((mvGo l c (mcont l p c).1 (mcont l (mcont l p c).2 c).1 seats (mcont l (mcont l p c).2 c).2 seats.length).2 ++ [vt (dnext l (dgo l (mvGo l c (mcont l p c).1 (mcont l (mcont l p c).2 c).1 seats (mcont l (mcont l p c).2 c).2 seats.length).1 1) 9) 0 c (mcont l p c).1],
     dgo l (mvGo l c (mcont l p c).1 (mcont l (mcont l p c).2 c).1 seats (mcont l (mcont l p c).2 c).2 seats.length).1 2)
  else ((mvGo l c (mcont l p c).1 (mcont l (mcont l p c).2 c).1 seats (mcont l (mcont l p c).2 c).2 seats.length).2,
     dgo l (mvGo l c (mcont l p c).1 (mcont l (mcont l p c).2 c).1 seats (mcont l (mcont l p c).2 c).2 seats.length).1 1) := rfl
  generalize mvotes l p c seats = m at *
  have c1 := content_den l p c hl hp
  have c2 := content_den l (mcont l p c).2 c hl (mcont_le hp c)
  have hxo := mcont_ok l p c
  have hyo := mcont_ok l (mcont l p c).2 c
  have hqe := mcont_le (mcont_le hp c) c
  generalize mcont l p c = X at *
  generalize mcont l X.2 c = Y at *
  obtain ⟨x, q0⟩ := X
  obtain ⟨y, q⟩ := Y
  simp only at hm c1 c2 hxo hyo hqe
  rw [cs_eq, ct_eq] at c1 c2
  have cv := fun au nu => vote_den au nu c x hxo
  have cw := fun au nu => vote_den au nu c y hyo
  rw [cs_eq, ct_eq] at cv cw
  simp only [go_sem]
  refine call c1 [1000000] ?_
  simp only [go_sem]
  refine call c2 [1000000] ?_
  simp only [go_sem]
  refine ⟨okD_of (by kernel_rfl), ?_⟩
  refine promote 9 110 44 13 false ?_ ?_ ?_ (by omega)
  · refine loop Tryz.mixed 0 (fun i : Nat => [(0, .ptr 1000000 0), (2, .os 1000001 seats.length), (4, .ptr 4 0), (7, .ptr 7 0), (8, .ptr 8 0), (9, .os 110 (mvGo l c x y seats q i).2.length), (10, .int .i64 i)]) (fun i => [(1000000, dbox l (mvGo l c x y seats q i).1), (1000001, .arr 3 1 false (seats.map i1)), (4, .cells (cs c)), (7, .cells (ct x)), (8, .cells (ct y)), (110, .arr 44 13 false ((mvGo l c x y seats q i).2.map sm))]) (fun i => i ≤ seats.length) (fun i => seats.length - i) (by kernel_rfl) ?_ ?_ ?_
    · simp
    · simp only [go_sem, mvGo, List.map_nil, List.length_nil]
    · intro i hi
      have hgl := mvGo_len (l := l) (c := c) (x := x) (y := y) (seats := seats) (p := q) i
      have hgp := mvGo_le (l := l) (c := c) (x := x) (y := y) (seats := seats) hqe i
      by_cases h : i < seats.length
      · have hlt : (i : Int) < (seats.length : Int) := by omega
        have hst : mvGo l c x y seats q (i + 1) = mvStep l c x y (el seats i) (mvGo l c x y seats q i) := rfl
        generalize mvGo l c x y seats q i = S at *
        obtain ⟨r, o⟩ := S
        simp only at hgl hgp
        have hr1 := dgo_le hgp 1
        have hr2 := dgo_le hgp 2
        have e0 : dpos l r = dgo l r 1 := rfl
        simp only [go_sem, hlt, h]
        refine call (next_den l r 8 hl hgp (by omega)) [1000000] ?_
        by_cases n0 : dnext l r 8 = 0
        · have hst : mvGo l c x y seats q (i + 1) = (dgo l r 2, o ++ [vt (el seats i) (dnext l (dgo l r 1) 3) c y]) := by rw [hst, mvStep, if_pos n0]
          simp only [go_sem, n0, e0, h]
          refine call (next_den l (dgo l r 1) 3 hl hr1 (by omega)) [1000000] ?_
          generalize dnext l (dgo l r 1) 3 = n at *
          have cw := cw (el seats i) n
          generalize vt (el seats i) n c y = s at *
          simp only [go_sem, dgo_succ]
          refine call cw [] ?_
          simp only [go_sem]
          refine ⟨by omega, okD_of (by kernel_rfl), i + 1, ⟨by omega, by omega⟩, ?_⟩
          rw [hst]
          exact ⟨⟨by simp, by rw [wrapI] <;> omega⟩, rfl, by rw [List.map_append]; rfl⟩
        by_cases n1 : dnext l r 8 = 1
        · have hst : mvGo l c x y seats q (i + 1) = (dgo l r 3, o ++ [vt (el seats i) (dnext l (dgo l r 1) 3) c x, vt (el seats i) (dnext l (dgo l r 2) 3) c y]) := by rw [hst, mvStep, if_neg n0, if_pos n1]
          simp only [go_sem, n0, n1, e0, h]
          refine call (next_den l (dgo l r 1) 3 hl hr1 (by omega)) [1000000] ?_
          generalize dnext l (dgo l r 1) 3 = n at *
          have cv := cv (el seats i) n
          generalize vt (el seats i) n c x = s at *
          simp only [go_sem, dgo_succ]
          refine call cv [] ?_
          simp only [go_sem, h]
          refine call (next_den l (dgo l r 2) 3 hl hr2 (by omega)) [1000000] ?_
          generalize dnext l (dgo l r 2) 3 = n' at *
          have cw := cw (el seats i) n'
          generalize vt (el seats i) n' c y = s' at *
          simp only [go_sem, dgo_succ]
          refine call cw [] ?_
          simp only [go_sem]
          refine ⟨by omega, okD_of (by kernel_rfl), i + 1, ⟨by omega, by omega⟩, ?_⟩
          rw [hst]
          exact ⟨⟨by simp, by rw [wrapI] <;> omega⟩, rfl, by rw [List.map_append]; rfl⟩
        by_cases n2 : dnext l r 8 = 2
        · have hst : mvGo l c x y seats q (i + 1) = (dgo l r 2, o ++ [if dnext l (dgo l r 1) 2 = 1 then { vt (el seats i) 0 c x with sk := IntKind.i64.wrap ((vt (el seats i) 0 c x).sk + 1) } else vt (el seats i) 0 c x]) := by rw [hst, mvStep, if_neg n0, if_neg n1, if_pos n2]
          simp only [go_sem, n0, n1, n2, e0, h]
          have cv := cv (el seats i) 0
          generalize vt (el seats i) 0 c x = s at *
          refine call cv [] ?_
          simp only [go_sem]
          refine ⟨okD_of (by kernel_rfl), ?_⟩
          refine call (one_den l (dgo l r 1) 2 hl hr1 (by omega) (by omega)) [1000000] ?_
          cases hb : decide (dnext l (dgo l r 1) 2 = 2 - 1)
          · have hc : ¬ dnext l (dgo l r 1) 2 = 1 := of_decide_eq_false hb
            rw [if_neg hc] at hst
            simp only [go_sem, dgo_succ]
            refine ⟨by omega, i + 1, ⟨by omega, by omega⟩, ?_⟩
            rw [hst]
            exact ⟨⟨by simp, by rw [wrapI] <;> omega⟩, rfl, by rw [List.map_append]; rfl⟩
          · have hc : dnext l (dgo l r 1) 2 = 1 := of_decide_eq_true hb
            rw [if_pos hc] at hst
            simp only [go_sem, dgo_succ]
            refine ⟨by omega, i + 1, ⟨by omega, by omega⟩, ?_⟩
            rw [hst]
            exact ⟨⟨by simp, by rw [wrapI] <;> omega⟩, rfl, by rw [List.map_append]; rfl⟩
        by_cases n3 : dnext l r 8 = 3
        · have hst : mvGo l c x y seats q (i + 1) = (dgo l r 1, o) := by rw [hst, mvStep, if_neg n0, if_neg n1, if_neg n2, if_pos n3]
          simp only [go_sem, n0, n1, n2, n3, e0]
          refine ⟨i + 1, ⟨by omega, by omega⟩, ?_⟩
          rw [hst]
          exact ⟨⟨rfl, by rw [wrapI] <;> omega⟩, rfl, rfl⟩
        · have hst : mvGo l c x y seats q (i + 1) = (dgo l r 2, o ++ [vt (el seats i) (dnext l (dgo l r 1) 3) c x]) := by rw [hst, mvStep, if_neg n0, if_neg n1, if_neg n2, if_neg n3]
          simp only [go_sem, n0, n1, n2, n3, e0, h]
          refine call (next_den l (dgo l r 1) 3 hl hr1 (by omega)) [1000000] ?_
          generalize dnext l (dgo l r 1) 3 = n at *
          have cv := cv (el seats i) n
          generalize vt (el seats i) n c x = s at *
          simp only [go_sem, dgo_succ]
          refine call cv [] ?_
          simp only [go_sem]
          refine ⟨by omega, okD_of (by kernel_rfl), i + 1, ⟨by omega, by omega⟩, ?_⟩
          rw [hst]
          exact ⟨⟨by simp, by rw [wrapI] <;> omega⟩, rfl, by rw [List.map_append]; rfl⟩
      · have hm2 : i = seats.length := by omega
        subst hm2
        have hc : ¬ (seats.length : Int) < (seats.length : Int) := by omega
        generalize mvGo l c x y seats q seats.length = S at *
        obtain ⟨r, o⟩ := S
        simp only at hgl hgp hm
        simp only [go_sem, hc]
        refine call (one_den l r 4 hl hgp (by omega) (by omega)) [1000000] ?_
        have e0 : dpos l r = dgo l r 1 := rfl
        have hr1 := dgo_le hgp 1
        cases hb : decide (dnext l r 4 = 4 - 1)
        · have hc : ¬ dnext l r 4 = 3 := of_decide_eq_false hb
          rw [if_neg hc] at hm
          subst hm
          simp only [go_sem, e0]
        · have hc : dnext l r 4 = 3 := of_decide_eq_true hb
          rw [if_pos hc] at hm
          subst hm
          simp only [go_sem, e0]
          refine call (next_den l (dgo l r 1) 9 hl hr1 (by omega)) [1000000] ?_
          generalize dnext l (dgo l r 1) 9 = n at *
          have cv := cv n 0
          generalize vt n 0 c x = s at *
          simp only [go_sem, dgo_succ]
          refine call cv [] ?_
          simp only [go_sem]
          exact ⟨by omega, okD_of (by kernel_rfl), by rw [List.map_append]; rfl⟩
  · simp only [go_sem]
  · simp only [go_sem]
end Go.Proofs.Am

/- Seats of the caller's own. -/
namespace Go.Proofs.Am
open Go Go.RowKit
open Go.Proofs

theorem votesSV_den (l : List Int) (p : Nat) (c : Cs) (seats : List Int) (hl : big l.length) (hp : p ≤ l.length) (hs : seats.length ≤ 1000) : Den Tryz.prog 27 [.ptr 1000000 0, .agg (cs c), .os 1000001 seats.length] [dbox l p, .arr 3 1 false (seats.map i1)] (.vs ((mvotes l p c seats).1.map sm)) [] [dbox l (mvotes l p c seats).2, .arr 3 1 false (seats.map i1)] :=
  (votesS_den l p c seats hl hp hs).vs (by simp) (by simp only [go_sem]) rfl
set_option maxHeartbeats 1000000 in
set_option maxRecDepth 100000 in
theorem keysO_den (l : List Int) (p : Nat) (n : Nat) (hl : big l.length) (hp : p ≤ l.length) (hn : n ≤ 1000) : Den Tryz.prog 13 [.ptr 1000000 0, .int .i64 n] [dbox l p] (.os 0 (dkeys l n p).length) [.arr 3 1 false ((dkeys l n p).map i1)] [dbox l (dkpos l n p)] := by
  by_cases h : (dsome l n 0 p).length = 0
  · refine den_of Tryz.mixed Tryz.func13 rfl Tryz.call13 Tryz.ntmps13 (congrArg Array.toList Tryz.results13) (by simp) (by kernel_rfl) [15] (exts := [1000000]) rfl rfl ?_
    have e1 : dkeys l n p = [dnext l (dskip l n p) n] := by rw [dkeys, if_pos h]
    have e2 : dkpos l n p = dpos l (dskip l n p) := by rw [dkpos, if_pos h]
    have h2 : ((dsome l n 0 p).length : Int) = 0 := by omega
    rw [e1, e2]
    simp only [go_sem]
    refine call (some_den l p n hl hp hn) [1000000] ?_
    simp only [go_sem, h2]
    refine call (next_den l (dskip l n p) n hl (dskip_le l n p hp) (by omega)) [1000000] ?_
    simp only [go_sem]
  · refine den_of Tryz.mixed Tryz.func13 rfl Tryz.call13 Tryz.ntmps13 (congrArg Array.toList Tryz.results13) (by simp) (by kernel_rfl) [8] (exts := [1000000]) rfl rfl ?_
    have e1 : dkeys l n p = dsome l n 0 p := by rw [dkeys, if_neg h]
    have e2 : dkpos l n p = dskip l n p := by rw [dkpos, if_neg h]
    have h2 : ¬ ((dsome l n 0 p).length : Int) = 0 := by omega
    rw [e1, e2]
    simp only [go_sem]
    refine call (some_den l p n hl hp hn) [1000000] ?_
    simp only [go_sem, h2]
    trace_state
set_option maxHeartbeats 1000000 in
set_option maxRecDepth 100000 in
theorem mostS_den (l : List Int) (p : Nat) (c : Cs) (seats : List Int) (hl : big l.length) (hp : p ≤ l.length) (hs : seats.length ≤ 8) :
    Den Tryz.prog 14 [.ptr 1000000 0, .agg (cs c), .os 1000001 seats.length] [dbox l p, .arr 3 1 false (seats.map i1)] (.vs ((mostX l p c seats).2.map sm)) [] [dbox l (mostP l p c seats), .arr 3 1 false (seats.map i1)] := by
  refine den_of Tryz.mixed Tryz.func14 rfl Tryz.call14 Tryz.ntmps14 (congrArg Array.toList Tryz.results14) (by simp) (by kernel_rfl) [] (exts := [1000000, 1000001]) rfl rfl ?_
  have c1 := content_den l p c hl hp
  have hq := mcont_le hp c
  have hxo := mcont_ok l p c
  have hM : mostX l p c seats = mostGo l c (mcont l p c).1 seats (mcont l p c).2 seats.length := rfl
  have hP : mostP l p c seats = dgo l (mvotes l (mostX l p c seats).1 c seats).2 1 := rfl
  rw [hM] at hP
  rw [hP, hM]
  clear hM hP
  generalize mcont l p c = X at *
  obtain ⟨x, q⟩ := X
  simp only at c1 hq hxo
  simp only
  have cv := fun k nu => vote_den k nu c x hxo
  rw [cs_eq, ct_eq] at c1
  rw [cs_eq, ct_eq] at cv
  simp only [go_sem, cs_eq]
  refine call c1 [1000000] ?_
  simp only [go_sem]
  refine promote 8 110 44 13 false ?_ ?_ ?_ (by omega)
  · refine loop Tryz.mixed 0 (fun i : Nat => [(0, .ptr 1000000 0), (2, .os 1000001 seats.length), (4, .ptr 4 0), (7, .ptr 7 0), (8, .os 110 (mostGo l c x seats q i).2.length), (9, .int .i64 i)]) (fun i => [(1000000, dbox l (mostGo l c x seats q i).1), (1000001, .arr 3 1 false (seats.map i1)), (4, .cells [.int .i64 c.ep, .int .i64 c.kd, .int .i64 c.su, .int .i64 c.ro]), (7, .cells [.vs (x.li.map i1), .vs (x.pi.map pn)]), (110, .arr 44 13 false ((mostGo l c x seats q i).2.map sm))]) (fun i => i ≤ seats.length) (fun i => seats.length - i) (by kernel_rfl) (Nat.zero_le _) ?_ ?_
    · simp only [go_sem, mostGo, List.map_nil, List.length_nil]
    · intro i hi
      have hgl := mostGo_len (l := l) (c := c) (x := x) (seats := seats) (p := q) i
      have hgp := mostGo_le (l := l) (c := c) (x := x) (seats := seats) hq i
      by_cases hlt : i < seats.length
      · have h1 : (i : Int) < (seats.length : Int) := by omega
        have hst : mostGo l c x seats q (i + 1) = if dnext l (mostGo l c x seats q i).1 7 = 6 then (dgo l (mostGo l c x seats q i).1 1, (mostGo l c x seats q i).2) else (dgo l (mostGo l c x seats q i).1 2, (mostGo l c x seats q i).2 ++ [vt (el seats i) (dnext l (dgo l (mostGo l c x seats q i).1 1) 3) c x]) := rfl
        generalize mostGo l c x seats q i = S at *
        obtain ⟨r, o⟩ := S
        simp only at hgl hgp hst
        have hr1 := dgo_le hgp 1
        have e0 : dpos l r = dgo l r 1 := rfl
        simp only [go_sem, h1, hlt]
        refine call (one_den l r 7 hl hgp (by omega) (by omega)) [1000000] ?_
        cases hb : decide (dnext l r 7 = 7 - 1)
        · have hc : ¬ dnext l r 7 = 6 := of_decide_eq_false hb
          rw [if_neg hc] at hst
          simp only [go_sem, e0, hlt]
          refine call (next_den l (dgo l r 1) 3 hl hr1 (by omega)) [1000000] ?_
          generalize dnext l (dgo l r 1) 3 = n at *
          have cv := cv (el seats i) n
          generalize vt (el seats i) n c x = s at *
          simp only [go_sem, dgo_succ]
          refine call cv [] ?_
          simp only [go_sem]
          refine ⟨by omega, okD_of (by kernel_rfl), i + 1, ⟨by omega, by omega⟩, ?_⟩
          rw [hst]
          exact ⟨⟨by simp, by rw [wrapI] <;> omega⟩, rfl, by rw [List.map_append]; rfl⟩
        · have hc : dnext l r 7 = 6 := of_decide_eq_true hb
          rw [if_pos hc] at hst
          simp only [go_sem, e0, hlt]
          refine ⟨i + 1, ⟨by omega, by omega⟩, ?_⟩
          rw [hst]
          exact ⟨⟨rfl, by rw [wrapI] <;> omega⟩, rfl, rfl⟩
      · have h1 : ¬ (i : Int) < (seats.length : Int) := by omega
        have : i = seats.length := by omega
        subst this
        generalize mostGo l c x seats q seats.length = S at *
        obtain ⟨r, o⟩ := S
        simp only at hgl hgp
        simp only
        have c2 := votesSV_den l r c seats hl hgp (by omega)
        have hv := mvotes_le hgp c seats
        rw [cs_eq] at c2
        generalize mvotes l r c seats = V at *
        obtain ⟨v, r2⟩ := V
        simp only at c2 hv
        simp only
        have e9 : (seats.length : Int).tdiv 9 = 0 := by rw [Int.tdiv_eq_ediv_of_nonneg (by omega)]; omega
        simp only [go_sem, h1]
        refine call c2 [1000000, 1000001] ?_
        simp only [go_sem]
        refine ⟨Nat.le_refl _, call (next_den l r2 2 hl hv (by omega)) [1000000] ?_⟩
        have e0 : dpos l r2 = dgo l r2 1 := rfl
        generalize dnext l r2 2 = n at *
        have ez : IntKind.i64.wrap (n * if IntKind.i64.wrap 0 < 1 then IntKind.i64.wrap 0 else 1) = 0 := by
          have e1 : IntKind.i64.wrap 0 = 0 := by rw [wrapI] <;> omega
          rw [e1, if_pos (by omega), Int.mul_zero, e1]
        simp only [go_sem, e9, e0]
        rw [ez]
        refine ⟨⟨Int.le_refl _, by omega, Nat.le_refl _⟩, ?_, ?_⟩
        · simp; omega
        · simp
  · simp only [go_sem]
  · simp only [go_sem]

end Go.Proofs.Am

/- DecisionMade, walked. -/
namespace Go.Proofs.Am
open Go Go.RowKit
open Go.Proofs

set_option maxHeartbeats 1000000 in
set_option maxRecDepth 100000 in
theorem made28_den (l : List Int) (z : Int) (raw : List Int) : Den Tryz.prog 8 [.vs (l.map i1), .int .u8 z, .vs (raw.map i1)] [] (.bool true) [] [] := by
  refine den_of Tryz.mixed Tryz.func8 rfl Tryz.call8 Tryz.ntmps8 (congrArg Array.toList Tryz.results8) (by simp) (by kernel_rfl) [] (exts := []) rfl rfl ?_
  by_cases h0 : l.length ≤ 400
  rotate_left
  · simp only [go_sem]
    refine call (light_den l) [] ?_
    simp only [go_sem, h0]
    refine call awake28_den [] ?_
    simp only [go_sem]
  by_cases hr : (raw.length : Int) > 40
  · simp only [go_sem]
    refine call (light_den l) [] ?_
    simp only [go_sem, h0, hr]
    refine call awake28_den [] ?_
    simp only [go_sem]
  have hl : big l.length := by simp only [big]; omega
  simp only [go_sem]
  refine call (light_den l) [] ?_
  simp only [go_sem, h0, hr]
  refine call (roll9 l) [] ?_
  simp only [go_sem]
  refine call (next_den l 0 2 hl (Nat.zero_le _) (by omega)) [21] ?_
  have p1 : dpos l 0 ≤ l.length := dpos_le (Nat.zero_le _)
  generalize dpos l 0 = q1 at *
  generalize dnext l 0 2 = e1 at *
  have m1 := mcase_le p1 e1
  have cm1 := mcase_den l q1 e1 hl p1
  generalize mcase l q1 e1 = M1 at *
  obtain ⟨c, q2⟩ := M1
  simp only at m1 cm1
  have n1 := dkpos_le2 l 7 q2 m1
  have n2 := dkeys_max l (n := 7) (by omega) q2
  have n3 := dkeys_ne l 7 q2
  have ck := keysO_den l q2 7 hl m1 (by omega)
  generalize dkpos l 7 q2 = q3 at *
  generalize dkeys l 7 q2 = seats at *
  have hs0 : 0 < seats.length := List.length_pos_iff.2 n3
  have u1 := mvotes_le n1 c seats
  have u2 := mvotes_len l q3 c seats
  have u3 := mvotes_okS l q3 c seats
  have cv := votesS_den l q3 c seats hl n1 (by omega)
  generalize mvotes l q3 c seats = V at *
  obtain ⟨s, q4⟩ := V
  simp only at u1 u2 u3 cv
  have gs : ∀ t ∈ s, bigS t := fun t ht => (u3 t ht).big
  have hr1 := dgo_le u1 1
  have e0 : ∀ p, dpos l p = dgo l p 1 := fun _ => rfl
  rw [cs_eq] at cm1 cv
  simp only [go_sem]
  refine call cm1 [21] ?_
  simp only [go_sem]
  refine call ck [21] ?_
  simp only [go_sem]
  refine call cv [21, 27] ?_
  simp only [go_sem]
  refine ⟨Nat.le_refl _, call (one_den l q4 2 hl u1 (by omega) (by omega)) [21] ?_⟩
  generalize hw : z.tmod 9 = w
  cases hb : decide (dnext l q4 2 = 2 - 1)
  · simp only [go_sem, e0, hw]
    by_cases w0 : w = 0
    · simp only [go_sem, w0]
      have ca := agree28_den s c raw (by omega) gs (by omega)
      rw [cs_eq] at ca
      refine call ca [] ?_
      simp only [go_sem]
      refine call awake28_den [] ?_
      simp only [go_sem]
    by_cases w1 : w = 1
    · have e1 : List.map i1 seats ++ [[PV.int IntKind.i64 (el seats 0)]] = (seats ++ [el seats 0]).map i1 := by simp [i1]
      have e2 : seats.length + 1 = (seats ++ [el seats 0]).length := by simp
      simp only [go_sem, w0, w1, hs0]
      (repeat refine And.intro (by first | omega | exact okD_of (by kernel_rfl)) ?_)
      rw [e1, e2]
      have ca := agree28_den s c (seats ++ [el seats 0]) (by omega) gs (by first | omega | (simp; omega))
      rw [cs_eq] at ca
      refine call ca [] ?_
      simp only [go_sem]
      refine call awake28_den [] ?_
      simp only [go_sem]
    by_cases w2 : w = 2
    · simp only [go_sem, w0, w1, w2]
      have ca := agree28_den s ⟨c.ep, c.kd, c.su, 5⟩ seats (by omega) gs (by first | omega | (simp; omega))
      rw [cs_eq] at ca
      simp only at ca
      refine call ca [] ?_
      simp only [go_sem]
      refine call awake28_den [] ?_
      simp only [go_sem]
    by_cases w3 : w = 3
    · simp only [go_sem, w0, w1, w2, w3]
      have ca := agree28_den s c [] (by omega) gs (by simp)
      rw [cs_eq, List.map_nil] at ca
      refine call ca [] ?_
      simp only [go_sem]
      refine call awake28_den [] ?_
      simp only [go_sem]
    by_cases w4 : w = 4
    · have e1 : (List.map i1 seats).set 0 [PV.int IntKind.i64 64] = (seats.set 0 64).map i1 := by rw [List.map_set]; rfl
      simp only [go_sem, w0, w1, w2, w3, w4, hs0, e1]
      have ca := agree28_den s c (seats.set 0 64) (by omega) gs (by first | omega | (simp; omega))
      rw [cs_eq] at ca
      refine ⟨by omega, call ca [] ?_⟩
      simp only [go_sem, List.length_set]
      refine call awake28_den [] ?_
      simp only [go_sem]
    simp only [go_sem, w0, w1, w2, w3, w4]
    have ca := agree28_den s c seats (by omega) gs (by first | omega | (simp; omega))
    rw [cs_eq] at ca
    refine call ca [] ?_
    simp only [go_sem]
    refine call awake28_den [] ?_
    simp only [go_sem]
  · have cm := mostS_den l (dgo l q4 1) c seats hl hr1 (by omega)
    have okA := mostGo_ok (l := l) (c := c) (seats := seats) (p := (mcont l (dgo l q4 1) c).2) (mcont_ok l (dgo l q4 1) c) seats.length
    have lnA := mostGo_len (l := l) (c := c) (x := (mcont l (dgo l q4 1) c).1) (seats := seats) (p := (mcont l (dgo l q4 1) c).2) seats.length
    have hA : mostGo l c (mcont l (dgo l q4 1) c).1 seats (mcont l (dgo l q4 1) c).2 seats.length = mostX l (dgo l q4 1) c seats := rfl
    rw [hA] at okA lnA
    clear hA
    generalize (mostX l (dgo l q4 1) c seats).2 = a at *
    generalize mostP l (dgo l q4 1) c seats = q5 at *
    have gA : ∀ t ∈ s ++ a, bigS t := fun t ht => by
      rcases List.mem_append.1 ht with h | h
      · exact gs t h
      · exact (okA t h).big
    rw [cs_eq] at cm
    simp only [go_sem, e0]
    refine call cm [21, 27] ?_
    simp only [go_sem, hw]
    (repeat refine And.intro (by first | omega | exact okD_of (by kernel_rfl)) ?_)
    rw [← List.map_append, ← List.length_append]
    by_cases w0 : w = 0
    · simp only [go_sem, w0]
      have ca := agree28_den (s ++ a) c raw (by rw [List.length_append]; omega) gA (by omega)
      rw [cs_eq] at ca
      refine call ca [] ?_
      simp only [go_sem]
      refine call awake28_den [] ?_
      simp only [go_sem]
    by_cases w1 : w = 1
    · have e1 : List.map i1 seats ++ [[PV.int IntKind.i64 (el seats 0)]] = (seats ++ [el seats 0]).map i1 := by simp [i1]
      have e2 : seats.length + 1 = (seats ++ [el seats 0]).length := by simp
      simp only [go_sem, w0, w1, hs0]
      (repeat refine And.intro (by first | omega | exact okD_of (by kernel_rfl)) ?_)
      rw [e1, e2]
      have ca := agree28_den (s ++ a) c (seats ++ [el seats 0]) (by rw [List.length_append]; omega) gA (by first | omega | (simp; omega))
      rw [cs_eq] at ca
      refine call ca [] ?_
      simp only [go_sem]
      refine call awake28_den [] ?_
      simp only [go_sem]
    by_cases w2 : w = 2
    · simp only [go_sem, w0, w1, w2]
      have ca := agree28_den (s ++ a) ⟨c.ep, c.kd, c.su, 5⟩ seats (by rw [List.length_append]; omega) gA (by first | omega | (simp; omega))
      rw [cs_eq] at ca
      simp only at ca
      refine call ca [] ?_
      simp only [go_sem]
      refine call awake28_den [] ?_
      simp only [go_sem]
    by_cases w3 : w = 3
    · simp only [go_sem, w0, w1, w2, w3]
      have ca := agree28_den (s ++ a) c [] (by rw [List.length_append]; omega) gA (by simp)
      rw [cs_eq, List.map_nil] at ca
      refine call ca [] ?_
      simp only [go_sem]
      refine call awake28_den [] ?_
      simp only [go_sem]
    by_cases w4 : w = 4
    · have e1 : (List.map i1 seats).set 0 [PV.int IntKind.i64 64] = (seats.set 0 64).map i1 := by rw [List.map_set]; rfl
      simp only [go_sem, w0, w1, w2, w3, w4, hs0, e1]
      have ca := agree28_den (s ++ a) c (seats.set 0 64) (by rw [List.length_append]; omega) gA (by first | omega | (simp; omega))
      rw [cs_eq] at ca
      refine ⟨by omega, call ca [] ?_⟩
      simp only [go_sem, List.length_set]
      refine call awake28_den [] ?_
      simp only [go_sem]
    simp only [go_sem, w0, w1, w2, w3, w4]
    have ca := agree28_den (s ++ a) c seats (by rw [List.length_append]; omega) gA (by first | omega | (simp; omega))
    rw [cs_eq] at ca
    refine call ca [] ?_
    simp only [go_sem]
    refine call awake28_den [] ?_
    simp only [go_sem]
end Go.Proofs.Am
