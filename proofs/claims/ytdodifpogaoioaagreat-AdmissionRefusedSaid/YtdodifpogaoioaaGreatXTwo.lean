/- XTwo. -/
import Derived.Test.YtdodifpogaoioaaGreatXOne
import Derived.Test.YtdodifpogaoioaaGreatWOne
import Derived.Test.YtdodifpogaoioaaGreatVTwo
import Derived.Test.YtdodifpogaoioaaGreatCThree
set_option linter.unusedSimpArgs false
set_option linter.unusedVariables false
namespace Go.Proofs.Am
open Go Go.RowKit
open Go.Proofs
set_option maxHeartbeats 1000000 in
set_option maxRecDepth 100000 in
theorem refused_den (r : Rl) (L : List Stm) (t : Tm) (hr : ruleE r = 0) (ht : OkT t) (hB : RlB r) (hL : L.length ≤ 900) (hs : ∀ s ∈ L, bigS s) (hp : ∀ s ∈ L, plS s) : Den Tryz.prog 41 [.agg (rl r), .vs (L.map sm), .agg (tm t)] [] (.tup [.vs ((yesX r L t 2).map i1), .int .i64 0]) [] [] := by
 refine den_of Tryz.mixed Tryz.func41 rfl Tryz.call41 Tryz.ntmps41 (congrArg Array.toList Tryz.results41) (by simp) (by kernel_rfl) [] (exts := []) rfl rfl ?_
 have c1 := rcheckP r (by have := hB.g; simp only [big]; omega) (by have := hB.s; simp only [big]; omega) (by have := hB.t; simp only [big]; omega)
 have hlen := ht.len
 have hbT : big t.ros.length := by simp only [big]; omega
 have c2 := validR_den t.ros hbT
 rw [hr] at c1
 rw [ht.ros] at c2
 have hz : keyE t = 0 := by
  unfold keyE
  rw [if_pos ⟨ht.lo, ht.hi⟩, if_pos ht.bea]
 have c3 := fun k : Nat => pout_den r L t (keyC t 2 k) hB hbT hL hs (plX_votes hp) (plX_votes hp)
 have he := fun (k : Nat) (hk : k < 64) => (out_err (L := L) (k := (k : Int)) (kd := 2) hr ht.ros (by omega) (by omega)).trans hz
 have hb := fun k : Nat => outX_big (r := r) (L := L) (t := t) (c := keyC t 2 k)
 have hsu := keysW_succ (fun k => saidB r L t 2 k)
 have hln := keysW_len (fun k => saidB r L t 2 k)
 have hS : ∀ k : Int, saidB r L t 2 k = ((outX r L t (keyC t 2 k)).2.1 && decide ((outX r L t (keyC t 2 k)).1.li = [1])) := fun k => rfl
 have hY : yesX r L t 2 = keysW (fun k => saidB r L t 2 k) 64 := rfl
 rw [hY]
 clear hY
 generalize hK : keysW (fun k => saidB r L t 2 k) = K at *
 rw [rl_eq] at c1
 simp only [rl_eq, tm_eq, cs_eq, ct_eq] at c3
 simp only [go_sem]
 refine call c1 [] ?_
 simp only [go_sem]
 refine call c2 [] ?_
 simp only [go_sem]
 refine promote 9 110 3 1 false ?_ ?_ ?_ (by omega)
 ·refine loop Tryz.mixed (0 : Nat) (fun i : Nat => [(1, .vs (L.map sm)), (3, .ptr 3 0), (5, .ptr 5 0), (9, .os 110 (K i).length), (23, .int .i64 i)]) (fun i => [(3, .cells (rl r)), (5, .cells (tm t)), (110, .arr 3 1 false ((K i).map i1))]) (fun i => i ≤ 64) (fun i => 64 - i) (by kernel_rfl) (Nat.zero_le _) ?_ ?_
  ·simp only [go_sem]
   simp [← hK, keysW]
  ·intro i hi
   by_cases h : i < 64
   ·have hlt : (i : Int) < 64 := by omega
    have c3 := c3 i
    have he := he i h
    have hb := hb i
    have hsu := hsu i
    have hln := hln i
    have hS := hS i
    have ce := equalI_den (outX r L t (keyC t 2 i)).1.li [1] hb.1 (by simp [big])
    generalize outX r L t (keyC t 2 i) = O at *
    obtain ⟨x, b, e⟩ := O
    simp only [keyC] at c3
    dsimp only at c3 he hb hS ce
    subst he
    generalize K i = o at *
    simp only [go_sem, hlt]
    refine call c3 [] ?_
    have nx : ∀ w : Bool, saidB r L t 2 i = w → K (i + 1) = o ++ (if w = true then [(i : Int)] else []) := fun w hw => by rw [← hw]; exact hsu
    cases b
    ·have n0 := nx false (by rw [hS]; rfl)
     rw [if_neg (by simp), List.append_nil] at n0
     simp only [go_sem]
     refine ⟨i + 1, ⟨by omega, by omega⟩, ?_⟩
     rw [n0]
     exact ⟨⟨rfl, by rw [wrapI] <;> omega⟩, rfl⟩
    ·simp only [go_sem]
     refine call ce [] ?_
     cases hd : decide (x.li = [1])
     ·have n0 := nx false (by rw [hS, hd]; rfl)
      rw [if_neg (by simp), List.append_nil] at n0
      simp only [go_sem]
      refine ⟨i + 1, ⟨by omega, by omega⟩, ?_⟩
      rw [n0]
      exact ⟨⟨rfl, by rw [wrapI] <;> omega⟩, rfl⟩
     ·have n0 := nx true (by rw [hS, hd]; rfl)
      rw [if_pos rfl] at n0
      simp only [go_sem]
      refine ⟨by omega, i + 1, ⟨by omega, by omega⟩, ?_⟩
      rw [n0]
      exact ⟨⟨by simp, by rw [wrapI] <;> omega⟩, by simp [i1]⟩
   ·have : i = 64 := by omega
    subst this
    have hlt : ¬ ((64 : Nat) : Int) < 64 := by omega
    simp only [go_sem, hlt]
 ·simp only [go_sem]
 ·simp only [go_sem]
end Go.Proofs.Am

/- Gates: rules, a term, and votes on the refusal of some keys, with appeals. -/
namespace Go.Proofs.Am
open Go Go.RowKit
open Go.Proofs
def gtGo (l : List Int) (k : Cs) (x : Ct) (seats : List Int) (round : Int) (p : Nat) (o : List Stm) : Nat → Nat × List Stm
 | 0 => (p, o)
 | i + 1 => (dgo l (gtGo l k x seats round p o i).1 1, (gtGo l k x seats round p o i).2 ++ (if dnext l (gtGo l k x seats round p o i).1 9 = 8 then [] else [vt (el seats i) round k x]))
def gtRd (l : List Int) (r : Rl) (t : Tm) (c : Cs) (round : Int) (st : Nat × List Stm) : Nat × List Stm :=
 if (seatsR r t { c with ro := round }).2 ≠ 0 then st
 else gtGo l { c with ro := round } (mcont l st.1 { c with ro := round }).1 (seatsR r t { c with ro := round }).1 round (mcont l st.1 { c with ro := round }).2 st.2 (seatsR r t { c with ro := round }).1.length
theorem gtGo_le {l : List Int} {k : Cs} {x : Ct} {seats : List Int} {round : Int} {p : Nat} {o : List Stm} (hp : p ≤ l.length) : ∀ i, (gtGo l k x seats round p o i).1 ≤ l.length
 | 0 => hp
 | i + 1 => dgo_le (gtGo_le hp i) 1
theorem gtGo_len {l : List Int} {k : Cs} {x : Ct} {seats : List Int} {round : Int} {p : Nat} {o : List Stm} : ∀ i, (gtGo l k x seats round p o i).2.length ≤ o.length + i
 | 0 => Nat.le_refl _
 | i + 1 => by
  have h := gtGo_len (l := l) (k := k) (x := x) (seats := seats) (round := round) (p := p) (o := o) i
  simp only [gtGo, List.length_append]
  split <;> simp <;> omega
theorem gtRd_le {l : List Int} {r : Rl} {t : Tm} {c : Cs} {round : Int} {st : Nat × List Stm} (hp : st.1 ≤ l.length) : (gtRd l r t c round st).1 ≤ l.length := by
 unfold gtRd
 split
 ·exact hp
 ·exact gtGo_le (mcont_le hp _) _
theorem gtRd_len {l : List Int} {r : Rl} {t : Tm} {c : Cs} {round : Int} {st : Nat × List Stm} : (gtRd l r t c round st).2.length ≤ st.2.length + 64 := by
 unfold gtRd
 have h0 := seatsR_len r t { c with ro := round }
 split
 ·omega
 ·have h2 := gtGo_len (l := l) (k := { c with ro := round }) (x := (mcont l st.1 { c with ro := round }).1) (seats := (seatsR r t { c with ro := round }).1) (round := round) (p := (mcont l st.1 { c with ro := round }).2) (o := st.2) (seatsR r t { c with ro := round }).1.length
  omega
def gtC (l : List Int) (p : Nat) : Cs := ⟨0, 2 + dnext l p 2, dnext l (dgo l p 1) 9, 0⟩
def gtA (l : List Int) (r : Rl) (t : Tm) (st : Nat × List Stm) : Nat → Nat × List Stm
 | 0 => (dgo l st.1 2, st.2)
 | i + 1 => gtRd l r t (gtC l st.1) i (gtA l r t st i)
def gtI (l : List Int) (r : Rl) (t : Tm) (st : Nat × List Stm) : Nat × List Stm :=
 if dnext l (gtA l r t st 2).1 2 = 1 then (dgo l (gtA l r t st 2).1 2, (gtA l r t st 2).2 ++ [stmt (dnext l (dgo l (gtA l r t st 2).1 1) 8) 2 0 (apD (gtC l st.1))])
 else (dgo l (gtA l r t st 2).1 1, (gtA l r t st 2).2)
def gtT (l : List Int) (p : Nat) : Tm := { term0 (mrules l p) with ros := ([0, 1, 2, 3, 4, 5, 6] : List Int).take (3 + dnext l (dgo l p 8) 5).toNat }
def gtN (l : List Int) (p : Nat) : Nat := (dnext l (dgo l p 9) 3).toNat
def gtS (l : List Int) (p : Nat) : Nat → Nat × List Stm
 | 0 => (dgo l p 10, [])
 | i + 1 => gtI l (mrules l p) (gtT l p) (gtS l p i)
def gtF (l : List Int) (p : Nat) : Nat × List Stm := gtS l p (gtN l p)
theorem gtA_le {l : List Int} {r : Rl} {t : Tm} {st : Nat × List Stm} (hp : st.1 ≤ l.length) : ∀ i, (gtA l r t st i).1 ≤ l.length
 | 0 => dgo_le hp _
 | i + 1 => gtRd_le (gtA_le hp i)
theorem gtA_len {l : List Int} {r : Rl} {t : Tm} {st : Nat × List Stm} : ∀ i, (gtA l r t st i).2.length ≤ st.2.length + 64 * i
 | 0 => Nat.le_refl _
 | i + 1 => by
  have h1 := gtA_len (l := l) (r := r) (t := t) (st := st) i
  have h2 := gtRd_len (l := l) (r := r) (t := t) (c := gtC l st.1) (round := i) (st := gtA l r t st i)
  simp only [gtA]; omega
theorem gtI_le {l : List Int} {r : Rl} {t : Tm} {st : Nat × List Stm} (hp : st.1 ≤ l.length) : (gtI l r t st).1 ≤ l.length := by
 unfold gtI
 split <;> exact dgo_le (gtA_le hp 2) _
theorem gtI_len {l : List Int} {r : Rl} {t : Tm} {st : Nat × List Stm} : (gtI l r t st).2.length ≤ st.2.length + 129 := by
 have h := gtA_len (l := l) (r := r) (t := t) (st := st) 2
 unfold gtI
 split
 ·simp only [List.length_append, List.length_singleton]; omega
 ·simp only; omega
theorem gtS_le {l : List Int} {p : Nat} (hp : p ≤ l.length) : ∀ i, (gtS l p i).1 ≤ l.length
 | 0 => dgo_le hp _
 | i + 1 => gtI_le (gtS_le hp i)
theorem gtS_len {l : List Int} {p : Nat} : ∀ i, (gtS l p i).2.length ≤ 129 * i
 | 0 => by simp [gtS]
 | i + 1 => by
  have h1 := gtS_len (l := l) (p := p) i
  have h2 := gtI_len (l := l) (r := mrules l p) (t := gtT l p) (st := gtS l p i)
  simp only [gtS]; omega
theorem gtN_lt {l : List Int} {p : Nat} : gtN l p ≤ 2 := by
 have b := dnext_lt (l := l) (p := dgo l p 9) (n := 3) (by omega)
 unfold gtN
 omega
theorem ros7_ok {n : Nat} (h1 : 1 ≤ n) : rosV (([0, 1, 2, 3, 4, 5, 6] : List Int).take n) = true := by
 refine rosV_of (List.Pairwise.sublist (List.take_sublist _ _) (by decide)) (fun x hx => ?_) (fun h => ?_) ?_
 ·have := List.mem_of_mem_take hx
  simp at this
  omega
 ·have h2 : (([0, 1, 2, 3, 4, 5, 6] : List Int).take n).length = 0 := by rw [h]; rfl
  rw [List.length_take] at h2
  simp at h2
  omega
 ·rw [List.length_take]
  simp
  omega
theorem gtT_ok {l : List Int} {p : Nat} : OkT (gtT l p) := by
 have h := term0_ok (mrules_ok l p)
 have b1 := dnext_lt (l := l) (p := dgo l p 8) (n := 5) (by omega)
 exact ⟨h.lo, h.hi, ros7_ok (by omega), h.bea⟩
theorem gtT_len {l : List Int} {p : Nat} : 3 ≤ (gtT l p).ros.length ∧ (gtT l p).ros.length ≤ 7 := by
 have b1 := dnext_lt (l := l) (p := dgo l p 8) (n := 5) (by omega)
 show 3 ≤ (([0, 1, 2, 3, 4, 5, 6] : List Int).take _).length ∧ (([0, 1, 2, 3, 4, 5, 6] : List Int).take _).length ≤ 7
 rw [List.length_take]
 show 3 ≤ min _ 7 ∧ min _ 7 ≤ 7
 omega
set_option maxHeartbeats 1000000 in
set_option maxRecDepth 100000 in
theorem gate_den (l : List Int) (p : Nat) (hl : big l.length) (hp : p ≤ l.length) : Den Tryz.prog 39 [.ptr 1000000 0] [dbox l p] (.tup [.agg (rl (mrules l p)), .agg (tm (gtT l p)), .os 0 (gtF l p).2.length]) [.arr 47 13 false ((gtF l p).2.map sm)] [dbox l (gtF l p).1] := by
 refine den_of Tryz.mixed Tryz.func39 rfl Tryz.call39 Tryz.ntmps39 (congrArg Array.toList Tryz.results39) (by simp) (by kernel_rfl) [120] (exts := [1000000]) rfl rfl ?_
 obtain ⟨z0, z1, z2⟩ := mrules_sz l p
 have hp8 := dgo_le hp 8
 have hp9 := dgo_le hp 9
 have c1 := mrules_den l p hl hp
 have c2 := at0_den (mrules l p) (mrules_ok l p) (by omega) (by omega) (by omega)
 have b1 := dnext_lt (l := l) (p := dgo l p 8) (n := 5) (by omega)
 have b2 := dnext_lt (l := l) (p := dgo l p 9) (n := 3) (by omega)
 have w1 : IntKind.i64.wrap (3 + dnext l (dgo l p 8) 5) = 3 + dnext l (dgo l p 8) 5 := by rw [wrapI] <;> omega
 have hT : tm (gtT l p) = [.int .i64 0, .vs ((([0, 1, 2, 3, 4, 5, 6] : List Int).take (3 + dnext l (dgo l p 8) 5).toNat).map i1), .str (firstV (mrules l p)), .bool false, .vs [], .vs []] := rfl
 have ht0 : tm (term0 (mrules l p)) = [.int .i64 0, .vs ((mrules l p).gen.map i1), .str (firstV (mrules l p)), .bool false, .vs [], .vs []] := rfl
 rw [ht0, rl_eq] at c2
 rw [rl_eq] at c1
 rw [hT, rl_eq]
 have htk : ∀ k : Nat, List.take k [[PV.int IntKind.i64 0], [PV.int IntKind.i64 1], [PV.int IntKind.i64 2], [PV.int IntKind.i64 3], [PV.int IntKind.i64 4], [PV.int IntKind.i64 5], [PV.int IntKind.i64 6]] = List.map i1 (([0, 1, 2, 3, 4, 5, 6] : List Int).take k) := fun k => by
  rw [List.map_take]; rfl
 simp only [go_sem]
 refine call c1 [1000000] ?_
 simp only [go_sem]
 refine call c2 [] ?_
 simp only [go_sem]
 refine call (next_den l (dgo l p 8) 5 hl hp8 (by omega)) [1000000] ?_
 simp only [go_sem, w1, dgo_succ]
 refine ⟨⟨by omega, by omega⟩, ?_⟩
 refine call (next_den l (dgo l p 9) 3 hl hp9 (by omega)) [1000000] ?_
 simp only [go_sem, dgo_succ, htk]
 have hn : dnext l (dgo l p 9) 3 = (gtN l p : Int) := by unfold gtN; omega
 have hnl := gtN_lt (l := l) (p := p)
 have hR2 : rl (mrules l p) = [.vs ((mrules l p).gen.map i1), .vs ((mrules l p).pol.se.map i1), .vs ((mrules l p).pol.ta.map i1), .int .i64 (mrules l p).pol.lv, .int .i64 (mrules l p).seats, .int .i64 (mrules l p).span, .int .i64 (mrules l p).quota] := rfl
 clear c1 c2 ht0 htk w1 b1 b2
 rw [hn, ← hR2, ← hT]
 have hS0 : gtS l p 0 = (dgo l p 10, []) := rfl
 have hS1 : ∀ i : Nat, gtS l p (i + 1) = gtI l (mrules l p) (gtT l p) (gtS l p i) := fun i => rfl
 have hF : gtF l p = gtS l p (gtN l p) := rfl
 have hle := gtS_le (l := l) (p := p) hp
 have hlen := gtS_len (l := l) (p := p)
 have hTl := (gtT_len (l := l) (p := p)).2
 have sT2 := (gtT_ok (l := l) (p := p)).bea
 clear hR2 hT
 generalize mrules l p = R at *
 generalize gtT l p = T at *
 generalize gtF l p = Fm at *
 generalize gtS l p = Sf at *
 generalize gtN l p = n at *
 have sd3 : ∀ (C : Cs) (i : Nat), Den Tryz.prog 30 [.agg (rl R), .agg (tm T), .agg (cs { C with ro := (i : Int) })] [] (.tup [.vs ((seatsR R T { C with ro := (i : Int) }).1.map i1), .int .i64 (seatsR R T { C with ro := (i : Int) }).2]) [] [] :=
  fun C i => seats_den R T _ (by simp only [big]; omega) (by simp only [big]; omega) (by simp only [big]; omega) (by simp only [big]; omega) (fun _ => sT2)
 refine promote 8 120 47 13 false ?_ ?_ ?_ (by omega)
 ·refine loop Tryz.mixed 0 (fun i : Nat => [(0, .ptr 1000000 0), (2, .ptr 2 0), (3, .ptr 3 0), (5, .ptr 5 0), (6, .ptr 6 0), (8, .os 120 (Sf i).2.length), (9, .int .i64 ((n - i : Nat) : Int))]) (fun i => [(1000000, dbox l (Sf i).1), (2, .cells [.nils, .nils, .nils, .int .i64 0, .int .i64 0, .int .i64 0, .int .i64 0]), (3, .cells [.int .i64 0, .nils, .str [], .bool false, .nils, .nils]), (5, .cells (rl R)), (6, .cells (tm T)), (120, .arr 47 13 false ((Sf i).2.map sm))]) (fun i => i ≤ n) (fun i => n - i) (by kernel_rfl) (Nat.zero_le _) ?_ ?_
  ·rw [hS0]
   simp only [go_sem, List.map_nil, List.length_nil]
   omega
  ·intro i hi
   by_cases h : i < n
   ·have hlt : (0 : Int) < ((n - i : Nat) : Int) := by omega
    have hst := hS1 i
    have hp := hle i
    have hln := hlen i
    generalize Sf i = S at *
    obtain ⟨q, o⟩ := S
    dsimp only at hp hln
    have hq1 := dgo_le hp 1
    have hq2 := dgo_le hp 2
    have e0 : dpos l q = dgo l q 1 := rfl
    have b1 := dnext_lt (l := l) (p := q) (n := 2) (by omega)
    have wk : IntKind.i64.wrap (2 + dnext l q 2) = 2 + dnext l q 2 := by rw [wrapI] <;> omega
    have hC : gtC l q = ⟨0, 2 + dnext l q 2, dnext l (dgo l q 1) 9, 0⟩ := rfl
    have hA0 : gtA l R T (q, o) 0 = (dgo l q 2, o) := rfl
    have hA1 : ∀ j : Nat, gtA l R T (q, o) (j + 1) = gtRd l R T (gtC l q) j (gtA l R T (q, o) j) := fun j => rfl
    have hAe := gtA_le (l := l) (r := R) (t := T) (st := (q, o)) hp
    have hAl := gtA_len (l := l) (r := R) (t := T) (st := (q, o))
    rw [gtI] at hst
    dsimp only at hAl hAe hst
    simp only [go_sem, hlt]
    refine call (next_den l q 2 hl hp (by omega)) [1000000] ?_
    simp only [go_sem, wk, e0]
    refine call (next_den l (dgo l q 1) 9 hl hq1 (by omega)) [1000000] ?_
    simp only [go_sem, dgo_succ]
    rw [show (dnext l (dgo l q 1) 9) = (gtC l q).su from rfl, show 2 + dnext l q 2 = (gtC l q).kd from rfl]
    have hCe : (gtC l q).ep = 0 := rfl
    clear hC wk b1
    generalize gtC l q = C at *
    generalize gtA l R T (q, o) = Af at *
    refine loop Tryz.mixed 0 (fun j : Nat => [(0, .ptr 1000000 0), (2, .ptr 2 0), (3, .ptr 3 0), (5, .ptr 5 0), (6, .ptr 6 0), (8, .os 120 (Af j).2.length), (9, .int .i64 ((n - i : Nat) : Int)), (10, .ptr 10 0), (11, .int .i64 j)]) (fun j => [(1000000, dbox l (Af j).1), (2, .cells [.nils, .nils, .nils, .int .i64 0, .int .i64 0, .int .i64 0, .int .i64 0]), (3, .cells [.int .i64 0, .nils, .str [], .bool false, .nils, .nils]), (5, .cells (rl R)), (6, .cells (tm T)), (10, .cells [.int .i64 0, .int .i64 C.kd, .int .i64 C.su, .int .i64 ((j - 1 : Nat) : Int)]), (120, .arr 47 13 false ((Af j).2.map sm))]) (fun j => j ≤ 2) (fun j => 2 - j) (by kernel_rfl) (Nat.zero_le _) ?_ ?_
    ·rw [hA0]
     simp only [go_sem]
     done
    ·intro j hj
     by_cases hj2 : j < 2
     ·have hjlt : (j : Int) < 2 := by omega
      have hst2 := hA1 j
      have hp2 := hAe j
      have hln2 := hAl j
      generalize Af j = S2 at *
      obtain ⟨q2, o2⟩ := S2
      dsimp only at hp2 hln2
      have hK : cs { C with ro := (j : Int) } = [.int .i64 0, .int .i64 C.kd, .int .i64 C.su, .int .i64 j] := by rw [cs_eq, hCe]
      have c3 := sd3 C j
      have c4 := content_den l q2 { C with ro := (j : Int) } hl hp2
      have hxo := mcont_ok l q2 { C with ro := (j : Int) }
      have hyo := mcont_le hp2 { C with ro := (j : Int) }
      have sl := seatsR_len R T { C with ro := (j : Int) }
      rw [gtRd] at hst2
      have hj1 : ((j + 1 - 1 : Nat) : Int) = (j : Int) := by omega
      generalize hKK : ({ C with ro := (j : Int) } : Cs) = K at *
      generalize seatsR R T K = SS at *
      obtain ⟨s, k⟩ := SS
      dsimp only at c3 hst2 sl
      generalize mcont l q2 K = X at *
      obtain ⟨x, q3⟩ := X
      dsimp only at c4 hst2 hxo hyo
      rw [rl_eq, tm_eq, hK] at c3
      rw [hK, ct_eq] at c4
      simp only [go_sem, hjlt]
      refine call c3 [] ?_
      by_cases hk : k = 0
      rotate_left
      ·rw [if_pos hk] at hst2
       simp only [go_sem, hk]
       refine ⟨j + 1, ⟨by omega, by omega⟩, ?_⟩
       rw [hst2]
       exact ⟨⟨rfl, by rw [wrapI] <;> omega⟩, rfl, hj1.symm, rfl⟩
      ·rw [if_neg (by simpa using hk)] at hst2
       have cv := fun au nu => vote_den au nu K x hxo
       rw [hK, ct_eq] at cv
       have hG0 : gtGo l K x s j q3 o2 0 = (q3, o2) := rfl
       have hG1 : ∀ m : Nat, gtGo l K x s j q3 o2 (m + 1) = (dgo l (gtGo l K x s j q3 o2 m).1 1, (gtGo l K x s j q3 o2 m).2 ++ (if dnext l (gtGo l K x s j q3 o2 m).1 9 = 8 then [] else [vt (el s m) j K x])) := fun m => rfl
       have hGe := gtGo_le (l := l) (k := K) (x := x) (seats := s) (round := j) (p := q3) (o := o2) hyo
       have hGl := gtGo_len (l := l) (k := K) (x := x) (seats := s) (round := j) (p := q3) (o := o2)
       generalize gtGo l K x s j q3 o2 = G at *
       simp only [go_sem, hk]
       refine call c4 [1000000] ?_
       simp only [go_sem]
       refine loop Tryz.mixed 0 (fun m : Nat => [(0, .ptr 1000000 0), (2, .ptr 2 0), (3, .ptr 3 0), (5, .ptr 5 0), (6, .ptr 6 0), (8, .os 120 (G m).2.length), (9, .int .i64 ((n - i : Nat) : Int)), (10, .ptr 10 0), (11, .int .i64 j), (12, .vs (s.map i1)), (14, .ptr 14 0), (15, .int .i64 m)]) (fun m => [(1000000, dbox l (G m).1), (2, .cells [.nils, .nils, .nils, .int .i64 0, .int .i64 0, .int .i64 0, .int .i64 0]), (3, .cells [.int .i64 0, .nils, .str [], .bool false, .nils, .nils]), (5, .cells (rl R)), (6, .cells (tm T)), (10, .cells [.int .i64 0, .int .i64 C.kd, .int .i64 C.su, .int .i64 j]), (14, .cells (ct x)), (120, .arr 47 13 false ((G m).2.map sm))]) (fun m => m ≤ s.length) (fun m => s.length - m) (by kernel_rfl) (Nat.zero_le _) ?_ ?_
       ·rw [hG0]
        simp only [go_sem]
       ·intro m hm
        by_cases hm' : m < s.length
        ·have hmlt : (m : Int) < (s.length : Int) := by omega
         have hstep := hG1 m
         have hqe := hGe m
         have hql := hGl m
         generalize G m = g at *
         obtain ⟨q4, o4⟩ := g
         dsimp only at hqe hql hstep
         simp only [go_sem, hmlt]
         refine call (one_den l q4 9 hl hqe (by omega) (by omega)) [1000000] ?_
         have e1 : dpos l q4 = dgo l q4 1 := rfl
         cases hb : decide (dnext l q4 9 = 9 - 1)
         ·have hcc : ¬ dnext l q4 9 = 8 := of_decide_eq_false hb
          rw [if_neg hcc] at hstep
          have cv := cv (el s m) j
          generalize vt (el s m) j K x = v at *
          simp only [go_sem, e1, hm']
          refine call cv [] ?_
          simp only [go_sem]
          refine ⟨by omega, okD_of (by kernel_rfl), m + 1, ⟨by omega, by omega⟩, ?_⟩
          rw [hstep]
          exact ⟨⟨by simp, by rw [wrapI] <;> omega⟩, rfl, by rw [List.map_append]; rfl⟩
         ·have hcc : dnext l q4 9 = 8 := of_decide_eq_true hb
          rw [if_pos hcc, List.append_nil] at hstep
          simp only [go_sem, e1]
          refine ⟨m + 1, ⟨by omega, by omega⟩, ?_⟩
          rw [hstep]
          exact ⟨⟨rfl, by rw [wrapI] <;> omega⟩, rfl, rfl⟩
        ·have hmm : m = s.length := by omega
         subst hmm
         have hmlt : ¬ (s.length : Int) < (s.length : Int) := by omega
         simp only [go_sem, hmlt]
         refine ⟨j + 1, ⟨by omega, by omega⟩, ?_⟩
         rw [hst2]
         exact ⟨⟨rfl, by rw [wrapI] <;> omega⟩, rfl, hj1.symm, rfl⟩
     ·have : j = 2 := by omega
      subst this
      have hjlt : ¬ ((2 : Nat) : Int) < 2 := by omega
      have hp2 := hAe 2
      have hln2 := hAl 2
      generalize Af 2 = S2 at *
      obtain ⟨q2, o2⟩ := S2
      dsimp only at hp2 hln2 hst
      simp only [go_sem, hjlt]
      refine call (one_den l q2 2 hl hp2 (by omega) (by omega)) [1000000] ?_
      have e1 : dpos l q2 = dgo l q2 1 := rfl
      have hq3 := dgo_le hp2 1
      have hsb : IntKind.i64.wrap (((n - i : Nat) : Int) - 1) = ((n - (i + 1) : Nat) : Int) := by rw [wrapI] <;> omega
      cases hb : decide (dnext l q2 2 = 2 - 1)
      ·have hcc : ¬ dnext l q2 2 = 1 := of_decide_eq_false hb
       rw [if_neg hcc] at hst
       simp only [go_sem, e1]
       refine ⟨i + 1, ⟨by omega, by omega⟩, ?_⟩
       rw [hst]
       exact ⟨⟨rfl, hsb⟩, rfl, rfl⟩
      ·have hcc : dnext l q2 2 = 1 := of_decide_eq_true hb
       rw [if_pos hcc] at hst
       simp only [go_sem, e1]
       refine call (next_den l (dgo l q2 1) 8 hl hq3 (by omega)) [1000000] ?_
       have c6 := stmt2_den (dnext l (dgo l q2 1) 8) 2 0 (apD C) (apD_ok C)
       rw [dr_eq] at c6
       simp only [apD, hCe] at c6 hst
       generalize stmt (dnext l (dgo l q2 1) 8) 2 0 ⟨15, 0, C.kd, C.su, [], []⟩ = v at *
       simp only [go_sem, dgo_succ]
       refine call c6 [] ?_
       simp only [go_sem]
       refine ⟨by omega, okD_of (by kernel_rfl), i + 1, ⟨by omega, by omega⟩, ?_⟩
       rw [hst]
       exact ⟨⟨by simp, hsb⟩, rfl, by rw [List.map_append]; rfl⟩
   ·have : i = n := by omega
    subst this
    have hlt : ¬ (0 : Int) < ((i - i : Nat) : Int) := by omega
    rw [← hF]
    simp only [go_sem, hlt]
    exact okD_of (by kernel_rfl)
 ·simp only [go_sem]
 ·simp only [go_sem]
end Go.Proofs.Am
