/- The mill's votes are votes. -/
import Derived.Test.YteheffakmcpdjaaGreatDoorMOne
set_option linter.unusedSimpArgs false
set_option linter.unusedVariables false
namespace Go.Proofs.Am
open Go Go.RowKit
open Go.Proofs

theorem pins_right {l : List Pn} (h : checkE (pinS l) = 0) : pinsB l = true ∧ l.length ≤ 64 := by
  obtain ⟨_, h2, h3, _⟩ := checkE_zero h
  exact ⟨h3, h2⟩
theorem voteE_vt {k nu : Int} {c : Cs} {x : Ct} (hk : 0 ≤ k ∧ k ≤ 63) (hn : 0 ≤ nu ∧ nu ≤ 199) (hr : rightB c x = true) : voteE (vt k nu c x) = (⟨k, c, x⟩, true) := by
  have hr' := hr
  unfold rightB at hr'
  simp only [Bool.and_eq_true, decide_eq_true_eq] at hr'
  obtain ⟨hc, hp, hl⟩ := hr'
  obtain ⟨p1, p2⟩ := pins_right hp
  have hc' := of_decide_eq_true hc
  have hd : (vdraft c x).1 = ⟨10, c.ep, c.kd + 16 * c.ro, c.su, x.li, x.pi⟩ := by
    unfold vdraft
    rw [if_neg (by simp [hc]), if_neg (by simp [hr])]
  have a1 : (vt k nu c x).au = k := rfl
  have a2 : (vt k nu c x).kd = 10 := by show (vdraft c x).1.kd = 10; rw [hd]
  have a3 : (vt k nu c x).ti = 1 := rfl
  have a4 : (vt k nu c x).nu = nu := rfl
  have a5 : (vt k nu c x).a = c.ep := by show (vdraft c x).1.a = _; rw [hd]
  have a6 : (vt k nu c x).b = c.kd + 16 * c.ro := by show (vdraft c x).1.b = _; rw [hd]
  have a7 : (vt k nu c x).c = c.su := by show (vdraft c x).1.c = _; rw [hd]
  have a8 : (vt k nu c x).li = x.li := by show (vdraft c x).1.li = _; rw [hd]
  have a9 : (vt k nu c x).pins = x.pi := by show (vdraft c x).1.pins = _; rw [hd]
  have a10 : (vt k nu c x).body = [] := rfl
  have a11 : (vt k nu c x).prev = if 0 < nu then List.replicate 32 0 else [] := rfl
  have a12 : (vt k nu c x).sk = (vt k nu c x).au ∧ (vt k nu c x).sd = dig (vt k nu c x) := sealed_stmt _ _ _ _
  have hmk : mkV (vt k nu c x) = ⟨k, c, x⟩ := by
    unfold mkV
    rw [a1, a5, a6, a7, a8, a9]
    have e1 : (c.kd + 16 * c.ro).tmod 16 = c.kd := by rw [Int.tmod_eq_emod_of_nonneg (by omega)]; omega
    have e2 : (c.kd + 16 * c.ro).tdiv 16 = c.ro := by rw [Int.tdiv_eq_ediv_of_nonneg (by omega)]; omega
    rw [e1, e2]
  have b8 : x.li.length ≤ 64 ∧ (x.li.any fun x => !valB x) = false := by
    unfold listV at hl
    split at hl
    · have h := of_decide_eq_true hl
      match hx : x.li, h.1 with
      | [u, v], _ =>
        rw [hx] at h
        have h2 : (0 : Int) ≤ u ∧ u < 4294967296 ∧ 0 ≤ v ∧ v < 4294967296 := ⟨h.2.1, h.2.2.1, h.2.2.2.1, h.2.2.2.2⟩
        refine ⟨by simp, ?_⟩
        have e1 : valB u = true := decide_eq_true (by omega)
        have e2 : valB v = true := decide_eq_true (by omega)
        simp [e1, e2]
    · have h := of_decide_eq_true hl
      match hx : x.li, h.1 with
      | [u], _ =>
        rw [hx] at h
        have h2 : u = 0 ∨ u = 1 := h.2
        refine ⟨by simp, ?_⟩
        have e1 : valB u = true := decide_eq_true (by omega)
        simp [e1]
  have hch : checkE (vt k nu c x) = 0 := by
    generalize vt k nu c x = s at *
    have b1 : inB s.au 0 63 = true := decide_eq_true (by omega)
    have b2 : inB s.kd 10 31 = true := decide_eq_true (by omega)
    have b3 : inB s.ti 0 2147483648 = true := decide_eq_true (by omega)
    have b4 : inB s.nu 0 199 = true := decide_eq_true (by omega)
    have b5 : valB s.a = true := decide_eq_true (by omega)
    have b6 : valB s.b = true := decide_eq_true (by omega)
    have b7 : valB s.c = true := decide_eq_true (by omega)
    have b9 : meantB s = true := by rw [meantB, if_neg (by omega), if_neg (by omega), if_neg (by omega)]
    have b10 : (decide (s.nu = 0) && decide (s.prev ≠ [])) = false := by
      by_cases h : s.nu = 0
      · rw [a11, if_neg (by omega)]; simp
      · simp [h]
    have b11 : (decide (0 < s.nu) && decide (s.prev.length ≠ 32)) = false := by
      by_cases h : 0 < s.nu
      · rw [a11, if_pos (by omega)]; simp
      · simp [h]
    have b12 : decide (s.kd ≤ 3) = false := decide_eq_false (by omega)
    have b13 : decide (64 < x.li.length) = false := decide_eq_false (by omega)
    have b14 : decide (64 < x.pi.length) = false := decide_eq_false (by omega)
    simp only [checkE, b1, b2, b3, b4, b5, b6, b7, b8.2, b9, b10, b11, b12, b13, b14, a8, a9, a10, p1]
    simp
  exact voteE_of hch ⟨a2, a10⟩ (by rw [hmk]; exact hr) hmk a12
theorem okV_vt {k nu : Int} {c : Cs} {x : Ct} (hk : 0 ≤ k ∧ k ≤ 63) (hn : 0 ≤ nu ∧ nu ≤ 199) (hr : rightB c x = true) : okV c (vt k nu c x) = true := by
  simp [okV, voteE_vt hk hn hr]
theorem pinS_one (p : Pn) (h1 : pinsB [p] = true) : checkE (pinS [p]) = 0 := by
  have b8 : meantB (pinS [p]) = true := by rw [meantB, if_neg (by simp [pinS]), if_neg (by simp [pinS]), if_neg (by simp [pinS])]
  simp only [checkE, b8]
  simp [pinS, h1, inB, valB]
/-- The mill's content is right for its case. -/
theorem mcont_right (l : List Int) (p : Nat) {c : Cs} (hc : caseV c = true) : rightB c (mcont l p c).1 = true := by
  have b1 := dnext_lt (l := l) (p := p) (n := 2) (by omega)
  have b2 := dnext_lt (l := l) (p := p) (n := 127) (by omega)
  have b3 := dnext_lt (l := l) (p := dgo l p 1) (n := 3) (by omega)
  have b4 := dnext_lt (l := l) (p := dgo l p 3) (n := 4) (by omega)
  have b5 := dnext_lt (l := l) (p := dgo l p 4) (n := 3) (by omega)
  have hnil : checkE (pinS []) = 0 := by decide
  have e3 : 0 ≤ el ([0, 0, 1] : List Int) (dnext l (dgo l p 1) 3).toNat ∧ el ([0, 0, 1] : List Int) (dnext l (dgo l p 1) 3).toNat < 4294967296 := by
    have : (dnext l (dgo l p 1) 3).toNat = 0 ∨ (dnext l (dgo l p 1) 3).toNat = 1 ∨ (dnext l (dgo l p 1) 3).toNat = 2 := by omega
    rcases this with h | h | h <;> rw [h] <;> decide
  unfold rightB mcont
  rw [hc, Bool.true_and]
  split
  · rename_i h
    have hk : ¬ c.kd = 1 := h
    simp only [hnil, decide_true, Bool.true_and, listV, if_neg hk]
    exact decide_eq_true ⟨rfl, by show dnext l p 2 = 0 ∨ dnext l p 2 = 1; omega⟩
  · rename_i h
    have hk : c.kd = 1 := by simpa using h
    split
    · have hp : pinsB [⟨dnext l (dgo l p 3) 4, 1 + dnext l (dgo l p 4) 3, mdig l (dgo l p 5)⟩] = true := by
        refine pinsB_true fun i hi => ?_
        obtain rfl : i = 0 := by simpa using hi
        have q1 : inB (dnext l (dgo l p 3) 4) 0 63 = true := decide_eq_true (by omega)
        have q2 : inB (1 + dnext l (dgo l p 4) 3) 1 200 = true := decide_eq_true (by omega)
        show (inB (dnext l (dgo l p 3) 4) 0 63 && !(decide (0 < 0) && _) && inB (1 + dnext l (dgo l p 4) 3) 1 200 && decide ((mdig l (dgo l p 5)).length = 32)) = true
        rw [q1, q2, mdig_len]
        rfl
      simp only [pinS_one _ hp, decide_true, Bool.true_and, listV, if_pos hk]
      exact decide_eq_true ⟨rfl, by show (0 : Int) ≤ 1 + dnext l p 127; omega, by show 1 + dnext l p 127 < 4294967296; omega, e3.1, e3.2⟩
    · simp only [hnil, decide_true, Bool.true_and, listV, if_pos hk]
      exact decide_eq_true ⟨rfl, by show (0 : Int) ≤ 1 + dnext l p 127; omega, by show 1 + dnext l p 127 < 4294967296; omega, e3.1, e3.2⟩
end Go.Proofs.Am

/- DecisionLiars, walked. -/
namespace Go.Proofs.Am
open Go Go.RowKit
open Go.Proofs

/-- How often a seat votes. -/
def liK (z n : Int) : Int := (IntKind.i64.wrap (IntKind.i64.wrap z + n)).tmod 5
/-- The votes of some seats for one content, and of some of these for another. -/
def liGo (l : List Int) (c : Cs) (x y : Ct) (seats : List Int) (z : Int) (p : Nat) : Nat → Nat × List Stm × List Stm
  | 0 => (p, [], [])
  | i + 1 => (dgo l (liGo l c x y seats z p i).1 1,
      (liGo l c x y seats z p i).2.1 ++ (if 0 < liK z (dnext l (liGo l c x y seats z p i).1 5) then [vt (el seats i) 0 c x] else []),
      (liGo l c x y seats z p i).2.2 ++ (if 1 < liK z (dnext l (liGo l c x y seats z p i).1 5) then [vt (el seats i) 1 c y] else []))
theorem liGo_le {l : List Int} {c : Cs} {x y : Ct} {seats : List Int} {z : Int} {p : Nat} (hp : p ≤ l.length) : ∀ i, (liGo l c x y seats z p i).1 ≤ l.length
  | 0 => hp
  | i + 1 => dgo_le (liGo_le hp i) 1
theorem liGo_len {l : List Int} {c : Cs} {x y : Ct} {seats : List Int} {z : Int} {p : Nat} : ∀ i, (liGo l c x y seats z p i).2.1.length ≤ i ∧ (liGo l c x y seats z p i).2.2.length ≤ i
  | 0 => ⟨Nat.le_refl _, Nat.le_refl _⟩
  | i + 1 => by
    obtain ⟨h1, h2⟩ := liGo_len (l := l) (c := c) (x := x) (y := y) (seats := seats) (z := z) (p := p) i
    simp only [liGo, List.length_append]
    constructor
    · split <;> simp <;> omega
    · split <;> simp <;> omega
/-- A list of right votes of seats for one content, ascending. -/
structure RV1 (c : Cs) (x : Ct) (S : List Int) (P : List Stm) : Prop where
  ok : ∀ s ∈ P, okV c s = true ∧ s.au ∈ S ∧ (voteE s).1.x = x
  up : P.Pairwise fun a b => a.au < b.au
theorem RV1.nil {c : Cs} {x : Ct} {S : List Int} : RV1 c x S [] := ⟨by simp, List.Pairwise.nil⟩
theorem RV1.snoc {c : Cs} {x : Ct} {seats : List Int} {P : List Stm} {i : Nat} {nu : Int} (h : RV1 c x (seats.take i) P) (ha : asc seats) (hi : i < seats.length) (hk : ∀ k ∈ seats, 0 ≤ k ∧ k ≤ 63) (hn : 0 ≤ nu ∧ nu ≤ 199) (hr : rightB c x = true) :
    RV1 c x (seats.take (i + 1)) (P ++ [vt (el seats i) nu c x]) := by
  have ht := take_el hi
  refine ⟨fun s hs => ?_, ?_⟩
  · rcases List.mem_append.1 hs with hs | hs
    · obtain ⟨h1, h2, h3⟩ := h.ok s hs
      exact ⟨h1, by rw [ht]; simp [h2], h3⟩
    · rw [List.mem_singleton] at hs
      subst hs
      exact ⟨okV_vt (hk _ (el_mem hi)) hn hr, by rw [ht]; exact List.mem_append.2 (.inr (by simp [show (vt (el seats i) nu c x).au = el seats i from rfl])), by rw [voteE_vt (hk _ (el_mem hi)) hn hr]⟩
  · rw [List.pairwise_append]
    refine ⟨h.up, List.pairwise_singleton _ _, fun a ha' b hb => ?_⟩
    rw [List.mem_singleton] at hb
    subst hb
    show a.au < el seats i
    have hm := (h.ok a ha').2.1
    obtain ⟨j, hj, e⟩ := List.mem_iff_getElem.1 hm
    have hj' : j < i := by simp at hj; omega
    rw [List.getElem_take] at e
    have e2 : el seats i = seats[i] := by simp [el, List.getD_eq_getElem?_getD, hi]
    rw [← e, e2]
    exact List.pairwise_iff_getElem.1 ha j i (by omega) hi hj'
theorem RV1.skip {c : Cs} {x : Ct} {seats : List Int} {P : List Stm} {i : Nat} (h : RV1 c x (seats.take i) P) : RV1 c x (seats.take (i + 1)) P := by
  refine ⟨fun s hs => ?_, h.up⟩
  obtain ⟨h1, h2, h3⟩ := h.ok s hs
  exact ⟨h1, List.take_subset_take_left _ (Nat.le_succ i) h2, h3⟩
theorem liGo_rv {l : List Int} {c : Cs} {x y : Ct} {seats : List Int} {z : Int} {p : Nat} (ha : asc seats) (hk : ∀ k ∈ seats, 0 ≤ k ∧ k ≤ 63) (hx : rightB c x = true) (hy : rightB c y = true) : ∀ i, i ≤ seats.length → RV1 c x (seats.take i) (liGo l c x y seats z p i).2.1 ∧ RV1 c y (seats.take i) (liGo l c x y seats z p i).2.2
  | 0, _ => ⟨.nil, .nil⟩
  | i + 1, hi => by
    obtain ⟨h1, h2⟩ := liGo_rv (l := l) (z := z) (p := p) ha hk hx hy i (by omega)
    simp only [liGo]
    constructor
    · split
      · exact h1.snoc ha (by omega) hk ⟨by omega, by omega⟩ hx
      · rw [List.append_nil]; exact h1.skip
    · split
      · exact h2.snoc ha (by omega) hk ⟨by omega, by omega⟩ hy
      · rw [List.append_nil]; exact h2.skip
theorem liGo_okS {l : List Int} {c : Cs} {x y : Ct} {seats : List Int} {z : Int} {p : Nat} (hx : okCt x) (hy : okCt y) : ∀ i, (∀ s ∈ (liGo l c x y seats z p i).2.1, okS s) ∧ ∀ s ∈ (liGo l c x y seats z p i).2.2, okS s
  | 0 => ⟨by simp [liGo], by simp [liGo]⟩
  | i + 1 => by
    obtain ⟨h1, h2⟩ := liGo_okS (l := l) (c := c) (seats := seats) (z := z) (p := p) hx hy i
    simp only [liGo]
    constructor
    · intro s hs
      rcases List.mem_append.1 hs with hs | hs
      · exact h1 s hs
      · split at hs
        · rw [List.mem_singleton] at hs; subst hs; exact vt_okS _ _ _ hx
        · simp at hs
    · intro s hs
      rcases List.mem_append.1 hs with hs | hs
      · exact h2 s hs
      · split at hs
        · rw [List.mem_singleton] at hs; subst hs; exact vt_okS _ _ _ hy
        · simp at hs
theorem RV1.chk {c : Cs} {x : Ct} {seats : List Int} {P : List Stm} (h : RV1 c x seats P) (he : enoB P.length seats.length = true) : ChkP c P seats x := ⟨h.ok, h.up, he⟩
/-- It is right just where it has enough votes. -/
theorem RV1.chkX {c : Cs} {x : Ct} {seats : List Int} {P : List Stm} (h : RV1 c x seats P) (hc : ckS c seats = 0) : ((Am.chkX c P seats).2 = 0 ↔ enoB P.length seats.length = true) := by
  constructor
  · intro h1
    exact (chkX_ok h1).2.en
  · intro h1
    rw [chkX_of hc (h.chk h1)]
theorem chkX_big {c : Cs} {l : List Stm} {seats : List Int} : bigC (Am.chkX c l seats).1 := by
  have h0 : bigC noC := ⟨by simp [noC, big], by simp [noC, big]⟩
  unfold Am.chkX
  split
  · exact h0
  · split
    · exact okCt_big voteE_ok
    · exact h0
theorem two_len {α : Type} {A : List α} {u v : α} (hu : u ∈ A) (hv : v ∈ A) (h : u ≠ v) : 2 ≤ A.length := by
  match A, hu, hv with
  | [a], hu, hv =>
    rw [List.mem_singleton] at hu hv
    exact absurd (hu.trans hv.symm) h
  | a :: b :: r, _, _ => simp

set_option maxHeartbeats 1000000 in
set_option maxRecDepth 100000 in
theorem liars28_den (l : List Int) (z : Int) : Den Tryz.prog 5 [.vs (l.map i1), .int .u8 z] [] (.bool true) [] [] := by
  refine den_of Tryz.mixed Tryz.func5 rfl Tryz.call5 Tryz.ntmps5 (congrArg Array.toList Tryz.results5) (by simp) (by kernel_rfl) [] (exts := []) rfl rfl ?_
  by_cases h0 : l.length ≤ 400
  rotate_left
  · simp only [go_sem]
    refine call (light_den l) [] ?_
    simp only [go_sem, h0]
    refine call awake28_den [] ?_
    simp only [go_sem]
  have hl : big l.length := by simp only [big]; omega
  simp only [go_sem]
  refine call (light_den l) [] ?_
  simp only [go_sem, h0]
  refine call (roll9 l) [] ?_
  have m1 := mcase_le (Nat.zero_le l.length) 0
  have cm1 := mcase_den l 0 0 hl (Nat.zero_le _)
  have hcV := mcase_ok l 0 (ep := 0) ⟨by omega, by omega⟩
  generalize mcase l 0 0 = M1 at *
  obtain ⟨c, q2⟩ := M1
  simp only at m1 cm1 hcV
  have n1 := dkpos_le2 l 8 q2 m1
  have n2 := dkeys_max l (n := 8) (by omega) q2
  have n3 := dkeys_in l (n := 8) (by omega) q2
  have n4 := ckS_mill l (n := 8) (by omega) (by omega) q2 hcV
  have n5 := dkeys_asc l 8 q2
  have ck := keys_den l q2 8 hl m1 (by omega)
  generalize dkpos l 8 q2 = q3 at *
  generalize dkeys l 8 q2 = seats at *
  have cx := content_den l q3 c hl n1
  have rx := mcont_right l q3 hcV
  have ox := mcont_ok l q3 c
  have px := mcont_le n1 c
  generalize mcont l q3 c = X at *
  obtain ⟨x, q4⟩ := X
  simp only at cx rx ox px
  have cy := content_den l q4 c hl px
  have ry := mcont_right l q4 hcV
  have oy := mcont_ok l q4 c
  have py := mcont_le px c
  generalize mcont l q4 c = Y at *
  obtain ⟨y, q5⟩ := Y
  simp only at cy ry oy py
  have hk63 : ∀ k ∈ seats, 0 ≤ k ∧ k ≤ 63 := fun k hk => by have := n3 k hk; omega
  have cvx := fun k => vote_den k 0 c x ox
  have cvy := fun k => vote_den k 1 c y oy
  have gle := fun i => liGo_le (l := l) (c := c) (x := x) (y := y) (seats := seats) (z := z) py i
  have gln := fun i => liGo_len (l := l) (c := c) (x := x) (y := y) (seats := seats) (z := z) (p := q5) i
  have gst : ∀ i, liGo l c x y seats z q5 (i + 1) = (dgo l (liGo l c x y seats z q5 i).1 1, (liGo l c x y seats z q5 i).2.1 ++ (if 0 < liK z (dnext l (liGo l c x y seats z q5 i).1 5) then [vt (el seats i) 0 c x] else []), (liGo l c x y seats z q5 i).2.2 ++ (if 1 < liK z (dnext l (liGo l c x y seats z q5 i).1 5) then [vt (el seats i) 1 c y] else [])) := fun _ => rfl
  have hrv := liGo_rv (l := l) (z := z) (p := q5) n5 hk63 rx ry seats.length (Nat.le_refl _)
  rw [List.take_length] at hrv
  have hok := liGo_okS (l := l) (c := c) (seats := seats) (z := z) (p := q5) ox oy seats.length
  rw [cs_eq] at cm1 cx cy
  simp only [go_sem]
  refine call cm1 [29] ?_
  simp only [go_sem]
  refine call ck [29] ?_
  simp only [go_sem]
  refine call cx [29] ?_
  simp only [go_sem]
  refine call cy [29] ?_
  simp only [go_sem]
  refine ⟨okD_of (by kernel_rfl), ?_⟩
  refine promote 10 210 44 13 false ?_ ?_ ?_ (by omega)
  · refine promote 11 211 44 13 false ?_ ?_ ?_ (by omega)
    · refine loop Tryz.mixed 0 (fun i : Nat => [(1, .int .u8 z), (5, .ptr 29 0), (6, .ptr 6 0), (7, .vs (seats.map i1)), (8, .ptr 8 0), (9, .ptr 9 0), (10, .os 210 (liGo l c x y seats z q5 i).2.1.length), (11, .os 211 (liGo l c x y seats z q5 i).2.2.length), (12, .int .i64 i)]) (fun i => [(29, dbox l (liGo l c x y seats z q5 i).1), (6, .cells [.int .i64 c.ep, .int .i64 c.kd, .int .i64 c.su, .int .i64 c.ro]), (8, .cells (ct x)), (9, .cells (ct y)), (210, .arr 44 13 false ((liGo l c x y seats z q5 i).2.1.map sm)), (211, .arr 44 13 false ((liGo l c x y seats z q5 i).2.2.map sm))]) (fun i => i ≤ seats.length) (fun i => seats.length - i) (by kernel_rfl) (Nat.zero_le _) ?_ ?_
      · simp only [go_sem, liGo, List.map_nil, List.length_nil]
      · intro i hi
        by_cases hlt : i < seats.length
        · have h1 : (i : Int) < (seats.length : Int) := by omega
          have hst := gst i
          have hle := gle i
          have hln := gln i
          generalize liGo l c x y seats z q5 i = S at *
          obtain ⟨r, P, Q⟩ := S
          simp only at hst hle hln
          have c1 := cvx (el seats i)
          have c2 := cvy (el seats i)
          rw [cs_eq] at c1 c2
          simp only [go_sem, h1]
          refine call (next_den l r 5 hl hle (by omega)) [29] ?_
          have e0 : dpos l r = dgo l r 1 := rfl
          generalize dnext l r 5 = n at *
          have hkk : (IntKind.i64.wrap (IntKind.i64.wrap z + n)).tmod 5 = liK z n := rfl
          generalize liK z n = kk at *
          by_cases k1 : 0 < kk
          · rw [if_pos k1] at hst
            generalize vt (el seats i) 0 c x = s at *
            simp only [go_sem, e0, hkk, k1, hlt]
            rw [ct_eq] at c1
            refine call c1 [] ?_
            by_cases k2 : 1 < kk
            · rw [if_pos k2] at hst
              generalize vt (el seats i) 1 c y = t at *
              simp only [go_sem, k2, hlt]
              rw [ct_eq] at c2
              refine ⟨by omega, okD_of (by kernel_rfl), ?_⟩
              refine call c2 [] ?_
              simp only [go_sem]
              refine ⟨by omega, okD_of (by kernel_rfl), i + 1, ⟨by omega, by omega⟩, ?_⟩
              rw [hst]
              exact ⟨⟨by simp, by simp, by rw [wrapI] <;> omega⟩, rfl, by simp [sm], by simp [sm]⟩
            · rw [if_neg k2] at hst
              simp only [go_sem, k2, hlt]
              refine ⟨by omega, okD_of (by kernel_rfl), i + 1, ⟨by omega, by omega⟩, ?_⟩
              rw [hst]
              exact ⟨⟨by simp, by simp, by rw [wrapI] <;> omega⟩, rfl, by simp [sm], by simp⟩
          · have k2 : ¬ 1 < kk := by omega
            rw [if_neg k1, if_neg k2] at hst
            simp only [go_sem, e0, hkk, k1]
            refine ⟨i + 1, ⟨by omega, by omega⟩, ?_⟩
            rw [hst]
            exact ⟨⟨by simp, by simp, by rw [wrapI] <;> omega⟩, rfl, by simp, by simp⟩
        · have h1 : ¬ (i : Int) < (seats.length : Int) := by omega
          have : i = seats.length := by omega
          subst this
          have hle := gle seats.length
          have hln := gln seats.length
          generalize liGo l c x y seats z q5 seats.length = S at *
          obtain ⟨r, P, Q⟩ := S
          simp only at hrv hok hle hln
          obtain ⟨hP, hQ⟩ := hrv
          obtain ⟨oP, oQ⟩ := hok
          have gP : ∀ s ∈ P, bigS s := fun s hs => (oP s hs).big
          have gQ : ∀ s ∈ Q, bigS s := fun s hs => (oQ s hs).big
          have gA : ∀ s ∈ P ++ Q, bigS s := fun s hs => by
            rcases List.mem_append.1 hs with h | h
            · exact gP s h
            · exact gQ s h
          have dA := all_den (P ++ Q) c seats (by simp; omega) gA (by omega)
          have dL := liars_den (P ++ Q) c seats (by simp; omega) gA (by omega)
          have dP := dCheck_den c P seats (by omega) gP (by omega)
          have dQ := dCheck_den c Q seats (by omega) gQ (by omega)
          rw [n4, if_pos rfl] at dA dL
          have xP := hP.chkX n4
          have okP := chkX_ok (c := c) (l := P) (seats := seats)
          have okQ := chkX_ok (c := c) (l := Q) (seats := seats)
          have allP : ∀ x, ChkP c P seats x → x ∈ allV seats (votesL (P ++ Q) c) := fun x h => chk_all h fun s hs => List.mem_append.2 (.inl hs)
          have allQ : ∀ x, ChkP c Q seats x → x ∈ allV seats (votesL (P ++ Q) c) := fun x h => chk_all h fun s hs => List.mem_append.2 (.inr hs)
          have lie2 := lie_two (seats := seats) (v := votesL (P ++ Q) c)
          have lieL := fun x y => lie_len (seats := seats) (v := votesL (P ++ Q) c) (x := x) (y := y)
          have lieS : ∀ k ∈ lieV seats (votesL (P ++ Q) c), k ∈ seats := fun k hk => by simpa using (List.mem_filter.1 hk).2
          have lX := allV_len (seats := seats) (l := P ++ Q) (c := c)
          have lL : (lieV seats (votesL (P ++ Q) c)).length ≤ seats.length := len_sub (List.Pairwise.filter _ ((twR_asc _).imp fun h => by omega)) lieS
          rw [List.length_append] at lX
          have bP := chkX_big (c := c) (l := P) (seats := seats)
          have bQ := chkX_big (c := c) (l := Q) (seats := seats)
          generalize chkX c P seats = U at *
          generalize chkX c Q seats = V at *
          generalize allV seats (votesL (P ++ Q) c) = A at *
          generalize lieV seats (votesL (P ++ Q) c) = L at *
          obtain ⟨u, g⟩ := U
          obtain ⟨v, h⟩ := V
          simp only at dP dQ xP okP okQ bP bQ
          rw [cs_eq] at dA dL
          rw [ce_eq] at dP dQ
          simp only [go_sem, h1]
          (repeat refine And.intro (by first | omega | exact okD_of (by kernel_rfl)) ?_)
          rw [← List.map_append, ← List.length_append]
          refine call dA [] ?_
          simp only [go_sem]
          refine call dL [] ?_
          simp only [go_sem]
          refine call dP [] ?_
          simp only [go_sem]
          have w2 : IntKind.i64.wrap (2 * (L.length : Int)) = ((2 * L.length : Nat) : Int) := by rw [wrapI] <;> omega
          have co := order23_den u v bP.1 bP.2 bQ.1 bQ.2
          refine call dQ [] ?_
          by_cases a0 : 1 < A.length
          · have n20 := lie2 a0
            have a1 : (1 : Int) < (A.length : Int) := by omega
            have n21 : ¬ ((2 * L.length : Nat) : Int) ≤ (seats.length : Int) := by omega
            simp only [go_sem, w2, a1, n21]
            by_cases hg : g = 0
            rotate_left
            · have hgE : enoB P.length seats.length = false := by
                cases he : enoB P.length seats.length
                · rfl
                · exact absurd (xP.2 he) hg
              simp only [go_sem, hg]
              refine loop Tryz.mixed 0 (fun i : Nat => [(7, .vs (seats.map i1)), (10, .vs (P.map sm)), (17, .vs (L.map i1)), (20, .int .i64 g), (23, .int .i64 i)]) (fun _ => []) (fun i => i ≤ L.length) (fun i => L.length - i) (by kernel_rfl) (Nat.zero_le _) ?_ ?_
              · simp only [go_sem]
              · intro i hi
                by_cases hlt : i < L.length
                · have h5 : (i : Int) < (L.length : Int) := by omega
                  have ch := has24 seats (el L i) (by simp only [big]; omega)
                  rw [decide_eq_true (lieS _ (el_mem hlt))] at ch
                  simp only [go_sem, h5, hlt]
                  refine call ch [] ?_
                  simp only [go_sem]
                  exact ⟨i + 1, ⟨by omega, by omega⟩, by rw [wrapI] <;> omega⟩
                · have h5 : ¬ (i : Int) < (L.length : Int) := by omega
                  have cE := renough_den P.length seats.length
                  rw [hgE] at cE
                  simp only [go_sem, h5, hg]
                  refine call cE [] ?_
                  simp only [go_sem]
                  refine ⟨Tryz.underlying4, ?_⟩
                  refine call awake28_den [] ?_
                  simp only [go_sem]
            have hgE : enoB P.length seats.length = true := xP.1 hg
            subst hg
            by_cases hh : h = 0
            rotate_left
            · simp only [go_sem, hh]
              refine loop Tryz.mixed 0 (fun i : Nat => [(7, .vs (seats.map i1)), (10, .vs (P.map sm)), (17, .vs (L.map i1)), (20, .int .i64 0), (23, .int .i64 i)]) (fun _ => []) (fun i => i ≤ L.length) (fun i => L.length - i) (by kernel_rfl) (Nat.zero_le _) ?_ ?_
              · simp only [go_sem]
              · intro i hi
                by_cases hlt : i < L.length
                · have h5 : (i : Int) < (L.length : Int) := by omega
                  have ch := has24 seats (el L i) (by simp only [big]; omega)
                  rw [decide_eq_true (lieS _ (el_mem hlt))] at ch
                  simp only [go_sem, h5, hlt]
                  refine call ch [] ?_
                  simp only [go_sem]
                  exact ⟨i + 1, ⟨by omega, by omega⟩, by rw [wrapI] <;> omega⟩
                · have h5 : ¬ (i : Int) < (L.length : Int) := by omega
                  have cE := renough_den P.length seats.length
                  rw [hgE] at cE
                  simp only [go_sem, h5]
                  refine call cE [] ?_
                  simp only [go_sem]
                  refine ⟨Tryz.underlying4, ?_⟩
                  refine call awake28_den [] ?_
                  simp only [go_sem]
            simp only [go_sem, hh]
            refine call co [] ?_
            by_cases z : ordC u v = 0
            · simp only [go_sem, z]
              refine loop Tryz.mixed 0 (fun i : Nat => [(7, .vs (seats.map i1)), (10, .vs (P.map sm)), (17, .vs (L.map i1)), (20, .int .i64 0), (23, .int .i64 i)]) (fun _ => []) (fun i => i ≤ L.length) (fun i => L.length - i) (by kernel_rfl) (Nat.zero_le _) ?_ ?_
              · simp only [go_sem]
              · intro i hi
                by_cases hlt : i < L.length
                · have h5 : (i : Int) < (L.length : Int) := by omega
                  have ch := has24 seats (el L i) (by simp only [big]; omega)
                  rw [decide_eq_true (lieS _ (el_mem hlt))] at ch
                  simp only [go_sem, h5, hlt]
                  refine call ch [] ?_
                  simp only [go_sem]
                  exact ⟨i + 1, ⟨by omega, by omega⟩, by rw [wrapI] <;> omega⟩
                · have h5 : ¬ (i : Int) < (L.length : Int) := by omega
                  have cE := renough_den P.length seats.length
                  rw [hgE] at cE
                  simp only [go_sem, h5]
                  refine call cE [] ?_
                  simp only [go_sem]
                  refine ⟨Tryz.underlying4, ?_⟩
                  refine call awake28_den [] ?_
                  simp only [go_sem]
            · have hne : u ≠ v := fun e => z ((ordC_eq _ _).2 e)
              have m1 := allP u (okP rfl).2
              have m2 := allQ v (okQ hh).2
              have m3 := lieL u v m1 m2 hne
              have m4 := two_len m1 m2 hne
              have n22 : ¬ (A.length : Int) < 2 := by omega
              simp only [go_sem, z, w2, n21, n22]
              refine loop Tryz.mixed 0 (fun i : Nat => [(7, .vs (seats.map i1)), (10, .vs (P.map sm)), (17, .vs (L.map i1)), (20, .int .i64 0), (23, .int .i64 i)]) (fun _ => []) (fun i => i ≤ L.length) (fun i => L.length - i) (by kernel_rfl) (Nat.zero_le _) ?_ ?_
              · simp only [go_sem]
              · intro i hi
                by_cases hlt : i < L.length
                · have h5 : (i : Int) < (L.length : Int) := by omega
                  have ch := has24 seats (el L i) (by simp only [big]; omega)
                  rw [decide_eq_true (lieS _ (el_mem hlt))] at ch
                  simp only [go_sem, h5, hlt]
                  refine call ch [] ?_
                  simp only [go_sem]
                  exact ⟨i + 1, ⟨by omega, by omega⟩, by rw [wrapI] <;> omega⟩
                · have h5 : ¬ (i : Int) < (L.length : Int) := by omega
                  have cE := renough_den P.length seats.length
                  rw [hgE] at cE
                  simp only [go_sem, h5]
                  refine call cE [] ?_
                  simp only [go_sem]
                  refine ⟨Tryz.underlying4, ?_⟩
                  refine call awake28_den [] ?_
                  simp only [go_sem]
          · have a1 : ¬ (1 : Int) < (A.length : Int) := by omega
            simp only [go_sem, w2, a1]
            by_cases hg : g = 0
            rotate_left
            · have hgE : enoB P.length seats.length = false := by
                cases he : enoB P.length seats.length
                · rfl
                · exact absurd (xP.2 he) hg
              simp only [go_sem, hg]
              refine loop Tryz.mixed 0 (fun i : Nat => [(7, .vs (seats.map i1)), (10, .vs (P.map sm)), (17, .vs (L.map i1)), (20, .int .i64 g), (23, .int .i64 i)]) (fun _ => []) (fun i => i ≤ L.length) (fun i => L.length - i) (by kernel_rfl) (Nat.zero_le _) ?_ ?_
              · simp only [go_sem]
              · intro i hi
                by_cases hlt : i < L.length
                · have h5 : (i : Int) < (L.length : Int) := by omega
                  have ch := has24 seats (el L i) (by simp only [big]; omega)
                  rw [decide_eq_true (lieS _ (el_mem hlt))] at ch
                  simp only [go_sem, h5, hlt]
                  refine call ch [] ?_
                  simp only [go_sem]
                  exact ⟨i + 1, ⟨by omega, by omega⟩, by rw [wrapI] <;> omega⟩
                · have h5 : ¬ (i : Int) < (L.length : Int) := by omega
                  have cE := renough_den P.length seats.length
                  rw [hgE] at cE
                  simp only [go_sem, h5, hg]
                  refine call cE [] ?_
                  simp only [go_sem]
                  refine ⟨Tryz.underlying4, ?_⟩
                  refine call awake28_den [] ?_
                  simp only [go_sem]
            have hgE : enoB P.length seats.length = true := xP.1 hg
            subst hg
            by_cases hh : h = 0
            rotate_left
            · simp only [go_sem, hh]
              refine loop Tryz.mixed 0 (fun i : Nat => [(7, .vs (seats.map i1)), (10, .vs (P.map sm)), (17, .vs (L.map i1)), (20, .int .i64 0), (23, .int .i64 i)]) (fun _ => []) (fun i => i ≤ L.length) (fun i => L.length - i) (by kernel_rfl) (Nat.zero_le _) ?_ ?_
              · simp only [go_sem]
              · intro i hi
                by_cases hlt : i < L.length
                · have h5 : (i : Int) < (L.length : Int) := by omega
                  have ch := has24 seats (el L i) (by simp only [big]; omega)
                  rw [decide_eq_true (lieS _ (el_mem hlt))] at ch
                  simp only [go_sem, h5, hlt]
                  refine call ch [] ?_
                  simp only [go_sem]
                  exact ⟨i + 1, ⟨by omega, by omega⟩, by rw [wrapI] <;> omega⟩
                · have h5 : ¬ (i : Int) < (L.length : Int) := by omega
                  have cE := renough_den P.length seats.length
                  rw [hgE] at cE
                  simp only [go_sem, h5]
                  refine call cE [] ?_
                  simp only [go_sem]
                  refine ⟨Tryz.underlying4, ?_⟩
                  refine call awake28_den [] ?_
                  simp only [go_sem]
            simp only [go_sem, hh]
            refine call co [] ?_
            by_cases z : ordC u v = 0
            · simp only [go_sem, z]
              refine loop Tryz.mixed 0 (fun i : Nat => [(7, .vs (seats.map i1)), (10, .vs (P.map sm)), (17, .vs (L.map i1)), (20, .int .i64 0), (23, .int .i64 i)]) (fun _ => []) (fun i => i ≤ L.length) (fun i => L.length - i) (by kernel_rfl) (Nat.zero_le _) ?_ ?_
              · simp only [go_sem]
              · intro i hi
                by_cases hlt : i < L.length
                · have h5 : (i : Int) < (L.length : Int) := by omega
                  have ch := has24 seats (el L i) (by simp only [big]; omega)
                  rw [decide_eq_true (lieS _ (el_mem hlt))] at ch
                  simp only [go_sem, h5, hlt]
                  refine call ch [] ?_
                  simp only [go_sem]
                  exact ⟨i + 1, ⟨by omega, by omega⟩, by rw [wrapI] <;> omega⟩
                · have h5 : ¬ (i : Int) < (L.length : Int) := by omega
                  have cE := renough_den P.length seats.length
                  rw [hgE] at cE
                  simp only [go_sem, h5]
                  refine call cE [] ?_
                  simp only [go_sem]
                  refine ⟨Tryz.underlying4, ?_⟩
                  refine call awake28_den [] ?_
                  simp only [go_sem]
            · have hne : u ≠ v := fun e => z ((ordC_eq _ _).2 e)
              have m1 := allP u (okP rfl).2
              have m2 := allQ v (okQ hh).2
              have m3 := lieL u v m1 m2 hne
              have m4 := two_len m1 m2 hne
              exact absurd m4 (by omega)
    · simp only [go_sem]
    · simp only [go_sem]
  · simp only [go_sem]
  · simp only [go_sem]
end Go.Proofs.Am
