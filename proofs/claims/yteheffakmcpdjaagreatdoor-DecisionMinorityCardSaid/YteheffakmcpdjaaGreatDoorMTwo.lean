/- The mill's votes are votes. -/
import Derived.Test.YteheffakmcpdjaaGreatDoorMOne
import Derived.Test.YteheffakmcpdjaaGreatDoorNOne
set_option linter.unusedSimpArgs false
set_option linter.unusedVariables false
namespace Go.Proofs.Am
open Go Go.RowKit
open Go.Proofs

theorem pins_right {l : List Pn} (h : checkE (pinS l) = 0) : pinsB l = true ∧ l.length ≤ 64 := by
  obtain ⟨_, h2, h3, _⟩ := checkE_zero h
  exact ⟨h3, h2⟩
theorem voteE_vt {k nu : Int} {c : Cs} {x : Ct} (hk : 0 ≤ k ∧ k ≤ 63) (hn : 0 ≤ nu ∧ nu ≤ 199) (hr : rightB c x = true) : voteE (vt k nu c x) = (⟨k, c, x⟩, true) := by
  have hr' := hr
  unfold rightB at hr'
  simp only [Bool.and_eq_true, decide_eq_true_eq] at hr'
  obtain ⟨hc, hp, hl⟩ := hr'
  obtain ⟨p1, p2⟩ := pins_right hp
  have hc' := of_decide_eq_true hc
  have hd : (vdraft c x).1 = ⟨10, c.ep, c.kd + 16 * c.ro, c.su, x.li, x.pi⟩ := by
    unfold vdraft
    rw [if_neg (by simp [hc]), if_neg (by simp [hr])]
  have a1 : (vt k nu c x).au = k := rfl
  have a2 : (vt k nu c x).kd = 10 := by show (vdraft c x).1.kd = 10; rw [hd]
  have a3 : (vt k nu c x).ti = 1 := rfl
  have a4 : (vt k nu c x).nu = nu := rfl
  have a5 : (vt k nu c x).a = c.ep := by show (vdraft c x).1.a = _; rw [hd]
  have a6 : (vt k nu c x).b = c.kd + 16 * c.ro := by show (vdraft c x).1.b = _; rw [hd]
  have a7 : (vt k nu c x).c = c.su := by show (vdraft c x).1.c = _; rw [hd]
  have a8 : (vt k nu c x).li = x.li := by show (vdraft c x).1.li = _; rw [hd]
  have a9 : (vt k nu c x).pins = x.pi := by show (vdraft c x).1.pins = _; rw [hd]
  have a10 : (vt k nu c x).body = [] := rfl
  have a11 : (vt k nu c x).prev = if 0 < nu then List.replicate 32 0 else [] := rfl
  have a12 : (vt k nu c x).sk = (vt k nu c x).au ∧ (vt k nu c x).sd = dig (vt k nu c x) := sealed_stmt _ _ _ _
  have hmk : mkV (vt k nu c x) = ⟨k, c, x⟩ := by
    unfold mkV
    rw [a1, a5, a6, a7, a8, a9]
    have e1 : (c.kd + 16 * c.ro).tmod 16 = c.kd := by rw [Int.tmod_eq_emod_of_nonneg (by omega)]; omega
    have e2 : (c.kd + 16 * c.ro).tdiv 16 = c.ro := by rw [Int.tdiv_eq_ediv_of_nonneg (by omega)]; omega
    rw [e1, e2]
  have b8 : x.li.length ≤ 64 ∧ (x.li.any fun x => !valB x) = false := by
    unfold listV at hl
    split at hl
    · have h := of_decide_eq_true hl
      match hx : x.li, h.1 with
      | [u, v], _ =>
        rw [hx] at h
        have h2 : (0 : Int) ≤ u ∧ u < 4294967296 ∧ 0 ≤ v ∧ v < 4294967296 := ⟨h.2.1, h.2.2.1, h.2.2.2.1, h.2.2.2.2⟩
        refine ⟨by simp, ?_⟩
        have e1 : valB u = true := decide_eq_true (by omega)
        have e2 : valB v = true := decide_eq_true (by omega)
        simp [e1, e2]
    · have h := of_decide_eq_true hl
      match hx : x.li, h.1 with
      | [u], _ =>
        rw [hx] at h
        have h2 : u = 0 ∨ u = 1 := h.2
        refine ⟨by simp, ?_⟩
        have e1 : valB u = true := decide_eq_true (by omega)
        simp [e1]
  have hch : checkE (vt k nu c x) = 0 := by
    generalize vt k nu c x = s at *
    have b1 : inB s.au 0 63 = true := decide_eq_true (by omega)
    have b2 : inB s.kd 10 31 = true := decide_eq_true (by omega)
    have b3 : inB s.ti 0 2147483648 = true := decide_eq_true (by omega)
    have b4 : inB s.nu 0 199 = true := decide_eq_true (by omega)
    have b5 : valB s.a = true := decide_eq_true (by omega)
    have b6 : valB s.b = true := decide_eq_true (by omega)
    have b7 : valB s.c = true := decide_eq_true (by omega)
    have b9 : meantB s = true := by rw [meantB, if_neg (by omega), if_neg (by omega), if_neg (by omega)]
    have b10 : (decide (s.nu = 0) && decide (s.prev ≠ [])) = false := by
      by_cases h : s.nu = 0
      · rw [a11, if_neg (by omega)]; simp
      · simp [h]
    have b11 : (decide (0 < s.nu) && decide (s.prev.length ≠ 32)) = false := by
      by_cases h : 0 < s.nu
      · rw [a11, if_pos (by omega)]; simp
      · simp [h]
    have b12 : decide (s.kd ≤ 3) = false := decide_eq_false (by omega)
    have b13 : decide (64 < x.li.length) = false := decide_eq_false (by omega)
    have b14 : decide (64 < x.pi.length) = false := decide_eq_false (by omega)
    simp only [checkE, b1, b2, b3, b4, b5, b6, b7, b8.2, b9, b10, b11, b12, b13, b14, a8, a9, a10, p1]
    simp
  exact voteE_of hch ⟨a2, a10⟩ (by rw [hmk]; exact hr) hmk a12
theorem okV_vt {k nu : Int} {c : Cs} {x : Ct} (hk : 0 ≤ k ∧ k ≤ 63) (hn : 0 ≤ nu ∧ nu ≤ 199) (hr : rightB c x = true) : okV c (vt k nu c x) = true := by
  simp [okV, voteE_vt hk hn hr]
theorem pinS_one (p : Pn) (h1 : pinsB [p] = true) : checkE (pinS [p]) = 0 := by
  have b8 : meantB (pinS [p]) = true := by rw [meantB, if_neg (by simp [pinS]), if_neg (by simp [pinS]), if_neg (by simp [pinS])]
  simp only [checkE, b8]
  simp [pinS, h1, inB, valB]
/-- The mill's content is right for its case. -/
theorem mcont_right (l : List Int) (p : Nat) {c : Cs} (hc : caseV c = true) : rightB c (mcont l p c).1 = true := by
  have b1 := dnext_lt (l := l) (p := p) (n := 2) (by omega)
  have b2 := dnext_lt (l := l) (p := p) (n := 127) (by omega)
  have b3 := dnext_lt (l := l) (p := dgo l p 1) (n := 3) (by omega)
  have b4 := dnext_lt (l := l) (p := dgo l p 3) (n := 4) (by omega)
  have b5 := dnext_lt (l := l) (p := dgo l p 4) (n := 3) (by omega)
  have hnil : checkE (pinS []) = 0 := by decide
  have e3 : 0 ≤ el ([0, 0, 1] : List Int) (dnext l (dgo l p 1) 3).toNat ∧ el ([0, 0, 1] : List Int) (dnext l (dgo l p 1) 3).toNat < 4294967296 := by
    have : (dnext l (dgo l p 1) 3).toNat = 0 ∨ (dnext l (dgo l p 1) 3).toNat = 1 ∨ (dnext l (dgo l p 1) 3).toNat = 2 := by omega
    rcases this with h | h | h <;> rw [h] <;> decide
  unfold rightB mcont
  rw [hc, Bool.true_and]
  split
  · rename_i h
    have hk : ¬ c.kd = 1 := h
    simp only [hnil, decide_true, Bool.true_and, listV, if_neg hk]
    exact decide_eq_true ⟨rfl, by show dnext l p 2 = 0 ∨ dnext l p 2 = 1; omega⟩
  · rename_i h
    have hk : c.kd = 1 := by simpa using h
    split
    · have hp : pinsB [⟨dnext l (dgo l p 3) 4, 1 + dnext l (dgo l p 4) 3, mdig l (dgo l p 5)⟩] = true := by
        refine pinsB_true fun i hi => ?_
        obtain rfl : i = 0 := by simpa using hi
        have q1 : inB (dnext l (dgo l p 3) 4) 0 63 = true := decide_eq_true (by omega)
        have q2 : inB (1 + dnext l (dgo l p 4) 3) 1 200 = true := decide_eq_true (by omega)
        show (inB (dnext l (dgo l p 3) 4) 0 63 && !(decide (0 < 0) && _) && inB (1 + dnext l (dgo l p 4) 3) 1 200 && decide ((mdig l (dgo l p 5)).length = 32)) = true
        rw [q1, q2, mdig_len]
        rfl
      simp only [pinS_one _ hp, decide_true, Bool.true_and, listV, if_pos hk]
      exact decide_eq_true ⟨rfl, by show (0 : Int) ≤ 1 + dnext l p 127; omega, by show 1 + dnext l p 127 < 4294967296; omega, e3.1, e3.2⟩
    · simp only [hnil, decide_true, Bool.true_and, listV, if_pos hk]
      exact decide_eq_true ⟨rfl, by show (0 : Int) ≤ 1 + dnext l p 127; omega, by show 1 + dnext l p 127 < 4294967296; omega, e3.1, e3.2⟩
end Go.Proofs.Am

/- DecisionLiars, walked. -/
namespace Go.Proofs.Am
open Go Go.RowKit
open Go.Proofs

/-- How often a seat votes. -/
def liK (z n : Int) : Int := (IntKind.i64.wrap (IntKind.i64.wrap z + n)).tmod 5
/-- The votes of some seats for one content, and of some of these for another. -/
def liGo (l : List Int) (c : Cs) (x y : Ct) (seats : List Int) (z : Int) (p : Nat) : Nat → Nat × List Stm × List Stm
  | 0 => (p, [], [])
  | i + 1 => (dgo l (liGo l c x y seats z p i).1 1,
      (liGo l c x y seats z p i).2.1 ++ (if 0 < liK z (dnext l (liGo l c x y seats z p i).1 5) then [vt (el seats i) 0 c x] else []),
      (liGo l c x y seats z p i).2.2 ++ (if 1 < liK z (dnext l (liGo l c x y seats z p i).1 5) then [vt (el seats i) 1 c y] else []))
theorem liGo_le {l : List Int} {c : Cs} {x y : Ct} {seats : List Int} {z : Int} {p : Nat} (hp : p ≤ l.length) : ∀ i, (liGo l c x y seats z p i).1 ≤ l.length
  | 0 => hp
  | i + 1 => dgo_le (liGo_le hp i) 1
theorem liGo_len {l : List Int} {c : Cs} {x y : Ct} {seats : List Int} {z : Int} {p : Nat} : ∀ i, (liGo l c x y seats z p i).2.1.length ≤ i ∧ (liGo l c x y seats z p i).2.2.length ≤ i
  | 0 => ⟨Nat.le_refl _, Nat.le_refl _⟩
  | i + 1 => by
    obtain ⟨h1, h2⟩ := liGo_len (l := l) (c := c) (x := x) (y := y) (seats := seats) (z := z) (p := p) i
    simp only [liGo, List.length_append]
    constructor
    · split <;> simp <;> omega
    · split <;> simp <;> omega
/-- A list of right votes of seats for one content, ascending. -/
structure RV1 (c : Cs) (x : Ct) (S : List Int) (P : List Stm) : Prop where
  ok : ∀ s ∈ P, okV c s = true ∧ s.au ∈ S ∧ (voteE s).1.x = x
  up : P.Pairwise fun a b => a.au < b.au
theorem RV1.nil {c : Cs} {x : Ct} {S : List Int} : RV1 c x S [] := ⟨by simp, List.Pairwise.nil⟩
theorem RV1.snoc {c : Cs} {x : Ct} {seats : List Int} {P : List Stm} {i : Nat} {nu : Int} (h : RV1 c x (seats.take i) P) (ha : asc seats) (hi : i < seats.length) (hk : ∀ k ∈ seats, 0 ≤ k ∧ k ≤ 63) (hn : 0 ≤ nu ∧ nu ≤ 199) (hr : rightB c x = true) :
    RV1 c x (seats.take (i + 1)) (P ++ [vt (el seats i) nu c x]) := by
  have ht := take_el hi
  refine ⟨fun s hs => ?_, ?_⟩
  · rcases List.mem_append.1 hs with hs | hs
    · obtain ⟨h1, h2, h3⟩ := h.ok s hs
      exact ⟨h1, by rw [ht]; simp [h2], h3⟩
    · rw [List.mem_singleton] at hs
      subst hs
      exact ⟨okV_vt (hk _ (el_mem hi)) hn hr, by rw [ht]; exact List.mem_append.2 (.inr (by simp [show (vt (el seats i) nu c x).au = el seats i from rfl])), by rw [voteE_vt (hk _ (el_mem hi)) hn hr]⟩
  · rw [List.pairwise_append]
    refine ⟨h.up, List.pairwise_singleton _ _, fun a ha' b hb => ?_⟩
    rw [List.mem_singleton] at hb
    subst hb
    show a.au < el seats i
    have hm := (h.ok a ha').2.1
    obtain ⟨j, hj, e⟩ := List.mem_iff_getElem.1 hm
    have hj' : j < i := by simp at hj; omega
    rw [List.getElem_take] at e
    have e2 : el seats i = seats[i] := by simp [el, List.getD_eq_getElem?_getD, hi]
    rw [← e, e2]
    exact List.pairwise_iff_getElem.1 ha j i (by omega) hi hj'
theorem RV1.skip {c : Cs} {x : Ct} {seats : List Int} {P : List Stm} {i : Nat} (h : RV1 c x (seats.take i) P) : RV1 c x (seats.take (i + 1)) P := by
  refine ⟨fun s hs => ?_, h.up⟩
  obtain ⟨h1, h2, h3⟩ := h.ok s hs
  exact ⟨h1, List.take_subset_take_left _ (Nat.le_succ i) h2, h3⟩
theorem liGo_rv {l : List Int} {c : Cs} {x y : Ct} {seats : List Int} {z : Int} {p : Nat} (ha : asc seats) (hk : ∀ k ∈ seats, 0 ≤ k ∧ k ≤ 63) (hx : rightB c x = true) (hy : rightB c y = true) : ∀ i, i ≤ seats.length → RV1 c x (seats.take i) (liGo l c x y seats z p i).2.1 ∧ RV1 c y (seats.take i) (liGo l c x y seats z p i).2.2
  | 0, _ => ⟨.nil, .nil⟩
  | i + 1, hi => by
    obtain ⟨h1, h2⟩ := liGo_rv (l := l) (z := z) (p := p) ha hk hx hy i (by omega)
    simp only [liGo]
    constructor
    · split
      · exact h1.snoc ha (by omega) hk ⟨by omega, by omega⟩ hx
      · rw [List.append_nil]; exact h1.skip
    · split
      · exact h2.snoc ha (by omega) hk ⟨by omega, by omega⟩ hy
      · rw [List.append_nil]; exact h2.skip
theorem liGo_okS {l : List Int} {c : Cs} {x y : Ct} {seats : List Int} {z : Int} {p : Nat} (hx : okCt x) (hy : okCt y) : ∀ i, (∀ s ∈ (liGo l c x y seats z p i).2.1, okS s) ∧ ∀ s ∈ (liGo l c x y seats z p i).2.2, okS s
  | 0 => ⟨by simp [liGo], by simp [liGo]⟩
  | i + 1 => by
    obtain ⟨h1, h2⟩ := liGo_okS (l := l) (c := c) (seats := seats) (z := z) (p := p) hx hy i
    simp only [liGo]
    constructor
    · intro s hs
      rcases List.mem_append.1 hs with hs | hs
      · exact h1 s hs
      · split at hs
        · rw [List.mem_singleton] at hs; subst hs; exact vt_okS _ _ _ hx
        · simp at hs
    · intro s hs
      rcases List.mem_append.1 hs with hs | hs
      · exact h2 s hs
      · split at hs
        · rw [List.mem_singleton] at hs; subst hs; exact vt_okS _ _ _ hy
        · simp at hs
theorem RV1.chk {c : Cs} {x : Ct} {seats : List Int} {P : List Stm} (h : RV1 c x seats P) (he : enoB P.length seats.length = true) : ChkP c P seats x := ⟨h.ok, h.up, he⟩
/-- It is right just where it has enough votes. -/
theorem RV1.chkX {c : Cs} {x : Ct} {seats : List Int} {P : List Stm} (h : RV1 c x seats P) (hc : ckS c seats = 0) : ((Am.chkX c P seats).2 = 0 ↔ enoB P.length seats.length = true) := by
  constructor
  · intro h1
    exact (chkX_ok h1).2.en
  · intro h1
    rw [chkX_of hc (h.chk h1)]
theorem chkX_big {c : Cs} {l : List Stm} {seats : List Int} : bigC (Am.chkX c l seats).1 := by
  have h0 : bigC noC := ⟨by simp [noC, big], by simp [noC, big]⟩
  unfold Am.chkX
  split
  · exact h0
  · split
    · exact okCt_big voteE_ok
    · exact h0
theorem two_len {α : Type} {A : List α} {u v : α} (hu : u ∈ A) (hv : v ∈ A) (h : u ≠ v) : 2 ≤ A.length := by
  match A, hu, hv with
  | [a], hu, hv =>
    rw [List.mem_singleton] at hu hv
    exact absurd (hu.trans hv.symm) h
  | a :: b :: r, _, _ => simp

set_option maxHeartbeats 1000000 in
set_option maxRecDepth 100000 in
theorem liars28_den (l : List Int) (z : Int) : Den Tryz.prog 5 [.vs (l.map i1), .int .u8 z] [] (.bool true) [] [] := by
  refine den_of Tryz.mixed Tryz.func5 rfl Tryz.call5 Tryz.ntmps5 (congrArg Array.toList Tryz.results5) (by simp) (by kernel_rfl) [] (exts := []) rfl rfl ?_
  by_cases h0 : l.length ≤ 400
  rotate_left
  · simp only [go_sem]
    refine call (light_den l) [] ?_
    simp only [go_sem, h0]
    refine call awake28_den [] ?_
    simp only [go_sem]
  have hl : big l.length := by simp only [big]; omega
  simp only [go_sem]
  refine call (light_den l) [] ?_
  simp only [go_sem, h0]
  refine call (roll9 l) [] ?_
  have m1 := mcase_le (Nat.zero_le l.length) 0
  have cm1 := mcase_den l 0 0 hl (Nat.zero_le _)
  have hcV := mcase_ok l 0 (ep := 0) ⟨by omega, by omega⟩
  generalize mcase l 0 0 = M1 at *
  obtain ⟨c, q2⟩ := M1
  simp only at m1 cm1 hcV
  have n1 := dkpos_le2 l 8 q2 m1
  have n2 := dkeys_max l (n := 8) (by omega) q2
  have n3 := dkeys_in l (n := 8) (by omega) q2
  have n4 := ckS_mill l (n := 8) (by omega) (by omega) q2 hcV
  have n5 := dkeys_asc l 8 q2
  have ck := keys_den l q2 8 hl m1 (by omega)
  generalize dkpos l 8 q2 = q3 at *
  generalize dkeys l 8 q2 = seats at *
  have cx := content_den l q3 c hl n1
  have rx := mcont_right l q3 hcV
  have ox := mcont_ok l q3 c
  have px := mcont_le n1 c
  generalize mcont l q3 c = X at *
  obtain ⟨x, q4⟩ := X
  simp only at cx rx ox px
  have cy := content_den l q4 c hl px
  have ry := mcont_right l q4 hcV
  have oy := mcont_ok l q4 c
  have py := mcont_le px c
  generalize mcont l q4 c = Y at *
  obtain ⟨y, q5⟩ := Y
  simp only at cy ry oy py
  have hk63 : ∀ k ∈ seats, 0 ≤ k ∧ k ≤ 63 := fun k hk => by have := n3 k hk; omega
  have cvx := fun k => vote_den k 0 c x ox
  have cvy := fun k => vote_den k 1 c y oy
  have gle := fun i => liGo_le (l := l) (c := c) (x := x) (y := y) (seats := seats) (z := z) py i
  have gln := fun i => liGo_len (l := l) (c := c) (x := x) (y := y) (seats := seats) (z := z) (p := q5) i
  have gst : ∀ i, liGo l c x y seats z q5 (i + 1) = (dgo l (liGo l c x y seats z q5 i).1 1, (liGo l c x y seats z q5 i).2.1 ++ (if 0 < liK z (dnext l (liGo l c x y seats z q5 i).1 5) then [vt (el seats i) 0 c x] else []), (liGo l c x y seats z q5 i).2.2 ++ (if 1 < liK z (dnext l (liGo l c x y seats z q5 i).1 5) then [vt (el seats i) 1 c y] else [])) := fun _ => rfl
  have hrv := liGo_rv (l := l) (z := z) (p := q5) n5 hk63 rx ry seats.length (Nat.le_refl _)
  rw [List.take_length] at hrv
  have hok := liGo_okS (l := l) (c := c) (seats := seats) (z := z) (p := q5) ox oy seats.length
  rw [cs_eq] at cm1 cx cy
  simp only [go_sem]
  refine call cm1 [29] ?_
  simp only [go_sem]
  refine call ck [29] ?_
  simp only [go_sem]
  refine call cx [29] ?_
  simp only [go_sem]
  refine call cy [29] ?_
  simp only [go_sem]
  refine ⟨okD_of (by kernel_rfl), ?_⟩
  refine promote 10 210 44 13 false ?_ ?_ ?_ (by omega)
  · refine promote 11 211 44 13 false ?_ ?_ ?_ (by omega)
    · refine loop Tryz.mixed 0 (fun i : Nat => [(1, .int .u8 z), (5, .ptr 29 0), (6, .ptr 6 0), (7, .vs (seats.map i1)), (8, .ptr 8 0), (9, .ptr 9 0), (10, .os 210 (liGo l c x y seats z q5 i).2.1.length), (11, .os 211 (liGo l c x y seats z q5 i).2.2.length), (12, .int .i64 i)]) (fun i => [(29, dbox l (liGo l c x y seats z q5 i).1), (6, .cells [.int .i64 c.ep, .int .i64 c.kd, .int .i64 c.su, .int .i64 c.ro]), (8, .cells (ct x)), (9, .cells (ct y)), (210, .arr 44 13 false ((liGo l c x y seats z q5 i).2.1.map sm)), (211, .arr 44 13 false ((liGo l c x y seats z q5 i).2.2.map sm))]) (fun i => i ≤ seats.length) (fun i => seats.length - i) (by kernel_rfl) (Nat.zero_le _) ?_ ?_
      · simp only [go_sem, liGo, List.map_nil, List.length_nil]
      · intro i hi
        by_cases hlt : i < seats.length
        · have h1 : (i : Int) < (seats.length : Int) := by omega
          have hst := gst i
          have hle := gle i
          have hln := gln i
          generalize liGo l c x y seats z q5 i = S at *
          obtain ⟨r, P, Q⟩ := S
          simp only at hst hle hln
          have c1 := cvx (el seats i)
          have c2 := cvy (el seats i)
          rw [cs_eq] at c1 c2
          simp only [go_sem, h1]
          refine call (next_den l r 5 hl hle (by omega)) [29] ?_
          have e0 : dpos l r = dgo l r 1 := rfl
          generalize dnext l r 5 = n at *
          have hkk : (IntKind.i64.wrap (IntKind.i64.wrap z + n)).tmod 5 = liK z n := rfl
          generalize liK z n = kk at *
          by_cases k1 : 0 < kk
          · rw [if_pos k1] at hst
            generalize vt (el seats i) 0 c x = s at *
            simp only [go_sem, e0, hkk, k1, hlt]
            rw [ct_eq] at c1
            refine call c1 [] ?_
            by_cases k2 : 1 < kk
            · rw [if_pos k2] at hst
              generalize vt (el seats i) 1 c y = t at *
              simp only [go_sem, k2, hlt]
              rw [ct_eq] at c2
              refine ⟨by omega, okD_of (by kernel_rfl), ?_⟩
              refine call c2 [] ?_
              simp only [go_sem]
              refine ⟨by omega, okD_of (by kernel_rfl), i + 1, ⟨by omega, by omega⟩, ?_⟩
              rw [hst]
              exact ⟨⟨by simp, by simp, by rw [wrapI] <;> omega⟩, rfl, by simp [sm], by simp [sm]⟩
            · rw [if_neg k2] at hst
              simp only [go_sem, k2, hlt]
              refine ⟨by omega, okD_of (by kernel_rfl), i + 1, ⟨by omega, by omega⟩, ?_⟩
              rw [hst]
              exact ⟨⟨by simp, by simp, by rw [wrapI] <;> omega⟩, rfl, by simp [sm], by simp⟩
          · have k2 : ¬ 1 < kk := by omega
            rw [if_neg k1, if_neg k2] at hst
            simp only [go_sem, e0, hkk, k1]
            refine ⟨i + 1, ⟨by omega, by omega⟩, ?_⟩
            rw [hst]
            exact ⟨⟨by simp, by simp, by rw [wrapI] <;> omega⟩, rfl, by simp, by simp⟩
        · have h1 : ¬ (i : Int) < (seats.length : Int) := by omega
          have : i = seats.length := by omega
          subst this
          have hle := gle seats.length
          have hln := gln seats.length
          generalize liGo l c x y seats z q5 seats.length = S at *
          obtain ⟨r, P, Q⟩ := S
          simp only at hrv hok hle hln
          obtain ⟨hP, hQ⟩ := hrv
          obtain ⟨oP, oQ⟩ := hok
          have gP : ∀ s ∈ P, bigS s := fun s hs => (oP s hs).big
          have gQ : ∀ s ∈ Q, bigS s := fun s hs => (oQ s hs).big
          have gA : ∀ s ∈ P ++ Q, bigS s := fun s hs => by
            rcases List.mem_append.1 hs with h | h
            · exact gP s h
            · exact gQ s h
          have dA := all_den (P ++ Q) c seats (by simp; omega) gA (by omega)
          have dL := liars_den (P ++ Q) c seats (by simp; omega) gA (by omega)
          have dP := dCheck_den c P seats (by omega) gP (by omega)
          have dQ := dCheck_den c Q seats (by omega) gQ (by omega)
          rw [n4, if_pos rfl] at dA dL
          have xP := hP.chkX n4
          have okP := chkX_ok (c := c) (l := P) (seats := seats)
          have okQ := chkX_ok (c := c) (l := Q) (seats := seats)
          have allP : ∀ x, ChkP c P seats x → x ∈ allV seats (votesL (P ++ Q) c) := fun x h => chk_all h fun s hs => List.mem_append.2 (.inl hs)
          have allQ : ∀ x, ChkP c Q seats x → x ∈ allV seats (votesL (P ++ Q) c) := fun x h => chk_all h fun s hs => List.mem_append.2 (.inr hs)
          have lie2 := lie_two (seats := seats) (v := votesL (P ++ Q) c)
          have lieL := fun x y => lie_len (seats := seats) (v := votesL (P ++ Q) c) (x := x) (y := y)
          have lieS : ∀ k ∈ lieV seats (votesL (P ++ Q) c), k ∈ seats := fun k hk => by simpa using (List.mem_filter.1 hk).2
          have lX := allV_len (seats := seats) (l := P ++ Q) (c := c)
          have lL : (lieV seats (votesL (P ++ Q) c)).length ≤ seats.length := len_sub (List.Pairwise.filter _ ((twR_asc _).imp fun h => by omega)) lieS
          rw [List.length_append] at lX
          have bP := chkX_big (c := c) (l := P) (seats := seats)
          have bQ := chkX_big (c := c) (l := Q) (seats := seats)
          generalize chkX c P seats = U at *
          generalize chkX c Q seats = V at *
          generalize allV seats (votesL (P ++ Q) c) = A at *
          generalize lieV seats (votesL (P ++ Q) c) = L at *
          obtain ⟨u, g⟩ := U
          obtain ⟨v, h⟩ := V
          simp only at dP dQ xP okP okQ bP bQ
          rw [cs_eq] at dA dL
          rw [ce_eq] at dP dQ
          simp only [go_sem, h1]
          (repeat refine And.intro (by first | omega | exact okD_of (by kernel_rfl)) ?_)
          rw [← List.map_append, ← List.length_append]
          refine call dA [] ?_
          simp only [go_sem]
          refine call dL [] ?_
          simp only [go_sem]
          refine call dP [] ?_
          simp only [go_sem]
          have w2 : IntKind.i64.wrap (2 * (L.length : Int)) = ((2 * L.length : Nat) : Int) := by rw [wrapI] <;> omega
          have co := order23_den u v bP.1 bP.2 bQ.1 bQ.2
          refine call dQ [] ?_
          by_cases a0 : 1 < A.length
          · have n20 := lie2 a0
            have a1 : (1 : Int) < (A.length : Int) := by omega
            have n21 : ¬ ((2 * L.length : Nat) : Int) ≤ (seats.length : Int) := by omega
            simp only [go_sem, w2, a1, n21]
            by_cases hg : g = 0
            rotate_left
            · have hgE : enoB P.length seats.length = false := by
                cases he : enoB P.length seats.length
                · rfl
                · exact absurd (xP.2 he) hg
              simp only [go_sem, hg]
              refine loop Tryz.mixed 0 (fun i : Nat => [(7, .vs (seats.map i1)), (10, .vs (P.map sm)), (17, .vs (L.map i1)), (20, .int .i64 g), (23, .int .i64 i)]) (fun _ => []) (fun i => i ≤ L.length) (fun i => L.length - i) (by kernel_rfl) (Nat.zero_le _) ?_ ?_
              · simp only [go_sem]
              · intro i hi
                by_cases hlt : i < L.length
                · have h5 : (i : Int) < (L.length : Int) := by omega
                  have ch := has24 seats (el L i) (by simp only [big]; omega)
                  rw [decide_eq_true (lieS _ (el_mem hlt))] at ch
                  simp only [go_sem, h5, hlt]
                  refine call ch [] ?_
                  simp only [go_sem]
                  exact ⟨i + 1, ⟨by omega, by omega⟩, by rw [wrapI] <;> omega⟩
                · have h5 : ¬ (i : Int) < (L.length : Int) := by omega
                  have cE := renough_den P.length seats.length
                  rw [hgE] at cE
                  simp only [go_sem, h5, hg]
                  refine call cE [] ?_
                  simp only [go_sem]
                  refine ⟨Tryz.underlying4, ?_⟩
                  refine call awake28_den [] ?_
                  simp only [go_sem]
            have hgE : enoB P.length seats.length = true := xP.1 hg
            subst hg
            by_cases hh : h = 0
            rotate_left
            · simp only [go_sem, hh]
              refine loop Tryz.mixed 0 (fun i : Nat => [(7, .vs (seats.map i1)), (10, .vs (P.map sm)), (17, .vs (L.map i1)), (20, .int .i64 0), (23, .int .i64 i)]) (fun _ => []) (fun i => i ≤ L.length) (fun i => L.length - i) (by kernel_rfl) (Nat.zero_le _) ?_ ?_
              · simp only [go_sem]
              · intro i hi
                by_cases hlt : i < L.length
                · have h5 : (i : Int) < (L.length : Int) := by omega
                  have ch := has24 seats (el L i) (by simp only [big]; omega)
                  rw [decide_eq_true (lieS _ (el_mem hlt))] at ch
                  simp only [go_sem, h5, hlt]
                  refine call ch [] ?_
                  simp only [go_sem]
                  exact ⟨i + 1, ⟨by omega, by omega⟩, by rw [wrapI] <;> omega⟩
                · have h5 : ¬ (i : Int) < (L.length : Int) := by omega
                  have cE := renough_den P.length seats.length
                  rw [hgE] at cE
                  simp only [go_sem, h5]
                  refine call cE [] ?_
                  simp only [go_sem]
                  refine ⟨Tryz.underlying4, ?_⟩
                  refine call awake28_den [] ?_
                  simp only [go_sem]
            simp only [go_sem, hh]
            refine call co [] ?_
            by_cases z : ordC u v = 0
            · simp only [go_sem, z]
              refine loop Tryz.mixed 0 (fun i : Nat => [(7, .vs (seats.map i1)), (10, .vs (P.map sm)), (17, .vs (L.map i1)), (20, .int .i64 0), (23, .int .i64 i)]) (fun _ => []) (fun i => i ≤ L.length) (fun i => L.length - i) (by kernel_rfl) (Nat.zero_le _) ?_ ?_
              · simp only [go_sem]
              · intro i hi
                by_cases hlt : i < L.length
                · have h5 : (i : Int) < (L.length : Int) := by omega
                  have ch := has24 seats (el L i) (by simp only [big]; omega)
                  rw [decide_eq_true (lieS _ (el_mem hlt))] at ch
                  simp only [go_sem, h5, hlt]
                  refine call ch [] ?_
                  simp only [go_sem]
                  exact ⟨i + 1, ⟨by omega, by omega⟩, by rw [wrapI] <;> omega⟩
                · have h5 : ¬ (i : Int) < (L.length : Int) := by omega
                  have cE := renough_den P.length seats.length
                  rw [hgE] at cE
                  simp only [go_sem, h5]
                  refine call cE [] ?_
                  simp only [go_sem]
                  refine ⟨Tryz.underlying4, ?_⟩
                  refine call awake28_den [] ?_
                  simp only [go_sem]
            · have hne : u ≠ v := fun e => z ((ordC_eq _ _).2 e)
              have m1 := allP u (okP rfl).2
              have m2 := allQ v (okQ hh).2
              have m3 := lieL u v m1 m2 hne
              have m4 := two_len m1 m2 hne
              have n22 : ¬ (A.length : Int) < 2 := by omega
              simp only [go_sem, z, w2, n21, n22]
              refine loop Tryz.mixed 0 (fun i : Nat => [(7, .vs (seats.map i1)), (10, .vs (P.map sm)), (17, .vs (L.map i1)), (20, .int .i64 0), (23, .int .i64 i)]) (fun _ => []) (fun i => i ≤ L.length) (fun i => L.length - i) (by kernel_rfl) (Nat.zero_le _) ?_ ?_
              · simp only [go_sem]
              · intro i hi
                by_cases hlt : i < L.length
                · have h5 : (i : Int) < (L.length : Int) := by omega
                  have ch := has24 seats (el L i) (by simp only [big]; omega)
                  rw [decide_eq_true (lieS _ (el_mem hlt))] at ch
                  simp only [go_sem, h5, hlt]
                  refine call ch [] ?_
                  simp only [go_sem]
                  exact ⟨i + 1, ⟨by omega, by omega⟩, by rw [wrapI] <;> omega⟩
                · have h5 : ¬ (i : Int) < (L.length : Int) := by omega
                  have cE := renough_den P.length seats.length
                  rw [hgE] at cE
                  simp only [go_sem, h5]
                  refine call cE [] ?_
                  simp only [go_sem]
                  refine ⟨Tryz.underlying4, ?_⟩
                  refine call awake28_den [] ?_
                  simp only [go_sem]
          · have a1 : ¬ (1 : Int) < (A.length : Int) := by omega
            simp only [go_sem, w2, a1]
            by_cases hg : g = 0
            rotate_left
            · have hgE : enoB P.length seats.length = false := by
                cases he : enoB P.length seats.length
                · rfl
                · exact absurd (xP.2 he) hg
              simp only [go_sem, hg]
              refine loop Tryz.mixed 0 (fun i : Nat => [(7, .vs (seats.map i1)), (10, .vs (P.map sm)), (17, .vs (L.map i1)), (20, .int .i64 g), (23, .int .i64 i)]) (fun _ => []) (fun i => i ≤ L.length) (fun i => L.length - i) (by kernel_rfl) (Nat.zero_le _) ?_ ?_
              · simp only [go_sem]
              · intro i hi
                by_cases hlt : i < L.length
                · have h5 : (i : Int) < (L.length : Int) := by omega
                  have ch := has24 seats (el L i) (by simp only [big]; omega)
                  rw [decide_eq_true (lieS _ (el_mem hlt))] at ch
                  simp only [go_sem, h5, hlt]
                  refine call ch [] ?_
                  simp only [go_sem]
                  exact ⟨i + 1, ⟨by omega, by omega⟩, by rw [wrapI] <;> omega⟩
                · have h5 : ¬ (i : Int) < (L.length : Int) := by omega
                  have cE := renough_den P.length seats.length
                  rw [hgE] at cE
                  simp only [go_sem, h5, hg]
                  refine call cE [] ?_
                  simp only [go_sem]
                  refine ⟨Tryz.underlying4, ?_⟩
                  refine call awake28_den [] ?_
                  simp only [go_sem]
            have hgE : enoB P.length seats.length = true := xP.1 hg
            subst hg
            by_cases hh : h = 0
            rotate_left
            · simp only [go_sem, hh]
              refine loop Tryz.mixed 0 (fun i : Nat => [(7, .vs (seats.map i1)), (10, .vs (P.map sm)), (17, .vs (L.map i1)), (20, .int .i64 0), (23, .int .i64 i)]) (fun _ => []) (fun i => i ≤ L.length) (fun i => L.length - i) (by kernel_rfl) (Nat.zero_le _) ?_ ?_
              · simp only [go_sem]
              · intro i hi
                by_cases hlt : i < L.length
                · have h5 : (i : Int) < (L.length : Int) := by omega
                  have ch := has24 seats (el L i) (by simp only [big]; omega)
                  rw [decide_eq_true (lieS _ (el_mem hlt))] at ch
                  simp only [go_sem, h5, hlt]
                  refine call ch [] ?_
                  simp only [go_sem]
                  exact ⟨i + 1, ⟨by omega, by omega⟩, by rw [wrapI] <;> omega⟩
                · have h5 : ¬ (i : Int) < (L.length : Int) := by omega
                  have cE := renough_den P.length seats.length
                  rw [hgE] at cE
                  simp only [go_sem, h5]
                  refine call cE [] ?_
                  simp only [go_sem]
                  refine ⟨Tryz.underlying4, ?_⟩
                  refine call awake28_den [] ?_
                  simp only [go_sem]
            simp only [go_sem, hh]
            refine call co [] ?_
            by_cases z : ordC u v = 0
            · simp only [go_sem, z]
              refine loop Tryz.mixed 0 (fun i : Nat => [(7, .vs (seats.map i1)), (10, .vs (P.map sm)), (17, .vs (L.map i1)), (20, .int .i64 0), (23, .int .i64 i)]) (fun _ => []) (fun i => i ≤ L.length) (fun i => L.length - i) (by kernel_rfl) (Nat.zero_le _) ?_ ?_
              · simp only [go_sem]
              · intro i hi
                by_cases hlt : i < L.length
                · have h5 : (i : Int) < (L.length : Int) := by omega
                  have ch := has24 seats (el L i) (by simp only [big]; omega)
                  rw [decide_eq_true (lieS _ (el_mem hlt))] at ch
                  simp only [go_sem, h5, hlt]
                  refine call ch [] ?_
                  simp only [go_sem]
                  exact ⟨i + 1, ⟨by omega, by omega⟩, by rw [wrapI] <;> omega⟩
                · have h5 : ¬ (i : Int) < (L.length : Int) := by omega
                  have cE := renough_den P.length seats.length
                  rw [hgE] at cE
                  simp only [go_sem, h5]
                  refine call cE [] ?_
                  simp only [go_sem]
                  refine ⟨Tryz.underlying4, ?_⟩
                  refine call awake28_den [] ?_
                  simp only [go_sem]
            · have hne : u ≠ v := fun e => z ((ordC_eq _ _).2 e)
              have m1 := allP u (okP rfl).2
              have m2 := allQ v (okQ hh).2
              have m3 := lieL u v m1 m2 hne
              have m4 := two_len m1 m2 hne
              exact absurd m4 (by omega)
    · simp only [go_sem]
    · simp only [go_sem]
  · simp only [go_sem]
  · simp only [go_sem]
end Go.Proofs.Am

/- DecisionStays, walked. -/
namespace Go.Proofs.Am
open Go Go.RowKit
open Go.Proofs

theorem turnS_has {l : List Stm} {n : Int} {s : Stm} (h : s ∈ l) : s ∈ turnS l n := by
  obtain ⟨j, hj, rfl⟩ := mem_el h
  have h0 : 0 < l.length := by omega
  have hm := mmod_lt (n := n) (m := l.length) (by omega)
  obtain ⟨m, hmm⟩ : ∃ m : Nat, mmod n l.length = (m : Int) := ⟨(mmod n l.length).toNat, by omega⟩
  have hm2 : m < l.length := by omega
  unfold turnS
  rw [List.mem_map]
  refine ⟨(j + (l.length - m)) % l.length, List.mem_range.2 (Nat.mod_lt _ h0), ?_⟩
  rw [hmm, Int.toNat_natCast, Nat.mod_add_mod, show j + (l.length - m) + m = j + l.length by omega, Nat.add_mod_right, Nat.mod_eq_of_lt hj]
theorem certX_one {l : List Stm} {c : Cs} {seats : List Int} (h : ckS c seats = 0) (h1 : (allV seats (votesL l c)).length = 1) : certX l c seats = (c, certL l c (oneC (allV seats (votesL l c))) seats, 0) := by
  unfold certX
  rw [if_neg (by simp [h]), if_pos h1]
theorem certX_no {l : List Stm} {c : Cs} {seats : List Int} (h : ckS c seats = 0) (h1 : ¬ (allV seats (votesL l c)).length = 1) : certX l c seats = (noCs, [], 11) := by
  unfold certX
  rw [if_neg (by simp [h]), if_neg h1]
theorem oneC_mem {A : List Ct} (h : A.length = 1) : oneC A ∈ A ∧ oneC A = el A 0 := by
  have e : oneC A = el A 0 := by rw [oneC, if_pos h]
  exact ⟨by rw [e]; exact el_mem (by omega), e⟩
/-- The certificate of what was decided is accepted. -/
theorem certX_chk {l : List Stm} {c : Cs} {seats : List Int} (h : ckS c seats = 0) (h1 : (allV seats (votesL l c)).length = 1) : chkX c (certL l c (oneC (allV seats (votesL l c))) seats) seats = (oneC (allV seats (votesL l c)), 0) :=
  chkX_of h (cert_chk (ckS_zero h).2.2.2 (oneC_mem h1).1)
theorem certL_big {l : List Stm} {c : Cs} {x : Ct} {seats : List Int} (hs : ∀ k ∈ seats, 0 ≤ k ∧ k < 64) (h : ∀ s ∈ l, bigS s) : ∀ s ∈ certL l c x seats, bigS s := fun s hs' => h s (certL_mem hs hs').1
theorem certL_le {l : List Stm} {c : Cs} {x : Ct} {seats : List Int} : (certL l c x seats).length ≤ l.length := by
  unfold certL kpf
  have h1 := kp_len (fun a b : Stm => decide (a.au = b.au)) (insL ltS (l.filter (forX c x seats))) (insL ltS (l.filter (forX c x seats))).length
  have h2 := insL_len woS (l.filter (forX c x seats))
  have h3 := List.length_filter_le (forX c x seats) l
  omega
theorem sortF_den (l : List Stm) (c : Cs) (x : Ct) (seats : List Int) (h : l.length < 20) :
    Den Tryz.prog 91 [.os 1000000 (l.filter (forX c x seats)).length, .fn 92 []] [.arr 44 13 false ((l.filter (forX c x seats)).map sm)] (.tup []) [] [.arr 44 13 false ((insL ltS (l.filter (forX c x seats))).map sm)] :=
  sortS1_den _ _ rfl (by have := List.length_filter_le (forX c x seats) l; omega)

set_option maxHeartbeats 1000000 in
set_option maxRecDepth 100000 in
theorem stays28_den (l : List Int) (turn : Int) : Den Tryz.prog 6 [.vs (l.map i1), .int .i64 turn] [] (.bool true) [] [] := by
  refine den_of Tryz.mixed Tryz.func6 rfl Tryz.call6 Tryz.ntmps6 (congrArg Array.toList Tryz.results6) (by simp) (by kernel_rfl) [] (exts := []) rfl rfl ?_
  by_cases h0 : l.length ≤ 400
  rotate_left
  · simp only [go_sem]
    refine call (light_den l) [] ?_
    simp only [go_sem, h0]
    refine call awake28_den [] ?_
    simp only [go_sem]
  have hl : big l.length := by simp only [big]; omega
  simp only [go_sem]
  refine call (light_den l) [] ?_
  simp only [go_sem, h0]
  refine call (roll9 l) [] ?_
  have m1 := mcase_le (Nat.zero_le l.length) 0
  have cm1 := mcase_den l 0 0 hl (Nat.zero_le _)
  have hcV := mcase_ok l 0 (ep := 0) ⟨by omega, by omega⟩
  generalize mcase l 0 0 = M1 at *
  obtain ⟨c, q2⟩ := M1
  simp only at m1 cm1 hcV
  have n1 := dkpos_le2 l 7 q2 m1
  have n2 := dkeys_max l (n := 7) (by omega) q2
  have n3 := dkeys_in l (n := 7) (by omega) q2
  have n4 := ckS_mill l (n := 7) (by omega) (by omega) q2 hcV
  have ck := keys_den l q2 7 hl m1 (by omega)
  generalize dkpos l 7 q2 = q3 at *
  generalize dkeys l 7 q2 = seats at *
  have cA := most_den l q3 c seats hl n1 (by omega)
  have pA := mostP_le n1 c seats
  have okA := mostGo_ok (l := l) (c := c) (seats := seats) (p := (mcont l q3 c).2) (mcont_ok l q3 c) seats.length
  have lnA := mostGo_len (l := l) (c := c) (x := (mcont l q3 c).1) (seats := seats) (p := (mcont l q3 c).2) seats.length
  have hA : mostGo l c (mcont l q3 c).1 seats (mcont l q3 c).2 seats.length = mostX l q3 c seats := rfl
  rw [hA] at okA lnA
  clear hA
  generalize (mostX l q3 c seats).2 = a at *
  generalize mostP l q3 c seats = q4 at *
  have u2 := mvotes_len l q4 c seats
  have u3 := mvotes_okS l q4 c seats
  have cv := votes_den l q4 c seats hl pA (by omega)
  generalize mvotes l q4 c seats = V at *
  obtain ⟨more, q5⟩ := V
  simp only at u2 u3 cv
  have gA : ∀ s ∈ a, bigS s := fun s hs => (okA s hs).big
  have gT : ∀ s ∈ turnS (a ++ more) turn, bigS s := fun s hs => by
    rcases List.mem_append.1 (turnS_mem hs) with h | h
    · exact gA s h
    · exact (u3 s h).big
  have tl : (turnS (a ++ more) turn).length = a.length + more.length := by simp [turnS]
  have ctu := mturn_den (a ++ more) turn (by simp; omega)
  have dA := all_den a c seats (by omega) gA (by omega)
  have dB := all_den (turnS (a ++ more) turn) c seats (by omega) gT (by omega)
  have dC := dcert_den a c seats (by omega) gA (by omega) fun x _ => sortF_den a c x seats (by omega)
  rw [n4, if_pos rfl] at dA dB
  have sub : ∀ x, x ∈ allV seats (votesL a c) → x ∈ allV seats (votesL (turnS (a ++ more) turn) c) := fun x hx => all_more (fun s hs => turnS_has (List.mem_append.2 (.inl hs))) hx
  have oX := allV_ok (seats := seats) (l := a) (c := c)
  have oZ := allV_ok (seats := seats) (l := turnS (a ++ more) turn) (c := c)
  have lX := allV_len (seats := seats) (l := a) (c := c)
  have lZ := allV_len (seats := seats) (l := turnS (a ++ more) turn) (c := c)
  have k0 : ∀ k ∈ seats, 0 ≤ k ∧ k < 64 := fun k hk => by have := n3 k hk; omega
  have kc := fun x => dCheck_den c (certL a c x seats) seats (by have := certL_le (l := a) (c := c) (x := x) (seats := seats); omega) (certL_big k0 gA) (by omega)
  have c1 := certX_one (l := a) n4
  have c0 := certX_no (l := a) n4
  have cX := certX_chk (l := a) n4
  have o1 := oneC_mem (A := allV seats (votesL a c))
  have oB := oneC_big (seats := seats) (l := a) (c := c)
  generalize certX a c seats = r at *
  generalize turnS (a ++ more) turn = tu at *
  generalize allV seats (votesL a c) = X at *
  generalize allV seats (votesL tu c) = Z at *
  rw [cs_eq] at cm1 cA cv dA dB dC
  simp only [go_sem]
  refine call cm1 [26] ?_
  simp only [go_sem]
  refine call ck [26] ?_
  simp only [go_sem]
  refine call cA [26] ?_
  simp only [go_sem]
  refine call cv [26] ?_
  simp only [go_sem]
  refine ⟨okD_of (by kernel_rfl), ?_⟩
  refine call dA [] ?_
  simp only [go_sem]
  (repeat refine And.intro (by first | omega | exact okD_of (by kernel_rfl)) ?_)
  rw [← List.map_append, ← List.length_append]
  refine call ctu [] ?_
  simp only [go_sem]
  refine call dB [] ?_
  simp only [go_sem]
  refine ⟨okD_of (by kernel_rfl), ?_⟩
  refine call dC [] ?_
  obtain ⟨C, L, g⟩ := r
  simp only [go_sem, ce_eq]
  have hg : (X.length = 1 ∧ C = c ∧ L = certL a c (oneC X) seats ∧ g = 0) ∨ (¬ X.length = 1 ∧ g = 11) := by
    by_cases h1 : X.length = 1
    · have := c1 h1
      simp only [Prod.mk.injEq] at this
      exact .inl ⟨h1, this.1, this.2.1, this.2.2⟩
    · have := c0 h1
      simp only [Prod.mk.injEq] at this
      exact .inr ⟨h1, this.2.2⟩
  have hd : decide (g = 0) = decide ((X.length : Int) = 1) := by
    rcases hg with ⟨h1, _, _, h2⟩ | ⟨h1, h2⟩
    · rw [decide_eq_true h2, decide_eq_true (by omega)]
    · rw [decide_eq_false (by omega), decide_eq_false (by omega)]
  refine ⟨Tryz.underlying4, fun h => absurd hd h, fun _ => ?_⟩
  refine loop Tryz.mixed 0 (fun i : Nat => [(7, .vs (seats.map i1)), (10, .vs (X.map ct)), (12, .vs (Z.map ct)), (14, .ptr 14 0), (15, .int .i64 g), (16, .int .i64 i)]) (fun _ => [(14, .cells [.int .i64 C.ep, .int .i64 C.kd, .int .i64 C.su, .int .i64 C.ro, .vs (L.map sm)])]) (fun i => i ≤ X.length) (fun i => X.length - i) (by kernel_rfl) (Nat.zero_le _) ?_ ?_
  · simp only [go_sem]
  · intro i hi
    by_cases hlt : i < X.length
    · have h1 : (i : Int) < (X.length : Int) := by omega
      have hmem := sub _ (el_mem hlt)
      have q1 := oX _ (el_mem hlt)
      simp only [go_sem, h1]
      refine loop Tryz.mixed (0, false) (fun s : Nat × Bool => [(7, .vs (seats.map i1)), (10, .vs (X.map ct)), (12, .vs (Z.map ct)), (14, .ptr 14 0), (15, .int .i64 g), (16, .int .i64 i), (17, .bool s.2), (18, .int .i64 s.1)]) (fun _ => [(14, .cells [.int .i64 C.ep, .int .i64 C.kd, .int .i64 C.su, .int .i64 C.ro, .vs (L.map sm)])]) (fun s => s.1 ≤ Z.length ∧ (s.2 = true ↔ ∃ j, j < s.1 ∧ el Z j = el X i)) (fun s => Z.length - s.1) (by kernel_rfl) ⟨Nat.zero_le _, by simp⟩ ?_ ?_
      · simp only [go_sem]
      · rintro ⟨k, f⟩ ⟨hk, hf⟩
        simp only at hk hf
        by_cases hkl : k < Z.length
        · have h2 : (k : Int) < (Z.length : Int) := by omega
          have q2 := oZ _ (el_mem hkl)
          cases f with
          | true =>
            obtain ⟨j, hj, e⟩ := hf.1 rfl
            simp only [go_sem, h2]
            exact ⟨okD_of (by kernel_rfl), (k + 1, true), ⟨⟨by simp only; omega, ⟨fun _ => ⟨j, by simp only; omega, e⟩, fun _ => rfl⟩⟩, by simp only; omega⟩, rfl, by simp only; rw [wrapI] <;> omega⟩
          | false =>
            have hno : ¬ ∃ j, j < k ∧ el Z j = el X i := fun h => by have := hf.2 h; cases this
            simp only [go_sem, h2, hlt, hkl]
            refine call (order23_den (el X i) (el Z k) q1.1 q1.2 q2.1 q2.2) [] ?_
            by_cases z : ordC (el X i) (el Z k) = 0
            · have z2 := (ordC_eq _ _).1 z
              simp only [go_sem, z]
              exact ⟨okD_of (by kernel_rfl), (k + 1, true), ⟨⟨by simp only; omega, ⟨fun _ => ⟨k, by simp, z2.symm⟩, fun _ => rfl⟩⟩, by simp only; omega⟩, rfl, by simp only; rw [wrapI] <;> omega⟩
            · have z2 : ¬ el Z k = el X i := fun e => z ((ordC_eq _ _).2 e.symm)
              simp only [go_sem, z]
              refine ⟨okD_of (by kernel_rfl), (k + 1, false), ⟨⟨by simp only; omega, ⟨fun h => by simp at h, ?_⟩⟩, by simp only; omega⟩, rfl, by simp only; rw [wrapI] <;> omega⟩
              rintro ⟨j, hj, e⟩
              rcases Nat.lt_succ_iff_lt_or_eq.1 hj with h | rfl
              · exact absurd ⟨j, h, e⟩ hno
              · exact absurd e z2
        · have h2 : ¬ (k : Int) < (Z.length : Int) := by omega
          have hf1 : f = true := hf.2 (by
            obtain ⟨j, hj, e⟩ := mem_el hmem
            exact ⟨j, by omega, e.symm⟩)
          subst hf1
          simp only [go_sem, h2]
          exact ⟨i + 1, ⟨by omega, by omega⟩, by rw [wrapI] <;> omega⟩
    · have h1 : ¬ (i : Int) < (X.length : Int) := by omega
      rcases hg with ⟨g1, rfl, rfl, rfl⟩ | ⟨g1, rfl⟩
      · have c2 := kc (oneC X)
        have e1 := cX g1
        rw [e1, ce_eq] at c2
        have e2 := (o1 g1).2
        have h3 : 0 < X.length := by omega
        rw [e2] at c2 oB
        have co := order23_den (el X 0) (el X 0) oB.1 oB.2 oB.1 oB.2
        rw [(ordC_eq _ _).2 rfl] at co
        rw [e2]
        simp only [go_sem, h1]
        refine call c2 [] ?_
        simp only [go_sem, h3]
        refine ⟨by omega, ?_⟩
        refine call co [] ?_
        simp only [go_sem]
        refine call awake28_den [] ?_
        simp only [go_sem]
        exact okD_of (by kernel_rfl)
      · simp only [go_sem, h1]
        refine call awake28_den [] ?_
        simp only [go_sem]
end Go.Proofs.Am

/- Liars in the minority: plain laws. -/
namespace Go.Proofs.Am
open Go Go.RowKit
open Go.Proofs

/-- Votes of seats, some of which vote twice. -/
structure MiS where
  r : Nat
  S : List Stm
  T : List Int
def miStep (l : List Int) (c : Cs) (x y : Ct) (n : Nat) (k : Int) (s : MiS) : MiS :=
  if 2 * (s.T.length + 1) ≤ n then
    if dnext l s.r 2 = 1 then ⟨dgo l s.r 1, s.S ++ [vt k 0 c x, vt k 1 c y], s.T ++ [k]⟩
    else if dnext l (dgo l s.r 1) 3 = 2 then ⟨dgo l s.r 2, s.S ++ [vt k 0 c y], s.T⟩
    else ⟨dgo l s.r 2, s.S ++ [vt k 0 c x], s.T⟩
  else if dnext l s.r 3 = 2 then ⟨dgo l s.r 1, s.S ++ [vt k 0 c y], s.T⟩
  else ⟨dgo l s.r 1, s.S ++ [vt k 0 c x], s.T⟩
def miGo (l : List Int) (c : Cs) (x y : Ct) (seats : List Int) (p : Nat) : Nat → MiS
  | 0 => ⟨p, [], []⟩
  | i + 1 => miStep l c x y seats.length (el seats i) (miGo l c x y seats p i)
/-- A key that has voted for two contents is one of those that are told. -/
structure MiI (l : List Int) (c : Cs) (seats : List Int) (i : Nat) (s : MiS) : Prop where
  r : s.r ≤ l.length
  len : s.S.length ≤ 2 * i
  ok : ∀ t ∈ s.S, okS t ∧ t.au ∈ seats.take i
  two : ∀ t ∈ s.S, ∀ u ∈ s.S, t.au = u.au → (voteE t).1.x = (voteE u).1.x ∨ t.au ∈ s.T
  half : 2 * s.T.length ≤ seats.length
theorem mem_take_lt {seats : List Int} (hn : seats.Nodup) {i : Nat} (hi : i < seats.length) : el seats i ∉ seats.take i := fun h => by
  obtain ⟨j, hj, e⟩ := List.mem_iff_getElem.1 h
  have hj' : j < i := by simp at hj; omega
  rw [List.getElem_take] at e
  have e2 : el seats i = seats[i] := by simp [el, List.getD_eq_getElem?_getD, hi]
  rw [e2] at e
  exact List.pairwise_iff_getElem.1 hn j i (by omega) hi hj' e
theorem MiI.add1 {l : List Int} {c : Cs} {seats : List Int} {i : Nat} {s : MiS} (h : MiI l c seats i s) (hn : seats.Nodup) (hi : i < seats.length) {nu : Int} {x : Ct} (hx : okCt x) {r : Nat} (hr : r ≤ l.length) : MiI l c seats (i + 1) ⟨r, s.S ++ [vt (el seats i) nu c x], s.T⟩ := by
  have ht := take_el hi
  have hnot := mem_take_lt hn hi
  refine ⟨hr, by simp; have := h.len; omega, fun t hm => ?_, fun t hm u hm' e => ?_, h.half⟩
  · rcases List.mem_append.1 hm with hm | hm
    · obtain ⟨h1, h2⟩ := h.ok t hm
      exact ⟨h1, by rw [ht]; simp [h2]⟩
    · rw [List.mem_singleton] at hm
      subst hm
      exact ⟨vt_okS _ _ _ hx, by rw [ht]; exact List.mem_append.2 (.inr (by simp [show (vt (el seats i) nu c x).au = el seats i from rfl]))⟩
  · rcases List.mem_append.1 hm with hm | hm <;> rcases List.mem_append.1 hm' with hm' | hm'
    · exact h.two t hm u hm' e
    · rw [List.mem_singleton] at hm'
      subst hm'
      exact absurd (by have := (h.ok t hm).2; rw [e] at this; exact this) hnot
    · rw [List.mem_singleton] at hm
      subst hm
      exact absurd (by have := (h.ok u hm').2; rw [← e] at this; exact this) hnot
    · rw [List.mem_singleton] at hm hm'
      subst hm hm'
      exact .inl rfl
theorem MiI.add2 {l : List Int} {c : Cs} {seats : List Int} {i : Nat} {s : MiS} (h : MiI l c seats i s) (hn : seats.Nodup) (hi : i < seats.length) {n1 n2 : Int} {x y : Ct} (hx : okCt x) (hy : okCt y) {r : Nat} (hr : r ≤ l.length) (hh : 2 * (s.T.length + 1) ≤ seats.length) : MiI l c seats (i + 1) ⟨r, s.S ++ [vt (el seats i) n1 c x, vt (el seats i) n2 c y], s.T ++ [el seats i]⟩ := by
  have ht := take_el hi
  have hnot := mem_take_lt hn hi
  have new : ∀ t ∈ [vt (el seats i) n1 c x, vt (el seats i) n2 c y], okS t ∧ t.au = el seats i := fun t hm => by
    rcases List.mem_cons.1 hm with rfl | hm
    · exact ⟨vt_okS _ _ _ hx, rfl⟩
    · rw [List.mem_singleton] at hm; subst hm; exact ⟨vt_okS _ _ _ hy, rfl⟩
  refine ⟨hr, by simp; have := h.len; omega, fun t hm => ?_, fun t hm u hm' e => ?_, by simp only [List.length_append, List.length_singleton]; exact hh⟩
  · rcases List.mem_append.1 hm with hm | hm
    · obtain ⟨h1, h2⟩ := h.ok t hm
      exact ⟨h1, by rw [ht]; simp [h2]⟩
    · obtain ⟨h1, h2⟩ := new t hm
      exact ⟨h1, by rw [ht, h2]; simp⟩
  · rcases List.mem_append.1 hm with hm | hm
    · rcases List.mem_append.1 hm' with hm' | hm'
      · rcases h.two t hm u hm' e with h1 | h1
        · exact .inl h1
        · exact .inr (by simp [h1])
      · exact .inr (by rw [e, (new u hm').2]; simp)
    · exact .inr (by rw [(new t hm).2]; simp)
theorem miGo_inv {l : List Int} {c : Cs} {x y : Ct} {seats : List Int} {p : Nat} (hp : p ≤ l.length) (hn : seats.Nodup) (hx : okCt x) (hy : okCt y) : ∀ i, i ≤ seats.length → MiI l c seats i (miGo l c x y seats p i)
  | 0, _ => ⟨hp, Nat.le_refl _, by simp [miGo], by simp [miGo], by simp [miGo]⟩
  | i + 1, hi => by
    have h := miGo_inv (c := c) hp hn hx hy i (by omega)
    show MiI l c seats (i + 1) (miStep l c x y seats.length (el seats i) (miGo l c x y seats p i))
    generalize miGo l c x y seats p i = s at *
    unfold miStep
    split
    · rename_i hh
      split
      · exact h.add2 hn (by omega) hx hy (dgo_le h.r _) hh
      · split
        · exact h.add1 hn (by omega) hy (dgo_le h.r _)
        · exact h.add1 hn (by omega) hx (dgo_le h.r _)
    · split
      · exact h.add1 hn (by omega) hy (dgo_le h.r _)
      · exact h.add1 hn (by omega) hx (dgo_le h.r _)
/-- At most half of the seats are liars. -/
theorem mi_lie {l : List Int} {c : Cs} {seats : List Int} {i : Nat} {s : MiS} (h : MiI l c seats i s) : 2 * (lieV seats (votesL s.S c)).length ≤ seats.length := by
  have h1 : (lieV seats (votesL s.S c)).length ≤ s.T.length := by
    refine len_sub (List.Pairwise.filter _ ((twR_asc _).imp fun h => by omega)) fun k hk => ?_
    have hk := (List.mem_filter.1 hk).1
    rw [twR, twI_mem] at hk
    obtain ⟨a, b, hba, ha, e1, e2, e3⟩ := hk
    obtain ⟨t, t1, t2, t3⟩ := mem_votesL.1 (el_mem ha)
    obtain ⟨u, u1, u2, u3⟩ := mem_votesL.1 (el_mem (by omega : b < (votesL s.S c).length))
    have f1 := okV_k t2
    have f2 := okV_k u2
    rw [t3, e1] at f1
    rw [u3, e2] at f2
    rcases h.two t t1 u u1 (f1.symm.trans f2) with h2 | h2
    · rw [t3, u3] at h2
      exact absurd h2 e3
    · rw [f1]; exact h2
  have := h.half
  omega
/-- What two people hold. -/
def soGo (l : List Int) (S : List Stm) (p : Nat) : Nat → Nat × List Stm × List Stm
  | 0 => (p, [], [])
  | i + 1 => (dgo l (soGo l S p i).1 2,
      (soGo l S p i).2.1 ++ (if dnext l (soGo l S p i).1 5 = 4 then [] else [el S i]),
      (soGo l S p i).2.2 ++ (if dnext l (dgo l (soGo l S p i).1 1) 5 = 4 then [] else [el S i]))
theorem soGo_le {l : List Int} {S : List Stm} {p : Nat} (hp : p ≤ l.length) : ∀ i, (soGo l S p i).1 ≤ l.length
  | 0 => hp
  | i + 1 => dgo_le (soGo_le hp i) 2
theorem soGo_in {l : List Int} {S : List Stm} {p : Nat} : ∀ i, i ≤ S.length → (∀ s ∈ (soGo l S p i).2.1, s ∈ S) ∧ (∀ s ∈ (soGo l S p i).2.2, s ∈ S) ∧ (soGo l S p i).2.1.length ≤ i ∧ (soGo l S p i).2.2.length ≤ i
  | 0, _ => by simp [soGo]
  | i + 1, hi => by
    obtain ⟨h1, h2, h3, h4⟩ := soGo_in (l := l) (S := S) (p := p) i (by omega)
    have hm : el S i ∈ S := el_mem (by omega)
    simp only [soGo]
    refine ⟨fun s hs => ?_, fun s hs => ?_, ?_, ?_⟩
    · rcases List.mem_append.1 hs with hs | hs
      · exact h1 s hs
      · split at hs
        · simp at hs
        · rw [List.mem_singleton] at hs; subst hs; exact hm
    · rcases List.mem_append.1 hs with hs | hs
      · exact h2 s hs
      · split at hs
        · simp at hs
        · rw [List.mem_singleton] at hs; subst hs; exact hm
    · rw [List.length_append]; split <;> simp <;> omega
    · rw [List.length_append]; split <;> simp <;> omega
theorem certX_err {l : List Stm} {c : Cs} {seats : List Int} (h : ckS c seats = 0) : (certX l c seats).2.2 = 0 ∨ (certX l c seats).2.2 = 11 := by
  by_cases h1 : (allV seats (votesL l c)).length = 1
  · rw [certX_one h h1]; exact .inl rfl
  · rw [certX_no h h1]; exact .inr rfl
theorem certX_right {l : List Stm} {c : Cs} {seats : List Int} (h : ckS c seats = 0) (h1 : (certX l c seats).2.2 = 0) : ∃ x, certX l c seats = (c, certL l c x seats, 0) ∧ ChkP c (certL l c x seats) seats x := by
  by_cases h2 : (allV seats (votesL l c)).length = 1
  · exact ⟨_, certX_one h h2, cert_chk (ckS_zero h).2.2.2 (oneC_mem h2).1⟩
  · rw [certX_no h h2] at h1
    cases h1
theorem certX_parts {l : List Stm} {c : Cs} {seats : List Int} (h : ckS c seats = 0) (hs : ∀ s ∈ l, bigS s) : (∀ s ∈ (certX l c seats).2.1, bigS s) ∧ (certX l c seats).2.1.length ≤ l.length := by
  by_cases h1 : (allV seats (votesL l c)).length = 1
  · rw [certX_one h h1]
    exact ⟨certL_big (ckS_zero h).2.2.2 hs, certL_le⟩
  · rw [certX_no h h1]
    simp
/-- Certificates of what two people have say the same. -/
theorem certX_same {a b L : List Stm} {c : Cs} {seats : List Int} (h : ckS c seats = 0) (ha : ∀ s ∈ a, s ∈ L) (hb : ∀ s ∈ b, s ∈ L) (hl : 2 * (lieV seats (votesL L c)).length ≤ seats.length) (e1 : (certX a c seats).2.2 = 0) (e2 : (certX b c seats).2.2 = 0) :
    ∃ x, chkX (certX a c seats).1 (certX a c seats).2.1 seats = (x, 0) ∧ chkX (certX b c seats).1 (certX b c seats).2.1 seats = (x, 0) := by
  obtain ⟨x, h1, h2⟩ := certX_right h e1
  obtain ⟨y, h3, h4⟩ := certX_right h e2
  have k0 := (ckS_zero h).2.2.2
  have := cert_same h2 h4 (fun s hs => ha s (certL_mem k0 hs).1) (fun s hs => hb s (certL_mem k0 hs).1) hl
  subst this
  rw [h1, h3]
  exact ⟨x, chkX_of h h2, chkX_of h h4⟩
end Go.Proofs.Am

/- DecisionMinority, walked. -/
namespace Go.Proofs.Am
open Go Go.RowKit
open Go.Proofs

set_option maxHeartbeats 1000000 in
set_option maxRecDepth 100000 in
theorem minority28_den (l : List Int) : Den Tryz.prog 7 [.vs (l.map i1)] [] (.bool true) [] [] := by
  refine den_of Tryz.mixed Tryz.func7 rfl Tryz.call7 Tryz.ntmps7 (congrArg Array.toList Tryz.results7) (by simp) (by kernel_rfl) [] (exts := []) rfl rfl ?_
  by_cases h0 : l.length ≤ 400
  rotate_left
  · simp only [go_sem]
    refine call (light_den l) [] ?_
    simp only [go_sem, h0]
    refine call awake28_den [] ?_
    simp only [go_sem]
  have hl : big l.length := by simp only [big]; omega
  simp only [go_sem]
  refine call (light_den l) [] ?_
  simp only [go_sem, h0]
  refine call (roll9 l) [] ?_
  have m1 := mcase_le (Nat.zero_le l.length) 0
  have cm1 := mcase_den l 0 0 hl (Nat.zero_le _)
  have hcV := mcase_ok l 0 (ep := 0) ⟨by omega, by omega⟩
  generalize mcase l 0 0 = M1 at *
  obtain ⟨c, q2⟩ := M1
  simp only at m1 cm1 hcV
  have n1 := dkpos_le2 l 8 q2 m1
  have n2 := dkeys_max l (n := 8) (by omega) q2
  have n3 := dkeys_in l (n := 8) (by omega) q2
  have n4 := ckS_mill l (n := 8) (by omega) (by omega) q2 hcV
  have n5 := dkeys_asc l 8 q2
  have ck := keys_den l q2 8 hl m1 (by omega)
  generalize dkpos l 8 q2 = q3 at *
  generalize dkeys l 8 q2 = seats at *
  have cx := content_den l q3 c hl n1
  have ox := mcont_ok l q3 c
  have px := mcont_le n1 c
  generalize mcont l q3 c = X at *
  obtain ⟨x, q4⟩ := X
  simp only at cx ox px
  have cy := content_den l q4 c hl px
  have oy := mcont_ok l q4 c
  have py := mcont_le px c
  generalize mcont l q4 c = Y at *
  obtain ⟨y, q5⟩ := Y
  simp only at cy oy py
  have hnd : seats.Nodup := n5.imp fun h => by omega
  have cvx := fun k nu => vote_den k nu c x ox
  have cvy := fun k nu => vote_den k nu c y oy
  have inv := fun i hi => miGo_inv (c := c) py hnd ox oy i hi
  have gst : ∀ i, miGo l c x y seats q5 (i + 1) = miStep l c x y seats.length (el seats i) (miGo l c x y seats q5 i) := fun _ => rfl
  have k0 : ∀ k ∈ seats, 0 ≤ k ∧ k < 64 := fun k hk => by have := n3 k hk; omega
  rw [cs_eq] at cm1 cx cy
  simp only [go_sem]
  refine call cm1 [27] ?_
  simp only [go_sem]
  refine call ck [27] ?_
  simp only [go_sem]
  refine call cx [27] ?_
  simp only [go_sem]
  refine call cy [27] ?_
  simp only [go_sem]
  refine ⟨okD_of (by kernel_rfl), ?_⟩
  refine promote 6 210 44 13 false ?_ ?_ ?_ (by omega)
  · refine loop Tryz.mixed 0 (fun i : Nat => [(3, .ptr 27 0), (4, .ptr 4 0), (5, .vs (seats.map i1)), (6, .os 210 (miGo l c x y seats q5 i).S.length), (7, .int .i64 (miGo l c x y seats q5 i).T.length), (8, .ptr 8 0), (9, .ptr 9 0), (10, .int .i64 i)]) (fun i => [(27, dbox l (miGo l c x y seats q5 i).r), (4, .cells [.int .i64 c.ep, .int .i64 c.kd, .int .i64 c.su, .int .i64 c.ro]), (8, .cells [.vs (x.li.map i1), .vs (x.pi.map pn)]), (9, .cells [.vs (y.li.map i1), .vs (y.pi.map pn)]), (210, .arr 44 13 false ((miGo l c x y seats q5 i).S.map sm))]) (fun i => i ≤ seats.length) (fun i => seats.length - i) (by kernel_rfl) (Nat.zero_le _) ?_ ?_
    · simp only [go_sem, miGo, List.map_nil, List.length_nil, ct_eq]
    · intro i hi
      have iv := inv i hi
      by_cases hlt : i < seats.length
      · have h1 : (i : Int) < (seats.length : Int) := by omega
        have hst := gst i
        generalize miGo l c x y seats q5 i = S at *
        obtain ⟨r, S, T⟩ := S
        have hr := iv.r
        have hsl := iv.len
        have hhalf := iv.half
        simp only [miStep] at hst hr hsl hhalf
        have w1 : IntKind.i64.wrap ((T.length : Int) + 1) = ((T.length + 1 : Nat) : Int) := by rw [wrapI] <;> omega
        have w2 : IntKind.i64.wrap (2 * ((T.length + 1 : Nat) : Int)) = ((2 * (T.length + 1) : Nat) : Int) := by rw [wrapI] <;> omega
        have hr1 := dgo_le hr 1
        have e0 : ∀ p, dpos l p = dgo l p 1 := fun _ => rfl
        have cx0 := cvx (el seats i) 0
        have cy0 := cvy (el seats i) 0
        have cy1 := cvy (el seats i) 1
        rw [cs_eq, ct_eq] at cx0 cy0 cy1
        by_cases hh : 2 * (T.length + 1) ≤ seats.length
        · have g1 : ((2 * (T.length + 1) : Nat) : Int) ≤ (seats.length : Int) := by omega
          rw [if_pos hh] at hst
          simp only [go_sem, h1, w1, w2, g1]
          refine call (one_den l r 2 hl hr (by omega) (by omega)) [27] ?_
          cases hb : decide (dnext l r 2 = 2 - 1)
          · have hc : ¬ dnext l r 2 = 1 := of_decide_eq_false hb
            rw [if_neg hc] at hst
            simp only [go_sem, e0]
            refine call (one_den l (dgo l r 1) 3 hl hr1 (by omega) (by omega)) [27] ?_
            cases hb3 : decide (dnext l (dgo l r 1) 3 = 3 - 1)
            · have hc : ¬ dnext l (dgo l r 1) 3 = 2 := of_decide_eq_false hb3
              rw [if_neg hc] at hst
              generalize vt (el seats i) 0 c x = s at *
              simp only [go_sem, hlt, dgo_succ]
              refine call cx0 [] ?_
              simp only [go_sem]
              refine ⟨by omega, okD_of (by kernel_rfl), i + 1, ⟨by omega, by omega⟩, ?_⟩
              rw [hst]
              exact ⟨⟨by simp, rfl, by rw [wrapI] <;> omega⟩, rfl, by simp [sm]⟩
            · have hc : dnext l (dgo l r 1) 3 = 2 := of_decide_eq_true hb3
              rw [if_pos hc] at hst
              generalize vt (el seats i) 0 c y = s at *
              simp only [go_sem, hlt, dgo_succ]
              refine call cy0 [] ?_
              simp only [go_sem]
              refine ⟨by omega, okD_of (by kernel_rfl), i + 1, ⟨by omega, by omega⟩, ?_⟩
              rw [hst]
              exact ⟨⟨by simp, rfl, by rw [wrapI] <;> omega⟩, rfl, by simp [sm]⟩
          · have hc : dnext l r 2 = 1 := of_decide_eq_true hb
            rw [if_pos hc] at hst
            generalize vt (el seats i) 0 c x = s at *
            generalize vt (el seats i) 1 c y = t at *
            simp only [go_sem, hlt, e0, w1]
            refine call cx0 [] ?_
            simp only [go_sem, hlt]
            refine call cy1 [] ?_
            simp only [go_sem]
            refine ⟨by omega, okD_of (by kernel_rfl), i + 1, ⟨by omega, by omega⟩, ?_⟩
            rw [hst]
            exact ⟨⟨by simp, by simp, by rw [wrapI] <;> omega⟩, rfl, by simp [sm]⟩
        · have g1 : ¬ ((2 * (T.length + 1) : Nat) : Int) ≤ (seats.length : Int) := by omega
          rw [if_neg hh] at hst
          simp only [go_sem, h1, w1, w2, g1]
          refine call (one_den l r 3 hl hr (by omega) (by omega)) [27] ?_
          cases hb3 : decide (dnext l r 3 = 3 - 1)
          · have hc : ¬ dnext l r 3 = 2 := of_decide_eq_false hb3
            rw [if_neg hc] at hst
            generalize vt (el seats i) 0 c x = s at *
            simp only [go_sem, hlt, e0]
            refine call cx0 [] ?_
            simp only [go_sem]
            refine ⟨by omega, okD_of (by kernel_rfl), i + 1, ⟨by omega, by omega⟩, ?_⟩
            rw [hst]
            exact ⟨⟨by simp, rfl, by rw [wrapI] <;> omega⟩, rfl, by simp [sm]⟩
          · have hc : dnext l r 3 = 2 := of_decide_eq_true hb3
            rw [if_pos hc] at hst
            generalize vt (el seats i) 0 c y = s at *
            simp only [go_sem, hlt, e0]
            refine call cy0 [] ?_
            simp only [go_sem]
            refine ⟨by omega, okD_of (by kernel_rfl), i + 1, ⟨by omega, by omega⟩, ?_⟩
            rw [hst]
            exact ⟨⟨by simp, rfl, by rw [wrapI] <;> omega⟩, rfl, by simp [sm]⟩
      · have h1 : ¬ (i : Int) < (seats.length : Int) := by omega
        have : i = seats.length := by omega
        subst this
        have hlie := mi_lie iv
        generalize miGo l c x y seats q5 seats.length = S at *
        obtain ⟨r, S, T⟩ := S
        have hr := iv.r
        have hsl := iv.len
        have hok := iv.ok
        simp only at hr hsl hok hlie
        have sle := fun i => soGo_le (l := l) (S := S) hr i
        have sin := fun i hi => soGo_in (l := l) (S := S) (p := r) i hi
        have sst : ∀ i, soGo l S r (i + 1) = (dgo l (soGo l S r i).1 2, (soGo l S r i).2.1 ++ (if dnext l (soGo l S r i).1 5 = 4 then [] else [el S i]), (soGo l S r i).2.2 ++ (if dnext l (dgo l (soGo l S r i).1 1) 5 = 4 then [] else [el S i])) := fun _ => rfl
        simp only [go_sem, h1]
        refine promote 11 211 44 13 false ?_ ?_ ?_ (by omega)
        · refine promote 12 212 44 13 false ?_ ?_ ?_ (by omega)
          · refine loop Tryz.mixed 0 (fun i : Nat => [(3, .ptr 27 0), (4, .ptr 4 0), (5, .vs (seats.map i1)), (6, .vs (S.map sm)), (11, .os 211 (soGo l S r i).2.1.length), (12, .os 212 (soGo l S r i).2.2.length), (13, .int .i64 i)]) (fun i => [(27, dbox l (soGo l S r i).1), (4, .cells [.int .i64 c.ep, .int .i64 c.kd, .int .i64 c.su, .int .i64 c.ro]), (211, .arr 44 13 false ((soGo l S r i).2.1.map sm)), (212, .arr 44 13 false ((soGo l S r i).2.2.map sm))]) (fun i => i ≤ S.length) (fun i => S.length - i) (by kernel_rfl) (Nat.zero_le _) ?_ ?_
            · simp only [go_sem, soGo, List.map_nil, List.length_nil]
            · intro j hj
              by_cases hjl : j < S.length
              · have h2 : (j : Int) < (S.length : Int) := by omega
                have hst := sst j
                have hle := sle j
                obtain ⟨_, _, la, lb⟩ := sin j hj
                generalize soGo l S r j = Z at *
                obtain ⟨p, A, B⟩ := Z
                simp only at hst hle la lb
                have hle1 := dgo_le hle 1
                have e0 : ∀ p, dpos l p = dgo l p 1 := fun _ => rfl
                have fin : ∀ a b : List Stm, soGo l S r (j + 1) = (dgo l p 2, A ++ a, B ++ b) → soGo l S r (j + 1) = (dgo l p 2, A ++ a, B ++ b) := fun _ _ h => h
                simp only [go_sem, h2]
                refine call (one_den l p 5 hl hle (by omega) (by omega)) [27] ?_
                cases hb : decide (dnext l p 5 = 5 - 1)
                · have hc : ¬ dnext l p 5 = 4 := of_decide_eq_false hb
                  rw [if_neg hc] at hst
                  simp only [go_sem, e0, hjl]
                  refine ⟨by omega, ?_⟩
                  refine call (one_den l (dgo l p 1) 5 hl hle1 (by omega) (by omega)) [27] ?_
                  cases hb2 : decide (dnext l (dgo l p 1) 5 = 5 - 1)
                  · have hc2 : ¬ dnext l (dgo l p 1) 5 = 4 := of_decide_eq_false hb2
                    rw [if_neg hc2] at hst
                    simp only [go_sem, e0, hjl, dgo_succ]
                    refine ⟨by omega, j + 1, ⟨by omega, by omega⟩, ?_⟩
                    rw [hst]
                    exact ⟨⟨by simp, by simp, by rw [wrapI] <;> omega⟩, rfl, by simp [sm], by simp [sm]⟩
                  · have hc2 : dnext l (dgo l p 1) 5 = 4 := of_decide_eq_true hb2
                    rw [if_pos hc2] at hst
                    simp only [go_sem, e0, hjl, dgo_succ]
                    refine ⟨j + 1, ⟨by omega, by omega⟩, ?_⟩
                    rw [hst]
                    exact ⟨⟨by simp, by simp, by rw [wrapI] <;> omega⟩, rfl, by simp [sm], by simp⟩
                · have hc : dnext l p 5 = 4 := of_decide_eq_true hb
                  rw [if_pos hc] at hst
                  simp only [go_sem, e0, hjl]
                  refine call (one_den l (dgo l p 1) 5 hl hle1 (by omega) (by omega)) [27] ?_
                  cases hb2 : decide (dnext l (dgo l p 1) 5 = 5 - 1)
                  · have hc2 : ¬ dnext l (dgo l p 1) 5 = 4 := of_decide_eq_false hb2
                    rw [if_neg hc2] at hst
                    simp only [go_sem, e0, hjl, dgo_succ]
                    refine ⟨by omega, j + 1, ⟨by omega, by omega⟩, ?_⟩
                    rw [hst]
                    exact ⟨⟨by simp, by simp, by rw [wrapI] <;> omega⟩, rfl, by simp, by simp [sm]⟩
                  · have hc2 : dnext l (dgo l p 1) 5 = 4 := of_decide_eq_true hb2
                    rw [if_pos hc2] at hst
                    simp only [go_sem, e0, hjl, dgo_succ]
                    refine ⟨j + 1, ⟨by omega, by omega⟩, ?_⟩
                    rw [hst]
                    exact ⟨⟨by simp, by simp, by rw [wrapI] <;> omega⟩, rfl, by simp, by simp⟩
              · have h2 : ¬ (j : Int) < (S.length : Int) := by omega
                have : j = S.length := by omega
                subst this
                obtain ⟨sa, sb, la, lb⟩ := sin S.length (Nat.le_refl _)
                generalize soGo l S r S.length = Z at *
                obtain ⟨p, A, B⟩ := Z
                simp only at sa sb la lb
                have gA : ∀ s ∈ A, bigS s := fun s hs => (hok s (sa s hs)).1.big
                have gB : ∀ s ∈ B, bigS s := fun s hs => (hok s (sb s hs)).1.big
                have dA := dcert_den A c seats (by omega) gA (by omega) fun x _ => sortF_den A c x seats (by omega)
                have dB := dcert_den B c seats (by omega) gB (by omega) fun x _ => sortF_den B c x seats (by omega)
                have tA := certX_err (l := A) n4
                have tB := certX_err (l := B) n4
                obtain ⟨bA, nA⟩ := certX_parts n4 gA
                obtain ⟨bB, nB⟩ := certX_parts n4 gB
                have both := certX_same n4 sa sb hlie
                have cA := dCheck_den (certX A c seats).1 (certX A c seats).2.1 seats (by omega) bA (by omega)
                have cB := dCheck_den (certX B c seats).1 (certX B c seats).2.1 seats (by omega) bB (by omega)
                generalize certX A c seats = RA at *
                generalize certX B c seats = RB at *
                obtain ⟨C1, L1, e1⟩ := RA
                obtain ⟨C2, L2, e2⟩ := RB
                simp only at tA tB cA cB both dA dB
                have g1 := chkX_big (c := C1) (l := L1) (seats := seats)
                have g2 := chkX_big (c := C2) (l := L2) (seats := seats)
                generalize chkX C1 L1 seats = U at *
                generalize chkX C2 L2 seats = V at *
                obtain ⟨u, f1⟩ := U
                obtain ⟨v, f2⟩ := V
                simp only at cA cB g1 g2 both
                have co := order23_den u v g1.1 g1.2 g2.1 g2.2
                rw [cs_eq] at dA dB
                rw [ce_eq] at dA dB cA cB
                simp only [go_sem, h2]
                refine call dA [] ?_
                simp only [go_sem]
                refine call dB [] ?_
                simp only [go_sem]
                refine call cA [] ?_
                simp only [go_sem]
                refine call cB [] ?_
                rcases tA with rfl | rfl
                · rcases tB with rfl | rfl
                  · obtain ⟨w, h3, h4⟩ := both rfl rfl
                    simp only [Prod.mk.injEq] at h3 h4
                    obtain ⟨rfl, rfl⟩ := h3
                    obtain ⟨rfl, rfl⟩ := h4
                    rw [(ordC_eq _ _).2 rfl] at co
                    simp only [go_sem]
                    refine call co [] ?_
                    simp only [go_sem]
                    refine call awake28_den [] ?_
                    simp only [go_sem]
                  · simp only [go_sem]
                    refine call awake28_den [] ?_
                    simp only [go_sem]
                · rcases tB with rfl | rfl
                  · simp only [go_sem]
                    refine call awake28_den [] ?_
                    simp only [go_sem]
                  · simp only [go_sem]
                    refine call awake28_den [] ?_
                    simp only [go_sem]
          · simp only [go_sem]
          · simp only [go_sem]
        · simp only [go_sem]
        · simp only [go_sem]
  · simp only [go_sem]
  · simp only [go_sem]
end Go.Proofs.Am
