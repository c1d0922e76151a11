/- Contents, in order: the program's and the document's. -/
import Derived.Test.YtabmciccahfjiaaGreatDoorD1
import Derived.Test.YtabmciccahfjiaaGreatDoorAmZ3
import Derived.Test.YtabmciccahfjiaaGreatDoorShP
set_option linter.unusedSimpArgs false
set_option linter.unusedVariables false
namespace Go.Proofs.Am
open Go Go.RowKit
open Go.Proofs

theorem strCmp_den (a b : List UInt8) : Den Tryz.prog 108 [.str a, .str b] [] (.int .i64 (Lib.compareBytes a b)) [] [] := by
  refine den_world (enters_of Tryz.func108 (by kernel_rfl) rfl) fun w V vals hL hV hlen hval => ?_
  obtain ⟨v1, v2, rfl⟩ : ∃ v1 v2, vals = [v1, v2] := by
    match vals, hlen with
    | [v1, v2], _ => exact ⟨v1, v2, rfl⟩
  obtain ⟨E1, h1, _⟩ := hval 0 v1 (.str a) rfl rfl
  obtain ⟨E2, h2, _⟩ := hval 1 v2 (.str b) rfl rfl
  rw [h1.str_inv, h2.str_inv]
  refine (Any.strings_Compare Tryz.laysCmpStr ⟨a.toArray⟩ ⟨b.toArray⟩ w).mono ?_
  rintro e w' ⟨rfl, rfl⟩
  exact ⟨_, rfl, Below.refl _ _, .int _ _⟩

set_option maxHeartbeats 1000000 in
set_option maxRecDepth 100000 in
theorem pinC_den (p q : Pn) : Den Tryz.prog 71 [.agg (pn p), .agg (pn q)] [] (.int .i64 (cmpP p q)) [] [] := by
  refine den_of Tryz.mixed Tryz.func71 rfl Tryz.call71 Tryz.ntmps71 (congrArg Array.toList Tryz.results71) (by simp) (by kernel_rfl) [] (exts := []) rfl rfl ?_
  rw [pn, pn]
  simp only [go_sem]
  refine call (cmpI_den p.au q.au) [] ?_
  simp only [go_sem]
  refine call (cmpI_den p.he q.he) [] ?_
  simp only [go_sem]
  refine call (strCmp_den p.di q.di) [] ?_
  simp only [go_sem]
  refine call (or_den [cmpI p.au q.au, cmpI p.he q.he, Lib.compareBytes p.di q.di] (by simp [big])) [] ?_
  simp only [go_sem]
  refine ⟨okD_of (by kernel_rfl), ?_⟩
  simp only [orL, cmpP, or2]
  repeat' split
  all_goals simp_all

set_option maxHeartbeats 1000000 in
set_option maxRecDepth 100000 in
theorem orderP_den (a b : List Pn) (ha : big a.length) (hb : big b.length) : Den Tryz.prog 70 [.vs (a.map pn), .vs (b.map pn), .fn 71 []] [] (.int .i64 (ordL cmpP a b)) [] [] := by
  refine den_of Tryz.mixed Tryz.func70 rfl Tryz.call70 Tryz.ntmps70 (congrArg Array.toList Tryz.results70) (by simp) (by kernel_rfl) [] (exts := []) rfl rfl ?_
  have hm := min_if a.length b.length
  generalize hM : min a.length b.length = M at *
  simp only [Int.ofNat_lt] at hm
  simp only [go_sem, hm]
  refine loop Tryz.mixed 0 (fun i : Nat => [(0, .vs (a.map pn)), (1, .vs (b.map pn)), (2, .fn 71 []), (13, .int .i64 M), (14, .int .i64 i)]) (fun _ => []) (fun i => i ≤ M ∧ ordL cmpP a b = ordL cmpP (a.drop i) (b.drop i)) (fun i => M - i) (by kernel_rfl) ?_ ?_ ?_
  · exact ⟨Nat.zero_le _, rfl⟩
  · simp only [go_sem]
  · rintro i ⟨hi, hc⟩
    by_cases hlt : i < M
    · have h1 : (i : Int) < (M : Int) := by omega
      have ia : i < a.length := by omega
      have ib : i < b.length := by omega
      rw [ordL_step cmpP ia ib] at hc
      simp only [go_sem, h1, ia, ib]
      refine call (pinC_den (el a i) (el b i)) [] ?_
      by_cases hz : cmpP (el a i) (el b i) = 0
      · rw [if_pos hz] at hc
        simp only [go_sem, hz]
        refine ⟨okD_of (by kernel_rfl), i + 1, ⟨⟨by omega, hc⟩, by omega⟩, ?_⟩
        rw [wrapI] <;> omega
      · rw [if_neg hz] at hc
        simp only [go_sem, hz]
        exact ⟨okD_of (by kernel_rfl), hc.symm⟩
    · have h1 : ¬ (i : Int) < (M : Int) := by omega
      rw [ordL_end cmpP (by omega)] at hc
      simp only [go_sem, h1]
      refine call (cmpI_den a.length b.length) [] ?_
      simp only [go_sem]
      exact hc.symm

set_option maxHeartbeats 1000000 in
set_option maxRecDepth 100000 in
theorem orderC_den (x y : Ct) (h1 : big x.li.length) (h2 : big x.pi.length) (h3 : big y.li.length) (h4 : big y.pi.length) : Den Tryz.prog 38 [.agg (ct x), .agg (ct y)] [] (.int .i64 (ordC x y)) [] [] := by
  refine den_of Tryz.mixed Tryz.func38 rfl Tryz.call38 Tryz.ntmps38 (congrArg Array.toList Tryz.results38) (by simp) (by kernel_rfl) [] (exts := []) rfl rfl ?_
  rw [ct_eq, ct_eq]
  simp only [go_sem]
  refine call (orderI_den x.li y.li h1 h3) [] ?_
  simp only [go_sem]
  refine call (orderP_den x.pi y.pi h2 h4) [] ?_
  simp only [go_sem]
  refine call (or_den [ordL cmpI x.li y.li, ordL cmpP x.pi y.pi] (by simp [big])) [] ?_
  simp only [go_sem]
  refine ⟨okD_of (by kernel_rfl), ?_⟩
  simp only [orL, ordC, or2]
  repeat' split
  all_goals simp_all
end Go.Proofs.Am

/- The document's order of contents. -/
namespace Go.Proofs.Am
open Go Go.RowKit
open Go.Proofs

theorem bytesLess_cmp : ∀ a b : List UInt8, Op.bytesLess a b = decide (Lib.compareBytes a b < 0)
  | [], [] => by simp [Op.bytesLess, Lib.compareBytes]
  | [], _ :: _ => by simp [Op.bytesLess, Lib.compareBytes]
  | _ :: _, [] => by simp [Op.bytesLess, Lib.compareBytes]
  | a :: r, b :: s => by
    have ih := bytesLess_cmp r s
    simp only [Op.bytesLess, Lib.compareBytes]
    by_cases h1 : a < b
    · simp [h1]
    · by_cases h2 : b < a
      · have : a ≠ b := fun e => by subst e; exact h1 h2
        simp [h1, h2, this]
      · have : a = b := UInt8.le_antisymm (UInt8.not_lt.1 h2) (UInt8.not_lt.1 h1)
        subst this
        simp [h1, ih]
theorem compareBytes_eq : ∀ a b : List UInt8, Lib.compareBytes a b = 0 ↔ a = b
  | [], [] => by simp [Lib.compareBytes]
  | [], _ :: _ => by simp [Lib.compareBytes]
  | _ :: _, [] => by simp [Lib.compareBytes]
  | a :: r, b :: s => by
    have ih := compareBytes_eq r s
    simp only [Lib.compareBytes]
    by_cases h1 : a < b
    · have : a ≠ b := fun e => by subst e; exact UInt8.lt_irrefl _ h1
      simp [h1, this]
    · by_cases h2 : b < a
      · have : a ≠ b := fun e => by subst e; exact UInt8.lt_irrefl _ h2
        simp [h1, h2, this]
      · have : a = b := UInt8.le_antisymm (UInt8.not_lt.1 h2) (UInt8.not_lt.1 h1)
        subst this
        simp [h1, ih]
theorem compareBytes_vals : ∀ a b : List UInt8, Lib.compareBytes a b = -1 ∨ Lib.compareBytes a b = 0 ∨ Lib.compareBytes a b = 1
  | [], [] => by simp [Lib.compareBytes]
  | [], _ :: _ => by simp [Lib.compareBytes]
  | _ :: _, [] => by simp [Lib.compareBytes]
  | a :: r, b :: s => by
    have ih := compareBytes_vals r s
    simp only [Lib.compareBytes]
    split
    · simp
    · split
      · simp
      · exact ih

set_option maxHeartbeats 1000000 in
set_option maxRecDepth 100000 in
theorem order23_den (x y : Ct) (b1 : big x.li.length) (b2 : big x.pi.length) (b3 : big y.li.length) (b4 : big y.pi.length) : Den Tryz.prog 23 [.agg (ct x), .agg (ct y)] [] (.int .i64 (ordC x y)) [] [] := by
  refine den_of Tryz.mixed Tryz.func23 rfl Tryz.call23 Tryz.ntmps23 (congrArg Array.toList Tryz.results23) (by simp) (by kernel_rfl) [] (exts := []) rfl rfl ?_
  rw [ct_eq, ct_eq]
  obtain ⟨a, p⟩ := x
  obtain ⟨b, q⟩ := y
  simp only [ordC]
  change big a.length at b1
  change big p.length at b2
  change big b.length at b3
  change big q.length at b4
  simp only [go_sem]
  refine loop Tryz.mixed 0 (fun i : Nat => [(2, .ptr 2 0), (3, .ptr 3 0), (4, .int .i64 0), (5, .int .i64 i)]) (fun _ => [(2, .cells [.vs (a.map i1), .vs (p.map pn)]), (3, .cells [.vs (b.map i1), .vs (q.map pn)])]) (fun i => (i ≤ a.length ∧ i ≤ b.length) ∧ ordL cmpI a b = ordL cmpI (a.drop i) (b.drop i)) (fun i => a.length - i) (by kernel_rfl) ?_ ?_ ?_
  · exact ⟨⟨Nat.zero_le _, Nat.zero_le _⟩, rfl⟩
  · simp only [go_sem]
  · rintro i ⟨⟨hia, hib⟩, hc⟩
    by_cases hlt : i < a.length ∧ i < b.length
    · obtain ⟨l1, l2⟩ := hlt
      have h1 : (i : Int) < (a.length : Int) := by omega
      have h2 : (i : Int) < (b.length : Int) := by omega
      rw [ordL_step cmpI l1 l2] at hc
      simp only [go_sem, h1, h2, l1, l2]
      refine call (cmp23_den (el a i) (el b i)) [] ?_
      by_cases hz : cmpI (el a i) (el b i) = 0
      · rw [if_pos hz] at hc
        simp only [go_sem, hz]
        refine ⟨okD_of (by kernel_rfl), i + 1, ⟨⟨⟨by omega, by omega⟩, hc⟩, by omega⟩, ?_⟩
        rw [wrapI] <;> omega
      · rw [if_neg hz] at hc
        simp only [go_sem, hz]
        refine ⟨okD_of (by kernel_rfl), ?_⟩
        rw [hc, or2, if_neg hz]
    · rw [ordL_end cmpI (by omega)] at hc
      have hcase : (i < a.length ∧ ¬ i < b.length) ∨ ¬ i < a.length := by omega
      rcases hcase with ⟨l1, l2⟩ | l1
      case' inl =>
        have h1 : (i : Int) < (a.length : Int) := by omega
        have h2 : ¬ (i : Int) < (b.length : Int) := by omega
        simp only [go_sem, h1, h2]
      case' inr =>
        have h1 : ¬ (i : Int) < (a.length : Int) := by omega
        simp only [go_sem, h1]
      all_goals
        refine call (cmp23_den a.length b.length) [] ?_
        by_cases hz : cmpI a.length b.length = 0
        rotate_left
        · simp only [go_sem, hz]
          rw [hc, or2, if_neg hz]
        rw [hz] at hc
        simp only [go_sem, hz]
        refine loop Tryz.mixed 0 (fun i : Nat => [(2, .ptr 2 0), (3, .ptr 3 0), (4, .int .i64 0), (8, .int .i64 i)]) (fun _ => [(2, .cells [.vs (a.map i1), .vs (p.map pn)]), (3, .cells [.vs (b.map i1), .vs (q.map pn)])]) (fun i => (i ≤ p.length ∧ i ≤ q.length) ∧ ordL cmpP p q = ordL cmpP (p.drop i) (q.drop i)) (fun i => p.length - i) (by kernel_rfl) ?_ ?_ ?_
        · exact ⟨⟨Nat.zero_le _, Nat.zero_le _⟩, rfl⟩
        · simp only [go_sem]
        rintro j ⟨⟨hjp, hjq⟩, hd⟩
        by_cases hlt : j < p.length ∧ j < q.length
        · obtain ⟨l1, l2⟩ := hlt
          have h1 : (j : Int) < (p.length : Int) := by omega
          have h2 : (j : Int) < (q.length : Int) := by omega
          rw [ordL_step cmpP l1 l2] at hd
          generalize hu : el p j = u at hd
          generalize hv : el q j = v at hd
          simp only [go_sem, h1, h2, l1, l2, hu, hv, pn]
          refine ⟨okD_of (by kernel_rfl), ?_⟩
          refine call (cmp23_den u.au v.au) [] ?_
          by_cases z1 : cmpI u.au v.au = 0
          rotate_left
          · have e1 : cmpP u v = cmpI u.au v.au := by simp [cmpP, or2, z1]
            rw [e1, if_neg z1] at hd
            simp only [go_sem, z1]
            rw [hc, or2, if_pos rfl]
            exact hd.symm
          simp only [go_sem, z1]
          refine call (cmp23_den u.he v.he) [] ?_
          by_cases z2 : cmpI u.he v.he = 0
          rotate_left
          · have e1 : cmpP u v = cmpI u.he v.he := by simp [cmpP, or2, z1, z2]
            rw [e1, if_neg z2] at hd
            simp only [go_sem, z2]
            rw [hc, or2, if_pos rfl]
            exact hd.symm
          have e1 : cmpP u v = Lib.compareBytes u.di v.di := by simp [cmpP, or2, z1, z2]
          rw [e1] at hd
          by_cases z3 : u.di = v.di
          · have z4 := (compareBytes_eq u.di v.di).2 z3
            rw [if_pos z4] at hd
            simp only [go_sem, z2, z3]
            refine ⟨j + 1, ⟨⟨⟨by omega, by omega⟩, hd⟩, by omega⟩, ?_⟩
            rw [wrapI] <;> omega
          · have z4 : Lib.compareBytes u.di v.di ≠ 0 := fun e => z3 ((compareBytes_eq u.di v.di).1 e)
            rw [if_neg z4] at hd
            have z5 := bytesLess_cmp u.di v.di
            by_cases z6 : Lib.compareBytes u.di v.di < 0
            · have z7 : Lib.compareBytes u.di v.di = -1 := by rcases compareBytes_vals u.di v.di with h | h | h <;> omega
              simp only [z6, decide_true] at z5
              simp only [go_sem, z2, z3, z5]
              rw [hc, or2, if_pos rfl, hd, z7]
            · have z7 : Lib.compareBytes u.di v.di = 1 := by rcases compareBytes_vals u.di v.di with h | h | h <;> omega
              simp only [z6, decide_false] at z5
              simp only [go_sem, z2, z3, z5]
              rw [hc, or2, if_pos rfl, hd, z7]
        · rw [ordL_end cmpP (by omega)] at hd
          have hcase : (j < p.length ∧ ¬ j < q.length) ∨ ¬ j < p.length := by omega
          rcases hcase with ⟨l1, l2⟩ | l1
          case' inl =>
            have h1 : (j : Int) < (p.length : Int) := by omega
            have h2 : ¬ (j : Int) < (q.length : Int) := by omega
            simp only [go_sem, h1, h2]
          case' inr =>
            have h1 : ¬ (j : Int) < (p.length : Int) := by omega
            simp only [go_sem, h1]
          all_goals
            refine call (cmp23_den p.length q.length) [] ?_
            simp only [go_sem]
            rw [hc, or2, if_pos rfl]
            exact hd.symm
end Go.Proofs.Am

/- Votes and counts: small functions. -/
namespace Go.Proofs.Am
open Go Go.RowKit
open Go.Proofs

/-- A vote. -/
structure Vt where
  k : Int
  c : Cs
  x : Ct
deriving Inhabited, DecidableEq
def vt7 (v : Vt) : List PV := [.int .i64 v.k, .int .i64 v.c.ep, .int .i64 v.c.kd, .int .i64 v.c.su, .int .i64 v.c.ro, .vs (v.x.li.map i1), .vs (v.x.pi.map pn)]
theorem vt7_eq (v : Vt) : vt7 v = [.int .i64 v.k, .int .i64 v.c.ep, .int .i64 v.c.kd, .int .i64 v.c.su, .int .i64 v.c.ro, .vs (v.x.li.map i1), .vs (v.x.pi.map pn)] := (rfl)
attribute [go_sem] vt7_eq
/-- A count. -/
structure Cn where
  x : Ct
  ks : List Int
deriving Inhabited, DecidableEq
def cn3 (n : Cn) : List PV := [.vs (n.x.li.map i1), .vs (n.x.pi.map pn), .vs (n.ks.map i1)]
theorem cn3_eq (n : Cn) : cn3 n = [.vs (n.x.li.map i1), .vs (n.x.pi.map pn), .vs (n.ks.map i1)] := (rfl)
attribute [go_sem] cn3_eq
def bigC (x : Ct) : Prop := big x.li.length ∧ big x.pi.length

/-- A number is put into an ascending list, once. -/
def putI : List Int → Int → List Int
  | [], n => [n]
  | a :: l, n => if a < n then a :: putI l n else if a = n then a :: l else n :: a :: l
theorem putI_at : ∀ (l : List Int) (n : Int) (k : Nat), k ≤ l.length → (∀ j, j < k → el l j < n) → (k < l.length → ¬ el l k < n) →
    putI l n = if k < l.length ∧ el l k = n then l else l.take k ++ (n :: l.drop k)
  | [], n, k, hk, _, _ => by
    have : k = 0 := by simpa using hk
    subst this
    simp [putI]
  | a :: l, n, 0, _, _, h2 => by
    have h := h2 (by simp)
    have e0 : el (a :: l) 0 = a := rfl
    rw [e0] at h ⊢
    simp only [putI, if_neg h]
    by_cases he : a = n
    · simp [he]
    · simp [he]
  | a :: l, n, k + 1, hk, h1, h2 => by
    have h0 : a < n := h1 0 (by omega)
    have ih := putI_at l n k (by simpa using hk) (fun j hj => h1 (j + 1) (by omega)) (fun hl => h2 (by simpa using hl))
    simp only [putI, if_pos h0, ih]
    have e1 : el (a :: l) (k + 1) = el l k := rfl
    rw [e1]
    by_cases hc : k < l.length ∧ el l k = n
    · rw [if_pos hc, if_pos ⟨by simp; exact hc.1, hc.2⟩]
    · rw [if_neg hc, if_neg (fun h => hc ⟨by simpa using h.1, h.2⟩)]
      simp
theorem putI_len : ∀ (l : List Int) (n : Int), (putI l n).length ≤ l.length + 1
  | [], n => by simp [putI]
  | a :: l, n => by
    have := putI_len l n
    simp only [putI]
    split
    · simp; omega
    · split <;> simp

theorem pn_len (l : List Pn) : l.length ≤ (l.flatMap pnB).length := by
  induction l with
  | nil => simp
  | cons p l ih =>
    simp only [List.flatMap_cons, List.length_append, List.length_cons, pnB, be8_len]
    omega
set_option maxHeartbeats 1000000 in
set_option maxRecDepth 100000 in
theorem put27_den (l : List Int) (n : Int) (hl : l.length ≤ 1000000) : Den Tryz.prog 41 [.vs (l.map i1), .int .i64 n] [] (.vs ((putI l n).map i1)) [] [] := by
  refine den_of Tryz.mixed Tryz.func41 rfl Tryz.call41 Tryz.ntmps41 (congrArg Array.toList Tryz.results41) (by simp) (by kernel_rfl) [] (exts := []) rfl rfl ?_
  simp only [go_sem]
  refine loop Tryz.mixed 0 (fun k : Nat => [(0, .vs (l.map i1)), (1, .int .i64 n), (5, .int .i64 k)]) (fun _ => []) (fun k => k ≤ l.length ∧ ∀ j, j < k → el l j < n) (fun k => l.length - k) (by kernel_rfl) ?_ ?_ ?_
  · exact ⟨Nat.zero_le _, fun j hj => by omega⟩
  · simp only [go_sem]
  · rintro k ⟨hk, hall⟩
    by_cases hlt : k < l.length ∧ el l k < n
    · obtain ⟨l1, l2⟩ := hlt
      have h1 : (k : Int) < (l.length : Int) := by omega
      simp only [go_sem, h1, l1, l2]
      refine ⟨k + 1, ⟨⟨by omega, fun j hj => ?_⟩, by omega⟩, ?_⟩
      · rcases Nat.lt_succ_iff_lt_or_eq.1 hj with h | h
        · exact hall j h
        · rw [h]; exact l2
      · rw [wrapI] <;> omega
    · have lt : (l.take k).length = k := by simp; omega
      have ld : ((l.take l.length).drop k).length = l.length - k := by simp
      have hp := putI_at l n k hk hall (fun h1 h2 => hlt ⟨h1, h2⟩)
      by_cases l1 : k < l.length
      · have h1 : (k : Int) < (l.length : Int) := by omega
        have l2 : ¬ el l k < n := fun h => hlt ⟨l1, h⟩
        by_cases l3 : el l k = n
        · rw [if_pos ⟨l1, l3⟩] at hp
          simp only [go_sem, h1, l1, l2, l3]
          exact ⟨fun h => absurd h (Int.lt_irrefl n), fun _ => by rw [hp]⟩
        · rw [if_neg (fun h => l3 h.2)] at hp
          simp only [go_sem, h1, l1, l2, l3]
          (repeat refine And.intro (by first | omega | exact okD_of (by kernel_rfl)) ?_)
          rw [hp]
          simp
          rfl
      · have h1 : ¬ (k : Int) < (l.length : Int) := by omega
        rw [if_neg (fun h => l1 h.1)] at hp
        simp only [go_sem, h1, l1]
        (repeat refine And.intro (by first | omega | exact okD_of (by kernel_rfl)) ?_)
        rw [hp]
        simp
        rfl

set_option maxHeartbeats 1000000 in
set_option maxRecDepth 100000 in
theorem copyR_den (x : Ct) (h : okCt x) : Den Tryz.prog 40 [.agg (ct x)] [] (.agg (ct x)) [] [] := by
  refine den_of Tryz.mixed Tryz.func40 rfl Tryz.call40 Tryz.ntmps40 (congrArg Array.toList Tryz.results40) (by simp) (by kernel_rfl) [] (exts := []) rfl rfl ?_
  have hb := Nat.le_trans (pn_len x.pi) h.2
  have hb2 := h.1
  rw [ct_eq]
  simp only [go_sem]
  (repeat refine And.intro (by first | omega | exact okD_of (by kernel_rfl)) ?_)
  exact okD_of (by kernel_rfl)
set_option maxHeartbeats 1000000 in
set_option maxRecDepth 100000 in
theorem copyC_den (x : Ct) (h : okCt x) : Den Tryz.prog 33 [.agg (ct x)] [] (.agg (ct x)) [] [] := by
  refine den_of Tryz.mixed Tryz.func33 rfl Tryz.call33 Tryz.ntmps33 (congrArg Array.toList Tryz.results33) (by simp) (by kernel_rfl) [] (exts := []) rfl rfl ?_
  have hb := Nat.le_trans (pn_len x.pi) h.2
  have hb2 := h.1
  rw [ct_eq]
  simp only [go_sem]
  (repeat refine And.intro (by first | omega | exact okD_of (by kernel_rfl)) ?_)
  exact okD_of (by kernel_rfl)

theorem el_mem {α : Type} [Inhabited α] {l : List α} {i : Nat} (h : i < l.length) : el l i ∈ l := by
  simp only [el, List.getD_eq_getElem?_getD, List.getElem?_eq_getElem h, Option.getD_some]
  exact List.getElem_mem _
theorem cmpI_eq (a b : Int) : cmpI a b = 0 ↔ a = b := by
  unfold cmpI
  split
  · simp; omega
  · split
    · simp; omega
    · simp; omega
theorem or2_eq (a b : Int) : or2 a b = 0 ↔ a = 0 ∧ b = 0 := by
  unfold or2
  split
  · simp_all
  · simp_all
theorem cmpP_eq (p q : Pn) : cmpP p q = 0 ↔ p = q := by
  cases p
  cases q
  simp only [cmpP, or2_eq, cmpI_eq, compareBytes_eq, Pn.mk.injEq]
theorem ordL_eq {α : Type} (f : α → α → Int) (hf : ∀ x y, f x y = 0 ↔ x = y) : ∀ a b : List α, ordL f a b = 0 ↔ a = b
  | [], [] => by simp [ordL]
  | [], _ :: _ => by simp [ordL]
  | _ :: _, [] => by simp [ordL]
  | x :: a, y :: b => by
    have ih := ordL_eq f hf a b
    simp only [ordL]
    split
    · rename_i h
      rw [ih]
      simp [(hf x y).1 h]
    · rename_i h
      have : x ≠ y := fun e => h ((hf x y).2 e)
      simp [h, this]
theorem ordC_eq (x y : Ct) : ordC x y = 0 ↔ x = y := by
  cases x
  cases y
  simp only [ordC, or2_eq, ordL_eq cmpI cmpI_eq, ordL_eq cmpP cmpP_eq, Ct.mk.injEq]

set_option maxHeartbeats 1000000 in
set_option maxRecDepth 100000 in
theorem sameN_den (a b : List Cn) (ha : big a.length) (hb : big b.length) (oa : ∀ n ∈ a, bigC n.x ∧ big n.ks.length) (ob : ∀ n ∈ b, bigC n.x ∧ big n.ks.length) : Den Tryz.prog 9 [.vs (a.map cn3), .vs (b.map cn3)] [] (.bool (decide (a = b))) [] [] := by
  refine den_of Tryz.mixed Tryz.func9 rfl Tryz.call9 Tryz.ntmps9 (congrArg Array.toList Tryz.results9) (by simp) (by kernel_rfl) [] (exts := []) rfl rfl ?_
  by_cases hlen : a.length = b.length
  rotate_left
  · have hne : ¬ a = b := fun e => hlen (by rw [e])
    have h1 : ¬ (a.length : Int) = (b.length : Int) := by omega
    simp only [go_sem, h1, hne]
  have h1 : (a.length : Int) = (b.length : Int) := by omega
  simp only [go_sem, h1]
  refine loop Tryz.mixed 0 (fun i : Nat => [(0, .vs (a.map cn3)), (1, .vs (b.map cn3)), (5, .int .i64 i)]) (fun _ => []) (fun i => i ≤ a.length ∧ ∀ j, j < i → el a j = el b j) (fun i => a.length - i) (by kernel_rfl) ?_ ?_ ?_
  · exact ⟨Nat.zero_le _, fun j hj => by omega⟩
  · simp only [go_sem]
  · rintro i ⟨hi, hall⟩
    by_cases hlt : i < a.length
    · have hlt2 : i < b.length := by omega
      have h2 : (i : Int) < (b.length : Int) := by omega
      simp only [go_sem, h1, h2, hlt, hlt2]
      obtain ⟨q1, q2⟩ := oa (el a i) (el_mem hlt)
      obtain ⟨q3, q4⟩ := ob (el b i) (el_mem hlt2)
      refine call (sameInts_den (el a i).ks (el b i).ks q2 q4) [] ?_
      by_cases e1 : (el a i).ks = (el b i).ks
      rotate_left
      · have hne : ¬ a = b := fun e => e1 (by rw [e])
        simp only [go_sem, e1]
        exact ⟨okD_of (by kernel_rfl), by simp [hne]⟩
      simp only [go_sem, e1, hlt, hlt2]
      refine call (order23_den (el a i).x (el b i).x q1.1 q1.2 q3.1 q3.2) [] ?_
      by_cases e2 : ordC (el a i).x (el b i).x = 0
      rotate_left
      · have hne : ¬ a = b := fun e => e2 (by rw [e]; exact (ordC_eq _ _).2 rfl)
        simp only [go_sem, e2]
        exact ⟨okD_of (by kernel_rfl), by simp [hne]⟩
      simp only [go_sem, e2]
      refine ⟨okD_of (by kernel_rfl), i + 1, ⟨⟨by omega, fun j hj => ?_⟩, by omega⟩, ?_⟩
      · rcases Nat.lt_succ_iff_lt_or_eq.1 hj with h | h
        · exact hall j h
        · rw [h]
          have e3 := (ordC_eq _ _).1 e2
          generalize el a i = u at e1 e3
          generalize el b i = v at e1 e3
          cases u
          cases v
          simp only at e1 e3
          rw [e1, e3]
      · rw [wrapI] <;> omega
    · have h2 : ¬ (i : Int) < (b.length : Int) := by omega
      simp only [go_sem, h1, h2]
      have : a = b := by
        apply List.ext_getElem hlen
        intro j q1 q2
        have := hall j (by omega)
        simpa [el, List.getD_eq_getElem?_getD, q1, q2] using this
      simp [this]
end Go.Proofs.Am
