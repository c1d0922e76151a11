/- DOne. -/
import Derived.Test.YteakcpfdfglndaaGreatDoorD1
import Derived.Test.YteakcpfdfglndaaGreatDoorAmZ3
import Derived.Test.YteakcpfdfglndaaGreatDoorShP
set_option linter.unusedSimpArgs false
set_option linter.unusedVariables false
namespace Go.Proofs.Am
open Go Go.RowKit
open Go.Proofs
theorem strCmp_den (a b : List UInt8) : Den Tryz.prog 125 [.str a, .str b] [] (.int .i64 (Lib.compareBytes a b)) [] [] := by
 refine den_world (enters_of Tryz.func125 (by kernel_rfl) rfl) fun w V vals hL hV hlen hval => ?_
 obtain ⟨v1, v2, rfl⟩ : ∃ v1 v2, vals = [v1, v2] := by
  match vals, hlen with
  | [v1, v2], _ => exact ⟨v1, v2, rfl⟩
 obtain ⟨E1, h1, _⟩ := hval 0 v1 (.str a) rfl rfl
 obtain ⟨E2, h2, _⟩ := hval 1 v2 (.str b) rfl rfl
 rw [h1.str_inv, h2.str_inv]
 refine (Any.strings_Compare Tryz.laysCmpStr ⟨a.toArray⟩ ⟨b.toArray⟩ w).mono ?_
 rintro e w' ⟨rfl, rfl⟩
 exact ⟨_, rfl, Below.refl _ _, .int _ _⟩
set_option maxHeartbeats 1000000 in
set_option maxRecDepth 100000 in
theorem pinC_den (p q : Pn) : Den Tryz.prog 204 [.agg (pn p), .agg (pn q)] [] (.int .i64 (cmpP p q)) [] [] := by
 refine den_of Tryz.mixed Tryz.func204 rfl Tryz.call204 Tryz.ntmps204 (congrArg Array.toList Tryz.results204) (by simp) (by kernel_rfl) [] (exts := []) rfl rfl ?_
 rw [pn, pn]
 simp only [go_sem]
 refine call (cmpI_den p.au q.au) [] ?_
 simp only [go_sem]
 refine call (cmpI_den p.he q.he) [] ?_
 simp only [go_sem]
 refine call (strCmp_den p.di q.di) [] ?_
 simp only [go_sem]
 refine call (or_den [cmpI p.au q.au, cmpI p.he q.he, Lib.compareBytes p.di q.di] (by simp [big])) [] ?_
 simp only [go_sem]
 refine ⟨okD_of (by kernel_rfl), ?_⟩
 simp only [orL, cmpP, or2]
 repeat' split
 all_goals simp_all
set_option maxHeartbeats 1000000 in
set_option maxRecDepth 100000 in
theorem orderP_den (a b : List Pn) (ha : big a.length) (hb : big b.length) : Den Tryz.prog 203 [.vs (a.map pn), .vs (b.map pn), .fn 204 []] [] (.int .i64 (ordL cmpP a b)) [] [] := by
 refine den_of Tryz.mixed Tryz.func203 rfl Tryz.call203 Tryz.ntmps203 (congrArg Array.toList Tryz.results203) (by simp) (by kernel_rfl) [] (exts := []) rfl rfl ?_
 have hm := min_if a.length b.length
 generalize hM : min a.length b.length = M at *
 simp only [Int.ofNat_lt] at hm
 simp only [go_sem, hm]
 refine loop Tryz.mixed 0 (fun i : Nat => [(0, .vs (a.map pn)), (1, .vs (b.map pn)), (2, .fn 204 []), (13, .int .i64 M), (14, .int .i64 i)]) (fun _ => []) (fun i => i ≤ M ∧ ordL cmpP a b = ordL cmpP (a.drop i) (b.drop i)) (fun i => M - i) (by kernel_rfl) ?_ ?_ ?_
 ·exact ⟨Nat.zero_le _, rfl⟩
 ·simp only [go_sem]
 ·rintro i ⟨hi, hc⟩
  by_cases hlt : i < M
  ·have h1 : (i : Int) < (M : Int) := by omega
   have ia : i < a.length := by omega
   have ib : i < b.length := by omega
   rw [ordL_step cmpP ia ib] at hc
   simp only [go_sem, h1, ia, ib]
   refine call (pinC_den (el a i) (el b i)) [] ?_
   by_cases hz : cmpP (el a i) (el b i) = 0
   ·rw [if_pos hz] at hc
    simp only [go_sem, hz]
    refine ⟨okD_of (by kernel_rfl), i + 1, ⟨⟨by omega, hc⟩, by omega⟩, ?_⟩
    rw [wrapI] <;> omega
   ·rw [if_neg hz] at hc
    simp only [go_sem, hz]
    exact ⟨okD_of (by kernel_rfl), hc.symm⟩
  ·have h1 : ¬ (i : Int) < (M : Int) := by omega
   rw [ordL_end cmpP (by omega)] at hc
   simp only [go_sem, h1]
   refine call (cmpI_den a.length b.length) [] ?_
   simp only [go_sem]
   exact hc.symm
set_option maxHeartbeats 1000000 in
set_option maxRecDepth 100000 in
theorem orderC_den (x y : Ct) (h1 : big x.li.length) (h2 : big x.pi.length) (h3 : big y.li.length) (h4 : big y.pi.length) : Den Tryz.prog 170 [.agg (ct x), .agg (ct y)] [] (.int .i64 (ordC x y)) [] [] := by
 refine den_of Tryz.mixed Tryz.func170 rfl Tryz.call170 Tryz.ntmps170 (congrArg Array.toList Tryz.results170) (by simp) (by kernel_rfl) [] (exts := []) rfl rfl ?_
 rw [ct_eq, ct_eq]
 simp only [go_sem]
 refine call (orderI_den x.li y.li h1 h3) [] ?_
 simp only [go_sem]
 refine call (orderP_den x.pi y.pi h2 h4) [] ?_
 simp only [go_sem]
 refine call (or_den [ordL cmpI x.li y.li, ordL cmpP x.pi y.pi] (by simp [big])) [] ?_
 simp only [go_sem]
 refine ⟨okD_of (by kernel_rfl), ?_⟩
 simp only [orL, ordC, or2]
 repeat' split
 all_goals simp_all
end Go.Proofs.Am

/- The document's order of contents. -/
namespace Go.Proofs.Am
open Go Go.RowKit
open Go.Proofs
theorem compareBytes_eq : ∀ a b : List UInt8, Lib.compareBytes a b = 0 ↔ a = b
 | [], [] => by simp [Lib.compareBytes]
 | [], _ :: _ => by simp [Lib.compareBytes]
 | _ :: _, [] => by simp [Lib.compareBytes]
 | a :: r, b :: s => by
  have ih := compareBytes_eq r s
  simp only [Lib.compareBytes]
  by_cases h1 : a < b
  ·have : a ≠ b := fun e => by subst e; exact UInt8.lt_irrefl _ h1
   simp [h1, this]
  ·by_cases h2 : b < a
   ·have : a ≠ b := fun e => by subst e; exact UInt8.lt_irrefl _ h2
    simp [h1, h2, this]
   ·have : a = b := UInt8.le_antisymm (UInt8.not_lt.1 h2) (UInt8.not_lt.1 h1)
    subst this
    simp [h1, ih]
end Go.Proofs.Am

/- Votes and counts: small functions. -/
namespace Go.Proofs.Am
open Go Go.RowKit
open Go.Proofs
structure Vt where
 k : Int
 c : Cs
 x : Ct
deriving Inhabited, DecidableEq
def vt7 (v : Vt) : List PV := [.int .i64 v.k, .int .i64 v.c.ep, .int .i64 v.c.kd, .int .i64 v.c.su, .int .i64 v.c.ro, .vs (v.x.li.map i1), .vs (v.x.pi.map pn)]
theorem vt7_eq (v : Vt) : vt7 v = [.int .i64 v.k, .int .i64 v.c.ep, .int .i64 v.c.kd, .int .i64 v.c.su, .int .i64 v.c.ro, .vs (v.x.li.map i1), .vs (v.x.pi.map pn)] := (rfl)
attribute [go_sem] vt7_eq
structure Cn where
 x : Ct
 ks : List Int
deriving Inhabited, DecidableEq
def cn3 (n : Cn) : List PV := [.vs (n.x.li.map i1), .vs (n.x.pi.map pn), .vs (n.ks.map i1)]
theorem cn3_eq (n : Cn) : cn3 n = [.vs (n.x.li.map i1), .vs (n.x.pi.map pn), .vs (n.ks.map i1)] := (rfl)
attribute [go_sem] cn3_eq
def bigC (x : Ct) : Prop := big x.li.length ∧ big x.pi.length
def putI : List Int → Int → List Int
 | [], n => [n]
 | a :: l, n => if a < n then a :: putI l n else if a = n then a :: l else n :: a :: l
theorem putI_len : ∀ (l : List Int) (n : Int), (putI l n).length ≤ l.length + 1
 | [], n => by simp [putI]
 | a :: l, n => by
  have := putI_len l n
  simp only [putI]
  split
  ·simp; omega
  ·split <;> simp
theorem pn_len (l : List Pn) : l.length ≤ (l.flatMap pnB).length := by
 induction l with
 | nil => simp
 | cons p l ih =>
  simp only [List.flatMap_cons, List.length_append, List.length_cons, pnB, be8_len]
  omega
set_option maxHeartbeats 1000000 in
set_option maxRecDepth 100000 in
theorem copyC_den (x : Ct) (h : okCt x) : Den Tryz.prog 183 [.agg (ct x)] [] (.agg (ct x)) [] [] := by
 refine den_of Tryz.mixed Tryz.func183 rfl Tryz.call183 Tryz.ntmps183 (congrArg Array.toList Tryz.results183) (by simp) (by kernel_rfl) [] (exts := []) rfl rfl ?_
 have hb := Nat.le_trans (pn_len x.pi) h.2
 have hb2 := h.1
 rw [ct_eq]
 simp only [go_sem]
 (repeat refine And.intro (by first | omega | exact okD_of (by kernel_rfl)) ?_)
 exact okD_of (by kernel_rfl)
theorem el_mem {α : Type} [Inhabited α] {l : List α} {i : Nat} (h : i < l.length) : el l i ∈ l := by
 simp only [el, List.getD_eq_getElem?_getD, List.getElem?_eq_getElem h, Option.getD_some]
 exact List.getElem_mem _
theorem cmpI_eq (a b : Int) : cmpI a b = 0 ↔ a = b := by
 unfold cmpI
 split
 ·simp; omega
 ·split
  ·simp; omega
  ·simp; omega
theorem or2_eq (a b : Int) : or2 a b = 0 ↔ a = 0 ∧ b = 0 := by
 unfold or2
 split
 ·simp_all
 ·simp_all
theorem cmpP_eq (p q : Pn) : cmpP p q = 0 ↔ p = q := by
 cases p
 cases q
 simp only [cmpP, or2_eq, cmpI_eq, compareBytes_eq, Pn.mk.injEq]
theorem ordL_eq {α : Type} (f : α → α → Int) (hf : ∀ x y, f x y = 0 ↔ x = y) : ∀ a b : List α, ordL f a b = 0 ↔ a = b
 | [], [] => by simp [ordL]
 | [], _ :: _ => by simp [ordL]
 | _ :: _, [] => by simp [ordL]
 | x :: a, y :: b => by
  have ih := ordL_eq f hf a b
  simp only [ordL]
  split
  ·rename_i h
   rw [ih]
   simp [(hf x y).1 h]
  ·rename_i h
   have : x ≠ y := fun e => h ((hf x y).2 e)
   simp [h, this]
theorem ordC_eq (x y : Ct) : ordC x y = 0 ↔ x = y := by
 cases x
 cases y
 simp only [ordC, or2_eq, ordL_eq cmpI cmpI_eq, ordL_eq cmpP cmpP_eq, Ct.mk.injEq]
end Go.Proofs.Am

/- Who votes twice: the document's. -/
namespace Go.Proofs.Am
open Go Go.RowKit
open Go.Proofs
def twK (v : List Vt) (i : Nat) (out : List Int) (k : Nat) : List Int :=
 (List.range k).foldl (fun o k => if (el v i).k = (el v k).k ∧ (el v i).x ≠ (el v k).x then putI o (el v i).k else o) out
theorem twK_zero (v : List Vt) (i : Nat) (out : List Int) : twK v i out 0 = out := rfl
end Go.Proofs.Am

/- Counts: the document's. -/
namespace Go.Proofs.Am
open Go Go.RowKit
open Go.Proofs
def insC : List Cn → Vt → List Cn
 | [], y => [⟨y.x, [y.k]⟩]
 | n :: r, y => if ordC n.x y.x < 0 then n :: insC r y else if n.x = y.x then ⟨n.x, putI n.ks y.k⟩ :: r else ⟨y.x, [y.k]⟩ :: n :: r
def cnI (seats : List Int) (v : List Vt) (i : Nat) : List Cn := (v.take i).foldl (fun o y => if y.k ∈ seats then insC o y else o) []
def cnR (seats : List Int) (v : List Vt) : List Cn := cnI seats v v.length
theorem cnI_succ {seats : List Int} {v : List Vt} {i : Nat} (h : i < v.length) : cnI seats v (i + 1) = if (el v i).k ∈ seats then insC (cnI seats v i) (el v i) else cnI seats v i := by
 simp only [cnI, take_el h, List.foldl_append, List.foldl_cons, List.foldl_nil]
theorem insC_len : ∀ (o : List Cn) (y : Vt), (insC o y).length ≤ o.length + 1
 | [], y => by simp [insC]
 | n :: r, y => by
  have := insC_len r y
  simp only [insC]
  split
  ·simp; omega
  ·split <;> simp
theorem insC_ok {m : Nat} : ∀ {o : List Cn} {y : Vt}, (∀ n ∈ o, okCt n.x ∧ n.ks.length ≤ m) → okCt y.x → ∀ n ∈ insC o y, okCt n.x ∧ n.ks.length ≤ m + 1
 | [], y, _, hy, n, hn => by
  simp only [insC, List.mem_singleton] at hn
  subst hn
  exact ⟨hy, by simp⟩
 | a :: r, y, ho, hy, n, hn => by
  have ha := ho a (by simp)
  simp only [insC] at hn
  split at hn
  ·rcases List.mem_cons.1 hn with rfl | h
   ·exact ⟨ha.1, by omega⟩
   ·exact insC_ok (fun n hn => ho n (by simp [hn])) hy n h
  ·split at hn
   ·rcases List.mem_cons.1 hn with rfl | h
    ·exact ⟨ha.1, by have := putI_len a.ks y.k; simp only; omega⟩
    ·have := ho n (by simp [h])
     exact ⟨this.1, by omega⟩
   ·rcases List.mem_cons.1 hn with rfl | h
    ·exact ⟨hy, by simp⟩
    ·have := ho n h
     exact ⟨this.1, by omega⟩
theorem cnI_ok (seats : List Int) {v : List Vt} (hx : ∀ y ∈ v, okCt y.x) : ∀ i, i ≤ v.length → (cnI seats v i).length ≤ i ∧ ∀ n ∈ cnI seats v i, okCt n.x ∧ n.ks.length ≤ i
 | 0, _ => by simp [cnI]
 | i + 1, h => by
  have ih := cnI_ok seats hx i (by omega)
  have hlt : i < v.length := by omega
  rw [cnI_succ hlt]
  split
  ·exact ⟨Nat.le_trans (insC_len _ _) (by omega), insC_ok ih.2 (hx _ (el_mem hlt))⟩
  ·exact ⟨by omega, fun n hn => ⟨(ih.2 n hn).1, by have := (ih.2 n hn).2; omega⟩⟩
theorem okCt_big {x : Ct} (h : okCt x) : bigC x := ⟨by have := h.1; simp only [big]; omega, by have := Nat.le_trans (pn_len x.pi) h.2; simp only [big]; omega⟩
end Go.Proofs.Am
