/- Who votes twice: the document's. -/
import Derived.Test.YtabmciccahfjiaaGreatDoorDOne
set_option linter.unusedSimpArgs false
set_option linter.unusedVariables false
namespace Go.Proofs.Am
open Go Go.RowKit
open Go.Proofs

def twK (v : List Vt) (i : Nat) (out : List Int) (k : Nat) : List Int :=
  (List.range k).foldl (fun o k => if (el v i).k = (el v k).k ∧ (el v i).x ≠ (el v k).x then putI o (el v i).k else o) out
def twI (v : List Vt) (i : Nat) : List Int := (List.range i).foldl (fun o i => twK v i o i) []
def twR (v : List Vt) : List Int := twI v v.length
theorem twK_zero (v : List Vt) (i : Nat) (out : List Int) : twK v i out 0 = out := rfl
theorem twK_succ (v : List Vt) (i : Nat) (out : List Int) (k : Nat) : twK v i out (k + 1) = if (el v i).k = (el v k).k ∧ (el v i).x ≠ (el v k).x then putI (twK v i out k) (el v i).k else twK v i out k := by
  simp only [twK, List.range_succ, List.foldl_append, List.foldl_cons, List.foldl_nil]
theorem twI_succ (v : List Vt) (i : Nat) : twI v (i + 1) = twK v i (twI v i) i := by
  simp only [twI, List.range_succ, List.foldl_append, List.foldl_cons, List.foldl_nil]
theorem twK_len (v : List Vt) (i : Nat) (out : List Int) : ∀ k, (twK v i out k).length ≤ out.length + k
  | 0 => by simp [twK_zero]
  | k + 1 => by
    have h := twK_len v i out k
    rw [twK_succ]
    split
    · have := putI_len (twK v i out k) (el v i).k
      omega
    · omega
theorem twI_len (v : List Vt) : ∀ i, (twI v i).length ≤ i * i
  | 0 => by simp [twI]
  | i + 1 => by
    have h := twI_len v i
    have h2 := twK_len v i (twI v i) i
    rw [twI_succ]
    have : (i + 1) * (i + 1) = i * i + 2 * i + 1 := by rw [Nat.add_mul, Nat.mul_add]; omega
    omega

set_option maxHeartbeats 1000000 in
set_option maxRecDepth 100000 in
theorem twR_den (v : List Vt) (hv : v.length ≤ 900) (hx : ∀ y ∈ v, bigC y.x) : Den Tryz.prog 14 [.vs (v.map vt7)] [] (.vs ((twR v).map i1)) [] [] := by
  refine den_of Tryz.mixed Tryz.func14 rfl Tryz.call14 Tryz.ntmps14 (congrArg Array.toList Tryz.results14) (by simp) (by kernel_rfl) [] (exts := []) rfl rfl ?_
  simp only [go_sem]
  refine loop Tryz.mixed 0 (fun i : Nat => [(0, .vs (v.map vt7)), (3, .vs ((twI v i).map i1)), (4, .int .i64 i)]) (fun _ => []) (fun i => i ≤ v.length) (fun i => v.length - i) (by kernel_rfl) (Nat.zero_le _) ?_ ?_
  · simp only [go_sem]
    rfl
  · intro i hi
    by_cases hlt : i < v.length
    · have h1 : (i : Int) < (v.length : Int) := by omega
      simp only [go_sem, h1]
      refine loop Tryz.mixed 0 (fun k : Nat => [(0, .vs (v.map vt7)), (3, .vs ((twK v i (twI v i) k).map i1)), (4, .int .i64 i), (5, .int .i64 k)]) (fun _ => []) (fun k => k ≤ i) (fun k => i - k) (by kernel_rfl) (Nat.zero_le _) ?_ ?_
      · simp only [go_sem, twK_zero]
      · intro k hk
        by_cases hlk : k < i
        · have h2 : (k : Int) < (i : Int) := by omega
          have hlk2 : k < v.length := by omega
          have hs := twK_succ v i (twI v i) k
          by_cases e1 : (el v i).k = (el v k).k
          rotate_left
          · rw [if_neg (fun h => e1 h.1)] at hs
            simp only [go_sem, h2, hlt, hlk2, e1]
            refine ⟨okD_of (by kernel_rfl), k + 1, ⟨by omega, by omega⟩, ?_⟩
            simp only [go_sem, hs]
            rw [wrapI] <;> omega
          simp only [go_sem, h2, hlt, hlk2, e1]
          have c1 := hx (el v i) (el_mem hlt)
          have c2 := hx (el v k) (el_mem hlk2)
          refine call (order23_den (el v i).x (el v k).x c1.1 c1.2 c2.1 c2.2) [] ?_
          by_cases e2 : ordC (el v i).x (el v k).x = 0
          · rw [if_neg (fun h => h.2 ((ordC_eq _ _).1 e2))] at hs
            simp only [go_sem, e2]
            refine ⟨okD_of (by kernel_rfl), k + 1, ⟨by omega, by omega⟩, ?_⟩
            simp only [go_sem, hs]
            rw [wrapI] <;> omega
          · rw [if_pos ⟨e1, fun h => e2 ((ordC_eq _ _).2 h)⟩] at hs
            simp only [go_sem, e2, hlt]
            refine ⟨okD_of (by kernel_rfl), ?_⟩
            refine call (put27_den (twK v i (twI v i) k) (el v i).k ?_) [] ?_
            · have b1 := twK_len v i (twI v i) k
              have b2 := twI_len v i
              have b3 : i * i ≤ 900 * 900 := Nat.mul_le_mul (by omega) (by omega)
              omega
            simp only [go_sem]
            refine ⟨k + 1, ⟨by omega, by omega⟩, ?_⟩
            simp only [go_sem, hs]
            rw [wrapI] <;> omega
        · have h2 : ¬ (k : Int) < (i : Int) := by omega
          have : k = i := by omega
          subst this
          simp only [go_sem, h2]
          refine ⟨k + 1, ⟨by omega, by omega⟩, ?_⟩
          rw [twI_succ]
          simp only [go_sem]
          rw [wrapI] <;> omega
    · have h1 : ¬ (i : Int) < (v.length : Int) := by omega
      have : i = v.length := by omega
      subst this
      simp only [go_sem, h1]
      rfl
end Go.Proofs.Am

/- Counts: the document's. -/
namespace Go.Proofs.Am
open Go Go.RowKit
open Go.Proofs

/-- A vote is put into the counts. -/
def insC : List Cn → Vt → List Cn
  | [], y => [⟨y.x, [y.k]⟩]
  | n :: r, y => if ordC n.x y.x < 0 then n :: insC r y else if n.x = y.x then ⟨n.x, putI n.ks y.k⟩ :: r else ⟨y.x, [y.k]⟩ :: n :: r
def cnI (seats : List Int) (v : List Vt) (i : Nat) : List Cn := (v.take i).foldl (fun o y => if y.k ∈ seats then insC o y else o) []
def cnR (seats : List Int) (v : List Vt) : List Cn := cnI seats v v.length
theorem cnI_succ {seats : List Int} {v : List Vt} {i : Nat} (h : i < v.length) : cnI seats v (i + 1) = if (el v i).k ∈ seats then insC (cnI seats v i) (el v i) else cnI seats v i := by
  simp only [cnI, take_el h, List.foldl_append, List.foldl_cons, List.foldl_nil]
theorem insC_len : ∀ (o : List Cn) (y : Vt), (insC o y).length ≤ o.length + 1
  | [], y => by simp [insC]
  | n :: r, y => by
    have := insC_len r y
    simp only [insC]
    split
    · simp; omega
    · split <;> simp
theorem insC_at : ∀ (o : List Cn) (y : Vt) (k : Nat), k ≤ o.length → (∀ j, j < k → ordC (el o j).x y.x < 0) → (k < o.length → ¬ ordC (el o k).x y.x < 0) →
    insC o y = if k < o.length ∧ (el o k).x = y.x then o.set k ⟨y.x, putI (el o k).ks y.k⟩ else o.take k ++ (⟨y.x, [y.k]⟩ :: o.drop k)
  | [], y, k, hk, _, _ => by
    have : k = 0 := by simpa using hk
    subst this
    simp [insC]
  | n :: r, y, 0, _, _, h2 => by
    have h := h2 (by simp)
    have e0 : el (n :: r) 0 = n := rfl
    rw [e0] at h ⊢
    simp only [insC, if_neg h]
    by_cases he : n.x = y.x
    · simp [he]
    · simp [he]
  | n :: r, y, k + 1, hk, h1, h2 => by
    have h0 : ordC n.x y.x < 0 := h1 0 (by omega)
    have ih := insC_at r y k (by simpa using hk) (fun j hj => h1 (j + 1) (by omega)) (fun hl => h2 (by simpa using hl))
    simp only [insC, if_pos h0, ih]
    have e1 : el (n :: r) (k + 1) = el r k := rfl
    rw [e1]
    by_cases hc : k < r.length ∧ (el r k).x = y.x
    · rw [if_pos hc, if_pos ⟨by simp; exact hc.1, hc.2⟩]
      simp
    · rw [if_neg hc, if_neg (fun h => hc ⟨by simpa using h.1, h.2⟩)]
      simp

theorem insC_ok {m : Nat} : ∀ {o : List Cn} {y : Vt}, (∀ n ∈ o, okCt n.x ∧ n.ks.length ≤ m) → okCt y.x → ∀ n ∈ insC o y, okCt n.x ∧ n.ks.length ≤ m + 1
  | [], y, _, hy, n, hn => by
    simp only [insC, List.mem_singleton] at hn
    subst hn
    exact ⟨hy, by simp⟩
  | a :: r, y, ho, hy, n, hn => by
    have ha := ho a (by simp)
    simp only [insC] at hn
    split at hn
    · rcases List.mem_cons.1 hn with rfl | h
      · exact ⟨ha.1, by omega⟩
      · exact insC_ok (fun n hn => ho n (by simp [hn])) hy n h
    · split at hn
      · rcases List.mem_cons.1 hn with rfl | h
        · exact ⟨ha.1, by have := putI_len a.ks y.k; simp only; omega⟩
        · have := ho n (by simp [h])
          exact ⟨this.1, by omega⟩
      · rcases List.mem_cons.1 hn with rfl | h
        · exact ⟨hy, by simp⟩
        · have := ho n h
          exact ⟨this.1, by omega⟩
theorem cnI_ok (seats : List Int) {v : List Vt} (hx : ∀ y ∈ v, okCt y.x) : ∀ i, i ≤ v.length → (cnI seats v i).length ≤ i ∧ ∀ n ∈ cnI seats v i, okCt n.x ∧ n.ks.length ≤ i
  | 0, _ => by simp [cnI]
  | i + 1, h => by
    have ih := cnI_ok seats hx i (by omega)
    have hlt : i < v.length := by omega
    rw [cnI_succ hlt]
    split
    · exact ⟨Nat.le_trans (insC_len _ _) (by omega), insC_ok ih.2 (hx _ (el_mem hlt))⟩
    · exact ⟨by omega, fun n hn => ⟨(ih.2 n hn).1, by have := (ih.2 n hn).2; omega⟩⟩
theorem okCt_big {x : Ct} (h : okCt x) : bigC x := ⟨by have := h.1; simp only [big]; omega, by have := Nat.le_trans (pn_len x.pi) h.2; simp only [big]; omega⟩

set_option maxHeartbeats 1000000 in
set_option maxRecDepth 100000 in
theorem cnR_den (seats : List Int) (v : List Vt) (hv : v.length ≤ 900) (hs : big seats.length) (hx : ∀ y ∈ v, okCt y.x) : Den Tryz.prog 11 [.vs (v.map vt7), .vs (seats.map i1)] [] (.vs ((cnR seats v).map cn3)) [] [] := by
  refine den_of Tryz.mixed Tryz.func11 rfl Tryz.call11 Tryz.ntmps11 (congrArg Array.toList Tryz.results11) (by simp) (by kernel_rfl) [] (exts := []) rfl rfl ?_
  simp only [go_sem]
  refine promote 5 99 50 3 false ?_ ?_ ?_ (by omega)
  · refine loopC Tryz.mixed 0 (fun i : Nat => [(0, .vs (v.map vt7)), (1, .vs (seats.map i1)), (5, .os 99 (cnI seats v i).length), (6, .int .i64 i)]) (fun i => [(99, .arr 50 3 false ((cnI seats v i).map cn3))]) (fun i => i ≤ v.length) (fun i => v.length - i) (by kernel_rfl) (Nat.zero_le _) ?_ ?_
    · refine Cv.wk ?_
      simp only [go_sem]
      exact ⟨rfl, rfl⟩
    · intro i hi
      by_cases hlt : i < v.length
      · have h1 : (i : Int) < (v.length : Int) := by omega
        obtain ⟨ol, oh⟩ := cnI_ok seats hx i hi
        have hsu := cnI_succ (seats := seats) hlt
        have hox := hx (el v i) (el_mem hlt)
        have hbx := okCt_big hox
        simp only [go_sem, h1, hlt]
        refine call (has24 seats (el v i).k hs) [] ?_
        by_cases hk : (el v i).k ∈ seats
        rotate_left
        · rw [if_neg hk] at hsu
          simp only [go_sem, hk]
          refine ⟨i + 1, ⟨by omega, by omega⟩, Cv.wk ?_⟩
          simp only [go_sem, hsu]
          rw [wrapI] <;> omega
        rw [if_pos hk] at hsu
        generalize hO : cnI seats v i = o at *
        simp only [go_sem, hk]
        refine loopC Tryz.mixed 0 (fun k : Nat => [(0, .vs (v.map vt7)), (1, .vs (seats.map i1)), (5, .os 99 o.length), (6, .int .i64 i), (7, .int .i64 k)]) (fun _ => [(99, .arr 50 3 false (o.map cn3))]) (fun k => k ≤ o.length ∧ ∀ j, j < k → ordC (el o j).x (el v i).x < 0) (fun k => o.length - k) (by kernel_rfl) ⟨Nat.zero_le _, fun j hj => by omega⟩ ?_ ?_
        · refine Cv.wk ?_
          simp only [go_sem]
        rintro k ⟨hk1, hk2⟩
        by_cases hkl : k < o.length
        · have h2 : (k : Int) < (o.length : Int) := by omega
          have hok := oh (el o k) (el_mem hkl)
          have hbk := okCt_big hok.1
          simp only [go_sem, h2, hkl, hlt]
          refine call (order23_den (el o k).x (el v i).x hbk.1 hbk.2 hbx.1 hbx.2) [] ?_
          by_cases z1 : ordC (el o k).x (el v i).x < 0
          · simp only [go_sem, z1]
            refine ⟨okD_of (by kernel_rfl), k + 1, ⟨⟨by omega, fun j hj => ?_⟩, by omega⟩, Cv.wk ?_⟩
            · rcases Nat.lt_succ_iff_lt_or_eq.1 hj with h | h
              · exact hk2 j h
              · rw [h]; exact z1
            · simp only [go_sem]
              rw [wrapI] <;> omega
          have hia := insC_at o (el v i) k hk1 hk2 (fun _ => z1)
          have hne : ¬ (k : Int) = (o.length : Int) := by omega
          by_cases z2 : ordC (el o k).x (el v i).x = 0
          · have z3 := (ordC_eq _ _).1 z2
            rw [if_pos ⟨hkl, z3⟩] at hia
            simp only [go_sem, z1]
            refine ⟨okD_of (by kernel_rfl), cvQ_exit _ _ ?_⟩
            simp only [go_sem, hne, hkl, hlt]
            refine call (order23_den (el o k).x (el v i).x hbk.1 hbk.2 hbx.1 hbx.2) [] ?_
            simp only [go_sem, z2, hkl, hlt]
            refine ⟨okD_of (by kernel_rfl), ?_⟩
            refine call (put27_den (el o k).ks (el v i).k (by omega)) [] ?_
            simp only [go_sem, hkl, hlt]
            refine ⟨okD_of (by kernel_rfl), i + 1, ⟨by omega, by omega⟩, Cv.wk ?_⟩
            simp only [go_sem, hsu, hia]
            refine ⟨⟨by simp, by rw [wrapI] <;> omega⟩, ?_⟩
            rw [List.map_set]
            congr 1
            rw [cn3_eq, ← z3]
          · rw [if_neg (fun h => z2 ((ordC_eq _ _).2 h.2))] at hia
            simp only [go_sem, z1]
            refine ⟨okD_of (by kernel_rfl), ?_⟩
            refine ⟨_, _, Cv.trans (fr' := [(0, .vs (v.map vt7)), (1, .vs (seats.map i1)), (5, .os 99 o.length), (6, .int .i64 i), (7, .int .i64 k)]) (σ' := [(99, .arr 50 3 false (o.map cn3))]) (Cv.wk ?_) (Cv.asL (n := 99) (slot := 5) (e := 50) (sz := 3) (sh := false) (xs := o.map cn3) (by simp [look]) (by simp [find])), ?_⟩
            · simp only [go_sem]
            simp only [go_sem, hne, hkl, hlt]
            refine call (order23_den (el o k).x (el v i).x hbk.1 hbk.2 hbx.1 hbx.2) [] ?_
            simp only [go_sem, z2, hkl, hlt]
            refine ⟨okD_of (by kernel_rfl), ?_⟩
            have lt : (o.take k).length = k := by simp; omega
            have ld : ((o.take o.length).drop k).length = o.length - k := by simp
            (repeat refine And.intro (by first | omega | exact okD_of (by kernel_rfl)) ?_)
            refine call (copyR_den (el v i).x hox) [] ?_
            simp only [go_sem, lt, ld]
            (repeat refine And.intro (by first | omega | exact okD_of (by kernel_rfl)) ?_)
            have hz : List.map cn3 (List.take k o) ++ [[PV.vs (List.map i1 (el v i).x.li), PV.vs (List.map pn (el v i).x.pi), PV.vs []]] ++ List.map cn3 (List.drop k (List.take o.length o)) = (o.take k ++ ⟨(el v i).x, []⟩ :: o.drop k).map cn3 := by simp [cn3]
            have hzl : k < (o.take k ++ (⟨(el v i).x, []⟩ : Cn) :: o.drop k).length := by simp; omega
            have hze : el (o.take k ++ (⟨(el v i).x, []⟩ : Cn) :: o.drop k) k = ⟨(el v i).x, []⟩ := by simp [el, List.getD_eq_getElem?_getD, lt]
            have hzs : (o.take k ++ (⟨(el v i).x, []⟩ : Cn) :: o.drop k).set k ⟨(el v i).x, [(el v i).k]⟩ = insC o (el v i) := by rw [hia]; simp [List.set_append, lt]
            have hzn : (o.take k ++ (⟨(el v i).x, []⟩ : Cn) :: o.drop k).length = k + 1 + (o.length - k) := by simp; omega
            rw [hz]
            generalize (o.take k ++ (⟨(el v i).x, []⟩ : Cn) :: o.drop k) = Z at *
            rw [← hzn]
            have hzr : rowAt (List.map cn3 Z) k = cn3 ⟨(el v i).x, []⟩ := by rw [rowAt_map cn3 Z k hzl, hze]
            rw [hzr]
            simp only [go_sem, hzl, hlt]
            refine call (put27_den [] (el v i).k (by simp)) [] ?_
            simp only [go_sem, hzl, hzr]
            have hzm : (List.map cn3 Z).set k [PV.vs (List.map i1 (el v i).x.li), PV.vs (List.map pn (el v i).x.pi), PV.vs (List.map i1 (putI [] (el v i).k))] = List.map cn3 (insC o (el v i)) := by
              rw [← hzs, List.map_set]
              rfl
            have hzk : Z.length = (insC o (el v i)).length := by rw [← hzs, List.length_set]
            refine ⟨okD_of (by kernel_rfl), i + 1, ⟨by omega, by omega⟩, Cv.trans (fr' := [(0, .vs (v.map vt7)), (1, .vs (seats.map i1)), (5, .os 60 Z.length), (6, .int .i64 (i + 1 : Nat))]) (σ' := [(60, .arr 50 3 false ((insC o (el v i)).map cn3))]) (Cv.wk ?_) (Cv.wkR [(60, 99)] ?_)⟩
            · simp only [go_sem, hzm]
              rw [hze]
              exact ⟨by rw [wrapI] <;> omega, hzm⟩
            · simp only [go_sem, hsu, hzk]
        · have h2 : ¬ (k : Int) < (o.length : Int) := by omega
          have hko : ((k : Int) = (o.length : Int)) = True := by simp; omega
          have hia := insC_at o (el v i) k hk1 hk2 (fun h => absurd h hkl)
          rw [if_neg (fun h => hkl h.1)] at hia
          simp only [go_sem, h2]
          refine ⟨okD_of (by kernel_rfl), ?_⟩
          refine ⟨_, _, Cv.trans (fr' := [(0, .vs (v.map vt7)), (1, .vs (seats.map i1)), (5, .os 99 o.length), (6, .int .i64 i), (7, .int .i64 k)]) (σ' := [(99, .arr 50 3 false (o.map cn3))]) (Cv.wk ?_) (Cv.asL (n := 99) (slot := 5) (e := 50) (sz := 3) (sh := false) (xs := o.map cn3) (by simp [look]) (by simp [find])), ?_⟩
          · simp only [go_sem]
          simp only [go_sem, h2, hko, hlt]
          refine ⟨okD_of (by kernel_rfl), ?_⟩
          have lt : (o.take k).length = k := by simp; omega
          have ld : ((o.take o.length).drop k).length = o.length - k := by simp
          (repeat refine And.intro (by first | omega | exact okD_of (by kernel_rfl)) ?_)
          refine call (copyR_den (el v i).x hox) [] ?_
          simp only [go_sem, lt, ld]
          (repeat refine And.intro (by first | omega | exact okD_of (by kernel_rfl)) ?_)
          have hz : List.map cn3 (List.take k o) ++ [[PV.vs (List.map i1 (el v i).x.li), PV.vs (List.map pn (el v i).x.pi), PV.vs []]] ++ List.map cn3 (List.drop k (List.take o.length o)) = (o.take k ++ ⟨(el v i).x, []⟩ :: o.drop k).map cn3 := by simp [cn3]
          have hzl : k < (o.take k ++ (⟨(el v i).x, []⟩ : Cn) :: o.drop k).length := by simp; omega
          have hze : el (o.take k ++ (⟨(el v i).x, []⟩ : Cn) :: o.drop k) k = ⟨(el v i).x, []⟩ := by simp [el, List.getD_eq_getElem?_getD, lt]
          have hzs : (o.take k ++ (⟨(el v i).x, []⟩ : Cn) :: o.drop k).set k ⟨(el v i).x, [(el v i).k]⟩ = insC o (el v i) := by rw [hia]; simp [List.set_append, lt]
          have hzn : (o.take k ++ (⟨(el v i).x, []⟩ : Cn) :: o.drop k).length = k + 1 + (o.length - k) := by simp; omega
          rw [hz]
          generalize (o.take k ++ (⟨(el v i).x, []⟩ : Cn) :: o.drop k) = Z at *
          rw [← hzn]
          have hzr : rowAt (List.map cn3 Z) k = cn3 ⟨(el v i).x, []⟩ := by rw [rowAt_map cn3 Z k hzl, hze]
          rw [hzr]
          simp only [go_sem, hzl, hlt]
          refine call (put27_den [] (el v i).k (by simp)) [] ?_
          simp only [go_sem, hzl, hzr]
          have hzm : (List.map cn3 Z).set k [PV.vs (List.map i1 (el v i).x.li), PV.vs (List.map pn (el v i).x.pi), PV.vs (List.map i1 (putI [] (el v i).k))] = List.map cn3 (insC o (el v i)) := by
            rw [← hzs, List.map_set]
            rfl
          have hzk : Z.length = (insC o (el v i)).length := by rw [← hzs, List.length_set]
          refine ⟨okD_of (by kernel_rfl), i + 1, ⟨by omega, by omega⟩, Cv.trans (fr' := [(0, .vs (v.map vt7)), (1, .vs (seats.map i1)), (5, .os 60 Z.length), (6, .int .i64 (i + 1 : Nat))]) (σ' := [(60, .arr 50 3 false ((insC o (el v i)).map cn3))]) (Cv.wk ?_) (Cv.wkR [(60, 99)] ?_)⟩
          · simp only [go_sem, hzm]
            rw [hze]
            exact ⟨by rw [wrapI] <;> omega, hzm⟩
          · simp only [go_sem, hsu, hzk]
      · have h1 : ¬ (i : Int) < (v.length : Int) := by omega
        have : i = v.length := by omega
        subst this
        simp only [go_sem, h1]
        refine cvQ_exit _ _ ?_
        simp only [go_sem]
        rfl
  · simp only [go_sem]
  · simp only [go_sem]
end Go.Proofs.Am
