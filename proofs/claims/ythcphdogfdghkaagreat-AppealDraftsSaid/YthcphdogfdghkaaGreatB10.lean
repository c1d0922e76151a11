/- Statements: their bytes. -/
import Derived.Test.YthcphdogfdghkaaGreatB9
set_option linter.unusedSimpArgs false
set_option linter.unusedVariables false
namespace Go.Proofs.Am
open Go Go.RowKit
open Go.Proofs

/-- A pin. -/
structure Pn where
  au : Int
  he : Int
  di : List UInt8
deriving Inhabited, DecidableEq
/-- A statement. -/
structure Stm where
  au : Int
  nu : Int
  prev : List UInt8
  ti : Int
  kd : Int
  a : Int
  b : Int
  c : Int
  li : List Int
  pins : List Pn
  body : List UInt8
  sk : Int
  sd : List UInt8
deriving Inhabited, DecidableEq

def pn (p : Pn) : List PV := [.int .i64 p.au, .int .i64 p.he, .str p.di]
theorem pn_eq (p : Pn) : pn p = [.int .i64 p.au, .int .i64 p.he, .str p.di] := (rfl)
def sm (s : Stm) : List PV := [.int .i64 s.au, .int .i64 s.nu, .str s.prev, .int .i64 s.ti, .int .i64 s.kd, .int .i64 s.a, .int .i64 s.b, .int .i64 s.c, .vs (s.li.map i1), .vs (s.pins.map pn), .str s.body, .int .i64 s.sk, .str s.sd]
theorem sm_eq (s : Stm) : sm s = [.int .i64 s.au, .int .i64 s.nu, .str s.prev, .int .i64 s.ti, .int .i64 s.kd, .int .i64 s.a, .int .i64 s.b, .int .i64 s.c, .vs (s.li.map i1), .vs (s.pins.map pn), .str s.body, .int .i64 s.sk, .str s.sd] := (rfl)
attribute [go_sem] pn_eq sm_eq

def txB (s : List UInt8) : List UInt8 := be8 s.length ++ s
def pnB (p : Pn) : List UInt8 := be8 p.au ++ (be8 p.he ++ txB p.di)
def hdB (s : Stm) : List UInt8 := be8 s.au ++ (be8 s.nu ++ txB s.prev)
def l5 (s : Stm) : List Int := [s.ti, s.kd, s.a, s.b, s.c]
def pre1 (s : Stm) : List UInt8 := hdB s ++ beL (l5 s)
def pre2 (s : Stm) : List UInt8 := pre1 s ++ ((be8 s.li.length ++ beL s.li) ++ be8 s.pins.length)
def stB (s : Stm) : List UInt8 := (pre2 s ++ s.pins.flatMap pnB) ++ txB s.body
/-- A statement that is not too long. -/
def okS (s : Stm) : Prop := (stB s).length ≤ 1000000000
theorem txB_len (s : List UInt8) : (txB s).length = 8 + s.length := by simp [txB, be8_len]
theorem pinB_take {l : List Pn} {i : Nat} (h : i < l.length) : (l.take (i + 1)).flatMap pnB = (l.take i).flatMap pnB ++ pnB (el l i) := by
  rw [take_el h]
  simp
theorem flat_take_le (l : List Pn) (i : Nat) : ((l.take i).flatMap pnB).length ≤ (l.flatMap pnB).length := by
  have h : l.flatMap pnB = (l.take i).flatMap pnB ++ (l.drop i).flatMap pnB := by rw [← List.flatMap_append, List.take_append_drop]
  rw [h, List.length_append]; omega
theorem flat_step {l : List Pn} {i : Nat} (h : i < l.length) : ((l.take i).flatMap pnB).length + (24 + (el l i).di.length) ≤ (l.flatMap pnB).length := by
  have h1 := flat_take_le l (i + 1)
  rw [pinB_take h, List.length_append] at h1
  simp only [pnB, List.length_append, be8_len, txB_len] at h1
  omega

theorem flat_ge (l : List Pn) : 24 * l.length ≤ (l.flatMap pnB).length := by
  induction l with
  | nil => simp
  | cons p r ih => simp only [List.flatMap_cons, List.length_append, List.length_cons, pnB, be8_len, txB_len]; omega

theorem rintv (bs : List UInt8) (v : Int) (hb : small bs.length) : Den Tryz.prog 76 [.vs (bs.map u8), .int .i64 v] [] (.vs ((bs ++ be8 v).map u8)) [] [] :=
  (rint_den bs v hb).vs (by simp) trivial rfl
theorem rtextv (bs s : List UInt8) (hb : small bs.length) (hs : small s.length) : Den Tryz.prog 75 [.vs (bs.map u8), .str s] [] (.vs ((bs ++ txB s).map u8)) [] [] :=
  (rtext_den bs s hb hs).vs (by simp [txB]) trivial rfl
theorem rintsv (bs : List UInt8) (l : List Int) (hb : bs.length ≤ 1000000000) (hl : l.length ≤ 1000000000) : Den Tryz.prog 77 [.vs (bs.map u8), .vs (l.map i1)] [] (.vs ((bs ++ (be8 l.length ++ beL l)).map u8)) [] [] := rints_den bs l hb hl
theorem wintv (bs : List UInt8) (v : Int) (hb : small bs.length) : Den Tryz.prog 80 [.vs (bs.map u8), .int .i64 v] [] (.vs ((bs ++ be8 v).map u8)) [] [] :=
  (wint_den bs v hb).vs (by simp) trivial rfl
theorem wtextv (bs s : List UInt8) (hb : small bs.length) (hs : small s.length) : Den Tryz.prog 81 [.vs (bs.map u8), .str s] [] (.vs ((bs ++ txB s).map u8)) [] [] :=
  (wtext_den bs s hb hs).vs (by simp [txB]) trivial rfl
theorem wintsv (bs : List UInt8) (l : List Int) (hb : bs.length ≤ 1000000000) (hl : l.length ≤ 1000000000) : Den Tryz.prog 82 [.vs (bs.map u8), .vs (l.map i1)] [] (.vs ((bs ++ (be8 l.length ++ beL l)).map u8)) [] [] :=
  (wints_den bs l hb hl).vs (by simp) trivial rfl

set_option maxRecDepth 100000 in
theorem rbytes_den (s : Stm) (hs : okS s) : Den Tryz.prog 63 [.agg (sm s)] [] (.vs ((stB s).map u8)) [] [] := by
  refine den_of Tryz.mixed Tryz.func63 rfl Tryz.call63 Tryz.ntmps63 (congrArg Array.toList Tryz.results63) (by simp) (by kernel_rfl) [] (exts := []) rfl rfl ?_
  simp only [okS, stB, pre2, pre1, hdB, List.length_append, beL_len, be8_len, txB_len, l5, List.length_cons, List.length_nil] at hs
  simp only [go_sem, ↓reduceIte, reduceCtorEq, Nat.reduceEqDiff, Nat.reduceAdd, Nat.reduceSub, Nat.reduceMul, Nat.reduceLT, Nat.reduceLeDiff, Int.reduceLT, Int.reduceLE, Int.reduceEq, Int.reduceNe, Int.reduceToNat, Int.reduceAdd, Int.reduceSub, Int.reduceMul, Int.natCast_zero]
  refine call (rintv [] s.au (by simp only [small, List.length_nil]; omega)) [] ?_
  simp only [go_sem, ↓reduceIte, reduceCtorEq, Nat.reduceEqDiff, Nat.reduceAdd, Nat.reduceSub, Nat.reduceMul, Nat.reduceLT, Nat.reduceLeDiff, Int.reduceLT, Int.reduceLE, Int.reduceEq, Int.reduceNe, Int.reduceToNat, Int.reduceAdd, Int.reduceSub, Int.reduceMul, Int.natCast_zero]
  refine call (rintv (be8 s.au) s.nu (by simp only [small, be8_len]; omega)) [] ?_
  simp only [go_sem, ↓reduceIte, reduceCtorEq, Nat.reduceEqDiff, Nat.reduceAdd, Nat.reduceSub, Nat.reduceMul, Nat.reduceLT, Nat.reduceLeDiff, Int.reduceLT, Int.reduceLE, Int.reduceEq, Int.reduceNe, Int.reduceToNat, Int.reduceAdd, Int.reduceSub, Int.reduceMul, Int.natCast_zero]
  refine call (rtextv (be8 s.au ++ be8 s.nu) s.prev (by simp only [small, List.length_append, be8_len]; omega) (by simp only [small]; omega)) [] ?_
  simp only [go_sem, ↓reduceIte, reduceCtorEq, Nat.reduceEqDiff, Nat.reduceAdd, Nat.reduceSub, Nat.reduceMul, Nat.reduceLT, Nat.reduceLeDiff, Int.reduceLT, Int.reduceLE, Int.reduceEq, Int.reduceNe, Int.reduceToNat, Int.reduceAdd, Int.reduceSub, Int.reduceMul, Int.natCast_zero]
  (repeat refine And.intro (by first | omega | exact okD_of (by kernel_rfl)) ?_)
  have hh : (hdB s).length = 24 + s.prev.length := by simp only [hdB, List.length_append, be8_len, txB_len]; omega
  refine loop Tryz.mixed 0 (fun i : Nat => [(1, .ptr 1 0), (3, .vs ((hdB s ++ beL ((l5 s).take i)).map u8)), (27, .vs ((l5 s).map i1)), (28, .int .i64 5), (29, .int .i64 i)]) (fun i => [(1, .cells (sm s))]) (fun i => i ≤ 5) (fun i => 5 - i) (by kernel_rfl) ?_ ?_ ?_
  · simp
  · simp only [go_sem, ↓reduceIte, reduceCtorEq, Nat.reduceEqDiff, Nat.reduceAdd, Nat.reduceSub, Nat.reduceMul, Nat.reduceLT, Nat.reduceLeDiff, Int.reduceLT, Int.reduceLE, Int.reduceEq, Int.reduceNe, Int.reduceToNat, Int.reduceAdd, Int.reduceSub, Int.reduceMul, Int.natCast_zero, hdB, List.append_assoc, List.take_zero, beL, List.flatMap_nil, l5, txB]
  · intro i hi
    have hl5 : (l5 s).length = 5 := rfl
    have htl : ((l5 s).take i).length = i := by simp [hl5]; omega
    simp only [go_sem, ↓reduceIte, reduceCtorEq, Nat.reduceEqDiff, Nat.reduceAdd, Nat.reduceSub, Nat.reduceMul, Nat.reduceLT, Nat.reduceLeDiff, Int.reduceLT, Int.reduceLE, Int.reduceEq, Int.reduceNe, Int.reduceToNat, Int.reduceAdd, Int.reduceSub, Int.reduceMul, Int.natCast_zero, hl5]
    refine ⟨fun h => ⟨by omega, ?_⟩, fun h => ?_⟩
    · refine call (rintv (hdB s ++ beL ((l5 s).take i)) (el (l5 s) i) (by simp only [small, List.length_append, hh, beL_len, htl]; omega)) [] ?_
      simp only [go_sem, ↓reduceIte, reduceCtorEq, Nat.reduceEqDiff, Nat.reduceAdd, Nat.reduceSub, Nat.reduceMul, Nat.reduceLT, Nat.reduceLeDiff, Int.reduceLT, Int.reduceLE, Int.reduceEq, Int.reduceNe, Int.reduceToNat, Int.reduceAdd, Int.reduceSub, Int.reduceMul, Int.natCast_zero]
      refine ⟨i + 1, ⟨by omega, by omega⟩, ?_, ?_⟩
      · rw [take_el (by omega), beL_append, List.append_assoc]; simp [beL]
      · rw [wrapI] <;> omega
    · have hi5 : i = 5 := by omega
      subst hi5
      have hp1 : hdB s ++ beL ((l5 s).take 5) = pre1 s := rfl
      have hp1l : (pre1 s).length = 64 + s.prev.length := by simp only [pre1, List.length_append, hh, beL_len, hl5]; omega
      rw [hp1]
      refine call (rintsv (pre1 s) s.li (by omega) (by omega)) [] ?_
      simp only [go_sem, ↓reduceIte, reduceCtorEq, Nat.reduceEqDiff, Nat.reduceAdd, Nat.reduceSub, Nat.reduceMul, Nat.reduceLT, Nat.reduceLeDiff, Int.reduceLT, Int.reduceLE, Int.reduceEq, Int.reduceNe, Int.reduceToNat, Int.reduceAdd, Int.reduceSub, Int.reduceMul, Int.natCast_zero]
      refine call (rintv (pre1 s ++ (be8 s.li.length ++ beL s.li)) s.pins.length (by simp only [small, List.length_append, hp1l, beL_len, be8_len]; omega)) [] ?_
      simp only [go_sem, ↓reduceIte, reduceCtorEq, Nat.reduceEqDiff, Nat.reduceAdd, Nat.reduceSub, Nat.reduceMul, Nat.reduceLT, Nat.reduceLeDiff, Int.reduceLT, Int.reduceLE, Int.reduceEq, Int.reduceNe, Int.reduceToNat, Int.reduceAdd, Int.reduceSub, Int.reduceMul, Int.natCast_zero]
      (repeat refine And.intro (by first | omega | exact okD_of (by kernel_rfl)) ?_)
      have hp2l : (pre2 s).length = 80 + s.prev.length + 8 * s.li.length := by simp only [pre2, List.length_append, hp1l, beL_len, be8_len]; omega
      refine loop Tryz.mixed 0 (fun i : Nat => [(1, .ptr 1 0), (3, .vs ((pre2 s ++ (s.pins.take i).flatMap pnB).map u8)), (6, .int .i64 i)]) (fun i => [(1, .cells (sm s))]) (fun i => i ≤ s.pins.length) (fun i => s.pins.length - i) (by kernel_rfl) ?_ ?_ ?_
      · simp
      · simp only [go_sem, ↓reduceIte, reduceCtorEq, Nat.reduceEqDiff, Nat.reduceAdd, Nat.reduceSub, Nat.reduceMul, Nat.reduceLT, Nat.reduceLeDiff, Int.reduceLT, Int.reduceLE, Int.reduceEq, Int.reduceNe, Int.reduceToNat, Int.reduceAdd, Int.reduceSub, Int.reduceMul, Int.natCast_zero, pre2, List.append_assoc, List.take_zero, List.flatMap_nil]
      · intro i hi
        by_cases hi' : i < s.pins.length
        · have hfs := flat_step hi'
          have hfg := flat_ge s.pins
          simp only [go_sem, ↓reduceIte, reduceCtorEq, Nat.reduceEqDiff, Nat.reduceAdd, Nat.reduceSub, Nat.reduceMul, Nat.reduceLT, Nat.reduceLeDiff, Int.reduceLT, Int.reduceLE, Int.reduceEq, Int.reduceNe, Int.reduceToNat, Int.reduceAdd, Int.reduceSub, Int.reduceMul, Int.natCast_zero]
          refine ⟨fun _ => ⟨by omega, ?_⟩, fun h => by omega⟩
          refine call (rintv (pre2 s ++ (s.pins.take i).flatMap pnB) (el s.pins i).au (by simp only [small, List.length_append, hp2l]; omega)) [] ?_
          simp only [go_sem, ↓reduceIte, reduceCtorEq, Nat.reduceEqDiff, Nat.reduceAdd, Nat.reduceSub, Nat.reduceMul, Nat.reduceLT, Nat.reduceLeDiff, Int.reduceLT, Int.reduceLE, Int.reduceEq, Int.reduceNe, Int.reduceToNat, Int.reduceAdd, Int.reduceSub, Int.reduceMul, Int.natCast_zero]
          refine call (rintv (pre2 s ++ (s.pins.take i).flatMap pnB ++ be8 (el s.pins i).au) (el s.pins i).he (by simp only [small, List.length_append, hp2l, be8_len]; omega)) [] ?_
          simp only [go_sem, ↓reduceIte, reduceCtorEq, Nat.reduceEqDiff, Nat.reduceAdd, Nat.reduceSub, Nat.reduceMul, Nat.reduceLT, Nat.reduceLeDiff, Int.reduceLT, Int.reduceLE, Int.reduceEq, Int.reduceNe, Int.reduceToNat, Int.reduceAdd, Int.reduceSub, Int.reduceMul, Int.natCast_zero]
          refine call (rtextv (pre2 s ++ (s.pins.take i).flatMap pnB ++ be8 (el s.pins i).au ++ be8 (el s.pins i).he) (el s.pins i).di (by simp only [small, List.length_append, hp2l, be8_len]; omega) (by simp only [small]; omega)) [] ?_
          simp only [go_sem, ↓reduceIte, reduceCtorEq, Nat.reduceEqDiff, Nat.reduceAdd, Nat.reduceSub, Nat.reduceMul, Nat.reduceLT, Nat.reduceLeDiff, Int.reduceLT, Int.reduceLE, Int.reduceEq, Int.reduceNe, Int.reduceToNat, Int.reduceAdd, Int.reduceSub, Int.reduceMul, Int.natCast_zero]
          (repeat refine And.intro (by first | omega | exact okD_of (by kernel_rfl)) ?_)
          refine ⟨i + 1, ⟨by omega, by omega⟩, ?_, ?_⟩
          · rw [pinB_take hi']; simp only [pnB, List.append_assoc]
          · rw [wrapI] <;> omega
        · have hi2 : i = s.pins.length := by omega
          have hf : ¬ ((i : Int) < (s.pins.length : Int)) := by omega
          simp only [go_sem, ↓reduceIte, reduceCtorEq, Nat.reduceEqDiff, Nat.reduceAdd, Nat.reduceSub, Nat.reduceMul, Nat.reduceLT, Nat.reduceLeDiff, Int.reduceLT, Int.reduceLE, Int.reduceEq, Int.reduceNe, Int.reduceToNat, Int.reduceAdd, Int.reduceSub, Int.reduceMul, Int.natCast_zero, hf]
          rw [hi2, List.take_length]
          refine call (rtextv (pre2 s ++ s.pins.flatMap pnB) s.body (by simp only [small, List.length_append, hp2l]; omega) (by simp only [small]; omega)) [] ?_
          simp only [go_sem, ↓reduceIte, reduceCtorEq, Nat.reduceEqDiff, Nat.reduceAdd, Nat.reduceSub, Nat.reduceMul, Nat.reduceLT, Nat.reduceLeDiff, Int.reduceLT, Int.reduceLE, Int.reduceEq, Int.reduceNe, Int.reduceToNat, Int.reduceAdd, Int.reduceSub, Int.reduceMul, Int.natCast_zero]
          rfl
end Go.Proofs.Am
