/- BTwo. -/
import Derived.Test.YteakcpfdfglndaaGreatDoorBOne
import Derived.Test.YteakcpfdfglndaaGreatDoorAmX
set_option linter.unusedSimpArgs false
set_option linter.unusedVariables false
namespace Go.Proofs.Am
open Go Go.RowKit
open Go.Proofs
set_option maxRecDepth 100000 in
theorem sum2_den (b : List UInt8) (hb : b.length ≤ 1000000000) : Den Tryz.prog 188 [.vs (b.map u8)] [] (.str (sha b)) [] [] := by
 refine den_of Tryz.mixed Tryz.func188 rfl Tryz.call188 Tryz.ntmps188 (congrArg Array.toList Tryz.results188) (by simp) (by kernel_rfl) [] (exts := []) rfl rfl ?_
 simp only [go_sem]
 (repeat refine And.intro (by first | omega | exact okD_of (by kernel_rfl)) ?_)
 refine loop Tryz.mixed 0 (fun z : Nat => [(0, .vs (b.map u8)), (3, .os 12 (pad0 b z).length)]) (fun z => [(12, .arr 5 1 false ((pad0 b z).map u8))]) (fun z => z ≤ padN b.length) (fun z => padN b.length - z) (by kernel_rfl) ?_ ?_ ?_
 ·simp
 ·simp only [go_sem]
  simp [pad0, u8]
 ·intro z hz
  have hpl := pad0_len b z
  have hpn := padN_le b.length
  by_cases hz' : z < padN b.length
  ·have hc : ¬ ((((pad0 b z).length : Nat) : Int).tmod 64 = 56) := by
    have := padN_lt hz'
    rw [hpl, tm64]; omega
   simp only [go_sem, hc]
   refine ⟨by omega, z + 1, ⟨by omega, by omega⟩, ?_⟩
   rw [pad0_succ]
   simp only [go_sem, List.map_append]
   simp [u8]
  ·have hz2 : z = padN b.length := by omega
   subst hz2
   have hc : (((pad0 b (padN b.length)).length : Nat) : Int).tmod 64 = 56 := by
    have := padN_spec b.length
    rw [hpl, tm64]; omega
   simp only [go_sem, hc]
   generalize hp : pad0 b (padN b.length) = p at *
   refine loop Tryz.mixed 0 (fun m : Nat => [(3, .os 12 (p ++ (be8 ((8 * b.length : Nat) : Int)).take m).length), (4, .int .u64 ((8 * b.length : Nat) : Int)), (5, .int .i64 (56 - 8 * (m : Int)))]) (fun m => [(12, .arr 5 1 false ((p ++ (be8 ((8 * b.length : Nat) : Int)).take m).map u8))]) (fun m => m ≤ 8) (fun m => 8 - m) (by kernel_rfl) ?_ ?_ ?_
   ·simp
   ·simp only [go_sem, List.take_zero, List.append_nil]
    simp only [IntKind.wrap_u64]
    omega
   ·intro m hm
    generalize hv : 8 * b.length = v at *
    have hl : ((be8 (v : Int)).take m).length = m := by simp [be8]; omega
    have e1 : m < 8 → IntKind.u64.wrap (56 - 8 * (m : Int)) = ((56 - 8 * m : Nat) : Int) := fun h => by rw [IntKind.wrap_u64]; omega
    by_cases hm' : m < 8
    ·have e0 : (be8 (v : Int)).take (m + 1) = (be8 (v : Int)).take m ++ [bAt v (56 - 8 * m)] := by
      have : m = 0 ∨ m = 1 ∨ m = 2 ∨ m = 3 ∨ m = 4 ∨ m = 5 ∨ m = 6 ∨ m = 7 := by omega
      rcases this with rfl | rfl | rfl | rfl | rfl | rfl | rfl | rfl <;> rfl
     have e2 : min (56 - 8 * m) 64 = 56 - 8 * m := by omega
     have hc : (0 : Int) ≤ 56 - 8 * (m : Int) := by omega
     rw [List.length_append, hl]
     simp only [go_sem, e1 hm', hc, e2, wrapB, hl]
     refine ⟨by omega, m + 1, ⟨by omega, by omega⟩, ?_⟩
     rw [e0]
     simp only [go_sem, List.map_append, List.append_assoc, hl]
     rw [wrapI] <;> omega
    ·have hm2 : m = 8 := by omega
     subst hm2
     have hS : p ++ (be8 (v : Int)).take 8 = allB b := by rw [allB, hp, hv]; rfl
     rw [hS]
     simp only [go_sem]
     refine call rounds_den [] ?_
     obtain ⟨q0, hq0, hq1⟩ := allB_len b
     have hkl : kK.length = 64 := rfl
     simp only [go_sem, hkl]
     refine loop Tryz.mixed 0 (fun q : Nat => [(3, .vs (((allB b).drop (64 * q)).map u8)), (6, .ptr 6 0), (7, .ptr 7 0)]) (fun q => [(6, .cells ((hs b q).map c4)), (7, .cells (kK.map c4))]) (fun q => q ≤ q0) (fun q => q0 - q) (by kernel_rfl) ?_ ?_ ?_
     ·simp
     ·simp only [go_sem, hs]
      rfl
     ·intro q hq
      have hhl := hs_len b q
      by_cases hq' : q < q0
      ·have hdl : ((allB b).drop (64 * q)).length = 64 * (q0 - q) := by simp; omega
       have hcl : (((allB b).drop (64 * q)).take 64).length = 64 := by simp; omega
       have hpos : (0 : Int) < ((64 * (q0 - q) : Nat) : Int) := by omega
       simp only [go_sem, hdl, hpos]
       refine ⟨by omega, ?_⟩
       refine call (block2_den (hs b q) _ kK hhl hcl hkl) [6, 7] ?_
       simp only [go_sem, hdl, hpos]
       refine ⟨⟨by omega, by omega, by omega⟩, q + 1, ⟨by omega, by omega⟩, ?_, ?_⟩
       ·rw [List.take_of_length_le (by omega), List.drop_drop, Nat.mul_succ]
       ·rw [hs, List.take_drop]
      ·have hq2 : q = q0 := by omega
       subst hq2
       have hdl : (allB b).drop (64 * q) = [] := by simp; omega
       rw [hdl]
       have ht8 : (hs b q).take 8 = hs b q := by rw [← hhl, List.take_length]
       simp only [go_sem, ht8, hhl]
       have hsha : sha b = (hs b q).flatMap outW := by rw [sha, hq0, Nat.mul_div_cancel_left _ (by omega)]
       generalize hV : hs b q = V at *
       refine promote 8 14 5 1 false ?_ ?_ ?_ (by omega)
       ·refine loop Tryz.mixed 0 (fun j : Nat => [(48, .agg (V.map c4)), (8, .os 14 ((V.take j).flatMap outW).length), (49, .int .i64 j)]) (fun j => [(14, .arr 5 1 false (((V.take j).flatMap outW).map u8))]) (fun j => j ≤ 8) (fun j => 8 - j) (by kernel_rfl) ?_ ?_ ?_
        ·simp
        ·simp only [go_sem, List.take_zero, List.flatMap_nil]
        ·intro j hj
         have hjl : ((V.take j).flatMap outW).length = 4 * j := by
          rw [outL_len]; simp; omega
         by_cases hj' : j < 8
         ·simp only [go_sem, hhl]
          refine ⟨fun _ => ⟨⟨hj', hj'⟩, by omega, j + 1, ⟨by omega, by omega⟩, ?_⟩, fun h => by omega⟩
          rw [take_el (by omega), wrapB, wrapB, wrapB, wrapB0]
          simp only [go_sem, List.flatMap_append, List.map_append, List.flatMap_cons, List.flatMap_nil, outW]
          rw [wrapI] <;> omega
         ·have hj2 : j = 8 := by omega
          have hf : ¬ ((j : Int) < 8) := by omega
          have hV8 : V.take j = V := by rw [hj2, ← hhl, List.take_length]
          rw [hV8, ← hsha]
          simp only [go_sem, hf]
          exact ⟨_, rfl, rfl⟩
       ·simp only [go_sem]
       ·simp only [go_sem]
end Go.Proofs.Am

/- Statements: their bytes. -/
namespace Go.Proofs.Am
open Go Go.RowKit
open Go.Proofs
structure Pn where
 au : Int
 he : Int
 di : List UInt8
deriving Inhabited, DecidableEq
structure Stm where
 au : Int
 nu : Int
 prev : List UInt8
 ti : Int
 kd : Int
 a : Int
 b : Int
 c : Int
 li : List Int
 pins : List Pn
 body : List UInt8
 sk : Int
 sd : List UInt8
deriving Inhabited, DecidableEq
def pn (p : Pn) : List PV := [.int .i64 p.au, .int .i64 p.he, .str p.di]
theorem pn_eq (p : Pn) : pn p = [.int .i64 p.au, .int .i64 p.he, .str p.di] := (rfl)
def sm (s : Stm) : List PV := [.int .i64 s.au, .int .i64 s.nu, .str s.prev, .int .i64 s.ti, .int .i64 s.kd, .int .i64 s.a, .int .i64 s.b, .int .i64 s.c, .vs (s.li.map i1), .vs (s.pins.map pn), .str s.body, .int .i64 s.sk, .str s.sd]
theorem sm_eq (s : Stm) : sm s = [.int .i64 s.au, .int .i64 s.nu, .str s.prev, .int .i64 s.ti, .int .i64 s.kd, .int .i64 s.a, .int .i64 s.b, .int .i64 s.c, .vs (s.li.map i1), .vs (s.pins.map pn), .str s.body, .int .i64 s.sk, .str s.sd] := (rfl)
attribute [go_sem] pn_eq sm_eq
def txB (s : List UInt8) : List UInt8 := be8 s.length ++ s
def pnB (p : Pn) : List UInt8 := be8 p.au ++ (be8 p.he ++ txB p.di)
def hdB (s : Stm) : List UInt8 := be8 s.au ++ (be8 s.nu ++ txB s.prev)
def l5 (s : Stm) : List Int := [s.ti, s.kd, s.a, s.b, s.c]
def pre1 (s : Stm) : List UInt8 := hdB s ++ beL (l5 s)
def pre2 (s : Stm) : List UInt8 := pre1 s ++ ((be8 s.li.length ++ beL s.li) ++ be8 s.pins.length)
def stB (s : Stm) : List UInt8 := (pre2 s ++ s.pins.flatMap pnB) ++ txB s.body
def okS (s : Stm) : Prop := (stB s).length ≤ 1000000000
theorem txB_len (s : List UInt8) : (txB s).length = 8 + s.length := by simp [txB, be8_len]
theorem pinB_take {l : List Pn} {i : Nat} (h : i < l.length) : (l.take (i + 1)).flatMap pnB = (l.take i).flatMap pnB ++ pnB (el l i) := by
 rw [take_el h]
 simp
theorem flat_take_le (l : List Pn) (i : Nat) : ((l.take i).flatMap pnB).length ≤ (l.flatMap pnB).length := by
 have h : l.flatMap pnB = (l.take i).flatMap pnB ++ (l.drop i).flatMap pnB := by rw [← List.flatMap_append, List.take_append_drop]
 rw [h, List.length_append]; omega
theorem flat_step {l : List Pn} {i : Nat} (h : i < l.length) : ((l.take i).flatMap pnB).length + (24 + (el l i).di.length) ≤ (l.flatMap pnB).length := by
 have h1 := flat_take_le l (i + 1)
 rw [pinB_take h, List.length_append] at h1
 simp only [pnB, List.length_append, be8_len, txB_len] at h1
 omega
theorem flat_ge (l : List Pn) : 24 * l.length ≤ (l.flatMap pnB).length := by
 induction l with
 | nil => simp
 | cons p r ih => simp only [List.flatMap_cons, List.length_append, List.length_cons, pnB, be8_len, txB_len]; omega
theorem rintv (bs : List UInt8) (v : Int) (hb : small bs.length) : Den Tryz.prog 147 [.vs (bs.map u8), .int .i64 v] [] (.vs ((bs ++ be8 v).map u8)) [] [] :=
 (rint_den bs v hb).vs (by simp) trivial rfl
theorem rtextv (bs s : List UInt8) (hb : small bs.length) (hs : small s.length) : Den Tryz.prog 146 [.vs (bs.map u8), .str s] [] (.vs ((bs ++ txB s).map u8)) [] [] :=
 (rtext_den bs s hb hs).vs (by simp [txB]) trivial rfl
theorem rintsv (bs : List UInt8) (l : List Int) (hb : bs.length ≤ 1000000000) (hl : l.length ≤ 1000000000) : Den Tryz.prog 148 [.vs (bs.map u8), .vs (l.map i1)] [] (.vs ((bs ++ (be8 l.length ++ beL l)).map u8)) [] [] := rints_den bs l hb hl
theorem wintv (bs : List UInt8) (v : Int) (hb : small bs.length) : Den Tryz.prog 219 [.vs (bs.map u8), .int .i64 v] [] (.vs ((bs ++ be8 v).map u8)) [] [] :=
 (wint_den bs v hb).vs (by simp) trivial rfl
theorem wtextv (bs s : List UInt8) (hb : small bs.length) (hs : small s.length) : Den Tryz.prog 220 [.vs (bs.map u8), .str s] [] (.vs ((bs ++ txB s).map u8)) [] [] :=
 (wtext_den bs s hb hs).vs (by simp [txB]) trivial rfl
theorem wintsv (bs : List UInt8) (l : List Int) (hb : bs.length ≤ 1000000000) (hl : l.length ≤ 1000000000) : Den Tryz.prog 221 [.vs (bs.map u8), .vs (l.map i1)] [] (.vs ((bs ++ (be8 l.length ++ beL l)).map u8)) [] [] :=
 (wints_den bs l hb hl).vs (by simp) trivial rfl
set_option maxRecDepth 100000 in
theorem rbytes_den (s : Stm) (hs : okS s) : Den Tryz.prog 111 [.agg (sm s)] [] (.vs ((stB s).map u8)) [] [] := by
 refine den_of Tryz.mixed Tryz.func111 rfl Tryz.call111 Tryz.ntmps111 (congrArg Array.toList Tryz.results111) (by simp) (by kernel_rfl) [] (exts := []) rfl rfl ?_
 simp only [okS, stB, pre2, pre1, hdB, List.length_append, beL_len, be8_len, txB_len, l5, List.length_cons, List.length_nil] at hs
 simp only [go_sem]
 refine call (rintv [] s.au (by simp only [small, List.length_nil]; omega)) [] ?_
 simp only [go_sem]
 refine call (rintv (be8 s.au) s.nu (by simp only [small, be8_len]; omega)) [] ?_
 simp only [go_sem]
 refine call (rtextv (be8 s.au ++ be8 s.nu) s.prev (by simp only [small, List.length_append, be8_len]; omega) (by simp only [small]; omega)) [] ?_
 simp only [go_sem]
 (repeat refine And.intro (by first | omega | exact okD_of (by kernel_rfl)) ?_)
 have hh : (hdB s).length = 24 + s.prev.length := by simp only [hdB, List.length_append, be8_len, txB_len]; omega
 refine loop Tryz.mixed 0 (fun i : Nat => [(1, .ptr 1 0), (3, .vs ((hdB s ++ beL ((l5 s).take i)).map u8)), (27, .vs ((l5 s).map i1)), (28, .int .i64 5), (29, .int .i64 i)]) (fun i => [(1, .cells (sm s))]) (fun i => i ≤ 5) (fun i => 5 - i) (by kernel_rfl) ?_ ?_ ?_
 ·simp
 ·simp only [go_sem, hdB, List.append_assoc, List.take_zero, beL, List.flatMap_nil, l5, txB]
 ·intro i hi
  have hl5 : (l5 s).length = 5 := rfl
  have htl : ((l5 s).take i).length = i := by simp [hl5]; omega
  simp only [go_sem, hl5]
  refine ⟨fun h => ⟨by omega, ?_⟩, fun h => ?_⟩
  ·refine call (rintv (hdB s ++ beL ((l5 s).take i)) (el (l5 s) i) (by simp only [small, List.length_append, hh, beL_len, htl]; omega)) [] ?_
   simp only [go_sem]
   refine ⟨i + 1, ⟨by omega, by omega⟩, ?_, ?_⟩
   ·rw [take_el (by omega), beL_append, List.append_assoc]; simp [beL]
   ·rw [wrapI] <;> omega
  ·have hi5 : i = 5 := by omega
   subst hi5
   have hp1 : hdB s ++ beL ((l5 s).take 5) = pre1 s := rfl
   have hp1l : (pre1 s).length = 64 + s.prev.length := by simp only [pre1, List.length_append, hh, beL_len, hl5]; omega
   rw [hp1]
   refine call (rintsv (pre1 s) s.li (by omega) (by omega)) [] ?_
   simp only [go_sem]
   refine call (rintv (pre1 s ++ (be8 s.li.length ++ beL s.li)) s.pins.length (by simp only [small, List.length_append, hp1l, beL_len, be8_len]; omega)) [] ?_
   simp only [go_sem]
   (repeat refine And.intro (by first | omega | exact okD_of (by kernel_rfl)) ?_)
   have hp2l : (pre2 s).length = 80 + s.prev.length + 8 * s.li.length := by simp only [pre2, List.length_append, hp1l, beL_len, be8_len]; omega
   refine loop Tryz.mixed 0 (fun i : Nat => [(1, .ptr 1 0), (3, .vs ((pre2 s ++ (s.pins.take i).flatMap pnB).map u8)), (6, .int .i64 i)]) (fun i => [(1, .cells (sm s))]) (fun i => i ≤ s.pins.length) (fun i => s.pins.length - i) (by kernel_rfl) ?_ ?_ ?_
   ·simp
   ·simp only [go_sem, pre2, List.append_assoc, List.take_zero, List.flatMap_nil]
   ·intro i hi
    by_cases hi' : i < s.pins.length
    ·have hfs := flat_step hi'
     have hfg := flat_ge s.pins
     simp only [go_sem]
     refine ⟨fun _ => ⟨by omega, ?_⟩, fun h => by omega⟩
     refine call (rintv (pre2 s ++ (s.pins.take i).flatMap pnB) (el s.pins i).au (by simp only [small, List.length_append, hp2l]; omega)) [] ?_
     simp only [go_sem]
     refine call (rintv (pre2 s ++ (s.pins.take i).flatMap pnB ++ be8 (el s.pins i).au) (el s.pins i).he (by simp only [small, List.length_append, hp2l, be8_len]; omega)) [] ?_
     simp only [go_sem]
     refine call (rtextv (pre2 s ++ (s.pins.take i).flatMap pnB ++ be8 (el s.pins i).au ++ be8 (el s.pins i).he) (el s.pins i).di (by simp only [small, List.length_append, hp2l, be8_len]; omega) (by simp only [small]; omega)) [] ?_
     simp only [go_sem]
     (repeat refine And.intro (by first | omega | exact okD_of (by kernel_rfl)) ?_)
     refine ⟨i + 1, ⟨by omega, by omega⟩, ?_, ?_⟩
     ·rw [pinB_take hi']; simp only [pnB, List.append_assoc]
     ·rw [wrapI] <;> omega
    ·have hi2 : i = s.pins.length := by omega
     have hf : ¬ ((i : Int) < (s.pins.length : Int)) := by omega
     simp only [go_sem, hf]
     rw [hi2, List.take_length]
     refine call (rtextv (pre2 s ++ s.pins.flatMap pnB) s.body (by simp only [small, List.length_append, hp2l]; omega) (by simp only [small]; omega)) [] ?_
     simp only [go_sem]
     rfl
end Go.Proofs.Am

/- Statements: their bytes by the program, their digests, seals. -/
namespace Go.Proofs.Am
open Go Go.RowKit
open Go.Proofs
set_option maxRecDepth 100000 in
theorem wbytes_den (s : Stm) (hs : okS s) : Den Tryz.prog 189 [.agg (sm s)] [] (.vs ((stB s).map u8)) [] [] := by
 refine den_of Tryz.mixed Tryz.func189 rfl Tryz.call189 Tryz.ntmps189 (congrArg Array.toList Tryz.results189) (by simp) (by kernel_rfl) [] (exts := []) rfl rfl ?_
 simp only [okS, stB, pre2, pre1, hdB, List.length_append, beL_len, be8_len, txB_len, l5, List.length_cons, List.length_nil] at hs
 simp only [go_sem]
 refine call (wintv [] s.au (by simp only [small, List.length_nil]; omega)) [] ?_
 simp only [go_sem]
 refine call (wintv (be8 s.au) s.nu (by simp only [small, be8_len]; omega)) [] ?_
 simp only [go_sem]
 refine call (wtextv (be8 s.au ++ be8 s.nu) s.prev (by simp only [small, List.length_append, be8_len]; omega) (by simp only [small]; omega)) [] ?_
 simp only [go_sem]
 (repeat refine And.intro (by first | omega | exact okD_of (by kernel_rfl)) ?_)
 have hh : (hdB s).length = 24 + s.prev.length := by simp only [hdB, List.length_append, be8_len, txB_len]; omega
 refine loop Tryz.mixed 0 (fun i : Nat => [(1, .ptr 1 0), (3, .vs ((hdB s ++ beL ((l5 s).take i)).map u8)), (29, .agg ((l5 s).map c8)), (30, .int .i64 i)]) (fun i => [(1, .cells (sm s))]) (fun i => i ≤ 5) (fun i => 5 - i) (by kernel_rfl) ?_ ?_ ?_
 ·simp
 ·simp only [go_sem, hdB, List.append_assoc, List.take_zero, beL, List.flatMap_nil, l5, txB, c8]
 ·intro i hi
  have hl5 : (l5 s).length = 5 := rfl
  have htl : ((l5 s).take i).length = i := by simp [hl5]; omega
  simp only [go_sem, hl5]
  refine ⟨fun h => ⟨⟨by omega, by omega⟩, ?_⟩, fun h => ?_⟩
  ·refine call (wintv (hdB s ++ beL ((l5 s).take i)) (el (l5 s) i) (by simp only [small, List.length_append, hh, beL_len, htl]; omega)) [] ?_
   simp only [go_sem]
   refine ⟨i + 1, ⟨by omega, by omega⟩, ?_, ?_⟩
   ·rw [take_el (by omega), beL_append, List.append_assoc]; simp [beL]
   ·rw [wrapI] <;> omega
  ·have hi5 : i = 5 := by omega
   subst hi5
   have hp1 : hdB s ++ beL ((l5 s).take 5) = pre1 s := rfl
   have hp1l : (pre1 s).length = 64 + s.prev.length := by simp only [pre1, List.length_append, hh, beL_len, hl5]; omega
   rw [hp1]
   refine call (wintsv (pre1 s) s.li (by omega) (by omega)) [] ?_
   simp only [go_sem]
   refine call (wintv (pre1 s ++ (be8 s.li.length ++ beL s.li)) s.pins.length (by simp only [small, List.length_append, hp1l, beL_len, be8_len]; omega)) [] ?_
   simp only [go_sem]
   (repeat refine And.intro (by first | omega | exact okD_of (by kernel_rfl)) ?_)
   have hp2l : (pre2 s).length = 80 + s.prev.length + 8 * s.li.length := by simp only [pre2, List.length_append, hp1l, beL_len, be8_len]; omega
   refine loop Tryz.mixed 0 (fun i : Nat => [(1, .ptr 1 0), (3, .vs ((pre2 s ++ (s.pins.take i).flatMap pnB).map u8)), (47, .vs (s.pins.map pn)), (48, .int .i64 s.pins.length), (49, .int .i64 i)]) (fun i => [(1, .cells (sm s))]) (fun i => i ≤ s.pins.length) (fun i => s.pins.length - i) (by kernel_rfl) ?_ ?_ ?_
   ·simp
   ·simp only [go_sem, pre2, List.append_assoc, List.take_zero, List.flatMap_nil]
   ·intro i hi
    by_cases hi' : i < s.pins.length
    ·have hfs := flat_step hi'
     have hfg := flat_ge s.pins
     simp only [go_sem]
     refine ⟨fun _ => ⟨by omega, ?_⟩, fun h => by omega⟩
     refine call (wintv (pre2 s ++ (s.pins.take i).flatMap pnB) (el s.pins i).au (by simp only [small, List.length_append, hp2l]; omega)) [] ?_
     simp only [go_sem]
     refine call (wintv (pre2 s ++ (s.pins.take i).flatMap pnB ++ be8 (el s.pins i).au) (el s.pins i).he (by simp only [small, List.length_append, hp2l, be8_len]; omega)) [] ?_
     simp only [go_sem]
     refine call (wtextv (pre2 s ++ (s.pins.take i).flatMap pnB ++ be8 (el s.pins i).au ++ be8 (el s.pins i).he) (el s.pins i).di (by simp only [small, List.length_append, hp2l, be8_len]; omega) (by simp only [small]; omega)) [] ?_
     simp only [go_sem]
     (repeat refine And.intro (by first | omega | exact okD_of (by kernel_rfl)) ?_)
     refine ⟨i + 1, ⟨by omega, by omega⟩, ?_, ?_⟩
     ·rw [pinB_take hi']; simp only [pnB, List.append_assoc]
     ·rw [wrapI] <;> omega
    ·have hi2 : i = s.pins.length := by omega
     have hf : ¬ ((i : Int) < (s.pins.length : Int)) := by omega
     simp only [go_sem, hf]
     rw [hi2, List.take_length]
     refine call (wtextv (pre2 s ++ s.pins.flatMap pnB) s.body (by simp only [small, List.length_append, hp2l]; omega) (by simp only [small]; omega)) [] ?_
     simp only [go_sem]
     rfl
def dig (s : Stm) : List UInt8 := sha (stB s)
set_option maxHeartbeats 1000000 in
set_option maxRecDepth 100000 in
theorem rdig_den (s : Stm) (hs : okS s) : Den Tryz.prog 81 [.agg (sm s)] [] (.str (dig s)) [] [] := by
 refine den_of Tryz.mixed Tryz.func81 rfl Tryz.call81 Tryz.ntmps81 (congrArg Array.toList Tryz.results81) (by simp) (by kernel_rfl) [] (exts := []) rfl rfl ?_
 simp only [go_sem]
 refine call (rbytes_den s hs) [] ?_
 simp only [go_sem]
 refine call (sum_den (stB s) hs) [] ?_
 simp only [go_sem]
 rfl
set_option maxHeartbeats 1000000 in
set_option maxRecDepth 100000 in
theorem wdig_den (s : Stm) (hs : okS s) : Den Tryz.prog 160 [.agg (sm s)] [] (.str (dig s)) [] [] := by
 refine den_of Tryz.mixed Tryz.func160 rfl Tryz.call160 Tryz.ntmps160 (congrArg Array.toList Tryz.results160) (by simp) (by kernel_rfl) [] (exts := []) rfl rfl ?_
 simp only [go_sem]
 refine call (wbytes_den s hs) [] ?_
 simp only [go_sem]
 refine call (sum2_den (stB s) hs) [] ?_
 simp only [go_sem]
 rfl
set_option maxHeartbeats 1000000 in
set_option maxRecDepth 100000 in
theorem sealed_den (s : Stm) (hs : okS s) : Den Tryz.prog 121 [.agg (sm s)] [] (.bool (decide (s.sk = s.au ∧ s.sd = dig s))) [] [] := by
 refine den_of Tryz.mixed Tryz.func121 rfl Tryz.call121 Tryz.ntmps121 (congrArg Array.toList Tryz.results121) (by simp) (by kernel_rfl) [] (exts := []) rfl rfl ?_
 simp only [go_sem]
 refine call (wdig_den s hs) [] ?_
 simp only [go_sem]
 (repeat refine And.intro (by first | omega | exact okD_of (by kernel_rfl)) ?_)
 simp
set_option maxRecDepth 100000 in
theorem copy_den (s : Stm) (hs : okS s) : Den Tryz.prog 80 [.agg (sm s)] [] (.agg (sm s)) [] [] := by
 refine den_of Tryz.mixed Tryz.func80 rfl Tryz.call80 Tryz.ntmps80 (congrArg Array.toList Tryz.results80) (by simp) (by kernel_rfl) [] (exts := []) rfl rfl ?_
 simp only [okS, stB, pre2, pre1, hdB, List.length_append, beL_len, be8_len, txB_len, l5, List.length_cons, List.length_nil] at hs
 have := flat_ge s.pins
 simp only [go_sem]
 omega
def sealS (s : Stm) : Stm := { s with sk := s.au, sd := dig s }
set_option maxRecDepth 100000 in
theorem seal_den (s : Stm) (hs : okS s) : Den Tryz.prog 50 [.agg (sm s)] [] (.agg (sm (sealS s))) [] [] := by
 refine den_of Tryz.mixed Tryz.func50 rfl Tryz.call50 Tryz.ntmps50 (congrArg Array.toList Tryz.results50) (by simp) (by kernel_rfl) [] (exts := []) rfl rfl ?_
 simp only [go_sem]
 refine call (copy_den s hs) [] ?_
 simp only [go_sem]
 refine call (rdig_den s hs) [] ?_
 simp only [go_sem]
 (repeat refine And.intro (by first | omega | exact okD_of (by kernel_rfl)) ?_)
 exact ⟨rfl, rfl, rfl, rfl, rfl, rfl, rfl, rfl, rfl, rfl, rfl, rfl, rfl⟩
end Go.Proofs.Am

/- Statements: what is well formed. -/
namespace Go.Proofs.Am
open Go Go.RowKit
open Go.Proofs
def inB (x lo hi : Int) : Bool := decide (lo ≤ x ∧ x ≤ hi)
set_option maxHeartbeats 1000000 in
set_option maxRecDepth 100000 in
theorem in_den (x lo hi : Int) : Den Tryz.prog 114 [.int .i64 x, .int .i64 lo, .int .i64 hi] [] (.bool (inB x lo hi)) [] [] := by
 refine den_of Tryz.mixed Tryz.func114 rfl Tryz.call114 Tryz.ntmps114 (congrArg Array.toList Tryz.results114) (by simp) (by kernel_rfl) [] (exts := []) rfl rfl ?_
 by_cases h : lo ≤ x
 ·simp only [go_sem, h, inB]
 ·simp only [go_sem, h, inB]
def valB (x : Int) : Bool := inB x 0 1099511627776
set_option maxHeartbeats 1000000 in
set_option maxRecDepth 100000 in
theorem value_den (x : Int) : Den Tryz.prog 155 [.int .i64 x] [] (.bool (valB x)) [] [] := by
 refine den_of Tryz.mixed Tryz.func155 rfl Tryz.call155 Tryz.ntmps155 (congrArg Array.toList Tryz.results155) (by simp) (by kernel_rfl) [] (exts := []) rfl rfl ?_
 simp only [go_sem]
 refine call (in_den x 0 1099511627776) [] ?_
 simp only [go_sem]
 rfl
set_option maxHeartbeats 1000000 in
set_option maxRecDepth 100000 in
theorem notval_den (x : Int) : Den Tryz.prog 158 [.int .i64 x] [] (.bool (!valB x)) [] [] := by
 refine den_of Tryz.mixed Tryz.func158 rfl Tryz.call158 Tryz.ntmps158 (congrArg Array.toList Tryz.results158) (by simp) (by kernel_rfl) [] (exts := []) rfl rfl ?_
 simp only [go_sem]
 refine call (value_den x) [] ?_
 simp only [go_sem]
def meantB (s : Stm) : Bool :=
 if s.kd = 1 then inB s.a 0 63 && decide (s.a ≠ s.au) && inB s.b 1 3 && inB s.c s.ti 2147483648
 else if s.kd = 2 then inB s.a 0 199 && decide (s.b = 0) && decide (s.c = 0)
 else if s.kd = 3 then decide (s.a = 0) && decide (s.b = 0) && decide (s.c = 0)
 else true
set_option maxHeartbeats 1000000 in
set_option maxRecDepth 100000 in
theorem meant_den (s : Stm) : Den Tryz.prog 156 [.agg (sm s)] [] (.bool (meantB s)) [] [] := by
 refine den_of Tryz.mixed Tryz.func156 rfl Tryz.call156 Tryz.ntmps156 (congrArg Array.toList Tryz.results156) (by simp) (by kernel_rfl) [] (exts := []) rfl rfl ?_
 by_cases h1 : s.kd = 1
 ·have hm : meantB s = (inB s.a 0 63 && decide (s.a ≠ s.au) && inB s.b 1 3 && inB s.c s.ti 2147483648) := if_pos h1
  rw [hm]
  simp only [go_sem, h1]
  refine call (in_den s.a 0 63) [] ?_
  cases e1 : inB s.a 0 63
  ·simp only [go_sem]
  ·by_cases e2 : s.a = s.au
   ·simp only [go_sem, e2]
   ·simp only [go_sem, e2]
    refine call (in_den s.b 1 3) [] ?_
    cases e3 : inB s.b 1 3
    ·simp only [go_sem]
    ·simp only [go_sem]
     refine call (in_den s.c s.ti 2147483648) [] ?_
     simp only [go_sem]
 ·by_cases h2 : s.kd = 2
  ·have hm : meantB s = (inB s.a 0 199 && decide (s.b = 0) && decide (s.c = 0)) := by rw [meantB, if_neg h1, if_pos h2]
   rw [hm]
   simp only [go_sem, h1, h2]
   refine call (in_den s.a 0 199) [] ?_
   cases e1 : inB s.a 0 199
   ·simp only [go_sem]
   ·by_cases e2 : s.b = 0
    ·simp only [go_sem, e2]
    ·simp only [go_sem, e2]
  ·by_cases h3 : s.kd = 3
   ·have hm : meantB s = (decide (s.a = 0) && decide (s.b = 0) && decide (s.c = 0)) := by rw [meantB, if_neg h1, if_neg h2, if_pos h3]
    rw [hm]
    by_cases e1 : s.a = 0
    ·by_cases e2 : s.b = 0
     ·simp only [go_sem, h3, e1, e2]
     ·simp only [go_sem, h3, e1, e2]
    ·simp only [go_sem, h3, e1]
   ·have hm : meantB s = true := by rw [meantB, if_neg h1, if_neg h2, if_neg h3]
    rw [hm]
    simp only [go_sem, h1, h2, h3]
def pinOK (l : List Pn) (i : Nat) : Bool := inB (el l i).au 0 63 && !(decide (0 < i) && decide ((el l i).au ≤ (el l (i - 1)).au)) && inB (el l i).he 1 200 && decide ((el l i).di.length = 32)
def pinsB (l : List Pn) : Bool := decide (∀ i, i < l.length → pinOK l i = true)
theorem pinsB_true {l : List Pn} (h : ∀ i, i < l.length → pinOK l i = true) : pinsB l = true := decide_eq_true h
theorem pinsB_false {l : List Pn} {i : Nat} (hi : i < l.length) (h : pinOK l i = false) : pinsB l = false :=
 decide_eq_false fun h' => by rw [h' i hi] at h; cases h
set_option maxRecDepth 100000 in
theorem pinned_den (l : List Pn) (hl : big l.length) : Den Tryz.prog 159 [.vs (l.map pn)] [] (.bool (pinsB l)) [] [] := by
 refine den_of Tryz.mixed Tryz.func159 rfl Tryz.call159 Tryz.ntmps159 (congrArg Array.toList Tryz.results159) (by simp) (by kernel_rfl) [] (exts := []) rfl rfl ?_
 simp only [go_sem]
 refine loop Tryz.mixed 0 (fun i : Nat => [(0, .vs (l.map pn)), (5, .vs (l.map pn)), (6, .int .i64 l.length), (7, .int .i64 i)]) (fun i => []) (fun i => i ≤ l.length ∧ ∀ j, j < i → pinOK l j = true) (fun i => l.length - i) (by kernel_rfl) ?_ ?_ ?_
 ·simp
 ·simp only [go_sem]
 ·rintro i ⟨hi, hp⟩
  by_cases hi' : i < l.length
  ·have hlt : (i : Int) < (l.length : Int) := by omega
   simp only [go_sem, hlt, hi']
   refine call (in_den (el l i).au 0 63) [] ?_
   cases e1 : inB (el l i).au 0 63
   ·have hq : pinOK l i = false := by simp [pinOK, e1]
    simp only [go_sem]
    exact ⟨okD_of (by kernel_rfl), (pinsB_false hi' hq).symm⟩
   ·have tail : ∀ (_ : (decide (0 < i) && decide ((el l i).au ≤ (el l (i - 1)).au)) = false), ∀ b, b = (inB (el l i).he 1 200 && decide ((el l i).di.length = 32)) → pinOK l i = b := fun h b hb => by
     rw [hb, pinOK, e1, h]; simp
    by_cases e2 : 0 < i
    ·have e2' : (0 : Int) < (i : Int) := by omega
     have e3 : IntKind.i64.wrap ((i : Int) - 1) = ((i - 1 : Nat) : Int) := by rw [wrapI] <;> omega
     have e4 : i - 1 < l.length := by omega
     by_cases e5 : (el l i).au ≤ (el l (i - 1)).au
     ·have hq : pinOK l i = false := by simp [pinOK, e1, e2, e5]
      simp only [go_sem, e2', e3, e4, e5]
      exact ⟨okD_of (by kernel_rfl), (pinsB_false hi' hq).symm⟩
     ·have tail := tail (by simp [e5])
      simp only [go_sem, e2', e3, e4, e5]
      refine call (in_den (el l i).he 1 200) [] ?_
      cases e6 : inB (el l i).he 1 200
      ·have hq := tail false (by simp [e6])
       simp only [go_sem]
       exact ⟨okD_of (by kernel_rfl), (pinsB_false hi' hq).symm⟩
      ·by_cases e7 : (el l i).di.length = 32
       ·have hq := tail true (by simp [e6, e7])
        have e7' : ((el l i).di.length : Int) = 32 := by omega
        simp only [go_sem, e7']
        refine ⟨okD_of (by kernel_rfl), i + 1, ⟨⟨by omega, fun j hj => ?_⟩, by omega⟩, by rw [wrapI] <;> omega⟩
        by_cases hji : j = i
        ·rw [hji]; exact hq
        ·exact hp j (by omega)
       ·have hq := tail false (by simp [e7])
        have e7' : ¬ ((el l i).di.length : Int) = 32 := by omega
        simp only [go_sem, e7']
        exact ⟨okD_of (by kernel_rfl), (pinsB_false hi' hq).symm⟩
    ·have e2' : ¬ (0 : Int) < (i : Int) := by omega
     have tail := tail (by simp [e2])
     simp only [go_sem, e2']
     refine call (in_den (el l i).he 1 200) [] ?_
     cases e6 : inB (el l i).he 1 200
     ·have hq := tail false (by simp [e6])
      simp only [go_sem]
      exact ⟨okD_of (by kernel_rfl), (pinsB_false hi' hq).symm⟩
     ·by_cases e7 : (el l i).di.length = 32
      ·have hq := tail true (by simp [e6, e7])
       have e7' : ((el l i).di.length : Int) = 32 := by omega
       simp only [go_sem, e7']
       refine ⟨okD_of (by kernel_rfl), i + 1, ⟨⟨by omega, fun j hj => ?_⟩, by omega⟩, by rw [wrapI] <;> omega⟩
       by_cases hji : j = i
       ·rw [hji]; exact hq
       ·exact hp j (by omega)
      ·have hq := tail false (by simp [e7])
       have e7' : ¬ ((el l i).di.length : Int) = 32 := by omega
       simp only [go_sem, e7']
       exact ⟨okD_of (by kernel_rfl), (pinsB_false hi' hq).symm⟩
  ·have hf : ¬ ((i : Int) < (l.length : Int)) := by omega
   have : i = l.length := by omega
   subst this
   simp only [go_sem, hf]
   exact (pinsB_true hp).symm
end Go.Proofs.Am

/- Statements: the check. -/
namespace Go.Proofs.Am
open Go Go.RowKit
open Go.Proofs
theorem el_get {α : Type} [Inhabited α] (l : List α) (i : Nat) (h : i < l.length) : el l i = l[i] := by simp [el, List.getD_eq_getElem?_getD, h]
def fidx (p : Int → Bool) (l : List Int) : Int := match l.findIdx? p with | some i => (i : Int) | none => -1
theorem fidx_at {p : Int → Bool} {l : List Int} {i : Nat} (hi : i < l.length) (h : p (el l i) = true) (hb : ∀ j, j < i → p (el l j) = false) : fidx p l = i := by
 have : l.findIdx? p = some i := by
  rw [List.findIdx?_eq_some_iff_getElem]
  refine ⟨hi, by rw [← el_get]; exact h, fun j hj => ?_⟩
  have := hb j hj
  rw [el_get l j (by omega)] at this
  simp [this]
 rw [fidx, this]
theorem fidx_none {p : Int → Bool} {l : List Int} (hb : ∀ j, j < l.length → p (el l j) = false) : fidx p l = -1 := by
 have : l.findIdx? p = none := by
  rw [List.findIdx?_eq_none_iff]
  intro x hx
  obtain ⟨j, hj, rfl⟩ := List.getElem_of_mem hx
  have := hb j hj
  rw [el_get l j hj] at this
  exact this
 rw [fidx, this]
theorem fidx_any (p : Int → Bool) (l : List Int) : decide (0 ≤ fidx p l) = l.any p := by
 cases h : l.any p with
 | false =>
  have : l.findIdx? p = none := by
   rw [List.findIdx?_eq_none_iff]
   intro x hx
   rw [List.any_eq_false] at h
   simpa using h x hx
  rw [fidx, this]; rfl
 | true =>
  cases hf : l.findIdx? p with
  | none =>
   rw [List.findIdx?_eq_none_iff] at hf
   rw [List.any_eq_true] at h
   obtain ⟨x, hx, hp⟩ := h
   rw [hf x hx] at hp
   cases hp
  | some i => rw [fidx, hf]; simp
set_option maxHeartbeats 1000000 in
set_option maxRecDepth 100000 in
theorem indexF_den (p : Int → Bool) (f : FuncId) (hf : ∀ x, Den Tryz.prog f [.int .i64 x] [] (.bool (p x)) [] []) (l : List Int) (hl : big l.length) : Den Tryz.prog 57 [.vs (l.map i1), .fn f []] [] (.int .i64 (fidx p l)) [] [] := by
 refine den_of Tryz.mixed Tryz.func57 rfl Tryz.call57 Tryz.ntmps57 (congrArg Array.toList Tryz.results57) (by simp) (by kernel_rfl) [] (exts := []) rfl rfl ?_
 simp only [go_sem]
 refine loop Tryz.mixed 0 (fun i : Nat => [(0, .vs (l.map i1)), (1, .fn f []), (7, .int .i64 l.length), (8, .int .i64 i)]) (fun i => []) (fun i => i ≤ l.length ∧ ∀ j, j < i → p (el l j) = false) (fun i => l.length - i) (by kernel_rfl) ?_ ?_ ?_
 ·simp
 ·simp only [go_sem]
 ·rintro i ⟨hi, hp⟩
  by_cases hi' : i < l.length
  ·have hlt : (i : Int) < (l.length : Int) := by omega
   simp only [go_sem, hlt, hi']
   refine call (hf (el l i)) [] ?_
   cases e : p (el l i)
   ·simp only [go_sem]
    refine ⟨i + 1, ⟨⟨by omega, fun j hj => ?_⟩, by omega⟩, by rw [wrapI] <;> omega⟩
    by_cases hji : j = i
    ·rw [hji]; exact e
    ·exact hp j (by omega)
   ·simp only [go_sem]
    rw [fidx_at hi' e hp]
  ·have hf : ¬ ((i : Int) < (l.length : Int)) := by omega
   have : i = l.length := by omega
   subst this
   simp only [go_sem, hf]
   rw [fidx_none hp]
set_option maxHeartbeats 1000000 in
set_option maxRecDepth 100000 in
theorem containsF_den (p : Int → Bool) (f : FuncId) (hf : ∀ x, Den Tryz.prog f [.int .i64 x] [] (.bool (p x)) [] []) (l : List Int) (hl : big l.length) : Den Tryz.prog 157 [.vs (l.map i1), .fn f []] [] (.bool (l.any p)) [] [] := by
 refine den_of Tryz.mixed Tryz.func157 rfl Tryz.call157 Tryz.ntmps157 (congrArg Array.toList Tryz.results157) (by simp) (by kernel_rfl) [] (exts := []) rfl rfl ?_
 simp only [go_sem]
 refine call (indexF_den p f hf l hl) [] ?_
 simp only [go_sem]
 exact fidx_any p l
theorem z0 : inB 0 0 199 = true := rfl
def checkE (s : Stm) : Int :=
 if inB s.au 0 63 = false then 4
 else if (!inB s.kd 1 3 && !inB s.kd 10 31) = true then 5
 else if inB s.ti 0 2147483648 = false then 9
 else if (!inB s.nu 0 199 || !valB s.a || !valB s.b || !valB s.c || !meantB s || s.li.any fun x => !valB x) = true then 2
 else if (decide (64 < s.li.length) || decide (64 < s.pins.length) || decide (4096 < s.body.length)) = true then 3
 else if ((decide (s.nu = 0) && decide (s.prev ≠ [])) || (decide (0 < s.nu) && decide (s.prev.length ≠ 32)) || !pinsB s.pins || (decide (s.kd ≤ 3) && decide (0 < s.li.length + s.pins.length + s.body.length))) = true then 1
 else 0
def bigS (s : Stm) : Prop := big s.li.length ∧ big s.pins.length
theorem okS.big {s : Stm} (hs : okS s) : bigS s := by
 simp only [okS, stB, pre2, pre1, hdB, List.length_append, beL_len, be8_len, txB_len, l5, List.length_cons, List.length_nil] at hs
 have hfg := flat_ge s.pins
 exact ⟨by simp only [Am.big]; omega, by simp only [Am.big]; omega⟩
set_option maxHeartbeats 1000000 in
set_option maxRecDepth 100000 in
theorem check_denB (s : Stm) (hs : bigS s) : Den Tryz.prog 120 [.agg (sm s)] [] (.int .i64 (checkE s)) [] [] := by
 obtain ⟨hbl, hbp⟩ := hs
 refine den_of Tryz.mixed Tryz.func120 rfl Tryz.call120 Tryz.ntmps120 (congrArg Array.toList Tryz.results120) (by simp) (by kernel_rfl) [] (exts := []) rfl rfl ?_
 generalize hm : checkE s = m
 simp only [go_sem]
 refine call (in_den s.au 0 63) [] ?_
 cases e1 : inB s.au 0 63
 ·simp only [go_sem]
  rw [← hm]; simp only [checkE, e1]; rfl
 simp only [go_sem]
 refine call (in_den s.kd 1 3) [] ?_
 cases e2 : inB s.kd 1 3
 ·simp only [go_sem]
  refine call (in_den s.kd 10 31) [] ?_
  cases e3 : inB s.kd 10 31
  ·simp only [go_sem]
   rw [← hm]; simp [checkE, e1, e2, e3]
  have ek : (!inB s.kd 1 3 && !inB s.kd 10 31) = false := by simp [e2, e3]
  simp only [go_sem]
  refine call (in_den s.ti 0 2147483648) [] ?_
  cases e4 : inB s.ti 0 2147483648
  ·simp only [go_sem]
   rw [← hm]; simp [checkE, e1, ek, e4]
  simp only [go_sem]
  refine call (in_den s.nu 0 199) [] ?_
  cases e5 : inB s.nu 0 199
  ·simp only [go_sem]
   rw [← hm]; simp [checkE, e1, ek, e4, e5]
  simp only [go_sem]
  refine call (value_den s.a) [] ?_
  cases e6 : valB s.a
  ·simp only [go_sem]
   rw [← hm]; simp [checkE, e1, ek, e4, e5, e6]
  simp only [go_sem]
  refine call (value_den s.b) [] ?_
  cases e7 : valB s.b
  ·simp only [go_sem]
   rw [← hm]; simp [checkE, e1, ek, e4, e5, e6, e7]
  simp only [go_sem]
  refine call (value_den s.c) [] ?_
  cases e8 : valB s.c
  ·simp only [go_sem]
   rw [← hm]; simp [checkE, e1, ek, e4, e5, e6, e7, e8]
  simp only [go_sem]
  refine call (meant_den s) [] ?_
  cases e9 : meantB s
  ·simp only [go_sem]
   rw [← hm]; simp [checkE, e1, ek, e4, e5, e6, e7, e8, e9]
  simp only [go_sem]
  refine call (containsF_den (fun x => !valB x) 158 notval_den s.li hbl) [] ?_
  cases e10 : (s.li.any fun x => !valB x)
  rotate_left
  ·simp only [go_sem]
   rw [← hm]; simp [checkE, e1, ek, e4, e5, e6, e7, e8, e9, e10]
  by_cases e11 : (64 : Int) < (s.li.length : Int)
  ·have e11' : 64 < s.li.length := by omega
   simp only [go_sem, e11]
   rw [← hm]; simp [checkE, e1, ek, e4, e5, e6, e7, e8, e9, e10, (show (decide (64 < s.li.length) || decide (64 < s.pins.length) || decide (4096 < s.body.length)) = true by simp [e11'])]
  by_cases e12 : (64 : Int) < (s.pins.length : Int)
  ·have e12' : 64 < s.pins.length := by omega
   simp only [go_sem, e11, e12]
   rw [← hm]; simp [checkE, e1, ek, e4, e5, e6, e7, e8, e9, e10, (show (decide (64 < s.li.length) || decide (64 < s.pins.length) || decide (4096 < s.body.length)) = true by simp [e12'])]
  by_cases e13 : (4096 : Int) < (s.body.length : Int)
  ·have e13' : 4096 < s.body.length := by omega
   simp only [go_sem, e11, e12, e13]
   rw [← hm]; simp [checkE, e1, ek, e4, e5, e6, e7, e8, e9, e10, (show (decide (64 < s.li.length) || decide (64 < s.pins.length) || decide (4096 < s.body.length)) = true by simp [e13'])]
  have elen : (decide (64 < s.li.length) || decide (64 < s.pins.length) || decide (4096 < s.body.length)) = false := by simp; omega
  by_cases n0 : s.nu = 0
  ·by_cases n1 : s.prev = []
   ·simp only [go_sem, e11, e12, e13, n0, n1]
    refine call (pinned_den s.pins hbp) [] ?_
    cases e14 : pinsB s.pins
    ·simp only [go_sem]
     rw [← hm]; simp [checkE, e1, ek, e4, e5, e6, e7, e8, e9, e10, elen, n0, z0, n1, e14]
    by_cases e15 : s.kd ≤ 3
    ·have w1 : IntKind.i64.wrap ((s.li.length : Int) + s.pins.length) = ((s.li.length + s.pins.length : Nat) : Int) := by rw [wrapI] <;> omega
     have w2 : IntKind.i64.wrap (((s.li.length + s.pins.length : Nat) : Int) + s.body.length) = ((s.li.length + s.pins.length + s.body.length : Nat) : Int) := by rw [wrapI] <;> omega
     by_cases e16 : 0 < s.li.length + s.pins.length + s.body.length
     ·have e16' : (0 : Int) < ((s.li.length + s.pins.length + s.body.length : Nat) : Int) := by omega
      simp only [go_sem, e15, w1, w2, e16']
      rw [← hm]; simp [checkE, e1, ek, e4, e5, e6, e7, e8, e9, e10, elen, n0, z0, n1, e14, e15, e16]
      try omega
     ·have e16' : ¬ (0 : Int) < ((s.li.length + s.pins.length + s.body.length : Nat) : Int) := by omega
      simp only [go_sem, e15, w1, w2, e16']
      rw [← hm]; simp [checkE, e1, ek, e4, e5, e6, e7, e8, e9, e10, elen, n0, z0, n1, e14, e15, e16]
      try omega
    ·simp only [go_sem, e15]
     rw [← hm]; simp [checkE, e1, ek, e4, e5, e6, e7, e8, e9, e10, elen, n0, z0, n1, e14, e15]
   ·simp only [go_sem, e11, e12, e13, n0, n1]
    rw [← hm]; simp [checkE, e1, ek, e4, e5, e6, e7, e8, e9, e10, elen, n0, z0, n1]
  ·have n2 : 0 < s.nu := by simp only [inB, decide_eq_true_eq] at e5; omega
   by_cases n3 : (s.prev.length : Int) = 32
   ·have n3' : s.prev.length = 32 := by omega
    simp only [go_sem, e11, e12, e13, n0, n2, n3]
    refine call (pinned_den s.pins hbp) [] ?_
    cases e14 : pinsB s.pins
    ·simp only [go_sem]
     rw [← hm]; simp [checkE, e1, ek, e4, e5, e6, e7, e8, e9, e10, elen, n0, n3', e14]
    by_cases e15 : s.kd ≤ 3
    ·have w1 : IntKind.i64.wrap ((s.li.length : Int) + s.pins.length) = ((s.li.length + s.pins.length : Nat) : Int) := by rw [wrapI] <;> omega
     have w2 : IntKind.i64.wrap (((s.li.length + s.pins.length : Nat) : Int) + s.body.length) = ((s.li.length + s.pins.length + s.body.length : Nat) : Int) := by rw [wrapI] <;> omega
     by_cases e16 : 0 < s.li.length + s.pins.length + s.body.length
     ·have e16' : (0 : Int) < ((s.li.length + s.pins.length + s.body.length : Nat) : Int) := by omega
      simp only [go_sem, e15, w1, w2, e16']
      rw [← hm]; simp [checkE, e1, ek, e4, e5, e6, e7, e8, e9, e10, elen, n0, n3', e14, e15, e16]
      try omega
     ·have e16' : ¬ (0 : Int) < ((s.li.length + s.pins.length + s.body.length : Nat) : Int) := by omega
      simp only [go_sem, e15, w1, w2, e16']
      rw [← hm]; simp [checkE, e1, ek, e4, e5, e6, e7, e8, e9, e10, elen, n0, n3', e14, e15, e16]
      try omega
    ·simp only [go_sem, e15]
     rw [← hm]; simp [checkE, e1, ek, e4, e5, e6, e7, e8, e9, e10, elen, n0, n3', e14, e15]
   ·have n3' : ¬ s.prev.length = 32 := by omega
    simp only [go_sem, e11, e12, e13, n0, n2, n3]
    rw [← hm]; simp [checkE, e1, ek, e4, e5, e6, e7, e8, e9, e10, elen, n0, n2, n3']
 have ek : (!inB s.kd 1 3 && !inB s.kd 10 31) = false := by simp [e2]
 simp only [go_sem]
 refine call (in_den s.ti 0 2147483648) [] ?_
 cases e4 : inB s.ti 0 2147483648
 ·simp only [go_sem]
  rw [← hm]; simp [checkE, e1, ek, e4]
 simp only [go_sem]
 refine call (in_den s.nu 0 199) [] ?_
 cases e5 : inB s.nu 0 199
 ·simp only [go_sem]
  rw [← hm]; simp [checkE, e1, ek, e4, e5]
 simp only [go_sem]
 refine call (value_den s.a) [] ?_
 cases e6 : valB s.a
 ·simp only [go_sem]
  rw [← hm]; simp [checkE, e1, ek, e4, e5, e6]
 simp only [go_sem]
 refine call (value_den s.b) [] ?_
 cases e7 : valB s.b
 ·simp only [go_sem]
  rw [← hm]; simp [checkE, e1, ek, e4, e5, e6, e7]
 simp only [go_sem]
 refine call (value_den s.c) [] ?_
 cases e8 : valB s.c
 ·simp only [go_sem]
  rw [← hm]; simp [checkE, e1, ek, e4, e5, e6, e7, e8]
 simp only [go_sem]
 refine call (meant_den s) [] ?_
 cases e9 : meantB s
 ·simp only [go_sem]
  rw [← hm]; simp [checkE, e1, ek, e4, e5, e6, e7, e8, e9]
 simp only [go_sem]
 refine call (containsF_den (fun x => !valB x) 158 notval_den s.li hbl) [] ?_
 cases e10 : (s.li.any fun x => !valB x)
 rotate_left
 ·simp only [go_sem]
  rw [← hm]; simp [checkE, e1, ek, e4, e5, e6, e7, e8, e9, e10]
 by_cases e11 : (64 : Int) < (s.li.length : Int)
 ·have e11' : 64 < s.li.length := by omega
  simp only [go_sem, e11]
  rw [← hm]; simp [checkE, e1, ek, e4, e5, e6, e7, e8, e9, e10, (show (decide (64 < s.li.length) || decide (64 < s.pins.length) || decide (4096 < s.body.length)) = true by simp [e11'])]
 by_cases e12 : (64 : Int) < (s.pins.length : Int)
 ·have e12' : 64 < s.pins.length := by omega
  simp only [go_sem, e11, e12]
  rw [← hm]; simp [checkE, e1, ek, e4, e5, e6, e7, e8, e9, e10, (show (decide (64 < s.li.length) || decide (64 < s.pins.length) || decide (4096 < s.body.length)) = true by simp [e12'])]
 by_cases e13 : (4096 : Int) < (s.body.length : Int)
 ·have e13' : 4096 < s.body.length := by omega
  simp only [go_sem, e11, e12, e13]
  rw [← hm]; simp [checkE, e1, ek, e4, e5, e6, e7, e8, e9, e10, (show (decide (64 < s.li.length) || decide (64 < s.pins.length) || decide (4096 < s.body.length)) = true by simp [e13'])]
 have elen : (decide (64 < s.li.length) || decide (64 < s.pins.length) || decide (4096 < s.body.length)) = false := by simp; omega
 by_cases n0 : s.nu = 0
 ·by_cases n1 : s.prev = []
  ·simp only [go_sem, e11, e12, e13, n0, n1]
   refine call (pinned_den s.pins hbp) [] ?_
   cases e14 : pinsB s.pins
   ·simp only [go_sem]
    rw [← hm]; simp [checkE, e1, ek, e4, e5, e6, e7, e8, e9, e10, elen, n0, z0, n1, e14]
   by_cases e15 : s.kd ≤ 3
   ·have w1 : IntKind.i64.wrap ((s.li.length : Int) + s.pins.length) = ((s.li.length + s.pins.length : Nat) : Int) := by rw [wrapI] <;> omega
    have w2 : IntKind.i64.wrap (((s.li.length + s.pins.length : Nat) : Int) + s.body.length) = ((s.li.length + s.pins.length + s.body.length : Nat) : Int) := by rw [wrapI] <;> omega
    by_cases e16 : 0 < s.li.length + s.pins.length + s.body.length
    ·have e16' : (0 : Int) < ((s.li.length + s.pins.length + s.body.length : Nat) : Int) := by omega
     simp only [go_sem, e15, w1, w2, e16']
     rw [← hm]; simp [checkE, e1, ek, e4, e5, e6, e7, e8, e9, e10, elen, n0, z0, n1, e14, e15, e16]
     try omega
    ·have e16' : ¬ (0 : Int) < ((s.li.length + s.pins.length + s.body.length : Nat) : Int) := by omega
     simp only [go_sem, e15, w1, w2, e16']
     rw [← hm]; simp [checkE, e1, ek, e4, e5, e6, e7, e8, e9, e10, elen, n0, z0, n1, e14, e15, e16]
     try omega
   ·simp only [go_sem, e15]
    rw [← hm]; simp [checkE, e1, ek, e4, e5, e6, e7, e8, e9, e10, elen, n0, z0, n1, e14, e15]
  ·simp only [go_sem, e11, e12, e13, n0, n1]
   rw [← hm]; simp [checkE, e1, ek, e4, e5, e6, e7, e8, e9, e10, elen, n0, z0, n1]
 ·have n2 : 0 < s.nu := by simp only [inB, decide_eq_true_eq] at e5; omega
  by_cases n3 : (s.prev.length : Int) = 32
  ·have n3' : s.prev.length = 32 := by omega
   simp only [go_sem, e11, e12, e13, n0, n2, n3]
   refine call (pinned_den s.pins hbp) [] ?_
   cases e14 : pinsB s.pins
   ·simp only [go_sem]
    rw [← hm]; simp [checkE, e1, ek, e4, e5, e6, e7, e8, e9, e10, elen, n0, n3', e14]
   by_cases e15 : s.kd ≤ 3
   ·have w1 : IntKind.i64.wrap ((s.li.length : Int) + s.pins.length) = ((s.li.length + s.pins.length : Nat) : Int) := by rw [wrapI] <;> omega
    have w2 : IntKind.i64.wrap (((s.li.length + s.pins.length : Nat) : Int) + s.body.length) = ((s.li.length + s.pins.length + s.body.length : Nat) : Int) := by rw [wrapI] <;> omega
    by_cases e16 : 0 < s.li.length + s.pins.length + s.body.length
    ·have e16' : (0 : Int) < ((s.li.length + s.pins.length + s.body.length : Nat) : Int) := by omega
     simp only [go_sem, e15, w1, w2, e16']
     rw [← hm]; simp [checkE, e1, ek, e4, e5, e6, e7, e8, e9, e10, elen, n0, n3', e14, e15, e16]
     try omega
    ·have e16' : ¬ (0 : Int) < ((s.li.length + s.pins.length + s.body.length : Nat) : Int) := by omega
     simp only [go_sem, e15, w1, w2, e16']
     rw [← hm]; simp [checkE, e1, ek, e4, e5, e6, e7, e8, e9, e10, elen, n0, n3', e14, e15, e16]
     try omega
   ·simp only [go_sem, e15]
    rw [← hm]; simp [checkE, e1, ek, e4, e5, e6, e7, e8, e9, e10, elen, n0, n3', e14, e15]
  ·have n3' : ¬ s.prev.length = 32 := by omega
   simp only [go_sem, e11, e12, e13, n0, n2, n3]
   rw [← hm]; simp [checkE, e1, ek, e4, e5, e6, e7, e8, e9, e10, elen, n0, n2, n3']
theorem check_den (s : Stm) (hs : okS s) : Den Tryz.prog 120 [.agg (sm s)] [] (.int .i64 (checkE s)) [] [] := check_denB s hs.big
end Go.Proofs.Am

/- Drafts and sealed statements. -/
namespace Go.Proofs.Am
open Go Go.RowKit
open Go.Proofs
structure Drf where
 kd : Int
 a : Int
 b : Int
 c : Int
 li : List Int
 pins : List Pn
deriving Inhabited, DecidableEq
def dr (d : Drf) : List PV := [.int .i64 d.kd, .int .i64 d.a, .int .i64 d.b, .int .i64 d.c, .vs (d.li.map i1), .vs (d.pins.map pn)]
theorem dr_eq (d : Drf) : dr d = [.int .i64 d.kd, .int .i64 d.a, .int .i64 d.b, .int .i64 d.c, .vs (d.li.map i1), .vs (d.pins.map pn)] := (rfl)
attribute [go_sem] dr_eq
def appD : Drf := ⟨11, 0, 0, 0, [], []⟩
def stmt (au nu ti : Int) (d : Drf) : Stm := sealS ⟨au, nu, if 0 < nu then List.replicate 32 0 else [], ti, d.kd, d.a, d.b, d.c, d.li, d.pins, [], 0, []⟩
set_option maxRecDepth 100000 in
theorem stmt_den (au nu ti : Int) (d : Drf) (h1 : d.li.length ≤ 1000) (h2 : d.pins = []) : Den Tryz.prog 27 [.int .i64 au, .int .i64 nu, .int .i64 ti, .agg (dr d)] [] (.agg (sm (stmt au nu ti d))) [] [] := by
 refine den_of Tryz.mixed Tryz.func27 rfl Tryz.call27 Tryz.ntmps27 (congrArg Array.toList Tryz.results27) (by simp) (by kernel_rfl) [] (exts := []) rfl rfl ?_
 have hok : ∀ p : List UInt8, p.length ≤ 32 → okS ⟨au, nu, p, ti, d.kd, d.a, d.b, d.c, d.li, d.pins, [], 0, []⟩ := fun p hp => by
  simp only [okS, stB, pre2, pre1, hdB, List.length_append, beL_len, be8_len, txB_len, l5, List.length_cons, List.length_nil, h2, List.flatMap_nil]
  omega
 by_cases hn : 0 < nu
 ·have he : List.replicate 32 [purZ (PV.int IntKind.u8 0)] = (List.replicate 32 (0 : UInt8)).map u8 := by rw [List.map_replicate]; rfl
  have hs : stmt au nu ti d = sealS ⟨au, nu, List.replicate 32 0, ti, d.kd, d.a, d.b, d.c, d.li, d.pins, [], 0, []⟩ := by rw [stmt, if_pos hn]
  rw [hs]
  simp only [go_sem, hn]
  refine ⟨by omega, by rw [h2]; simp, okD_of (by kernel_rfl), _, he, ?_⟩
  refine call (seal_den ⟨au, nu, List.replicate 32 0, ti, d.kd, d.a, d.b, d.c, d.li, d.pins, [], 0, []⟩ (hok _ (by simp))) [] ?_
  simp only [go_sem]
 ·have hs : stmt au nu ti d = sealS ⟨au, nu, [], ti, d.kd, d.a, d.b, d.c, d.li, d.pins, [], 0, []⟩ := by rw [stmt, if_neg hn]
  rw [hs]
  simp only [go_sem, hn]
  refine ⟨by omega, by rw [h2]; simp, okD_of (by kernel_rfl), ?_⟩
  refine call (seal_den ⟨au, nu, [], ti, d.kd, d.a, d.b, d.c, d.li, d.pins, [], 0, []⟩ (hok _ (by simp))) [] ?_
  simp only [go_sem]
end Go.Proofs.Am
