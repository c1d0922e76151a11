/- Drafts and sealed statements. -/
import Derived.Test.YthcphdogfdghkaaGreatB13
import Derived.Test.YthcphdogfdghkaaGreatAmY
set_option linter.unusedSimpArgs false
set_option linter.unusedVariables false
namespace Go.Proofs.Am
open Go Go.RowKit
open Go.Proofs

/-- A draft. -/
structure Drf where
  kd : Int
  a : Int
  b : Int
  c : Int
  li : List Int
  pins : List Pn
deriving Inhabited, DecidableEq
def dr (d : Drf) : List PV := [.int .i64 d.kd, .int .i64 d.a, .int .i64 d.b, .int .i64 d.c, .vs (d.li.map i1), .vs (d.pins.map pn)]
theorem dr_eq (d : Drf) : dr d = [.int .i64 d.kd, .int .i64 d.a, .int .i64 d.b, .int .i64 d.c, .vs (d.li.map i1), .vs (d.pins.map pn)] := (rfl)
attribute [go_sem] dr_eq

def appD : Drf := ⟨11, 0, 0, 0, [], []⟩
/-- A statement of a draft's. -/
def stmt (au nu ti : Int) (d : Drf) : Stm := sealS ⟨au, nu, if 0 < nu then List.replicate 32 0 else [], ti, d.kd, d.a, d.b, d.c, d.li, d.pins, [], 0, []⟩

set_option maxRecDepth 100000 in
theorem stmt_den (au nu ti : Int) (d : Drf) (h1 : d.li.length ≤ 1000) (h2 : d.pins = []) : Den Tryz.prog 10 [.int .i64 au, .int .i64 nu, .int .i64 ti, .agg (dr d)] [] (.agg (sm (stmt au nu ti d))) [] [] := by
  refine den_of Tryz.mixed Tryz.func10 rfl Tryz.call10 Tryz.ntmps10 (congrArg Array.toList Tryz.results10) (by simp) (by kernel_rfl) [] (exts := []) rfl rfl ?_
  have hok : ∀ p : List UInt8, p.length ≤ 32 → okS ⟨au, nu, p, ti, d.kd, d.a, d.b, d.c, d.li, d.pins, [], 0, []⟩ := fun p hp => by
    simp only [okS, stB, pre2, pre1, hdB, List.length_append, beL_len, be8_len, txB_len, l5, List.length_cons, List.length_nil, h2, List.flatMap_nil]
    omega
  by_cases hn : 0 < nu
  · have he : List.replicate 32 [purZ (PV.int IntKind.u8 0)] = (List.replicate 32 (0 : UInt8)).map u8 := by rw [List.map_replicate]; rfl
    have hs : stmt au nu ti d = sealS ⟨au, nu, List.replicate 32 0, ti, d.kd, d.a, d.b, d.c, d.li, d.pins, [], 0, []⟩ := by rw [stmt, if_pos hn]
    rw [hs]
    simp only [go_sem, ↓reduceIte, reduceCtorEq, Nat.reduceEqDiff, Nat.reduceAdd, Nat.reduceSub, Nat.reduceMul, Nat.reduceLT, Nat.reduceLeDiff, Int.reduceLT, Int.reduceLE, Int.reduceEq, Int.reduceNe, Int.reduceToNat, Int.reduceAdd, Int.reduceSub, Int.reduceMul, Int.natCast_zero, hn]
    refine ⟨by omega, by rw [h2]; simp, okD_of (by kernel_rfl), _, he, ?_⟩
    refine call (seal_den ⟨au, nu, List.replicate 32 0, ti, d.kd, d.a, d.b, d.c, d.li, d.pins, [], 0, []⟩ (hok _ (by simp))) [] ?_
    simp only [go_sem, ↓reduceIte, reduceCtorEq, Nat.reduceEqDiff, Nat.reduceAdd, Nat.reduceSub, Nat.reduceMul, Nat.reduceLT, Nat.reduceLeDiff, Int.reduceLT, Int.reduceLE, Int.reduceEq, Int.reduceNe, Int.reduceToNat, Int.reduceAdd, Int.reduceSub, Int.reduceMul, Int.natCast_zero]
  · have hs : stmt au nu ti d = sealS ⟨au, nu, [], ti, d.kd, d.a, d.b, d.c, d.li, d.pins, [], 0, []⟩ := by rw [stmt, if_neg hn]
    rw [hs]
    simp only [go_sem, ↓reduceIte, reduceCtorEq, Nat.reduceEqDiff, Nat.reduceAdd, Nat.reduceSub, Nat.reduceMul, Nat.reduceLT, Nat.reduceLeDiff, Int.reduceLT, Int.reduceLE, Int.reduceEq, Int.reduceNe, Int.reduceToNat, Int.reduceAdd, Int.reduceSub, Int.reduceMul, Int.natCast_zero, hn]
    refine ⟨by omega, by rw [h2]; simp, okD_of (by kernel_rfl), ?_⟩
    refine call (seal_den ⟨au, nu, [], ti, d.kd, d.a, d.b, d.c, d.li, d.pins, [], 0, []⟩ (hok _ (by simp))) [] ?_
    simp only [go_sem, ↓reduceIte, reduceCtorEq, Nat.reduceEqDiff, Nat.reduceAdd, Nat.reduceSub, Nat.reduceMul, Nat.reduceLT, Nat.reduceLeDiff, Int.reduceLT, Int.reduceLE, Int.reduceEq, Int.reduceNe, Int.reduceToNat, Int.reduceAdd, Int.reduceSub, Int.reduceMul, Int.natCast_zero]
end Go.Proofs.Am
