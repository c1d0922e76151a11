/- The digest: the reference. -/
import Derived.Test.YthcphdogfdghkaaGreatB5
set_option linter.unusedSimpArgs false
set_option linter.unusedVariables false
namespace Go.Proofs.Am
open Go Go.RowKit
open Go.Proofs

/-- A word as a row. -/
def u4 (x : Int) : List PV := [.int .u32 x]
theorem u4_eq (x : Int) : u4 x = [.int .u32 x] := rfl
theorem set_u4 (l : List Int) (i : Nat) (v : Int) : (l.map u4).set i [.int .u32 v] = (l.set i v).map u4 := by rw [List.map_set]; rfl
theorem mn24 : min 24 32 = 24 := (rfl)
theorem mn16 : min 16 32 = 16 := (rfl)
theorem mn8 : min 8 32 = 8 := (rfl)
theorem mn3 : min 3 32 = 3 := (rfl)
theorem mn10 : min 10 32 = 10 := (rfl)
attribute [go_sem] u4_eq set_u4 mn24 mn16 mn8 mn3 mn10

def ad (a b : Int) : Int := IntKind.u32.wrap (a + b)
def rot (x : Int) (n : Nat) : Int := bits .or .u32 (x.fdiv (2 ^ n)) (IntKind.u32.wrap (x * 2 ^ (32 - n)))
def xo (a b : Int) : Int := bits .xor .u32 a b
def an (a b : Int) : Int := bits .and .u32 a b
def nt (a : Int) : Int := bits .xor .u32 IntKind.u32.max a
def sr (a : Int) (n : Nat) : Int := a.fdiv (2 ^ n)

theorem turn_den (x : Int) (n : Nat) {m : Int} (hm : m = n) (h0 : 0 < n) (hn : n < 32) : Den Tryz.prog 90 [.int .u32 x, .int .u64 m] [] (.int .u32 (rot x n)) [] [] := by
  refine den_of Tryz.mixed Tryz.func90 rfl Tryz.call90 Tryz.ntmps90 (congrArg Array.toList Tryz.results90) (by simp) (by kernel_rfl) [] (exts := []) rfl rfl ?_
  simp only [go_sem, ↓reduceIte, reduceCtorEq, Nat.reduceEqDiff, Nat.reduceAdd, Nat.reduceSub, Nat.reduceMul, Nat.reduceLT, Nat.reduceLeDiff, Int.reduceLT, Int.reduceLE, Int.reduceEq, Int.reduceNe, Int.reduceToNat, Int.reduceAdd, Int.reduceSub, Int.reduceMul, Int.natCast_zero]
  have e1 : IntKind.u64.wrap (32 - m) = ((32 - n : Nat) : Int) := by rw [IntKind.wrap_u64]; omega
  rw [e1, hm]
  have e2 : min n 32 = n := by omega
  have e3 : min (32 - n) 32 = 32 - n := by omega
  simp only [Int.toNat_natCast, e2, e3, rot]
  exact ⟨by omega, by omega, trivial⟩

/-- The first words. -/
def w16 (b : List UInt8) (i : Nat) : Int := bits .or .u32 (bits .or .u32 (bits .or .u32 (IntKind.u32.wrap (IntKind.u32.wrap (el b (4 * i)).toNat * 2 ^ 24)) (IntKind.u32.wrap (IntKind.u32.wrap (el b (4 * i + 1)).toNat * 2 ^ 16))) (IntKind.u32.wrap (IntKind.u32.wrap (el b (4 * i + 2)).toNat * 2 ^ 8))) (IntKind.u32.wrap (el b (4 * i + 3)).toNat)
def wA (b : List UInt8) : Nat → List Int
  | 0 => List.replicate 64 0
  | m + 1 => (wA b m).set m (w16 b m)
theorem wA_len (b : List UInt8) : ∀ m, (wA b m).length = 64
  | 0 => by simp [wA]
  | m + 1 => by simp [wA, wA_len b m]

def wst (w : List Int) (m : Nat) : Int :=
  ad (ad (ad (el w m) (xo (xo (rot (el w (m + 1)) 7) (rot (el w (m + 1)) 18)) (sr (el w (m + 1)) 3))) (el w (m + 9))) (xo (xo (rot (el w (m + 14)) 17) (rot (el w (m + 14)) 19)) (sr (el w (m + 14)) 10))
def wB (b : List UInt8) : Nat → List Int
  | 0 => wA b 16
  | m + 1 => (wB b m).set (16 + m) (wst (wB b m) m)
theorem wB_len (b : List UInt8) : ∀ m, (wB b m).length = 64
  | 0 => wA_len b 16
  | m + 1 => by simp [wB, wB_len b m]

/-- One round. -/
def rx (v : List Int) (k w : Int) : Int := ad (ad (ad (ad (el v 7) (xo (xo (rot (el v 4) 6) (rot (el v 4) 11)) (rot (el v 4) 25))) (xo (an (el v 4) (el v 5)) (an (nt (el v 4)) (el v 6)))) k) w
def rs (v : List Int) : Int := xo (xo (rot (el v 0) 2) (rot (el v 0) 13)) (rot (el v 0) 22)
def rm (v : List Int) : Int := xo (xo (an (el v 0) (el v 1)) (an (el v 0) (el v 2))) (an (el v 1) (el v 2))
def rnd (v : List Int) (k w : Int) : List Int := [ad (ad (rx v k w) (rs v)) (rm v), el v 0, el v 1, el v 2, ad (el v 3) (rx v k w), el v 4, el v 5, el v 6]
def rnds (h k w : List Int) : Nat → List Int
  | 0 => h
  | m + 1 => rnd (rnds h k w m) (el k m) (el w m)
theorem rnds_len {h k w : List Int} (hh : h.length = 8) : ∀ m, (rnds h k w m).length = 8
  | 0 => hh
  | _ + 1 => rfl
def fin (v h : List Int) : Nat → List Int
  | 0 => v
  | m + 1 => (fin v h m).set m (ad (el (fin v h m) m) (el h m))
theorem fin_len {v h : List Int} (hv : v.length = 8) : ∀ m, (fin v h m).length = 8
  | 0 => hv
  | m + 1 => by simp [fin, fin_len hv m]
def sblk (h : List Int) (b : List UInt8) (k : List Int) : List Int := fin (rnds h k (wB b 48) 64) h 8

set_option maxRecDepth 100000 in
theorem block_den (h : List Int) (b : List UInt8) (k : List Int) (hh : h.length = 8) (hb : b.length = 64) (hk : k.length = 64) : Den Tryz.prog 74 [.vs (h.map u4), .vs (b.map u8), .vs (k.map u4)] [] (.vs ((sblk h b k).map u4)) [] [] := by
  refine den_of Tryz.mixed Tryz.func74 rfl Tryz.call74 Tryz.ntmps74 (congrArg Array.toList Tryz.results74) (by simp) (by kernel_rfl) [] (exts := []) rfl rfl ?_
  simp only [go_sem, ↓reduceIte, reduceCtorEq, Nat.reduceEqDiff, Nat.reduceAdd, Nat.reduceSub, Nat.reduceMul, Nat.reduceLT, Nat.reduceLeDiff, Int.reduceLT, Int.reduceLE, Int.reduceEq, Int.reduceNe, Int.reduceToNat, Int.reduceAdd, Int.reduceSub, Int.reduceMul, Int.natCast_zero]
  (repeat refine And.intro (by first | omega | exact okD_of (by kernel_rfl)) ?_)
  refine loop Tryz.mixed 0 (fun i : Nat => [(0, .vs (h.map u4)), (1, .vs (b.map u8)), (2, .vs (k.map u4)), (7, .os 19 64), (8, .int .i64 i)]) (fun i => [(19, .arr 113 1 false ((wA b i).map u4))]) (fun i => i ≤ 16) (fun i => 16 - i) (by kernel_rfl) ?_ ?_ ?_
  · simp
  · simp only [go_sem, ↓reduceIte, reduceCtorEq, Nat.reduceEqDiff, Nat.reduceAdd, Nat.reduceSub, Nat.reduceMul, Nat.reduceLT, Nat.reduceLeDiff, Int.reduceLT, Int.reduceLE, Int.reduceEq, Int.reduceNe, Int.reduceToNat, Int.reduceAdd, Int.reduceSub, Int.reduceMul, Int.natCast_zero, wA, List.map_replicate, purZ]
  · intro i hi
    have e1 : i < 16 → IntKind.i64.wrap (4 * (i : Int)) = ((4 * i : Nat) : Int) := fun h => by rw [wrapI] <;> omega
    have e2 : i < 16 → IntKind.i64.wrap (((4 * i : Nat) : Int) + 1) = ((4 * i + 1 : Nat) : Int) := fun h => by rw [wrapI] <;> omega
    have e3 : i < 16 → IntKind.i64.wrap (((4 * i : Nat) : Int) + 2) = ((4 * i + 2 : Nat) : Int) := fun h => by rw [wrapI] <;> omega
    have e4 : i < 16 → IntKind.i64.wrap (((4 * i : Nat) : Int) + 3) = ((4 * i + 3 : Nat) : Int) := fun h => by rw [wrapI] <;> omega
    have hw := wA_len b i
    by_cases hi' : i < 16
    · simp only [go_sem, ↓reduceIte, reduceCtorEq, Nat.reduceEqDiff, Nat.reduceAdd, Nat.reduceSub, Nat.reduceMul, Nat.reduceLT, Nat.reduceLeDiff, Int.reduceLT, Int.reduceLE, Int.reduceEq, Int.reduceNe, Int.reduceToNat, Int.reduceAdd, Int.reduceSub, Int.reduceMul, Int.natCast_zero, e1 hi', e2 hi', e3 hi', e4 hi', hw, hb]
      refine ⟨fun _ => ⟨by omega, by omega, by omega, by omega, by omega, by omega, okD_of (by kernel_rfl), i + 1, ⟨by omega, by omega⟩, ?_⟩, fun h => by omega⟩
      exact ⟨by rw [wrapI] <;> omega, rfl⟩
    · have : i = 16 := by omega
      have hf : ¬ ((i : Int) < 16) := by omega
      simp only [go_sem, ↓reduceIte, reduceCtorEq, Nat.reduceEqDiff, Nat.reduceAdd, Nat.reduceSub, Nat.reduceMul, Nat.reduceLT, Nat.reduceLeDiff, Int.reduceLT, Int.reduceLE, Int.reduceEq, Int.reduceNe, Int.reduceToNat, Int.reduceAdd, Int.reduceSub, Int.reduceMul, Int.natCast_zero, hf]
      subst this
      refine loop Tryz.mixed 0 (fun m : Nat => [(0, .vs (h.map u4)), (2, .vs (k.map u4)), (7, .os 19 64), (9, .int .i64 ((16 + m : Nat) : Int))]) (fun m => [(19, .arr 113 1 false ((wB b m).map u4))]) (fun m => m ≤ 48) (fun m => 48 - m) (by kernel_rfl) ?_ ?_ ?_
      · simp
      · simp only [go_sem, ↓reduceIte, reduceCtorEq, Nat.reduceEqDiff, Nat.reduceAdd, Nat.reduceSub, Nat.reduceMul, Nat.reduceLT, Nat.reduceLeDiff, Int.reduceLT, Int.reduceLE, Int.reduceEq, Int.reduceNe, Int.reduceToNat, Int.reduceAdd, Int.reduceSub, Int.reduceMul, Int.natCast_zero, wB]
      · intro m hm
        have hw := wB_len b m
        by_cases hm' : m < 48
        · have f1 : IntKind.i64.wrap (((16 + m : Nat) : Int) - 15) = ((m + 1 : Nat) : Int) := by rw [wrapI] <;> omega
          have f2 : IntKind.i64.wrap (((16 + m : Nat) : Int) - 2) = ((m + 14 : Nat) : Int) := by rw [wrapI] <;> omega
          have f3 : IntKind.i64.wrap (((16 + m : Nat) : Int) - 16) = ((m : Nat) : Int) := by rw [wrapI] <;> omega
          have f4 : IntKind.i64.wrap (((16 + m : Nat) : Int) - 7) = ((m + 9 : Nat) : Int) := by rw [wrapI] <;> omega
          simp only [go_sem, ↓reduceIte, reduceCtorEq, Nat.reduceEqDiff, Nat.reduceAdd, Nat.reduceSub, Nat.reduceMul, Nat.reduceLT, Nat.reduceLeDiff, Int.reduceLT, Int.reduceLE, Int.reduceEq, Int.reduceNe, Int.reduceToNat, Int.reduceAdd, Int.reduceSub, Int.reduceMul, Int.natCast_zero, f1, f2, f3, f4, hw]
          refine ⟨fun _ => ?_, fun h => by omega⟩
          (repeat refine And.intro (by first | omega | exact okD_of (by kernel_rfl)) ?_)
          refine call (turn_den (el (wB b m) (m + 1)) 7 rfl (by omega) (by omega)) [] ?_
          simp only [go_sem, ↓reduceIte, reduceCtorEq, Nat.reduceEqDiff, Nat.reduceAdd, Nat.reduceSub, Nat.reduceMul, Nat.reduceLT, Nat.reduceLeDiff, Int.reduceLT, Int.reduceLE, Int.reduceEq, Int.reduceNe, Int.reduceToNat, Int.reduceAdd, Int.reduceSub, Int.reduceMul, Int.natCast_zero, f1, f2, f3, f4, hw]
          (repeat refine And.intro (by first | omega | exact okD_of (by kernel_rfl)) ?_)
          refine call (turn_den (el (wB b m) (m + 1)) 18 rfl (by omega) (by omega)) [] ?_
          simp only [go_sem, ↓reduceIte, reduceCtorEq, Nat.reduceEqDiff, Nat.reduceAdd, Nat.reduceSub, Nat.reduceMul, Nat.reduceLT, Nat.reduceLeDiff, Int.reduceLT, Int.reduceLE, Int.reduceEq, Int.reduceNe, Int.reduceToNat, Int.reduceAdd, Int.reduceSub, Int.reduceMul, Int.natCast_zero, f1, f2, f3, f4, hw]
          (repeat refine And.intro (by first | omega | exact okD_of (by kernel_rfl)) ?_)
          refine call (turn_den (el (wB b m) (m + 14)) 17 rfl (by omega) (by omega)) [] ?_
          simp only [go_sem, ↓reduceIte, reduceCtorEq, Nat.reduceEqDiff, Nat.reduceAdd, Nat.reduceSub, Nat.reduceMul, Nat.reduceLT, Nat.reduceLeDiff, Int.reduceLT, Int.reduceLE, Int.reduceEq, Int.reduceNe, Int.reduceToNat, Int.reduceAdd, Int.reduceSub, Int.reduceMul, Int.natCast_zero, f1, f2, f3, f4, hw]
          (repeat refine And.intro (by first | omega | exact okD_of (by kernel_rfl)) ?_)
          refine call (turn_den (el (wB b m) (m + 14)) 19 rfl (by omega) (by omega)) [] ?_
          simp only [go_sem, ↓reduceIte, reduceCtorEq, Nat.reduceEqDiff, Nat.reduceAdd, Nat.reduceSub, Nat.reduceMul, Nat.reduceLT, Nat.reduceLeDiff, Int.reduceLT, Int.reduceLE, Int.reduceEq, Int.reduceNe, Int.reduceToNat, Int.reduceAdd, Int.reduceSub, Int.reduceMul, Int.natCast_zero, f1, f2, f3, f4, hw]
          (repeat refine And.intro (by first | omega | exact okD_of (by kernel_rfl)) ?_)
          refine ⟨m + 1, ⟨by omega, by omega⟩, ?_⟩
          exact ⟨by rw [wrapI] <;> omega, rfl⟩
        · have hf : ¬ (((16 + m : Nat) : Int) < 64) := by omega
          simp only [go_sem, ↓reduceIte, reduceCtorEq, Nat.reduceEqDiff, Nat.reduceAdd, Nat.reduceSub, Nat.reduceMul, Nat.reduceLT, Nat.reduceLeDiff, Int.reduceLT, Int.reduceLE, Int.reduceEq, Int.reduceNe, Int.reduceToNat, Int.reduceAdd, Int.reduceSub, Int.reduceMul, Int.natCast_zero, hf]
          have : m = 48 := by omega
          subst this
          (repeat refine And.intro (by first | omega | exact okD_of (by kernel_rfl)) ?_)
          generalize hW : wB b 48 = W at *
          refine loopR Tryz.mixed 0 (fun j : Nat => [(0, .vs (h.map u4)), (2, .vs (k.map u4)), (7, .vs (W.map u4)), (12, .os 123 8), (13, .int .i64 j)]) (fun j => [(123, .arr 113 1 false ((rnds h k W j).map u4))]) (fun j => j ≤ 64) (fun j => 64 - j) (by kernel_rfl) [] ?_ ?_ ?_
          · simp
          · simp only [go_sem, ↓reduceIte, reduceCtorEq, Nat.reduceEqDiff, Nat.reduceAdd, Nat.reduceSub, Nat.reduceMul, Nat.reduceLT, Nat.reduceLeDiff, Int.reduceLT, Int.reduceLE, Int.reduceEq, Int.reduceNe, Int.reduceToNat, Int.reduceAdd, Int.reduceSub, Int.reduceMul, Int.natCast_zero, rnds, hw, hh]
          · intro j hj
            have hv := rnds_len (k := k) (w := W) hh j
            by_cases hj' : j < 64
            · have hR : rnds h k W (j + 1) = rnd (rnds h k W j) (el k j) (el W j) := rfl
              generalize rnds h k W j = V at *
              simp only [go_sem, ↓reduceIte, reduceCtorEq, Nat.reduceEqDiff, Nat.reduceAdd, Nat.reduceSub, Nat.reduceMul, Nat.reduceLT, Nat.reduceLeDiff, Int.reduceLT, Int.reduceLE, Int.reduceEq, Int.reduceNe, Int.reduceToNat, Int.reduceAdd, Int.reduceSub, Int.reduceMul, Int.natCast_zero, hv, hw, hk]
              refine ⟨fun _ => ?_, fun h => by omega⟩
              (repeat refine And.intro (by first | omega | exact okD_of (by kernel_rfl)) ?_)
              refine call (turn_den (el V 4) 6 rfl (by omega) (by omega)) [] ?_
              simp only [go_sem, ↓reduceIte, reduceCtorEq, Nat.reduceEqDiff, Nat.reduceAdd, Nat.reduceSub, Nat.reduceMul, Nat.reduceLT, Nat.reduceLeDiff, Int.reduceLT, Int.reduceLE, Int.reduceEq, Int.reduceNe, Int.reduceToNat, Int.reduceAdd, Int.reduceSub, Int.reduceMul, Int.natCast_zero, hv, hw, hk]
              refine call (turn_den (el V 4) 11 rfl (by omega) (by omega)) [] ?_
              simp only [go_sem, ↓reduceIte, reduceCtorEq, Nat.reduceEqDiff, Nat.reduceAdd, Nat.reduceSub, Nat.reduceMul, Nat.reduceLT, Nat.reduceLeDiff, Int.reduceLT, Int.reduceLE, Int.reduceEq, Int.reduceNe, Int.reduceToNat, Int.reduceAdd, Int.reduceSub, Int.reduceMul, Int.natCast_zero, hv, hw, hk]
              refine call (turn_den (el V 4) 25 rfl (by omega) (by omega)) [] ?_
              simp only [go_sem, ↓reduceIte, reduceCtorEq, Nat.reduceEqDiff, Nat.reduceAdd, Nat.reduceSub, Nat.reduceMul, Nat.reduceLT, Nat.reduceLeDiff, Int.reduceLT, Int.reduceLE, Int.reduceEq, Int.reduceNe, Int.reduceToNat, Int.reduceAdd, Int.reduceSub, Int.reduceMul, Int.natCast_zero, hv, hw, hk]
              (repeat refine And.intro (by first | omega | exact okD_of (by kernel_rfl)) ?_)
              refine call (turn_den (el V 0) 2 rfl (by omega) (by omega)) [] ?_
              simp only [go_sem, ↓reduceIte, reduceCtorEq, Nat.reduceEqDiff, Nat.reduceAdd, Nat.reduceSub, Nat.reduceMul, Nat.reduceLT, Nat.reduceLeDiff, Int.reduceLT, Int.reduceLE, Int.reduceEq, Int.reduceNe, Int.reduceToNat, Int.reduceAdd, Int.reduceSub, Int.reduceMul, Int.natCast_zero, hv, hw, hk]
              refine call (turn_den (el V 0) 13 rfl (by omega) (by omega)) [] ?_
              simp only [go_sem, ↓reduceIte, reduceCtorEq, Nat.reduceEqDiff, Nat.reduceAdd, Nat.reduceSub, Nat.reduceMul, Nat.reduceLT, Nat.reduceLeDiff, Int.reduceLT, Int.reduceLE, Int.reduceEq, Int.reduceNe, Int.reduceToNat, Int.reduceAdd, Int.reduceSub, Int.reduceMul, Int.natCast_zero, hv, hw, hk]
              refine call (turn_den (el V 0) 22 rfl (by omega) (by omega)) [] ?_
              simp only [go_sem, ↓reduceIte, reduceCtorEq, Nat.reduceEqDiff, Nat.reduceAdd, Nat.reduceSub, Nat.reduceMul, Nat.reduceLT, Nat.reduceLeDiff, Int.reduceLT, Int.reduceLE, Int.reduceEq, Int.reduceNe, Int.reduceToNat, Int.reduceAdd, Int.reduceSub, Int.reduceMul, Int.natCast_zero, hv, hw, hk]
              (repeat refine And.intro (by first | omega | exact okD_of (by kernel_rfl)) ?_)
              refine ⟨j + 1, [(123, 99), (240, 123)], ⟨by omega, by omega⟩, ?_⟩
              rw [hR]
              simp only [go_sem, ↓reduceIte, reduceCtorEq, Nat.reduceEqDiff, Nat.reduceAdd, Nat.reduceSub, Nat.reduceMul, Nat.reduceLT, Nat.reduceLeDiff, Int.reduceLT, Int.reduceLE, Int.reduceEq, Int.reduceNe, Int.reduceToNat, Int.reduceAdd, Int.reduceSub, Int.reduceMul, Int.natCast_zero, hv, hw, hk]
              exact ⟨by rw [wrapI] <;> omega, rfl⟩
            · have hf : ¬ ((j : Int) < 64) := by omega
              simp only [go_sem, ↓reduceIte, reduceCtorEq, Nat.reduceEqDiff, Nat.reduceAdd, Nat.reduceSub, Nat.reduceMul, Nat.reduceLT, Nat.reduceLeDiff, Int.reduceLT, Int.reduceLE, Int.reduceEq, Int.reduceNe, Int.reduceToNat, Int.reduceAdd, Int.reduceSub, Int.reduceMul, Int.natCast_zero, hf]
              have : j = 64 := by omega
              subst this
              generalize hV : rnds h k W 64 = V at *
              refine loop Tryz.mixed 0 (fun j : Nat => [(0, .vs (h.map u4)), (12, .os 123 8), (18, .int .i64 j)]) (fun j => [(123, .arr 113 1 false ((fin V h j).map u4))]) (fun j => j ≤ 8) (fun j => 8 - j) (by kernel_rfl) ?_ ?_ ?_
              · simp
              · simp only [go_sem, ↓reduceIte, reduceCtorEq, Nat.reduceEqDiff, Nat.reduceAdd, Nat.reduceSub, Nat.reduceMul, Nat.reduceLT, Nat.reduceLeDiff, Int.reduceLT, Int.reduceLE, Int.reduceEq, Int.reduceNe, Int.reduceToNat, Int.reduceAdd, Int.reduceSub, Int.reduceMul, Int.natCast_zero, fin]
              · intro j hj
                have hfl := fin_len (h := h) hv j
                by_cases hj' : j < 8
                · simp only [go_sem, ↓reduceIte, reduceCtorEq, Nat.reduceEqDiff, Nat.reduceAdd, Nat.reduceSub, Nat.reduceMul, Nat.reduceLT, Nat.reduceLeDiff, Int.reduceLT, Int.reduceLE, Int.reduceEq, Int.reduceNe, Int.reduceToNat, Int.reduceAdd, Int.reduceSub, Int.reduceMul, Int.natCast_zero, hfl, hh]
                  refine ⟨fun _ => ?_, fun h => by omega⟩
                  (repeat refine And.intro (by first | omega | exact okD_of (by kernel_rfl)) ?_)
                  exact ⟨j + 1, ⟨by omega, by omega⟩, by rw [wrapI] <;> omega, rfl⟩
                · have hf : ¬ ((j : Int) < 8) := by omega
                  simp only [go_sem, ↓reduceIte, reduceCtorEq, Nat.reduceEqDiff, Nat.reduceAdd, Nat.reduceSub, Nat.reduceMul, Nat.reduceLT, Nat.reduceLeDiff, Int.reduceLT, Int.reduceLE, Int.reduceEq, Int.reduceNe, Int.reduceToNat, Int.reduceAdd, Int.reduceSub, Int.reduceMul, Int.natCast_zero, hf]
                  have : j = 8 := by omega
                  subst this
                  simp only [go_sem, ↓reduceIte, reduceCtorEq, Nat.reduceEqDiff, Nat.reduceAdd, Nat.reduceSub, Nat.reduceMul, Nat.reduceLT, Nat.reduceLeDiff, Int.reduceLT, Int.reduceLE, Int.reduceEq, Int.reduceNe, Int.reduceToNat, Int.reduceAdd, Int.reduceSub, Int.reduceMul, Int.natCast_zero, hfl]
                  rw [sblk, hW, hV]

end Go.Proofs.Am
