/- The digest: the reference, all of it. -/
import Derived.Test.YthcphdogfdghkaaGreatB6
set_option linter.unusedSimpArgs false
set_option linter.unusedVariables false
namespace Go.Proofs.Am
open Go Go.RowKit
open Go.Proofs

/-- The constants of the rounds. -/
def kK : List Int := [0x428a2f98, 0x71374491, 0xb5c0fbcf, 0xe9b5dba5, 0x3956c25b, 0x59f111f1, 0x923f82a4, 0xab1c5ed5,
  0xd807aa98, 0x12835b01, 0x243185be, 0x550c7dc3, 0x72be5d74, 0x80deb1fe, 0x9bdc06a7, 0xc19bf174,
  0xe49b69c1, 0xefbe4786, 0x0fc19dc6, 0x240ca1cc, 0x2de92c6f, 0x4a7484aa, 0x5cb0a9dc, 0x76f988da,
  0x983e5152, 0xa831c66d, 0xb00327c8, 0xbf597fc7, 0xc6e00bf3, 0xd5a79147, 0x06ca6351, 0x14292967,
  0x27b70a85, 0x2e1b2138, 0x4d2c6dfc, 0x53380d13, 0x650a7354, 0x766a0abb, 0x81c2c92e, 0x92722c85,
  0xa2bfe8a1, 0xa81a664b, 0xc24b8b70, 0xc76c51a3, 0xd192e819, 0xd6990624, 0xf40e3585, 0x106aa070,
  0x19a4c116, 0x1e376c08, 0x2748774c, 0x34b0bcb5, 0x391c0cb3, 0x4ed8aa4a, 0x5b9cca4f, 0x682e6ff3,
  0x748f82ee, 0x78a5636f, 0x84c87814, 0x8cc70208, 0x90befffa, 0xa4506ceb, 0xbef9a3f7, 0xc67178f2]

set_option maxRecDepth 100000 in
theorem consts_den : Den Tryz.prog 73 [] [] (.vs (kK.map u4)) [] [] := by
  refine den_of Tryz.mixed Tryz.func73 rfl Tryz.call73 Tryz.ntmps73 (congrArg Array.toList Tryz.results73) (by simp) (by kernel_rfl) [] (exts := []) rfl rfl ?_
  simp only [go_sem, ↓reduceIte, reduceCtorEq, Nat.reduceEqDiff, Nat.reduceAdd, Nat.reduceSub, Nat.reduceMul, Nat.reduceLT, Nat.reduceLeDiff, Int.reduceLT, Int.reduceLE, Int.reduceEq, Int.reduceNe, Int.reduceToNat, Int.reduceAdd, Int.reduceSub, Int.reduceMul, Int.natCast_zero]
  rfl

theorem tm64 (n : Nat) : ((n : Nat) : Int).tmod 64 = ((n % 64 : Nat) : Int) := rfl
def padN (n : Nat) : Nat := (119 - n % 64) % 64
theorem padN_spec (n : Nat) : (n + 1 + padN n) % 64 = 56 := by unfold padN; omega
theorem padN_lt {n z : Nat} (h : z < padN n) : (n + 1 + z) % 64 ≠ 56 := by unfold padN at h; omega
theorem padN_le (n : Nat) : padN n < 64 := by unfold padN; omega
def pad0 (b : List UInt8) (z : Nat) : List UInt8 := b ++ (128 :: List.replicate z 0)
theorem pad0_len (b : List UInt8) (z : Nat) : (pad0 b z).length = b.length + 1 + z := by simp [pad0]; omega
theorem pad0_succ (b : List UInt8) (z : Nat) : pad0 b (z + 1) = pad0 b z ++ [0] := by simp [pad0, List.replicate_succ']
def allB (b : List UInt8) : List UInt8 := pad0 b (padN b.length) ++ be8 ((8 * b.length : Nat) : Int)
theorem allB_len (b : List UInt8) : ∃ q, (allB b).length = 64 * q ∧ 64 * q ≤ b.length + 128 := by
  have := padN_spec b.length
  have := padN_le b.length
  have hl : (allB b).length = b.length + 1 + padN b.length + 8 := by simp only [allB, List.length_append, pad0_len, be8_len]
  exact ⟨(b.length + 1 + padN b.length + 8) / 64, by omega, by omega⟩
def h0 : List Int := [0x6a09e667, 0xbb67ae85, 0x3c6ef372, 0xa54ff53a, 0x510e527f, 0x9b05688c, 0x1f83d9ab, 0x5be0cd19]
def hs (b : List UInt8) : Nat → List Int
  | 0 => h0
  | m + 1 => sblk (hs b m) (((allB b).take (64 * m + 64)).drop (64 * m)) kK
theorem hs_len (b : List UInt8) : ∀ m, (hs b m).length = 8
  | 0 => rfl
  | m + 1 => fin_len (rnds_len (hs_len b m) 64) 8
def outW (x : Int) : List UInt8 := [bAt x 24, bAt x 16, bAt x 8, bAt x 0]
theorem outL_len (l : List Int) : (l.flatMap outW).length = 4 * l.length := by
  induction l with
  | nil => rfl
  | cons a r ih => simp only [List.flatMap_cons, List.length_append, List.length_cons, ih, outW, List.length_nil]; omega
theorem wrapB0 (v : Int) : IntKind.u8.wrap v = ((bAt v 0).toNat : Int) := by
  rw [← wrapB]; simp
def sha (b : List UInt8) : List UInt8 := (hs b ((allB b).length / 64)).flatMap outW

set_option maxRecDepth 100000 in
theorem sum_den (b : List UInt8) (hb : b.length ≤ 1000000000) : Den Tryz.prog 62 [.vs (b.map u8)] [] (.str (sha b)) [] [] := by
  refine den_of Tryz.mixed Tryz.func62 rfl Tryz.call62 Tryz.ntmps62 (congrArg Array.toList Tryz.results62) (by simp) (by kernel_rfl) [] (exts := []) rfl rfl ?_
  simp only [go_sem, ↓reduceIte, reduceCtorEq, Nat.reduceEqDiff, Nat.reduceAdd, Nat.reduceSub, Nat.reduceMul, Nat.reduceLT, Nat.reduceLeDiff, Int.reduceLT, Int.reduceLE, Int.reduceEq, Int.reduceNe, Int.reduceToNat, Int.reduceAdd, Int.reduceSub, Int.reduceMul, Int.natCast_zero]
  (repeat refine And.intro (by first | omega | exact okD_of (by kernel_rfl)) ?_)
  refine loop Tryz.mixed 0 (fun z : Nat => [(0, .vs (b.map u8)), (3, .os 11 8), (4, .os 13 (pad0 b z).length)]) (fun z => [(11, .arr 113 1 false (h0.map u4)), (13, .arr 5 1 false ((pad0 b z).map u8))]) (fun z => z ≤ padN b.length) (fun z => padN b.length - z) (by kernel_rfl) ?_ ?_ ?_
  · simp
  · simp only [go_sem, ↓reduceIte, reduceCtorEq, Nat.reduceEqDiff, Nat.reduceAdd, Nat.reduceSub, Nat.reduceMul, Nat.reduceLT, Nat.reduceLeDiff, Int.reduceLT, Int.reduceLE, Int.reduceEq, Int.reduceNe, Int.reduceToNat, Int.reduceAdd, Int.reduceSub, Int.reduceMul, Int.natCast_zero]
    simp [pad0, u8, h0, u4]
  · intro z hz
    have hpl := pad0_len b z
    have hpn := padN_le b.length
    by_cases hz' : z < padN b.length
    · have hc : ¬ ((((pad0 b z).length : Nat) : Int).tmod 64 = 56) := by
        have := padN_lt hz'
        rw [hpl, tm64]; omega
      simp only [go_sem, ↓reduceIte, reduceCtorEq, Nat.reduceEqDiff, Nat.reduceAdd, Nat.reduceSub, Nat.reduceMul, Nat.reduceLT, Nat.reduceLeDiff, Int.reduceLT, Int.reduceLE, Int.reduceEq, Int.reduceNe, Int.reduceToNat, Int.reduceAdd, Int.reduceSub, Int.reduceMul, Int.natCast_zero, hc]
      refine ⟨by omega, z + 1, ⟨by omega, by omega⟩, ?_⟩
      rw [pad0_succ]
      simp only [go_sem, ↓reduceIte, reduceCtorEq, Nat.reduceEqDiff, Nat.reduceAdd, Nat.reduceSub, Nat.reduceMul, Nat.reduceLT, Nat.reduceLeDiff, Int.reduceLT, Int.reduceLE, Int.reduceEq, Int.reduceNe, Int.reduceToNat, Int.reduceAdd, Int.reduceSub, Int.reduceMul, Int.natCast_zero, List.map_append]
      simp [u8]
    · have hz2 : z = padN b.length := by omega
      subst hz2
      have hc : (((pad0 b (padN b.length)).length : Nat) : Int).tmod 64 = 56 := by
        have := padN_spec b.length
        rw [hpl, tm64]; omega
      simp only [go_sem, ↓reduceIte, reduceCtorEq, Nat.reduceEqDiff, Nat.reduceAdd, Nat.reduceSub, Nat.reduceMul, Nat.reduceLT, Nat.reduceLeDiff, Int.reduceLT, Int.reduceLE, Int.reduceEq, Int.reduceNe, Int.reduceToNat, Int.reduceAdd, Int.reduceSub, Int.reduceMul, Int.natCast_zero, hc]
      generalize hp : pad0 b (padN b.length) = p at *
      refine loop Tryz.mixed 0 (fun m : Nat => [(3, .os 11 8), (4, .os 13 (p ++ (be8 ((8 * b.length : Nat) : Int)).take m).length), (5, .int .u64 ((8 * b.length : Nat) : Int)), (6, .int .i64 (7 - (m : Int)))]) (fun m => [(11, .arr 113 1 false (h0.map u4)), (13, .arr 5 1 false ((p ++ (be8 ((8 * b.length : Nat) : Int)).take m).map u8))]) (fun m => m ≤ 8) (fun m => 8 - m) (by kernel_rfl) ?_ ?_ ?_
      · simp
      · simp only [go_sem, ↓reduceIte, reduceCtorEq, Nat.reduceEqDiff, Nat.reduceAdd, Nat.reduceSub, Nat.reduceMul, Nat.reduceLT, Nat.reduceLeDiff, Int.reduceLT, Int.reduceLE, Int.reduceEq, Int.reduceNe, Int.reduceToNat, Int.reduceAdd, Int.reduceSub, Int.reduceMul, Int.natCast_zero, List.take_zero, List.append_nil]
        simp only [IntKind.wrap_u64]
        omega
      · intro m hm
        generalize hv : 8 * b.length = v at *
        have hl : ((be8 (v : Int)).take m).length = m := by simp [be8]; omega
        have e1 : m < 8 → IntKind.u64.wrap (IntKind.i64.wrap (8 * (7 - (m : Int)))) = ((56 - 8 * m : Nat) : Int) := fun h => by rw [wrapI (by omega) (by omega), IntKind.wrap_u64]; omega
        by_cases hm' : m < 8
        · have e0 : (be8 (v : Int)).take (m + 1) = (be8 (v : Int)).take m ++ [bAt v (56 - 8 * m)] := by
            have : m = 0 ∨ m = 1 ∨ m = 2 ∨ m = 3 ∨ m = 4 ∨ m = 5 ∨ m = 6 ∨ m = 7 := by omega
            rcases this with rfl | rfl | rfl | rfl | rfl | rfl | rfl | rfl <;> rfl
          have e2 : min (56 - 8 * m) 64 = 56 - 8 * m := by omega
          have hc : (0 : Int) ≤ 7 - (m : Int) := by omega
          rw [List.length_append, hl]
          simp only [go_sem, ↓reduceIte, reduceCtorEq, Nat.reduceEqDiff, Nat.reduceAdd, Nat.reduceSub, Nat.reduceMul, Nat.reduceLT, Nat.reduceLeDiff, Int.reduceLT, Int.reduceLE, Int.reduceEq, Int.reduceNe, Int.reduceToNat, Int.reduceAdd, Int.reduceSub, Int.reduceMul, Int.natCast_zero, e1 hm', hc, e2, wrapB, hl]
          refine ⟨by omega, m + 1, ⟨by omega, by omega⟩, ?_⟩
          rw [e0]
          simp only [go_sem, ↓reduceIte, reduceCtorEq, Nat.reduceEqDiff, Nat.reduceAdd, Nat.reduceSub, Nat.reduceMul, Nat.reduceLT, Nat.reduceLeDiff, Int.reduceLT, Int.reduceLE, Int.reduceEq, Int.reduceNe, Int.reduceToNat, Int.reduceAdd, Int.reduceSub, Int.reduceMul, Int.natCast_zero, List.map_append, List.append_assoc, hl]
          rw [wrapI] <;> omega
        · have hm2 : m = 8 := by omega
          subst hm2
          have hS : p ++ (be8 (v : Int)).take 8 = allB b := by rw [allB, hp, hv]; rfl
          rw [hS]
          simp only [go_sem, ↓reduceIte, reduceCtorEq, Nat.reduceEqDiff, Nat.reduceAdd, Nat.reduceSub, Nat.reduceMul, Nat.reduceLT, Nat.reduceLeDiff, Int.reduceLT, Int.reduceLE, Int.reduceEq, Int.reduceNe, Int.reduceToNat, Int.reduceAdd, Int.reduceSub, Int.reduceMul, Int.natCast_zero]
          refine call consts_den [] ?_
          simp only [go_sem, ↓reduceIte, reduceCtorEq, Nat.reduceEqDiff, Nat.reduceAdd, Nat.reduceSub, Nat.reduceMul, Nat.reduceLT, Nat.reduceLeDiff, Int.reduceLT, Int.reduceLE, Int.reduceEq, Int.reduceNe, Int.reduceToNat, Int.reduceAdd, Int.reduceSub, Int.reduceMul, Int.natCast_zero]
          obtain ⟨q0, hq0, hq1⟩ := allB_len b
          have hkl : kK.length = 64 := rfl
          refine loop Tryz.mixed 0 (fun q : Nat => [(3, .vs ((hs b q).map u4)), (4, .vs ((allB b).map u8)), (7, .vs (kK.map u4)), (8, .int .i64 ((64 * q : Nat) : Int))]) (fun q => []) (fun q => q ≤ q0) (fun q => q0 - q) (by kernel_rfl) ?_ ?_ ?_
          · simp
          · simp only [go_sem, ↓reduceIte, reduceCtorEq, Nat.reduceEqDiff, Nat.reduceAdd, Nat.reduceSub, Nat.reduceMul, Nat.reduceLT, Nat.reduceLeDiff, Int.reduceLT, Int.reduceLE, Int.reduceEq, Int.reduceNe, Int.reduceToNat, Int.reduceAdd, Int.reduceSub, Int.reduceMul, Int.natCast_zero, hs]
            rfl
          · intro q hq
            have hhl := hs_len b q
            by_cases hq' : q < q0
            · have e1 : IntKind.i64.wrap (((64 * q : Nat) : Int) + 64) = ((64 * q + 64 : Nat) : Int) := by rw [wrapI] <;> omega
              have hcl : ((allB b).take (64 * q + 64) |>.drop (64 * q)).length = 64 := by simp; omega
              simp only [go_sem, ↓reduceIte, reduceCtorEq, Nat.reduceEqDiff, Nat.reduceAdd, Nat.reduceSub, Nat.reduceMul, Nat.reduceLT, Nat.reduceLeDiff, Int.reduceLT, Int.reduceLE, Int.reduceEq, Int.reduceNe, Int.reduceToNat, Int.reduceAdd, Int.reduceSub, Int.reduceMul, Int.natCast_zero, hq0, e1, Int.toNat_natCast]
              refine ⟨fun _ => ⟨⟨by omega, by omega, by omega⟩, ?_⟩, fun h => by omega⟩
              refine call (block_den (hs b q) _ kK hhl hcl hkl) [] ?_
              simp only [go_sem, ↓reduceIte, reduceCtorEq, Nat.reduceEqDiff, Nat.reduceAdd, Nat.reduceSub, Nat.reduceMul, Nat.reduceLT, Nat.reduceLeDiff, Int.reduceLT, Int.reduceLE, Int.reduceEq, Int.reduceNe, Int.reduceToNat, Int.reduceAdd, Int.reduceSub, Int.reduceMul, Int.natCast_zero, e1]
              exact ⟨q + 1, ⟨by omega, by omega⟩, rfl, by omega⟩
            · have hq2 : q = q0 := by omega
              subst hq2
              have hf : ¬ (((64 * q : Nat) : Int) < ((allB b).length : Int)) := by omega
              simp only [go_sem, ↓reduceIte, reduceCtorEq, Nat.reduceEqDiff, Nat.reduceAdd, Nat.reduceSub, Nat.reduceMul, Nat.reduceLT, Nat.reduceLeDiff, Int.reduceLT, Int.reduceLE, Int.reduceEq, Int.reduceNe, Int.reduceToNat, Int.reduceAdd, Int.reduceSub, Int.reduceMul, Int.natCast_zero, hf]
              have hsha : sha b = (hs b q).flatMap outW := by rw [sha, hq0, Nat.mul_div_cancel_left _ (by omega)]
              generalize hV : hs b q = V at *
              refine promote 9 14 5 1 false ?_ ?_ ?_ (by omega)
              · refine loop Tryz.mixed 0 (fun j : Nat => [(3, .vs (V.map u4)), (9, .os 14 ((V.take j).flatMap outW).length), (10, .int .i64 j)]) (fun j => [(14, .arr 5 1 false (((V.take j).flatMap outW).map u8))]) (fun j => j ≤ 8) (fun j => 8 - j) (by kernel_rfl) ?_ ?_ ?_
                · simp
                · simp only [go_sem, ↓reduceIte, reduceCtorEq, Nat.reduceEqDiff, Nat.reduceAdd, Nat.reduceSub, Nat.reduceMul, Nat.reduceLT, Nat.reduceLeDiff, Int.reduceLT, Int.reduceLE, Int.reduceEq, Int.reduceNe, Int.reduceToNat, Int.reduceAdd, Int.reduceSub, Int.reduceMul, Int.natCast_zero, List.take_zero, List.flatMap_nil]
                · intro j hj
                  have hjl : ((V.take j).flatMap outW).length = 4 * j := by
                    rw [outL_len]; simp; omega
                  by_cases hj' : j < 8
                  · simp only [go_sem, ↓reduceIte, reduceCtorEq, Nat.reduceEqDiff, Nat.reduceAdd, Nat.reduceSub, Nat.reduceMul, Nat.reduceLT, Nat.reduceLeDiff, Int.reduceLT, Int.reduceLE, Int.reduceEq, Int.reduceNe, Int.reduceToNat, Int.reduceAdd, Int.reduceSub, Int.reduceMul, Int.natCast_zero, hhl]
                    refine ⟨fun _ => ?_, fun h => by omega⟩
                    (repeat refine And.intro (by first | omega | exact okD_of (by kernel_rfl)) ?_)
                    refine ⟨j + 1, ⟨by omega, by omega⟩, ?_⟩
                    rw [take_el (by omega), wrapB, wrapB, wrapB, wrapB0]
                    simp only [go_sem, ↓reduceIte, reduceCtorEq, Nat.reduceEqDiff, Nat.reduceAdd, Nat.reduceSub, Nat.reduceMul, Nat.reduceLT, Nat.reduceLeDiff, Int.reduceLT, Int.reduceLE, Int.reduceEq, Int.reduceNe, Int.reduceToNat, Int.reduceAdd, Int.reduceSub, Int.reduceMul, Int.natCast_zero, List.flatMap_append, List.map_append, List.flatMap_cons, List.flatMap_nil, outW]
                    rw [wrapI] <;> omega
                  · have hj2 : j = 8 := by omega
                    subst hj2
                    have hV8 : V.take 8 = V := by rw [← hhl, List.take_length]
                    rw [hV8, ← hsha]
                    simp only [go_sem, ↓reduceIte, reduceCtorEq, Nat.reduceEqDiff, Nat.reduceAdd, Nat.reduceSub, Nat.reduceMul, Nat.reduceLT, Nat.reduceLeDiff, Int.reduceLT, Int.reduceLE, Int.reduceEq, Int.reduceNe, Int.reduceToNat, Int.reduceAdd, Int.reduceSub, Int.reduceMul, Int.natCast_zero]
                    exact ⟨_, rfl, rfl⟩
              · simp only [go_sem, ↓reduceIte, reduceCtorEq, Nat.reduceEqDiff, Nat.reduceAdd, Nat.reduceSub, Nat.reduceMul, Nat.reduceLT, Nat.reduceLeDiff, Int.reduceLT, Int.reduceLE, Int.reduceEq, Int.reduceNe, Int.reduceToNat, Int.reduceAdd, Int.reduceSub, Int.reduceMul, Int.natCast_zero]
              · simp only [go_sem, ↓reduceIte, reduceCtorEq, Nat.reduceEqDiff, Nat.reduceAdd, Nat.reduceSub, Nat.reduceMul, Nat.reduceLT, Nat.reduceLeDiff, Int.reduceLT, Int.reduceLE, Int.reduceEq, Int.reduceNe, Int.reduceToNat, Int.reduceAdd, Int.reduceSub, Int.reduceMul, Int.natCast_zero]

end Go.Proofs.Am
