/- UOne. -/
import Derived.Test.YtdodifpogaoioaaGreatCThree
import Derived.Test.YtdodifpogaoioaaGreatMTwo
set_option linter.unusedSimpArgs false
set_option linter.unusedVariables false
namespace Go.Proofs.Am
open Go Go.RowKit
open Go.Proofs
def bitK (l : List Int) (k : Int) : Bool := (el l (k.toNat / 32)).toNat.testBit (k.toNat % 32)
def decOK (l : List Int) : Prop := l.length = 2 ∧ 0 ≤ el l 0 ∧ el l 0 < 4294967296 ∧ 0 ≤ el l 1 ∧ el l 1 < 4294967296 ∧ ¬ (el l 0 = 0 ∧ el l 1 = 0)
instance (l : List Int) : Decidable (decOK l) := by unfold decOK; infer_instance
def decL (l : List Int) : List Int × Int := if decOK l then (keysW (bitK l) 64, 0) else ([], 43)
def smallN (l : List Int) : Prop := l.length = 2 ∧ 1 ≤ el l 0 ∧ el l 0 ≤ 127 ∧ 0 ≤ el l 1 ∧ el l 1 ≤ 1
theorem smallN.ok {l : List Int} (h : smallN l) : decOK l := ⟨h.1, by have := h.2; omega, by have := h.2; omega, by have := h.2; omega, by have := h.2; omega, by have := h.2; omega⟩
def nextV (v : List UInt8) (ep : Int) (l : List Int) : List UInt8 := sha ((v ++ be8 ep) ++ lsB l)
end Go.Proofs.Am

/- Terms: plain laws. -/
namespace Go.Proofs.Am
open Go Go.RowKit
open Go.Proofs
def rcase (ep : Int) : Cs := ⟨ep, 1, 0, 0⟩
structure OkT (t : Tm) : Prop where
 lo : 0 ≤ t.ep
 hi : t.ep < 40
 ros : rosV t.ros = true
 bea : t.bea.length = 32
theorem OkT.len {t : Tm} (h : OkT t) : t.ros.length ≤ 64 := (rosV_pw h.ros).2.2.2
def stS (r : Rl) (t : Tm) : List Int := ofRd r t.bea t.ros (rcase t.ep) 0 []
def stA (r : Rl) (L : List Stm) (t : Tm) : List Ct := allV (stS r t) (votesL L (rcase t.ep))
def decA (L : List Stm) (c : Cs) (seats : List Int) : List Ct := if ckS c seats = 0 then allV seats (votesL L c) else []
def fillT (r : Rl) (L : List Stm) (t : Tm) : Tm := { t with dec := decide ((stA r L t).length = 1), nx := oneC (stA r L t) }
theorem fillT_two (r : Rl) (L M : List Stm) (t : Tm) : fillT r L (fillT r M t) = fillT r L t := rfl
theorem stA_fill (r : Rl) (L M : List Stm) (t : Tm) : stA r L (fillT r M t) = stA r L t := rfl
theorem stS_fill (r : Rl) (M : List Stm) (t : Tm) : stS r (fillT r M t) = stS r t := rfl
def afterT (t : Tm) : Option Tm := if t.dec = true ∧ (decL t.nx.li).2 = 0 then some ⟨t.ep + 1, (decL t.nx.li).1, nextV t.bea t.ep t.nx.li, false, noC⟩ else none
def termsG (r : Rl) (L : List Stm) : Nat → Tm → List Tm
 | 0, _ => []
 | n + 1, t => fillT r L t :: (match afterT (fillT r L t) with | none => [] | some u => termsG r L n u)
def termsX (r : Rl) (L : List Stm) : List Tm := termsG r L 40 (term0 r)
theorem el_zero {α : Type} [Inhabited α] (a : α) (l : List α) : el (a :: l) 0 = a := rfl
theorem el_cons {α : Type} [Inhabited α] (a : α) (l : List α) (i : Nat) : el (a :: l) (i + 1) = el l i := rfl
theorem termsX_first (r : Rl) (L : List Stm) : el (termsX r L) 0 = fillT r L (term0 r) := rfl
end Go.Proofs.Am

/- The mill's chain of votes for rosters: plain laws. -/
namespace Go.Proofs.Am
open Go Go.RowKit
open Go.Proofs
structure ChS where
 p : Nat
 L : List Stm
 ros : List Int
 v : List UInt8
deriving Inhabited
def chS (r : Rl) (ep : Int) (s : ChS) : List Int := ofRd r s.v s.ros (rcase ep) 0 []
def chVote (l : List Int) (ep : Int) (x y : Ct) (k : Int) (st : Nat × List Stm) : Nat × List Stm :=
 (dgo l st.1 1, st.2 ++ (if dnext l st.1 14 = 0 then [] else if dnext l st.1 14 = 1 then [vt k ep (rcase ep) y] else if dnext l st.1 14 = 2 then [vt k ep (rcase ep) x, vt k (ep + 9) (rcase ep) y] else [vt k ep (rcase ep) x]))
def chGo (l : List Int) (ep : Int) (x y : Ct) (seats : List Int) (st : Nat × List Stm) : Nat → Nat × List Stm
 | 0 => st
 | i + 1 => chVote l ep x y (el seats i) (chGo l ep x y seats st i)
def chX (l : List Int) (ep : Int) (s : ChS) : Ct × Nat := mcont l (dgo l s.p 1) (rcase ep)
def chY (l : List Int) (ep : Int) (s : ChS) : Ct × Nat := mcont l (chX l ep s).2 (rcase ep)
def chStep (l : List Int) (r : Rl) (ep : Int) (s : ChS) : ChS :=
 ⟨(chGo l ep (chX l ep s).1 (chY l ep s).1 (chS r ep s) ((chY l ep s).2, s.L) (chS r ep s).length).1,
  (chGo l ep (chX l ep s).1 (chY l ep s).1 (chS r ep s) ((chY l ep s).2, s.L) (chS r ep s).length).2,
  (decL (chX l ep s).1.li).1, nextV s.v ep (chX l ep s).1.li⟩
def ChV (t : Stm) : Prop := ∃ k nu e x, t = vt k nu (rcase e) x ∧ (0 ≤ k ∧ k ≤ 63) ∧ (0 ≤ nu ∧ nu ≤ 199) ∧ (0 ≤ e ∧ e < 40) ∧ okCt x ∧ rightB (rcase e) x = true ∧ smallN x.li
theorem ChV.ok {t : Stm} (h : ChV t) : okS t := by
 obtain ⟨k, nu, e, x, rfl, _, _, _, hx, _⟩ := h
 exact vt_okS _ _ _ hx
structure ChI (l : List Int) (ep : Nat) (s : ChS) : Prop where
 p : s.p ≤ l.length
 ros : rosV s.ros = true
 low : ∀ k ∈ s.ros, 0 ≤ k ∧ k ≤ 32
 v : s.v.length = 32
 len : s.L.length ≤ 18 * ep
 ok : ∀ t ∈ s.L, ChV t
theorem ChI.mono {l : List Int} {ep ep' : Nat} {s : ChS} (h : ChI l ep s) (he : ep ≤ ep') : ChI l ep' s := ⟨h.p, h.ros, h.low, h.v, by have := h.len; omega, h.ok⟩
end Go.Proofs.Am

/- A first committee that votes for one content, or for two: plain laws. -/
namespace Go.Proofs.Am
open Go Go.RowKit
open Go.Proofs
structure EndP (c : Cs) (seats : List Int) : Prop where
 c : caseV c = true
 nd : seats.Nodup
 n0 : 1 ≤ seats.length
 n9 : seats.length ≤ 9
 k : ∀ k ∈ seats, 0 ≤ k ∧ k ≤ 63
theorem EndP.of {c : Cs} {seats : List Int} (h : ckS c seats = 0) : EndP c seats := by
 obtain ⟨h1, h2, h3, h4⟩ := ckS_zero h
 have h5 : seatedB seats = true := by
  rw [ck_seated, if_neg (by simp [h1])] at h
  split at h
  ·assumption
  ·cases h
 have h6 := (seatedB_iff.1 h5).1
 exact ⟨h1, h3, List.length_pos_iff.2 h6, h2, fun k hk => by have := h4 k hk; omega⟩
end Go.Proofs.Am
