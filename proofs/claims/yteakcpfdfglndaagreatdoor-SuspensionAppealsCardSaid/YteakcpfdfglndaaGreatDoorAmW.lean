/- AmW. -/
import Derived.Test.YteakcpfdfglndaaGreatDoorAmV
set_option linter.unusedSimpArgs false
set_option linter.unusedVariables false
namespace Go.Proofs.Am
open Go Go.RowKit
variable {P : Program}
def vIf (X Y : Prop) : Bool → Prop
 | true => X
 | false => Y
theorem vIf_true (X Y : Prop) : vIf X Y true = X := (rfl)
theorem vIf_false (X Y : Prop) : vIf X Y false = Y := (rfl)
theorem vIf_other (X Y : Prop) (b : Bool) : vIf X Y b = ((b = true → X) ∧ (b = false → Y)) := by cases b <;> simp [vIf]
theorem vCond_bool' (P : Program) (N : Nat) (Q : Post) (fr : AFr) (σ : ASt) (a b : Code) (t : Bool) : vCond P N Q fr σ a b (.bool t) = bv t fun t => vIf (wv P N a Q fr σ) (wv P N b Q fr σ) t := by
 rw [vCond_bool]; simp only [bv, vIf_other]
theorem vG_t (P : Program) (all : Array Oper) (op : Op) (d : Option Nat) (r : List Oper) (fr : AFr) (σ : ASt) (K : AFr → ASt → Prop) (t : Nat) (b : Bool) : vG P all op d r fr σ K t true (.bool b) =
  bv b fun b => vIf (evO P op d ((t, .bool true) :: fr) σ fun u δ _ => nx P all r ((t, .bool true) :: fr) d u σ δ K) (nx P all r ((t, .bool false) :: fr) d (.tup []) σ [] K) b := by
 rw [vG_bool]; simp only [bv, vIf_other, Bool.not_true]
theorem vG_f (P : Program) (all : Array Oper) (op : Op) (d : Option Nat) (r : List Oper) (fr : AFr) (σ : ASt) (K : AFr → ASt → Prop) (t : Nat) (b : Bool) : vG P all op d r fr σ K t false (.bool b) =
  bv b fun b => vIf (nx P all r ((t, .bool true) :: fr) d (.tup []) σ [] K) (evO P op d ((t, .bool false) :: fr) σ fun u δ _ => nx P all r ((t, .bool false) :: fr) d u σ δ K) b := by
 rw [vG_bool]; simp only [bv, vIf_other, Bool.not_false]; exact propext and_comm
theorem vGD_t (P : Program) (all : Array Oper) (op : Op) (d : Option Nat) (r : List Oper) (fr : AFr) (σ : ASt) (g : Log) (K : AFr → ASt → Log → Prop) (t : Nat) (b : Bool) : vGD P all op d r fr σ g K t true (.bool b) =
  bv b fun b => vIf (evO P op d ((t, .bool true) :: fr) σ fun u δ F => bv F fun F => nxD P all r ((t, .bool true) :: fr) d u σ δ g F K) (nxD P all r ((t, .bool false) :: fr) d (.tup []) σ [] g [] K) b := by
 rw [vGD_bool]; simp only [bv, vIf_other, Bool.not_true]
theorem vGD_f (P : Program) (all : Array Oper) (op : Op) (d : Option Nat) (r : List Oper) (fr : AFr) (σ : ASt) (g : Log) (K : AFr → ASt → Log → Prop) (t : Nat) (b : Bool) : vGD P all op d r fr σ g K t false (.bool b) =
  bv b fun b => vIf (nxD P all r ((t, .bool true) :: fr) d (.tup []) σ [] g [] K) (evO P op d ((t, .bool false) :: fr) σ fun u δ F => bv F fun F => nxD P all r ((t, .bool false) :: fr) d u σ δ g F K) b := by
 rw [vGD_bool]; simp only [bv, vIf_other, Bool.not_false]; exact propext and_comm
theorem vPick_bool' (fr : AFr) (K : KT) (a b : Operand) (t : Bool) : vPick fr a b K (.bool t) = bv t fun t => vIf (kk K (ev fr a) [] []) (kk K (ev fr b) [] []) t := by
 rw [vPick_bool]; simp only [bv, vIf_other]
attribute [go_sem ↓ 1100] vPick_bool' vIf_true vIf_false vCond_bool' vG_t vG_f vGD_t vGD_f
attribute [go_sem ↓] vIf_other
def c4 (x : Int) : PV := .int .u32 x
theorem c4_eq (x : Int) : PV.int .u32 x = c4 x := rfl
theorem celAt_c4 (l : List Int) {i : Nat} (h : i < l.length) : celAt (l.map c4) i = .int .u32 (el l i) := by
 simp [celAt, el, List.getD_eq_getElem?_getD, h, c4]
theorem ld_c4 (K : KT) (l : List Int) (i : Nat) (d : ASt) (F : List Nat) : (i < (l.map c4).length ∧ kk K (celAt (l.map c4) i) d F) = (i < l.length ∧ K (.int .u32 (el l i)) d F) := by
 simp only [List.length_map, kk]
 refine propext (and_congr_right fun h => ?_)
 rw [celAt_c4 l h]; rfl
theorem ix_c4 (K : KT) (l : List Int) (i : Nat) (n : Nat) (d : ASt) (F : List Nat) : (((0 : Int) ≤ (i : Int) ∧ (i : Int) < (n : Int) ∧ (i : Int) < ((l.map c4).length : Int)) ∧ kk K (celAt (l.map c4) (i : Int).toNat) d F) = ((i < n ∧ i < l.length) ∧ K (.int .u32 (el l i)) d F) := by
 simp only [List.length_map, kk, Int.toNat_natCast]
 apply propext
 constructor
 ·rintro ⟨⟨_, h1, h2⟩, h3⟩
  rw [celAt_c4 l (by omega)] at h3
  exact ⟨⟨by omega, by omega⟩, h3⟩
 ·rintro ⟨⟨h1, h2⟩, h3⟩
  refine ⟨⟨by omega, by omega, by omega⟩, ?_⟩
  rw [celAt_c4 l h2]; exact h3
def vStP (n off : Nat) (K : KT) : Option Nat → Option (List PV) → Option Box → Prop
 | some m, some us, some (.cells cs) => (us.length = m ∧ us.all oneP = true ∧ off + m ≤ cs.length) ∧ kk K .undef [(n, .cells (cs.take off ++ us ++ cs.drop (off + m)))] [n]
 | _, _, _ => False
theorem evStore_ptr' (P : Program) (σ : ASt) (K : KT) (t : TypeId) (n off : Nat) (v : PV) : evStore P t σ (.ptr n off) v K = bv (szOf P t) fun m => bv (cellsP v) fun us => bv (find σ n) fun B => vStP n off K m us B := by
 rw [evStore_ptr]; rfl
theorem vStP_gen (K : KT) (n off m : Nat) (us cs : List PV) : vStP n off K (some m) (some us) (some (.cells cs)) = ((us.length = m ∧ us.all oneP = true ∧ off + m ≤ cs.length) ∧ kk K .undef [(n, .cells (cs.take off ++ us ++ cs.drop (off + m)))] [n]) := rfl
theorem vStP_c4 (K : KT) (n i : Nat) (l : List Int) (v : Int) : vStP n i K (some 1) (some [.int .u32 v]) (some (.cells (l.map c4))) = (i < l.length ∧ kk K .undef [(n, .cells ((l.set i v).map c4))] [n]) := by
 rw [vStP_gen]
 simp only [List.length_map, kk]
 apply propext
 have e : i < l.length → (l.map c4).take i ++ [.int .u32 v] ++ (l.map c4).drop (i + 1) = (l.set i v).map c4 := fun h => by
  rw [List.map_set, List.set_eq_take_append_cons_drop]
  simp [h, c4]
 constructor
 ·rintro ⟨⟨h1, h2, h3⟩, h4⟩
  rw [e h3] at h4
  exact ⟨h3, h4⟩
 ·rintro ⟨h3, h4⟩
  rw [← e h3] at h4
  exact ⟨⟨rfl, rfl, h3⟩, h4⟩
def c8 (x : Int) : PV := .int .i64 x
theorem celAt_c8 (l : List Int) {i : Nat} (h : i < l.length) : celAt (l.map c8) i = .int .i64 (el l i) := by
 simp [celAt, el, List.getD_eq_getElem?_getD, h, c8]
theorem ix_c8 (K : KT) (l : List Int) (i : Nat) (n : Nat) (d : ASt) (F : List Nat) : (((0 : Int) ≤ (i : Int) ∧ (i : Int) < (n : Int) ∧ (i : Int) < ((l.map c8).length : Int)) ∧ kk K (celAt (l.map c8) (i : Int).toNat) d F) = ((i < n ∧ i < l.length) ∧ K (.int .i64 (el l i)) d F) := by
 simp only [List.length_map, kk, Int.toNat_natCast]
 apply propext
 constructor
 ·rintro ⟨⟨_, h1, h2⟩, h3⟩
  rw [celAt_c8 l (by omega)] at h3
  exact ⟨⟨by omega, by omega⟩, h3⟩
 ·rintro ⟨⟨h1, h2⟩, h3⟩
  refine ⟨⟨by omega, by omega, by omega⟩, ?_⟩
  rw [celAt_c8 l h2]; exact h3
theorem hin_c8 (d : List Nat) : ∀ (l : List Int), hinL d (l.map c8) = true
 | [] => rfl
 | x :: r => by simp [hinL, hinV, c8, hin_c8 d r]
theorem all_c4 (l : List Int) : (l.map c4).all oneP = true := by simp [c4, oneP]
theorem tk_c4 (l : List Int) (n : Nat) : (l.map c4).take n = (l.take n).map c4 := List.map_take.symm
theorem dr_c4 (l : List Int) (n : Nat) : (l.map c4).drop n = (l.drop n).map c4 := List.map_drop.symm
theorem hin_c4 (d : List Nat) : ∀ (l : List Int), hinL d (l.map c4) = true
 | [] => rfl
 | x :: r => by simp [hinL, hinV, c4, hin_c4 d r]
theorem allL_c4 {p : PV → Prop} (h : ∀ x, p (c4 x)) : ∀ (l : List Int), allL p (l.map c4)
 | [] => trivial
 | x :: r => ⟨h x, allL_c4 h r⟩
theorem purL_c4 (σ : ASt) : ∀ (l : List Int), purL σ (l.map c4) = some (l.map c4, [])
 | [] => rfl
 | x :: r => by simp [purL, pur, c4, purL_c4 σ r]
theorem noH_c4 (l : List Int) : allL noH (l.map c4) = True := eq_true (allL_c4 (fun x => .int .u32 x) l)
theorem c4_inj : ∀ {l m : List Int}, (l.map c4 = m.map c4) = (l = m)
 | l, m => propext (List.map_inj_right fun a b h => by simpa [c4] using h)
attribute [go_sem ↓ 1100] ld_c4 ix_c4 evStore_ptr' vStP_c4 all_c4 hin_c4 hin_c8 ix_c8 noH_c4 purL_c4
attribute [go_sem ↓] vStP_gen
attribute [go_sem] tk_c4 dr_c4 Nat.mul_one c4_inj
end Go.Proofs.Am
