/- A statement's inputs of statements: what they hold, and how long their lists are. -/
import Derived.Test.YtdfieogkeinkmaaGreatDoorFinOne
import Derived.Test.YtdfieogkeinkmaaGreatDoorEOne
import Derived.SizedLaws
set_option linter.unusedSimpArgs false
set_option linter.unusedVariables false
namespace Go.Proofs.Am
open Go Go.RowKit
open Go.Proofs
open Go.Proofs.YtdfieogkeinkmaaGreatDoor.Rows (uptoBulk uptoBulkAll)
section
variable {H : Type} {enc : TypeId × Value → H} {P : Program} {w : World} {base : Nat} {sp : Nat → Bool} {held : Bool}
def OpensB (enc : TypeId × Value → H) (P : Program) (w : World) (base : Nat) (sp : Nat → Bool) (held : Bool) (t : TypeId) (K : Nat) {α : Type} (f : α → List PV) (G : α → Prop) : Prop :=
  ∀ (fuel : Nat) (cs : List Value) (x : DataW H × List MemPlace), DataW.trod enc P w base sp held fuel t cs = some x → (∀ n ∈ x.1.weights P t, n ≤ 140737488351232) →
    ∃ y, G y ∧ (f y).length = K ∧ (f y).all oneP = true ∧ ∀ (j : Nat) (u : PV), (f y)[j]? = some u → ∃ cv, cs[j]? = some cv ∧ RP (fun a v => w.cell? a = some v ∧ True) cv u
theorem Opens.b {t : TypeId} {K : Nat} {α : Type} {f : α → List PV} {m : α → Nat} {G : α → Prop} (O : Opens enc P w base sp held t K f m G) : OpensB enc P w base sp held t K f G := fun fuel cs x h _ => by
  obtain ⟨y, g1, _, g3⟩ := O fuel cs x h
  exact ⟨y, g1, g3⟩
theorem OpensB.weak {t : TypeId} {K : Nat} {α : Type} {f : α → List PV} {G G' : α → Prop} (O : OpensB enc P w base sp held t K f G) (h : ∀ y, G y → G' y) : OpensB enc P w base sp held t K f G' := fun fuel cs x h1 h2 => by
  obtain ⟨y, g1, g3⟩ := O fuel cs x h1 h2
  exact ⟨y, h y g1, g3⟩
theorem mem_weightsAll {e : TypeId} : ∀ {ds : List (DataW H)} {d : DataW H}, d ∈ ds → ∀ n ∈ d.weights P e, n ∈ DataW.weightsAll P e ds
  | a :: r, d, h, n, hn => by
    unfold DataW.weightsAll
    rcases List.mem_cons.1 h with rfl | h
    · exact List.mem_append.2 (.inl hn)
    · exact List.mem_append.2 (.inr (mem_weightsAll h n hn))
theorem opensB_slice {t e : TypeId} {K : Nat} {α : Type} {f : α → List PV} {G : α → Prop} (ht : P.underlying t = some (.slice e)) (hc : P.cellsOf e = K) (hby : 1 ≤ P.bytesOf e) (O : OpensB enc P w base sp held e K f G) :
    OpensB enc P w base sp held t 1 (fun l : List α => [.vs (l.map f)]) (fun l => (∀ y ∈ l, G y) ∧ l.length ≤ 140737488351232) := by
  intro fuel cs x h hwt
  rcases DataW.trod_slice ht h with ⟨rfl, rfl⟩ | ⟨a, len, cap, el, rest, n, rfl, rfl, rfl, _, hlc, _, hlen, hel, _, _⟩
  · refine ⟨[], ⟨by simp, by simp⟩, rfl, rfl, fun j u hu => ?_⟩
    cases j with
    | zero =>
      simp only [List.getElem?_cons_zero, Option.some.injEq] at hu
      subst hu
      exact ⟨_, rfl, .vs (sz := 0) (fun _ _ => Go.undef) rfl (Nat.le_refl _) (by simp) (by simp) (by omega) fun i x j u hx hu => by simp at hx⟩
    | succ j => simp at hu
  · have hw : (DataW.slice (el.map (·.1)) (rest.map (·.1)) : DataW H).weights P t = ((el.map (·.1)).length + (rest.map (·.1)).length) * P.bytesOf e :: (DataW.weightsAll P e (el.map (·.1)) ++ DataW.weightsAll P e (rest.map (·.1))) := by
      unfold DataW.weights
      rw [ht]
    simp only [hw] at hwt
    have hlw : el.length ≤ 140737488351232 := by
      have := hwt _ (List.mem_cons.2 (.inl rfl))
      rw [List.length_map, List.length_map] at this
      have h2 : (el.length + rest.length) * 1 ≤ (el.length + rest.length) * P.bytesOf e := Nat.mul_le_mul_left _ hby
      omega
    obtain ⟨l, hll, hl⟩ := list_choice el (fun i b (y : α) => G y ∧ (f y).length = K ∧ (f y).all oneP = true ∧ ∀ (j : Nat) (u : PV), (f y)[j]? = some u → ∃ cv, w.cell? (a.add (i * K + j)) = some cv ∧ RP (fun a v => w.cell? a = some v ∧ True) cv u) fun i b hb => by
      have hi : i < len := by have := (List.getElem?_eq_some_iff.1 hb).1; omega
      have h1 := hel i hi
      rw [hc, hb] at h1
      obtain ⟨ce, hce, hte⟩ := Option.bind_eq_some_iff.1 h1
      obtain ⟨y, g1, g3, g4, g5⟩ := O _ _ _ hte fun n hn => hwt n (List.mem_cons.2 (.inr (List.mem_append.2 (.inl (mem_weightsAll (List.mem_map.2 ⟨b, List.mem_of_getElem? hb, rfl⟩) n hn)))))
      obtain ⟨_, hcl, hcc⟩ := World.cells?_some hce
      refine ⟨y, g1, g3, g4, fun j u hu => ?_⟩
      obtain ⟨cv, hcv, hr⟩ := g5 j u hu
      have hjK : j < K := by
        have := (List.getElem?_eq_some_iff.1 hu).1
        omega
      have := hcc j hjK
      rw [hcv] at this
      refine ⟨cv, ?_, hr⟩
      rw [← this, Addr.add_add]
    have hat : ∀ (i : Nat) y, l[i]? = some y → ∃ b, el[i]? = some b := fun i y hy => by
      have := (List.getElem?_eq_some_iff.1 hy).1
      exact ⟨el[i]'(by omega), List.getElem?_eq_getElem (by omega)⟩
    have hmem : ∀ y ∈ l, ∃ (i : Nat) (b : DataW H × List MemPlace), l[i]? = some y ∧ el[i]? = some b := fun y hy => by
      obtain ⟨i, hi⟩ := List.mem_iff_getElem?.1 hy
      obtain ⟨b, hb⟩ := hat i y hi
      exact ⟨i, b, hi, hb⟩
    have hfa : ∀ x ∈ l.map f, x.length = K ∧ x.all oneP = true := fun x hx => by
      obtain ⟨y, hy, rfl⟩ := List.mem_map.1 hx
      obtain ⟨i, b, h1, h2⟩ := hmem y hy
      have := hl i y b h1 h2
      exact ⟨this.2.1, this.2.2.1⟩
    refine ⟨l, ⟨fun y hy => ?_, by omega⟩, rfl, rfl, fun j u hu => ?_⟩
    · obtain ⟨i, b, h1, h2⟩ := hmem y hy
      exact (hl i y b h1 h2).1
    · cases j with
      | succ j => simp at hu
      | zero =>
        simp only [List.getElem?_cons_zero, Option.some.injEq] at hu
        subst hu
        have hg : ∀ (i : Nat) (x : List PV) (j : Nat) (u : PV), (l.map f)[i]? = some x → x[j]? = some u → ∃ cv, w.cell? (a.add (i * K + j)) = some cv ∧ RP (fun a v => w.cell? a = some v ∧ True) cv u := fun i x j u hx hu => by
          rw [List.getElem?_map] at hx
          obtain ⟨y, hy, rfl⟩ := Option.map_eq_some_iff.1 hx
          obtain ⟨b, hb⟩ := hat i y hy
          exact (hl i y b hy hb).2.2.2 j u hu
        refine ⟨_, rfl, .vs (sz := K) (fun i j => (w.cell? (a.add (i * K + j))).getD Go.undef) (by simp; omega) hlc (fun x hx => (hfa x hx).1) (fun x hx => (hfa x hx).2) (fun _ => ⟨_, rfl, fun i x j u hx hu => ?_⟩) fun i x j u hx hu => ?_⟩
        · obtain ⟨cv, hcv, _⟩ := hg i x j u hx hu
          simp [hcv]
        · obtain ⟨cv, hcv, hr⟩ := hg i x j u hx hu
          simpa [hcv] using hr
theorem opensB_fld {fs : Array Field} {cs : List Value} {xs : List (DataW H × List MemPlace)} {n : Nat} {K : Nat} {α : Type} {f : α → List PV} {G : α → Prop}
    (h : ∀ (i : Nat) (fd : Field), fs[i]? = some fd → DataW.trod enc P w base sp held n fd.type ((cs.drop fd.offset).take (P.cellsOf fd.type)) = xs[i]?) (hx : xs.length = fs.size)
    (hwt : ∀ n ∈ DataW.weightsEach P (fs.toList.map (·.type)) (xs.map (·.1)), n ≤ 140737488351232)
    (i : Nat) (fd : Field) (hf : fs[i]? = some fd) (O : OpensB enc P w base sp held fd.type K f G) :
    ∃ (y : α), G y ∧ (f y).length = K ∧ (f y).all oneP = true ∧ ∀ (j : Nat) (u : PV), (f y)[j]? = some u → ∃ cv, cs[fd.offset + j]? = some cv ∧ RP (fun a v => w.cell? a = some v ∧ True) cv u := by
  have h1 := h i fd hf
  have hi : i < xs.length := by rw [hx]; exact (Array.getElem?_eq_some_iff.1 hf).1
  rw [List.getElem?_eq_getElem hi] at h1
  have hf' : (fs.toList.map (·.type))[i]? = some fd.type := by simp [hf]
  have hx' : (xs.map (·.1))[i]? = some xs[i].1 := by simp [hi]
  obtain ⟨y, g1, g3, g4, g5⟩ := O _ _ _ h1 fun n hn => hwt n (DataW.weights_mem_each hf' hx' n hn)
  refine ⟨y, g1, g3, g4, fun j u hu => ?_⟩
  obtain ⟨cv, hcv, hr⟩ := g5 j u hu
  refine ⟨cv, ?_, hr⟩
  rw [List.getElem?_take] at hcv
  split at hcv
  · rwa [List.getElem?_drop] at hcv
  · cases hcv
def slP (p : Int × List UInt8) : List PV := [.int .i64 p.1, .str p.2]
theorem opens_seal {t : TypeId} {f0 f1 : Field} (ht : P.underlying t = some (.struct #[f0, f1])) (h0 : P.underlying f0.type = some (.int .i64)) (h1 : P.underlying f1.type = some .string)
    (o0 : f0.offset = 0) (o1 : f1.offset = 1) : OpensB enc P w base sp held t 2 slP (fun _ => True) := by
  intro fuel cs x h _
  obtain ⟨xs, n, rfl, rfl, hl, hxl, hall⟩ := DataW.trod_struct ht h
  obtain ⟨b0, y0, x0, p0, m0, _, _, r0⟩ := opens_fld hall hxl 0 f0 rfl (opens_int h0)
  obtain ⟨b1, y1, x1, p1, m1, _, _, r1⟩ := opens_fld hall hxl 1 f1 rfl (opens_str h1)
  rw [o0] at r0
  rw [o1] at r1
  refine ⟨(y0, y1), trivial, rfl, rfl, fun j u hu => ?_⟩
  match j, hu with
  | 0, hu => exact r0 0 u hu
  | 1, hu => exact r1 0 u hu
  | j + 2, hu => simp [slP] at hu
theorem opens_stm {t : TypeId} {f0 f1 f2 f3 f4 f5 f6 f7 f8 f9 f10 f11 : Field} (ht : P.underlying t = some (.struct #[f0, f1, f2, f3, f4, f5, f6, f7, f8, f9, f10, f11]))
    (h0 : P.underlying f0.type = some (.int .i64)) (h1 : P.underlying f1.type = some (.int .i64)) (h2 : P.underlying f2.type = some .string) (h3 : P.underlying f3.type = some (.int .i64)) (h4 : P.underlying f4.type = some (.int .i64)) (h5 : P.underlying f5.type = some (.int .i64)) (h6 : P.underlying f6.type = some (.int .i64)) (h7 : P.underlying f7.type = some (.int .i64))
    (h8 : OpensB enc P w base sp held f8.type 1 (fun l : List Int => [.vs (l.map i1)]) (fun l => big l.length)) (h9 : OpensB enc P w base sp held f9.type 1 (fun l : List Pn => [.vs (l.map pn)]) (fun l => big l.length)) (h10 : P.underlying f10.type = some .string) (h11 : OpensB enc P w base sp held f11.type 2 slP (fun _ => True))
    (o0 : f0.offset = 0) (o1 : f1.offset = 1) (o2 : f2.offset = 2) (o3 : f3.offset = 3) (o4 : f4.offset = 4) (o5 : f5.offset = 5) (o6 : f6.offset = 6) (o7 : f7.offset = 7) (o8 : f8.offset = 8) (o9 : f9.offset = 9) (o10 : f10.offset = 10) (o11 : f11.offset = 11) :
    OpensB enc P w base sp held t 13 sm bigS := by
  intro fuel cs x h hw
  obtain ⟨xs, n, rfl, rfl, hl, hxl, hall⟩ := DataW.trod_struct ht h
  have hwt : ∀ n ∈ DataW.weightsEach P ((#[f0, f1, f2, f3, f4, f5, f6, f7, f8, f9, f10, f11] : Array Field).toList.map (·.type)) (xs.map (·.1)), n ≤ 140737488351232 := fun n hn => hw n (by unfold DataW.weights; rw [ht]; exact hn)
  obtain ⟨y0, p0, _, _, r0⟩ := opensB_fld hall hxl hwt 0 f0 rfl (opens_int h0).b
  obtain ⟨y1, p1, _, _, r1⟩ := opensB_fld hall hxl hwt 1 f1 rfl (opens_int h1).b
  obtain ⟨y2, p2, _, _, r2⟩ := opensB_fld hall hxl hwt 2 f2 rfl (opens_str h2).b
  obtain ⟨y3, p3, _, _, r3⟩ := opensB_fld hall hxl hwt 3 f3 rfl (opens_int h3).b
  obtain ⟨y4, p4, _, _, r4⟩ := opensB_fld hall hxl hwt 4 f4 rfl (opens_int h4).b
  obtain ⟨y5, p5, _, _, r5⟩ := opensB_fld hall hxl hwt 5 f5 rfl (opens_int h5).b
  obtain ⟨y6, p6, _, _, r6⟩ := opensB_fld hall hxl hwt 6 f6 rfl (opens_int h6).b
  obtain ⟨y7, p7, _, _, r7⟩ := opensB_fld hall hxl hwt 7 f7 rfl (opens_int h7).b
  obtain ⟨y8, p8, _, _, r8⟩ := opensB_fld hall hxl hwt 8 f8 rfl h8
  obtain ⟨y9, p9, _, _, r9⟩ := opensB_fld hall hxl hwt 9 f9 rfl h9
  obtain ⟨y10, p10, _, _, r10⟩ := opensB_fld hall hxl hwt 10 f10 rfl (opens_str h10).b
  obtain ⟨y11, p11, _, _, r11⟩ := opensB_fld hall hxl hwt 11 f11 rfl h11
  rw [o0] at r0
  rw [o1] at r1
  rw [o2] at r2
  rw [o3] at r3
  rw [o4] at r4
  rw [o5] at r5
  rw [o6] at r6
  rw [o7] at r7
  rw [o8] at r8
  rw [o9] at r9
  rw [o10] at r10
  rw [o11] at r11
  refine ⟨⟨y0, y1, y2, y3, y4, y5, y6, y7, y8, y9, y10, y11.1, y11.2⟩, ⟨p8, p9⟩, rfl, rfl, fun j u hu => ?_⟩
  match j, hu with
  | 0, hu => exact r0 0 u hu
  | 1, hu => exact r1 0 u hu
  | 2, hu => exact r2 0 u hu
  | 3, hu => exact r3 0 u hu
  | 4, hu => exact r4 0 u hu
  | 5, hu => exact r5 0 u hu
  | 6, hu => exact r6 0 u hu
  | 7, hu => exact r7 0 u hu
  | 8, hu => exact r8 0 u hu
  | 9, hu => exact r9 0 u hu
  | 10, hu => exact r10 0 u hu
  | 11, hu => exact r11 0 u hu
  | 12, hu => exact r11 1 u hu
  | j + 13, hu => simp [sm] at hu
end
end Go.Proofs.Am
