/- 'trustflowlaw27.BallotRaw', up to a bulk: true; the input reads as it did; and its card. -/
import Derived.Test.YtabmciccahfjiaaGreatDoorFinV
import Derived.Test.YtabmciccahfjiaaGreatDoorCards
import Derived.Test.YtabmciccahfjiaaGreatDoorTie
import Derived.ShutString
import Derived.ChangeOld
set_option linter.unusedSimpArgs false
set_option linter.unusedVariables false
namespace Go.Proofs.YtabmciccahfjiaaGreatDoor.ballotRawUpto
open Go Go.ChangeShapes Go.WideShapes Go.ChangeAt Go.RowKit

theorem own : ownKnob Tryz.prog.godebug = none := by kernel_rfl
theorem laidOut : laidOutB Tryz.prog = true := by kernel_rfl

theorem walk (W : World) (hL : Am.Laid Tryz.prog W) (v0 v1 : Value) (v : List Am.Vt) (s : List Int) (r0 : Am.RP (fun a x => W.cell? a = some x ∧ True) v0 (.vs (v.map Am.vt7))) (r1 : Am.RP (fun a x => W.cell? a = some x ∧ True) v1 (.vs (s.map Am.i1)))
    (hG : ∀ y ∈ v, Am.vtG y) (hm : (v.map Am.vtM).sum + s.length ≤ 1048576) :
    Calls Tryz.prog 3 #[v0, v1] W fun e w' => e = .returned (.bool true) ∧ Below W.heap.size W w' := by
  have hvl : v.length ≤ (v.map Am.vtM).sum := by
    clear r0 hG hm
    induction v with
    | nil => simp
    | cons y l ih => simp only [List.map_cons, List.sum_cons, List.length_cons, Am.vtM]; omega
  have hy : ∀ y ∈ v, Am.ctM y.x ≤ 1048576 := fun y hy => by
    have := Am.mem_sum (m := Am.vtM) hy
    unfold Am.vtM at this hm
    omega
  have hpi : ∀ y ∈ v, y.x.li.length ≤ 1048576 ∧ y.x.pi.length ≤ 1048576 := fun y h => by
    have h1 := hy y h
    have h2 := Am.pinl_le y.x.pi
    unfold Am.ctM at h1
    omega
  have D := Am.raw_den v s (show v.length < 4611686018427387904 by omega) (show s.length < 4611686018427387904 by omega) (fun y h => ⟨show y.x.li.length < 4611686018427387904 by have := hpi y h; omega, show y.x.pi.length < 4611686018427387904 by have := hpi y h; omega⟩)
    (fun _ h50 y h => Am.okX_of (hG y h).2.2 (hy y h) (by have := h50 y h; omega))
  refine (Am.den_calls D W hL (fun _ => True) [v0, v1] rfl fun i v u hi hu => ?_).mono fun e w' => ?_
  · match i, hi, hu with
    | 0, hi, hu => simp only [List.getElem?_cons_zero, List.getElem?_cons_succ, Option.some.injEq] at hi hu; subst hi hu; exact r0
    | 1, hi, hu => simp only [List.getElem?_cons_zero, List.getElem?_cons_succ, Option.some.injEq] at hi hu; subst hi hu; exact r1
    | i + 2, hi, hu => simp at hi
  · rintro ⟨v, rfl, hg, E, hR, _⟩
    rw [hR.bool_inv]
    exact ⟨rfl, (Below.refl _ W).grown hg (Nat.le_refl _) fun k hk => by cases hk⟩

theorem opens_votes {H : Type} {enc : TypeId × Value → H} {w : World} {base : Nat} {sp : Nat → Bool} {held : Bool} : Am.Opens enc Tryz.prog w base sp held 22 1 (fun l : List Am.Vt => [.vs (l.map Am.vt7)]) (fun l => 1 + (l.map Am.vtM).sum) (fun l => ∀ y ∈ l, Am.vtG y) :=
  Am.opens_slice Tryz.underlying22 (by kernel_rfl)
    (Am.opens_vt Tryz.underlying31 rfl rfl rfl Tryz.underlying3
      (Am.opens_case Tryz.underlying29 Tryz.underlying3 Tryz.underlying3 Tryz.underlying3 Tryz.underlying3 rfl rfl rfl rfl)
      (Am.opens_ct Tryz.underlying27 rfl rfl (Am.opens_slice Tryz.underlying23 (by kernel_rfl) (Am.opens_int Tryz.underlying3))
        (Am.opens_slice Tryz.underlying25 (by kernel_rfl) (Am.opens_pin Tryz.underlying87 Tryz.underlying3 Tryz.underlying3 Tryz.underlying9 rfl rfl rfl))))
theorem opens_ints {H : Type} {enc : TypeId × Value → H} {w : World} {base : Nat} {sp : Nat → Bool} {held : Bool} : Am.Opens enc Tryz.prog w base sp held 23 1 (fun l : List Int => [.vs (l.map Am.i1)]) (fun l => 1 + (l.map fun _ => 1).sum) (fun l => ∀ y ∈ l, Am.inR y) :=
  Am.opens_slice Tryz.underlying23 (by kernel_rfl) (Am.opens_int Tryz.underlying3)

theorem reads (os : Os) {H : Type} (enc : TypeId × Value → H) : ∃ places, DataW.whole enc Tryz.prog ((Am.laidWorld os).forCall (fun _ _ => 0) ⟨#[], #[.slice none 0 0, .slice none 0 0], []⟩).memory Tryz.f3.params.toList Rows.ballotRawSpec.vars false #[Value.slice none 0 0, Value.slice none 0 0].toList 8 = some ([.nil, .nil], [], places) :=
  ⟨[], by kernel_rfl⟩

set_option maxRecDepth 100000 in
theorem lifted (os : Os) (started : os.Started) (H : Type) (enc : TypeId × Value → H) (F : Stop.Interp) :
    ReturnsInHanded {} Tryz.checked os 3 .any ((Rows.OpenSpec.upto Rows.ballotRawSpec).preRow enc Tryz.prog Tryz.f3 Rows.ballotRawUptoRow.domain false Rows.ballotRawUptoRow.laid) (((Rows.OpenSpec.upto Rows.ballotRawSpec).at F).post enc Tryz.prog Tryz.f3 false true false false) := by
  obtain ⟨places, hx⟩ := reads os enc
  refine returnsInHanded_of_row (C := Tryz.checked) (s := Rows.OpenSpec.upto Rows.ballotRawSpec) own started (by kernel_rfl) Tryz.func3
    (witness_row_atRef (enc := enc) (C := Tryz.checked) false (Am.laidWorld os) #[.slice none 0 0, .slice none 0 0] rfl (by kernel_rfl) (by kernel_rfl) (by kernel_rfl)
      (OpenSpec.preRow_of_cond 8 hx (by kernel_rfl) (fun k hk => by cases hk; kernel_rfl) (by kernel_rfl) (Am.laid_met os _))) ?_
  intro W base args ds gs before hval0 hW hcnd0 hcond _ hL _ _
  have hval : ∀ (j : Nat) t v, Tryz.f3.params[j]? = some t → args[j]? = some v → Value.okWide Tryz.prog W .any base t v := hval0
  have hW' := hW
  obtain ⟨p, q, hA0, hV, rfl, hfz, hnd⟩ := hW
  have hA : DataW.TrodAll enc Tryz.prog W 0 (fun _ => true) true Tryz.f3.params.toList args.toList ds p := hA0
  rw [Tryz.params3] at hA hval
  obtain ⟨v0, vs0, d0, ds0, p0, q0, hargs, rfl, rfl, h0, r0⟩ := trodAll_cons hA
  obtain ⟨v1, vs1, d1, ds1, p1, q1, rfl, rfl, rfl, h1, r1⟩ := trodAll_cons r0
  obtain ⟨rfl, rfl, rfl⟩ := trodAll_nil r1
  obtain rfl : args = #[v0, v1] := by cases args; simp_all
  obtain ⟨rfl, rfl⟩ := trodVars_none hV
  have k0 := h0
  have lt0 : ∀ x ∈ p0, x.block < W.heap.size := by obtain ⟨m, hm⟩ := k0; exact DataW.trod_lt m _ _ _ hm
  have k1 := h1
  have lt1 : ∀ x ∈ p1, x.block < W.heap.size := by obtain ⟨m, hm⟩ := k1; exact DataW.trod_lt m _ _ _ hm
  obtain ⟨a0, l0, c0, rfl⟩ := okWide_slice Tryz.underlying22 (hval 0 22 v0 rfl rfl)
  obtain ⟨a1, l1, c1, rfl⟩ := okWide_slice Tryz.underlying23 (hval 1 23 v1 rfl rfl)
  have hb := hcond _ rfl
  obtain ⟨m0, hm0⟩ := h0
  obtain ⟨m1, hm1⟩ := h1
  obtain ⟨y0, g0, b0, _, _, s0⟩ := opens_votes _ _ _ hm0
  obtain ⟨y1, g1, b1, _, _, s1⟩ := opens_ints _ _ _ hm1
  obtain ⟨cv0, e0, q0⟩ := s0 0 _ rfl
  obtain ⟨cv1, e1, q1⟩ := s1 0 _ rfl
  simp only [Value.cells, List.getElem?_cons_zero, Option.some.injEq] at e0 e1
  subst e0 e1
  have hbb : Rows.uptoBulkAll ([d0, d1] ++ []) ≤ 1048576 := of_decide_eq_true hb
  simp only [List.cons_append, List.nil_append, Rows.uptoBulkAll] at hbb
  have b0' : 1 + (y0.map Am.vtM).sum ≤ Rows.uptoBulk d0 := b0
  have b1' : 1 + (y1.map fun _ => 1).sum ≤ Rows.uptoBulk d1 := b1
  rw [Am.sum_ones] at b1'
  clear hA0 hval0
  refine (walk W (Am.laid_of hL) _ _ y0 y1 q0 q1 g0 (by omega)).mono fun e W' ⟨he, bel⟩ => ?_
  subst he
  exact ⟨_, rfl, _, _, _, [], _, [], hW', trodAll_mk1 (shut_bool Tryz.underlying4 _), (trodAll_cons_mk (Below.trod laidOut (by kernel_rfl) (of_decide_eq_true (by kernel_rfl)) k0 bel lt0) (trodAll_cons_mk (Below.trod laidOut (by kernel_rfl) (of_decide_eq_true (by kernel_rfl)) k1 bel lt1) trodAll_mk0)), rfl, bel.frame _, fun h => by cases h⟩

end Go.Proofs.YtabmciccahfjiaaGreatDoor.ballotRawUpto
