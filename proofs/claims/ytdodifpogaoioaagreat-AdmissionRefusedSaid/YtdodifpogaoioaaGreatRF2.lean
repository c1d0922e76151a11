/- RF2. -/
import Derived.Test.YtdodifpogaoioaaGreatRF1
import Derived.RangeFuncBox
import Derived.Maps.AppendAt
set_option linter.unusedSimpArgs false
set_option linter.unusedVariables false
namespace Go.Proofs.Am
open Go Go.RowKit Go.Shelf
open Go.Proofs
attribute [local go_sem] Oper.semAt_some
set_option maxHeartbeats 1000000 in
theorem wanted_in (n : Nat) (a1 a2 a3 : Option Addr) (n1 n2 n3 c1 c2 c3 : Nat) (w : World) :
  CallsIn Fence.wide n Tryz.prog 82 #[.slice a1 n1 c1, .slice a2 n2 c2, .slice a3 n3 c3] w fun e w' => e = .returned (.func (.func 120) #[] #[.pointer (some ⟨w.heap.size, 0, none⟩), .pointer (some ⟨w.heap.size + 1, 0, none⟩), .pointer (some ⟨w.heap.size + 1 + 1, 0, none⟩)]) ∧
   w' = ((w.alloc (.cells #[.slice a1 n1 c1] 22)).alloc (.cells #[.slice a2 n2 c2] 22)).alloc (.cells #[.slice a3 n3 c3] 22) := by
 refine callsIn_of_wp Tryz.func82 rfl trivial ?_ rfl
 simp only [Tryz.ntmps82, List.size_toArray, List.length_cons, List.length_nil, Nat.reduceAdd, Nat.reduceSub, Array.replicate_succ, Array.replicate_zero, List.push_toArray, List.append_toArray, List.nil_append, List.cons_append]
 gi_wp2
 go_ret
 exact ⟨rfl, rfl⟩
theorem infoI : (Tryz.prog.info? 3).map (fun i => (i.zero, i.size, i.bytes)) = some (some (.int .i64 0), 1, 8) := by kernel_rfl
def keepS (w : World) (V : Addr → Prop) (a : Addr) : Prop := V a ∨ a = ⟨w.heap.size + 1, 0, none⟩ ∨ a = ⟨w.heap.size + 1 + 1, 0, none⟩ ∨ a = ⟨w.heap.size + 1 + 1 + 1, 0, none⟩
theorem keepS_lt {w w1 : World} {V : Addr → Prop} (hV : ∀ a, V a → a.block < w.heap.size) (hsz : w1.heap.size = w.heap.size + 4) (a : Addr) (ha : keepS w V a) : a.block < w1.heap.size := by
 rcases ha with h | rfl | rfl | rfl
 ·have := hV a h; omega
 all_goals simp only; omega
theorem keepC_putObj {S : Addr → Prop} {w1 W : World} {l : Nat} {o' : Obj} (hS : ∀ a, S a → a.block < w1.heap.size) (hl : w1.heap.size ≤ l) : KeepC S W (W.putObj l o') :=
 ⟨by simp, fun a ha => World.cell?_of_block (World.putObj_heap_other (fun e => by have := hS a ha; omega))⟩
theorem Nums.wide {S T : Addr → Prop} {W : World} {v : Value} {l : List Int} (h : Nums S W v l) (hS : ∀ a, S a → T a) : Nums T W v l :=
 RP.mono (fun a u ⟨h1, h2⟩ => ⟨h1, hS a h2⟩) h
theorem wanted_stops (w w1 : World) (V : Addr → Prop) (order appl ref : List Int) (aO aA aR : Option Addr) (cO cA cR : Nat) (ho : order.length ≤ 1000000) (ha : big appl.length) (hf : big ref.length)
  (hV : ∀ a, V a → a.block < w.heap.size) (nO : Nums V w (.slice aO order.length cO) order) (nA : Nums V w (.slice aA appl.length cA) appl) (nR : Nums V w (.slice aR ref.length cR) ref) (hB : Below w.heap.size w w1) (hsz : w1.heap.size = w.heap.size + 4)
  (b1 : Boxed w1 (w.heap.size + 1) 22 (.slice aO order.length cO)) (b2 : Boxed w1 (w.heap.size + 1 + 1) 22 (.slice aA appl.length cA)) (b3 : Boxed w1 (w.heap.size + 1 + 1 + 1) 22 (.slice aR ref.length cR)) :
  SeqStopsK Fence.wide 2 Tryz.prog 120 #[.pointer (some ⟨w.heap.size + 1, 0, none⟩), .pointer (some ⟨w.heap.size + 1 + 1, 0, none⟩), .pointer (some ⟨w.heap.size + 1 + 1 + 1, 0, none⟩)] (fun x : Int => #[Value.int .i64 x]) (KeepC (keepS w V)) (fun ys => ys = want appl ref order) (fun pre => pre <+: want appl ref order) (want appl ref order).length w1 := by
 intro l J Jx W hW hJ hJx hY h0
 have hK1 : KeepC V w w1 := ⟨hB.size, fun a ha => hB.cell (hV a ha)⟩
 have hK : KeepC (keepS w V) w1 W := ⟨hW.size, fun a ha => hW.cell (keepS_lt hV hsz a ha)⟩
 have up : ∀ {v : Value} {l : List Int}, Nums V w v l → Nums (keepS w V) W v l := fun h => ((h.keep hK1).wide fun a ha => .inl ha).keep hK
 exact wanted1_in 2 l _ _ _ order appl ref aO cO _ _ (keepS w V) J Jx W ho ha hf hY (fun pre A B hj hg => hJ pre A B none hj hg (fun r e => by cases e))
  (fun a ha => Nat.lt_of_lt_of_le (keepS_lt hV hsz a ha) hW.size) (.inr (.inl rfl)) (.inr (.inr (.inl rfl))) (.inr (.inr (.inr rfl)))
  ((hK.2 _ (.inr (.inl rfl))).trans b1.cell) ((hK.2 _ (.inr (.inr (.inl rfl)))).trans b2.cell) ((hK.2 _ (.inr (.inr (.inr rfl)))).trans b3.cell) (up nO) (up nA) (up nR) h0
theorem rp_own {W : World} {N e : Nat} {v : Value} {l : List Int} (h : W.ownsRow N e 1 v l.length (l.map (Value.int .i64))) : RP (fun a x => W.cell? a = some x ∧ N ≤ a.block) v (.vs (l.map i1)) := by
 by_cases hv : v = .slice none 0 0
 ·subst hv
  rcases h.2 with ⟨_, h0⟩ | ⟨g, cap, cur, he, _⟩
  ·have : l = [] := List.eq_nil_of_length_eq_zero h0
   subst this
   exact .vs (sz := 0) (fun _ _ => Go.undef) rfl (Nat.le_refl _) (by simp) (by simp) (by omega) fun i x j u hx hu => by simp at hx
  ·cases he
 ·obtain ⟨g, cap, rfl, hb, _, hc, _, _, hH⟩ := Lib.holds_of_ownsRow h hv
  have hi : ∀ (i : Nat) (x : List PV) (j : Nat) (u : PV), (l.map i1)[i]? = some x → x[j]? = some u → i < l.length ∧ j = 0 ∧ u = .int .i64 (el l i) := fun i x j u hx hu => by
   rw [List.getElem?_map] at hx
   cases hl : l[i]? with
   | none => rw [hl] at hx; cases hx
   | some y =>
    rw [hl] at hx
    simp only [Option.map_some, Option.some.injEq] at hx
    subst hx
    have hil := (List.getElem?_eq_some_iff.1 hl).1
    cases j with
    | zero => simp [i1] at hu; exact ⟨hil, rfl, by rw [← hu, el_get l i hil]; simp [(List.getElem?_eq_some_iff.1 hl).2]⟩
    | succ j => simp [i1] at hu
  refine .vs (sz := 1) (fun i _ => .int .i64 (el l i)) (by simp) hc (by simp [i1]) (by simp [i1, oneP]) (fun _ => ⟨_, rfl, fun i x j u hx hu => ?_⟩) fun i x j u hx hu => ?_
  ·obtain ⟨h1, rfl, _⟩ := hi i x j u hx hu
   have := (hH i (by simpa using h1)).1
   have ea : (⟨g, 0, none⟩ : Addr).add (i * 1 + 0) = ⟨g, 0 + i, none⟩ := by
    unfold Addr.add
    split <;> simp_all
   rw [ea]
   refine ⟨?_, hb⟩
   rw [this, el_get l i h1]
   simp [getElem!_pos, h1]
  ·obtain ⟨h1, rfl, rfl⟩ := hi i x j u hx hu
   exact .int _ _
set_option maxRecDepth 100000 in
set_option maxHeartbeats 2000000 in
theorem admit_in (w : World) (V : Addr → Prop) (vO vL vA vR : Value) (order roster appl ref : List Int) (q : Int) (ho : order.length ≤ 1000000) (hr : big roster.length) (ha : big appl.length) (hf : big ref.length)
  (hV : ∀ a, V a → a.block < w.heap.size) (nO : Nums V w vO order) (nL : Nums V w vL roster) (nA : Nums V w vA appl) (nR : Nums V w vR ref) :
  CallsIn Fence.wide 3 Tryz.prog 44 #[vO, vL, vA, vR, .int .i64 q] w fun e W' => ∃ v, e = .returned v ∧ Below w.heap.size w W' ∧ RP (fun a x => W'.cell? a = some x ∧ (V a ∨ w.heap.size ≤ a.block)) v (.vs ((newc roster q (want appl ref order) []).map i1)) := by
 obtain ⟨aO, cO, rfl, _, _⟩ := nums_vals nO
 obtain ⟨aL, cL, rfl, _, _⟩ := nums_vals nL
 obtain ⟨aA, cA, rfl, _, _⟩ := nums_vals nA
 obtain ⟨aR, cR, rfl, _, _⟩ := nums_vals nR
 obtain ⟨i0, hi, hz0, hz1, hz2⟩ := info_parts infoI
 refine callsIn_of_wp_marks Tryz.func44 rfl trivial ?_ rfl
 simp only [Tryz.ntmps44, List.size_toArray, List.length_cons, List.length_nil, Nat.reduceAdd, Nat.reduceSub, Array.replicate_succ, Array.replicate_zero, List.push_toArray, List.append_toArray, List.nil_append, List.cons_append]
 gi_wp2
 refine ⟨trivial, (wanted_in _ _ _ _ _ _ _ _ _ _ _).mono ?_⟩
 rintro e w' ⟨rfl, rfl⟩
 gi_wp2
 have bB := (((Boxed.new w 22 (.slice none 0 0)).alloc (.cells #[.slice aO order.length cO] 22)).alloc (.cells #[.slice aA appl.length cA] 22)).alloc (.cells #[.slice aR ref.length cR] 22)
 have b1 := ((Boxed.new (w.alloc (.cells #[.slice none 0 0] 22)) 22 (.slice aO order.length cO)).alloc (.cells #[.slice aA appl.length cA] 22)).alloc (.cells #[.slice aR ref.length cR] 22)
 have b2 := (Boxed.new ((w.alloc (.cells #[.slice none 0 0] 22)).alloc (.cells #[.slice aO order.length cO] 22)) 22 (.slice aA appl.length cA)).alloc (.cells #[.slice aR ref.length cR] 22)
 have b3 := Boxed.new (((w.alloc (.cells #[.slice none 0 0] 22)).alloc (.cells #[.slice aO order.length cO] 22)).alloc (.cells #[.slice aA appl.length cA] 22)) 22 (.slice aR ref.length cR)
 simp only [World.size_alloc] at bB b1 b2 b3
 have hB0 : Below w.heap.size w ((((w.alloc (.cells #[.slice none 0 0] 22)).alloc (.cells #[.slice aO order.length cO] 22)).alloc (.cells #[.slice aA appl.length cA] 22)).alloc (.cells #[.slice aR ref.length cR] 22)) :=
  ((((Below.refl _ w).alloc (Nat.le_refl _) _).alloc (by simp) _).alloc (by simp; omega) _).alloc (by simp; omega) _
 have hsz : ((((w.alloc (.cells #[.slice none 0 0] 22)).alloc (.cells #[.slice aO order.length cO] 22)).alloc (.cells #[.slice aA appl.length cA] 22)).alloc (.cells #[.slice aR ref.length cR] 22)).heap.size = w.heap.size + 4 := by simp
 generalize hw1 : (((w.alloc (.cells #[.slice none 0 0] 22)).alloc (.cells #[.slice aO order.length cO] 22)).alloc (.cells #[.slice aA appl.length cA] 22)).alloc (.cells #[.slice aR ref.length cR] 22) = w1 at *
 clear hw1
 have hstops := wanted_stops w w1 V order appl ref aO aA aR cO cA cR ho ha hf hV nO nA nR hB0 hsz b1 b2 b3
 refine wpIn_rangeFunc_ownG rfl (by omega) (gf := 120) (lb := #[.pointer (some ⟨w.heap.size + 1, 0, none⟩), .pointer (some ⟨w.heap.size + 1 + 1, 0, none⟩), .pointer (some ⟨w.heap.size + 1 + 1 + 1, 0, none⟩)]) rfl trivial (enters_of Tryz.func120 (by kernel_rfl) rfl)
  hstops KeepC.trans (fun W l o o' hl ho' hc _ => keepC_putObj (fun a ha => keepS_lt hV hsz a ha) hl) (Below.refl _ _) (fun _ => rfl)
  (fun pre W => ((∃ v, Boxed W w.heap.size 22 v ∧ W.ownsRow w.heap.size 3 1 v pre.length (pre.map (Value.int .i64)) ∧ True) ∧ Below w.heap.size w W) ∧ (Boxed W (w.heap.size + 1) 22 (.slice aO order.length cO) ∧ (Boxed W (w.heap.size + 1 + 1) 22 (.slice aA appl.length cA) ∧ Boxed W (w.heap.size + 1 + 1 + 1) 22 (.slice aR ref.length cR))))
  (fun _ _ _ => False)
  (OwnFrom.and (OwnFrom.and (Own.from (holdsRow_own w.heap.size w.heap.size 22 3 1 (fun pre : List Int => pre.length) (fun pre => pre.map (Value.int .i64)) (fun _ _ => True)) _) (ownFrom_below (Nat.le_refl _) (by omega)))
   (OwnFrom.and (Own.from (boxed_own _ _ _) _) (OwnFrom.and (Own.from (boxed_own _ _ _) _) (Own.from (boxed_own _ _ _) _))))
  (fun _ _ _ _ _ hs _ _ => hs)
  ⟨⟨⟨_, bB, World.ownsRow_nil _ _ _ _, trivial⟩, hB0⟩, b1, b2, b3⟩
  (fun x => { tmps := #[.slice aO order.length cO, .slice aL roster.length cL, .slice aA appl.length cA, .slice aR ref.length cR, .int .i64 q, Go.undef, Go.undef, Go.undef, Go.undef, Go.undef, .slice none 0 0, .pointer (some ⟨w.heap.size, 0, none⟩), .int .i64 x, .slice aO order.length cO, .slice aA appl.length cA, .slice aR ref.length cR, .func (.func 120) #[] #[.pointer (some ⟨w.heap.size + 1, 0, none⟩), .pointer (some ⟨w.heap.size + 1 + 1, 0, none⟩), .pointer (some ⟨w.heap.size + 1 + 1 + 1, 0, none⟩)], .int .i64 x, Go.undef, Go.undef, Go.undef, Go.undef, Go.undef, Go.undef, Go.undef, Go.undef], defers := [] }) ?assign ?body ?done ?stop
 case assign =>
  intro l x W K hK
  gi_wp2
  exact hK
 case body =>
  rintro l pre x W ⟨⟨⟨v, hv, hrow, _⟩, hB⟩, hb1, hb2, hb3⟩ hlt
  have hc := hv.cell
  have hwl : (want appl ref order).length ≤ order.length := List.length_filter_le _ _
  gi_wp2_with (gi_at_builtin; refine wpListIn_append_own _ rfl _ _ 22 rfl w.heap.size 3 i0 (.int .i64 0) 1 8 Tryz.underlying22 hi hz0 hz1 hz2 rfl (by decide) _ _ _ rfl (hrow.alloc _) ⟨W.heap.size, 0, none⟩ 1 1 [.int .i64 x] rfl rfl (cell_one_new _ _ _) (by simp [Value.oneCell']) (by simp only [maxLen]; omega) (by omega) (by have := hB.size; simp; omega) ?_; intro v' w1 hown' hgrow _; obtain ⟨g', cap', rfl⟩ := ownsRow_succ hown'; obtain ⟨hv1, hv2, hr2, hk2, hbb2⟩ := hv.appended (by decide) hrow hB.size (Nat.le_refl _) hown' hgrow; have hc1 := hv1.cell; have hf1 := hv1.frozen)
  have nr : ∀ {b : Nat} {u : Value}, b ≠ w.heap.size → Boxed W b 22 u → Boxed (w1.setCell ⟨w.heap.size, 0, none⟩ (.slice (some ⟨g', 0, none⟩) (pre.length + 1) cap')) b 22 u := fun hne h => ((h.alloc _).kept hgrow (h.not_row (by decide) hrow)).other hne _
  have kb1 := nr (by omega) hb1
  have kb2 := nr (by omega) hb2
  have kb3 := nr (by omega) hb3
  refine ⟨hk2.from _, ⟨hbb2.size, ?_⟩, ⟨⟨_, hv2, by simpa using hr2, trivial⟩, hB.trans hbb2⟩, kb1, kb2, kb3⟩
  rintro a (hVa | rfl | rfl | rfl)
  ·exact hbb2.cell (hV a hVa)
  ·exact kb1.cell.trans hb1.cell.symm
  ·exact kb2.cell.trans hb2.cell.symm
  ·exact kb3.cell.trans hb3.cell.symm
 case done =>
  rintro D ys W hD rfl ⟨⟨⟨v, hv, hrow, _⟩, hB⟩, _⟩ hK
  have hc := hv.cell
  have hwl : (want appl ref order).length ≤ order.length := List.length_filter_le _ _
  gi_wp2
  have hKL : KeepC V w W := ⟨hB.size, fun a ha => hB.cell (hV a ha)⟩
  have D2 := newcq (want appl ref order) roster q (by simp only [big]; omega) hr (by omega)
  have hcall := den_calls D2 W ⟨trivial⟩ (fun a => V a ∨ w.heap.size ≤ a.block) [v, .slice aL roster.length cL, .int .i64 q] rfl (fun i u p hi hp => by
   match i, hi, hp with
   | 0, hi, hp => simp at hi hp; subst hi hp; exact RP.mono (fun a x h => ⟨h.1, .inr h.2⟩) (rp_own hrow)
   | 1, hi, hp => simp at hi hp; subst hi hp; exact (nL.keep hKL).wide fun a h => .inl h
   | 2, hi, hp => simp at hi hp; subst hi hp; exact .int _ _
   | i + 3, hi, hp => simp at hi)
  refine ⟨trivial, (callsIn_wide.2 hcall).mono ?_⟩
  rintro e W3 ⟨u, rfl, hg3, E, hR, hpc⟩
  have hD3 : W3.heap[D]? = some (.deferred (some [])) := (hg3.block D (Array.getElem?_eq_some_iff.1 hK).1 (by simp)).trans hK
  have hB3 : Below w.heap.size w W3 := hB.grown hg3 hB.size (fun k e => by cases e)
  obtain ⟨a4, c4, sz4, U4, hu4, _⟩ := hR.vs_inv.vs_inv
  subst hu4
  have hR2 := hR.vs_inv
  rw [List.length_map] at hR2
  gi_wp2
  refine ⟨by simp, .inl ⟨_, _, rfl, run_takeDeferred hD3, ?_⟩⟩
  refine ⟨_, results_tmp rfl _ _ _, _, rfl, hB3.trans (belowK_b (w := w) (Nat.le_refl _) W3 D _ _ (by omega) hD3 rfl rfl), RP.mono (fun a x h => ⟨?_, ?_⟩) hR2⟩
  ·have h1 := (hpc a x h).1
   refine (World.cell?_of_block (World.putObj_heap_other fun e => ?_)).trans h1
   have := h1
   simp [World.cell?, e, hD3] at this
  ·rcases (hpc a x h).2 with (h1 | h1) | h1
   ·exact .inl h1
   ·exact .inr h1
   ·exact .inr (Nat.le_trans hB.size h1)
 case stop =>
  rintro D c pre W _ _ h _
  exact h.elim
end Go.Proofs.Am
namespace Go.Proofs.Am
open Go Go.RowKit Go.Shelf
open Go.Proofs
theorem admit_den (order roster appl ref : List Int) (q : Int) (ho : order.length ≤ 1000000) (hr : big roster.length) (ha : big appl.length) (hf : big ref.length) : Den Tryz.prog 44 [.vs (order.map i1), .vs (roster.map i1), .vs (appl.map i1), .vs (ref.map i1), .int .i64 q] [] (.vs ((newc roster q (want appl ref order) []).map i1)) [] [] := by
 refine den_world (enters_of Tryz.func44 (by kernel_rfl) rfl) fun w V vals _ hV hlen hval => ?_
 match vals, hlen with
 | [v1, v2, v3, v4, v5], _ =>
  have g : ∀ {E : Env} {v : Value} {l : List Int}, RV E v (.vs (l.map i1)) → (∀ a x, E.pc a x → w.cell? a = some x ∧ V a) → Nums V w v l := fun h hp => RP.mono hp h.vs_inv
  obtain ⟨E1, r1, p1⟩ := hval 0 v1 _ rfl rfl
  obtain ⟨E2, r2, p2⟩ := hval 1 v2 _ rfl rfl
  obtain ⟨E3, r3, p3⟩ := hval 2 v3 _ rfl rfl
  obtain ⟨E4, r4, p4⟩ := hval 3 v4 _ rfl rfl
  obtain ⟨E5, r5, p5⟩ := hval 4 v5 _ rfl rfl
  have h5 := r5.int_inv
  subst h5
  exact callsIn_wide.1 (admit_in w V v1 v2 v3 v4 order roster appl ref q ho hr ha hf hV (g r1 p1) (g r2 p2) (g r3 p3) (g r4 p4))
end Go.Proofs.Am
