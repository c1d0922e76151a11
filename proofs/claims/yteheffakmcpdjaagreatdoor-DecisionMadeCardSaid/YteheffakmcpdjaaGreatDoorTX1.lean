/- strings.Builder at this program: WriteString, whose copy check the translation has cut; ballot.text. -/
import Derived.Test.YteheffakmcpdjaaGreatDoorAmZ
import Derived.Test.YteheffakmcpdjaaGreatDoorShP
import Derived.Shelf.Strings.Builder1
import Derived.Shelf.Strconv.Quote
import Derived.Shelf.Strconv.Itoa3
import Derived.WalkKit
import Derived.BigCall
import Derived.Test.YteheffakmcpdjaaGreatDoorD1
import Derived.Test.YteheffakmcpdjaaGreatDoorAmZ3
import Derived.Deep.LoopGhost
import Derived.Deep.RegionHeld3
import Derived.WalkSpells
import Derived.StillTactics
import Derived.Laws.Pointers
import Derived.Lib.ItoaLen
set_option linter.unusedSimpArgs false
set_option linter.unusedVariables false
namespace Go.Proofs.Am
open Go Go.RowKit Go.Sort
open Go.Proofs

theorem bld_size : (Tryz.prog.info? 140).map (·.size) = some 2 := by kernel_rfl
theorem bld_lies : liesAt Tryz.prog Tryz.prog.depth 140 (2 / Tryz.prog.cellsOf 140) 0 140 1 = true := by kernel_rfl

set_option maxHeartbeats 1000000 in
set_option maxRecDepth 100000 in
theorem cc_used (b : Nat) (w : World) (h0 : w.cell? ⟨b, 0, none⟩ = some (.pointer (some ⟨b, 0, none⟩))) :
    Calls Tryz.prog 140 #[.pointer (some ⟨b, 0, none⟩)] w fun e w' => e = .returned (.tuple #[]) ∧ w' = w := by
  obtain ⟨j, hj, _⟩ := Option.map_eq_some_iff.1 bld_size
  go_enter Tryz.func140, Tryz.ntmps140
  go_wp2
  rw [Lib.run_neq_ptr_same w _ Tryz.underlying138 hj]
  go_wp2
  go_end0
  exact ⟨rfl, rfl⟩

set_option maxHeartbeats 1000000 in
set_option maxRecDepth 100000 in
theorem cc_fresh (b : Nat) (w : World) (h0 : w.cell? ⟨b, 0, none⟩ = some (.pointer none)) (hsh : w.shape? b = some (140, 2)) (hfz : w.frozen? ⟨b, 0, none⟩ = false) :
    Calls Tryz.prog 140 #[.pointer (some ⟨b, 0, none⟩)] w fun e w' => e = .returned (.tuple #[]) ∧ w' = w.setCell ⟨b, 0, none⟩ (.pointer (some ⟨b, 0, none⟩)) := by
  obtain ⟨j, hj, hjs⟩ := Option.map_eq_some_iff.1 bld_size
  go_enter Tryz.func140, Tryz.ntmps140
  go_wp2
  rw [Lib.run_to_unsafe w ⟨b, 0, none⟩ Tryz.underlying138 Tryz.underlying202 hj (by rw [hjs]; decide) hsh (Nat.zero_lt_succ 1)]
  simp only [Result.andThen]
  rw [Oper.upon_value]
  go_wp2
  rw [run_callFunc_extern Tryz.func186 (by kernel_rfl) (by kernel_rfl) (by kernel_rfl) (e := Extern.AbiNoEscape.same) (by kernel_rfl)]
  rw [Lib.run_noEscape]
  simp only [Result.andThen]
  rw [Oper.upon_value]
  go_wp2
  rw [Lib.run_from_unsafe w ⟨b, 0, none⟩ Tryz.underlying202 Tryz.underlying138 hj hsh bld_lies]
  simp only [Result.andThen]
  rw [Oper.upon_value]
  go_wp2
  go_end0
  exact ⟨rfl, rfl⟩

/-- Whatever is neither the builder nor a row of bytes stands as it stood. -/
def kept (b : Nat) (w w' : World) : Prop := ∀ (k : Nat) (o : Obj), w.heap[k]? = some o → k ≠ b → (∀ cur fr, o ≠ .cells cur 5 fr) → w'.heap[k]? = some o
theorem kept_setCell (b off : Nat) (v : Value) (w : World) : kept b w (w.setCell ⟨b, off, none⟩ v) := fun k o h hk _ => by
  show ((w.setCell ⟨b, off, none⟩ v).heap)[k]? = _
  rw [setCell_eq]
  simp only [mapBlock, Array.getElem?_modify, if_neg (Ne.symm hk)]
  exact h

theorem cc_any (B b : Nat) (bs : List Value) (w : World) (h : Lib.IsBuilder 140 5 B b bs w) :
    Calls Tryz.prog 140 #[.pointer (some ⟨b, 0, none⟩)] w fun e w' => e = .returned (.tuple #[]) ∧ (Lib.BuilderAt 140 5 B b (.pointer (some ⟨b, 0, none⟩)) bs w' ∧ Below B w w' ∧ kept b w w') := by
  rcases h with h | h
  · refine (cc_fresh b w h.cell0 h.shape h.frozen0).mono ?_
    rintro e w' ⟨rfl, rfl⟩
    exact ⟨rfl, h.used _, (Below.refl B w).setCell (p := ⟨b, 0, none⟩) h.1 _, kept_setCell b 0 _ w⟩
  · refine (cc_used b w h.cell0).mono ?_
    rintro e w' ⟨rfl, rfl⟩
    exact ⟨rfl, h, Below.refl B _, fun k o h _ _ => h⟩

set_option maxHeartbeats 1000000 in
set_option maxRecDepth 100000 in
theorem wstr (B b : Nat) (bs : List Value) (s : ByteArray) (w : World) (h : Lib.IsBuilder 140 5 B b bs w) (hlen : bs.length + s.size ≤ 140737488355328) (hBw : B ≤ w.heap.size) :
    Calls Tryz.prog 104 #[.pointer (some ⟨b, 0, none⟩), .string s] w fun e w' => e = .returned (.tuple #[.int .i64 s.size, .nilIface]) ∧ (Lib.IsBuilder 140 5 B b (bs ++ Lib.strCells s) w' ∧ Below B w w' ∧ kept b w w') := by
  obtain ⟨i0, hi, hz0, hz1, hz2⟩ := info_parts (show (Tryz.prog.info? 5).map (fun i => (i.zero, i.size, i.bytes)) = some (some (.int .u8 0), 1, 1) by kernel_rfl)
  have ecc : ∀ us w, (callFunc 140 us).run Tryz.prog w = .ok (.enter 140 us) w := enters_of Tryz.func140 (by kernel_rfl) rfl
  go_enter Tryz.func104, Tryz.ntmps104
  go_wp2_with (go_at_fn 140; refine (cc_any B b bs _ h).mono ?_)
  rintro e w1 ⟨rfl, h1, hb1, hk1⟩
  have HK1 : Aside (kept b w w1) := hk1
  clear hk1
  obtain ⟨hB, v, hbk, hown, hne⟩ := h1
  have c0 : w1.cell? ⟨b, 0, none⟩ = some (.pointer (some ⟨b, 0, none⟩)) := by rw [Lib.cell_of_heap hbk]; rfl
  have c1 : w1.cell? ⟨b, 1, none⟩ = some v := by rw [Lib.cell_of_heap hbk]; rfl
  go_wp2_with (at_builtin; refine Lib.wpList_append_own_string _ rfl _ _ 87 9 rfl B 5 i0 Tryz.underlying87 Tryz.underlying9 hi hz0 hz1 hz2 _ _ _ rfl hown s rfl ?c3 ?c4 ?c5 ?_)
  case c3 => unfold maxLen; omega
  case c4 => omega
  case c5 => have := hb1.size; omega
  intro v' w2 hown' hgrow _
  have hlt : b < w1.heap.size := by
    rcases Nat.lt_or_ge b w1.heap.size with h' | h'
    · exact h'
    · simp [Array.getElem?_eq_none h'] at hbk
  have hb2 : w2.heap[b]? = some (.cells #[.pointer (some ⟨b, 0, none⟩), v] 140 (0, 0)) := by
    rw [hgrow.block b hlt (fun e => hne e.symm)]
    exact hbk
  have d0 : w2.cell? ⟨b, 0, none⟩ = some (.pointer (some ⟨b, 0, none⟩)) := by rw [Lib.cell_of_heap hb2]; rfl
  have d1 : w2.cell? ⟨b, 1, none⟩ = some v := by rw [Lib.cell_of_heap hb2]; rfl
  have f1 : w2.frozen? ⟨b, 1, none⟩ = false := Lib.frozen_of_heap hb2 1
  obtain ⟨ao, n', cap, rfl⟩ : ∃ ao n' cap, v' = .slice ao n' cap := by
    rcases hown'.2 with ⟨hv, _⟩ | ⟨g, cap, cur, hv, _⟩
    · exact ⟨_, _, _, hv⟩
    · exact ⟨_, _, _, hv⟩
  have HK2 : Aside (kept b w1 w2) := fun k o h hk hty => by
    rw [hgrow.block k (Array.getElem?_eq_some_iff.1 h).1 (fun e => ?_)]
    · exact h
    · rcases hown.2 with ⟨hv, _⟩ | ⟨g, cap, cur, hv, _, q2, _⟩
      · rw [hv] at e; cases e
      · rw [hv] at e
        simp only [Value.ownBlock, Option.some.injEq] at e
        subst e
        rw [q2] at h
        cases h
        exact hty _ _ rfl
  go_wp2
  go_ret2
  refine ⟨rfl, Or.inr ?_, ?_, fun k o h hk hty => kept_setCell b 1 _ w2 k o (HK2.out k o (HK1.out k o h hk hty) hk hty) hk hty⟩
  · exact Lib.BuilderAt.put (T := 140) (e := 5) hB hb2 (bs' := bs ++ Lib.strCells s) (by simpa [Lib.strCells_length] using hown') (by decide)
  · exact (hb1.grown hgrow (by have := hb1.size; omega) (fun k hk => (hown.lt k hk).1)).setCell (p := ⟨b, 1, none⟩) hB _
end Go.Proofs.Am

/- ballot.text: what it writes. -/
namespace Go.Proofs.Am
open Go Go.RowKit Go.Sort
open Go.Proofs

def inR (n : Int) : Prop := -9223372036854775808 ≤ n ∧ n ≤ 9223372036854775807
instance (n : Int) : Decidable (inR n) := by unfold inR; exact inferInstance
/-- strconv.Quote. -/
def qB (s : List UInt8) : List UInt8 := (strOfNums (Lib.quoteZ Lib.goPrintTabs ⟨s.toArray⟩)).data.toList
def nB (n : Int) : List UInt8 := Lib.itoa n ++ [44]
def tpB (p : Pn) : List UInt8 := 59 :: (Lib.itoa p.au ++ (44 :: (Lib.itoa p.he ++ (44 :: qB p.di))))
def textB (x : Ct) : List UInt8 := x.li.flatMap nB ++ x.pi.flatMap tpB
def okX (x : Ct) : Prop := okCt x ∧ (∀ n ∈ x.li, inR n) ∧ ∀ p ∈ x.pi, inR p.au ∧ inR p.he

theorem itoa_le {n : Int} (h : inR n) : (Lib.itoa n).length ≤ 21 := Lib.itoa_length_le n h.1 h.2
theorem qB_len (s : List UInt8) : (qB s).length ≤ 10 * s.length + 2 := by
  have := Lib.quoteZ_length_le Lib.goPrintTabs ⟨s.toArray⟩
  simp only [qB, strOfNums_data, List.length_map]
  simpa [ByteArray.size] using this
theorem nB_len {n : Int} (h : inR n) : (nB n).length ≤ 22 := by
  have := itoa_le h
  simp [nB]; omega
theorem tpB_len {p : Pn} (h1 : inR p.au) (h2 : inR p.he) : (tpB p).length ≤ 10 * (pnB p).length := by
  have a1 := itoa_le h1
  have a2 := itoa_le h2
  have a3 := qB_len p.di
  simp only [tpB, pnB, List.length_append, List.length_cons, be8_len, txB_len]
  omega
theorem li_len (l : List Int) (h : ∀ n ∈ l, inR n) : (l.flatMap nB).length ≤ 22 * l.length := by
  induction l with
  | nil => simp
  | cons n l ih =>
    have a1 := nB_len (h n (by simp))
    have a2 := ih fun m hm => h m (by simp [hm])
    simp only [List.flatMap_cons, List.length_append, List.length_cons]
    omega
theorem pi_len (l : List Pn) (h : ∀ p ∈ l, inR p.au ∧ inR p.he) : (l.flatMap tpB).length ≤ 10 * (l.flatMap pnB).length := by
  induction l with
  | nil => simp
  | cons p l ih =>
    have a1 := tpB_len (h p (by simp)).1 (h p (by simp)).2
    have a2 := ih fun m hm => h m (by simp [hm])
    simp only [List.flatMap_cons, List.length_append]
    omega

theorem isB_below {T e : TypeId} {B b : Nat} {bs : List Value} {W W' : World} (h : Lib.IsBuilder T e B b bs W) (hb : Below W.heap.size W W') : Lib.IsBuilder T e B b bs W' := by
  have go : ∀ p, Lib.BuilderAt T e B b p bs W → Lib.BuilderAt T e B b p bs W' := by
    rintro p ⟨h1, v, h2, h3, h4⟩
    refine ⟨h1, v, (hb.block _ ?_).trans h2, ⟨h3.1, ?_⟩, h4⟩
    · exact (Array.getElem?_eq_some_iff.1 h2).1
    · rcases h3.2 with h5 | ⟨g, cap, cur, rfl, q1, q2, q3⟩
      · exact .inl h5
      · exact .inr ⟨g, cap, cur, rfl, q1, (hb.block _ (Array.getElem?_eq_some_iff.1 q2).1).trans q2, q3⟩
  rcases h with h | h
  · exact .inl (go _ h)
  · exact .inr (go _ h)

/-- The builder that is being written; what was there before it. -/
structure TJ (w : World) (acc : List UInt8) (W : World) : Prop where
  bld : Lib.IsBuilder 140 5 w.heap.size w.heap.size (Lib.byteCells acc) W
  bel : Below w.heap.size w W

theorem TJ.laid {w W : World} {acc : List UInt8} (h : TJ w acc W) (hL : Laid Tryz.prog w) : Laid Tryz.prog W :=
  laid_tabs hL W fun b _ hb => (h.bel.block b (Array.getElem?_eq_some_iff.1 hb).1).trans hb

theorem TJ.step {w W W' : World} {acc : List UInt8} (h : TJ w acc W) (hb : Below W.heap.size W W') : TJ w acc W' :=
  ⟨isB_below h.bld hb, ⟨hb.os.trans h.bel.os, hb.tape.trans h.bel.tape, hb.output.trans h.bel.output, Nat.le_trans h.bel.size hb.size, fun k hk => (hb.block k (Nat.lt_of_lt_of_le hk h.bel.size)).trans (h.bel.block k hk)⟩⟩

theorem itoaJ (n : Int) (hn : inR n) (w W : World) (acc : List UInt8) (h : TJ w acc W) (hL : Laid Tryz.prog w) :
    Calls Tryz.prog 105 #[.int .i64 n] W fun e W' => e = .returned (.string ⟨(Lib.itoa n).toArray⟩) ∧ TJ w acc W' ∧ Below W.heap.size W W' := by
  obtain ⟨g, hg⟩ := Option.isSome_iff_exists.1 (show (Tryz.prog.globalNamed "internal/strconv.uint64pow10").isSome = true by kernel_rfl)
  have htab : Lib.TabIs Tryz.prog W "internal/strconv.uint64pow10" .u64 Lib.pow10Tab := (h.laid hL).pow g hg
  refine (Any.strconv_Itoa Tryz.laysItoa n hn.1 hn.2 W htab).mono ?_
  rintro e W' ⟨rfl, k, os, rfl⟩
  have hb : Below W.heap.size W (grow (W.drewN k) os) := ⟨rfl, rfl, rfl, by simp [grow, World.drewN], fun j hj => by simp only [grow, World.drewN]; rw [Array.getElem?_append_left hj]⟩
  exact ⟨rfl, h.step hb, hb⟩

theorem quoteJ (s : List UInt8) (hs : s.length ≤ 100000000) (w W : World) (acc : List UInt8) (h : TJ w acc W) (hL : Laid Tryz.prog w) :
    Calls Tryz.prog 106 #[.string ⟨s.toArray⟩] W fun e W' => e = .returned (.string ⟨(qB s).toArray⟩) ∧ TJ w acc W' ∧ Below W.heap.size W W' := by
  have hl := h.laid hL
  have hsz : (⟨s.toArray⟩ : ByteArray).size = s.length := by simp [ByteArray.size]
  refine (Any.strconv_Quote Tryz.laysQuote (by kernel_rfl) Lib.goPrintTabs ⟨s.toArray⟩ W (by rw [hsz]; omega) (hl.print _ _ _ _ (by kernel_rfl) (by kernel_rfl) (by kernel_rfl) (by kernel_rfl)) (hl.utf8 _ _ (by kernel_rfl) (by kernel_rfl))).mono ?_
  rintro e W' ⟨rfl, hb⟩
  exact ⟨rfl, h.step hb, hb⟩

theorem wstrJ (s : ByteArray) (w W : World) (acc : List UInt8) (h : TJ w acc W) (hl : acc.length + s.size ≤ 140737488355328) :
    Calls Tryz.prog 104 #[.pointer (some ⟨w.heap.size, 0, none⟩), .string s] W fun e W' => e = .returned (.tuple #[.int .i64 s.size, .nilIface]) ∧ TJ w (acc ++ s.data.toList) W' ∧ kept w.heap.size W W' := by
  refine (wstr w.heap.size w.heap.size _ s W h.bld (by rw [Lib.byteCells_length]; exact hl) h.bel.size).mono ?_
  rintro e W' ⟨rfl, h1, h2, h3⟩
  exact ⟨rfl, ⟨by rw [Lib.byteCells_append]; exact h1, h.bel.trans h2⟩, h3⟩
end Go.Proofs.Am
