/- All operations on abstract values. -/
import Derived.Test.YteheffakmcpdjaaGreatDoorAmThree
set_option linter.unusedSimpArgs false
set_option linter.unusedVariables false
namespace Go.Proofs.Am
open Go Go.RowKit
variable {P : Program}

def bnames (d : Nat) (nb : List Box) : List Nat := (nbD d 0 nb).map (·.1)

def evCall (P : Program) (f : PV) (us : List PV) (dst : Option Nat) (σ : ASt) (K : KT) : Prop :=
  ∃ k caps cargs ext r nb ext' ns1 ns2 ren d, f = .fn k caps ∧ Den P k cargs ext r nb ext' ∧ passL σ ren (us ++ caps) = some (cargs, ns1) ∧ lend σ ren = some (ext, ns2) ∧ ren.Nodup ∧ (∀ n ∈ ren, n ∉ ns1 ++ ns2) ∧ keepL ext ext' ∧
    (∀ B ∈ nb, BoxH B) ∧ (∀ n ∈ bnames d nb, find σ n = none) ∧ nb.length < 1000000 ∧ okR nb.length ext.length r ∧ dst = dst ∧
    K (renR (rnm d ren) r) (callD σ d (ns1 ++ ns2) ren ext' nb) ((ns1 ++ ns2) ++ (ren ++ bnames d nb))

theorem evCall_sound {P : Program} {o : Oper} {ρ : Operand → PV} {σ : ASt} {f : Operand} {ys : Array Operand} {ts : Array TypeId} (ho : o.op = .call { callee := .value f, args := ys, argTypes := ts }) {K : KT}
    (h : evCall P (ρ f) (ys.toList.map ρ) o.dst σ K) : ∃ u δ F, LOp P o ρ σ u δ F ∧ K u δ F := by
  obtain ⟨k, caps, cargs, ext, r, nb, ext', ns1, ns2, ren, d, hf, D, h1, h2, h3, h4, h5, h6, h7, h8, h9, _, hK⟩ := h
  refine ⟨_, _, _, ⟨fun p hp => ?_, fun s hs x a hv w hW hops next Q hn => ?_⟩, hK⟩
  · simp only [callD, List.mem_append] at hp
    rcases hp with hp | hp | hp
    · obtain ⟨n, hn, rfl⟩ := List.mem_map.1 hp
      exact List.mem_append.2 (.inl hn)
    · obtain ⟨n, B⟩ := p
      exact List.mem_append.2 (.inr (List.mem_append.2 (.inl (List.of_mem_zip hp).1)))
    · exact List.mem_append.2 (.inr (List.mem_append.2 (.inr (List.mem_map.2 ⟨p, hp, rfl⟩))))
  · have hvf := hops f (by simp [ho, Op.operands, Call.operands])
    rw [hf] at hvf
    obtain ⟨vs, hvs, hl, hr⟩ := hvf.fn_inv
    have hcore := call_core D h1 h2 h3 h4 h5 h6 h7 h8 h9 hs hW (vals := (ys.toList.map a.eval) ++ vs.toList) (by simp [hl]) (fun i v u hv0 hu => by
      by_cases hi : i < ys.size
      · rw [List.getElem?_append_left (by simpa using hi), List.getElem?_map] at hv0
        rw [List.getElem?_append_left (by simpa using hi), List.getElem?_map] at hu
        cases hy : ys.toList[i]? with
        | none => rw [hy] at hv0; cases hv0
        | some y =>
          rw [hy] at hv0 hu
          cases hv0
          cases hu
          have hy' : ys[i]? = some y := by simpa using hy
          exact hops y (by simp [ho, Op.operands, Call.operands]; exact .inr (Array.mem_of_getElem? hy'))
      · rw [List.getElem?_append_right (by simpa using hi)] at hv0 hu
        simp only [List.length_map, Array.length_toList] at hv0 hu
        have := hr _ u hu
        have hvi : vs[i - ys.size]? = some v := by simpa using hv0
        rw [Array.getD_eq_getD_getElem?, hvi] at this
        exact this)
    unfold Oper.wp
    have hex : (execOp a.eval o).run P w = .ok (.enter k ((ys.toList.map a.eval) ++ vs.toList).toArray) w := by
      have he := D.enter ((ys.toList.map a.eval) ++ vs.toList).toArray w
      have harr : (ys.map a.eval ++ vs) = ((ys.toList.map a.eval) ++ vs.toList).toArray := by
        apply Array.ext'
        simp
      simp only [execOp, ho, resolve, hvs, Deferred.ofValue, Sem.run_bind, Sem.run_pure, Result.andThen_ok, invoke, Array.empty_append]
      rw [harr]
      exact he
    rw [hex, Oper.upon_enter]
    refine hcore.mono fun e w' => ?_
    rintro ⟨v, hv', rfl, k1, k2, k3⟩
    exact hn v hv' w' k1 k2 k3

/-! ### What the tables say of a type -/
def fo (P : Program) (t : TypeId) (f : Nat) : Option Nat :=
  match fofs P t f with
  | some (off, ft) => match szOf P ft with
    | some (_ + 1) => some off
    | _ => none
  | none => none

def slT (P : Program) (t : TypeId) : Option (Nat × Nat × Nat) :=
  match elemOf P t with
  | some e => match szOf P e, bytesOf P e, zeroOf P e with
    | some sz, some by_, some zs => if zs.length = sz ∧ 0 < sz ∧ 0 < by_ then some (e, sz, by_) else none
    | _, _, _ => none
  | none => none

def ldT (P : Program) (t : TypeId) : Option (Option Nat) :=
  match rowOf P t, szOf P t with
  | some false, _ => some none
  | some true, some m => some (some m)
  | _, _ => none

def arT (P : Program) (t : TypeId) : Option (Nat × Nat) :=
  match arrOf P t with
  | some (n, e) => match szOf P e with
    | some sz => some (n, sz)
    | none => none
  | none => none

theorem fo_eq {P : Program} {t : TypeId} {f off : Nat} (h : fo P t f = some off) : ∃ ft m, fofs P t f = some (off, ft) ∧ szOf P ft = some (m + 1) := by
  unfold fo at h
  split at h
  · rename_i o ft hf
    split at h
    · rename_i m hs
      cases h
      exact ⟨ft, m, hf, hs⟩
    · cases h
  · cases h

theorem slT_eq {P : Program} {t : TypeId} {e sz bytes : Nat} (h : slT P t = some (e, sz, bytes)) : elemOf P t = some e ∧ szOf P e = some sz ∧ bytesOf P e = some bytes ∧ (∃ zs, zeroOf P e = some zs ∧ zs.length = sz) ∧ 0 < sz ∧ 0 < bytes := by
  unfold slT at h
  split at h
  · rename_i e' he
    split at h
    · rename_i sz' by' zs h1 h2 h3
      split at h
      · rename_i hh
        simp only [Option.some.injEq, Prod.mk.injEq] at h
        obtain ⟨rfl, rfl, rfl⟩ := h
        exact ⟨he, h1, h2, ⟨zs, h3, hh.1⟩, hh.2⟩
      · cases h
    · cases h
  · cases h

theorem ldT_one {P : Program} {t : TypeId} (h : ldT P t = some none) : rowOf P t = some false := by
  unfold ldT at h
  split at h
  · assumption
  · cases h
  · cases h

theorem ldT_row {P : Program} {t : TypeId} {m : Nat} (h : ldT P t = some (some m)) : rowOf P t = some true ∧ szOf P t = some m := by
  unfold ldT at h
  split at h
  · cases h
  · rename_i h1 h2
    cases h
    exact ⟨h1, h2⟩
  · cases h

theorem arT_eq {P : Program} {t : TypeId} {n sz : Nat} (h : arT P t = some (n, sz)) : ∃ e, arrOf P t = some (n, e) ∧ szOf P e = some sz := by
  unfold arT at h
  split at h
  · rename_i n' e he
    split at h
    · rename_i sz' hs
      simp only [Option.some.injEq, Prod.mk.injEq] at h
      obtain ⟨rfl, rfl⟩ := h
      exact ⟨e, he, hs⟩
    · cases h
  · cases h

/-! ### The operations -/
def evLoad (P : Program) (t : TypeId) (σ : ASt) (u : PV) (K : KT) : Prop :=
  match ldT P t with
  | some none => match u with
    | .ptr n off => match find σ n with
      | some (.cells cs) => off < cs.length ∧ K (cs.getD off .undef) [] [n]
      | _ => False
    | .el cs => 0 < cs.length ∧ K (cs.getD 0 .undef) [] []
    | .oel n k i off => match find σ n with
      | some (.arr _ _ _ xs) => k = xs.length ∧ i < k ∧ off < (xs.getD i []).length ∧ K ((xs.getD i []).getD off .undef) [] [n]
      | some (.arh _ _ xs) => k = xs.length ∧ i < k ∧ off < (xs.getD i []).length ∧ K ((xs.getD i []).getD off .undef) [] [n]
      | _ => False
    | _ => False
  | some (some m) => match u with
    | .ptr n off => match find σ n with
      | some (.cells cs) => off + m ≤ cs.length ∧ K (.agg ((cs.drop off).take m)) [] [n]
      | _ => False
    | .el cs => m ≤ cs.length ∧ K (.agg (cs.take m)) [] []
    | .oel n k i off => match find σ n with
      | some (.arr _ _ _ xs) => k = xs.length ∧ i < k ∧ off + m ≤ (xs.getD i []).length ∧ K (.agg (((xs.getD i []).drop off).take m)) [] [n]
      | some (.arh _ _ xs) => k = xs.length ∧ i < k ∧ off + m ≤ (xs.getD i []).length ∧ K (.agg (((xs.getD i []).drop off).take m)) [] [n]
      | _ => False
    | _ => False
  | none => False

theorem getElem?_getD {cs : List PV} {off : Nat} (h : off < cs.length) : cs[off]? = some (cs.getD off .undef) := by
  rw [List.getD_eq_getElem?_getD, List.getElem?_eq_getElem h]; rfl

theorem evLoad_sound {P : Program} {o : Oper} {ρ : Operand → PV} {σ : ASt} {t : TypeId} {y : Operand} (ho : o.op = .load t y) {K : KT} (h : evLoad P t σ (ρ y) K) : ∃ u δ F, LOp P o ρ σ u δ F ∧ K u δ F := by
  unfold evLoad at h
  split at h
  · rename_i hl
    have hl := ldT_one hl
    split at h
    · rename_i n off hy
      split at h
      · rename_i cs hf
        exact ⟨_, _, _, lop_load_ptr ho hy hf hl (getElem?_getD h.1), h.2⟩
      · exact h.elim
    · rename_i cs hy
      exact ⟨_, _, _, lop_load_el ho hy hl (getElem?_getD h.1), h.2⟩
    · rename_i n k i off hy
      split at h
      · rename_i e sz sh xs hf
        exact ⟨_, _, _, lop_load_oel ho hy hf h.1 h.2.1 hl (getElem?_getD h.2.2.1), h.2.2.2⟩
      · rename_i e sz xs hf
        exact ⟨_, _, _, lop_load_oelh ho hy hf h.1 h.2.1 hl (getElem?_getD h.2.2.1), h.2.2.2⟩
      · exact h.elim
    · exact h.elim
  · rename_i m hl
    obtain ⟨hl, hm⟩ := ldT_row hl
    split at h
    · rename_i n off hy
      split at h
      · rename_i cs hf
        exact ⟨_, _, _, lop_load_ptrs ho hy hf hl hm h.1, h.2⟩
      · exact h.elim
    · rename_i cs hy
      exact ⟨_, _, _, lop_load_els ho hy hl hm h.1, h.2⟩
    · rename_i n k i off hy
      split at h
      · rename_i e sz sh xs hf
        exact ⟨_, _, _, lop_load_oels ho hy hf h.1 h.2.1 hl hm h.2.2.1, h.2.2.2⟩
      · rename_i e sz xs hf
        exact ⟨_, _, _, lop_load_oelhs ho hy hf h.1 h.2.1 hl hm h.2.2.1, h.2.2.2⟩
      · exact h.elim
    · exact h.elim
  · exact h.elim

def evStore (P : Program) (t : TypeId) (σ : ASt) (u v : PV) (K : KT) : Prop :=
  match szOf P t, cellsP v with
  | some m, some us => us.length = m ∧ us.all oneP = true ∧ (match u with
    | .ptr n off => match find σ n with
      | some (.cells cs) => off + m ≤ cs.length ∧ K .undef [(n, .cells (cs.take off ++ us ++ cs.drop (off + m)))] [n]
      | _ => False
    | .oel n k i off => match find σ n with
      | some (.arr e sz false xs) => match purL σ us with
        | some (us', ns) => k = xs.length ∧ i < k ∧ off + m ≤ sz ∧ n ∉ ns ∧ K .undef (shareD σ ns ++ [(n, .arr e sz false (xs.set i ((xs.getD i []).take off ++ us' ++ (xs.getD i []).drop (off + m))))]) (n :: ns)
        | none => False
      | some (.arh e sz xs) => k = xs.length ∧ i < k ∧ off + m ≤ sz ∧ K .undef [(n, .arh e sz (xs.set i ((xs.getD i []).take off ++ us ++ (xs.getD i []).drop (off + m))))] [n]
      | _ => False
    | _ => False)
  | _, _ => False

theorem evStore_sound {P : Program} {o : Oper} {ρ : Operand → PV} {σ : ASt} {t : TypeId} {y z : Operand} (ho : o.op = .store t y z) {K : KT} (h : evStore P t σ (ρ y) (ρ z) K) : ∃ u δ F, LOp P o ρ σ u δ F ∧ K u δ F := by
  unfold evStore at h
  split at h
  · rename_i m us hm hu
    obtain ⟨h1, h2, h3⟩ := h
    split at h3
    · rename_i n off hy
      split at h3
      · rename_i cs hf
        exact ⟨_, _, _, lop_store ho hy hf hu hm h1 h3.1 h2, h3.2⟩
      · exact h3.elim
    · rename_i n k i off hy
      split at h3
      · rename_i e sz xs hf
        split at h3
        · rename_i us' ns hp
          exact ⟨_, _, _, lop_storeEl ho hy hf h3.1 h3.2.1 hu hp h3.2.2.2.1 hm h1 h3.2.2.1 h2, h3.2.2.2.2⟩
        · exact h3.elim
      · rename_i e sz xs hf
        exact ⟨_, _, _, lop_storeElH ho hy hf h3.1 h3.2.1 hu hm h1 h3.2.2.1 h2, h3.2.2.2⟩
      · exact h3.elim
    · exact h3.elim
  · exact h.elim

def evFieldAddr (P : Program) (t : TypeId) (f : Nat) (σ : ASt) (u : PV) (K : KT) : Prop :=
  match fo P t f with
  | some off => match u with
    | .ptr n k => K (.ptr n (k + off)) [] []
    | .el cs => K (.el (cs.drop off)) [] []
    | .oel n k i o1 => match find σ n with
      | some (.arr _ _ _ xs) => k = xs.length ∧ i < k ∧ K (.oel n k i (o1 + off)) [] [n]
      | some (.arh _ _ xs) => k = xs.length ∧ i < k ∧ K (.oel n k i (o1 + off)) [] [n]
      | _ => False
    | _ => False
  | none => False

theorem evFieldAddr_sound {P : Program} {o : Oper} {ρ : Operand → PV} {σ : ASt} {t : TypeId} {f : Nat} {y : Operand} (ho : o.op = .fieldAddr t y f) {K : KT} (h : evFieldAddr P t f σ (ρ y) K) : ∃ u δ F, LOp P o ρ σ u δ F ∧ K u δ F := by
  unfold evFieldAddr at h
  split at h
  · rename_i off hf
    obtain ⟨ft, m, h1, h2⟩ := fo_eq hf
    split at h
    · rename_i n k hy
      exact ⟨_, _, _, lop_fieldAddr_ptr ho hy h1 h2, h⟩
    · rename_i cs hy
      exact ⟨_, _, _, lop_fieldAddr_el ho hy h1 h2, h⟩
    · rename_i n k i o1 hy
      split at h
      · rename_i e sz sh xs hB
        exact ⟨_, _, _, lop_fieldAddr_oel ho hy hB rfl h.1 h.2.1 h1 h2, h.2.2⟩
      · rename_i e sz xs hB
        exact ⟨_, _, _, lop_fieldAddr_oel ho hy hB rfl h.1 h.2.1 h1 h2, h.2.2⟩
      · exact h.elim
    · exact h.elim
  · exact h.elim

def evIndexAddr (P : Program) (t : TypeId) (σ : ASt) (u v : PV) (K : KT) : Prop :=
  match v with
  | .int _ i => match u with
    | .vs xs => match slT P t with
      | some (_, sz, _) => 0 ≤ i ∧ i < xs.length ∧ (xs.getD i.toNat []).length = sz ∧ K (.el (xs.getD i.toNat [])) [] []
      | none => False
    | .os n m => match slT P t, find σ n with
      | some (_, sz, _), some (.arr _ sz' _ xs) => sz' = sz ∧ m = xs.length ∧ 0 ≤ i ∧ i < xs.length ∧ K (.oel n m i.toNat 0) [] [n]
      | some (_, sz, _), some (.arh _ sz' xs) => sz' = sz ∧ m = xs.length ∧ 0 ≤ i ∧ i < xs.length ∧ K (.oel n m i.toNat 0) [] [n]
      | _, _ => False
    | .ptr n m => match arT P t with
      | some (len, sz) => 0 ≤ i ∧ i < len ∧ K (.ptr n (m + i.toNat * sz)) [] []
      | none => False
    | .osl n m a => match slT P t, find σ n with
      | some (_, sz, _), some (.arh _ sz' xs) => sz' = sz ∧ m = xs.length ∧ 0 ≤ i ∧ a + i < xs.length ∧ K (.oel n m (a + i.toNat) 0) [] [n]
      | _, _ => False
    | _ => False
  | _ => False

theorem evIndexAddr_sound {P : Program} {o : Oper} {ρ : Operand → PV} {σ : ASt} {t : TypeId} {y z : Operand} (ho : o.op = .indexAddr t y z) {K : KT} (h : evIndexAddr P t σ (ρ y) (ρ z) K) : ∃ u δ F, LOp P o ρ σ u δ F ∧ K u δ F := by
  unfold evIndexAddr at h
  split at h
  · rename_i kd i hz
    split at h
    · rename_i xs hy
      split at h
      · rename_i e sz b hs
        obtain ⟨h1, h2, _⟩ := slT_eq hs
        exact ⟨_, _, _, lop_index_vs ho hy hz h1 h2 h.1 h.2.1 h.2.2.1, h.2.2.2⟩
      · exact h.elim
    · rename_i n m hy
      split at h
      · rename_i e sz b e' sz' sh xs hs hf
        obtain ⟨h1, h2, _⟩ := slT_eq hs
        obtain ⟨rfl, k1, k2, k3, k4⟩ := h
        exact ⟨_, _, _, lop_index_os ho hy hz hf rfl k1 h1 h2 k2 k3, k4⟩
      · rename_i e sz b e' sz' xs hs hf
        obtain ⟨h1, h2, _⟩ := slT_eq hs
        obtain ⟨rfl, k1, k2, k3, k4⟩ := h
        exact ⟨_, _, _, lop_index_os ho hy hz hf rfl k1 h1 h2 k2 k3, k4⟩
      · exact h.elim
    · rename_i n m hy
      split at h
      · rename_i len sz ha
        obtain ⟨e, h1, h2⟩ := arT_eq ha
        exact ⟨_, _, _, lop_index_ptr ho hy hz h1 h2 h.1 h.2.1, h.2.2⟩
      · exact h.elim
    · rename_i n m a hy
      split at h
      · rename_i e sz b e' sz' xs hs hf
        obtain ⟨h1, h2, _⟩ := slT_eq hs
        obtain ⟨rfl, k1, k2, k3, k4⟩ := h
        exact ⟨_, _, _, lop_index_osl ho hy hz hf rfl k1 h1 h2 k2 k3, k4⟩
      · exact h.elim
    · exact h.elim
  · exact h.elim

def evBuildSlice (P : Program) (t len : Nat) (parts : List (Nat × PV)) (dst : Option Nat) (σ : ASt) (K : KT) : Prop :=
  match slT P t, dst with
  | some (e, sz, _), some d => match find σ (900000 + d) with
    | none => match rowsP σ sz 0 parts with
      | some (xs, ns) => find σ d = none ∧ len = parts.length ∧ len * sz ≤ 16777216 ∧ K (.os d xs.length) (shareD σ ns ++ [(d, .arr e sz false xs)]) (d :: ns)
      | none => False
    | some _ => match rowsK σ sz 0 parts with
      | some (xs, ns) => find σ d = none ∧ len = parts.length ∧ len * sz ≤ 16777216 ∧ K (.os d xs.length) (shareD σ ns ++ [(d, .arr e sz false xs)]) (d :: ns)
      | none => False
  | _, _ => False

/-- What is appended. -/
def evSrc (P : Program) (tx sz : Nat) (σ : ASt) (v : PV) (k : List (List PV) → List Nat → Prop) : Prop :=
  match v with
  | .vs ys => (isSlice P tx = true ∧ ∀ y ∈ ys, y.length = sz) ∧ k ys []
  | .nils => isSlice P tx = true ∧ k [] []
  | .sn _ => isSlice P tx = true ∧ k [] []
  | .os m n => match find σ m with
    | some (.arr _ sz' _ ys) => (isSlice P tx = true ∧ n = ys.length ∧ sz' = sz) ∧ k ys [m]
    | _ => False
  | .str l => (isStr P tx = true ∧ sz = 1) ∧ k (bytesP l) []
  | _ => False

/-- What it is appended to. -/
def evDst (e sz bytes : Nat) (dst : Option Nat) (σ : ASt) (u : PV) (K : KT) (ys : List (List PV)) (F : List Nat) : Prop :=
  match u with
  | .os n k => match find σ n with
    | some (.arr e' sz' sh xs) => (e' = e ∧ sz' = sz ∧ k = xs.length ∧ (xs.length + ys.length) * bytes ≤ 140737488355328) ∧ K (.os n (k + ys.length)) [(n, .arr e sz sh (xs ++ ys))] (n :: F)
    | some (.arh e' sz' xs) => (e' = e ∧ sz' = sz ∧ k = xs.length ∧ (xs.length + ys.length) * bytes ≤ 140737488355328) ∧ K (.os n (k + ys.length)) [(n, .arh e sz (xs ++ ys))] (n :: F)
    | _ => False
  | .nils => match dst with
    | some d => (find σ d = none ∧ ys.length * bytes ≤ 140737488355328) ∧ K (.os d ys.length) [(d, .arr e sz false ys)] (d :: F)
    | none => False
  | _ => False

def evApp2 (P : Program) (t tx : TypeId) (dst : Option Nat) (σ : ASt) (u v : PV) (K : KT) : Prop :=
  match slT P t with
  | some (e, sz, bytes) => evSrc P tx sz σ v (evDst e sz bytes dst σ u K)
  | none => False

theorem evApp_of {P : Program} {t tx : TypeId} {dst : Option Nat} {σ : ASt} {u v : PV} {K : KT} (h : evApp2 P t tx dst σ u v K) : evApp P t tx dst σ u v K := by
  unfold evApp2 at h
  split at h
  · rename_i e sz bytes hs
    obtain ⟨h1, h2, h3, h4, h5, h6⟩ := slT_eq hs
    refine ⟨e, sz, bytes, h1, h2, h3, h4, h5, h6, ?_⟩
    unfold evSrc at h
    split at h
    · obtain ⟨k1, k2⟩ := h
      refine ⟨_, [], ⟨k1.1, rfl, rfl, k1.2⟩, ?_⟩
      unfold evDst at k2
      split at k2
      · split at k2
        · rename_i hf; simp only [hf]; exact ⟨k2.1.1, k2.1.2.1, k2.1.2.2.1, k2.1.2.2.2, k2.2⟩
        · rename_i hf; simp only [hf]; exact ⟨k2.1.1, k2.1.2.1, k2.1.2.2.1, k2.1.2.2.2, k2.2⟩
        · exact k2.elim
      · split at k2
        · exact ⟨k2.1.1, k2.1.2, k2.2⟩
        · exact k2.elim
      · exact k2.elim
    · obtain ⟨k1, k2⟩ := h
      refine ⟨[], [], ⟨k1, rfl, rfl⟩, ?_⟩
      unfold evDst at k2
      split at k2
      · split at k2
        · rename_i hf; simp only [hf]; exact ⟨k2.1.1, k2.1.2.1, k2.1.2.2.1, k2.1.2.2.2, k2.2⟩
        · rename_i hf; simp only [hf]; exact ⟨k2.1.1, k2.1.2.1, k2.1.2.2.1, k2.1.2.2.2, k2.2⟩
        · exact k2.elim
      · split at k2
        · exact ⟨k2.1.1, k2.1.2, k2.2⟩
        · exact k2.elim
      · exact k2.elim
    · obtain ⟨k1, k2⟩ := h
      refine ⟨[], [], ⟨k1, rfl, rfl⟩, ?_⟩
      unfold evDst at k2
      split at k2
      · split at k2
        · rename_i hf; simp only [hf]; exact ⟨k2.1.1, k2.1.2.1, k2.1.2.2.1, k2.1.2.2.2, k2.2⟩
        · rename_i hf; simp only [hf]; exact ⟨k2.1.1, k2.1.2.1, k2.1.2.2.1, k2.1.2.2.2, k2.2⟩
        · exact k2.elim
      · split at k2
        · exact ⟨k2.1.1, k2.1.2, k2.2⟩
        · exact k2.elim
      · exact k2.elim
    · split at h
      · rename_i e' sz' sh ys hf
        obtain ⟨k1, k2⟩ := h
        refine ⟨ys, _, ⟨k1.1, ?_, rfl⟩, ?_⟩
        · rw [hf]
          exact ⟨rfl, k1.2.1, k1.2.2⟩
        · unfold evDst at k2
          split at k2
          · split at k2
            · rename_i hf; simp only [hf]; exact ⟨k2.1.1, k2.1.2.1, k2.1.2.2.1, k2.1.2.2.2, k2.2⟩
            · rename_i hf; simp only [hf]; exact ⟨k2.1.1, k2.1.2.1, k2.1.2.2.1, k2.1.2.2.2, k2.2⟩
            · exact k2.elim
          · split at k2
            · exact ⟨k2.1.1, k2.1.2, k2.2⟩
            · exact k2.elim
          · exact k2.elim
      · exact h.elim
    · obtain ⟨k1, k2⟩ := h
      refine ⟨_, [], ⟨k1.1, rfl, rfl, k1.2⟩, ?_⟩
      unfold evDst at k2
      split at k2
      · split at k2
        · rename_i hf; simp only [hf]; exact ⟨k2.1.1, k2.1.2.1, k2.1.2.2.1, k2.1.2.2.2, k2.2⟩
        · rename_i hf; simp only [hf]; exact ⟨k2.1.1, k2.1.2.1, k2.1.2.2.1, k2.1.2.2.2, k2.2⟩
        · exact k2.elim
      · split at k2
        · exact ⟨k2.1.1, k2.1.2, k2.2⟩
        · exact k2.elim
      · exact k2.elim
    · exact h.elim
  · exact h.elim

def evSlice2 (P : Program) (t : TypeId) (σ : ASt) (u : PV) (lo hi mx : Option PV) (K : KT) : Prop :=
  match loN lo with
  | some l => match u with
    | .vs xs => match slT P t, hiN xs.length hi, hiN xs.length mx with
      | some (_, sz, _), some h, some m => (0 ≤ l ∧ l ≤ h ∧ h ≤ m ∧ m ≤ xs.length ∧ (mx.isSome = true → hi.isSome = true)) ∧ (0 < l → ∀ x ∈ xs, x.length = sz) ∧ K (.vs ((xs.take h.toNat).drop l.toNat)) [] []
      | _, _, _ => False
    | .nils => match slT P t, hiN 0 hi, hiN 0 mx with
      | some _, some h, some m => (0 ≤ l ∧ l ≤ h ∧ h ≤ m ∧ m ≤ 0 ∧ (mx.isSome = true → hi.isSome = true)) ∧ K (.vs []) [] []
      | _, _, _ => False
    | .os n k => match find σ n with
      | some (.arr _ asz _ xs) => match slT P t, hiN xs.length hi, hiN xs.length mx with
        | some (_, sz, _), some h, some m => (asz = sz ∧ k = xs.length ∧ 0 ≤ l ∧ l ≤ h ∧ h ≤ m ∧ m ≤ xs.length ∧ (mx.isSome = true → hi.isSome = true)) ∧ K (.vs ((xs.take h.toNat).drop l.toNat)) (shareD σ [n]) [n]
        | _, _, _ => False
      | _ => False
    | .str s => match hiN s.length hi with
      | some h => (isStr P t = true ∧ mx = none ∧ 0 ≤ l ∧ l ≤ h ∧ h ≤ s.length) ∧ K (.str ((s.take h.toNat).drop l.toNat)) [] []
      | none => False
    | _ => False
  | none => False

theorem evSlice_of {P : Program} {t : TypeId} {σ : ASt} {u : PV} {lo hi mx : Option PV} {K : KT} (h : evSlice2 P t σ u lo hi mx K) : evSlice P t σ u lo hi mx K := by
  unfold evSlice2 at h
  split at h
  · rename_i l hl
    refine ⟨l, hl, ?_⟩
    split at h
    · split at h
      · rename_i e sz b hh m h1 h2 h3
        obtain ⟨k1, k2, _⟩ := slT_eq h1
        obtain ⟨⟨a1, a2, a3, a4, a5⟩, a6, a7⟩ := h
        exact ⟨e, sz, hh, m, k1, k2, h2, h3, a1, a2, a3, a4, a5, a6, a7⟩
      · exact h.elim
    · split at h
      · rename_i p hh m h1 h2 h3
        obtain ⟨e, sz, b⟩ := p
        obtain ⟨k1, k2, _⟩ := slT_eq h1
        obtain ⟨⟨a1, a2, a3, a4, a5⟩, a7⟩ := h
        exact ⟨e, sz, hh, m, k1, k2, h2, h3, a1, a2, a3, a4, a5, a7⟩
      · exact h.elim
    · split at h
      · rename_i e' asz sh xs hf
        simp only
        rw [hf]
        split at h
        · rename_i e sz b hh m h1 h2 h3
          obtain ⟨k1, k2, _⟩ := slT_eq h1
          obtain ⟨⟨a0, a0', a1, a2, a3, a4, a5⟩, a7⟩ := h
          exact ⟨e, sz, hh, m, k1, k2, a0, h2, h3, a0', a1, a2, a3, a4, a5, a7⟩
        · exact h.elim
      · exact h.elim
    · split at h
      · rename_i hh h2
        obtain ⟨⟨a0, a0', a1, a2, a3⟩, a7⟩ := h
        exact ⟨hh, h2, a0, a0', a1, a2, a3, a7⟩
      · exact h.elim
    · exact h.elim
  · exact h.elim

/-- Parts of an open row. -/
def evSlH (P : Program) (t : TypeId) (σ : ASt) (n k e asz : Nat) (xs : List (List PV)) (lo hi mx : Option PV) (K : KT) : Prop :=
  match slT P t, lo, hi, mx with
  | some (_, sz, _), some (.int _ i), none, none => asz = sz ∧ k = xs.length ∧ 0 ≤ i ∧ i < k ∧ K (.osl n k i.toNat) [] [n]
  | some (_, sz, _), none, some (.int _ i), none => (asz = sz ∧ k = xs.length ∧ 0 ≤ i ∧ i ≤ k) ∧ purLL σ xs = some (xs, []) ∧ K (.vs (xs.take i.toNat)) [(n, .arr e asz true xs)] [n]
  | _, _, _, _ => False
def evSlice3 (P : Program) (t : TypeId) (σ : ASt) (u : PV) (lo hi mx : Option PV) (K : KT) : Prop :=
  match u with
  | .os n k => match find σ n with
    | some (.arh e asz xs) => evSlH P t σ n k e asz xs lo hi mx K
    | _ => evSlice2 P t σ (.os n k) lo hi mx K
  | u => evSlice2 P t σ u lo hi mx K
theorem opt_map_some {α β : Type} {f : α → β} {o : Option α} {b : β} (h : o.map f = some b) : ∃ a, o = some a ∧ f a = b := by
  cases o with
  | none => cases h
  | some a => exact ⟨a, rfl, by simpa using h⟩
theorem opt_map_none {α β : Type} {f : α → β} {o : Option α} (h : o.map f = none) : o = none := by
  cases o with
  | none => rfl
  | some a => cases h
theorem evSlice3_sound {P : Program} {o : Oper} {ρ : Operand → PV} {σ : ASt} {t : TypeId} {y : Operand} {lo hi mx : Option Operand} (ho : o.op = .slice t y lo hi mx) {K : KT} (h : evSlice3 P t σ (ρ y) (lo.map ρ) (hi.map ρ) (mx.map ρ) K) :
    ∃ u δ F, LOp P o ρ σ u δ F ∧ K u δ F := by
  unfold evSlice3 at h
  split at h
  · rename_i n k hy
    split at h
    · rename_i e asz xs hf
      unfold evSlH at h
      split at h
      · rename_i e' sz b kd i h1 h2 h3 h4
        obtain ⟨z, rfl, hz⟩ := opt_map_some h2
        obtain rfl := opt_map_none h3
        obtain rfl := opt_map_none h4
        obtain ⟨k1, k2, _⟩ := slT_eq h1
        obtain ⟨rfl, a1, a2, a3, a4⟩ := h
        exact ⟨_, _, _, lop_slice_lo ho hy hz hf a1 k1 k2 a2 a3, a4⟩
      · rename_i e' sz b kd i h1 h2 h3 h4
        obtain ⟨z, rfl, hz⟩ := opt_map_some h3
        obtain rfl := opt_map_none h2
        obtain rfl := opt_map_none h4
        obtain ⟨k1, k2, _⟩ := slT_eq h1
        obtain ⟨⟨rfl, a1, a2, a3⟩, a4, a5⟩ := h
        exact ⟨_, _, _, lop_slice_hiH ho hy hz hf a1 k1 k2 a2 a3 a4, a5⟩
      · exact h.elim
    · rw [← hy] at h
      exact evSlice_sound ho (evSlice_of h)
  · exact evSlice_sound ho (evSlice_of h)

def evMake2 (P : Program) (t : TypeId) (dst : Option Nat) (σ : ASt) (u v : PV) (K : KT) : Prop :=
  match u, v, dst, slT P t with
  | .int _ l, .int _ c, some d, some (e, sz, bytes) => match zeroOf P e with
    | some zs => (zs.all oneP = true ∧ 0 ≤ l ∧ l ≤ c ∧ (bytes : Int) * c ≤ 140737488355328 ∧ c ≤ 140737488355328 ∧ find σ d = none) ∧ K (.os d l.toNat) [(d, .arr e sz false (List.replicate l.toNat (zs.map purZ)))] [d]
    | none => False
  | _, _, _, _ => False

theorem evMake_of {P : Program} {t : TypeId} {dst : Option Nat} {σ : ASt} {u v : PV} {K : KT} (h : evMake2 P t dst σ u v K) : evMake P t dst σ u v K := by
  unfold evMake2 at h
  split at h
  · rename_i k1 l k2 c d e sz bytes hs
    obtain ⟨h1, h2, h3, ⟨zs', h4, h4'⟩, h5, h6⟩ := slT_eq hs
    split at h
    · rename_i zs hz
      rw [hz] at h4
      have h4 := Option.some.inj h4
      subst h4
      obtain ⟨⟨a1, a2, a3, a4, a5, a6⟩, a7⟩ := h
      exact ⟨e, sz, zs, bytes, h1, h2, h3, hz, h4', a1, h5, a2, a3, a4, a5, a6, a7⟩
    · exact h.elim
  · exact h.elim

def evLenM (P : Program) (t : TypeId) (σ : ASt) (n : Nat) (K : KT) : Prop :=
  match find σ n, mapT P t with
  | some (.mp es), some _ => K (.int .i64 es.length) [] [n]
  | _, _ => False
def evLenA (P : Program) (t : TypeId) (σ : ASt) (x : PV) (K : KT) : Prop :=
  match x with
  | .mh n => evLenM P t σ n K
  | x => evLen P t σ x K
theorem evLenA_sound {P : Program} {o : Oper} {ρ : Operand → PV} {σ : ASt} {t : TypeId} {y : Operand} (ho : o.op = .call { callee := .builtin .len, args := #[y], argTypes := #[t] }) {K : KT} (h : evLenA P t σ (ρ y) K) :
    ∃ u δ F, LOp P o ρ σ u δ F ∧ K u δ F := by
  unfold evLenA at h
  split at h
  · rename_i n hy
    unfold evLenM at h
    split at h
    · rename_i es q hf hm
      obtain ⟨k, d, e⟩ := q
      exact ⟨_, _, _, lop_len_mh ho hy hf hm, h⟩
    · exact h.elim
  · exact evLen_sound ho h

/-! ### Maps -/
def evLook (P : Program) (t : TypeId) (ok : Bool) (σ : ASt) (u q : PV) (K : KT) : Prop :=
  match u with
  | .mh n => match find σ n, mapT P t with
    | some (.mp es), some (_, dk, e) => match mfind q es 0, zeroV P e with
      | some r, some z => keyOK dk q = true ∧ K (mres es z ok r) [] [n]
      | _, _ => False
    | _, _ => False
  | _ => False
theorem evLook_sound {P : Program} {o : Oper} {ρ : Operand → PV} {σ : ASt} {t : TypeId} {y q : Operand} {ok : Bool} (ho : o.op = .lookup t y q ok) {K : KT} (h : evLook P t ok σ (ρ y) (ρ q) K) : ∃ u δ F, LOp P o ρ σ u δ F ∧ K u δ F := by
  unfold evLook at h
  split at h
  · rename_i n hy
    split at h
    · rename_i es k dk e hf hm
      split at h
      · rename_i r z hr hz
        exact ⟨_, _, _, lop_lookup ho hy hf hm h.1 hr hz, h.2⟩
      · exact h.elim
    · exact h.elim
  · exact h.elim

def evMup (P : Program) (t : TypeId) (σ : ASt) (u q v : PV) (K : KT) : Prop :=
  match u with
  | .mh n => match find σ n, mapT P t with
    | some (.mp es), some (_, dk, _) => match mfind q es 0 with
      | some r => keyOK dk q = true ∧ K .undef [(n, .mp (mput es q v r))] [n]
      | _ => False
    | _, _ => False
  | _ => False
theorem evMup_sound {P : Program} {o : Oper} {ρ : Operand → PV} {σ : ASt} {t : TypeId} {y q z : Operand} (ho : o.op = .mapUpdate t y q z ∨ o.op = .insert t y q z) {K : KT} (h : evMup P t σ (ρ y) (ρ q) (ρ z) K) : ∃ u δ F, LOp P o ρ σ u δ F ∧ K u δ F := by
  unfold evMup at h
  split at h
  · rename_i n hy
    split at h
    · rename_i es k dk e hf hm
      split at h
      · rename_i r hr
        exact ⟨_, _, _, lop_mapUpdate ho hy hf hm h.1 hr, h.2⟩
      · exact h.elim
    · exact h.elim
  · exact h.elim

def evRng (P : Program) (t : TypeId) (dst : Option Nat) (σ : ASt) (u : PV) (K : KT) : Prop :=
  match u, dst with
  | .mh n, some d => match find σ n, mapT P t with
    | some (.mp es), some _ => find σ d = none ∧ K (.mh d) [(d, .it n es.length [])] [d, n]
    | _, _ => False
  | _, _ => False
theorem evRng_sound {P : Program} {o : Oper} {ρ : Operand → PV} {σ : ASt} {t : TypeId} {y : Operand} (ho : o.op = .range t y) {K : KT} (h : evRng P t o.dst σ (ρ y) K) : ∃ u δ F, LOp P o ρ σ u δ F ∧ K u δ F := by
  unfold evRng at h
  split at h
  · rename_i n d hy hd
    split at h
    · rename_i es q hf hm
      obtain ⟨k, dk, e⟩ := q
      exact ⟨_, _, _, lop_range ho hy hf hm h.1, h.2⟩
    · exact h.elim
  · exact h.elim

def evEnt (σ : ASt) (u : PV) (K : KT) : Prop :=
  match u with
  | .mh d => match find σ d with
    | some (.it m k done) => match find σ m with
      | some (.mp es) => ∃ l i, done = l ++ [i] ∧ k = es.length ∧ i < k ∧ K (.tup [(es.getD i (.undef, .undef)).1, (es.getD i (.undef, .undef)).2]) [] [d, m]
      | _ => False
    | _ => False
  | _ => False
theorem evEnt_sound {P : Program} {o : Oper} {ρ : Operand → PV} {σ : ASt} {y : Operand} (ho : o.op = .entry y) {K : KT} (h : evEnt σ (ρ y) K) : ∃ u δ F, LOp P o ρ σ u δ F ∧ K u δ F := by
  unfold evEnt at h
  split at h
  · rename_i d hy
    split at h
    · rename_i m k done hd
      split at h
      · rename_i es hm
        obtain ⟨l, i, rfl, h2, h3, h4⟩ := h
        exact ⟨_, _, _, lop_entry ho hy hd hm h2 h3, h4⟩
      · exact h.elim
    · exact h.elim
  · exact h.elim

def isNext : Op → Bool
  | .next _ _ => true
  | _ => false

def evClr (P : Program) (t : TypeId) (σ : ASt) (x : PV) (K : KT) : Prop :=
  match x with
  | .osl n k i => match slT P t, find σ n with
    | some (e', sz, _), some (.arh e asz xs) => match zeroOf P e' with
      | some zs => (asz = sz ∧ k = xs.length ∧ i < k ∧ zs.all oneP = true) ∧ K (.tup []) [(n, .arh e asz (xs.take i ++ List.replicate (k - i) (zs.map purZ)))] [n]
      | none => False
    | _, _ => False
  | _ => False
theorem evClr_sound {P : Program} {o : Oper} {ρ : Operand → PV} {σ : ASt} {t : TypeId} {y : Operand} (ho : o.op = .call { callee := .builtin .clear, args := #[y], argTypes := #[t] }) {K : KT} (h : evClr P t σ (ρ y) K) :
    ∃ u δ F, LOp P o ρ σ u δ F ∧ K u δ F := by
  unfold evClr at h
  split at h
  · rename_i n k i hy
    split at h
    · rename_i e' sz b e asz xs hs hf
      split at h
      · rename_i zs hz
        obtain ⟨k1, k2, _, ⟨zs', k3, k4⟩, _⟩ := slT_eq hs
        rw [hz] at k3
        cases k3
        obtain ⟨⟨rfl, a1, a2, a3⟩, a4⟩ := h
        exact ⟨_, _, _, lop_clear ho hy hf a1 a2 k1 hz k4 a3, a4⟩
      · exact h.elim
    · exact h.elim
  · exact h.elim

def evBi (P : Program) (b : Builtin) (us : List PV) (ts : List TypeId) (dst : Option Nat) (σ : ASt) (K : KT) : Prop :=
  match b with
  | .len => match us, ts with
    | [x], [t] => evLenA P t σ x K
    | _, _ => False
  | .append => match us, ts with
    | [x, y], [t, tx] => evApp2 P t tx dst σ x y K
    | _, _ => False
  | .min => match us with
    | [x, y] => evMM false x y K
    | _ => False
  | .max => match us with
    | [x, y] => evMM true x y K
    | _ => False
  | .clear => match us, ts with
    | [x], [t] => evClr P t σ x K
    | _, _ => False
  | _ => False

theorem list1 {α β : Type} {a : Array α} {f : α → β} {x : β} (h : a.toList.map f = [x]) : ∃ y, a = #[y] ∧ f y = x := by
  obtain ⟨l⟩ := a
  match l, h with
  | [y], h => exact ⟨y, rfl, by simpa using h⟩

theorem list2 {α β : Type} {a : Array α} {f : α → β} {x y : β} (h : a.toList.map f = [x, y]) : ∃ u v, a = #[u, v] ∧ f u = x ∧ f v = y := by
  obtain ⟨l⟩ := a
  match l, h with
  | [u, v], h => exact ⟨u, v, rfl, by simpa using h⟩

theorem evBi_sound {P : Program} {o : Oper} {ρ : Operand → PV} {σ : ASt} {b : Builtin} {ys : Array Operand} {ts : Array TypeId} (ho : o.op = .call { callee := .builtin b, args := ys, argTypes := ts }) {K : KT}
    (h : evBi P b (ys.toList.map ρ) ts.toList o.dst σ K) : ∃ u δ F, LOp P o ρ σ u δ F ∧ K u δ F := by
  unfold evBi at h
  split at h
  · split at h
    · rename_i x t hy ht
      obtain ⟨y, rfl, rfl⟩ := list1 hy
      have : ts = #[t] := by apply Array.ext'; simpa using ht
      subst this
      exact evLenA_sound ho h
    · exact h.elim
  · split at h
    · rename_i x y t tx hy ht
      obtain ⟨u, v, rfl, rfl, rfl⟩ := list2 hy
      have : ts = #[t, tx] := by apply Array.ext'; simpa using ht
      subst this
      exact evApp_sound ho (evApp_of h)
    · exact h.elim
  · split at h
    · rename_i x y hy
      obtain ⟨u, v, rfl, rfl, rfl⟩ := list2 hy
      exact evMM_sound (mx := false) ho h
    · exact h.elim
  · split at h
    · rename_i x y hy
      obtain ⟨u, v, rfl, rfl, rfl⟩ := list2 hy
      exact evMM_sound (mx := true) ho h
    · exact h.elim
  · split at h
    · rename_i x t hy ht
      obtain ⟨y, rfl, rfl⟩ := list1 hy
      have : ts = #[t] := by apply Array.ext'; simpa using ht
      subst this
      exact evClr_sound ho h
    · exact h.elim
  · exact h.elim

def evMkF (fn : Fn) (first : List Operand) (us : List PV) (K : KT) : Prop :=
  match fn, first with
  | .func f, [] => K (.fn f us) [] []
  | _, _ => False

def evCl (P : Program) (c : Callee) (ρ : Operand → PV) (us : List PV) (ts : List TypeId) (dst : Option Nat) (σ : ASt) (K : KT) : Prop :=
  match c with
  | .value f => evCall P (ρ f) us dst σ K
  | .builtin b => evBi P b us ts dst σ K
  | .invoke _ _ => False

def evOp (P : Program) (o : Oper) (ρ : Operand → PV) (σ : ASt) (K : KT) : Prop :=
  match o.op with
  | .move x => K (ρ x) [] []
  | .assign x => K (ρ x) [] []
  | .pick c a b => match ρ c with
    | .bool t => (t = true → K (ρ a) [] []) ∧ (t = false → K (ρ b) [] [])
    | _ => False
  | .nilCheck x => match ρ x with
    | .ptr n k => K (.ptr n k) [] []
    | .el cs => K (.el cs) [] []
    | _ => False
  | .extract t i => match ρ t with
    | .tup us => i < us.length ∧ K (us.getD i .undef) [] []
    | _ => False
  | .alloc t => match zeroOf P t, o.dst with
    | some zs, some d => find σ d = none ∧ K (.ptr d 0) [(d, .cells zs)] [d]
    | _, _ => False
  | .box _ x => match cellsP (ρ x), o.dst with
    | some us, some d => find σ d = none ∧ K (.ptr d 0) [(d, .cells us)] [d]
    | _, _ => False
  | .build t parts => match builtP P t (parts.toList.map fun p => (p.1, ρ p.2)) with
    | some cs => K (.agg cs) [] []
    | none => False
  | .buildSlice t len parts => evBuildSlice P t len (parts.toList.map fun p => (p.1, ρ p.2)) o.dst σ K
  | .load t a => evLoad P t σ (ρ a) K
  | .store t a v => evStore P t σ (ρ a) (ρ v) K
  | .fieldAddr t x f => evFieldAddr P t f σ (ρ x) K
  | .indexAddr t x i => evIndexAddr P t σ (ρ x) (ρ i) K
  | .index t x i => evIndex P t (ρ x) (ρ i) K
  | .binOp op t x y _ => evBin P op t (ρ x) (ρ y) fun u => K u [] []
  | .unOp op _ x => evUn op (ρ x) fun u => K u [] []
  | .convert s d x => evConv P s d σ (ρ x) K
  | .slice t x lo hi mx => evSlice3 P t σ (ρ x) (lo.map ρ) (hi.map ρ) (mx.map ρ) K
  | .makeSlice t l c => evMake2 P t o.dst σ (ρ l) (ρ c) K
  | .makeFunc fn first cap => evMkF fn first.toList (cap.toList.map ρ) K
  | .call c => evCl P c.callee ρ (c.args.toList.map ρ) c.argTypes.toList o.dst σ K
  | .lookup t x i ok => evLook P t ok σ (ρ x) (ρ i) K
  | .mapUpdate t m k v => evMup P t σ (ρ m) (ρ k) (ρ v) K
  | .insert t m k v => evMup P t σ (ρ m) (ρ k) (ρ v) K
  | .makeMap _ r => match r, o.dst with
    | none, some d => find σ d = none ∧ K (.mh d) [(d, .mp [])] [d]
    | _, _ => False
  | .range t x => evRng P t o.dst σ (ρ x) K
  | .entry x => evEnt σ (ρ x) K
  | .next x s => s = false ∧ evNext P σ (ρ x) K
  | _ => False

theorem evOp_sound {P : Program} {o : Oper} {ρ : Operand → PV} {σ : ASt} {K : KT} (hn : isNext o.op = false) (h : evOp P o ρ σ K) : ∃ u δ F, LOp P o ρ σ u δ F ∧ K u δ F := by
  unfold evOp at h
  split at h
  · rename_i x ho
    exact ⟨_, _, _, lop_move (.inl ho), h⟩
  · rename_i x ho
    exact ⟨_, _, _, lop_move (.inr ho), h⟩
  · rename_i c a b ho
    split at h
    · rename_i t hc
      refine ⟨_, _, _, lop_pick ho hc, ?_⟩
      cases t
      · exact h.2 rfl
      · exact h.1 rfl
    · exact h.elim
  · rename_i x ho
    split at h
    · rename_i n k hx
      exact ⟨_, _, _, lop_nilCheck ho (.inl ⟨n, k, hx⟩), by rw [hx]; exact h⟩
    · rename_i cs hx
      exact ⟨_, _, _, lop_nilCheck ho (.inr ⟨cs, hx⟩), by rw [hx]; exact h⟩
    · exact h.elim
  · rename_i t i ho
    split at h
    · rename_i us ht
      exact ⟨_, _, _, lop_extract ho ht (getElem?_getD h.1), h.2⟩
    · exact h.elim
  · rename_i t ho
    split at h
    · rename_i zs d hz hd
      exact ⟨_, _, _, lop_alloc ho hz h.1, h.2⟩
    · exact h.elim
  · rename_i t x ho
    split at h
    · rename_i us d hu hd
      exact ⟨_, _, _, lop_box ho hu h.1, h.2⟩
    · exact h.elim
  · rename_i t parts ho
    split at h
    · rename_i cs hb
      exact ⟨_, _, _, lop_build ho hb, h⟩
    · exact h.elim
  · rename_i t len parts ho
    unfold evBuildSlice at h
    split at h
    · rename_i e sz b d hs hd
      obtain ⟨h1, h2, _, ⟨zs, h3, _⟩, h4, _⟩ := slT_eq hs
      split at h
      · split at h
        · rename_i xs ns hr
          exact ⟨_, _, _, lop_buildSlice ho h1 h2 h4 (by rw [h3]; rfl) (by rw [h.2.1]; simp) h.2.2.1 hr h.1, h.2.2.2⟩
        · exact h.elim
      · split at h
        · rename_i xs ns hr
          exact ⟨_, _, _, lop_buildSliceK ho h1 h2 h4 (by rw [h3]; rfl) (by rw [h.2.1]; simp) h.2.2.1 hr h.1, h.2.2.2⟩
        · exact h.elim
    · exact h.elim
  · rename_i t a ho
    exact evLoad_sound ho h
  · rename_i t a v ho
    exact evStore_sound ho h
  · rename_i t x f ho
    exact evFieldAddr_sound ho h
  · rename_i t x i ho
    exact evIndexAddr_sound ho h
  · rename_i t x i ho
    exact evIndex_sound ho h
  · rename_i op t x y t' ho
    obtain ⟨u, h1, h2⟩ := evBin_sound ho h
    exact ⟨u, [], [], h1, h2⟩
  · rename_i op t x ho
    obtain ⟨u, h1, h2⟩ := evUn_sound ho h
    exact ⟨u, [], [], h1, h2⟩
  · rename_i s d x ho
    exact evConv_sound ho h
  · rename_i t x lo hi mx ho
    exact evSlice3_sound ho h
  · rename_i t l c ho
    exact evMake_sound ho (evMake_of h)
  · rename_i fn first cap ho
    unfold evMkF at h
    split at h
    · rename_i f hf
      have : first = #[] := by apply Array.ext'; simpa using hf
      subst this
      exact ⟨_, _, _, lop_makeFunc ho, h⟩
    · exact h.elim
  · rename_i c ho
    obtain ⟨callee, ys, ts⟩ := c
    unfold evCl at h
    split at h
    · rename_i f hc
      simp only at hc
      subst hc
      exact evCall_sound ho h
    · rename_i b hc
      simp only at hc
      subst hc
      exact evBi_sound ho h
    · exact h.elim
  · rename_i t x i ok ho
    exact evLook_sound ho h
  · rename_i t m k v ho
    exact evMup_sound (.inl ho) h
  · rename_i t m k v ho
    exact evMup_sound (.inr ho) h
  · rename_i t r ho
    split at h
    · rename_i d hd
      exact ⟨_, _, _, lop_makeMap ho h.1, h.2⟩
    · exact h.elim
  · rename_i t x ho
    exact evRng_sound ho h
  · rename_i x ho
    exact evEnt_sound ho h
  · rename_i x s ho
    rw [ho] at hn
    cases hn
  · exact h.elim

/-- An operation, whichever way it goes. -/
theorem evOp_run {P : Program} {o : Oper} {ρ : Operand → PV} {σ : ASt} {K : KT} (h : evOp P o ρ σ K) (x : Ctx P) (a : Act) (hv : Nat → Value) (w : World) (hW : SimW x (find σ) hv w)
    (hops : ∀ y ∈ o.op.operands, RV (env x (find σ) hv w) (a.eval y) (ρ y)) (next : Act → World → Prop) (Q : Exit → Act → World → Prop)
    (hn : ∀ u δ F, K u δ F → ∀ v hv' w', SimW x (app (find σ) δ) hv' w' → Env.le (env x (find σ) hv w) (env x (app (find σ) δ) hv' w') → RV (env x (app (find σ) δ) hv' w') v u → next (a.put o.dst v) w') : o.wp P a w next Q := by
  cases hx : isNext o.op with
  | false =>
    obtain ⟨u, δ, F, hL, hK⟩ := evOp_sound hx h
    exact hL.2 (find σ) (fun _ _ => rfl) x a hv w hW hops next Q fun v hv' w' hS hE hv0 => hn u δ F hK v hv' w' hS hE hv0
  | true =>
    cases ho : o.op <;> rw [ho] at hx <;> simp only [isNext] at hx <;> (try (cases hx; done))
    rename_i y s
    unfold evOp at h
    rw [ho] at h
    obtain ⟨rfl, h⟩ := h
    exact evNext_sound ho h x a hv w hW hops next Q hn

end Go.Proofs.Am
