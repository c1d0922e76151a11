/- ZOne. -/
import Derived.Test.YtdfieogkeinkmaaGreatDoorETwo
set_option linter.unusedSimpArgs false
set_option linter.unusedVariables false
namespace Go.Proofs.Am
open Go
structure WO {α : Type} (lt : α → α → Bool) : Prop where
  irr : ∀ a, lt a a = false
  tr : ∀ a b c, lt a b = true → lt b c = true → lt a c = true
  nt : ∀ a b c, lt a b = false → lt b c = false → lt a c = false
theorem WO.asy {α : Type} {lt : α → α → Bool} (h : WO lt) {a b : α} (hab : lt a b = true) : lt b a = false := by
  cases hb : lt b a with
  | false => rfl
  | true => have := h.tr a b a hab hb; rw [h.irr] at this; cases this
def eqw {α : Type} (lt : α → α → Bool) (k x : α) : Bool := !lt k x && !lt x k
theorem WO.eqw_self {α : Type} {lt : α → α → Bool} (h : WO lt) (a : α) : eqw lt a a = true := by simp [eqw, h.irr]
structure Rea {α : Type} (lt : α → α → Bool) (L R : List α) : Prop where
  prm : R.Perm L
  flt : ∀ k, R.filter (eqw lt k) = L.filter (eqw lt k)
def Srt {α : Type} (lt : α → α → Bool) (L : List α) : Prop := L.Pairwise fun a b => lt b a = false
theorem Rea.refl {α : Type} {lt : α → α → Bool} (L : List α) : Rea lt L L := ⟨.refl _, fun _ => rfl⟩
theorem Rea.trans {α : Type} {lt : α → α → Bool} {A B C : List α} (h : Rea lt A B) (h' : Rea lt B C) : Rea lt A C := ⟨h'.prm.trans h.prm, fun k => (h'.flt k).trans (h.flt k)⟩
theorem Rea.app {α : Type} {lt : α → α → Bool} {A B A' B' : List α} (h : Rea lt A A') (h' : Rea lt B B') : Rea lt (A ++ B) (A' ++ B') :=
  ⟨h.prm.append h'.prm, fun k => by rw [List.filter_append, List.filter_append, h.flt, h'.flt]⟩
theorem Rea.len {α : Type} {lt : α → α → Bool} {A B : List α} (h : Rea lt A B) : B.length = A.length := h.prm.length_eq
theorem Rea.mem {α : Type} {lt : α → α → Bool} {A B : List α} (h : Rea lt A B) {x : α} : x ∈ B ↔ x ∈ A := h.prm.mem_iff
theorem Rea.swap {α : Type} {lt : α → α → Bool} (w : WO lt) {A B : List α} (h : ∀ x ∈ A, ∀ y ∈ B, lt y x = true) : Rea lt (A ++ B) (B ++ A) := by
  refine ⟨List.perm_append_comm, fun k => ?_⟩
  rw [List.filter_append, List.filter_append]
  cases hA : A.filter (eqw lt k) with
  | nil => simp
  | cons x r =>
    cases hB : B.filter (eqw lt k) with
    | nil => simp
    | cons y s =>
      have hx : x ∈ A.filter (eqw lt k) := by rw [hA]; simp
      have hy : y ∈ B.filter (eqw lt k) := by rw [hB]; simp
      rw [List.mem_filter] at hx hy
      simp only [eqw, Bool.and_eq_true, Bool.not_eq_true'] at hx hy
      have := w.nt y k x hy.2.2 hx.2.1
      rw [h x hx.1 y hy.1] at this
      cases this
theorem ins_rea {α : Type} {lt : α → α → Bool} (w : WO lt) {S1 S2 : List α} {x : α} (hs : Srt lt (S1 ++ S2)) (h1 : ∀ s ∈ S1, lt x s = false) (h2 : ∀ s ∈ S2, lt x s = true) :
    Rea lt (S1 ++ S2 ++ [x]) (S1 ++ x :: S2) ∧ Srt lt (S1 ++ x :: S2) := by
  constructor
  · rw [List.append_assoc]
    refine (Rea.refl S1).app ?_
    exact Rea.swap (A := S2) (B := [x]) w fun a ha b hb => by simp at hb; subst hb; exact h2 a ha
  · unfold Srt at *
    rw [List.pairwise_append] at hs ⊢
    rw [List.pairwise_cons]
    refine ⟨hs.1, ⟨fun s hm => w.asy (h2 s hm), hs.2.1⟩, fun a ha b hb => ?_⟩
    rcases List.mem_cons.1 hb with rfl | hb
    · exact h1 a ha
    · exact hs.2.2 a ha b hb
section
variable {α : Type} [Inhabited α]
theorem el_l {A B : List α} {i : Nat} (h : i < A.length) : el (A ++ B) i = el A i := by
  simp [el, List.getD_eq_getElem?_getD, List.getElem?_append_left h]
theorem el_r {A B : List α} {i : Nat} (h : A.length ≤ i) : el (A ++ B) i = el B (i - A.length) := by
  simp [el, List.getD_eq_getElem?_getD, List.getElem?_append_right h]
theorem el_at {A B : List α} {x : α} {i : Nat} (h : i = A.length) : el (A ++ x :: B) i = x := by
  subst h
  simp [el, List.getD_eq_getElem?_getD]
theorem mem_el {L : List α} {x : α} (h : x ∈ L) : ∃ i, i < L.length ∧ x = el L i := by
  obtain ⟨i, hi, rfl⟩ := List.mem_iff_getElem.1 h
  exact ⟨i, hi, by simp [el, List.getD_eq_getElem?_getD, hi]⟩
end
end Go.Proofs.Am

/- Insertion behind equals; a stable sort by insertion. -/
namespace Go.Proofs.Am
open Go
def insB {α : Type} (lt : α → α → Bool) : List α → α → List α
  | [], x => [x]
  | s :: r, x => if lt x s = true then x :: s :: r else s :: insB lt r x
def insL {α : Type} (lt : α → α → Bool) (S : List α) : List α := S.foldl (insB lt) []
theorem insB_at {α : Type} (lt : α → α → Bool) (x : α) (S2 : List α) (h2 : ∀ s ∈ S2, lt x s = true) : ∀ (S1 : List α), (∀ s ∈ S1, lt x s = false) → insB lt (S1 ++ S2) x = S1 ++ x :: S2
  | [], _ => by
    cases S2 with
    | nil => rfl
    | cons s r => simp [insB, h2 s (by simp)]
  | s :: r, h1 => by
    simp only [List.cons_append, insB, h1 s (by simp), Bool.false_eq_true, if_false]
    rw [insB_at lt x S2 h2 r fun a ha => h1 a (by simp [ha])]
theorem cut_at {α : Type} {lt : α → α → Bool} (w : WO lt) (x : α) : ∀ (S : List α), Srt lt S → ∃ S1 S2, S = S1 ++ S2 ∧ (∀ s ∈ S1, lt x s = false) ∧ ∀ s ∈ S2, lt x s = true
  | [], _ => ⟨[], [], rfl, by simp, by simp⟩
  | s :: r, h => by
    cases hx : lt x s with
    | true =>
      refine ⟨[], s :: r, rfl, by simp, fun a ha => ?_⟩
      rcases List.mem_cons.1 ha with rfl | ha
      · exact hx
      · have h1 := (List.pairwise_cons.1 h).1 a ha
        cases h2 : lt x a with
        | true => rfl
        | false => have := w.nt x a s h2 h1; rw [hx] at this; cases this
    | false =>
      obtain ⟨S1, S2, rfl, h1, h2⟩ := cut_at w x r (List.pairwise_cons.1 h).2
      refine ⟨s :: S1, S2, rfl, fun a ha => ?_, h2⟩
      rcases List.mem_cons.1 ha with rfl | ha
      · exact hx
      · exact h1 a ha
theorem insB_rea {α : Type} {lt : α → α → Bool} (w : WO lt) {S : List α} (h : Srt lt S) (x : α) : Rea lt (S ++ [x]) (insB lt S x) ∧ Srt lt (insB lt S x) := by
  obtain ⟨S1, S2, rfl, h1, h2⟩ := cut_at w x S h
  rw [insB_at lt x S2 h2 S1 h1]
  exact ins_rea w h h1 h2
theorem insL_rea' {α : Type} {lt : α → α → Bool} (w : WO lt) : ∀ (S T A : List α), Rea lt T A → Srt lt A → Rea lt (T ++ S) (S.foldl (insB lt) A) ∧ Srt lt (S.foldl (insB lt) A)
  | [], T, A, h, s => by simpa using ⟨h, s⟩
  | x :: S, T, A, h, s => by
    have h1 := insB_rea w s x
    have h2 := insL_rea' w S (T ++ [x]) (insB lt A x) ((h.app (.refl [x])).trans h1.1) h1.2
    rw [List.append_assoc] at h2
    exact h2
theorem insL_rea {α : Type} {lt : α → α → Bool} (w : WO lt) (S : List α) : Rea lt S (insL lt S) ∧ Srt lt (insL lt S) := insL_rea' w S [] [] (.refl _) .nil
theorem insL_len {α : Type} {lt : α → α → Bool} (w : WO lt) (S : List α) : (insL lt S).length = S.length := (insL_rea w S).1.len
end Go.Proofs.Am

/- Arrays of bools. -/
namespace Go.Proofs.Am
open Go Go.RowKit
def cb (x : Bool) : PV := .bool x
theorem celAt_cb (l : List Bool) {i : Nat} (h : i < l.length) : celAt (l.map cb) i = .bool (el l i) := by
  simp [celAt, el, List.getD_eq_getElem?_getD, h, cb]
theorem ld_cb (K : KT) (l : List Bool) (i : Nat) (d : ASt) (F : List Nat) : (i < (l.map cb).length ∧ kk K (celAt (l.map cb) i) d F) = (i < l.length ∧ K (.bool (el l i)) d F) := by
  simp only [List.length_map, kk]
  refine propext (and_congr_right fun h => ?_)
  rw [celAt_cb l h]; rfl
theorem vStP_cb (K : KT) (n i : Nat) (l : List Bool) (v : Bool) : vStP n i K (some 1) (some [.bool v]) (some (.cells (l.map cb))) = (i < l.length ∧ kk K .undef [(n, .cells ((l.set i v).map cb))] [n]) := by
  rw [vStP_gen]
  simp only [List.length_map, kk]
  apply propext
  have e : i < l.length → (l.map cb).take i ++ [.bool v] ++ (l.map cb).drop (i + 1) = (l.set i v).map cb := fun h => by
    rw [List.map_set, List.set_eq_take_append_cons_drop]
    simp [h, cb]
  constructor
  · rintro ⟨⟨h1, h2, h3⟩, h4⟩
    rw [e h3] at h4
    exact ⟨h3, h4⟩
  · rintro ⟨h3, h4⟩
    rw [← e h3] at h4
    exact ⟨⟨rfl, rfl, h3⟩, h4⟩
theorem all_cb (l : List Bool) : (l.map cb).all oneP = true := by simp [cb, oneP]
theorem tk_cb (l : List Bool) (n : Nat) : (l.map cb).take n = (l.take n).map cb := List.map_take.symm
theorem dr_cb (l : List Bool) (n : Nat) : (l.map cb).drop n = (l.drop n).map cb := List.map_drop.symm
theorem hin_cb (d : List Nat) : ∀ (l : List Bool), hinL d (l.map cb) = true
  | [] => rfl
  | x :: r => by simp [hinL, hinV, cb, hin_cb d r]
theorem allL_cb {p : PV → Prop} (h : ∀ x, p (cb x)) : ∀ (l : List Bool), allL p (l.map cb)
  | [] => trivial
  | x :: r => ⟨h x, allL_cb h r⟩
theorem purL_cb (σ : ASt) : ∀ (l : List Bool), purL σ (l.map cb) = some (l.map cb, [])
  | [] => rfl
  | x :: r => by simp [purL, pur, cb, purL_cb σ r]
theorem noH_cb (l : List Bool) : allL noH (l.map cb) = True := eq_true (allL_cb (fun x => .bool x) l)
theorem cb_inj : ∀ {l m : List Bool}, (l.map cb = m.map cb) = (l = m)
  | l, m => propext (List.map_inj_right fun a b h => by simpa [cb] using h)
theorem eqCs_cb : ∀ (l m : List Bool), l.length = m.length → eqCs (List.replicate l.length .bool) (l.map cb) (m.map cb) = some (decide (l = m))
  | [], [], _ => rfl
  | [], y :: m, h => by simp at h
  | x :: l, [], h => by simp at h
  | x :: l, y :: m, h => by
    have ih := eqCs_cb l m (by simpa using h)
    simp only [List.length_cons, List.replicate_succ, List.map_cons, eqCs, cb, eqC]
    rw [ih]
    simp only [Option.some.injEq]
    rw [Bool.eq_iff_iff]
    simp
attribute [go_sem ↓ 1100] ld_cb vStP_cb all_cb hin_cb noH_cb purL_cb
attribute [go_sem] tk_cb dr_cb cb_inj
end Go.Proofs.Am

/- There is one stable sort. -/
namespace Go.Proofs.Am
open Go
section
variable {α : Type} {lt : α → α → Bool}
theorem srt_uniq (w : WO lt) : ∀ (N N' : List α), Srt lt N → Srt lt N' → N.length = N'.length → (∀ k, N.filter (eqw lt k) = N'.filter (eqw lt k)) → N = N'
  | [], N', _, _, h, _ => by
    cases N' with
    | nil => rfl
    | cons => simp at h
  | x :: N, [], _, _, h, _ => by simp at h
  | x :: N, y :: N', s, s', hl, hf => by
    have hx : x ∈ y :: N' := by
      have h1 : x ∈ (x :: N).filter (eqw lt x) := by rw [List.mem_filter]; exact ⟨by simp, w.eqw_self x⟩
      rw [hf x] at h1
      exact (List.mem_filter.1 h1).1
    have hy : y ∈ x :: N := by
      have h1 : y ∈ (y :: N').filter (eqw lt y) := by rw [List.mem_filter]; exact ⟨by simp, w.eqw_self y⟩
      rw [← hf y] at h1
      exact (List.mem_filter.1 h1).1
    have h1 : lt x y = false := by
      rcases List.mem_cons.1 hx with h | h
      · rw [h]; exact w.irr _
      · exact (List.pairwise_cons.1 s').1 x h
    have h2 : lt y x = false := by
      rcases List.mem_cons.1 hy with h | h
      · rw [h]; exact w.irr _
      · exact (List.pairwise_cons.1 s).1 y h
    have hxy : x = y := by
      have h3 := hf x
      rw [List.filter_cons, if_pos (w.eqw_self x), List.filter_cons, if_pos (by simp [eqw, h1, h2])] at h3
      exact (List.cons.inj h3).1
    subst hxy
    congr 1
    refine srt_uniq w N N' (List.pairwise_cons.1 s).2 (List.pairwise_cons.1 s').2 (by simpa using hl) fun k => ?_
    have h3 := hf k
    rw [List.filter_cons, List.filter_cons] at h3
    split at h3
    · exact (List.cons.inj h3).2
    · exact h3
theorem insL_uniq (w : WO lt) {L R : List α} (h : Rea lt L R) (s : Srt lt R) : R = insL lt L := by
  have h1 := insL_rea w L
  exact srt_uniq w R (insL lt L) s h1.2 (by rw [h.len, h1.1.len]) fun k => by rw [h.flt, h1.1.flt]
def fstL (lt : α → α → Bool) (M : List α) : Option α := M.foldl (fun b s => match b with | none => some s | some t => if lt s t = true then some s else some t) none
theorem insB_head (S : List α) (x : α) : (insB lt S x).head? = match S.head? with | none => some x | some t => if lt x t = true then some x else some t := by
  cases S with
  | nil => rfl
  | cons s r =>
    simp only [insB, List.head?_cons]
    split <;> rfl
theorem insL_head' : ∀ (M A : List α), (M.foldl (insB lt) A).head? = M.foldl (fun b s => match b with | none => some s | some t => if lt s t = true then some s else some t) A.head?
  | [], A => rfl
  | x :: M, A => by
    rw [List.foldl_cons, List.foldl_cons, insL_head' M, insB_head]
theorem insL_head (M : List α) : (insL lt M).head? = fstL lt M := insL_head' M []
theorem insL_filter (w : WO lt) (p : α → Bool) (L : List α) : (insL lt L).filter p = insL lt (L.filter p) := by
  have h := insL_rea w L
  refine insL_uniq w ⟨h.1.prm.filter p, fun k => ?_⟩ (List.Pairwise.filter p h.2)
  rw [List.filter_filter, List.filter_filter]
  have e : ∀ M : List α, M.filter (fun a => eqw lt k a && p a) = (M.filter (eqw lt k)).filter p := fun M => by rw [List.filter_filter]; congr 1; funext a; exact Bool.and_comm _ _
  rw [e, e, h.1.flt]
end
end Go.Proofs.Am

/- The first of each key in a list that is sorted by keys. -/
namespace Go.Proofs.Am
open Go
section
variable {α : Type} [Inhabited α]
theorem el_in {l : List α} {i : Nat} (h : i < l.length) : el l i ∈ l := by
  rw [show el l i = l[i] by simp [el, List.getD_eq_getElem?_getD, h]]
  exact List.getElem_mem h
theorem kp_pre (q : α → α → Bool) (l m : List α) : ∀ i, i ≤ l.length → kp q (l ++ m) i = kp q l i
  | 0, _ => rfl
  | i + 1, h => by
    simp only [kp]
    rw [kp_pre q l m i (by omega), el_l (by omega), el_l (by omega)]
def kpf (f : α → Int) (l : List α) : List α := kp (fun a b => decide (f a = f b)) l l.length
theorem kpf_snoc (f : α → Int) (l : List α) (x : α) : kpf f (l ++ [x]) = kpf f l ++ if l.length = 0 ∨ f x ≠ f (el l (l.length - 1)) then [x] else [] := by
  unfold kpf
  rw [List.length_append, List.length_singleton]
  simp only [kp]
  rw [kp_pre _ l [x] l.length (Nat.le_refl _), el_at rfl]
  congr 1
  by_cases h0 : l.length = 0
  · simp [h0]
  · rw [el_l (by omega)]
    simp [h0]
theorem kpf_blk (f : α → Int) (A : List α) (b : α) (hA : ∀ a ∈ A, f a ≠ f b) : ∀ (n : Nat) (B : List α), B.length = n → (∀ x ∈ B, f x = f b) → kpf f (A ++ b :: B) = kpf f A ++ [b]
  | 0, B, h, _ => by
    have : B = [] := List.length_eq_zero_iff.1 h
    subst this
    rw [kpf_snoc, if_pos]
    by_cases h0 : A.length = 0
    · exact .inl h0
    · right
      have := hA (el A (A.length - 1)) (el_in (by omega))
      exact fun h => this h.symm
  | n + 1, B, h, hB => by
    rcases List.eq_nil_or_concat B with rfl | ⟨C, x, rfl⟩
    · simp at h
    · have hB1 : ∀ y ∈ C, f y = f b := fun y hy => hB y (by simp [hy])
      have ih := kpf_blk f A b hA n C (by simpa using h) hB1
      have e : A ++ b :: C.concat x = (A ++ b :: C) ++ [x] := by simp
      rw [e, kpf_snoc, ih, if_neg, List.append_nil]
      rintro (h | h)
      · simp at h
      · apply h
        rw [hB x (by simp)]
        have hm : el (A ++ b :: C) ((A ++ b :: C).length - 1) ∈ b :: C := by
          rw [el_r (by simp)]
          exact el_in (by simp)
        rcases List.mem_cons.1 hm with hm | hm
        · rw [hm]
        · rw [hB1 _ hm]
omit [Inhabited α] in
theorem srt_cut (f : α → Int) (n : Int) : ∀ (R : List α), R.Pairwise (fun a b => f a ≤ f b) → R = R.filter (fun x => decide (f x < n)) ++ R.filter (fun x => !decide (f x < n))
  | [], _ => rfl
  | x :: r, h => by
    have h1 := List.pairwise_cons.1 h
    have ih := srt_cut f n r h1.2
    by_cases hx : f x < n
    · simp only [List.filter_cons, hx, decide_true, if_true, Bool.not_true, Bool.false_eq_true, if_false, List.cons_append]
      rw [← ih]
    · have e1 : r.filter (fun x => decide (f x < n)) = [] := by
        rw [List.filter_eq_nil_iff]
        intro a ha
        have := h1.1 a ha
        simp
        omega
      have e2 : r.filter (fun x => !decide (f x < n)) = r := by
        rw [e1] at ih
        exact ih.symm
      simp only [List.filter_cons, hx, decide_false, Bool.false_eq_true, if_false, Bool.not_false, if_true, e1, e2, List.nil_append]
theorem kpf_keys (f : α → Int) : ∀ (n : Nat) (R : List α), R.Pairwise (fun a b => f a ≤ f b) → (∀ x ∈ R, 0 ≤ f x ∧ f x < n) → kpf f R = (List.range n).filterMap fun (k : Nat) => (R.filter fun x => decide (f x = (k : Int))).head?
  | 0, R, _, h => by
    have : R = [] := by
      cases R with
      | nil => rfl
      | cons x r => have := h x (by simp); omega
    subst this
    rfl
  | n + 1, R, s, h => by
    have hc := srt_cut f n R s
    have hB : R.filter (fun x => !decide (f x < n)) = R.filter (fun x => decide (f x = (n : Int))) := by
      refine List.filter_congr fun x hx => ?_
      have := h x hx
      rw [Bool.eq_iff_iff]
      simp
      omega
    rw [hB] at hc
    have ih := kpf_keys f n (R.filter (fun x => decide (f x < n))) (List.Pairwise.filter _ s) fun x hx => by
      rw [List.mem_filter] at hx
      exact ⟨(h x hx.1).1, by simpa using hx.2⟩
    have hA : ∀ k : Nat, k < n → (R.filter (fun x => decide (f x < n))).filter (fun x => decide (f x = (k : Int))) = R.filter fun x => decide (f x = (k : Int)) := fun k hk => by
      rw [List.filter_filter]
      refine List.filter_congr fun x _ => ?_
      rw [Bool.eq_iff_iff]
      simp
      omega
    rw [List.range_succ, List.filterMap_append]
    have e1 : (List.range n).filterMap (fun (k : Nat) => ((R.filter (fun x => decide (f x < n))).filter fun x => decide (f x = (k : Int))).head?) = (List.range n).filterMap fun (k : Nat) => (R.filter fun x => decide (f x = (k : Int))).head? := by
      have : ∀ l : List Nat, (∀ k ∈ l, k < n) → l.filterMap (fun (k : Nat) => ((R.filter (fun x => decide (f x < n))).filter fun x => decide (f x = (k : Int))).head?) = l.filterMap fun (k : Nat) => (R.filter fun x => decide (f x = (k : Int))).head? := by
        intro l
        induction l with
        | nil => intro _; rfl
        | cons k r ihl =>
          intro hk
          rw [List.filterMap_cons, List.filterMap_cons, hA k (hk k (by simp)), ihl fun j hj => hk j (by simp [hj])]
      exact this _ fun k hk => List.mem_range.1 hk
    rw [← e1, ← ih]
    conv => lhs; rw [hc]
    cases hb : R.filter (fun x => decide (f x = (n : Int))) with
    | nil => simp only [List.filterMap_cons, hb, List.head?_nil, List.filterMap_nil, List.append_nil]
    | cons b B =>
      have hall : ∀ x ∈ b :: B, f x = n := fun x hx => by
        rw [← hb, List.mem_filter] at hx
        simpa using hx.2
      rw [kpf_blk f _ b (fun a ha => by
        rw [List.mem_filter] at ha
        have h1 : f a < n := by simpa using ha.2
        rw [hall b (by simp)]
        omega) B.length B rfl fun x hx => by rw [hall x (by simp [hx]), hall b (by simp)]]
      simp only [List.filterMap_cons, hb, List.head?_cons, List.filterMap_nil]
end
end Go.Proofs.Am

/- Merging in place: where two sorted lists are cut. -/
namespace Go.Proofs.Am
open Go
section
variable {α : Type} [Inhabited α]
end
end Go.Proofs.Am

/- Ranges are exchanged, place by place. -/
namespace Go.Proofs.Am
open Go
section
variable {α : Type} [Inhabited α]
end
end Go.Proofs.Am

/- A stable sort by blocks. -/
namespace Go.Proofs.Am
open Go
section
variable {α : Type} (lt : α → α → Bool)
def dn (z : Nat) (L : List α) : Nat → List α
  | 0 => []
  | t + 1 => dn z L t ++ insL lt ((L.drop (t * z)).take z)
variable {lt}
end
end Go.Proofs.Am
