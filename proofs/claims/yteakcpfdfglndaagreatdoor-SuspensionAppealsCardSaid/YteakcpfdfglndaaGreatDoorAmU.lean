/- AmU. -/
import Derived.Test.YteakcpfdfglndaaGreatDoorAmS
set_option linter.unusedSimpArgs false
set_option linter.unusedVariables false
namespace Go.Proofs.Am
open Go Go.RowKit
variable {P : Program}
section
variable (P : Program) (σ : ASt) (K : KT) (J : PV → Prop)
theorem bin_add (t : TypeId) (k k' : IntKind) (a b : Int) : evBin P .add t (.int k a) (.int k' b) J = (k = k' ∧ J (.int k (k.wrap (a + b)))) := (rfl)
theorem bin_sub (t : TypeId) (k k' : IntKind) (a b : Int) : evBin P .sub t (.int k a) (.int k' b) J = (k = k' ∧ J (.int k (k.wrap (a - b)))) := (rfl)
theorem bin_mul (t : TypeId) (k k' : IntKind) (a b : Int) : evBin P .mul t (.int k a) (.int k' b) J = (k = k' ∧ J (.int k (k.wrap (a * b)))) := (rfl)
theorem bin_quo (t : TypeId) (k k' : IntKind) (a b : Int) : evBin P .quo t (.int k a) (.int k' b) J = (k = k' ∧ b ≠ 0 ∧ J (.int k (k.wrap (a.tdiv b)))) := (rfl)
theorem bin_rem (t : TypeId) (k k' : IntKind) (a b : Int) : evBin P .rem t (.int k a) (.int k' b) J = (k = k' ∧ b ≠ 0 ∧ J (.int k (a.tmod b))) := (rfl)
theorem bin_shl (t : TypeId) (k k' : IntKind) (a b : Int) : evBin P .shl t (.int k a) (.int k' b) J = (0 ≤ b ∧ J (.int k (k.wrap (a * 2 ^ min b.toNat k.bits)))) := (rfl)
theorem bin_shr (t : TypeId) (k k' : IntKind) (a b : Int) : evBin P .shr t (.int k a) (.int k' b) J = (0 ≤ b ∧ J (.int k (a.fdiv (2 ^ min b.toNat k.bits)))) := (rfl)
theorem bin_and (t : TypeId) (k k' : IntKind) (a b : Int) : evBin P .and t (.int k a) (.int k' b) J = (k = k' ∧ J (.int k (bits .and k a b))) := (rfl)
theorem bin_or (t : TypeId) (k k' : IntKind) (a b : Int) : evBin P .or t (.int k a) (.int k' b) J = (k = k' ∧ J (.int k (bits .or k a b))) := (rfl)
theorem bin_xor (t : TypeId) (k k' : IntKind) (a b : Int) : evBin P .xor t (.int k a) (.int k' b) J = (k = k' ∧ J (.int k (bits .xor k a b))) := (rfl)
theorem bin_eql (t : TypeId) (k k' : IntKind) (a b : Int) : evBin P .eql t (.int k a) (.int k' b) J = (k = k' ∧ J (.bool (decide (a = b)))) := (rfl)
theorem bin_neq (t : TypeId) (k k' : IntKind) (a b : Int) : evBin P .neq t (.int k a) (.int k' b) J = (k = k' ∧ J (.bool (decide (a ≠ b)))) := (rfl)
theorem bin_lss (t : TypeId) (k k' : IntKind) (a b : Int) : evBin P .lss t (.int k a) (.int k' b) J = (k = k' ∧ J (.bool (decide (a < b)))) := (rfl)
theorem bin_leq (t : TypeId) (k k' : IntKind) (a b : Int) : evBin P .leq t (.int k a) (.int k' b) J = (k = k' ∧ J (.bool (decide (a ≤ b)))) := (rfl)
theorem bin_gtr (t : TypeId) (k k' : IntKind) (a b : Int) : evBin P .gtr t (.int k a) (.int k' b) J = (k = k' ∧ J (.bool (decide (b < a)))) := (rfl)
theorem bin_geq (t : TypeId) (k k' : IntKind) (a b : Int) : evBin P .geq t (.int k a) (.int k' b) J = (k = k' ∧ J (.bool (decide (b ≤ a)))) := (rfl)
theorem bin_beql (t : TypeId) (a b : Bool) : evBin P .eql t (.bool a) (.bool b) J = (P.underlying t = some .bool ∧ J (.bool (decide (a = b)))) := (rfl)
theorem bin_seql (t : TypeId) (a b : List UInt8) : evBin P .eql t (.str a) (.str b) J = J (.bool (decide (a = b))) := (rfl)
theorem bin_sneq (t : TypeId) (a b : List UInt8) : evBin P .neq t (.str a) (.str b) J = J (.bool (decide (a ≠ b))) := (rfl)
theorem bin_aeql (t : TypeId) (a b : List PV) : evBin P .eql t (.agg a) (.agg b) J = bv (flatOf P t) fun f => match f with | some ks => bv (eqCs ks a b) (fun q => match q with | some b => J (.bool b) | none => False) | none => False := by
 simp only [evBin, bv]
 cases flatOf P t with
 | none => rfl
 | some ks => simp only; cases eqCs ks a b <;> rfl
theorem bin_aneq (t : TypeId) (a b : List PV) : evBin P .neq t (.agg a) (.agg b) J = bv (flatOf P t) fun f => match f with | some ks => bv (eqCs ks a b) (fun q => match q with | some b => J (.bool (!b)) | none => False) | none => False := by
 simp only [evBin, bv]
 cases flatOf P t with
 | none => rfl
 | some ks => simp only; cases eqCs ks a b <;> rfl
theorem bin_sn_eql (t : TypeId) (b : Bool) : evBin P .eql t (.sn b) .nils J = bv (elemOf P t) fun e => e.isSome = true ∧ J (.bool b) := (rfl)
theorem bin_vs_eql (t : TypeId) (xs : List (List PV)) : evBin P .eql t (.vs xs) .nils J = bv (elemOf P t) fun e => (e.isSome = true ∧ 0 < xs.length) ∧ J (.bool false) := (rfl)
theorem un_not (b : Bool) : evUn .not (.bool b) J = J (.bool (!b)) := (rfl)
theorem un_neg (k : IntKind) (n : Int) : evUn .neg (.int k n) J = J (.int k (k.wrap (0 - n))) := (rfl)
theorem un_xor (k : IntKind) (n : Int) : evUn .xor (.int k n) J = J (.int k (bits .xor k (if k.signed then -1 else k.max) n)) := (rfl)
theorem mm_min (k k' : IntKind) (a b : Int) : evMM false (.int k a) (.int k' b) K = K (.int k (if b < a then b else a)) [] [] := (rfl)
theorem lo_none : loN none = some 0 := (rfl)
theorem lo_some (k : IntKind) (n : Int) : loN (some (.int k n)) = some n := (rfl)
theorem hi_none (l : Nat) : hiN l none = some (l : Int) := (rfl)
theorem hi_some (l : Nat) (k : IntKind) (n : Int) : hiN l (some (.int k n)) = some n := (rfl)
theorem sl_vs (t : TypeId) (xs : List (List PV)) (lo hi mx : Option PV) : evSlice2 P t σ (.vs xs) lo hi mx K = bv (slT P t) fun s => bv (loN lo) fun l => bv (hiN xs.length hi) fun h => bv (hiN xs.length mx) fun m => match l, s, h, m with
  | some l, some (_, sz, _), some h, some m => (0 ≤ l ∧ l ≤ h ∧ h ≤ m ∧ m ≤ xs.length ∧ (mx.isSome = true → hi.isSome = true)) ∧ (0 < l → ∀ x ∈ xs, x.length = sz) ∧ K (.vs ((xs.take h.toNat).drop l.toNat)) [] []
  | _, _, _, _ => False := by
 simp only [evSlice2, bv]
 rcases loN lo with _ | l <;> (try rfl) <;> rcases slT P t with _ | ⟨e, sz, b⟩ <;> (try rfl) <;> rcases hiN xs.length hi with _ | h <;> (try rfl) <;> rcases hiN xs.length mx with _ | m <;> rfl
theorem sl_os (t : TypeId) (n k : Nat) (lo hi mx : Option PV) : evSlice2 P t σ (.os n k) lo hi mx K = bv (find σ n) fun B => match B with
  | some (.arr _ asz _ xs) => bv (slT P t) fun s => bv (loN lo) fun l => bv (hiN xs.length hi) fun h => bv (hiN xs.length mx) fun m => match l, s, h, m with
   | some l, some (_, sz, _), some h, some m => (asz = sz ∧ k = xs.length ∧ 0 ≤ l ∧ l ≤ h ∧ h ≤ m ∧ m ≤ xs.length ∧ (mx.isSome = true → hi.isSome = true)) ∧ K (.vs ((xs.take h.toNat).drop l.toNat)) (shareD σ [n]) [n]
   | _, _, _, _ => False
  | _ => False := by
 simp only [evSlice2, bv]
 rcases loN lo with _ | l
 ·rcases find σ n with _ | B
  ·rfl
  ·cases B <;> rfl
 ·rcases find σ n with _ | B
  ·rfl
  ·cases B with
   | cells cs => rfl
   | arh e sz xs => rfl
   | mp es => rfl
   | it m k d => rfl
   | si l p => rfl
   | dead sz l => rfl
   | arr e asz sh xs => simp only; rcases slT P t with _ | ⟨e, sz, b⟩ <;> (try rfl) <;> rcases hiN xs.length hi with _ | h <;> (try rfl) <;> rcases hiN xs.length mx with _ | m <;> rfl
theorem sl3_vs (t : TypeId) (xs : List (List PV)) (lo hi : Option PV) : evSlice3 P t σ (.vs xs) lo hi none K = evSlice2 P t σ (.vs xs) lo hi none K := (rfl)
theorem sl3_str (t : TypeId) (s : List UInt8) (lo hi : Option PV) : evSlice3 P t σ (.str s) lo hi none K = evSlice2 P t σ (.str s) lo hi none K := (rfl)
theorem slX_vs (t : TypeId) (xs : List (List PV)) (k1 k2 : IntKind) (i j : Int) : evSlice3 P t σ (.vs xs) none (some (.int k1 i)) (some (.int k2 j)) K = bv (slT P t) fun s => match s with
  | some _ => (i = j ∧ 0 ≤ i ∧ i ≤ xs.length) ∧ kk K (.vx (xs.take i.toNat)) [] []
  | none => False := by
 simp only [evSlice3, evSlX, bv, kk]
 rcases slT P t with _ | ⟨e, sz, b⟩ <;> rfl
def vSl3 (P : Program) (t : TypeId) (σ : ASt) (n k : Nat) (lo hi mx : Option PV) (K : KT) : Option Box → Prop
 | some (.arh e asz xs) => evSlH P t σ n k e asz xs lo hi mx K
 | _ => evSlice2 P t σ (.os n k) lo hi mx K
theorem sl3_os (t : TypeId) (n k : Nat) (lo hi : Option PV) : evSlice3 P t σ (.os n k) lo hi none K = bv (find σ n) (vSl3 P t σ n k lo hi none K) := by
 simp only [evSlice3, bv]
 rcases find σ n with _ | B
 ·rfl
 ·cases B <;> rfl
theorem vSl3_arr (t : TypeId) (n k : Nat) (lo hi mx : Option PV) (e sz : Nat) (sh : Bool) (xs : List (List PV)) : vSl3 P t σ n k lo hi mx K (some (.arr e sz sh xs)) = evSlice2 P t σ (.os n k) lo hi mx K := (rfl)
theorem vSl3_arh (t : TypeId) (n k : Nat) (lo hi mx : Option PV) (e sz : Nat) (xs : List (List PV)) : vSl3 P t σ n k lo hi mx K (some (.arh e sz xs)) = evSlH P t σ n k e sz xs lo hi mx K := (rfl)
theorem slH_lo (t : TypeId) (n k e asz : Nat) (xs : List (List PV)) (kd : IntKind) (i : Int) : evSlH P t σ n k e asz xs (some (.int kd i)) none none K = bv (slT P t) fun s => match s with
  | some (_, sz, _) => (asz = sz ∧ k = xs.length ∧ 0 ≤ i ∧ i < k) ∧ kk K (.osl n k i.toNat) [] [n]
  | none => False := by
 simp only [evSlH, bv, kk]
 rcases slT P t with _ | ⟨e, sz, b⟩ <;> first | rfl | simp only [and_assoc]
theorem slH_hi (t : TypeId) (n k e asz : Nat) (xs : List (List PV)) (kd : IntKind) (i : Int) : evSlH P t σ n k e asz xs none (some (.int kd i)) none K = bv (slT P t) fun s => match s with
  | some (_, sz, _) => (asz = sz ∧ k = xs.length ∧ 0 ≤ i ∧ i ≤ k) ∧ purLL σ xs = some (xs, []) ∧ kk K (.vs (xs.take i.toNat)) [(n, .arr e asz true xs)] [n]
  | none => False := by
 simp only [evSlH, bv, kk]
 rcases slT P t with _ | ⟨e, sz, b⟩ <;> rfl
theorem evClr_osl (t : TypeId) (n k i : Nat) : evClr P t σ (.osl n k i) K = bv (slT P t) fun s => bv (find σ n) fun B => match s, B with
  | some (e', sz, _), some (.arh e asz xs) => bv (zeroOf P e') fun z => match z with
   | some zs => (asz = sz ∧ k = xs.length ∧ i < k ∧ zs.all oneP = true) ∧ K (.tup []) [(n, .arh e asz (xs.take i ++ List.replicate (k - i) (zs.map purZ)))] [n]
   | none => False
  | _, _ => False := by
 simp only [evClr, bv]
 rcases slT P t with _ | ⟨e, sz, b⟩ <;> (try rfl) <;> rcases find σ n with _ | B <;> (try rfl) <;> cases B <;> (try rfl)
 all_goals (simp only; rcases zeroOf P e with _ | z <;> rfl)
theorem sl_str (t : TypeId) (s : List UInt8) (lo hi : Option PV) : evSlice2 P t σ (.str s) lo hi none K = bv (isStr P t) fun q => bv (loN lo) fun l => bv (hiN s.length hi) fun h => match l, h with
  | some l, some h => (q = true ∧ 0 ≤ l ∧ l ≤ h ∧ h ≤ s.length) ∧ K (.str ((s.take h.toNat).drop l.toNat)) [] []
  | _, _ => False := by
 simp only [evSlice2, bv]
 rcases loN lo with _ | l <;> (try rfl) <;> rcases hiN s.length hi with _ | h <;> (try rfl)
 simp
theorem shareD_nil : shareD σ [] = [] := (rfl)
theorem shareD_cons (n : Nat) (r : List Nat) : shareD σ (n :: r) = (n, ((find σ n).getD (.cells [])).share) :: shareD σ r := (rfl)
theorem share_arr (e sz : Nat) (sh : Bool) (xs : List (List PV)) : Box.share (.arr e sz sh xs) = .arr e sz true xs := (rfl)
theorem mk_step (t : TypeId) (d : Nat) (k1 k2 : IntKind) (l c : Int) : evMake2 P t (some d) σ (.int k1 l) (.int k2 c) K = bv (slT P t) fun s => match s with
  | some (e, sz, bytes) => bv (zeroOf P e) fun z => match z with
   | some zs => (zs.all oneP = true ∧ 0 ≤ l ∧ l ≤ c ∧ (bytes : Int) * c ≤ 140737488355328 ∧ c ≤ 140737488355328 ∧ find σ d = none) ∧ K (.os d l.toNat) [(d, .arr e sz false (List.replicate l.toNat (zs.map purZ)))] [d]
   | none => False
  | none => False := by
 simp only [evMake2, bv]
 rcases slT P t with _ | ⟨e, sz, b⟩
 ·rfl
 ·simp only; rcases zeroOf P e with _ | z <;> rfl
theorem app_step (t tx : TypeId) (d : Option Nat) (u v : PV) : evApp2 P t tx d σ u v K = bv (slT P t) fun s => match s with
  | some (e, sz, bytes) => evSrc P tx sz σ v (evDst e sz bytes d σ u K)
  | none => False := by
 simp only [evApp2, bv]
 rcases slT P t with _ | ⟨e, sz, b⟩ <;> rfl
variable (k : List (List PV) → List Nat → Prop)
theorem src_vs' (tx sz : Nat) (ys : List (List PV)) : evSrc P tx sz σ (.vs ys) k = bv (isSlice P tx) fun q => (q = true ∧ ∀ y ∈ ys, y.length = sz) ∧ k ys [] := (rfl)
theorem src_sn (tx sz : Nat) (b : Bool) : evSrc P tx sz σ (.sn b) k = bv (isSlice P tx) fun q => q = true ∧ k [] [] := (rfl)
theorem src_os (tx sz : Nat) (m n : Nat) : evSrc P tx sz σ (.os m n) k = bv (find σ m) fun B => bv (isSlice P tx) fun q => match B with
  | some (.arr _ sz' _ ys) => (q = true ∧ n = ys.length ∧ sz' = sz) ∧ k ys [m]
  | _ => False := by
 simp only [evSrc, bv]
 rcases find σ m with _ | B <;> (try rfl) <;> cases B <;> rfl
theorem src_str (tx sz : Nat) (l : List UInt8) : evSrc P tx sz σ (.str l) k = bv (isStr P tx) fun q => (q = true ∧ sz = 1) ∧ k (bytesP l) [] := (rfl)
theorem dst_os (e sz bytes : Nat) (d : Option Nat) (n m : Nat) (ys : List (List PV)) (F : List Nat) : evDst e sz bytes d σ (.os n m) K ys F = bv (find σ n) fun B => match B with
  | some (.arr e' sz' sh xs) => (e' = e ∧ sz' = sz ∧ m = xs.length ∧ (xs.length + ys.length) * bytes ≤ 140737488355328) ∧ K (.os n (m + ys.length)) [(n, .arr e sz sh (xs ++ ys))] (n :: F)
  | some (.arh e' sz' xs) => (e' = e ∧ sz' = sz ∧ m = xs.length ∧ (xs.length + ys.length) * bytes ≤ 140737488355328) ∧ K (.os n (m + ys.length)) [(n, .arh e sz (xs ++ ys))] (n :: F)
  | _ => False := by
 simp only [evDst, bv]
 rcases find σ n with _ | B <;> (try rfl) <;> cases B <;> rfl
theorem dst_nils (e sz bytes d : Nat) (ys : List (List PV)) (F : List Nat) : evDst e sz bytes (some d) σ .nils K ys F = ((find σ d = none ∧ ys.length * bytes ≤ 140737488355328) ∧ K (.os d ys.length) [(d, .arr e sz false ys)] (d :: F)) := (rfl)
theorem dst_vx (e sz bytes d : Nat) (xs ys : List (List PV)) (F : List Nat) : evDst e sz bytes (some d) σ (.vx xs) K ys F = ((find σ d = none ∧ (∀ x ∈ xs, x.length = sz) ∧ (xs.length + ys.length) * bytes ≤ 140737488355328) ∧ (ys = [] → K (.vs xs) [] F) ∧ (0 < ys.length → K (.os d (xs.length + ys.length)) [(d, .arr e sz false (xs ++ ys))] (d :: F))) := (rfl)
theorem bs_step (t len : Nat) (parts : List (Nat × PV)) (d : Nat) : evBuildSlice P t len parts (some d) σ K = bv (slT P t) fun s => match s with
  | some (e, sz, _) => bv (find σ (900000 + d)) fun hint => match hint with
   | none => bv (rowsP σ sz 0 parts) fun r => match r with
    | some (xs, ns) => (find σ d = none ∧ len = parts.length ∧ len * sz ≤ 16777216) ∧ kk K (.os d xs.length) (shareD σ ns ++ [(d, .arr e sz false xs)]) (d :: ns)
    | none => False
   | some _ => bv (rowsK σ sz 0 parts) fun r => match r with
    | some (xs, ns) => (find σ d = none ∧ len = parts.length ∧ len * sz ≤ 16777216) ∧ kk K (.os d xs.length) (shareD σ ns ++ [(d, .arr e sz false xs)]) (d :: ns)
    | none => False
  | none => False := by
 simp only [evBuildSlice, bv, kk]
 rcases slT P t with _ | ⟨e, sz, b⟩
 ·rfl
 ·simp only
  rcases find σ (900000 + d) with _ | B
  ·simp only; rcases rowsP σ sz 0 parts with _ | ⟨xs, ns⟩ <;> simp only [and_assoc]
  ·simp only; rcases rowsK σ sz 0 parts with _ | ⟨xs, ns⟩ <;> simp only [and_assoc]
end
section
variable (P : Program) (σ : ASt) (K : KT) {α : Type} [Inhabited α] (f : α → List PV) (l : List α)
theorem rowAt_map' {i : Nat} (h : i < l.length) : rowAt (l.map f) i = f (el l i) := rowAt_map f l i h
theorem evIdx_map (t : TypeId) (kd : IntKind) (i : Int) : evIndexAddr P t σ (.vs (l.map f)) (.int kd i) K = bv (slT P t) fun s => match s with
  | some (_, sz, _) => (0 ≤ i ∧ i < l.length) ∧ bv (f (el l i.toNat)) fun c => c.length = sz ∧ kk K (.el c) [] []
  | none => False := by
 rw [evIdx_vs]
 simp only [bv]
 rcases slT P t with _ | ⟨e, sz, b⟩
 ·rfl
 ·simp only [List.length_map]
  refine propext (and_congr_right fun h => ?_)
  rw [rowAt_map' f l (by omega)]
theorem vLdO_map1 (n k i off e sz : Nat) (sh : Bool) : vLdO n k i off K (some none) (some (.arr e sz sh (l.map f))) = ((k = l.length ∧ i < k) ∧ bv (f (el l i)) fun c => off < c.length ∧ kk K (celAt c off) [] [n]) := by
 simp only [vLdO, bv, List.length_map, and_assoc]
 refine propext (and_congr_right fun h1 => and_congr_right fun h2 => ?_)
 rw [rowAt_map' f l (by omega)]
theorem vLdO_mapm (n k i off m e sz : Nat) (sh : Bool) : vLdO n k i off K (some (some m)) (some (.arr e sz sh (l.map f))) = ((k = l.length ∧ i < k) ∧ bv (f (el l i)) fun c => off + m ≤ c.length ∧ kk K (.agg ((c.drop off).take m)) [] [n]) := by
 simp only [vLdO, bv, List.length_map, and_assoc]
 refine propext (and_congr_right fun h1 => and_congr_right fun h2 => ?_)
 rw [rowAt_map' f l (by omega)]
end
theorem src_map (P : Program) (σ : ASt) {α : Type} (f : α → List PV) (l : List α) (tx sz : Nat) (k : List (List PV) → List Nat → Prop) : evSrc P tx sz σ (.vs (l.map f)) k = bv (isSlice P tx) fun q => (q = true ∧ ∀ y ∈ l, (f y).length = sz) ∧ k (l.map f) [] := by
 simp only [evSrc, bv, List.forall_mem_map]
def u8 (b : UInt8) : List PV := [.int .u8 b.toNat]
theorem u8_eq (b : UInt8) : u8 b = [.int .u8 b.toNat] := (rfl)
theorem bytesP_map (l : List UInt8) : bytesP l = l.map u8 := (rfl)
section
variable (P : Program) (N : Nat) (Q : Post) (fr : AFr) (σ : ASt)
theorem wv_skip : wv P N .skip Q fr σ = Q .normal fr σ := (rfl)
theorem wv_exit (id : Nat) : wv P N (.exit id) Q fr σ = Q (.exit id) fr σ := (rfl)
theorem wv_ret : wv P N .ret Q fr σ = Q .ret fr σ := (rfl)
theorem wv_seq (a b : Code) : wv P N (.seq a b) Q fr σ = wv P N a (thenQ (wv P N b Q) Q) fr σ := (rfl)
theorem wv_block (id : Nat) (c : Code) : wv P N (.block id c) Q fr σ = wv P N c (blockQ id Q) fr σ := (rfl)
def vCond (a b : Code) : PV → Prop
 | .bool t => (t = true → wv P N a Q fr σ) ∧ (t = false → wv P N b Q fr σ)
 | _ => False
theorem wv_cond (c : Operand) (a b : Code) : wv P N (.cond c a b) Q fr σ = bv (ev fr c) (vCond P N Q fr σ a b) := by
 simp only [wv, bv]
 cases ev fr c <;> rfl
theorem vCond_bool (a b : Code) (t : Bool) : vCond P N Q fr σ a b (.bool t) = ((t = true → wv P N a Q fr σ) ∧ (t = false → wv P N b Q fr σ)) := (rfl)
theorem wv_region (id : Nat) (l : List Oper) : wv P N (.region id l.toArray false) Q fr σ = evOps P l.toArray l fr σ (Q .normal) := (rfl)
def okD (ops : List Oper) (g : Log) : Prop := okDraw ops.toArray g.reverse = true
theorem wv_regionD (id : Nat) (l : List Oper) : wv P N (.region id l.toArray true) Q fr σ = evD P l.toArray l fr σ [] fun fr' σ' g => okD l g ∧ Q .normal fr' σ' := (rfl)
variable (K : AFr → ASt → Prop)
theorem thenQ_normal : thenQ K Q .normal fr σ = K fr σ := (rfl)
theorem thenQ_exit (id : Nat) : thenQ K Q (.exit id) fr σ = Q (.exit id) fr σ := (rfl)
theorem thenQ_ret : thenQ K Q .ret fr σ = Q .ret fr σ := (rfl)
theorem blockQ_normal (id : Nat) : blockQ id Q .normal fr σ = Q .normal fr σ := (rfl)
theorem blockQ_ret (id : Nat) : blockQ id Q .ret fr σ = Q .ret fr σ := (rfl)
theorem blockQ_exit (id id' : Nat) : blockQ id Q (.exit id') fr σ = if id' = id then Q .normal fr σ else Q (.exit id') fr σ := (rfl)
variable (rs : List ResultVar) (ns exts : List Nat) (r : PV) (nb ext' : List Box)
theorem retQ_normal : retQ P rs ns exts r nb ext' .normal fr σ = retV P rs ns exts r nb ext' fr σ := (rfl)
theorem retQ_ret : retQ P rs ns exts r nb ext' .ret fr σ = retV P rs ns exts r nb ext' fr σ := (rfl)
theorem retV_eq : retV P rs ns exts r nb ext' fr σ = bv (resL P fr σ rs) fun us => bv (givL σ ns) fun a => bv (givL σ exts) fun b => match us with
  | some us => bv (retUs σ ns exts us) fun c => match a, b, c with
   | some (nb0, b1), some (e0, b2), some (us', b3) => apartB ns exts (b1 ++ (b2 ++ b3)) = true ∧ nb0 = nb ∧ e0 = ext' ∧ packR us' = r
   | _, _, _ => False
  | none => False := by
 simp only [retV, bv]
 rcases resL P fr σ rs with _ | us
 ·rfl
 ·simp only
  rcases givL σ ns with _ | ⟨nb0, b1⟩ <;> (try rfl) <;> rcases givL σ exts with _ | ⟨e0, b2⟩ <;> (try rfl) <;> rcases retUs σ ns exts us with _ | ⟨us', b3⟩ <;> rfl
end
attribute [congr] bv_congr
theorem isNext_move {a0} : isNext (.move a0) = false := (rfl)
theorem isNext_assign {a0} : isNext (.assign a0) = false := (rfl)
theorem isNext_pick {a0} {a1} {a2} : isNext (.pick a0 a1 a2) = false := (rfl)
theorem isNext_alloc {a0} : isNext (.alloc a0) = false := (rfl)
theorem isNext_build {a0} {a1} : isNext (.build a0 a1) = false := (rfl)
theorem isNext_buildSlice {a0} {a1} {a2} : isNext (.buildSlice a0 a1 a2) = false := (rfl)
theorem isNext_load {a0} {a1} : isNext (.load a0 a1) = false := (rfl)
theorem isNext_store {a0} {a1} {a2} : isNext (.store a0 a1 a2) = false := (rfl)
theorem isNext_nilCheck {a0} : isNext (.nilCheck a0) = false := (rfl)
theorem isNext_binOp {a0} {a1} {a2} {a3} {a4} : isNext (.binOp a0 a1 a2 a3 a4) = false := (rfl)
theorem isNext_unOp {a0} {a1} {a2} : isNext (.unOp a0 a1 a2) = false := (rfl)
theorem isNext_convert {a0} {a1} {a2} : isNext (.convert a0 a1 a2) = false := (rfl)
theorem isNext_slice {a0} {a1} {a2} {a3} {a4} : isNext (.slice a0 a1 a2 a3 a4) = false := (rfl)
theorem isNext_fieldAddr {a0} {a1} {a2} : isNext (.fieldAddr a0 a1 a2) = false := (rfl)
theorem isNext_indexAddr {a0} {a1} {a2} : isNext (.indexAddr a0 a1 a2) = false := (rfl)
theorem isNext_index {a0} {a1} {a2} : isNext (.index a0 a1 a2) = false := (rfl)
theorem isNext_extract {a0} {a1} : isNext (.extract a0 a1) = false := (rfl)
theorem isNext_call {a0} : isNext (.call a0) = false := (rfl)
attribute [go_sem] isNext_move isNext_assign isNext_pick isNext_alloc isNext_build isNext_buildSlice isNext_load isNext_store isNext_nilCheck isNext_binOp isNext_unOp isNext_convert isNext_slice isNext_fieldAddr isNext_indexAddr isNext_index isNext_extract isNext_call
attribute [go_sem ↓] vLdO_oneH vStO_H evLenA_mh evLenA_str evLenA_vs evLenA_os evO_lookup evLook_mh vLook_mp evO_mapUpdate evMup_mh vMup_mp evO_makeMap
attribute [go_sem] mres mput keyOK rowsK purLK purK purLL purA purM hinLL hinM Box.arh.injEq Box.mp.injEq Box.it.injEq PV.mh.injEq
attribute [go_sem ↓] mk_eq
attribute [go_sem ↓] kk_eq look_hit look_cons ev_tmp ev_const ev_func find_cons find_nil putL_nil putL_cons put1_nil put1_cons
attribute [go_sem ↓] nx_some_nil nx_some_cons nx_none_cons evOps_nil evOps_none evOps_some vG_bool vG_skip nxD_some_nil nxD_some_cons nxD_none_cons evD_nil evD_none evD_some vGD_bool vGD_skip
attribute [go_sem ↓] vLdO_one vStO_gen
attribute [go_sem ↓ 1100] vStO_map
attribute [go_sem ↓ 1100] vLdO_map1 vLdO_mapm evIdx_map src_map
theorem vCvB_eq (d e : Nat) (l : List UInt8) (K : KT) : vCvB d e l K = kk K (.os d l.length) [(d, .arr e 1 false (l.map u8))] [d] := (rfl)
attribute [go_sem] u8_eq bytesP_map vCvB_eq
attribute [go_sem ↓] evConvD_int evConvD_os evConvD_str
attribute [go_sem] celAt_zero celAt_succ rowAt_zero rowAt_succ bv_eq abs0_bool abs0_int abs0_str abs0_nilp abs0_nils abs0_nilm gslot_zero gslot_succ
attribute [go_sem ↓] evO_invoke evO_mkI evInv_ifc evMkI_agg evO_move evO_assign evO_pick vPick_bool evO_nilCheck vNil_ptr evO_extract vExt_tup evO_alloc evO_box evO_build evO_buildSlice evO_load evO_store evO_fieldAddr evO_indexAddr evO_index evO_binOp evO_unOp evO_convert evO_slice evO_makeSlice evO_makeFunc evO_call evO_len evO_append evO_min
attribute [go_sem ↓] evLoad_ptr evLoad_el evLoad_oel evStore_ptr evStore_oel evField_ptr evField_el evField_oel evIdx_vs evIdx_os evIdx_ptr evIndex_agg evIndex_str evLen_str evLen_vs evLen_os evConv_int evConv_os
attribute [go_sem ↓] bin_add bin_sub bin_mul bin_quo bin_rem bin_shl bin_shr bin_and bin_or bin_xor bin_eql bin_neq bin_lss bin_leq bin_gtr bin_geq bin_beql bin_seql bin_sneq bin_aeql bin_aneq un_not un_neg un_xor mm_min
attribute [go_sem ↓] bin_sn_eql bin_vs_eql src_sn
attribute [go_sem ↓] sl3_vs sl3_str sl3_os slX_vs vSl3_arr vSl3_arh slH_lo slH_hi evClr_osl evO_clear evIdx_osl evLen_osl sl_vs sl_os sl_str mk_step app_step src_vs' dst_vx src_os src_str dst_os dst_nils bs_step
attribute [go_sem] lo_none lo_some hi_none hi_some shareD_nil shareD_cons share_arr evPs_nil evPs_cons evL1_nil evL1_cons
attribute [go_sem ↓] wv_skip wv_exit wv_ret wv_seq wv_block wv_cond vCond_bool wv_region wv_regionD thenQ_normal thenQ_exit thenQ_ret blockQ_normal blockQ_ret blockQ_exit retQ_normal retQ_ret retV_eq
theorem wkF_nil (σ : ASt) (fr : AFr) : wkF σ fr [] = True := (rfl)
theorem wkF_cons (σ : ASt) (fr : AFr) (s : Nat) (u : PV) (r : AFr) : wkF σ fr ((s, u) :: r) = (bv (look fr s) (fun v => bv u fun u => wkU σ v u) ∧ wkF σ fr r) := (rfl)
theorem wkN_nil (fr : AFr) : wkN fr [] = [] := (rfl)
theorem wkN_cons (fr : AFr) (s : Nat) (u : PV) (r : AFr) : wkN fr ((s, u) :: r) = wkN1 (look fr s) u ++ wkN fr r := (rfl)
theorem wkS_nil (σ : ASt) : wkS σ [] = True := (rfl)
theorem wkS_cons (σ : ASt) (n : Nat) (B : Box) (r : ASt) : wkS σ ((n, B) :: r) = (bv (find σ n) (fun v => v = some B) ∧ wkS σ r) := (rfl)
theorem wk_eq (fr : AFr) (σ : ASt) (fr' : AFr) (σ' : ASt) : wk fr σ fr' σ' = (wkF σ fr fr' ∧ wkS σ σ' ∧ disj (σ'.map (·.1)) (wkN fr fr') = true ∧ hinF (σ'.map (·.1)) fr' = true ∧ hinS (σ'.map (·.1)) σ' = true ∧ extK (σ'.map (·.1)) σ = true) := (rfl)
theorem loop {P : Program} (hm : P.follows .mixedOrders = true) {N : Nat} {c : Code} {Q : Post} {fr : AFr} {σ : ASt} {ι : Type} (i0 : ι) (fs : ι → AFr) (ss : ι → ASt) (I : ι → Prop) (μ : ι → Nat) (hc : codeOK N c = true) (hI : I i0) (hw : wk fr σ (fs i0) (ss i0))
  (round : ∀ i, I i → wv P N c (thenQ (fun fr' σ' => ∃ j, (I j ∧ μ j < μ i) ∧ wk fr' σ' (fs j) (ss j)) Q) (fs i) (ss i)) : wv P N (.loop c) Q fr σ :=
 W_loop hm hc fs ss I μ i0 hI hw round
theorem loopR {P : Program} (hm : P.follows .mixedOrders = true) {N : Nat} {c : Code} {Q : Post} {fr : AFr} {σ : ASt} {ι : Type} (i0 : ι) (fs : ι → AFr) (ss : ι → ASt) (I : ι → Prop) (μ : ι → Nat) (hc : codeOK N c = true) (l0 : List (Nat × Nat)) (hI : I i0) (hw : wkR l0 fr σ (fs i0) (ss i0))
  (round : ∀ i, I i → wv P N c (thenQ (fun fr' σ' => ∃ j l, (I j ∧ μ j < μ i) ∧ wkR l fr' σ' (fs j) (ss j)) Q) (fs i) (ss i)) : wv P N (.loop c) Q fr σ :=
 W_loopR hm hc fs ss I μ i0 hI l0 hw round
theorem wkR_eq (l : List (Nat × Nat)) (fr : AFr) (σ : ASt) (fr' : AFr) (σ' : ASt) : wkR l fr σ fr' σ' = (rnOK l fr σ ∧ bv (rnFS l fr σ) fun p => wk p.1 p.2 fr' σ') := (rfl)
theorem rnOK_nil (fr : AFr) (σ : ASt) : rnOK [] fr σ = True := (rfl)
theorem rnOK_cons (n m : Nat) (r : List (Nat × Nat)) (fr : AFr) (σ : ASt) : rnOK ((n, m) :: r) fr σ = ((bv (find σ m) (fun B => B = none) ∧ n < 1000000 ∧ m < 1000000 ∧ n ≠ m) ∧ bv (renF n m fr) fun fr => bv (renS n m σ) fun σ => rnOK r fr σ) := (rfl)
theorem rnFS_nil (fr : AFr) (σ : ASt) : rnFS [] fr σ = (fr, σ) := (rfl)
theorem rnFS_cons (n m : Nat) (r : List (Nat × Nat)) (fr : AFr) (σ : ASt) : rnFS ((n, m) :: r) fr σ = rnFS r (renF n m fr) (renS n m σ) := (rfl)
attribute [go_sem ↓] wkR_eq rnOK_nil rnOK_cons
attribute [go_sem] rnFS_nil rnFS_cons renF renS renV renVs renBx rn
attribute [go_sem ↓] wkN_nil wkF_nil wkF_cons wkS_nil wkS_cons wk_eq
attribute [go_sem] wkN_cons wkU wkN1 disj hinF hinS extK hinV hinL
attribute [go_sem] decide_true decide_false decide_eq_true_eq decide_eq_false_iff_not Bool.not_eq_true' Bool.not_eq_false' Bool.not_true Bool.not_false true_and and_true false_and and_false forall_const implies_true not_true_eq_false not_false_eq_true eq_self ne_eq
attribute [go_sem] Bool.true_and Bool.and_true Bool.false_and Bool.and_false Bool.true_or Bool.or_true Bool.false_or Bool.or_false Bool.and_eq_true Bool.or_eq_true Bool.not_eq_true Bool.true_eq_false Bool.false_eq_true
attribute [go_sem] List.length_map List.length_cons List.length_nil List.length_append List.length_replicate List.map_cons List.map_nil List.append_nil List.nil_append List.cons_append List.toList_toArray List.all_nil List.all_cons
attribute [go_sem] List.take_zero List.take_succ_cons List.take_nil List.drop_zero List.drop_succ_cons List.drop_nil Option.map_some Option.map_none Option.getD_some Option.isSome_some Option.isSome_none
theorem tk_map {α : Type} (f : α → List PV) (l : List α) (n : Nat) : (l.map f).take n = (l.take n).map f := List.map_take.symm
theorem dr_map {α : Type} (f : α → List PV) (l : List α) (n : Nat) : (l.map f).drop n = (l.drop n).map f := List.map_drop.symm
theorem all_map {α : Type} (f : α → List PV) (l : List α) (p : List PV → Prop) : (∀ x ∈ l.map f, p x) = ∀ x ∈ l, p (f x) := by simp
attribute [go_sem] tk_map dr_map
attribute [go_sem ↓] all_map
theorem natLit (n : Nat) : ((no_index (OfNat.ofNat n) : Nat) : Int) = OfNat.ofNat n := (rfl)
attribute [go_sem] natLit Int.toNat_natCast Int.toNat_zero Int.ofNat_lt Int.ofNat_le Int.natCast_nonneg Int.ofNat_eq_natCast Int.zero_le_ofNat
attribute [go_sem] PV.int.injEq PV.bool.injEq PV.vs.injEq PV.str.injEq PV.os.injEq PV.tup.injEq PV.agg.injEq PV.ptr.injEq PV.el.injEq PV.fn.injEq Box.arr.injEq Box.cells.injEq Option.some.injEq Prod.mk.injEq List.cons.injEq
attribute [go_sem] List.not_mem_nil List.mem_cons List.contains_nil List.contains_cons or_false false_or not_or Nat.not_lt_zero Nat.zero_add Nat.add_zero
attribute [go_sem] cellsP pur purL rowsP resU resL givB givL retU retUs packR idxN eqC eqCs initF initS oneP
end Go.Proofs.Am
