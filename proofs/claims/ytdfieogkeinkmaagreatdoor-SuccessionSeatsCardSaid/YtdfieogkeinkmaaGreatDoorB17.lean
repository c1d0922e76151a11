/- B17. -/
import Derived.Test.YtdfieogkeinkmaaGreatDoorB16
set_option linter.unusedSimpArgs false
set_option linter.unusedVariables false
namespace Go.Proofs.Am
open Go Go.RowKit
open Go.Proofs
def mother (l : List Int) (p : Nat) (me : Int) (n : Nat) : Int := mmod (IntKind.i64.wrap (IntKind.i64.wrap (me + 1) + dnext l p (if 1 < IntKind.i64.wrap ((n : Int) - 1) then IntKind.i64.wrap ((n : Int) - 1) else 1))) n
def mguard (l : List Int) (p : Nat) (me : Int) (n : Nat) : List Int := keysW (fun k => decide (k ∈ dkeys l n p) && !decide (k ∈ [me])) 64
def mdraft (l : List Int) (p : Nat) (me : Int) (n : Nat) (ti : Int) : Drf × Nat :=
  let o := mother l p me n
  let p1 := dpos l p
  let c := dnext l p1 10
  let p2 := dpos l p1
  if c = 0 then (⟨2, dnext l p2 4, 0, 0, [], []⟩, dpos l p2)
  else if c = 1 ∨ c = 2 then (appD, p2)
  else if c = 3 then (⟨12, IntKind.i64.wrap (1 + dnext l (dkpos l n p2) (if 1 < ((mguard l p2 me n).length : Int) then ((mguard l p2 me n).length : Int) else 1)), 0, 0, mguard l p2 me n, []⟩, dpos l (dkpos l n p2))
  else if c = 4 then (⟨13, o, dnext l p2 n, 0, [], []⟩, dpos l p2)
  else if c = 5 then (⟨14, dnext l p2 2, 0, 0, dsome l n 0 (dpos l p2), []⟩, dskip l n (dpos l p2))
  else if c = 6 then (⟨15, 0, IntKind.i64.wrap (2 + dnext l p2 2), dnext l (dpos l p2) n, [], []⟩, dpos l (dpos l p2))
  else (⟨1, o, IntKind.i64.wrap (1 + dnext l p2 3), IntKind.i64.wrap (ti + el [100, 30, 5] (dnext l (dpos l p2) 3).toNat), [], []⟩, dpos l (dpos l p2))
theorem dkeys_len (l : List Int) (n p : Nat) (hn : n ≤ 1000) : (dkeys l n p).length ≤ 1000 := by
  have := dsome_len l n 0 p
  unfold dkeys
  split
  · simp
  · omega
theorem dkeys_big (l : List Int) (n p : Nat) (hn : n ≤ 1000) : big (dkeys l n p).length := by
  have := dkeys_len l n p hn
  simp only [big]; omega
theorem dkpos_le (l : List Int) (n p : Nat) (hp : p ≤ l.length) : dkpos l n p ≤ l.length := by
  unfold dkpos
  split
  · exact dpos_le (dskip_le l n p hp)
  · exact dskip_le l n p hp
set_option maxHeartbeats 1000000 in
set_option maxRecDepth 100000 in
theorem mdraft_den (l : List Int) (p : Nat) (me : Int) (n : Nat) (ti : Int) (hl : big l.length) (hp : p ≤ l.length) (h0 : 0 < n) (hn : n ≤ 1000) : Den Tryz.prog 39 [.ptr 1000000 0, .int .i64 me, .int .i64 n, .int .i64 ti] [dbox l p] (.agg (dr (mdraft l p me n ti).1)) [] [dbox l (mdraft l p me n ti).2] := by
  refine den_of Tryz.mixed Tryz.func39 rfl Tryz.call39 Tryz.ntmps39 (congrArg Array.toList Tryz.results39) (by simp) (by kernel_rfl) [] (exts := [1000000]) rfl rfl ?_
  generalize hm : mdraft l p me n ti = m
  have hp1 : dpos l p ≤ l.length := dpos_le hp
  have hp2 : dpos l (dpos l p) ≤ l.length := dpos_le hp1
  have hp3 : dpos l (dpos l (dpos l p)) ≤ l.length := dpos_le hp2
  have hw : IntKind.i64.wrap ((n : Int) - 1) = (n : Int) - 1 := by rw [wrapI] <;> omega
  have hMb : (if 1 < IntKind.i64.wrap ((n : Int) - 1) then IntKind.i64.wrap ((n : Int) - 1) else 1) < 9223372036854775808 := by rw [hw]; split <;> omega
  simp only [go_sem]
  refine call (next_den l p _ hl hp hMb) [1000000] ?_
  simp only [go_sem]
  refine call (mmod29 (IntKind.i64.wrap (IntKind.i64.wrap (me + 1) + dnext l p (if 1 < IntKind.i64.wrap ((n : Int) - 1) then IntKind.i64.wrap ((n : Int) - 1) else 1))) n (by omega)) [] ?_
  simp only [go_sem]
  refine call (next_den l (dpos l p) 10 hl hp1 (by omega)) [1000000] ?_
  have ho : mmod (IntKind.i64.wrap (IntKind.i64.wrap (me + 1) + dnext l p (if 1 < IntKind.i64.wrap ((n : Int) - 1) then IntKind.i64.wrap ((n : Int) - 1) else 1))) n = mother l p me n := rfl
  rw [ho]
  generalize hcc : dnext l (dpos l p) 10 = c
  generalize hoo : mother l p me n = o
  have hmm : mdraft l p me n ti = (if c = 0 then ((⟨2, dnext l (dpos l (dpos l p)) 4, 0, 0, [], []⟩, dpos l (dpos l (dpos l p))) : Drf × Nat)
      else if c = 1 ∨ c = 2 then (appD, dpos l (dpos l p))
      else if c = 3 then (⟨12, IntKind.i64.wrap (1 + dnext l (dkpos l n (dpos l (dpos l p))) (if 1 < ((mguard l (dpos l (dpos l p)) me n).length : Int) then ((mguard l (dpos l (dpos l p)) me n).length : Int) else 1)), 0, 0, mguard l (dpos l (dpos l p)) me n, []⟩, dpos l (dkpos l n (dpos l (dpos l p))))
      else if c = 4 then (⟨13, o, dnext l (dpos l (dpos l p)) n, 0, [], []⟩, dpos l (dpos l (dpos l p)))
      else if c = 5 then (⟨14, dnext l (dpos l (dpos l p)) 2, 0, 0, dsome l n 0 (dpos l (dpos l (dpos l p))), []⟩, dskip l n (dpos l (dpos l (dpos l p))))
      else if c = 6 then (⟨15, 0, IntKind.i64.wrap (2 + dnext l (dpos l (dpos l p)) 2), dnext l (dpos l (dpos l (dpos l p))) n, [], []⟩, dpos l (dpos l (dpos l (dpos l p))))
      else (⟨1, o, IntKind.i64.wrap (1 + dnext l (dpos l (dpos l p)) 3), IntKind.i64.wrap (ti + el [100, 30, 5] (dnext l (dpos l (dpos l (dpos l p))) 3).toNat), [], []⟩, dpos l (dpos l (dpos l (dpos l p))))) := by
    rw [← hcc, ← hoo]; rfl
  rw [hmm] at hm
  clear hmm
  generalize dpos l (dpos l p) = p2 at *
  clear hcc hoo ho
  by_cases c0 : c = 0
  · rw [if_pos c0] at hm
    subst hm
    simp only [go_sem, c0]
    refine call (next_den l _ 4 hl hp2 (by omega)) [1000000] ?_
    simp only [go_sem]
  rw [if_neg c0] at hm
  by_cases c1 : c = 1
  · rw [if_pos (.inl c1)] at hm
    subst hm
    simp only [go_sem, c1]
    exact ⟨rfl, rfl, rfl, rfl, rfl, rfl⟩
  by_cases c2 : c = 2
  · rw [if_pos (.inr c2)] at hm
    subst hm
    simp only [go_sem, c2]
    exact ⟨rfl, rfl, rfl, rfl, rfl, rfl⟩
  rw [if_neg (by omega)] at hm
  by_cases c3 : c = 3
  · rw [if_pos c3] at hm
    subst hm
    simp only [go_sem, c3]
    refine call (keys_den l p2 n hl hp2 hn) [1000000] ?_
    simp only [go_sem]
    refine call (minusB_den (dkeys l n p2) [me] (dkeys_big l n p2 hn) (by simp [big])) [] ?_
    have hg : keysW (fun k => decide (k ∈ dkeys l n p2) && !decide (k ∈ [me])) 64 = mguard l p2 me n := rfl
    rw [hg]
    have hgl : (mguard l p2 me n).length ≤ 64 := keysW_len _ 64
    have hp4 : dkpos l n p2 ≤ l.length := dkpos_le l n p2 hp2
    simp only [go_sem]
    refine call (next_den l (dkpos l n p2) (if 1 < ((mguard l p2 me n).length : Int) then ((mguard l p2 me n).length : Int) else 1) hl hp4 (by split <;> omega)) [1000000] ?_
    simp only [go_sem]
  rw [if_neg c3] at hm
  by_cases c4 : c = 4
  · rw [if_pos c4] at hm
    subst hm
    simp only [go_sem, c4]
    refine call (next_den l p2 n hl hp2 (by omega)) [1000000] ?_
    simp only [go_sem]
  rw [if_neg c4] at hm
  by_cases c5 : c = 5
  · rw [if_pos c5] at hm
    subst hm
    simp only [go_sem, c5]
    refine call (next_den l p2 2 hl hp2 (by omega)) [1000000] ?_
    simp only [go_sem]
    refine call (some_vs l (dpos l p2) n hl hp3 hn) [1000000] ?_
    simp only [go_sem]
  rw [if_neg c5] at hm
  by_cases c6 : c = 6
  · rw [if_pos c6] at hm
    subst hm
    simp only [go_sem, c6]
    refine call (next_den l p2 2 hl hp2 (by omega)) [1000000] ?_
    simp only [go_sem]
    refine call (next_den l (dpos l p2) n hl hp3 (by omega)) [1000000] ?_
    simp only [go_sem]
  rw [if_neg c6] at hm
  subst hm
  simp only [go_sem, c0, c1, c2, c3, c4, c5, c6]
  refine call (next_den l p2 3 hl hp2 (by omega)) [1000000] ?_
  simp only [go_sem]
  refine call (of_den l (dpos l p2) [100, 30, 5] hl hp3 (by simp) (by simp [big])) [1000000] ?_
  simp only [go_sem]
end Go.Proofs.Am
