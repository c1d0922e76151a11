/-
  No cell of these rows narrows 'for every input' (looked for: loops, veiled, ifaces, maps, wideKeys, modest, calm, conditions, laid).
  DERIVED. THE GIVEN ROWS OF THIS SEAT. 4 by the template 'for every input the law returns true; each argument reads behind the call as it read before'; 0 by the template 'total and deterministic' (their statements: YthcphdogfdghkaaTotals.lean).
  GIVEN WITH THE SEED: the statements are not yours to turn. If you find one false, say at which input.
  Laid BY PROGRAM, IN A SANDBOX (cutbox-rows.mjs): the forced cells as the released guide's own fill.sh prints them over the translation b74ceda2df8ca185… (all of the seat's roots in one cut). By AI agents, Wed Nov 11 2026. No macro, syntax, notation, axiom, sorry.
-/
import Derived.Test.YthcphdogfdghkaaChecked
import GoSem.Claim
import GoSem.ClaimJoined
import GoSem.ClaimMapViews
import Derived.JoinedTies
import Derived.KernelRfl
namespace Go.Proofs.Ythcphdogfdghkaa
/- THE CELL 'sum', in the pinned program and in every row, IS THE sha256 OF THE DUMP (.gsa) THAT YthcphdogfdghkaaProg.lean LOADS. Nothing in Lean hashes anything: it is a label: what it is worth is what the hold of that sum in a sandbox is worth. -/
noncomputable def Try.pinned : Pinned := { name := "ythcphdogfdghkaa", sum := "b74ceda2df8ca1853f87c0dce7559bd4df553f843710fd0a67cbff4d0b7d5a2c", checked := Try.checked }
namespace Rows
def none {H : Type} : Left H := { results := [], args := [] }

/-- 'trustflowlaw33.AdmissionAdmits': WHATEVER THE INPUT: true; the input reads as it did. -/
def admissionAdmitsSpec : ChangeSpec := { name := "admissionAdmits", fn := fun _ => fun
  | [d1, d2, d3] => { results := [.lit (.bool true)], args := [d1, d2, d3] }
  | _ => none }
def admissionAdmitsRow : OpenClaim := { program := "ythcphdogfdghkaa", sum := "b74ceda2df8ca1853f87c0dce7559bd4df553f843710fd0a67cbff4d0b7d5a2c", func := "trustflow/trustflowlaw33.AdmissionAdmits", spec := "admissionAdmits", unfollowed := true, recurses := true, apart := false }
def AdmissionAdmitsSaid : Prop := admissionAdmitsRow.holds Try.pinned (OpenSpec.ofChange admissionAdmitsSpec)

/-- ITS FALSE NEIGHBOUR: 'it returns false'. Refute it at one input. -/
def admissionAdmitsWrong : ChangeSpec := { name := "admissionAdmits", fn := fun _ => fun
  | [d1, d2, d3] => { results := [.lit (.bool false)], args := [d1, d2, d3] }
  | _ => none }
def AdmissionAdmitsWrongFalsely : Prop := admissionAdmitsRow.holds Try.pinned (OpenSpec.ofChange admissionAdmitsWrong)

/-- 'trustflowlaw33.AdmissionNeeds': WHATEVER THE INPUT: true; the input reads as it did. -/
def admissionNeedsSpec : ChangeSpec := { name := "admissionNeeds", fn := fun _ => fun
  | [d1, d2] => { results := [.lit (.bool true)], args := [d1, d2] }
  | _ => none }
def admissionNeedsRow : OpenClaim := { program := "ythcphdogfdghkaa", sum := "b74ceda2df8ca1853f87c0dce7559bd4df553f843710fd0a67cbff4d0b7d5a2c", func := "trustflow/trustflowlaw33.AdmissionNeeds", spec := "admissionNeeds", unfollowed := true, recurses := true, apart := false }
def AdmissionNeedsSaid : Prop := admissionNeedsRow.holds Try.pinned (OpenSpec.ofChange admissionNeedsSpec)

/-- ITS FALSE NEIGHBOUR: 'it returns false'. Refute it at one input. -/
def admissionNeedsWrong : ChangeSpec := { name := "admissionNeeds", fn := fun _ => fun
  | [d1, d2] => { results := [.lit (.bool false)], args := [d1, d2] }
  | _ => none }
def AdmissionNeedsWrongFalsely : Prop := admissionNeedsRow.holds Try.pinned (OpenSpec.ofChange admissionNeedsWrong)

/-- 'trustflowlaw33.AdmissionApplies': WHATEVER THE INPUT: true; the input reads as it did. -/
def admissionAppliesSpec : ChangeSpec := { name := "admissionApplies", fn := fun _ => fun
  | [d1, d2] => { results := [.lit (.bool true)], args := [d1, d2] }
  | _ => none }
def admissionAppliesRow : OpenClaim := { program := "ythcphdogfdghkaa", sum := "b74ceda2df8ca1853f87c0dce7559bd4df553f843710fd0a67cbff4d0b7d5a2c", func := "trustflow/trustflowlaw33.AdmissionApplies", spec := "admissionApplies", unfollowed := true, recurses := true, apart := false }
def AdmissionAppliesSaid : Prop := admissionAppliesRow.holds Try.pinned (OpenSpec.ofChange admissionAppliesSpec)

/-- ITS FALSE NEIGHBOUR: 'it returns false'. Refute it at one input. -/
def admissionAppliesWrong : ChangeSpec := { name := "admissionApplies", fn := fun _ => fun
  | [d1, d2] => { results := [.lit (.bool false)], args := [d1, d2] }
  | _ => none }
def AdmissionAppliesWrongFalsely : Prop := admissionAppliesRow.holds Try.pinned (OpenSpec.ofChange admissionAppliesWrong)

/-- 'trustflowlaw33.AdmissionFirst': WHATEVER THE INPUT: true; the input reads as it did. -/
def admissionFirstSpec : ChangeSpec := { name := "admissionFirst", fn := fun _ => fun
  | [d1, d2, d3] => { results := [.lit (.bool true)], args := [d1, d2, d3] }
  | _ => none }
def admissionFirstRow : OpenClaim := { program := "ythcphdogfdghkaa", sum := "b74ceda2df8ca1853f87c0dce7559bd4df553f843710fd0a67cbff4d0b7d5a2c", func := "trustflow/trustflowlaw33.AdmissionFirst", spec := "admissionFirst", unfollowed := true, recurses := true, apart := false }
def AdmissionFirstSaid : Prop := admissionFirstRow.holds Try.pinned (OpenSpec.ofChange admissionFirstSpec)

/-- ITS FALSE NEIGHBOUR: 'it returns false'. Refute it at one input. -/
def admissionFirstWrong : ChangeSpec := { name := "admissionFirst", fn := fun _ => fun
  | [d1, d2, d3] => { results := [.lit (.bool false)], args := [d1, d2, d3] }
  | _ => none }
def AdmissionFirstWrongFalsely : Prop := admissionFirstRow.holds Try.pinned (OpenSpec.ofChange admissionFirstWrong)

/- THE SECOND FORM. 'bulk': how many values and letters a reading holds, each counted each time it is reached (what is shared counts as often as it is met; a slice's spare places count too). A statement '..UptoSaid' is the law's where the arguments, and the package variables that the reading takes, are together of bulk at most 1048576: NARROWER than '..Said'. Prove '..Said' where nothing that the law and all that it calls make is longer than what came in: it says more and counts as full. Else prove '..UptoSaid'. A law counts once. -/
mutual
def uptoBulk {H : Type} : DataW H → Nat
  | .lit (.string bytes) => bytes.length + 1
  | .lit _ => 1
  | .nil => 1
  | .ptr d => uptoBulk d + 1
  | .slice elems spare => uptoBulkAll elems + uptoBulkAll spare + 1
  | .agg parts => uptoBulkAll parts + 1
  | .iface _ d => uptoBulk d + 1
  | .map entries => uptoBulkEntries entries + 1
  | .held _ => 1
def uptoBulkAll {H : Type} : List (DataW H) → Nat
  | [] => 0
  | d :: r => uptoBulk d + uptoBulkAll r
def uptoBulkEntries {H : Type} : List (Lit × DataW H) → Nat
  | [] => 0
  | x :: r => uptoBulkEntry x + uptoBulkEntries r
def uptoBulkEntry {H : Type} : Lit × DataW H → Nat
  | (.string bytes, d) => bytes.length + uptoBulk d + 1
  | (_, d) => uptoBulk d + 1
 end
def uptoSmall : (H : Type) → List (DataW H) → Bool := fun _ ds => decide (uptoBulkAll ds ≤ 1048576)
def OpenSpec.upto (s : _root_.Go.ChangeSpec) : _root_.Go.OpenSpec := { _root_.Go.OpenSpec.ofChange s with cond := some uptoSmall }

/-- 'trustflowlaw33.AdmissionAdmits', WHERE WHAT IT READS IS OF BULK AT MOST 1048576: true; the input reads as it did. -/
def admissionAdmitsUptoRow : OpenClaim := { program := "ythcphdogfdghkaa", sum := "b74ceda2df8ca1853f87c0dce7559bd4df553f843710fd0a67cbff4d0b7d5a2c", func := "trustflow/trustflowlaw33.AdmissionAdmits", spec := "admissionAdmits", unfollowed := true, recurses := true, apart := false, narrowed := true }
def AdmissionAdmitsUptoSaid : Prop := admissionAdmitsUptoRow.holds Try.pinned (OpenSpec.upto admissionAdmitsSpec)

/-- 'trustflowlaw33.AdmissionNeeds', WHERE WHAT IT READS IS OF BULK AT MOST 1048576: true; the input reads as it did. -/
def admissionNeedsUptoRow : OpenClaim := { program := "ythcphdogfdghkaa", sum := "b74ceda2df8ca1853f87c0dce7559bd4df553f843710fd0a67cbff4d0b7d5a2c", func := "trustflow/trustflowlaw33.AdmissionNeeds", spec := "admissionNeeds", unfollowed := true, recurses := true, apart := false, narrowed := true }
def AdmissionNeedsUptoSaid : Prop := admissionNeedsUptoRow.holds Try.pinned (OpenSpec.upto admissionNeedsSpec)

/-- 'trustflowlaw33.AdmissionApplies', WHERE WHAT IT READS IS OF BULK AT MOST 1048576: true; the input reads as it did. -/
def admissionAppliesUptoRow : OpenClaim := { program := "ythcphdogfdghkaa", sum := "b74ceda2df8ca1853f87c0dce7559bd4df553f843710fd0a67cbff4d0b7d5a2c", func := "trustflow/trustflowlaw33.AdmissionApplies", spec := "admissionApplies", unfollowed := true, recurses := true, apart := false, narrowed := true }
def AdmissionAppliesUptoSaid : Prop := admissionAppliesUptoRow.holds Try.pinned (OpenSpec.upto admissionAppliesSpec)

/-- 'trustflowlaw33.AdmissionFirst', WHERE WHAT IT READS IS OF BULK AT MOST 1048576: true; the input reads as it did. -/
def admissionFirstUptoRow : OpenClaim := { program := "ythcphdogfdghkaa", sum := "b74ceda2df8ca1853f87c0dce7559bd4df553f843710fd0a67cbff4d0b7d5a2c", func := "trustflow/trustflowlaw33.AdmissionFirst", spec := "admissionFirst", unfollowed := true, recurses := true, apart := false, narrowed := true }
def AdmissionFirstUptoSaid : Prop := admissionFirstUptoRow.holds Try.pinned (OpenSpec.upto admissionFirstSpec)

end Rows
end Go.Proofs.Ythcphdogfdghkaa
