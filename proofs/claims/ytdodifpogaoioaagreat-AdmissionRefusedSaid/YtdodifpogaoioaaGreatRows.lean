/-
  No cell of these rows narrows 'for every input' (looked for: loops, veiled, ifaces, maps, wideKeys, modest, calm, conditions, laid).
  DERIVED. THE GIVEN ROWS OF THIS SEAT. 6 by the template 'for every input the law returns true; each argument reads behind the call as it read before'; 0 by the template 'total and deterministic' (their statements: YtdodifpogaoioaaGreatTotals.lean).
  GIVEN WITH THE SEED: the statements are not yours to turn. If you find one false, say at which input.
  Laid BY PROGRAM, IN A SANDBOX (cutbox-rows.mjs): the forced cells as the released guide's own fill.sh prints them over the translation b806cf39cd6cd817… (all of the seat's roots in one cut). By AI agents, Wed Nov 11 2026. No macro, syntax, notation, axiom, sorry.
-/
import Derived.Test.YtdodifpogaoioaaGreatChecked
import GoSem.Claim
import GoSem.ClaimJoined
import GoSem.ClaimMapViews
import Derived.JoinedTies
import Derived.KernelRfl
namespace Go.Proofs.YtdodifpogaoioaaGreat
/- THE CELL 'sum', in the pinned program and in every row, IS THE sha256 OF THE DUMP (.gsa) THAT YtdodifpogaoioaaGreatProg.lean LOADS. Nothing in Lean hashes anything: it is a label: what it is worth is what the hold of that sum in a sandbox is worth. -/
noncomputable def Tryz.pinned : Pinned := { name := "ytdodifpogaoioaagreat", sum := "b806cf39cd6cd8170dedf62f04a1aaad95638fd835bf73699501c188c78cf29b", checked := Tryz.checked }
namespace Rows
def none {H : Type} : Left H := { results := [], args := [] }

/-- 'trustflowlaw32.AppealMade': WHATEVER THE INPUT: true; the input reads as it did. -/
def appealMadeSpec : ChangeSpec := { name := "appealMade", fn := fun _ => fun
  | [d1, d2, d3] => { results := [.lit (.bool true)], args := [d1, d2, d3] }
  | _ => none }
def appealMadeRow : OpenClaim := { program := "ytdodifpogaoioaagreat", sum := "b806cf39cd6cd8170dedf62f04a1aaad95638fd835bf73699501c188c78cf29b", func := "trustflow/trustflowlaw32.AppealMade", spec := "appealMade", unfollowed := true, recurses := true, apart := false }
def AppealMadeSaid : Prop := appealMadeRow.holds Tryz.pinned (OpenSpec.ofChange appealMadeSpec)

/-- ITS FALSE NEIGHBOUR: 'it returns false'. Refute it at one input. -/
def appealMadeWrong : ChangeSpec := { name := "appealMade", fn := fun _ => fun
  | [d1, d2, d3] => { results := [.lit (.bool false)], args := [d1, d2, d3] }
  | _ => none }
def AppealMadeWrongFalsely : Prop := appealMadeRow.holds Tryz.pinned (OpenSpec.ofChange appealMadeWrong)

/-- 'trustflowlaw32.AppealOnly': WHATEVER THE INPUT: true; the input reads as it did. -/
def appealOnlySpec : ChangeSpec := { name := "appealOnly", fn := fun _ => fun
  | [d1, d2, d3] => { results := [.lit (.bool true)], args := [d1, d2, d3] }
  | _ => none }
def appealOnlyRow : OpenClaim := { program := "ytdodifpogaoioaagreat", sum := "b806cf39cd6cd8170dedf62f04a1aaad95638fd835bf73699501c188c78cf29b", func := "trustflow/trustflowlaw32.AppealOnly", spec := "appealOnly", unfollowed := true, recurses := true, apart := false }
def AppealOnlySaid : Prop := appealOnlyRow.holds Tryz.pinned (OpenSpec.ofChange appealOnlySpec)

/-- ITS FALSE NEIGHBOUR: 'it returns false'. Refute it at one input. -/
def appealOnlyWrong : ChangeSpec := { name := "appealOnly", fn := fun _ => fun
  | [d1, d2, d3] => { results := [.lit (.bool false)], args := [d1, d2, d3] }
  | _ => none }
def AppealOnlyWrongFalsely : Prop := appealOnlyRow.holds Tryz.pinned (OpenSpec.ofChange appealOnlyWrong)

/-- 'trustflowlaw32.AppealNeeds': WHATEVER THE INPUT: true; the input reads as it did. -/
def appealNeedsSpec : ChangeSpec := { name := "appealNeeds", fn := fun _ => fun
  | [d1, d2] => { results := [.lit (.bool true)], args := [d1, d2] }
  | _ => none }
def appealNeedsRow : OpenClaim := { program := "ytdodifpogaoioaagreat", sum := "b806cf39cd6cd8170dedf62f04a1aaad95638fd835bf73699501c188c78cf29b", func := "trustflow/trustflowlaw32.AppealNeeds", spec := "appealNeeds", unfollowed := true, recurses := true, apart := false }
def AppealNeedsSaid : Prop := appealNeedsRow.holds Tryz.pinned (OpenSpec.ofChange appealNeedsSpec)

/-- ITS FALSE NEIGHBOUR: 'it returns false'. Refute it at one input. -/
def appealNeedsWrong : ChangeSpec := { name := "appealNeeds", fn := fun _ => fun
  | [d1, d2] => { results := [.lit (.bool false)], args := [d1, d2] }
  | _ => none }
def AppealNeedsWrongFalsely : Prop := appealNeedsRow.holds Tryz.pinned (OpenSpec.ofChange appealNeedsWrong)

/-- 'trustflowlaw32.AppealRoster': WHATEVER THE INPUT: true; the input reads as it did. -/
def appealRosterSpec : ChangeSpec := { name := "appealRoster", fn := fun _ => fun
  | [d] => { results := [.lit (.bool true)], args := [d] }
  | _ => none }
def appealRosterRow : OpenClaim := { program := "ytdodifpogaoioaagreat", sum := "b806cf39cd6cd8170dedf62f04a1aaad95638fd835bf73699501c188c78cf29b", func := "trustflow/trustflowlaw32.AppealRoster", spec := "appealRoster", unfollowed := true, recurses := true, apart := false }
def AppealRosterSaid : Prop := appealRosterRow.holds Tryz.pinned (OpenSpec.ofChange appealRosterSpec)

/-- ITS FALSE NEIGHBOUR: 'it returns false'. Refute it at one input. -/
def appealRosterWrong : ChangeSpec := { name := "appealRoster", fn := fun _ => fun
  | [d] => { results := [.lit (.bool false)], args := [d] }
  | _ => none }
def AppealRosterWrongFalsely : Prop := appealRosterRow.holds Tryz.pinned (OpenSpec.ofChange appealRosterWrong)

/-- 'trustflowlaw33.AdmissionMade': WHATEVER THE INPUT: true; the input reads as it did. -/
def admissionMadeSpec : ChangeSpec := { name := "admissionMade", fn := fun _ => fun
  | [d1, d2, d3] => { results := [.lit (.bool true)], args := [d1, d2, d3] }
  | _ => none }
def admissionMadeRow : OpenClaim := { program := "ytdodifpogaoioaagreat", sum := "b806cf39cd6cd8170dedf62f04a1aaad95638fd835bf73699501c188c78cf29b", func := "trustflow/trustflowlaw33.AdmissionMade", spec := "admissionMade", unfollowed := true, recurses := true, apart := false }
def AdmissionMadeSaid : Prop := admissionMadeRow.holds Tryz.pinned (OpenSpec.ofChange admissionMadeSpec)

/-- ITS FALSE NEIGHBOUR: 'it returns false'. Refute it at one input. -/
def admissionMadeWrong : ChangeSpec := { name := "admissionMade", fn := fun _ => fun
  | [d1, d2, d3] => { results := [.lit (.bool false)], args := [d1, d2, d3] }
  | _ => none }
def AdmissionMadeWrongFalsely : Prop := admissionMadeRow.holds Tryz.pinned (OpenSpec.ofChange admissionMadeWrong)

/-- 'trustflowlaw33.AdmissionRefused': WHATEVER THE INPUT: true; the input reads as it did. -/
def admissionRefusedSpec : ChangeSpec := { name := "admissionRefused", fn := fun _ => fun
  | [d1, d2, d3] => { results := [.lit (.bool true)], args := [d1, d2, d3] }
  | _ => none }
def admissionRefusedRow : OpenClaim := { program := "ytdodifpogaoioaagreat", sum := "b806cf39cd6cd8170dedf62f04a1aaad95638fd835bf73699501c188c78cf29b", func := "trustflow/trustflowlaw33.AdmissionRefused", spec := "admissionRefused", unfollowed := true, recurses := true, apart := false }
def AdmissionRefusedSaid : Prop := admissionRefusedRow.holds Tryz.pinned (OpenSpec.ofChange admissionRefusedSpec)

/-- ITS FALSE NEIGHBOUR: 'it returns false'. Refute it at one input. -/
def admissionRefusedWrong : ChangeSpec := { name := "admissionRefused", fn := fun _ => fun
  | [d1, d2, d3] => { results := [.lit (.bool false)], args := [d1, d2, d3] }
  | _ => none }
def AdmissionRefusedWrongFalsely : Prop := admissionRefusedRow.holds Tryz.pinned (OpenSpec.ofChange admissionRefusedWrong)

/- THE SECOND FORM. 'bulk': how many values and letters a reading holds, each counted each time it is reached (what is shared counts as often as it is met; a slice's spare places count too). A statement '..UptoSaid' is the law's where the arguments, and the package variables that the reading takes, are together of bulk at most 1048576: NARROWER than '..Said'. Prove '..Said' where nothing that the law and all that it calls make is longer than what came in: it says more and counts as full. Else prove '..UptoSaid'. A law counts once. -/
mutual
def uptoBulk {H : Type} : DataW H → Nat
  | .lit (.string bytes) => bytes.length + 1
  | .lit _ => 1
  | .nil => 1
  | .ptr d => uptoBulk d + 1
  | .slice elems spare => uptoBulkAll elems + uptoBulkAll spare + 1
  | .agg parts => uptoBulkAll parts + 1
  | .iface _ d => uptoBulk d + 1
  | .map entries => uptoBulkEntries entries + 1
  | .held _ => 1
def uptoBulkAll {H : Type} : List (DataW H) → Nat
  | [] => 0
  | d :: r => uptoBulk d + uptoBulkAll r
def uptoBulkEntries {H : Type} : List (Lit × DataW H) → Nat
  | [] => 0
  | x :: r => uptoBulkEntry x + uptoBulkEntries r
def uptoBulkEntry {H : Type} : Lit × DataW H → Nat
  | (.string bytes, d) => bytes.length + uptoBulk d + 1
  | (_, d) => uptoBulk d + 1
 end
def uptoSmall : (H : Type) → List (DataW H) → Bool := fun _ ds => decide (uptoBulkAll ds ≤ 1048576)
def OpenSpec.upto (s : _root_.Go.ChangeSpec) : _root_.Go.OpenSpec := { _root_.Go.OpenSpec.ofChange s with cond := some uptoSmall }

/-- 'trustflowlaw32.AppealMade', WHERE WHAT IT READS IS OF BULK AT MOST 1048576: true; the input reads as it did. -/
def appealMadeUptoRow : OpenClaim := { program := "ytdodifpogaoioaagreat", sum := "b806cf39cd6cd8170dedf62f04a1aaad95638fd835bf73699501c188c78cf29b", func := "trustflow/trustflowlaw32.AppealMade", spec := "appealMade", unfollowed := true, recurses := true, apart := false, narrowed := true }
def AppealMadeUptoSaid : Prop := appealMadeUptoRow.holds Tryz.pinned (OpenSpec.upto appealMadeSpec)

/-- 'trustflowlaw32.AppealOnly', WHERE WHAT IT READS IS OF BULK AT MOST 1048576: true; the input reads as it did. -/
def appealOnlyUptoRow : OpenClaim := { program := "ytdodifpogaoioaagreat", sum := "b806cf39cd6cd8170dedf62f04a1aaad95638fd835bf73699501c188c78cf29b", func := "trustflow/trustflowlaw32.AppealOnly", spec := "appealOnly", unfollowed := true, recurses := true, apart := false, narrowed := true }
def AppealOnlyUptoSaid : Prop := appealOnlyUptoRow.holds Tryz.pinned (OpenSpec.upto appealOnlySpec)

/-- 'trustflowlaw32.AppealNeeds', WHERE WHAT IT READS IS OF BULK AT MOST 1048576: true; the input reads as it did. -/
def appealNeedsUptoRow : OpenClaim := { program := "ytdodifpogaoioaagreat", sum := "b806cf39cd6cd8170dedf62f04a1aaad95638fd835bf73699501c188c78cf29b", func := "trustflow/trustflowlaw32.AppealNeeds", spec := "appealNeeds", unfollowed := true, recurses := true, apart := false, narrowed := true }
def AppealNeedsUptoSaid : Prop := appealNeedsUptoRow.holds Tryz.pinned (OpenSpec.upto appealNeedsSpec)

/-- 'trustflowlaw32.AppealRoster', WHERE WHAT IT READS IS OF BULK AT MOST 1048576: true; the input reads as it did. -/
def appealRosterUptoRow : OpenClaim := { program := "ytdodifpogaoioaagreat", sum := "b806cf39cd6cd8170dedf62f04a1aaad95638fd835bf73699501c188c78cf29b", func := "trustflow/trustflowlaw32.AppealRoster", spec := "appealRoster", unfollowed := true, recurses := true, apart := false, narrowed := true }
def AppealRosterUptoSaid : Prop := appealRosterUptoRow.holds Tryz.pinned (OpenSpec.upto appealRosterSpec)

/-- 'trustflowlaw33.AdmissionMade', WHERE WHAT IT READS IS OF BULK AT MOST 1048576: true; the input reads as it did. -/
def admissionMadeUptoRow : OpenClaim := { program := "ytdodifpogaoioaagreat", sum := "b806cf39cd6cd8170dedf62f04a1aaad95638fd835bf73699501c188c78cf29b", func := "trustflow/trustflowlaw33.AdmissionMade", spec := "admissionMade", unfollowed := true, recurses := true, apart := false, narrowed := true }
def AdmissionMadeUptoSaid : Prop := admissionMadeUptoRow.holds Tryz.pinned (OpenSpec.upto admissionMadeSpec)

/-- 'trustflowlaw33.AdmissionRefused', WHERE WHAT IT READS IS OF BULK AT MOST 1048576: true; the input reads as it did. -/
def admissionRefusedUptoRow : OpenClaim := { program := "ytdodifpogaoioaagreat", sum := "b806cf39cd6cd8170dedf62f04a1aaad95638fd835bf73699501c188c78cf29b", func := "trustflow/trustflowlaw33.AdmissionRefused", spec := "admissionRefused", unfollowed := true, recurses := true, apart := false, narrowed := true }
def AdmissionRefusedUptoSaid : Prop := admissionRefusedUptoRow.holds Tryz.pinned (OpenSpec.upto admissionRefusedSpec)

end Rows
end Go.Proofs.YtdodifpogaoioaaGreat
