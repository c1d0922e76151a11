/- GOne. -/
import Derived.Test.YtdodifpogaoioaaGreatDSix
import Derived.Test.YtdodifpogaoioaaGreatZOne
import Derived.Test.YtdodifpogaoioaaGreatEOne
set_option linter.unusedSimpArgs false
set_option linter.unusedVariables false
namespace Go.Proofs.Am
open Go Go.RowKit
open Go.Proofs
end Go.Proofs.Am

/- What is decided: plain laws. -/
namespace Go.Proofs.Am
open Go Go.RowKit
open Go.Proofs
def enoB (v s : Nat) : Bool := decide (1 ≤ s ∧ s ≤ 9 ∧ v ≤ s ∧ 3 * s < 4 * v)
def allV (seats : List Int) (v : List Vt) : List Ct := ((cnR seats v).filter fun n => enoB n.ks.length seats.length).map Cn.x
theorem mem_allV {seats : List Int} {v : List Vt} {x : Ct} : x ∈ allV seats v ↔ ∃ n ∈ cnR seats v, n.x = x ∧ enoB n.ks.length seats.length = true := by
 simp only [allV, List.mem_map, List.mem_filter]
 constructor
 ·rintro ⟨n, ⟨h1, h2⟩, h3⟩; exact ⟨n, h1, h3, h2⟩
 ·rintro ⟨n, h1, h3, h2⟩; exact ⟨n, ⟨h1, h2⟩, h3⟩
theorem ks_nodup {seats : List Int} {v : List Vt} {n : Cn} (h : n ∈ cnR seats v) : n.ks.Nodup := ((cnR_spec seats v).r2 n h).imp fun h => by omega
theorem ks_vote {seats : List Int} {v : List Vt} {n : Cn} (h : n ∈ cnR seats v) {k : Int} (hk : k ∈ n.ks) : k ∈ seats ∧ ∃ y ∈ v, y.x = n.x ∧ y.k = k := Rvote_mem.1 (((cnR_spec seats v).r3 n.x k).1 ⟨n, h, rfl, hk⟩)
theorem ks_len {seats : List Int} {v : List Vt} {n : Cn} (h : n ∈ cnR seats v) : n.ks.length ≤ seats.length := len_sub (ks_nodup h) fun _ hk => (ks_vote h hk).1
end Go.Proofs.Am

/- Certificates: plain laws. -/
namespace Go.Proofs.Am
open Go Go.RowKit
open Go.Proofs
end Go.Proofs.Am

/- Which certificates are right: plain laws. -/
namespace Go.Proofs.Am
open Go Go.RowKit
open Go.Proofs
structure ChkP (c : Cs) (l : List Stm) (seats : List Int) (x : Ct) : Prop where
 ok : ∀ s ∈ l, okV c s = true ∧ s.au ∈ seats ∧ (voteE s).1.x = x
 up : l.Pairwise fun a b => a.au < b.au
 en : enoB l.length seats.length = true
end Go.Proofs.Am

/- Statements of others; certificates of a minority of liars. -/
namespace Go.Proofs.Am
open Go Go.RowKit
open Go.Proofs
end Go.Proofs.Am
