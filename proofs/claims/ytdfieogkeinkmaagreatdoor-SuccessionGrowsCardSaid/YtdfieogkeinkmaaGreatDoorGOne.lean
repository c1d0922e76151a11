/- The order of statements in a certificate. -/
import Derived.Test.YtdfieogkeinkmaaGreatDoorDSix
import Derived.Test.YtdfieogkeinkmaaGreatDoorDSeven
import Derived.Test.YtdfieogkeinkmaaGreatDoorZOne
import Derived.Test.YtdfieogkeinkmaaGreatDoorEFour
set_option linter.unusedSimpArgs false
set_option linter.unusedVariables false
namespace Go.Proofs.Am
open Go Go.RowKit
open Go.Proofs

/-- The order of statements in a certificate: by author, number, digest. -/
def cmpS (a b : Stm) : Int := or2 (cmpI a.au b.au) (or2 (cmpI a.nu b.nu) (Lib.compareBytes a.sd b.sd))
def ltS (a b : Stm) : Bool := decide (cmpS a b < 0)
end Go.Proofs.Am

/- What is decided: plain laws. -/
namespace Go.Proofs.Am
open Go Go.RowKit
open Go.Proofs

/-- Votes that are more than three quarters of the seats. -/
def enoB (v s : Nat) : Bool := decide (1 ≤ s ∧ s ≤ 9 ∧ v ≤ s ∧ 3 * s < 4 * v)
/-- The contents with enough votes. -/
def allV (seats : List Int) (v : List Vt) : List Ct := ((cnR seats v).filter fun n => enoB n.ks.length seats.length).map Cn.x
/-- The seats that vote for two contents. -/
def lieV (seats : List Int) (v : List Vt) : List Int := (twR v).filter fun k => decide (k ∈ seats)
theorem mem_allV {seats : List Int} {v : List Vt} {x : Ct} : x ∈ allV seats v ↔ ∃ n ∈ cnR seats v, n.x = x ∧ enoB n.ks.length seats.length = true := by
  simp only [allV, List.mem_map, List.mem_filter]
  constructor
  · rintro ⟨n, ⟨h1, h2⟩, h3⟩; exact ⟨n, h1, h3, h2⟩
  · rintro ⟨n, h1, h3, h2⟩; exact ⟨n, ⟨h1, h2⟩, h3⟩
theorem ks_nodup {seats : List Int} {v : List Vt} {n : Cn} (h : n ∈ cnR seats v) : n.ks.Nodup := ((cnR_spec seats v).r2 n h).imp fun h => by omega
theorem ks_vote {seats : List Int} {v : List Vt} {n : Cn} (h : n ∈ cnR seats v) {k : Int} (hk : k ∈ n.ks) : k ∈ seats ∧ ∃ y ∈ v, y.x = n.x ∧ y.k = k := Rvote_mem.1 (((cnR_spec seats v).r3 n.x k).1 ⟨n, h, rfl, hk⟩)
theorem ks_len {seats : List Int} {v : List Vt} {n : Cn} (h : n ∈ cnR seats v) : n.ks.length ≤ seats.length := len_sub (ks_nodup h) fun _ hk => (ks_vote h hk).1
theorem enoB_mono {a b s : Nat} (h : enoB a s = true) (hab : a ≤ b) (hb : b ≤ s) : enoB b s = true := by
  simp only [enoB, decide_eq_true_eq] at h ⊢
  omega
/-- With more votes nothing that has enough loses them. -/
theorem allV_grow {seats : List Int} {a b : List Vt} (h : ∀ y ∈ a, y ∈ b) {x : Ct} (hx : x ∈ allV seats a) : x ∈ allV seats b := by
  obtain ⟨n, hn, rfl, he⟩ := mem_allV.1 hx
  obtain ⟨⟨m, hm, hmx⟩, hlen⟩ := cnR_grow (seats := seats) h n hn
  exact mem_allV.2 ⟨m, hm, hmx, enoB_mono he (hlen m hm hmx) (ks_len hm)⟩
end Go.Proofs.Am

/- Certificates: plain laws. -/
namespace Go.Proofs.Am
open Go Go.RowKit
open Go.Proofs

/-- A statement that is a vote of a seat for a content. -/
def forX (c : Cs) (x : Ct) (seats : List Int) (s : Stm) : Bool := okV c s && decide ((voteE s).1.x = x) && decide (s.au ∈ seats)
/-- The certificate: of each seat the first of its votes in their order. -/
def certL (l : List Stm) (c : Cs) (x : Ct) (seats : List Int) : List Stm := kpf Stm.au (insL ltS (l.filter (forX c x seats)))
/-- The document's: of each key the least. -/
def lessN (a b : Stm) : Bool := decide (a.nu < b.nu ∨ a.nu = b.nu ∧ Lib.compareBytes a.sd b.sd < 0)
def forK (c : Cs) (x : Ct) (k : Int) (s : Stm) : Bool := okV c s && decide (s.au = k) && decide ((voteE s).1.x = x)
def leastL (l : List Stm) (k : Int) (c : Cs) (x : Ct) : Option Stm := fstL lessN (l.filter (forK c x k))
def certR (l : List Stm) (c : Cs) (x : Ct) (seats : List Int) : List Stm := (List.range 64).filterMap fun (k : Nat) => if (k : Int) ∈ seats then leastL l k c x else none
end Go.Proofs.Am

/- Which certificates are right: plain laws. -/
namespace Go.Proofs.Am
open Go Go.RowKit
open Go.Proofs

/-- A right certificate for a content. -/
structure ChkP (c : Cs) (l : List Stm) (seats : List Int) (x : Ct) : Prop where
  ok : ∀ s ∈ l, okV c s = true ∧ s.au ∈ seats ∧ (voteE s).1.x = x
  up : l.Pairwise fun a b => a.au < b.au
  en : enoB l.length seats.length = true
end Go.Proofs.Am

/- Statements of others; certificates of a minority of liars. -/
namespace Go.Proofs.Am
open Go Go.RowKit
open Go.Proofs

end Go.Proofs.Am
