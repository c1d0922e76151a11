/- 'trustflowlaw45.AuditAgrees': the row. -/
import Derived.Test.YtlaoaleoeknhoaaGreatDoorFinAAL
import Derived.Test.YtlaoaleoeknhoaaGreatDoorFinAA1
import Derived.Test.YtlaoaleoeknhoaaGreatDoorLOne
set_option linter.unusedSimpArgs false
set_option linter.unusedVariables false
namespace Go.Proofs.YtlaoaleoeknhoaaGreatDoor.auditAgrees
open Go Go.ChangeShapes Go.WideShapes Go.ChangeAt Go.RowKit
theorem said:Rows.AuditAgreesSaid:=
 OpenClaim.holds_of_cond 3 Tryz.f3 rfl rfl rfl rfl rfl rfl rfl ⟨rfl,rfl,rfl,rfl,rfl⟩ rfl rfl rfl rfl rfl (by kernel_rfl) Tryz.func3 closed
  (of_decide_eq_true (by kernel_rfl)) (by unfold Func.isWrapper;first|(rw[if_pos (by decide+kernel)];kernel_rfl)|(rw[if_neg (by decide+kernel)];exact⟨rfl,rfl⟩))
  (λos started H enc _ F=>by rw[OpenClaim.pre_eq_preRow];exact lifted os started H enc F)
end Go.Proofs.YtlaoaleoeknhoaaGreatDoor.auditAgrees

/- AuditAgrees's card. -/
namespace Go.Proofs.YtlaoaleoeknhoaaGreatDoor.auditAgrees
open Go Go.ChangeShapes Go.WideShapes Go.ChangeAt Go.RowKit
theorem plain(f:FuncId)(fn:Func)(hf:Tryz.pinned.checked.prog.funcNamed "trustflow/trustflowlaw45.AuditAgrees" =some f)(hfn:Tryz.pinned.checked.prog.funcs[f]? =some fn):
  false=Tryz.pinned.checked.prog.looks []/\∀(j:Nat) t,fn.params[j]? =some t->Tryz.pinned.checked.prog.wantsStandIn t=false:=by
 obtain rfl:f=3:=Option.some.inj ((show Tryz.prog.funcNamed "trustflow/trustflowlaw45.AuditAgrees" =some 3 by kernel_rfl).symm.trans hf)|>.symm;obtain rfl:fn=Tryz.f3:=(Option.some.inj (Tryz.func3.symm.trans hfn)).symm;refine⟨by kernel_rfl,fun j t ht=> ?_⟩;rw[Tryz.params3]at ht
 have ht2:t=22\/t=5\/t=23:=by
  have ht3:=Array.mem_of_getElem? ht;simp at ht3;exact ht3
 rcases ht2 with rfl|rfl|rfl
 .exact(show Tryz.prog.wantsStandIn 22=false by kernel_rfl)
 .exact(show Tryz.prog.wantsStandIn 5=false by kernel_rfl)
 .exact(show Tryz.prog.wantsStandIn 23=false by kernel_rfl)
theorem proved:Rows.AuditAgreesCardSaid:=
 Claim7.holds_tied_plain_at .later [] _ _ _ _ said (λ_ h=>by cases h) (by kernel_rfl) (λ_ h=>by cases h) auditAgrees_row_tie rfl ⟨rfl,rfl⟩ (by kernel_rfl) rfl plain (Am.a6x _ (by kernel_rfl) _)
#print axioms proved
end Go.Proofs.YtlaoaleoeknhoaaGreatDoor.auditAgrees
