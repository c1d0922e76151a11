/- 'trustflowlaw45.AuditBounds': true; the input reads as it did. -/
import Derived.Test.YtloaichcpoboeaaGreatDoorFinOne
import Derived.Test.YtloaichcpoboeaaGreatDoorGXTwo
import Derived.Test.YtloaichcpoboeaaGreatDoorCards
import Derived.Test.YtloaichcpoboeaaGreatDoorTie
import Derived.ShutString
import Derived.ChangeOld
set_option linter.unusedSimpArgs false
set_option linter.unusedVariables false
namespace Go.Proofs.YtloaichcpoboeaaGreatDoor.auditBounds
open Go Go.ChangeShapes Go.WideShapes Go.ChangeAt Go.RowKit
theorem own:ownKnob Tryz.prog.godebug=none:=by kernel_rfl
theorem laidOut:laidOutB Tryz.prog=true:=by kernel_rfl
theorem walk(W:World)(hL:Am.Laid Tryz.prog W)(v0:Value)(v1:Value)(s0:List Int)(s1:Int)(r0:Am.RP (fun a x=>W.cell? a=some x/\True) v0 (.vs (s0.map Am.i1)))(r1:Am.RP (fun a x=>W.cell? a=some x/\True) v1 (.int .u8 s1))(hu1:0<=s1/\s1<256):
  Calls Tryz.prog 4 #[v0,v1] W fun e w'=>e= .returned (.bool true)/\Below W.heap.size W w':=by
 refine(Am.qy (Am.y9 s0 s1 hu1) W hL (fun _=>True) [v0,v1] rfl fun i v u hi hu=> ?_).mono fun e w'=> ?_
 ·match i,hi,hu with
  |0,hi,hu=>simp only[List.getElem?_cons_zero,List.getElem?_cons_succ,Option.some.injEq]at hi hu;subst hi hu;exact r0
  |1,hi,hu=>simp only[List.getElem?_cons_zero,List.getElem?_cons_succ,Option.some.injEq]at hi hu;subst hi hu;exact r1
  |i+2,hi,hu=>simp at hi
 ·rintro⟨v,rfl,hg,E,hR,_⟩;rw[hR.bool_inv];exact⟨rfl,(Below.refl _ W).grown hg (Nat.le_refl _) fun k hk=>by cases hk⟩
theorem opens_ints{H:Type}{enc:TypeId×Value->H}{w:World}{base:Nat}{sp:Nat->Bool}{held:Bool}:Am.a3p enc Tryz.prog w base sp held 22 1 (fun l:List Int=>[.vs (l.map Am.i1)]) (fun l=>1+(l.map fun _=>1).sum) (fun l=> ∀y∈l,Am.inR y):=
 Am.am1 Tryz.underlying22 (by kernel_rfl) (Am.ay3 Tryz.underlying3)
theorem u8w_lt{n:Int}(h:(Lit.int .u8 n).wf=true):0<=n/\n<256:=by
 obtain⟨h1,h2⟩:=Bool.and_eq_true_iff.1 h;have a1:=of_decide_eq_true h1;have a2:=of_decide_eq_true h2;rw[show IntKind.u8.min=0 from rfl]at a1;rw[show IntKind.u8.max=255 from rfl]at a2;omega
theorem reads(os:Os){H:Type}(enc:TypeId×Value->H): ∃places,DataW.whole enc Tryz.prog ((Am.fg os).forCall (fun _ _=>0) ⟨#[], #[.slice none 0 0,.int .u8 0],[]⟩).memory Tryz.f4.params.toList Rows.auditBoundsSpec.vars false #[Value.slice none 0 0,Value.int .u8 0].toList 8=some ([.nil,.lit (.int .u8 0)],[],places):=
 ⟨[],by kernel_rfl⟩
set_option maxRecDepth 100000 in
theorem lifted(os:Os)(started:os.Started)(H:Type)(enc:TypeId×Value->H)(F:Stop.Interp):
  ReturnsInHanded {} Tryz.checked os 4 .any ((OpenSpec.ofChange Rows.auditBoundsSpec).preRow enc Tryz.prog Tryz.f4 Rows.auditBoundsRow.domain false Rows.auditBoundsRow.laid) (((OpenSpec.ofChange Rows.auditBoundsSpec).at F).post enc Tryz.prog Tryz.f4 false true false false):=by
 obtain⟨places,hx⟩:=reads os enc
 refine returnsInHanded_of_row (C:=Tryz.checked) (s:=OpenSpec.ofChange Rows.auditBoundsSpec) own started (by kernel_rfl) Tryz.func4
  (witness_row_atRef (enc:=enc) (C:=Tryz.checked) false (Am.fg os) #[.slice none 0 0,.int .u8 0] rfl (by kernel_rfl) (by kernel_rfl) (by kernel_rfl)
   (OpenSpec.preRow_of_cond 8 hx (by kernel_rfl) (fun k hk=>by cases hk) (by kernel_rfl) (Am.a5d os _))) ?_
 intro W base args ds gs before hval0 hW hcnd0 hcond hsz hL _ _;have hval: ∀(j:Nat) t v,Tryz.f4.params[j]? =some t->args[j]? =some v->Value.okWide Tryz.prog W .any base t v:=hval0;have hW':=hW;obtain⟨p,q,hA0,hV,rfl,hfz,hnd⟩:=hW;have hA:DataW.TrodAll enc Tryz.prog W 0 (fun _=>true) true Tryz.f4.params.toList args.toList ds p:=hA0;rw[Tryz.params4]at hA hval;obtain⟨v0,vs0,d0,ds0,p0,q0,hargs,rfl,rfl,h0,r0⟩:=trodAll_cons hA;obtain⟨v1,vs1,d1,ds1,p1,q1,rfl,rfl,rfl,h1,r1⟩:=trodAll_cons r0;obtain⟨rfl,rfl,rfl⟩:=trodAll_nil r1;obtain rfl:args= #[v0,v1]:=by cases args;simp_all
 obtain⟨rfl,rfl⟩:=trodVars_none hV;have k0:=h0;have lt0: ∀x∈p0,x.block<W.heap.size:=by obtain⟨m,hm⟩:=k0;exact DataW.trod_lt m _ _ _ hm
 have k1:=h1;have lt1: ∀x∈p1,x.block<W.heap.size:=by obtain⟨m,hm⟩:=k1;exact DataW.trod_lt m _ _ _ hm
 obtain⟨a0,l0,c0,rfl⟩:=okWide_slice Tryz.underlying22 (hval 0 22 v0 rfl rfl);obtain⟨z1,rfl,_,_,hu1⟩:=open_int Tryz.underlying5 (hval 1 5 v1 rfl rfl) k1;obtain⟨m0,hm0⟩:=h0;obtain⟨y0,g0,b0,_,_,t0⟩:=opens_ints _ _ _ hm0;obtain⟨cv0,e0,q0⟩:=t0 0 _ rfl;simp only[Value.cells,List.getElem?_cons_zero,Option.some.injEq]at e0;subst e0;clear hA0 hval0;refine(walk W (Am.ben hL) _ _ y0 z1 q0 (.int _ _) (u8w_lt hu1)).mono fun e W' ⟨he,bel⟩=> ?_;subst he;exact⟨_,rfl,_,_,_,[],_,[],hW',trodAll_mk1 (shut_bool Tryz.underlying4 _),(trodAll_cons_mk (Below.trod laidOut (by kernel_rfl) (of_decide_eq_true (by kernel_rfl)) k0 bel lt0) (trodAll_cons_mk (Below.trod laidOut (by kernel_rfl) (of_decide_eq_true (by kernel_rfl)) k1 bel lt1) trodAll_mk0)),rfl,bel.frame _,fun h=>by cases h⟩
end Go.Proofs.YtloaichcpoboeaaGreatDoor.auditBounds
