/- 'trustflowlaw45.AuditAgrees': true; the input reads as it did. -/
import Derived.Test.YtlaoaleoeknhoaaGreatDoorLOne
import Derived.Test.YtlaoaleoeknhoaaGreatDoorHB21
import Derived.Test.YtlaoaleoeknhoaaGreatDoorVTwo
import Derived.Test.YtlaoaleoeknhoaaGreatDoorCards
import Derived.Test.YtlaoaleoeknhoaaGreatDoorTie
import Derived.ShutString
import Derived.ChangeOld
set_option linter.unusedSimpArgs false
set_option linter.unusedVariables false
namespace Go.Proofs.YtlaoaleoeknhoaaGreatDoor.auditAgrees
open Go Go.ChangeShapes Go.WideShapes Go.ChangeAt Go.RowKit
theorem own:ownKnob Tryz.prog.godebug=none:=by kernel_rfl
theorem laidOut:laidOutB Tryz.prog=true:=by kernel_rfl
theorem walk(W:World)(hL:Am.Laid Tryz.prog W)(v0:Value)(v1:Value)(v2:Value)(s0:List Int)(s1:Int)(s2:List Am.Tm)(r0:Am.RP (λa x=>W.cell? a=some x/\True) v0 (.vs (s0.map Am.i1)))(r1:Am.RP (λa x=>W.cell? a=some x/\True) v1 (.int .u8 s1))(r2:Am.RP (λa x=>W.cell? a=some x/\True) v2 (.vs (s2.map Am.tm)))(hb2:Am.big s2.length)(hs2: ∀x∈s2,Am.zb x)(hu1:0<=s1/\s1<256):
  Calls Tryz.prog 3 #[v0,v1,v2] W λe w'=>e= .returned (.bool true)/\Below W.heap.size W w':=by
 refine(Am.vq (Am.anz s0 s1 s2 hb2 hs2 hu1) W hL (λ_=>True) [v0,v1,v2] rfl λi v u hi hu=> ?_).mono λe w'=> ?_
 .match i,hi,hu with
  |0,hi,hu=>simp only[List.getElem?_cons_zero,List.getElem?_cons_succ,Option.some.injEq]at hi hu;subst hi hu;exact r0
  |1,hi,hu=>simp only[List.getElem?_cons_zero,List.getElem?_cons_succ,Option.some.injEq]at hi hu;subst hi hu;exact r1
  |2,hi,hu=>simp only[List.getElem?_cons_zero,List.getElem?_cons_succ,Option.some.injEq]at hi hu;subst hi hu;exact r2
  |i+3,hi,hu=>simp at hi
 .rintro⟨v,rfl,hg,E,hR,_⟩;rw[hR.bool_inv];exact⟨rfl,(Below.refl _ W).grown hg (Nat.le_refl _) λk hk=>by cases hk⟩
theorem opens_ints{H:Type}{enc:TypeId×Value->H}{w:World}{base:Nat}{sp:Nat->Bool}{held:Bool}:Am.Opens enc Tryz.prog w base sp held 22 1 (λl:List Int=>[.vs (l.map Am.i1)]) (λl=>1+(l.map λ_=>1).sum) (λl=> ∀y∈l,Am.inR y):=
 Am.ard Tryz.underlying22 (by kernel_rfl) (Am.ov Tryz.underlying3)
theorem u8w_lt{n:Int}(h:(Lit.int .u8 n).wf=true):0<=n/\n<256:=by
 obtain⟨h1,h2⟩:=Bool.and_eq_true_iff.1 h;have a1:=of_decide_eq_true h1;have a2:=of_decide_eq_true h2;rw[show IntKind.u8.min=0 from rfl]at a1;rw[show IntKind.u8.max=255 from rfl]at a2;omega
theorem opens_terms{H:Type}{enc:TypeId×Value->H}{w:World}{base:Nat}{sp:Nat->Bool}{held:Bool}:Am.OpensB enc Tryz.prog w base sp held 23 1 (λl:List Am.Tm=>[.vs (l.map Am.tm)]) (λl=>(∀y∈l,Am.zb y)/\l.length<=140737488351232):=
 Am.np Tryz.underlying23 (by kernel_rfl) (of_decide_eq_true (by kernel_rfl)) (Am.a3m Tryz.underlying46 Tryz.underlying3
  ((Am.np Tryz.underlying22 (by kernel_rfl) (of_decide_eq_true (by kernel_rfl)) (Am.ov Tryz.underlying3).b).weak λl h=>by have:=h.2;simp only[Am.big];omega)
  Tryz.underlying9 Tryz.underlying4
  (Am.a0w Tryz.underlying44
   ((Am.np Tryz.underlying22 (by kernel_rfl) (of_decide_eq_true (by kernel_rfl)) (Am.ov Tryz.underlying3).b).weak λl h=>by have:=h.2;simp only[Am.big];omega)
   ((Am.np Tryz.underlying42 (by kernel_rfl) (of_decide_eq_true (by kernel_rfl)) (Am.a1r Tryz.underlying114 Tryz.underlying3 Tryz.underlying3 Tryz.underlying9 rfl rfl rfl).b).weak λl h=>by have:=h.2;simp only[Am.big];omega) rfl rfl)
  rfl rfl rfl rfl rfl)
theorem reads(os:Os){H:Type}(enc:TypeId×Value->H): ∃places,DataW.whole enc Tryz.prog ((Am.i8 os).forCall (λ_ _=>0) ⟨#[], #[.slice none 0 0,.int .u8 0,.slice none 0 0],[]⟩).memory Tryz.f3.params.toList Rows.auditAgreesSpec.vars false #[Value.slice none 0 0,Value.int .u8 0,Value.slice none 0 0].toList 8=some ([.nil,.lit (.int .u8 0),.nil],[],places):=
 ⟨[],by kernel_rfl⟩
set_option maxRecDepth 100000 in
theorem lifted(os:Os)(started:os.Started)(H:Type)(enc:TypeId×Value->H)(F:Stop.Interp):
  ReturnsInHanded {} Tryz.checked os 3 .any ((OpenSpec.ofChange Rows.auditAgreesSpec).preRow enc Tryz.prog Tryz.f3 Rows.auditAgreesRow.domain false Rows.auditAgreesRow.laid) (((OpenSpec.ofChange Rows.auditAgreesSpec).at F).post enc Tryz.prog Tryz.f3 false true false false):=by
 obtain⟨places,hx⟩:=reads os enc
 refine returnsInHanded_of_row (C:=Tryz.checked) (s:=OpenSpec.ofChange Rows.auditAgreesSpec) own started (by kernel_rfl) Tryz.func3
  (witness_row_atRef (enc:=enc) (C:=Tryz.checked) false (Am.i8 os) #[.slice none 0 0,.int .u8 0,.slice none 0 0] rfl (by kernel_rfl) (by kernel_rfl) (by kernel_rfl)
   (OpenSpec.preRow_of_cond 8 hx (by kernel_rfl) (λk hk=>by cases hk) (by kernel_rfl) (Am.bbl os _))) ?_
 intro W base args ds gs before hval0 hW hcnd0 hcond hsz hL _ _;have hval: ∀(j:Nat) t v,Tryz.f3.params[j]? =some t->args[j]? =some v->Value.okWide Tryz.prog W .any base t v:=hval0;have hW':=hW;obtain⟨p,q,hA0,hV,rfl,hfz,hnd⟩:=hW;have hA:DataW.TrodAll enc Tryz.prog W 0 (λ_=>true) true Tryz.f3.params.toList args.toList ds p:=hA0;rw[Tryz.params3]at hA hval;obtain⟨v0,vs0,d0,ds0,p0,q0,hargs,rfl,rfl,h0,r0⟩:=trodAll_cons hA;obtain⟨v1,vs1,d1,ds1,p1,q1,rfl,rfl,rfl,h1,r1⟩:=trodAll_cons r0;obtain⟨v2,vs2,d2,ds2,p2,q2,rfl,rfl,rfl,h2,r2⟩:=trodAll_cons r1;obtain⟨rfl,rfl,rfl⟩:=trodAll_nil r2;obtain rfl:args= #[v0,v1,v2]:=by cases args;simp_all
 obtain⟨rfl,rfl⟩:=trodVars_none hV;have k0:=h0;have lt0: ∀x∈p0,x.block<W.heap.size:=by obtain⟨m,hm⟩:=k0;exact DataW.trod_lt m _ _ _ hm
 have k1:=h1;have lt1: ∀x∈p1,x.block<W.heap.size:=by obtain⟨m,hm⟩:=k1;exact DataW.trod_lt m _ _ _ hm
 have k2:=h2;have lt2: ∀x∈p2,x.block<W.heap.size:=by obtain⟨m,hm⟩:=k2;exact DataW.trod_lt m _ _ _ hm
 obtain⟨a0,l0,c0,rfl⟩:=okWide_slice Tryz.underlying22 (hval 0 22 v0 rfl rfl);obtain⟨z1,rfl,_,_,hu1⟩:=open_int Tryz.underlying5 (hval 1 5 v1 rfl rfl) k1;obtain⟨a2,l2,c2,rfl⟩:=okWide_slice Tryz.underlying23 (hval 2 23 v2 rfl rfl);obtain⟨m0,hm0⟩:=h0;obtain⟨y0,g0,b0,_,_,t0⟩:=opens_ints _ _ _ hm0;obtain⟨cv0,e0,q0⟩:=t0 0 _ rfl;simp only[Value.cells,List.getElem?_cons_zero,Option.some.injEq]at e0;subst e0;have hw2: ∀n∈d2.weights Tryz.prog 23,n<=140737488351232:=λn hn=>of_decide_eq_true (List.all_eq_true.1 hsz n (DataW.weights_mem_each (j:=2) (t:=23) (d:=d2) (by rw[Tryz.params3];rfl) rfl n hn));obtain⟨m2,hm2⟩:=h2;obtain⟨y2,g2,_,_,t2⟩:=opens_terms _ _ _ hm2 hw2;obtain⟨cv2,e2,q2⟩:=t2 0 _ rfl;simp only[Value.cells,List.getElem?_cons_zero,Option.some.injEq]at e2;subst e2;clear hA0 hval0;refine(walk W (Am.bi1 hL) _ _ _ y0 z1 y2 q0 (.int _ _) q2 (by have:=g2.2;simp only[Am.big];omega) g2.1 (u8w_lt hu1)).mono λe W' ⟨he,bel⟩=> ?_;subst he;exact⟨_,rfl,_,_,_,[],_,[],hW',trodAll_mk1 (shut_bool Tryz.underlying4 _),(trodAll_cons_mk (Below.trod laidOut (by kernel_rfl) (of_decide_eq_true (by kernel_rfl)) k0 bel lt0) (trodAll_cons_mk (Below.trod laidOut (by kernel_rfl) (of_decide_eq_true (by kernel_rfl)) k1 bel lt1) (trodAll_cons_mk (Below.trod laidOut (by kernel_rfl) (of_decide_eq_true (by kernel_rfl)) k2 bel lt2) trodAll_mk0))),rfl,bel.frame _,λh=>by cases h⟩
end Go.Proofs.YtlaoaleoeknhoaaGreatDoor.auditAgrees
