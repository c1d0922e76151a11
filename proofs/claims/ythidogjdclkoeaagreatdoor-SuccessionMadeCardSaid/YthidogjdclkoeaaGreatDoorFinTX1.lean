/- 'trustflowlaw29.SuccessionMade': true; the input reads as it did. -/
import Derived.Test.YthidogjdclkoeaaGreatDoorFinOne
import Derived.Test.YthidogjdclkoeaaGreatDoorZSix
import Derived.Test.YthidogjdclkoeaaGreatDoorFinR
import Derived.Test.YthidogjdclkoeaaGreatDoorCards
import Derived.Test.YthidogjdclkoeaaGreatDoorTie
import Derived.ShutString
import Derived.ChangeOld
set_option linter.unusedSimpArgs false
set_option linter.unusedVariables false
namespace Go.Proofs.YthidogjdclkoeaaGreatDoor.successionMade
open Go Go.ChangeShapes Go.WideShapes Go.ChangeAt Go.RowKit
theorem own:ownKnob Tryz.prog.godebug=none:=by kernel_rfl
theorem laidOut:laidOutB Tryz.prog=true:=by kernel_rfl
theorem walk(W:World)(hL:Am.Laid Tryz.prog W)(v0:Value)(v1:Value)(v2:Value)(s0:List Int)(s1:Am.Tm)(s2:Int)(r0:Am.RP (fun a x=>W.cell? a=some x/\True) v0 (.vs (s0.map Am.i1)))(r1:Am.RP (fun a x=>W.cell? a=some x/\True) v1 (.agg (Am.tm s1)))(r2:Am.RP (fun a x=>W.cell? a=some x/\True) v2 (.int .u8 s2))(hb1:Am.big s1.ros.length):
  Calls Tryz.prog 3 #[v0,v1,v2] W fun e w'=>e= .returned (.bool true)/\Below W.heap.size W w':=by
 refine(Am.x5 (Am.ava s0 s1 s2 hb1) W hL (fun _=>True) [v0,v1,v2] rfl fun i v u hi hu=> ?_).mono fun e w'=> ?_
 ·match i,hi,hu with
  |0,hi,hu=>simp only[List.getElem?_cons_zero,List.getElem?_cons_succ,Option.some.injEq]at hi hu;subst hi hu;exact r0
  |1,hi,hu=>simp only[List.getElem?_cons_zero,List.getElem?_cons_succ,Option.some.injEq]at hi hu;subst hi hu;exact r1
  |2,hi,hu=>simp only[List.getElem?_cons_zero,List.getElem?_cons_succ,Option.some.injEq]at hi hu;subst hi hu;exact r2
  |i+3,hi,hu=>simp at hi
 ·rintro⟨v,rfl,hg,E,hR,_⟩;rw[hR.bool_inv];exact⟨rfl,(Below.refl _ W).grown hg (Nat.le_refl _) fun k hk=>by cases hk⟩
theorem opens_ints{H:Type}{enc:TypeId×Value->H}{w:World}{base:Nat}{sp:Nat->Bool}{held:Bool}:Am.Opens enc Tryz.prog w base sp held 22 1 (fun l:List Int=>[.vs (l.map Am.i1)]) (fun l=>1+(l.map fun _=>1).sum) (fun l=> ∀y∈l,Am.inR y):=
 Am.ah3 Tryz.underlying22 (by kernel_rfl) (Am.kj Tryz.underlying3)
theorem opens_term{H:Type}{enc:TypeId×Value->H}{w:World}{base:Nat}{sp:Nat->Bool}{held:Bool}:Am.OpensB enc Tryz.prog w base sp held 27 6 Am.tm (fun y=>Am.big y.ros.length):=
 Am.av9 Tryz.underlying27 Tryz.underlying3
  ((Am.l8 Tryz.underlying22 (by kernel_rfl) (of_decide_eq_true (by kernel_rfl)) (Am.kj Tryz.underlying3).b).weak fun l h=>by have:=h.2;simp only[Am.big];omega)
  Tryz.underlying9 Tryz.underlying4
  (Am.ao5 Tryz.underlying25
   ((Am.l8 Tryz.underlying22 (by kernel_rfl) (of_decide_eq_true (by kernel_rfl)) (Am.kj Tryz.underlying3).b).weak fun l h=>by have:=h.2;simp only[Am.big];omega)
   ((Am.l8 Tryz.underlying23 (by kernel_rfl) (of_decide_eq_true (by kernel_rfl)) (Am.ap3 Tryz.underlying93 Tryz.underlying3 Tryz.underlying3 Tryz.underlying9 rfl rfl rfl).b).weak fun l h=>by have:=h.2;simp only[Am.big];omega) rfl rfl)
  rfl rfl rfl rfl rfl
theorem reads(os:Os){H:Type}(enc:TypeId×Value->H): ∃places,DataW.whole enc Tryz.prog ((Am.ff os).forCall (fun _ _=>0) ⟨#[], #[.slice none 0 0,.agg #[.int .i64 0,.slice none 0 0,.string ⟨#[]⟩,.bool false,.slice none 0 0,.slice none 0 0],.int .u8 0],[]⟩).memory Tryz.f3.params.toList Rows.successionMadeSpec.vars false #[Value.slice none 0 0,Value.agg #[.int .i64 0,.slice none 0 0,.string ⟨#[]⟩,.bool false,.slice none 0 0,.slice none 0 0],Value.int .u8 0].toList 8=some ([.nil,.agg [.lit (.int .i64 0),.nil,.lit (.string []),.lit (.bool false),.agg [.nil,.nil]],.lit (.int .u8 0)],[],places):=
 ⟨[],by kernel_rfl⟩
set_option maxRecDepth 100000 in
theorem lifted(os:Os)(started:os.Started)(H:Type)(enc:TypeId×Value->H)(F:Stop.Interp):
  ReturnsInHanded {} Tryz.checked os 3 .any ((OpenSpec.ofChange Rows.successionMadeSpec).preRow enc Tryz.prog Tryz.f3 Rows.successionMadeRow.domain false Rows.successionMadeRow.laid) (((OpenSpec.ofChange Rows.successionMadeSpec).at F).post enc Tryz.prog Tryz.f3 false true false false):=by
 obtain⟨places,hx⟩:=reads os enc
 refine returnsInHanded_of_row (C:=Tryz.checked) (s:=OpenSpec.ofChange Rows.successionMadeSpec) own started (by kernel_rfl) Tryz.func3
  (witness_row_atRef (enc:=enc) (C:=Tryz.checked) false (Am.ff os) #[.slice none 0 0,.agg #[.int .i64 0,.slice none 0 0,.string ⟨#[]⟩,.bool false,.slice none 0 0,.slice none 0 0],.int .u8 0] rfl (by kernel_rfl) (by kernel_rfl) (by kernel_rfl)
   (OpenSpec.preRow_of_cond 8 hx (by kernel_rfl) (fun k hk=>by cases hk) (by kernel_rfl) (Am.ax5 os _))) ?_
 intro W base args ds gs before hval0 hW hcnd0 hcond hsz hL _ _;have hval: ∀(j:Nat) t v,Tryz.f3.params[j]? =some t->args[j]? =some v->Value.okWide Tryz.prog W .any base t v:=hval0;have hW':=hW;obtain⟨p,q,hA0,hV,rfl,hfz,hnd⟩:=hW;have hA:DataW.TrodAll enc Tryz.prog W 0 (fun _=>true) true Tryz.f3.params.toList args.toList ds p:=hA0;rw[Tryz.params3]at hA hval;obtain⟨v0,vs0,d0,ds0,p0,q0,hargs,rfl,rfl,h0,r0⟩:=trodAll_cons hA;obtain⟨v1,vs1,d1,ds1,p1,q1,rfl,rfl,rfl,h1,r1⟩:=trodAll_cons r0;obtain⟨v2,vs2,d2,ds2,p2,q2,rfl,rfl,rfl,h2,r2⟩:=trodAll_cons r1;obtain⟨rfl,rfl,rfl⟩:=trodAll_nil r2;obtain rfl:args= #[v0,v1,v2]:=by cases args;simp_all
 obtain⟨rfl,rfl⟩:=trodVars_none hV;have k0:=h0;have lt0: ∀x∈p0,x.block<W.heap.size:=by obtain⟨m,hm⟩:=k0;exact DataW.trod_lt m _ _ _ hm
 have k1:=h1;have lt1: ∀x∈p1,x.block<W.heap.size:=by obtain⟨m,hm⟩:=k1;exact DataW.trod_lt m _ _ _ hm
 have k2:=h2;have lt2: ∀x∈p2,x.block<W.heap.size:=by obtain⟨m,hm⟩:=k2;exact DataW.trod_lt m _ _ _ hm
 obtain⟨a0,l0,c0,rfl⟩:=okWide_slice Tryz.underlying22 (hval 0 22 v0 rfl rfl);obtain⟨a1,rfl,z1⟩:=okWide_struct Tryz.underlying27 (hval 1 27 v1 rfl rfl);obtain⟨z2,rfl⟩:=okWide_int Tryz.underlying5 (hval 2 5 v2 rfl rfl);obtain⟨m0,hm0⟩:=h0;obtain⟨y0,g0,b0,_,_,t0⟩:=opens_ints _ _ _ hm0;obtain⟨cv0,e0,q0⟩:=t0 0 _ rfl;simp only[Value.cells,List.getElem?_cons_zero,Option.some.injEq]at e0;subst e0;have hw1: ∀n∈d1.weights Tryz.prog 27,n<=140737488351232:=fun n hn=>of_decide_eq_true (List.all_eq_true.1 hsz n (DataW.weights_mem_each (j:=1) (t:=27) (d:=d1) (by rw[Tryz.params3];rfl) rfl n hn));obtain⟨m1,hm1⟩:=h1;obtain⟨y1,g1,_,_,t1⟩:=opens_term _ _ _ hm1 hw1
 have q1:Am.RP (fun a x=>W.cell? a=some x/\True) (.agg a1) (.agg (Am.tm y1)):= .agg (z1.trans (of_decide_eq_true (by kernel_rfl))) fun i u hu=>by
  obtain⟨cv,e,q⟩:=t1 i u hu;simp only[Value.cells,Array.getElem?_toList]at e;rw[Array.getD_eq_getD_getElem?,e];exact q
 clear hA0 hval0;refine(walk W (Am.a02 hL) _ _ _ y0 y1 z2 q0 q1 (.int _ _) g1).mono fun e W' ⟨he,bel⟩=> ?_;subst he;exact⟨_,rfl,_,_,_,[],_,[],hW',trodAll_mk1 (shut_bool Tryz.underlying4 _),(trodAll_cons_mk (Below.trod laidOut (by kernel_rfl) (of_decide_eq_true (by kernel_rfl)) k0 bel lt0) (trodAll_cons_mk (Below.trod laidOut (by kernel_rfl) (of_decide_eq_true (by kernel_rfl)) k1 bel lt1) (trodAll_cons_mk (Below.trod laidOut (by kernel_rfl) (of_decide_eq_true (by kernel_rfl)) k2 bel lt2) trodAll_mk0))),rfl,bel.frame _,fun h=>by cases h⟩
end Go.Proofs.YthidogjdclkoeaaGreatDoor.successionMade
