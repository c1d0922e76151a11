/- A statement's input that is a term: what it holds. -/
import Derived.Test.YthidogjdclkoeaaGreatDoorFinP
import Derived.Test.YthidogjdclkoeaaGreatDoorCThree
set_option linter.unusedSimpArgs false
set_option linter.unusedVariables false
namespace Go.Proofs.Am
open Go Go.RowKit
open Go.Proofs
section
variable {H:Type} {enc:TypeId×Value->H} {P:Program} {w:World} {base:Nat} {sp:Nat->Bool} {held:Bool}
theorem ahw{t:TypeId}(ht:P.underlying t=some .bool):OpensB enc P w base sp held t 1 (fun b:Bool=>[.bool b]) (fun _=>True):=by
 intro fuel cs x h _;obtain⟨b,rfl,rfl⟩:=DataW.trod_bool ht h;refine⟨b,trivial,rfl,rfl,fun j u hu=> ?_⟩
 cases j with
 |zero=>simp only[List.getElem?_cons_zero,Option.some.injEq]at hu;subst hu;exact⟨_,rfl,.bool _⟩
 |succ j=>simp at hu
theorem ao5{t:TypeId}{f0 f1:Field}(ht:P.underlying t=some (.struct #[f0,f1]))
  (h0:OpensB enc P w base sp held f0.type 1 (fun l:List Int=>[.vs (l.map i1)]) (fun l=>big l.length)) (h1:OpensB enc P w base sp held f1.type 1 (fun l:List Pn=>[.vs (l.map pn)]) (fun l=>big l.length))
  (o0:f0.offset=0) (o1:f1.offset=1):OpensB enc P w base sp held t 2 Am.ct (fun x=>big x.li.length/\big x.pi.length):=by
 intro fuel cs x h hw;obtain⟨xs,n,rfl,rfl,hl,hxl,hall⟩:=DataW.trod_struct ht h;have hwt: ∀n∈DataW.weightsEach P ((#[f0,f1]:Array Field).toList.map (·.type)) (xs.map (·.1)),n<=140737488351232:=fun n hn=>hw n (by unfold DataW.weights;rw[ht];exact hn);obtain⟨y0,p0,_,_,r0⟩:=gx hall hxl hwt 0 f0 rfl h0;obtain⟨y1,p1,_,_,r1⟩:=gx hall hxl hwt 1 f1 rfl h1;rw[o0]at r0;rw[o1]at r1;refine⟨⟨y0,y1⟩,⟨p0,p1⟩,rfl,rfl,fun j u hu=> ?_⟩
 match j,hu with
 |0,hu=>exact r0 0 u hu
 |1,hu=>exact r1 0 u hu
 |j+2,hu=>simp[Am.ct]at hu
theorem av9{t:TypeId}{f0 f1 f2 f3 f4:Field}(ht:P.underlying t=some (.struct #[f0,f1,f2,f3,f4]))
  (h0:P.underlying f0.type=some (.int .i64)) (h1:OpensB enc P w base sp held f1.type 1 (fun l:List Int=>[.vs (l.map i1)]) (fun l=>big l.length)) (h2:P.underlying f2.type=some .string) (h3:P.underlying f3.type=some .bool)
  (h4:OpensB enc P w base sp held f4.type 2 Am.ct (fun x=>big x.li.length/\big x.pi.length))
  (o0:f0.offset=0) (o1:f1.offset=1) (o2:f2.offset=2) (o3:f3.offset=3) (o4:f4.offset=4):OpensB enc P w base sp held t 6 Am.tm (fun y=>big y.ros.length):=by
 intro fuel cs x h hw;obtain⟨xs,n,rfl,rfl,hl,hxl,hall⟩:=DataW.trod_struct ht h;have hwt: ∀n∈DataW.weightsEach P ((#[f0,f1,f2,f3,f4]:Array Field).toList.map (·.type)) (xs.map (·.1)),n<=140737488351232:=fun n hn=>hw n (by unfold DataW.weights;rw[ht];exact hn);obtain⟨y0,_,_,_,r0⟩:=gx hall hxl hwt 0 f0 rfl (kj h0).b;obtain⟨y1,p1,_,_,r1⟩:=gx hall hxl hwt 1 f1 rfl h1;obtain⟨y2,_,_,_,r2⟩:=gx hall hxl hwt 2 f2 rfl (aff h2).b;obtain⟨y3,_,_,_,r3⟩:=gx hall hxl hwt 3 f3 rfl (ahw h3);obtain⟨y4,_,_,_,r4⟩:=gx hall hxl hwt 4 f4 rfl h4;rw[o0]at r0;rw[o1]at r1;rw[o2]at r2;rw[o3]at r3;rw[o4]at r4;refine⟨⟨y0,y1,y2,y3,y4⟩,p1,rfl,rfl,fun j u hu=> ?_⟩
 match j,hu with
 |0,hu=>exact r0 0 u hu
 |1,hu=>exact r1 0 u hu
 |2,hu=>exact r2 0 u hu
 |3,hu=>exact r3 0 u hu
 |4,hu=>exact r4 0 u hu
 |5,hu=>exact r4 1 u hu
 |j+6,hu=>simp[Am.tm]at hu
end
end Go.Proofs.Am
