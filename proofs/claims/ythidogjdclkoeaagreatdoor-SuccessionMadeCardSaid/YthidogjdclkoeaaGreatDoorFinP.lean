/- A statement's inputs of statements: what they hold, and how long their lists are. -/
import Derived.Test.YthidogjdclkoeaaGreatDoorFinOne
import Derived.Test.YthidogjdclkoeaaGreatDoorEOne
import Derived.SizedLaws
set_option linter.unusedSimpArgs false
set_option linter.unusedVariables false
namespace Go.Proofs.Am
open Go Go.RowKit
open Go.Proofs
open Go.Proofs.YthidogjdclkoeaaGreatDoor.Rows (uptoBulk uptoBulkAll)
section
variable {H:Type} {enc:TypeId×Value->H} {P:Program} {w:World} {base:Nat} {sp:Nat->Bool} {held:Bool}
def OpensB(enc:TypeId×Value->H)(P:Program)(w:World)(base:Nat)(sp:Nat->Bool)(held:Bool)(t:TypeId)(K:Nat){α:Type}(f:α->List PV)(G:α->Prop):Prop:=
 ∀(fuel:Nat) (cs:List Value) (x:DataW H×List MemPlace),DataW.trod enc P w base sp held fuel t cs=some x->(∀n∈x.1.weights P t,n<=140737488351232)->
  ∃y,G y/\(f y).length=K/\(f y).all eh=true/\∀(j:Nat) (u:PV),(f y)[j]? =some u->∃cv,cs[j]? =some cv/\RP (fun a v=>w.cell? a=some v/\True) cv u
theorem Opens.b{t:TypeId}{K:Nat}{α:Type}{f:α->List PV}{m:α->Nat}{G:α->Prop}(O:Opens enc P w base sp held t K f m G):OpensB enc P w base sp held t K f G:=fun fuel cs x h _=>by
 obtain⟨y,g1,_,g3⟩:=O fuel cs x h;exact⟨y,g1,g3⟩
theorem OpensB.weak{t:TypeId}{K:Nat}{α:Type}{f:α->List PV}{G G':α->Prop}(O:OpensB enc P w base sp held t K f G)(h: ∀y,G y->G' y):OpensB enc P w base sp held t K f G':=fun fuel cs x h1 h2=>by
 obtain⟨y,g1,g3⟩:=O fuel cs x h1 h2;exact⟨y,h y g1,g3⟩
theorem np{e:TypeId}: ∀{ds:List (DataW H)} {d:DataW H},d∈ds->∀n∈d.weights P e,n∈DataW.weightsAll P e ds
 |a::r,d,h,n,hn=>by
  unfold DataW.weightsAll;rcases List.mem_cons.1 h with rfl|h
  ·exact List.mem_append.2 (.inl hn)
  ·exact List.mem_append.2 (.inr (np h n hn))
theorem l8{t e:TypeId}{K:Nat}{α:Type}{f:α->List PV}{G:α->Prop}(ht:P.underlying t=some (.slice e))(hc:P.cellsOf e=K)(hby:1<=P.bytesOf e)(O:OpensB enc P w base sp held e K f G):
  OpensB enc P w base sp held t 1 (fun l:List α=>[.vs (l.map f)]) (fun l=>(∀y∈l,G y)/\l.length<=140737488351232):=by
 intro fuel cs x h hwt;rcases DataW.trod_slice ht h with ⟨rfl,rfl⟩|⟨a,len,cap,el,rest,n,rfl,rfl,rfl,_,hlc,_,hlen,hel,_,_⟩
 ·refine⟨[],⟨by simp,by simp⟩,rfl,rfl,fun j u hu=> ?_⟩
  cases j with
  |zero=>
   simp only[List.getElem?_cons_zero,Option.some.injEq]at hu;subst hu
   exact⟨_,rfl,.vs (sz:=0) (fun _ _=>Go.undef) rfl (Nat.le_refl _) (by simp) (by simp) (by omega) fun i x j u hx hu=>by simp at hx⟩
  |succ j=>simp at hu
 ·have hw:(DataW.slice (el.map (·.1)) (rest.map (·.1)):DataW H).weights P t=((el.map (·.1)).length+(rest.map (·.1)).length)*P.bytesOf e::(DataW.weightsAll P e (el.map (·.1))++DataW.weightsAll P e (rest.map (·.1))):=by
   unfold DataW.weights;rw[ht]
  simp only[hw]at hwt
  have hlw:el.length<=140737488351232:=by
   have:=hwt _ (List.mem_cons.2 (.inl rfl));rw[List.length_map,List.length_map]at this;have h2:(el.length+rest.length)*1<=(el.length+rest.length)*P.bytesOf e:=Nat.mul_le_mul_left _ hby;omega
  obtain⟨l,hll,hl⟩:=oy el (fun i b (y:α)=>G y/\(f y).length=K/\(f y).all eh=true/\∀(j:Nat) (u:PV),(f y)[j]? =some u->∃cv,w.cell? (a.add (i*K+j))=some cv/\RP (fun a v=>w.cell? a=some v/\True) cv u) fun i b hb=>by
   have hi:i<len:=by have:=(ca.1 hb).1;omega
   have h1:=hel i hi;rw[hc,hb]at h1;obtain⟨ce,hce,hte⟩:=Option.bind_eq_some_iff.1 h1;obtain⟨y,g1,g3,g4,g5⟩:=O _ _ _ hte fun n hn=>hwt n (List.mem_cons.2 (.inr (List.mem_append.2 (.inl (np (List.mem_map.2 ⟨b,List.mem_of_getElem? hb,rfl⟩) n hn)))));obtain⟨_,hcl,hcc⟩:=World.cells?_some hce;refine⟨y,g1,g3,g4,fun j u hu=> ?_⟩;obtain⟨cv,hcv,hr⟩:=g5 j u hu
   have hjK:j<K:=by
    have:=(ca.1 hu).1;omega
   have:=hcc j hjK;rw[hcv]at this;refine⟨cv,?_,hr⟩;rw[<-this,Addr.add_add]
  have hat: ∀(i:Nat) y,l[i]? =some y->∃b,el[i]? =some b:=fun i y hy=>by
   have:=(ca.1 hy).1;exact⟨el[i]'(by omega),bf (by omega)⟩
  have hmem: ∀y∈l,∃(i:Nat) (b:DataW H×List MemPlace),l[i]? =some y/\el[i]? =some b:=fun y hy=>by
   obtain⟨i,hi⟩:=List.mem_iff_getElem?.1 hy;obtain⟨b,hb⟩:=hat i y hi;exact⟨i,b,hi,hb⟩
  have hfa: ∀x∈l.map f,x.length=K/\x.all eh=true:=fun x hx=>by
   obtain⟨y,hy,rfl⟩:=List.mem_map.1 hx;obtain⟨i,b,h1,h2⟩:=hmem y hy;have:=hl i y b h1 h2;exact⟨this.2.1,this.2.2.1⟩
  refine⟨l,⟨fun y hy=> ?_,by omega⟩,rfl,rfl,fun j u hu=> ?_⟩
  ·obtain⟨i,b,h1,h2⟩:=hmem y hy;exact(hl i y b h1 h2).1
  ·cases j with
   |succ j=>simp at hu
   |zero=>
    simp only[List.getElem?_cons_zero,Option.some.injEq]at hu;subst hu
    have hg: ∀(i:Nat) (x:List PV) (j:Nat) (u:PV),(l.map f)[i]? =some x->x[j]? =some u->∃cv,w.cell? (a.add (i*K+j))=some cv/\RP (fun a v=>w.cell? a=some v/\True) cv u:=fun i x j u hx hu=>by
     rw[List.getElem?_map]at hx;obtain⟨y,hy,rfl⟩:=Option.map_eq_some_iff.1 hx;obtain⟨b,hb⟩:=hat i y hy;exact(hl i y b hy hb).2.2.2 j u hu
    refine⟨_,rfl,.vs (sz:=K) (fun i j=>(w.cell? (a.add (i*K+j))).getD Go.undef) (by simp;omega) hlc (fun x hx=>(hfa x hx).1) (fun x hx=>(hfa x hx).2) (fun _=>⟨_,rfl,fun i x j u hx hu=> ?_⟩) fun i x j u hx hu=> ?_⟩
    ·obtain⟨cv,hcv,_⟩:=hg i x j u hx hu;simp[hcv]
    ·obtain⟨cv,hcv,hr⟩:=hg i x j u hx hu;simpa [hcv] using hr
theorem gx{fs:Array Field}{cs:List Value}{xs:List (DataW H×List MemPlace)}{n:Nat}{K:Nat}{α:Type}{f:α->List PV}{G:α->Prop}
  (h: ∀(i:Nat) (fd:Field),fs[i]? =some fd->DataW.trod enc P w base sp held n fd.type ((cs.drop fd.offset).take (P.cellsOf fd.type))=xs[i]?) (hx:xs.length=fs.size)
  (hwt: ∀n∈DataW.weightsEach P (fs.toList.map (·.type)) (xs.map (·.1)),n<=140737488351232)
  (i:Nat) (fd:Field) (hf:fs[i]? =some fd) (O:OpensB enc P w base sp held fd.type K f G):
  ∃(y:α),G y/\(f y).length=K/\(f y).all eh=true/\∀(j:Nat) (u:PV),(f y)[j]? =some u->∃cv,cs[fd.offset+j]? =some cv/\RP (fun a v=>w.cell? a=some v/\True) cv u:=by
 have h1:=h i fd hf;have hi:i<xs.length:=by rw[hx];exact(Array.getElem?_eq_some_iff.1 hf).1
 rw[bf hi]at h1;have hf':(fs.toList.map (·.type))[i]? =some fd.type:=by simp[hf]
 have hx':(xs.map (·.1))[i]? =some xs[i].1:=by simp[hi]
 obtain⟨y,g1,g3,g4,g5⟩:=O _ _ _ h1 fun n hn=>hwt n (DataW.weights_mem_each hf' hx' n hn);refine⟨y,g1,g3,g4,fun j u hu=> ?_⟩;obtain⟨cv,hcv,hr⟩:=g5 j u hu;refine⟨cv,?_,hr⟩;rw[List.getElem?_take]at hcv;split at hcv
 ·rwa [List.getElem?_drop]at hcv
 ·cases hcv
end
end Go.Proofs.Am
