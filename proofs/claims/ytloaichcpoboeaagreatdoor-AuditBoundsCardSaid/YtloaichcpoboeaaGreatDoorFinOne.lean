/- No goroutine is begun anywhere in a program: so none by a row. -/
import Derived.SevenTiedAt
import Derived.Test.YtloaichcpoboeaaGreatDoorDEight
import Derived.Test.YtloaichcpoboeaaGreatDoorRows
import Derived.ChangeArms
import Derived.ChangeSlices
import Derived.Below
import Derived.Lib.LaidU8
import Derived.Lib.LaidPrint
import Derived.Lib.LaidSlice
import Derived.Lib.LaidIn
import Derived.PinnedBridge
import Derived.Deep.DeepHandedRow
import Derived.Deep.DeepWitnessRowRef
import Derived.WalkKit
import Derived.ProofKit
import Derived.OpenShut
set_option maxRecDepth 1000000
set_option linter.unusedSimpArgs false
set_option linter.unusedVariables false
namespace Go.Proofs.Am
open Go
theorem av7(P:Program)(h:P.funcs.any Func.goes=false)(c:OpenClaim):false=c.goesBy P:=by
 have h0: ∀f,P.goes f=false:=fun f=>by
  unfold Program.goes;rw[h,Bool.and_false,Bool.or_false,List.any_eq_false];intro g _
  cases hg:P.funcs[g]? with
  |none=>simp
  |some fn=>
   have h1:=(Array.any_eq_false'.1 h) fn (Array.mem_of_getElem? hg);simpa using h1
 have h1:(fun f=>P.goes f)=fun _=>false:=funext h0;unfold OpenClaim.goesBy Program.goesAt Program.goesFrom;have h2: ∀o:Option FuncId,o.any P.goes=false:=fun o=>by cases o<;>simp[h0]
 have h3: ∀l:List FuncId,l.any P.goes=false:=fun l=>by simp[h0]
 rw[h2];split<;>simp[h3,h0]
end Go.Proofs.Am

/- What the statements' inputs hold, as abstract values: slices of slices, structs, strings, numbers; and their bulk. -/
namespace Go.Proofs.Am
open Go Go.RowKit
open Go.Proofs
open Go.Proofs.YtloaichcpoboeaaGreatDoor.Rows (uptoBulk uptoBulkAll)
section
variable {H:Type} {enc:TypeId×Value->H} {P:Program} {w:World} {base:Nat} {sp:Nat->Bool} {held:Bool}
def a3p(enc:TypeId×Value->H)(P:Program)(w:World)(base:Nat)(sp:Nat->Bool)(held:Bool)(t:TypeId)(K:Nat){α:Type}(f:α->List PV)(m:α->Nat)(G:α->Prop):Prop:=
 ∀(fuel:Nat) (cs:List Value) (x:DataW H×List MemPlace),DataW.trod enc P w base sp held fuel t cs=some x->
  ∃y,G y/\m y<=uptoBulk x.1/\(f y).length=K/\(f y).all fu=true/\∀(j:Nat) (u:PV),(f y)[j]? =some u->∃cv,cs[j]? =some cv/\RP (fun a v=>w.cell? a=some v/\True) cv u
theorem ay3{t:TypeId}(ht:P.underlying t=some (.int .i64)):a3p enc P w base sp held t 1 i1 (fun _=>1) inR:=by
 intro fuel cs x h;obtain⟨n,rfl,rfl,hw⟩:=DataW.trod_int ht h
 have hb:inR n:=by
  simp[Lit.wf,IntKind.min,IntKind.max,IntKind.signed,IntKind.bits]at hw;unfold inR;omega
 refine⟨n,hb,by simp[uptoBulk],rfl,rfl,fun j u hu=> ?_⟩
 cases j with
 |zero=>simp only[i1,List.getElem?_cons_zero,Option.some.injEq]at hu;subst hu;exact⟨_,rfl,.int _ _⟩
 |succ j=>simp[i1]at hu
theorem ao7{α:Type}{m:α->Nat}: ∀(l:List α) (el:List (DataW H×List MemPlace)),l.length=el.length->(∀(i:Nat) y b,l[i]? =some y->el[i]? =some b->m y<=uptoBulk b.1)->(l.map m).sum<=uptoBulkAll (el.map (·.1))
 |[],_,_,_=>by simp
 |y::l,[],h,_=>by simp at h
 |y::l,b::el,h,hm=>by
  have h1:=hm 0 y b rfl rfl;have h2:=ao7 l el (by simpa using h) fun i z c hz hc=>hm (i+1) z c hz hc;simp only[List.map_cons,List.sum_cons,uptoBulkAll];omega
theorem xt{α β:Type}: ∀(el:List β) (R:Nat->β->α->Prop),(∀(i:Nat) b,el[i]? =some b->∃y,R i b y)->∃l:List α,l.length=el.length/\∀(i:Nat) y b,l[i]? =some y->el[i]? =some b->R i b y
 |[],_,_=>⟨[],rfl,fun i y b h=>by simp at h⟩
 |b::el,R,h=>by
  obtain⟨y,hy⟩:=h 0 b rfl;obtain⟨l,hl,hr⟩:=xt el (fun i=>R (i+1)) fun i c hc=>h (i+1) c hc;refine⟨y::l,by simp[hl],fun i z c hz hc=> ?_⟩
  cases i with
  |zero=>simp only[List.getElem?_cons_zero,Option.some.injEq]at hz hc;subst hz hc;exact hy
  |succ i=>exact hr i z c hz hc
theorem am1{t e:TypeId}{K:Nat}{α:Type}{f:α->List PV}{m:α->Nat}{G:α->Prop}(ht:P.underlying t=some (.slice e))(hc:P.cellsOf e=K)(O:a3p enc P w base sp held e K f m G):
  a3p enc P w base sp held t 1 (fun l:List α=>[.vs (l.map f)]) (fun l=>1+(l.map m).sum) (fun l=> ∀y∈l,G y):=by
 intro fuel cs x h;rcases DataW.trod_slice ht h with ⟨rfl,rfl⟩|⟨a,len,cap,el,rest,n,rfl,rfl,rfl,_,hlc,_,hlen,hel,_,_⟩
 ·refine⟨[],by simp,by simp[uptoBulk],rfl,rfl,fun j u hu=> ?_⟩
  cases j with
  |zero=>
   simp only[List.getElem?_cons_zero,Option.some.injEq]at hu;subst hu
   exact⟨_,rfl,.vs (sz:=0) (fun _ _=>Go.undef) rfl (Nat.le_refl _) (by simp) (by simp) (by omega) fun i x j u hx hu=>by simp at hx⟩
  |succ j=>simp at hu
 ·obtain⟨l,hll,hl⟩:=xt el (fun i b (y:α)=>G y/\m y<=uptoBulk b.1/\(f y).length=K/\(f y).all fu=true/\∀(j:Nat) (u:PV),(f y)[j]? =some u->∃cv,w.cell? (a.add (i*K+j))=some cv/\RP (fun a v=>w.cell? a=some v/\True) cv u) fun i b hb=>by
   have hi:i<len:=by have:=(cr.1 hb).1;omega
   have h1:=hel i hi;rw[hc,hb]at h1;obtain⟨ce,hce,hte⟩:=Option.bind_eq_some_iff.1 h1;obtain⟨y,g1,g2,g3,g4,g5⟩:=O _ _ _ hte;obtain⟨_,hcl,hcc⟩:=World.cells?_some hce;refine⟨y,g1,g2,g3,g4,fun j u hu=> ?_⟩;obtain⟨cv,hcv,hr⟩:=g5 j u hu
   have hjK:j<K:=by
    have:=(cr.1 hu).1;omega
   have:=hcc j hjK;rw[hcv]at this;refine⟨cv,?_,hr⟩;rw[<-this,Addr.add_add]
  have hat: ∀(i:Nat) y,l[i]? =some y->∃b,el[i]? =some b:=fun i y hy=>by
   have:=(cr.1 hy).1;exact⟨el[i]'(by omega),a8 (by omega)⟩
  have hmem: ∀y∈l,∃(i:Nat) (b:DataW H×List MemPlace),l[i]? =some y/\el[i]? =some b:=fun y hy=>by
   obtain⟨i,hi⟩:=List.mem_iff_getElem?.1 hy;obtain⟨b,hb⟩:=hat i y hi;exact⟨i,b,hi,hb⟩
  have hfa: ∀x∈l.map f,x.length=K/\x.all fu=true:=fun x hx=>by
   obtain⟨y,hy,rfl⟩:=List.mem_map.1 hx;obtain⟨i,b,h1,h2⟩:=hmem y hy;have:=hl i y b h1 h2;exact⟨this.2.2.1,this.2.2.2.1⟩
  refine⟨l,fun y hy=> ?_,?_,rfl,rfl,fun j u hu=> ?_⟩
  ·obtain⟨i,b,h1,h2⟩:=hmem y hy;exact(hl i y b h1 h2).1
  ·have:=ao7 (m:=m) l el hll fun i y b h1 h2=>(hl i y b h1 h2).2.1;simp only[uptoBulk];omega
  ·cases j with
   |succ j=>simp at hu
   |zero=>
    simp only[List.getElem?_cons_zero,Option.some.injEq]at hu;subst hu
    have hg: ∀(i:Nat) (x:List PV) (j:Nat) (u:PV),(l.map f)[i]? =some x->x[j]? =some u->∃cv,w.cell? (a.add (i*K+j))=some cv/\RP (fun a v=>w.cell? a=some v/\True) cv u:=fun i x j u hx hu=>by
     rw[List.getElem?_map]at hx;obtain⟨y,hy,rfl⟩:=Option.map_eq_some_iff.1 hx;obtain⟨b,hb⟩:=hat i y hy;exact(hl i y b hy hb).2.2.2.2 j u hu
    refine⟨_,rfl,.vs (sz:=K) (fun i j=>(w.cell? (a.add (i*K+j))).getD Go.undef) (by simp;omega) hlc (fun x hx=>(hfa x hx).1) (fun x hx=>(hfa x hx).2) (fun _=>⟨_,rfl,fun i x j u hx hu=> ?_⟩) fun i x j u hx hu=> ?_⟩
    ·obtain⟨cv,hcv,_⟩:=hg i x j u hx hu;simp[hcv]
    ·obtain⟨cv,hcv,hr⟩:=hg i x j u hx hu;simpa [hcv] using hr
end
end Go.Proofs.Am

/- The tables of Go's library that the rows of this seat list: what their readings give; a world that lays them. -/
namespace Go.Proofs.Am
open Go Go.RowKit Go.Lib
open Go.Proofs
open Go.Proofs.YtloaichcpoboeaaGreatDoor
def lay10:List (String×DataW Unit):=[("math/bits.deBruijn32tab",Rows.laid_math_bits_deBruijn32tab),("math/bits.deBruijn64tab",Rows.laid_math_bits_deBruijn64tab),("internal/strconv.uint64pow10",Rows.laid_internal_strconv_uint64pow10),("unicode/utf8.acceptRanges",Rows.laid_unicode_utf8_acceptRanges),("strconv.isGraphic",Rows.laid_strconv_isGraphic),("strconv.isNotPrint16",Rows.laid_strconv_isNotPrint16),("strconv.isNotPrint32",Rows.laid_strconv_isNotPrint32),("strconv.isPrint16",Rows.laid_strconv_isPrint16),("strconv.isPrint32",Rows.laid_strconv_isPrint32),("unicode/utf8.first",Rows.laid_unicode_utf8_first)]
theorem ben{W:World}(_:laidMet Tryz.prog lay10 W):Laid Tryz.prog W:=⟨trivial⟩
def bh6(k:IntKind):DataW Unit->Array Value
 | .agg ds=>(ds.map fun| .lit (.int _ n)=>Value.int k n|_=>Go.undef).toArray
 |_=> #[]
noncomputable def fg (os:Os):World:=
 let N:=(World.settled Tryz.prog os).heap.size
 let T:=Lib.goPrintTabs
 let w0:=World.holding Tryz.prog os ⟨#[
  .cells (intCellsOf .u16 T.p16) 453,.cells (intCellsOf .u16 T.n16) 453,.cells (intCellsOf .u32 T.p32) 191,.cells (intCellsOf .u16 T.n32) 453,.cells (intCellsOf .u16 Pinned.isGraphicZ) 453], #[],[]⟩
 let put (h:Array Obj) (g:Nat) (cs:Array Value):Array Obj:=h.modify g fun
  | .cells _ t frozen=> .cells cs t frozen
  |o=>o
 let h1:=put w0.heap 1 (Lib.pow10Tab.map fun z=>Value.int .u64 z).toArray
 let h2:=put h1 2 (Lib.firstTab.map fun z=>Value.int .u8 z).toArray
 let h3:=put h2 3 ((List.range 16).flatMap fun i=>[Value.int .u8 (Lib.accLo i),Value.int .u8 (Lib.accHi i)]).toArray
 let h4:=put h3 4 #[.slice (some ⟨N,0,none⟩) T.p16.length T.p16.length]
 let h5:=put h4 5 #[.slice (some ⟨N+1,0,none⟩) T.n16.length T.n16.length]
 let h6:=put h5 6 #[.slice (some ⟨N+2,0,none⟩) T.p32.length T.p32.length]
 let h7:=put h6 7 #[.slice (some ⟨N+3,0,none⟩) T.n32.length T.n32.length]
 let h8:=put h7 8 #[.slice (some ⟨N+4,0,none⟩) Pinned.isGraphicZ.length Pinned.isGraphicZ.length]
 let h9:=put h8 9 (bh6 .u8 Rows.laid_math_bits_deBruijn32tab)
 let h10:=put h9 10 (bh6 .u8 Rows.laid_math_bits_deBruijn64tab)
 {w0 with heap:=h10}
noncomputable abbrev N0:Nat:=(World.settled Tryz.prog default).heap.size
theorem bf8(os:Os)(args:Array Value):LaidIn Tryz.prog ((fg os).forCall (fun _ _=>0) ⟨#[],args,[]⟩).memory (lay10.take 4) [9,10,1,3]:=
 LaidIn.of_run [9,10,1,3] 8 (by kernel_rfl) (by kernel_rfl) (by kernel_rfl) (by kernel_rfl)
theorem bhe(os:Os)(args:Array Value):LaidIn Tryz.prog ((fg os).forCall (fun _ _=>0) ⟨#[],args,[]⟩).memory [("strconv.isGraphic",Lib.sliceData .u16 Pinned.isGraphicZ)] [8,N0+4]:=
 laidIn_slice (t:=454) (e:=453) (te:=453) Pinned.isGraphicZ (N0+4) (by kernel_rfl) (by kernel_rfl) (by kernel_rfl) (by kernel_rfl) (by kernel_rfl) (by kernel_rfl) (by kernel_rfl) (by kernel_rfl) (of_decide_eq_true (by kernel_rfl)) (of_decide_eq_true (by kernel_rfl))
theorem bgu(os:Os)(args:Array Value):LaidIn Tryz.prog ((fg os).forCall (fun _ _=>0) ⟨#[],args,[]⟩).memory [("strconv.isNotPrint16",Lib.sliceData .u16 Lib.goPrintTabs.n16)] [5,N0+1]:=
 laidIn_slice (t:=454) (e:=453) (te:=453) Lib.goPrintTabs.n16 (N0+1) (by kernel_rfl) (by kernel_rfl) (by kernel_rfl) (by kernel_rfl) (by kernel_rfl) (by kernel_rfl) (by kernel_rfl) (by kernel_rfl) (of_decide_eq_true (by kernel_rfl)) (of_decide_eq_true (by kernel_rfl))
theorem bhj(os:Os)(args:Array Value):LaidIn Tryz.prog ((fg os).forCall (fun _ _=>0) ⟨#[],args,[]⟩).memory [("strconv.isNotPrint32",Lib.sliceData .u16 Lib.goPrintTabs.n32)] [7,N0+3]:=
 laidIn_slice (t:=454) (e:=453) (te:=453) Lib.goPrintTabs.n32 (N0+3) (by kernel_rfl) (by kernel_rfl) (by kernel_rfl) (by kernel_rfl) (by kernel_rfl) (by kernel_rfl) (by kernel_rfl) (by kernel_rfl) (of_decide_eq_true (by kernel_rfl)) (of_decide_eq_true (by kernel_rfl))
theorem bic(os:Os)(args:Array Value):LaidIn Tryz.prog ((fg os).forCall (fun _ _=>0) ⟨#[],args,[]⟩).memory [("strconv.isPrint16",Lib.sliceData .u16 Lib.goPrintTabs.p16)] [4,N0]:=
 laidIn_slice (t:=454) (e:=453) (te:=453) Lib.goPrintTabs.p16 N0 (by kernel_rfl) (by kernel_rfl) (by kernel_rfl) (by kernel_rfl) (by kernel_rfl) (by kernel_rfl) (by kernel_rfl) (by kernel_rfl) (of_decide_eq_true (by kernel_rfl)) (of_decide_eq_true (by kernel_rfl))
theorem bha(os:Os)(args:Array Value):LaidIn Tryz.prog ((fg os).forCall (fun _ _=>0) ⟨#[],args,[]⟩).memory [("strconv.isPrint32",Lib.sliceData .u32 Lib.goPrintTabs.p32)] [6,N0+2]:=
 laidIn_slice (t:=282) (e:=191) (te:=191) Lib.goPrintTabs.p32 (N0+2) (by kernel_rfl) (by kernel_rfl) (by kernel_rfl) (by kernel_rfl) (by kernel_rfl) (by kernel_rfl) (by kernel_rfl) (by kernel_rfl) (of_decide_eq_true (by kernel_rfl)) (of_decide_eq_true (by kernel_rfl))
theorem bg5(os:Os)(args:Array Value):LaidIn Tryz.prog ((fg os).forCall (fun _ _=>0) ⟨#[],args,[]⟩).memory [("unicode/utf8.first",Rows.laid_unicode_utf8_first)] [2]:=
 LaidIn.of_run [2] 8 (by kernel_rfl) (by kernel_rfl) (by kernel_rfl) (by kernel_rfl)
theorem bjt:Rows.laid_strconv_isGraphic=Lib.sliceData .u16 Pinned.isGraphicZ:=by kernel_rfl
theorem bjq:lay10=lay10.take 4++[("strconv.isGraphic",Lib.sliceData .u16 Pinned.isGraphicZ)]++[("strconv.isNotPrint16",Lib.sliceData .u16 Lib.goPrintTabs.n16)]++[("strconv.isNotPrint32",Lib.sliceData .u16 Lib.goPrintTabs.n32)]++[("strconv.isPrint16",Lib.sliceData .u16 Lib.goPrintTabs.p16)]++[("strconv.isPrint32",Lib.sliceData .u32 Lib.goPrintTabs.p32)]++[("unicode/utf8.first",Rows.laid_unicode_utf8_first)]:=by
 rw[<-bjt,<-Pinned.isNotPrint16_eq,<-Pinned.isNotPrint32_eq,<-Pinned.isPrint16_eq,<-Pinned.isPrint32_eq];rfl
theorem a5d(os:Os)(args:Array Value):laidMet Tryz.prog lay10 ((fg os).forCall (fun _ _=>0) ⟨#[],args,[]⟩).memory:=by
 rw[bjq];exact((((((bf8 os args).append (bhe os args) (by kernel_rfl)).append (bgu os args) (by kernel_rfl)).append (bhj os args) (by kernel_rfl)).append (bic os args) (by kernel_rfl)).append (bha os args) (by kernel_rfl)).append (bg5 os args) (by kernel_rfl)|>.met
end Go.Proofs.Am
