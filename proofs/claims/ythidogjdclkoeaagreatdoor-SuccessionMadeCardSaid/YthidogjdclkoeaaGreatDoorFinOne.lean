/- What the statements' inputs hold, as abstract values: slices of slices, structs, strings, numbers; and their bulk. -/
import Derived.Test.YthidogjdclkoeaaGreatDoorDEight
import Derived.Test.YthidogjdclkoeaaGreatDoorRows
import Derived.ChangeArms
import Derived.ChangeSlices
import Derived.Below
import Derived.Lib.LaidU8
import Derived.Lib.LaidPrint
import Derived.Lib.LaidSlice
import Derived.Lib.LaidIn
import Derived.PinnedBridge
import Derived.Deep.DeepHandedRow
import Derived.Deep.DeepWitnessRowRef
import Derived.WalkKit
import Derived.ProofKit
import Derived.OpenShut
set_option maxRecDepth 1000000
set_option linter.unusedSimpArgs false
set_option linter.unusedVariables false
namespace Go.Proofs.Am
open Go Go.RowKit
open Go.Proofs
open Go.Proofs.YthidogjdclkoeaaGreatDoor.Rows (uptoBulk uptoBulkAll)
section
variable {H:Type} {enc:TypeId×Value->H} {P:Program} {w:World} {base:Nat} {sp:Nat->Bool} {held:Bool}
def Opens(enc:TypeId×Value->H)(P:Program)(w:World)(base:Nat)(sp:Nat->Bool)(held:Bool)(t:TypeId)(K:Nat){α:Type}(f:α->List PV)(m:α->Nat)(G:α->Prop):Prop:=
 ∀(fuel:Nat) (cs:List Value) (x:DataW H×List MemPlace),DataW.trod enc P w base sp held fuel t cs=some x->
  ∃y,G y/\m y<=uptoBulk x.1/\(f y).length=K/\(f y).all eh=true/\∀(j:Nat) (u:PV),(f y)[j]? =some u->∃cv,cs[j]? =some cv/\RP (fun a v=>w.cell? a=some v/\True) cv u
theorem kj{t:TypeId}(ht:P.underlying t=some (.int .i64)):Opens enc P w base sp held t 1 i1 (fun _=>1) inR:=by
 intro fuel cs x h;obtain⟨n,rfl,rfl,hw⟩:=DataW.trod_int ht h
 have hb:inR n:=by
  simp[Lit.wf,IntKind.min,IntKind.max,IntKind.signed,IntKind.bits]at hw;unfold inR;omega
 refine⟨n,hb,by simp[uptoBulk],rfl,rfl,fun j u hu=> ?_⟩
 cases j with
 |zero=>simp only[i1,List.getElem?_cons_zero,Option.some.injEq]at hu;subst hu;exact⟨_,rfl,.int _ _⟩
 |succ j=>simp[i1]at hu
theorem aff{t:TypeId}(ht:P.underlying t=some .string):Opens enc P w base sp held t 1 (fun s:List UInt8=>[.str s]) (fun s=>s.length+1) (fun _=>True):=by
 intro fuel cs x h;obtain⟨s,rfl,rfl,hw⟩:=DataW.trod_string ht h;refine⟨s.data.toList,trivial,by simp[uptoBulk],rfl,rfl,fun j u hu=> ?_⟩
 cases j with
 |zero=>simp only[List.getElem?_cons_zero,Option.some.injEq]at hu;subst hu;exact⟨_,rfl,.str s.data.toList⟩
 |succ j=>simp at hu
theorem aks{α:Type}{m:α->Nat}: ∀(l:List α) (el:List (DataW H×List MemPlace)),l.length=el.length->(∀(i:Nat) y b,l[i]? =some y->el[i]? =some b->m y<=uptoBulk b.1)->(l.map m).sum<=uptoBulkAll (el.map (·.1))
 |[],_,_,_=>by simp
 |y::l,[],h,_=>by simp at h
 |y::l,b::el,h,hm=>by
  have h1:=hm 0 y b rfl rfl;have h2:=aks l el (by simpa using h) fun i z c hz hc=>hm (i+1) z c hz hc;simp only[List.map_cons,List.sum_cons,uptoBulkAll];omega
theorem oy{α β:Type}: ∀(el:List β) (R:Nat->β->α->Prop),(∀(i:Nat) b,el[i]? =some b->∃y,R i b y)->∃l:List α,l.length=el.length/\∀(i:Nat) y b,l[i]? =some y->el[i]? =some b->R i b y
 |[],_,_=>⟨[],rfl,fun i y b h=>by simp at h⟩
 |b::el,R,h=>by
  obtain⟨y,hy⟩:=h 0 b rfl;obtain⟨l,hl,hr⟩:=oy el (fun i=>R (i+1)) fun i c hc=>h (i+1) c hc;refine⟨y::l,by simp[hl],fun i z c hz hc=> ?_⟩
  cases i with
  |zero=>simp only[List.getElem?_cons_zero,Option.some.injEq]at hz hc;subst hz hc;exact hy
  |succ i=>exact hr i z c hz hc
theorem ah3{t e:TypeId}{K:Nat}{α:Type}{f:α->List PV}{m:α->Nat}{G:α->Prop}(ht:P.underlying t=some (.slice e))(hc:P.cellsOf e=K)(O:Opens enc P w base sp held e K f m G):
  Opens enc P w base sp held t 1 (fun l:List α=>[.vs (l.map f)]) (fun l=>1+(l.map m).sum) (fun l=> ∀y∈l,G y):=by
 intro fuel cs x h;rcases DataW.trod_slice ht h with ⟨rfl,rfl⟩|⟨a,len,cap,el,rest,n,rfl,rfl,rfl,_,hlc,_,hlen,hel,_,_⟩
 ·refine⟨[],by simp,by simp[uptoBulk],rfl,rfl,fun j u hu=> ?_⟩
  cases j with
  |zero=>
   simp only[List.getElem?_cons_zero,Option.some.injEq]at hu;subst hu
   exact⟨_,rfl,.vs (sz:=0) (fun _ _=>Go.undef) rfl (Nat.le_refl _) (by simp) (by simp) (by omega) fun i x j u hx hu=>by simp at hx⟩
  |succ j=>simp at hu
 ·obtain⟨l,hll,hl⟩:=oy el (fun i b (y:α)=>G y/\m y<=uptoBulk b.1/\(f y).length=K/\(f y).all eh=true/\∀(j:Nat) (u:PV),(f y)[j]? =some u->∃cv,w.cell? (a.add (i*K+j))=some cv/\RP (fun a v=>w.cell? a=some v/\True) cv u) fun i b hb=>by
   have hi:i<len:=by have:=(ca.1 hb).1;omega
   have h1:=hel i hi;rw[hc,hb]at h1;obtain⟨ce,hce,hte⟩:=Option.bind_eq_some_iff.1 h1;obtain⟨y,g1,g2,g3,g4,g5⟩:=O _ _ _ hte;obtain⟨_,hcl,hcc⟩:=World.cells?_some hce;refine⟨y,g1,g2,g3,g4,fun j u hu=> ?_⟩;obtain⟨cv,hcv,hr⟩:=g5 j u hu
   have hjK:j<K:=by
    have:=(ca.1 hu).1;omega
   have:=hcc j hjK;rw[hcv]at this;refine⟨cv,?_,hr⟩;rw[<-this,Addr.add_add]
  have hat: ∀(i:Nat) y,l[i]? =some y->∃b,el[i]? =some b:=fun i y hy=>by
   have:=(ca.1 hy).1;exact⟨el[i]'(by omega),bf (by omega)⟩
  have hmem: ∀y∈l,∃(i:Nat) (b:DataW H×List MemPlace),l[i]? =some y/\el[i]? =some b:=fun y hy=>by
   obtain⟨i,hi⟩:=List.mem_iff_getElem?.1 hy;obtain⟨b,hb⟩:=hat i y hi;exact⟨i,b,hi,hb⟩
  have hfa: ∀x∈l.map f,x.length=K/\x.all eh=true:=fun x hx=>by
   obtain⟨y,hy,rfl⟩:=List.mem_map.1 hx;obtain⟨i,b,h1,h2⟩:=hmem y hy;have:=hl i y b h1 h2;exact⟨this.2.2.1,this.2.2.2.1⟩
  refine⟨l,fun y hy=> ?_,?_,rfl,rfl,fun j u hu=> ?_⟩
  ·obtain⟨i,b,h1,h2⟩:=hmem y hy;exact(hl i y b h1 h2).1
  ·have:=aks (m:=m) l el hll fun i y b h1 h2=>(hl i y b h1 h2).2.1;simp only[uptoBulk];omega
  ·cases j with
   |succ j=>simp at hu
   |zero=>
    simp only[List.getElem?_cons_zero,Option.some.injEq]at hu;subst hu
    have hg: ∀(i:Nat) (x:List PV) (j:Nat) (u:PV),(l.map f)[i]? =some x->x[j]? =some u->∃cv,w.cell? (a.add (i*K+j))=some cv/\RP (fun a v=>w.cell? a=some v/\True) cv u:=fun i x j u hx hu=>by
     rw[List.getElem?_map]at hx;obtain⟨y,hy,rfl⟩:=Option.map_eq_some_iff.1 hx;obtain⟨b,hb⟩:=hat i y hy;exact(hl i y b hy hb).2.2.2.2 j u hu
    refine⟨_,rfl,.vs (sz:=K) (fun i j=>(w.cell? (a.add (i*K+j))).getD Go.undef) (by simp;omega) hlc (fun x hx=>(hfa x hx).1) (fun x hx=>(hfa x hx).2) (fun _=>⟨_,rfl,fun i x j u hx hu=> ?_⟩) fun i x j u hx hu=> ?_⟩
    ·obtain⟨cv,hcv,_⟩:=hg i x j u hx hu;simp[hcv]
    ·obtain⟨cv,hcv,hr⟩:=hg i x j u hx hu;simpa [hcv] using hr
theorem xp{fs:Array Field}{cs:List Value}{xs:List (DataW H×List MemPlace)}{n:Nat}{K:Nat}{α:Type}{f:α->List PV}{m:α->Nat}{G:α->Prop}
  (h: ∀(i:Nat) (fd:Field),fs[i]? =some fd->DataW.trod enc P w base sp held n fd.type ((cs.drop fd.offset).take (P.cellsOf fd.type))=xs[i]?) (hx:xs.length=fs.size)
  (i:Nat) (fd:Field) (hf:fs[i]? =some fd) (O:Opens enc P w base sp held fd.type K f m G):
  ∃(b:DataW H×List MemPlace) (y:α),xs[i]? =some b/\G y/\m y<=uptoBulk b.1/\(f y).length=K/\(f y).all eh=true/\∀(j:Nat) (u:PV),(f y)[j]? =some u->∃cv,cs[fd.offset+j]? =some cv/\RP (fun a v=>w.cell? a=some v/\True) cv u:=by
 have h1:=h i fd hf;have hi:i<xs.length:=by rw[hx];exact(Array.getElem?_eq_some_iff.1 hf).1
 rw[bf hi]at h1;obtain⟨y,g1,g2,g3,g4,g5⟩:=O _ _ _ h1;refine⟨xs[i],y,bf hi,g1,g2,g3,g4,fun j u hu=> ?_⟩;obtain⟨cv,hcv,hr⟩:=g5 j u hu;refine⟨cv,?_,hr⟩;rw[List.getElem?_take]at hcv;split at hcv
 ·rwa [List.getElem?_drop]at hcv
 ·cases hcv
theorem ap3{t:TypeId}{f0 f1 f2:Field}(ht:P.underlying t=some (.struct #[f0,f1,f2]))(h0:P.underlying f0.type=some (.int .i64))(h1:P.underlying f1.type=some (.int .i64))(h2:P.underlying f2.type=some .string)
  (o0:f0.offset=0) (o1:f1.offset=1) (o2:f2.offset=2):Opens enc P w base sp held t 3 pn (fun p=>p.di.length+4) (fun p=>inR p.au/\inR p.he):=by
 intro fuel cs x h;obtain⟨xs,n,rfl,rfl,hl,hxl,hall⟩:=DataW.trod_struct ht h;obtain⟨b0,y0,x0,p0,m0,_,_,r0⟩:=xp hall hxl 0 f0 rfl (kj h0);obtain⟨b1,y1,x1,p1,m1,_,_,r1⟩:=xp hall hxl 1 f1 rfl (kj h1);obtain⟨b2,y2,x2,p2,m2,_,_,r2⟩:=xp hall hxl 2 f2 rfl (aff h2);rw[o0]at r0;rw[o1]at r1;rw[o2]at r2
 match xs,hxl,x0,x1,x2 with
 |[c0,c1,c2],_,x0,x1,x2=>
  simp only[List.getElem?_cons_zero,List.getElem?_cons_succ,Option.some.injEq]at x0 x1 x2;subst x0 x1 x2;refine⟨⟨y0,y1,y2⟩,⟨p0,p1⟩,?_,rfl,rfl,fun j u hu=> ?_⟩
  ·simp only[List.map_cons,List.map_nil,uptoBulk,uptoBulkAll];omega
  ·match j,hu with
   |0,hu=>exact r0 0 u hu
   |1,hu=>exact r1 0 u hu
   |2,hu=>exact r2 0 u hu
   |j+3,hu=>simp[pn]at hu
end
end Go.Proofs.Am

/- The tables of Go's library that the rows of this seat list: what their readings give; a world that lays them. -/
namespace Go.Proofs.Am
open Go Go.RowKit Go.Lib
open Go.Proofs
open Go.Proofs.YthidogjdclkoeaaGreatDoor
def lay10:List (String×DataW Unit):=[("math/bits.deBruijn32tab",Rows.laid_math_bits_deBruijn32tab),("math/bits.deBruijn64tab",Rows.laid_math_bits_deBruijn64tab),("internal/strconv.uint64pow10",Rows.laid_internal_strconv_uint64pow10),("unicode/utf8.acceptRanges",Rows.laid_unicode_utf8_acceptRanges),("strconv.isGraphic",Rows.laid_strconv_isGraphic),("strconv.isNotPrint16",Rows.laid_strconv_isNotPrint16),("strconv.isNotPrint32",Rows.laid_strconv_isNotPrint32),("strconv.isPrint16",Rows.laid_strconv_isPrint16),("strconv.isPrint32",Rows.laid_strconv_isPrint32),("unicode/utf8.first",Rows.laid_unicode_utf8_first)]
theorem a8j:(Rows.laid_unicode_utf8_acceptRanges:DataW Unit)=Lib.acceptData:=by kernel_rfl
theorem a8r:(Rows.laid_internal_strconv_uint64pow10:DataW Unit)=Lib.tabData .u64 Lib.pow10Tab:=by kernel_rfl
theorem a02{W:World}(h:laidMet Tryz.prog lay10 W):Laid Tryz.prog W:=by
 have r1:=Lib.laidMet.reads h (n:= "internal/strconv.uint64pow10") (d:=Rows.laid_internal_strconv_uint64pow10) (.tail _ (.tail _ (.head _)));have r3:=Lib.laidMet.reads h (n:= "unicode/utf8.acceptRanges") (d:=Rows.laid_unicode_utf8_acceptRanges) (.tail _ (.tail _ (.tail _ (.head _))));have r5:=Lib.laidMet.reads h (n:= "strconv.isNotPrint16") (d:=Rows.laid_strconv_isNotPrint16) (.tail _ (.tail _ (.tail _ (.tail _ (.tail _ (.head _))))));have r7:=Lib.laidMet.reads h (n:= "strconv.isNotPrint32") (d:=Rows.laid_strconv_isNotPrint32) (.tail _ (.tail _ (.tail _ (.tail _ (.tail _ (.tail _ (.head _)))))));have r4:=Lib.laidMet.reads h (n:= "strconv.isPrint16") (d:=Rows.laid_strconv_isPrint16) (.tail _ (.tail _ (.tail _ (.tail _ (.tail _ (.tail _ (.tail _ (.head _))))))));have r6:=Lib.laidMet.reads h (n:= "strconv.isPrint32") (d:=Rows.laid_strconv_isPrint32) (.tail _ (.tail _ (.tail _ (.tail _ (.tail _ (.tail _ (.tail _ (.tail _ (.head _)))))))));have r2:=Lib.laidMet.reads h (n:= "unicode/utf8.first") (d:=Rows.laid_unicode_utf8_first) (.tail _ (.tail _ (.tail _ (.tail _ (.tail _ (.tail _ (.tail _ (.tail _ (.tail _ (.head _))))))))));rw[a8r]at r1;rw[a8j]at r3;rw[show Rows.laid_strconv_isNotPrint16=_ from Pinned.isNotPrint16_eq]at r5;rw[show Rows.laid_strconv_isNotPrint32=_ from Pinned.isNotPrint32_eq]at r7;rw[show Rows.laid_strconv_isPrint16=_ from Pinned.isPrint16_eq]at r4;rw[show Rows.laid_strconv_isPrint32=_ from Pinned.isPrint32_eq]at r6;rw[show Rows.laid_unicode_utf8_first=_ from Pinned.utf8First_eq]at r2
 have hU:Lib.Utf8Tabs 2 3 W:=
  utf8Tabs_of_reads (ρ:=Tryz.laysQuote_ren) {Tryz.laysQuote with} ⟨by kernel_rfl,by kernel_rfl,by kernel_rfl,by kernel_rfl,by kernel_rfl,by kernel_rfl,by kernel_rfl⟩ r2 r3
 have hT:Lib.PrintTabsAt 4 5 6 7 Lib.goPrintTabs W:=
  printTabs_of_reads (ρ:=Tryz.laysQuote_ren) {Tryz.laysQuote with} ⟨by kernel_rfl,by kernel_rfl,by kernel_rfl,by kernel_rfl,by kernel_rfl,by kernel_rfl,by kernel_rfl,by kernel_rfl,by kernel_rfl,by kernel_rfl⟩ r4 r5 r6 r7
 refine⟨fun a b c d ha hb hc hd=> ?_,fun a b ha hb=> ?_,fun g hg=> ?_⟩
 ·obtain rfl:=Option.some.inj ((show Tryz.prog.globalNamed "strconv.isPrint16" =some 4 by kernel_rfl).symm.trans ha);obtain rfl:=Option.some.inj ((show Tryz.prog.globalNamed "strconv.isNotPrint16" =some 5 by kernel_rfl).symm.trans hb);obtain rfl:=Option.some.inj ((show Tryz.prog.globalNamed "strconv.isPrint32" =some 6 by kernel_rfl).symm.trans hc);obtain rfl:=Option.some.inj ((show Tryz.prog.globalNamed "strconv.isNotPrint32" =some 7 by kernel_rfl).symm.trans hd);exact hT
 ·obtain rfl:=Option.some.inj ((show Tryz.prog.globalNamed "unicode/utf8.first" =some 2 by kernel_rfl).symm.trans ha);obtain rfl:=Option.some.inj ((show Tryz.prog.globalNamed "unicode/utf8.acceptRanges" =some 3 by kernel_rfl).symm.trans hb);exact hU
 ·obtain⟨g',t',cs,fuel,p,hg',hty,hvar,hd⟩:=r1;obtain rfl:=Option.some.inj ((show Tryz.prog.globalNamed "internal/strconv.uint64pow10" =some 1 by kernel_rfl).symm.trans hg');obtain rfl:=Option.some.inj ((show(Tryz.prog.globals[1]?).map (·.type)=some 250 by kernel_rfl).symm.trans hty);unfold Lib.TabIs;rw[hvar,←Lib.cells_of_tab (k:= .u64) (n:=20) Tryz.underlying250 Tryz.underlying109 (by kernel_rfl) (by kernel_rfl) hd]
def a7f(k:IntKind):DataW Unit->Array Value
 | .agg ds=>(ds.map fun| .lit (.int _ n)=>Value.int k n|_=>Go.undef).toArray
 |_=> #[]
noncomputable def ff (os:Os):World:=
 let N:=(World.settled Tryz.prog os).heap.size
 let T:=Lib.goPrintTabs
 let w0:=World.holding Tryz.prog os ⟨#[
  .cells (intCellsOf .u16 T.p16) 259,.cells (intCellsOf .u16 T.n16) 259,.cells (intCellsOf .u32 T.p32) 107,.cells (intCellsOf .u16 T.n32) 259,.cells (intCellsOf .u16 Pinned.isGraphicZ) 259], #[],[]⟩
 let put (h:Array Obj) (g:Nat) (cs:Array Value):Array Obj:=h.modify g fun
  | .cells _ t frozen=> .cells cs t frozen
  |o=>o
 let h1:=put w0.heap 1 (Lib.pow10Tab.map fun z=>Value.int .u64 z).toArray
 let h2:=put h1 2 (Lib.firstTab.map fun z=>Value.int .u8 z).toArray
 let h3:=put h2 3 ((List.range 16).flatMap fun i=>[Value.int .u8 (Lib.accLo i),Value.int .u8 (Lib.accHi i)]).toArray
 let h4:=put h3 4 #[.slice (some ⟨N,0,none⟩) T.p16.length T.p16.length]
 let h5:=put h4 5 #[.slice (some ⟨N+1,0,none⟩) T.n16.length T.n16.length]
 let h6:=put h5 6 #[.slice (some ⟨N+2,0,none⟩) T.p32.length T.p32.length]
 let h7:=put h6 7 #[.slice (some ⟨N+3,0,none⟩) T.n32.length T.n32.length]
 let h8:=put h7 8 #[.slice (some ⟨N+4,0,none⟩) Pinned.isGraphicZ.length Pinned.isGraphicZ.length]
 let h9:=put h8 9 (a7f .u8 Rows.laid_math_bits_deBruijn32tab)
 let h10:=put h9 10 (a7f .u8 Rows.laid_math_bits_deBruijn64tab)
 {w0 with heap:=h10}
noncomputable abbrev N0:Nat:=(World.settled Tryz.prog default).heap.size
theorem a5e(os:Os)(args:Array Value):LaidIn Tryz.prog ((ff os).forCall (fun _ _=>0) ⟨#[],args,[]⟩).memory (lay10.take 4) [9,10,1,3]:=
 LaidIn.of_run [9,10,1,3] 8 (by kernel_rfl) (by kernel_rfl) (by kernel_rfl) (by kernel_rfl)
theorem a56(os:Os)(args:Array Value):LaidIn Tryz.prog ((ff os).forCall (fun _ _=>0) ⟨#[],args,[]⟩).memory [("strconv.isGraphic",Lib.sliceData .u16 Pinned.isGraphicZ)] [8,N0+4]:=
 laidIn_slice (t:=260) (e:=259) (te:=259) Pinned.isGraphicZ (N0+4) (by kernel_rfl) (by kernel_rfl) (by kernel_rfl) (by kernel_rfl) (by kernel_rfl) (by kernel_rfl) (by kernel_rfl) (by kernel_rfl) (of_decide_eq_true (by kernel_rfl)) (of_decide_eq_true (by kernel_rfl))
theorem a6v(os:Os)(args:Array Value):LaidIn Tryz.prog ((ff os).forCall (fun _ _=>0) ⟨#[],args,[]⟩).memory [("strconv.isNotPrint16",Lib.sliceData .u16 Lib.goPrintTabs.n16)] [5,N0+1]:=
 laidIn_slice (t:=260) (e:=259) (te:=259) Lib.goPrintTabs.n16 (N0+1) (by kernel_rfl) (by kernel_rfl) (by kernel_rfl) (by kernel_rfl) (by kernel_rfl) (by kernel_rfl) (by kernel_rfl) (by kernel_rfl) (of_decide_eq_true (by kernel_rfl)) (of_decide_eq_true (by kernel_rfl))
theorem a6t(os:Os)(args:Array Value):LaidIn Tryz.prog ((ff os).forCall (fun _ _=>0) ⟨#[],args,[]⟩).memory [("strconv.isNotPrint32",Lib.sliceData .u16 Lib.goPrintTabs.n32)] [7,N0+3]:=
 laidIn_slice (t:=260) (e:=259) (te:=259) Lib.goPrintTabs.n32 (N0+3) (by kernel_rfl) (by kernel_rfl) (by kernel_rfl) (by kernel_rfl) (by kernel_rfl) (by kernel_rfl) (by kernel_rfl) (by kernel_rfl) (of_decide_eq_true (by kernel_rfl)) (of_decide_eq_true (by kernel_rfl))
theorem a6c(os:Os)(args:Array Value):LaidIn Tryz.prog ((ff os).forCall (fun _ _=>0) ⟨#[],args,[]⟩).memory [("strconv.isPrint16",Lib.sliceData .u16 Lib.goPrintTabs.p16)] [4,N0]:=
 laidIn_slice (t:=260) (e:=259) (te:=259) Lib.goPrintTabs.p16 N0 (by kernel_rfl) (by kernel_rfl) (by kernel_rfl) (by kernel_rfl) (by kernel_rfl) (by kernel_rfl) (by kernel_rfl) (by kernel_rfl) (of_decide_eq_true (by kernel_rfl)) (of_decide_eq_true (by kernel_rfl))
theorem a5a(os:Os)(args:Array Value):LaidIn Tryz.prog ((ff os).forCall (fun _ _=>0) ⟨#[],args,[]⟩).memory [("strconv.isPrint32",Lib.sliceData .u32 Lib.goPrintTabs.p32)] [6,N0+2]:=
 laidIn_slice (t:=108) (e:=107) (te:=107) Lib.goPrintTabs.p32 (N0+2) (by kernel_rfl) (by kernel_rfl) (by kernel_rfl) (by kernel_rfl) (by kernel_rfl) (by kernel_rfl) (by kernel_rfl) (by kernel_rfl) (of_decide_eq_true (by kernel_rfl)) (of_decide_eq_true (by kernel_rfl))
theorem a43(os:Os)(args:Array Value):LaidIn Tryz.prog ((ff os).forCall (fun _ _=>0) ⟨#[],args,[]⟩).memory [("unicode/utf8.first",Rows.laid_unicode_utf8_first)] [2]:=
 LaidIn.of_run [2] 8 (by kernel_rfl) (by kernel_rfl) (by kernel_rfl) (by kernel_rfl)
theorem a8s:Rows.laid_strconv_isGraphic=Lib.sliceData .u16 Pinned.isGraphicZ:=by kernel_rfl
theorem a8x:lay10=lay10.take 4++[("strconv.isGraphic",Lib.sliceData .u16 Pinned.isGraphicZ)]++[("strconv.isNotPrint16",Lib.sliceData .u16 Lib.goPrintTabs.n16)]++[("strconv.isNotPrint32",Lib.sliceData .u16 Lib.goPrintTabs.n32)]++[("strconv.isPrint16",Lib.sliceData .u16 Lib.goPrintTabs.p16)]++[("strconv.isPrint32",Lib.sliceData .u32 Lib.goPrintTabs.p32)]++[("unicode/utf8.first",Rows.laid_unicode_utf8_first)]:=by
 rw[<-a8s,<-Pinned.isNotPrint16_eq,<-Pinned.isNotPrint32_eq,<-Pinned.isPrint16_eq,<-Pinned.isPrint32_eq];rfl
theorem ax5(os:Os)(args:Array Value):laidMet Tryz.prog lay10 ((ff os).forCall (fun _ _=>0) ⟨#[],args,[]⟩).memory:=by
 rw[a8x];exact((((((a5e os args).append (a56 os args) (by kernel_rfl)).append (a6v os args) (by kernel_rfl)).append (a6t os args) (by kernel_rfl)).append (a6c os args) (by kernel_rfl)).append (a5a os args) (by kernel_rfl)).append (a43 os args) (by kernel_rfl)|>.met
end Go.Proofs.Am
