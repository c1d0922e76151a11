/- BThree. -/
import Derived.Test.YtloaichcpoboeaaGreatDoorDFour
import Derived.Test.YtloaichcpoboeaaGreatDoorAmZ
import Derived.RangeFuncNested
import Derived.RangeFuncBound
import Derived.RangeFuncCalls
import Derived.RangeFuncLeaves
import Derived.Shelf.Abstract
import Derived.Shelf.RegionOpen
import Derived.WalkKit
import Derived.OwnWalkIn
import Derived.TacticsInMore
import Derived.LoopNIn
import Derived.LoopIn
import Derived.RangeFuncBox
import Derived.Maps.AppendAt
set_option linter.unusedSimpArgs false
set_option linter.unusedVariables false
namespace Go.Proofs.Am
open Go Go.RowKit
open Go.Proofs
def want(appl ref order:List Int):List Int:=order.filter fun k=>decide (k∈appl)&& !decide (k∈ref)
end Go.Proofs.Am

/- admission.wanted: an iterator written by hand; admission.Admit ranges over it. -/
namespace Go.Proofs.Am
open Go Go.RowKit Go.Shelf
open Go.Proofs
attribute [local go_sem] Oper.semAt_some
def KeepC(S:Addr->Prop)(A B:World):Prop:=A.heap.size<=B.heap.size/\∀a,S a->B.cell? a=A.cell? a
def Nums(S:Addr->Prop)(W:World)(v:Value)(l:List Int):Prop:=RP (fun a u=>W.cell? a=some u/\S a) v (.vs (l.map i1))
theorem Nums.keep{S:Addr->Prop}{A B:World}{v:Value}{l:List Int}(h:Nums S A v l)(hk:KeepC S A B):Nums S B v l:=
 RP.mono (fun a u ⟨h1,h2⟩=>⟨(hk.2 a h2).trans h1,h2⟩) h
theorem KeepC.refl(S:Addr->Prop)(A:World):KeepC S A A:=⟨Nat.le_refl _,fun _ _=>rfl⟩
theorem KeepC.trans{S:Addr->Prop}{A B C:World}(h:KeepC S A B)(k:KeepC S B C):KeepC S A C:=⟨Nat.le_trans h.1 k.1,fun a ha=>(k.2 a ha).trans (h.2 a ha)⟩
end Go.Proofs.Am

/- admission.Admit. -/
namespace Go.Proofs.Am
open Go Go.RowKit Go.Shelf
open Go.Proofs
attribute [local go_sem] Oper.semAt_some
theorem Nums.wide{S T:Addr->Prop}{W:World}{v:Value}{l:List Int}(h:Nums S W v l)(hS: ∀a,S a->T a):Nums T W v l:=
 RP.mono (fun a u ⟨h1,h2⟩=>⟨h1,hS a h2⟩) h
end Go.Proofs.Am
namespace Go.Proofs.Am
open Go Go.RowKit Go.Shelf
open Go.Proofs
end Go.Proofs.Am

/- Plain lists: sorted, each number once. -/
namespace Go.Proofs.Am
open Go Go.RowKit
open Go.Proofs
theorem qt: ∀{l m:List Int},l.Pairwise (· < ·)->m.Pairwise (· < ·)->(∀x,x∈l↔x∈m)->l=m
 |[],[],_,_,_=>rfl
 |[],b::m,_,_,h=>by have:=(h b).2 (by simp);simp at this
 |a::l,[],_,_,h=>by have:=(h a).1 (by simp);simp at this
 |a::l,b::m,hl,hm,h=>by
  obtain⟨h1,h2⟩:=List.pairwise_cons.1 hl;obtain⟨h3,h4⟩:=List.pairwise_cons.1 hm
  have e:a=b:=by
   have ha:=(h a).1 (by simp);have hb:=(h b).2 (by simp);rcases List.mem_cons.1 ha with e|ha
   ·exact e
   ·rcases List.mem_cons.1 hb with e|hb
    ·exact e.symm
    ·have:=h1 b hb;have:=h3 a ha;omega
  subst e;congr 1;refine qt h2 h4 fun x=>⟨fun hx=> ?_,fun hx=> ?_⟩
  ·rcases List.mem_cons.1 ((h x).1 (List.mem_cons_of_mem _ hx))with e|h'
   ·have:=h1 x hx;omega
   ·exact h'
  ·rcases List.mem_cons.1 ((h x).2 (List.mem_cons_of_mem _ hx))with e|h'
   ·have:=h3 x hx;omega
   ·exact h'
theorem ah1(c:Int->Bool)(n:Nat):(fc c n).Pairwise (· < ·):=by
 refine List.Pairwise.filter _ ?_;rw[List.pairwise_map];exact List.pairwise_lt_range.imp fun h=>by omega
theorem o0(d:Array Int)(hd: ∀i j,i<j->j<d.size->d[i]!<=d[j]!): ∀m,m<=d.size->
  (Lib.compactUpTo d m).Pairwise (· < ·)/\(∀x,x∈Lib.compactUpTo d m↔∃j,j<m/\d[j]! =x)
 |0,_=>by simp[Lib.compactUpTo]
 |m+1,hm=>by
  obtain⟨h1,h2⟩:=o0 d hd m (by omega);rw[Lib.compactUpTo_succ]
  cases hk:Lib.keeps d m with
  |true=>
   simp only[if_true];refine⟨?_,fun x=> ?_⟩
   ·rw[List.pairwise_append];refine⟨h1,by simp,fun a ha b hb=> ?_⟩;simp at hb;subst hb;obtain⟨j,hj,rfl⟩:=(h2 a).1 ha;have hne:m=0\/d[m]!≠d[m - 1]!:=by simpa [Lib.keeps] using hk
    have h3:d[j]!<=d[m - 1]!:=by
     by_cases e:j=m - 1
     ·rw[e];omega
     ·exact hd j (m - 1) (by omega) (by omega)
    have h4:d[m - 1]!<=d[m]!:=hd (m - 1) m (by omega) (by omega);rcases hne with h|h
    ·omega
    ·omega
   ·rw[List.mem_append,h2];constructor
    ·rintro(⟨j,hj,e⟩|h)
     ·exact⟨j,by omega,e⟩
     ·simp at h;exact⟨m,by omega,h.symm⟩
    ·rintro⟨j,hj,e⟩;by_cases hjm:j=m
     ·right;simp[<-e,hjm]
     ·left;exact⟨j,by omega,e⟩
  |false=>
   simp only[Bool.false_eq_true,if_false,List.append_nil];refine⟨h1,fun x=> ?_⟩;rw[h2];have hne: ¬(m=0\/d[m]!≠d[m - 1]!):=by simpa [Lib.keeps] using hk
   constructor
   ·rintro⟨j,hj,e⟩;exact⟨j,by omega,e⟩
   ·rintro⟨j,hj,e⟩;by_cases hjm:j=m
    ·subst hjm;refine⟨j - 1,by omega,?_⟩
     have:d[j]! =d[j - 1]!:=by
      by_cases h:d[j]! =d[j - 1]!
      ·exact h
      ·exact absurd (.inr h) hne
     rw[<-this];exact e
    ·exact⟨j,by omega,e⟩
theorem beg(l:List Int)(x:Int):x∈srt l↔x∈l:=List.mem_mergeSort
theorem amg(l:List Int):(srt l).Pairwise (· <= ·):=by
 have:=List.pairwise_mergeSort (le:=fun x y:Int=>decide (x<=y)) (fun a b c h1 h2=>by simp at*;omega) (fun a b=>by simp;omega) l;exact this.imp fun h=>by simpa using h
theorem a7x(l:List Int)(h: ∀x∈l,0<=x/\x<64):a3b (srt l)=fc (fun k=>decide (k∈l)) 64:=by
 have hs:=amg l;have hg: ∀i,i<(srt l).length->(srt l).toArray[i]! =(srt l)[i]!:=fun i hi=>by simp
 obtain⟨h1,h2⟩:=o0 (srt l).toArray (fun i j hij hj=>by
  have hj':j<(srt l).length:=by simpa using hj
  have:=List.pairwise_iff_getElem.1 hs i j (by omega) hj' hij;simpa [getElem!_pos,hj',show i<(srt l).length by omega] using this) (srt l).length (by simp)
 refine qt h1 (ah1 _ _) fun x=> ?_
 have h3:x∈a3b (srt l)↔x∈l:=by
  show x∈Lib.compactUpTo (srt l).toArray (srt l).length↔_;rw[h2,<-beg];constructor
  ·rintro⟨j,hj,rfl⟩;simp[getElem!_pos,hj]
  ·intro hx;obtain⟨j,hj,rfl⟩:=List.getElem_of_mem hx;exact⟨j,hj,by simp[getElem!_pos,hj]⟩
 rw[h3,qq];constructor
 ·intro hx;exact⟨h x hx,by simpa using hx⟩
 ·rintro⟨_,hx⟩;simpa using hx
end Go.Proofs.Am
