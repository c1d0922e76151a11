/- BThree. -/
import Derived.Test.YtlaoaleoeknhoaaGreatDoorDOne
import Derived.RangeFuncNested
import Derived.RangeFuncBound
import Derived.RangeFuncCalls
import Derived.RangeFuncLeaves
import Derived.Shelf.Abstract
import Derived.Shelf.RegionOpen
import Derived.OwnWalkIn
import Derived.TacticsInMore
import Derived.LoopNIn
import Derived.LoopIn
import Derived.RangeFuncBox
import Derived.Maps.AppendAt
set_option linter.unusedSimpArgs false
set_option linter.unusedVariables false
set_option maxHeartbeats 1000000
set_option maxRecDepth 100000
namespace Go.Proofs.Am
open Go Go.RowKit
open Go.Proofs
theorem azh(a b:LI)(h:big a.length)(g:big b.length):DN 93 [.vs (a.map i1),.vs (b.map i1)] (.vs ((bj (λk=>decide (k∈a)&& !decide (k∈b)) 64).map i1)):=by refine ag_ Tryz.func93 Tryz.ntmps93 Tryz.results93 ?_;simp only[go_sem];generalize l:(λk=>decide (k∈a)&& !decide (k∈b))=c;have f: ∀k,c k=(decide (k∈a)&& !decide (k∈b)):=λk=>(by rw[<-l]);refine bm 5 99 3 1 false ?_ ?_ ?_ Aa;{simp only[go_sem];refine lo_ 0 (λi:Nat=>[(0,.vs (a.map i1)),(1,.vs (b.map i1)),(5,.os 99 (bj c i).length),(6,.int .i64 i)]) (λi=>[(99,.arr 3 1 false ((bj c i).map i1))]) (λi=>i<=64) (λi=>64 - i) ?_ ?_ ?_;{simp};{simp only[bj,b58,b0o,b2t];simp only[go_sem]};.intro i hi;have o:=du c i;have hs:=jg c i;rw[f]at hs;have fin: ∀t:Bool,(decide ((i:Int)∈a)&& !decide ((i:Int)∈b))=t->bj c (i+1)=bj c i++(if t then [(i:Int)]else []):=λt n=>(by rw[hs,n]);by_cases j:i<64;{have hlt:(i:Int)<64:=Aa;simp only[go_sem,hlt];refine Qq (pz a i h) [] ?_;by_cases d:(i:Int)∈a;{simp only[go_sem,d];refine Qq (pz b i g) [] ?_;by_cases e:(i:Int)∈b;{have:=fin false D4;simp only[go_sem,e];refine⟨i+1,Aa,?_⟩;simp only[go_sem,this,b0d,b0a];rw[ah]<;>omega};.have:=fin true (by simp[d,e]);simp only[go_sem,e];refine⟨Aa,i+1,Aa,?_⟩;simp only[go_sem,this,b0d,b0a];rw[ah]<;>omega};.have:=fin false Bi;simp only[go_sem,d];refine⟨i+1,Aa,?_⟩;simp only[go_sem,this,b0d,b0a];rw[ah]<;>omega};.have:i=64:=Aa;have m: ¬((i:Int)<64):=Aa;simp only[go_sem,m];subst this;rfl};{simp only[go_sem]};.simp only[go_sem]
def want(appl ref order:LI):LI:=order.filter λk=>decide (k∈appl)&& !decide (k∈ref)
theorem a1g{appl ref a:LI}{i:Nat}(h:i<a.length):want appl ref (a.take (i+1))=want appl ref (a.take i)++(if decide (el a i∈appl)&& !decide (el a i∈ref)then [el a i]else []):=by rw[bt h,want,b2p,b27,b2t];rfl
theorem atm(appl ref a:LI)(i:Nat):(want appl ref (a.take i)).length<=a.length:=by refine b1l (b05 _ _) ?_;simp;omega
theorem aq2(a b appl ref:LI)(q:Int)(l:a.length<=1000000)(h:big b.length)(k:big appl.length)(j:big ref.length):DN 215 [.vs (a.map i1),.vs (b.map i1),.vs (appl.map i1),.vs (ref.map i1),.int .i64 q] (.vs ((apq b q (want appl ref a) []).map i1)):=by refine ag_ Tryz.func215 Tryz.ntmps215 Tryz.results215 ?_;simp only[go_sem];refine bm 11 99 3 1 false ?_ ?_ ?_ Aa;{refine lo_ 0 (λi:Nat=>[(0,.vs (a.map i1)),(1,.vs (b.map i1)),(2,.vs (appl.map i1)),(3,.vs (ref.map i1)),(4,.int .i64 q),(11,.os 99 (want appl ref (a.take i)).length),(12,.int .i64 i)]) (λi=>[(99,.arr 3 1 false ((want appl ref (a.take i)).map i1))]) (λi=>i<=a.length) (λi=>a.length - i) ?_ ?_ ?_;{simp};{simp only[go_sem,b2d,want,b2t]};.intro i hi;have f:=atm appl ref a i;by_cases c:i<a.length;{have hlt:(i:Int)<(a.length:Int):=Aa;have hs:=a1g (appl:=appl) (ref:=ref) c;simp only[go_sem,hlt,c];refine Qq (pz appl (el a i) k) [] ?_;by_cases d:el a i∈appl;{simp only[go_sem,d];(repeat refine an_ ?_);refine Qq (pz ref (el a i) j) [] ?_;by_cases e:el a i∈ref;{rw[show(decide (el a i∈appl)&& !decide (el a i∈ref))=false from D4]at hs;simp only[go_sem,e];refine⟨i+1,Aa,?_⟩;simp only[go_sem,hs,b0d,b0a];rw[ah]<;>omega};.rw[show(decide (el a i∈appl)&& !decide (el a i∈ref))=true by simp[d,e]]at hs;simp only[go_sem,e,c];(repeat refine an_ ?_);refine⟨i+1,Aa,?_⟩;simp only[go_sem,hs,b0d,b0a];rw[ah]<;>omega};.rw[show(decide (el a i∈appl)&& !decide (el a i∈ref))=false from Bi]at hs;simp only[go_sem,d];refine⟨i+1,Aa,?_⟩;simp only[go_sem,hs,b0d,b0a];rw[ah]<;>omega};.have:i=a.length:=Aa;have g: ¬((i:Int)<(a.length:Int)):=Aa;simp only[go_sem,g];subst this;have f:(want appl ref a).length<=a.length:=b05 _ _;rw[b0n];refine Qq (bpg (want appl ref a) b q Af h Aa) [] ?_;simp only[go_sem]};{simp only[go_sem]};.simp only[go_sem]
def a4z(l:LI)(p:Nat)(me:Int)(n:Nat):Int:=a31 (IntKind.i64.wrap (IntKind.i64.wrap (me+1)+am l p (if 1<IntKind.i64.wrap ((n:Int) - 1)then IntKind.i64.wrap ((n:Int) - 1)else 1))) n
def rp(l:LI)(p:Nat)(me:Int)(n:Nat):LI:=bj (λk=>decide (k∈aho l n p)&& !decide (k∈[me])) 64
def tk(l:LI)(p:Nat)(me:Int)(n:Nat)(ti:Int):Drf×Nat:=
 let o:=a4z l p me n
 let p1:=dp l p
 let c:=am l p1 10
 let p2:=dp l p1
 if c=0 then(⟨2,am l p2 4,0,0,[],[]⟩,dp l p2)
 else if c=1\/c=2 then(ur,p2)
 else if c=3 then(⟨12,IntKind.i64.wrap (1+am l (aeh l n p2) (if 1<((rp l p2 me n).length:Int)then((rp l p2 me n).length:Int)else 1)),0,0,rp l p2 me n,[]⟩,dp l (aeh l n p2))
 else if c=4 then(⟨13,o,am l p2 n,0,[],[]⟩,dp l p2)
 else if c=5 then(⟨14,am l p2 2,0,0,qk l n 0 (dp l p2),[]⟩,u5 l n (dp l p2))
 else if c=6 then(⟨15,0,IntKind.i64.wrap (2+am l p2 2),am l (dp l p2) n,[],[]⟩,dp l (dp l p2))
 else(⟨1,o,IntKind.i64.wrap (1+am l p2 3),IntKind.i64.wrap (ti+el [100,30,5] (am l (dp l p2) 3).toNat),[],[]⟩,dp l (dp l p2))
theorem a07(l:LI)(n p:Nat)(a:n<=1000):(aho l n p).length<=1000:=by have:=adi l n 0 p;unfold aho;split;{simp};.omega
theorem a4u(l:LI)(n p:Nat)(a:n<=1000):big (aho l n p).length:=by have:=a07 l n p a;simp only[big];omega
theorem atx(l:LI)(n p:Nat)(a:p<=l.length):aeh l n p<=l.length:=by unfold aeh;split;{exact d8 (vf l n p a)};.exact vf l n p a
theorem az2(l:LI)(p:Nat)(b:Int)(n:Nat)(g:Int)(e:big l.length)(A:p<=l.length)(h0:0<n)(x:n<=1000):Den Tryz.prog 47 [.ptr 1000000 0,.int .i64 b,.int .i64 n,.int .i64 g] [qf l p] (.agg (dr (tk l p b n g).1)) [] [qf l (tk l p b n g).2]:=by
 refine ah_ [] [1000000] Tryz.func47 Tryz.ntmps47 Tryz.results47 ?_;generalize a:tk l p b n g=m;have i:dp l p<=l.length:=d8 A;have d:dp l (dp l p)<=l.length:=d8 i;have f:dp l (dp l (dp l p))<=l.length:=d8 d;have D:IntKind.i64.wrap ((n:Int) - 1)=(n:Int) - 1:=Ab
 have y:(if 1<IntKind.i64.wrap ((n:Int) - 1)then IntKind.i64.wrap ((n:Int) - 1)else 1)<9223372036854775808:=by rw[D];split<;>omega
 simp only[go_sem];refine Qq (bh l p _ e A y) [1000000] ?_;simp only[go_sem];refine Qq (bqg (IntKind.i64.wrap (IntKind.i64.wrap (b+1)+am l p (if 1<IntKind.i64.wrap ((n:Int) - 1)then IntKind.i64.wrap ((n:Int) - 1)else 1))) n Aa) [] ?_;simp only[go_sem];refine Qq (bh l (dp l p) 10 e i Aa) [1000000] ?_;have B:a31 (IntKind.i64.wrap (IntKind.i64.wrap (b+1)+am l p (if 1<IntKind.i64.wrap ((n:Int) - 1)then IntKind.i64.wrap ((n:Int) - 1)else 1))) n=a4z l p b n:=rfl;rw[B];generalize q:am l (dp l p) 10=c;generalize j:a4z l p b n=o
 have h:tk l p b n g=(if c=0 then((⟨2,am l (dp l (dp l p)) 4,0,0,[],[]⟩,dp l (dp l (dp l p))):Drf×Nat)
   else if c=1\/c=2 then(ur,dp l (dp l p))
   else if c=3 then(⟨12,IntKind.i64.wrap (1+am l (aeh l n (dp l (dp l p))) (if 1<((rp l (dp l (dp l p)) b n).length:Int)then((rp l (dp l (dp l p)) b n).length:Int)else 1)),0,0,rp l (dp l (dp l p)) b n,[]⟩,dp l (aeh l n (dp l (dp l p))))
   else if c=4 then(⟨13,o,am l (dp l (dp l p)) n,0,[],[]⟩,dp l (dp l (dp l p)))
   else if c=5 then(⟨14,am l (dp l (dp l p)) 2,0,0,qk l n 0 (dp l (dp l (dp l p))),[]⟩,u5 l n (dp l (dp l (dp l p))))
   else if c=6 then(⟨15,0,IntKind.i64.wrap (2+am l (dp l (dp l p)) 2),am l (dp l (dp l (dp l p))) n,[],[]⟩,dp l (dp l (dp l (dp l p))))
   else(⟨1,o,IntKind.i64.wrap (1+am l (dp l (dp l p)) 3),IntKind.i64.wrap (g+el [100,30,5] (am l (dp l (dp l (dp l p))) 3).toNat),[],[]⟩,dp l (dp l (dp l (dp l p))))):=by
  rw[<-q,<-j];rfl
 rw[h]at a;clear h;generalize dp l (dp l p)=p2 at*;clear q j B;by_cases u:c=0
 .rw[if_pos u]at a;subst a;simp only[go_sem,u];refine Qq (bh l _ 4 e d Aa) [1000000] ?_;simp only[go_sem]
 rw[if_neg u]at a;by_cases z:c=1
 .rw[if_pos (.inl z)]at a;subst a;simp only[go_sem,z];exact⟨rfl,rfl,rfl,rfl,rfl,rfl⟩
 by_cases v:c=2
 .rw[if_pos (.inr v)]at a;subst a;simp only[go_sem,v];exact⟨rfl,rfl,rfl,rfl,rfl,rfl⟩
 rw[if_neg Aa]at a;by_cases t:c=3
 .rw[if_pos t]at a;subst a;simp only[go_sem,t];refine Qq (bd5 l p2 n e d x) [1000000] ?_;simp only[go_sem];refine Qq (azh (aho l n p2) [b] (a4u l n p2 x) Ap) [] ?_;have E:bj (λk=>decide (k∈aho l n p2)&& !decide (k∈[b])) 64=rp l p2 b n:=rfl;rw[E];have C:(rp l p2 b n).length<=64:=du _ 64;have w:aeh l n p2<=l.length:=atx l n p2 d;simp only[go_sem];refine Qq (bh l (aeh l n p2) (if 1<((rp l p2 b n).length:Int)then((rp l p2 b n).length:Int)else 1) e w (by split<;>omega)) [1000000] ?_;simp only[go_sem]
 rw[if_neg t]at a;by_cases c4:c=4
 .rw[if_pos c4]at a;subst a;simp only[go_sem,c4];refine Qq (bh l p2 n e d Aa) [1000000] ?_;simp only[go_sem]
 rw[if_neg c4]at a;by_cases r:c=5
 .rw[if_pos r]at a;subst a;simp only[go_sem,r];refine Qq (bh l p2 2 e d Aa) [1000000] ?_;simp only[go_sem];refine Qq (a8t l (dp l p2) n e f x) [1000000] ?_;simp only[go_sem]
 rw[if_neg r]at a;by_cases s:c=6
 .rw[if_pos s]at a;subst a;simp only[go_sem,s];refine Qq (bh l p2 2 e d Aa) [1000000] ?_;simp only[go_sem];refine Qq (bh l (dp l p2) n e f Aa) [1000000] ?_;simp only[go_sem]
 rw[if_neg s]at a;subst a;simp only[go_sem,u,z,v,t,c4,r,s];refine Qq (bh l p2 3 e d Aa) [1000000] ?_;simp only[go_sem];refine Qq (ze l (dp l p2) [100,30,5] e f Ad Ap) [1000000] ?_;simp only[go_sem]
end Go.Proofs.Am

/- admission.wanted: an iterator written by hand; admission.Admit ranges over it. -/
namespace Go.Proofs.Am
open Go Go.RowKit Go.Shelf
open Go.Proofs
attribute [local go_sem] Oper.semAt_some
def KeepC(S:Addr->Prop)(A B:World):Prop:=A.heap.size<=B.heap.size/\∀a,S a->B.cell? a=A.cell? a
def Nums(S:Addr->Prop)(W:World)(v:Value)(l:LI):Prop:=RP (λa u=>W.cell? a=some u/\S a) v (.vs (l.map i1))
theorem Nums.keep{S:Addr->Prop}{A B:World}{v:Value}{l:LI}(h:Nums S A v l)(d:KeepC S A B):Nums S B v l:=
 RP.mono (λa u ⟨c,b⟩=>⟨(d.2 a b).trans c,b⟩) h
theorem KeepC.refl(S:Addr->Prop)(A:World):KeepC S A A:=⟨b0f _,λ_ _=>rfl⟩
theorem KeepC.trans{S:Addr->Prop}{A B C:World}(h:KeepC S A B)(k:KeepC S B C):KeepC S A C:=⟨b1l h.1 k.1,λa b=>(k.2 a b).trans (h.2 a b)⟩
end Go.Proofs.Am

/- admission.Admit. -/
namespace Go.Proofs.Am
open Go Go.RowKit Go.Shelf
open Go.Proofs
attribute [local go_sem] Oper.semAt_some
theorem Nums.wide{S T:Addr->Prop}{W:World}{v:Value}{l:LI}(h:Nums S W v l)(d: ∀a,S a->T a):Nums T W v l:=
 RP.mono (λa u ⟨b,c⟩=>⟨b,d a c⟩) h
end Go.Proofs.Am
namespace Go.Proofs.Am
open Go Go.RowKit Go.Shelf
open Go.Proofs
end Go.Proofs.Am

/- Plain lists: sorted, each number once. -/
namespace Go.Proofs.Am
open Go Go.RowKit
open Go.Proofs
theorem vv: ∀{l m:LI},l.Pairwise (· < ·)->m.Pairwise (· < ·)->(∀x,x∈l↔x∈m)->l=m
 |[],[],_,_,_=>rfl
 |[],b::m,_,_,h=>by have:=(h b).2 Ad;simp at this
 |a::l,[],_,_,h=>by have:=(h a).1 Ad;simp at this
 |a::l,b::m,hl,hm,h=>by
  obtain⟨h1,h2⟩:=b10.1 hl;obtain⟨h3,h4⟩:=b10.1 hm
  have e:a=b:=by
   have d:=(h a).1 Ad;have c:=(h b).2 Ad;rcases b0p.1 d with e|d
   .exact e
   .rcases b0p.1 c with e|c
    .exact e.symm
    .have:=h1 b c;have:=h3 a d;omega
  subst e;congr 1;refine vv h2 h4 λx=>⟨λhx=> ?_,λhx=> ?_⟩
  .rcases b0p.1 ((h x).1 (b3z _ hx))with e|h'
   .have:=h1 x hx;omega
   .exact h'
  .rcases b0p.1 ((h x).2 (b3z _ hx))with e|h'
   .have:=h3 x hx;omega
   .exact h'
theorem ak5(c:Int->Bool)(n:Nat):(bj c n).Pairwise (· < ·):=by refine b7n _ ?_;rw[b4f];exact b5k.imp λh=>Aa
theorem tj(d:Array Int)(hd: ∀i j,i<j->j<d.size->d[i]!<=d[j]!): ∀m,m<=d.size->
  (Lib.compactUpTo d m).Pairwise (· < ·)/\(∀x,x∈Lib.compactUpTo d m↔∃j,j<m/\d[j]! =x)
 |0,_=>by simp[Lib.compactUpTo]
 |m+1,hm=>by
  obtain⟨h1,h2⟩:=tj d hd m Aa;rw[Lib.compactUpTo_succ]
  cases hk:Lib.keeps d m with
  |true=>
   simp only[b4i];refine⟨?_,λx=> ?_⟩
   .rw[b4d];refine⟨h1,Ad,λa ha b hb=> ?_⟩;simp at hb;subst hb;obtain⟨j,hj,rfl⟩:=(h2 a).1 ha;have hne:m=0\/d[m]!≠d[m - 1]!:=Cr
    have g:d[j]!<=d[m - 1]!:=by
     by_cases e:j=m - 1
     .rw[e];omega
     .exact hd j (m - 1) Aa Aa
    have f:d[m - 1]!<=d[m]!:=hd (m - 1) m Aa Aa;rcases hne with h|h
    .omega
    .omega
   .rw[b0j,h2];constructor
    .rintro(⟨j,hj,e⟩|h)
     .exact⟨j,Aa,e⟩
     .simp at h;exact⟨m,Aa,h.symm⟩
    .rintro⟨j,hj,e⟩;by_cases c:j=m
     .right;simp[<-e,c]
     .left;exact⟨j,Aa,e⟩
  |false=>
   simp only[b12,b25,b00];refine⟨h1,λx=> ?_⟩;rw[h2];have hne: ¬(m=0\/d[m]!≠d[m - 1]!):=Cr
   constructor
   .rintro⟨j,hj,e⟩;exact⟨j,Aa,e⟩
   .rintro⟨j,hj,e⟩;by_cases c:j=m
    .subst c;refine⟨j - 1,Aa,?_⟩
     have:d[j]! =d[j - 1]!:=by
      by_cases h:d[j]! =d[j - 1]!
      .exact h
      .exact absurd (.inr h) hne
     rw[<-this];exact e
    .exact⟨j,Aa,e⟩
theorem bjn(l:LI)(x:Int):x∈srt l↔x∈l:=List.mem_mergeSort
theorem aq0(l:LI):(srt l).Pairwise (· <= ·):=by have:=b2w (le:=λx y:Int=>decide (x<=y)) (λa b c d e=>by simp at*;omega) (λa b=>Ag) l;exact this.imp λh=>An
theorem bfk(l:LI)(h: ∀x∈l,0<=x/\x<64):a9c (srt l)=bj (λk=>decide (k∈l)) 64:=by
 have hs:=aq0 l;have m: ∀i,i<(srt l).length->(srt l).toArray[i]! =(srt l)[i]!:=λi g=>Ad
 obtain⟨d,e⟩:=tj (srt l).toArray (λi j c a=>by
  have b:j<(srt l).length:=A6
  have:=b1i.1 hs i j Aa b c;simpa [b3m,b,show i<(srt l).length from Aa] using this) (srt l).length Ad
 refine vv d (ak5 _ _) λx=> ?_
 have f:x∈a9c (srt l)↔x∈l:=by show x∈Lib.compactUpTo (srt l).toArray (srt l).length↔_;rw[e,<-bjn];constructor;{rintro⟨j,a,rfl⟩;simp[b3m,a]};.intro hx;obtain⟨j,a,rfl⟩:=b4k hx;exact⟨j,a,by simp[b3m,a]⟩
 rw[f,w9];constructor
 .intro hx;exact⟨h x hx,by simpa using hx⟩
 .rintro⟨_,hx⟩;simpa using hx
end Go.Proofs.Am
