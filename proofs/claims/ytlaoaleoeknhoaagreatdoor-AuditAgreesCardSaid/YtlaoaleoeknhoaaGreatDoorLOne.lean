/- LOne. -/
import Derived.Test.YtlaoaleoeknhoaaGreatDoorAmSF
import Derived.SevenTiedAt
import Derived.Test.YtlaoaleoeknhoaaGreatDoorRows
import Derived.ChangeArms
import Derived.ChangeSlices
import Derived.Lib.LaidU8
import Derived.Lib.LaidPrint
import Derived.Lib.LaidSlice
import Derived.Lib.LaidIn
import Derived.PinnedBridge
import Derived.Deep.DeepHandedRow
import Derived.Deep.DeepWitnessRowRef
import Derived.ProofKit
import Derived.OpenShut
set_option linter.unusedSimpArgs false
set_option linter.unusedVariables false
set_option maxRecDepth 1000000
namespace Go.Proofs.Am
open Go Go.RowKit Tryz
open Go.Proofs
open Go
variable {σ:ASt}{n:Nat}{t:TypeId}{seats:LI}{v:List Vt}{α:Type}
def asc(l:LI):Prop:=l.Pairwise (· < ·)
theorem a6b{l m:LI}(c:asc l)(d:asc m)(h: ∀k,k∈l↔k∈m):l=m:=by have e:l.Nodup:=c.imp λh=>Aa;have f:m.Nodup:=d.imp λh=>Aa;exact b47 (λa b _ _ g i=>Aa) c d ((b6b e f).2 h)
theorem sf: ∀(l:LI) (n k:Int),k∈aeq l n↔k=n\/k∈l
 |[],n,k=>by simp[aeq]
 |a::l,n,k=>by
  have ih:=sf l n k;simp only[aeq];split
  .simp only[b0p,ih];constructor
   .rintro(h|h|h)
    .exact .inr (.inl h)
    .exact .inl h
    .exact .inr (.inr h)
   .rintro(h|h|h)
    .exact .inr (.inl h)
    .exact .inl h
    .exact .inr (.inr h)
  .split
   .rename_i h;simp only[b0p];constructor
    .exact .inr
    .rintro(h2|h2)
     .exact .inl Aa
     .exact h2
   .simp only[b0p]
theorem auf: ∀{l:LI} (n:Int),asc l->asc (aeq l n)
 |[],n,_=>by simp[aeq,asc]
 |a::l,n,h=>by
  have h':=b10.1 h;simp only[aeq];split
  .rename_i hlt;refine b10.2 ⟨λb c=> ?_,auf n h'.2⟩;rcases(sf l n b).1 c with rfl|c
   .exact hlt
   .exact h'.1 b c
  .split
   .exact h
   .rename_i h1 h2;refine b10.2 ⟨λb c=> ?_,h⟩;rcases b0p.1 c with rfl|c
    .omega
    .have:=h'.1 b c;omega
theorem agi(l:LI):(srt l).Pairwise (· <= ·):=by have:=b2w (le:=λx y:Int=>decide (x<=y)) (λa b c d e=>by simp at*;omega) (λa b=>Ag) l;simpa [srt] using this
theorem aq1(l:LI)(k:Int):k∈srt l↔k∈l:=(b2e _ _).mem_iff
theorem bhd{l:LI}(h:l.Nodup):asc (srt l):=by have c:=agi l;have d:(srt l).Nodup:=(b2e _ _).nodup_iff.2 h;exact(c.and d).imp λ⟨a,b⟩=>Aa
structure TwInv(v:List Vt)(i:Nat)(M:List (Int×Ct))(T:List (Int×Unit)):Prop where
 i1: ∀p∈M,∃a,a<i/\(el v a).k=p.1/\(el v a).x=p.2
 i2: ∀a,a<i->∃p∈M,p.1=(el v a).k
 i3: ∀p∈M,∀q∈M,p.1=q.1->p=q
 i4:(T.map (·.1)).Nodup
 i5: ∀n,n∈T.map (·.1)↔∃a,a<i/\∃p∈M,p.1=n/\(el v a).k=n/\(el v a).x≠p.2
theorem avt(d:Array Int)(hd: ∀i j,i<j->j<d.size->d[i]!<=d[j]!): ∀m,m<=d.size->
  (Lib.compactUpTo d m).Pairwise (· < ·)/\(∀x,x∈Lib.compactUpTo d m↔∃j,j<m/\d[j]! =x)
 |0,_=>by simp[Lib.compactUpTo]
 |m+1,hm=>by
  obtain⟨h1,h2⟩:=avt d hd m Aa;rw[Lib.compactUpTo_succ]
  cases hk:Lib.keeps d m with
  |true=>
   simp only[b4i];refine⟨?_,λx=> ?_⟩
   .rw[b4d];refine⟨h1,Ad,λa ha b hb=> ?_⟩;simp at hb;subst hb;obtain⟨j,hj,rfl⟩:=(h2 a).1 ha;have hne:m=0\/d[m]!≠d[m - 1]!:=Cr
    have g:d[j]!<=d[m - 1]!:=by
     by_cases e:j=m - 1
     .rw[e];omega
     .exact hd j (m - 1) Aa Aa
    have f:d[m - 1]!<=d[m]!:=hd (m - 1) m Aa Aa;rcases hne with h|h
    .omega
    .omega
   .rw[b0j,h2];constructor
    .rintro(⟨j,hj,e⟩|h)
     .exact⟨j,Aa,e⟩
     .simp at h;exact⟨m,Aa,h.symm⟩
    .rintro⟨j,hj,e⟩;by_cases c:j=m
     .right;simp[<-e,c]
     .left;exact⟨j,Aa,e⟩
  |false=>
   simp only[b12,b25,b00];refine⟨h1,λx=> ?_⟩;rw[h2];have hne: ¬(m=0\/d[m]!≠d[m - 1]!):=Cr
   constructor
   .rintro⟨j,hj,e⟩;exact⟨j,Aa,e⟩
   .rintro⟨j,hj,e⟩;by_cases c:j=m
    .subst c;refine⟨j - 1,Aa,?_⟩
     have:d[j]! =d[j - 1]!:=by
      by_cases h:d[j]! =d[j - 1]!
      .exact h
      .exact absurd (.inr h) hne
     rw[<-this];exact e
    .exact⟨j,Aa,e⟩
theorem ahz(l:LI):asc (nk l)/\∀k,k∈nk l↔k∈l:=by
 have hs:=agi l
 obtain⟨d,e⟩:=avt (srt l).toArray (λi j c a=>by
  have b:j<(srt l).length:=A6
  have:=b1i.1 hs i j Aa b c;simpa [b3m,b,show i<(srt l).length from Aa] using this) (srt l).length Ad
 refine⟨d,λx=> ?_⟩;show x∈Lib.compactUpTo (srt l).toArray (srt l).length↔_;rw[e,<-aq1];constructor
 .rintro⟨j,a,rfl⟩;simp[b3m,a]
 .intro hx;obtain⟨j,a,rfl⟩:=b4k hx;exact⟨j,a,by simp[b3m,a]⟩
structure CnSpec(R:Ct->Int->Prop)(l:List Cn):Prop where
 r1:l.Pairwise λa b=>nc a.x b.x<0
 r2: ∀n∈l,asc n.ks
 r3: ∀x k,(∃n∈l,n.x=x/\k∈n.ks)↔R x k
 r4: ∀n∈l,n.ks≠[]
theorem a8a{l:List Cn}(h:l.Pairwise λa b=>nc a.x b.x<0): ∀a∈l,∀b∈l,a.x=b.x->a=b:=by induction l with|nil=>simp|cons n r ih=>obtain⟨f,g⟩:=b10.1 h;intro a d b c e;rcases b0p.1 d with d|d<;>rcases b0p.1 c with c|c;{rw[d,c]};{have:=f b c;rw[<-d,e]at this;exact absurd this (to_ordC.irr _)};{have:=f a d;rw[<-c,<-e]at this;exact absurd this (to_ordC.irr _)};.exact ih g a d b c e
theorem bm7{R:Ct->Int->Prop}{l m:List Cn}(c:CnSpec R l)(d:CnSpec R m):l=m:=by
 have sub: ∀{l m:List Cn},CnSpec R l->CnSpec R m->∀n∈l,n∈m:=λ{l m} c d n i=>by obtain⟨k,r,w⟩:=b3n (c.r4 n i);obtain⟨p,o,f,v⟩:=(d.r3 n.x k).2 ((c.r3 n.x k).1 ⟨n,i,rfl,by rw[w];simp⟩);have j:n.ks=p.ks:=(by refine a6b (c.r2 n i) (d.r2 p o) λq=>⟨λt=> ?_,λt=> ?_⟩;{obtain⟨p',hp',g,s⟩:=(d.r3 n.x q).2 ((c.r3 n.x q).1 ⟨n,i,rfl,t⟩);rw[a8a d.r1 p o p' hp' (f.trans g.symm)];exact s};.obtain⟨n',hn',g,s⟩:=(c.r3 n.x q).2 ((d.r3 n.x q).1 ⟨p,o,f,t⟩);rw[a8a c.r1 n i n' hn' g.symm];exact s);have:n=p:=(by cases n;cases p;simp only at f j;rw[f,j]);rw[this];exact o
 have u: ∀{l:List Cn},(l.Pairwise λa b=>nc a.x b.x<0)->l.Nodup:=λh=>h.imp λ{a b} h e=>by rw[e]at h;exact to_ordC.irr _ h
 refine b47 (le:=λa b=>nc a.x b.x<0) (λa b _ _ g s=> ?_) c.r1 d.r1 ((b6b (u c.r1) (u d.r1)).2 λn=>⟨sub c d n,sub d c n⟩);have:=(to_ordC.flip a.x b.x).1 g;omega
theorem bf2: ∀(o:List Cn) (y:Vt),∀b∈tg o y,b.x=y.x\/∃c∈o,b.x=c.x
 |[],y,b,hb=>by
  simp only[tg,b1h]at hb
  exact .inl (by rw[hb])
 |n::r,y,b,hb=>by
  simp only[tg]at hb;split at hb
  .rcases b0p.1 hb with rfl|hb
   .exact .inr ⟨b,by simp,rfl⟩
   .rcases bf2 r y b hb with h|⟨c,hc,h⟩
    .exact .inl h
    .exact .inr ⟨c,by simp[hc],h⟩
  .split at hb
   .rename_i he;rcases b0p.1 hb with rfl|hb
    .exact .inl he
    .exact .inr ⟨b,by simp[hb],rfl⟩
   .rcases b0p.1 hb with rfl|hb
    .exact .inl rfl
    .exact .inr ⟨b,hb,rfl⟩
theorem a3k: ∀{o:List Cn} (y:Vt),(o.Pairwise λa b=>nc a.x b.x<0)->(tg o y).Pairwise λa b=>nc a.x b.x<0
 |[],y,_=>by simp[tg]
 |n::r,y,h=>by
  obtain⟨h1,h2⟩:=b10.1 h;simp only[tg];split
  .rename_i hlt;refine b10.2 ⟨λb d=> ?_,a3k y h2⟩;rcases bf2 r y b d with e|⟨c,g,e⟩
   .rw[e];exact hlt
   .rw[e];exact h1 c g
  .rename_i hnl;split
   .exact b10.2 ⟨h1,h2⟩
   .rename_i hne
    have f:nc y.x n.x<0:=(to_ordC.flip _ _).2 (by
     have:nc n.x y.x≠0:=λe=>hne ((n7 _ _).1 e);omega)
    refine b10.2 ⟨λb d=> ?_,h⟩;rcases b0p.1 d with rfl|d
    .exact f
    .exact to_ordC.tr _ _ _ f (h1 b d)
theorem a8s: ∀{o:List Cn} (y:Vt),(∀n∈o,asc n.ks/\n.ks≠[])->∀n∈tg o y,asc n.ks/\n.ks≠[]
 |[],y,_,n,hn=>by
  simp only[tg,b1h]at hn;subst hn
  exact⟨by simp[asc],by simp⟩
 |a::r,y,h,n,hn=>by
  simp only[tg]at hn;split at hn
  .rcases b0p.1 hn with rfl|hn
   .exact h n (by simp)
   .exact a8s y (λm hm=>h m (by simp[hm])) n hn
  .split at hn
   .rcases b0p.1 hn with rfl|hn
    .refine⟨auf _ (h a (by simp)).1,λe=> ?_⟩;have:y.k∈aeq a.ks y.k:=(sf _ _ _).2 (.inl rfl);simp only at e;rw[e]at this;simp at this
    .exact h n By
   .rcases b0p.1 hn with rfl|hn
    .exact⟨by simp[asc],Ad⟩
    .exact h n hn
theorem a6c: ∀(o:List Cn) (y:Vt) (x:Ct) (k:Int),(∃n∈tg o y,n.x=x/\k∈n.ks)↔(x=y.x/\k=y.k)\/∃n∈o,n.x=x/\k∈n.ks
 |[],y,x,k=>by
  simp only[tg,b1h];constructor
  .rintro⟨n,rfl,h1,h2⟩;simp only[b1h]at h2;exact .inl ⟨h1.symm,h2⟩
  .rintro(⟨h1,h2⟩|⟨n,hn,_⟩)
   .exact⟨_,rfl,h1.symm,by simp[h2]⟩
   .simp at hn
 |a::r,y,x,k=>by
  have ih:=a6c r y x k;simp only[tg];split
  .simp only[b0p];constructor
   .rintro⟨n,rfl|hn,h1,h2⟩
    .exact .inr ⟨n,.inl rfl,h1,h2⟩
    .rcases ih.1 ⟨n,hn,h1,h2⟩with h|⟨m,hm,h⟩
     .exact .inl h
     .exact .inr ⟨m,.inr hm,h⟩
   .rintro(h|⟨m,rfl|hm,h⟩)
    .obtain⟨n,hn,h'⟩:=ih.2 (.inl h);exact⟨n,.inr hn,h'⟩
    .exact⟨m,.inl rfl,h⟩
    .obtain⟨n,hn,h'⟩:=ih.2 (.inr ⟨m,hm,h⟩);exact⟨n,.inr hn,h'⟩
  .split
   .rename_i he;simp only[b0p];constructor
    .rintro⟨n,rfl|hn,h1,h2⟩
     .simp only[sf]at h1 h2;rcases h2 with h2|h2
      .exact .inl ⟨by rw[<-h1,he],h2⟩
      .exact .inr ⟨a,.inl rfl,h1,h2⟩
     .exact .inr ⟨n,.inr hn,h1,h2⟩
    .rintro(⟨h1,h2⟩|⟨m,rfl|hm,h1,h2⟩)
     .exact⟨_,.inl rfl,by rw[h1,he],by simp[sf,h2]⟩
     .exact⟨_,.inl rfl,h1,by simp only[sf];exact .inr h2⟩
     .exact⟨m,.inr hm,h1,h2⟩
   .simp only[b0p];constructor
    .rintro⟨n,rfl|hn,h1,h2⟩
     .simp only[b1h]at h2;exact .inl ⟨h1.symm,h2⟩
     .exact .inr ⟨n,hn,h1,h2⟩
    .rintro(⟨h1,h2⟩|⟨m,hm,h⟩)
     .exact⟨_,.inl rfl,h1.symm,by simp[h2]⟩
     .exact⟨m,.inr hm,h⟩
def aer(seats:LI)(v:List Vt)(i:Nat)(x:Ct)(k:Int):Prop:=k∈seats/\∃a,a<i/\(el v a).x=x/\(el v a).k=k
theorem pd(seats:LI)(v:List Vt)(i:Nat)(x:Ct)(k:Int):aer seats v (i+1) x k↔((el v i).k∈seats/\x=(el v i).x/\k=(el v i).k)\/aer seats v i x k:=by constructor;{rintro⟨h1,a,h2,h3,h4⟩;rcases b1m.1 h2 with h|rfl;{exact .inr ⟨h1,a,h,h3,h4⟩};.exact .inl ⟨by rw[h4];exact h1,h3.symm,h4.symm⟩};.rintro(⟨h1,h2,h3⟩|⟨h1,a,h2,h3⟩);{exact⟨by rw[h3];exact h1,i,Aa,h2.symm,h3.symm⟩};.exact⟨h1,a,Aa,h3⟩
theorem ajt(seats:LI)(v:List Vt): ∀i,i<=v.length->CnSpec (aer seats v i) (cnI seats v i)
 |0,_=>⟨by simp[cnI],by simp[cnI],λx k=>by simp[cnI,aer],by simp[cnI]⟩
 |i+1,h=>by
  have hlt:i<v.length:=Aa
  have a:=ajt seats v i Aa;rw[ajl hlt];split
  .rename_i hk;have c:=a8s (el v i) (λn b=>⟨a.r2 n b,a.r4 n b⟩);refine⟨a3k _ a.r1,λn b=>(c n b).1,λx k=> ?_,λn b=>(c n b).2⟩;rw[a6c,pd,a.r3];constructor
   .rintro(h|h)
    .exact .inl ⟨hk,h⟩
    .exact .inr h
   .rintro(h|h)
    .exact .inl h.2
    .exact .inr h
  .rename_i hk;refine⟨a.r1,a.r2,λx k=> ?_,a.r4⟩;rw[pd,a.r3];constructor
   .exact .inr
   .rintro(h|h)
    .exact absurd h.1 hk
    .exact h
theorem a7q(d: ∀x y:Ct,okX x->okX y->gw x=gw y->x=y){seats:LI}(hx: ∀y∈v,okX y.x): ∀i,i<=v.length->
  (∀x k,(∃g∈cF seats v i,g.1=x/\k∈g.2)↔aer seats v i x k)/\∀g∈cF seats v i,g.2≠[]
 |0,_=>⟨λx k=>by simp[cF,aer],by simp[cF]⟩
 |i+1,h=>by
  have hlt:i<v.length:=Aa
  obtain⟨p,s⟩:=a7q d (seats:=seats) hx i Aa;have o:=bei (seats:=seats) hx i Aa;rw[acz hlt];by_cases l:(el v i).k∈seats
  .rw[if_pos l];generalize cF seats v i=G at*;simp only[cG]
   cases hg:azt (gw (el v i).x) G with
   |none=>
    simp only;refine⟨λx k=> ?_,λg a=> ?_⟩
    .rw[pd,<-p];constructor
     .rintro⟨g,a,h1,b⟩;rcases b0j.1 a with a|a
      .exact .inr ⟨g,a,h1,b⟩
      .simp only[b1h]at a;subst a;simp only[b1h]at b;exact .inl ⟨l,h1.symm,b⟩
     .rintro(⟨_,h1,b⟩|⟨g,a,h1,b⟩)
      .exact⟨_,b5t _ (b1h.2 rfl),h1.symm,Bf⟩
      .exact⟨g,b4c _ a,h1,b⟩
    .rcases b0j.1 a with a|a
     .exact s g a
     .simp only[b1h]at a;subst a
      simp
   |some j=>
    obtain⟨t,r⟩:=xb hg;have m:(el G j).1=(el v i).x:=d _ _ (o _ (cr t)).1 (hx _ (cr hlt)) r;simp only;have c: ∀g,g∈G.set j ((el G j).1,(el G j).2++[(el v i).k])->g=((el G j).1,(el G j).2++[(el v i).k])\/g∈G:=λg a=>(b2f a).symm;have f:((el G j).1,(el G j).2++[(el v i).k])∈G.set j ((el G j).1,(el G j).2++[(el v i).k]):=b1f.2 ⟨j,by simpa using t,Ad⟩;refine⟨λx k=> ?_,λg a=> ?_⟩
    .rw[pd,<-p];constructor
     .rintro⟨g,a,h1,b⟩;rcases c g a with rfl|a
      .simp only[b0j,b1h]at h1 b;rcases b with b|b
       .exact .inr ⟨el G j,cr t,h1,b⟩
       .exact .inl ⟨l,by rw[<-h1,m],b⟩
      .exact .inr ⟨g,a,h1,b⟩
     .rintro(⟨_,h1,b⟩|⟨g,a,h1,b⟩)
      .exact⟨_,f,by rw[h1,<-m],Bf⟩
      .obtain⟨q,hq,rfl⟩:=b1f.1 a;by_cases n:q=j
       .subst n;have e:el G q=G[q]:=by simp[el,bd,hq]
        exact⟨_,f,by rw[e];exact h1,by rw[e];exact b4c _ b⟩
       .refine⟨G[q],b1f.2 ⟨q,Cq,?_⟩,h1,b⟩;rw[List.getElem_set_ne (λe=>n e.symm)]
    .rcases c g a with rfl|a
     .simp
     .exact s g a
  .rw[if_neg l];refine⟨λx k=> ?_,s⟩;rw[pd,<-p];constructor
   .exact .inr
   .rintro(h|h)
    .exact absurd h.1 l
    .exact h
theorem bc1(l: ∀x y:Ct,okX x->okX y->gw x=gw y->x=y)(hx: ∀y∈v,okX y.x):CnSpec (aer seats v v.length) (cnC seats v):=by
 obtain⟨s,A⟩:=a7q l (seats:=seats) hx v.length (b0f _);have j:=ah7 seats v v.length;have d: ∀n,n∈cnC seats v↔n∈(cF seats v v.length).map awy:=λn=>(b2e _ _).mem_iff;refine⟨?_,λn m=> ?_,λx k=> ?_,λn m=> ?_⟩
 .have f:(cnC seats v).Pairwise λa b=> ¬nc b.x a.x<0:=by
   have:=b2w (le:=λa b:Cn=> !decide (nc b.x a.x<0)) (λa b c f i=>by
    simp only[b2c,b1d]at f i ⊢;exact to_ordC.nt c.x b.x a.x i f) (λa b=>by
    simp only[b1v,b2c,b1d];by_cases h:nc b.x a.x<0
    .have:=(to_ordC.flip b.x a.x).1 h;exact .inr Aa
    .exact .inl h) ((cF seats v v.length).map awy)
   exact this.imp λh=>An
  have i:((cnC seats v).map λn=>n.x).Nodup:=by have z:((cF seats v v.length).map λg=>g.1).Nodup:=(by have:((cF seats v v.length).map λg=>gw g.1)=((cF seats v v.length).map λg=>g.1).map gw:=Ad;rw[this]at j;exact List.Pairwise.imp (λ{a b} h e=>h Bm) (b4f.1 j));have u:((cnC seats v).map λn=>n.x).Perm ((cF seats v v.length).map λg=>g.1):=(by have:=(b2e ((cF seats v v.length).map awy) (λa b:Cn=> !decide (nc b.x a.x<0))).map λn=>n.x;have e:((cF seats v v.length).map awy).map (λn=>n.x)=(cF seats v v.length).map λg=>g.1:=(by simp[awy,Function.comp_def]);rw[e]at this;exact this);exact u.nodup_iff.2 z
  have w:=b4f.1 i
  exact(f.and w).imp λ{a b} h=>by have q:nc a.x b.x≠0:=λe=>h.2 ((n7 _ _).1 e);have:=to_ordC.flip b.x a.x;by_cases p:nc a.x b.x<0;{exact p};.exact absurd ((to_ordC.flip b.x a.x).2 Aa) h.1
 .obtain⟨g,_,rfl⟩:=b0z.1 ((d n).1 m);exact(ahz g.2).1
 .rw[<-s];constructor;{rintro⟨n,m,f,i⟩;obtain⟨g,o,rfl⟩:=b0z.1 ((d n).1 m);exact⟨g,o,f,((ahz g.2).2 k).1 i⟩};.rintro⟨g,o,f,i⟩;exact⟨awy g,(d _).2 (b0z.2 ⟨g,o,rfl⟩),f,((ahz g.2).2 k).2 i⟩
 .obtain⟨g,o,rfl⟩:=b0z.1 ((d n).1 m);obtain⟨k,r,t⟩:=b3n (A g o);intro e;have:k∈nk g.2:=((ahz g.2).2 k).2 (by rw[t];simp);rw[show nk g.2=[] from e]at this;simp at this
theorem bhm(a: ∀x y:Ct,okX x->okX y->gw x=gw y->x=y)(hx: ∀y∈v,okX y.x):cnC seats v=cnR seats v:=
 bm7 (bc1 a hx) (ajt seats v v.length (b0f _))
theorem ayz:nB 0=[48,44]/\nB 1=[49,44]:=B5
theorem af1: ∀{a b:LI},(∀n∈a,n=0\/n=1)->(∀n∈b,n=0\/n=1)->a.flatMap nB=b.flatMap nB->a=b
 |[],[],_,_,_=>rfl
 |[],y::b,_,hb,h=>by
  rcases hb y (by simp)with rfl|rfl<;>simp[ayz.1,ayz.2]at h
 |x::a,[],ha,_,h=>by
  rcases ha x (by simp)with rfl|rfl<;>simp[ayz.1,ayz.2]at h
 |x::a,y::b,ha,hb,h=>by
  have ih:=af1 (a:=a) (b:=b) (λn c=>ha n Cl) (λn c=>hb n Cl);rcases ha x Ad with rfl|rfl<;>rcases hb y Ad with rfl|rfl<;>simp[ayz.1,ayz.2]at h
  .rw[ih h]
  .rw[ih h]
theorem a98(hx: ∀y∈v,okX y.x):cnC seats v=cnR seats v:=bhm (λx y hx f h=>by
 obtain⟨_,_,a,d⟩:=hx;obtain⟨_,_,c,e⟩:=f;have b:=af1 d e h
 cases x
 cases y
 simp only at a c b;rw[a,c,b]) hx
def V1:List Vt:=[⟨1,cA,bmt⟩,⟨2,cA,noA⟩,⟨2,cA,bmt⟩]
theorem ba9(k nu a:Int)(d:Drf)(hd:bmx d):okS (n8 k nu a d):=by
 obtain⟨c,e⟩:=hd;have b:=qr d.pins;have f:(if 0<nu then List.replicate 32 (0:UInt8)else []).length<=32:=by split<;>simp
 show okS (ug _);simp only[ug,okS,stB,ut,aax,hdB,b0a,d5,ax,fk,l5,b0q,b0r];omega
theorem a6x(P:Program)(h:P.funcs.any Func.goes=false)(c:OpenClaim):false=c.goesBy P:=by
 have h0: ∀f,P.goes f=false:=λf=>by
  unfold Program.goes;rw[h,b43,Bool.or_false,b5n];intro g _
  cases hg:P.funcs[g]? with
  |none=>simp
  |some fn=>
   have a:=(Array.any_eq_false'.1 h) fn (b2b hg);simpa using a
 have a:(λf=>P.goes f)=λ_=>false:=funext h0;unfold OpenClaim.goesBy Program.goesAt Program.goesFrom;have b: ∀o:Option FuncId,o.any P.goes=false:=λo=>by cases o<;>simp[h0]
 have d: ∀l:List FuncId,l.any P.goes=false:=λl=>by simp[h0]
 rw[b];split<;>simp[d,h0]
/- What the statements' inputs hold, as abstract values: slices of slices, structs, strings, numbers; and their bulk. -/
open Go Go.RowKit
open Go.Proofs
open Go.Proofs.YtlaoaleoeknhoaaGreatDoor.Rows (uptoBulk uptoBulkAll)
section
variable {H:Type} {enc:TypeId×Value->H} {P:Program} {w:World} {base:Nat} {sp:Nat->Bool} {held:Bool}
def Opens(enc:TypeId×Value->H)(P:Program)(w:World)(base:Nat)(sp:Nat->Bool)(held:Bool)(t:TypeId)(K:Nat)(f:α->LP)(m:α->Nat)(G:α->Prop):Prop:=
 ∀(fuel:Nat) (cs:List Value) (x:DataW H×List MemPlace),DataW.trod enc P w base sp held fuel t cs=some x->
  ∃y,G y/\m y<=uptoBulk x.1/\(f y).length=K/\(f y).all fy=true/\∀(j:Nat) (u:PV),(f y)[j]? =some u->∃cv,cs[j]? =some cv/\RP (λa v=>w.cell? a=some v/\True) cv u
theorem ov(e:P.underlying t=some (.int .i64)):Opens enc P w base sp held t 1 i1 (λ_=>1) inR:=by intro b cs x h;obtain⟨n,rfl,rfl,c⟩:=DataW.trod_int e h;have d:inR n:=(by simp[Lit.wf,IntKind.min,IntKind.max,IntKind.signed,IntKind.bits]at c;unfold inR;omega);refine⟨n,d,by simp[uptoBulk],rfl,rfl,λj u a=> ?_⟩;cases j with|zero=>simp only[i1,b1n,b0c]at a;subst a;exact⟨_,rfl,.int _ _⟩|succ j=>simp[i1]at a
theorem alt(c:P.underlying t=some .string):Opens enc P w base sp held t 1 (λs:LB=>[.str s]) (λs=>s.length+1) (λ_=>True):=by intro b cs x h;obtain⟨s,rfl,rfl,d⟩:=DataW.trod_string c h;refine⟨s.data.toList,trivial,by simp[uptoBulk],rfl,rfl,λj u a=> ?_⟩;cases j with|zero=>simp only[b1n,b0c]at a;subst a;exact⟨_,rfl,.str s.data.toList⟩|succ j=>simp at a
theorem aud{m:α->Nat}: ∀(l:List α) (el:List (DataW H×List MemPlace)),l.length=el.length->(∀(i:Nat) y b,l[i]? =some y->el[i]? =some b->m y<=uptoBulk b.1)->(l.map m).sum<=uptoBulkAll (el.map (·.1))
 |[],_,_,_=>by simp
 |y::l,[],h,_=>by simp at h
 |y::l,b::el,h,hm=>by
  have h1:=hm 0 y b rfl rfl;have e:=aud l el An λi z c d a=>hm (i+1) z c d a;simp only[b07,List.sum_cons,uptoBulkAll];omega
theorem t7{β:Type}: ∀(el:List β) (R:Nat->β->α->Prop),(∀(i:Nat) b,el[i]? =some b->∃y,R i b y)->∃l:List α,l.length=el.length/\∀(i:Nat) y b,l[i]? =some y->el[i]? =some b->R i b y
 |[],_,_=>⟨[],rfl,λi y b h=>by simp at h⟩
 |b::el,R,h=>by
  obtain⟨y,hy⟩:=h 0 b rfl;obtain⟨l,f,e⟩:=t7 el (λi=>R (i+1)) λi c a=>h (i+1) c a;refine⟨y::l,Be,λi z c d a=> ?_⟩
  cases i with
  |zero=>simp only[b1n,b0c]at d a;subst d a;exact hy
  |succ i=>exact e i z c d a
theorem ard{e:TypeId}{K:Nat}{f:α->LP}{m:α->Nat}{G:α->Prop}(X:P.underlying t=some (.slice e))(Z:P.cellsOf e=K)(O:Opens enc P w base sp held e K f m G):
  Opens enc P w base sp held t 1 (λl:List α=>[.vs (l.map f)]) (λl=>1+(l.map m).sum) (λl=> ∀y∈l,G y):=by intro N cs x h;rcases DataW.trod_slice X h with ⟨rfl,rfl⟩|⟨a,I,S,el,M,n,rfl,rfl,rfl,_,B,_,Q,C,_,_⟩;{refine⟨[],Ad,by simp[uptoBulk],rfl,rfl,λj u c=> ?_⟩;cases j with|zero=>simp only[b1n,b0c]at c;subst c;exact⟨_,rfl,.vs (sz:=0) (λ_ _=>Go.undef) rfl (b0f _) Ad Ad Aa λi x j u hx c=>Gd⟩|succ j=>simp at c};.obtain⟨l,hll,hl⟩:=t7 el (λi b (y:α)=>G y/\m y<=uptoBulk b.1/\(f y).length=K/\(f y).all fy=true/\∀(j:Nat) (u:PV),(f y)[j]? =some u->∃k,w.cell? (a.add (i*K+j))=some k/\RP (λa v=>w.cell? a=some v/\True) k u) λi b q=>(by have A:i<I:=(by have:=(dm.1 q).1;omega);have o:=C i A;rw[Z,q]at o;obtain⟨ce,F,E⟩:=b6v.1 o;obtain⟨y,W,g2,V,U,Y⟩:=O _ _ _ E;obtain⟨_,T,L⟩:=b8a F;refine⟨y,W,g2,V,U,λj u c=> ?_⟩;obtain⟨k,d,J⟩:=Y j u c;have D:j<K:=(by have:=(dm.1 c).1;omega);have:=L j D;rw[d]at this;refine⟨k,?_,J⟩;rw[<-this,Addr.add_add]);have r: ∀(i:Nat) y,l[i]? =some y->∃b,el[i]? =some b:=λi y g=>(by have:=(dm.1 g).1;exact⟨el[i]' Aa,bq Aa⟩);have p: ∀y∈l,∃(i:Nat) (b:DataW H×List MemPlace),l[i]? =some y/\el[i]? =some b:=λy g=>(by obtain⟨i,A⟩:=b2v.1 g;obtain⟨b,q⟩:=r i y A;exact⟨i,b,A,q⟩);have z: ∀x∈l.map f,x.length=K/\x.all fy=true:=λx hx=>(by obtain⟨y,g,rfl⟩:=b0z.1 hx;obtain⟨i,b,o,s⟩:=p y g;have:=hl i y b o s;exact⟨this.2.2.1,this.2.2.2.1⟩);refine⟨l,λy g=> ?_,?_,rfl,rfl,λj u c=> ?_⟩;{obtain⟨i,b,o,s⟩:=p y g;exact(hl i y b o s).1};{have:=aud (m:=m) l el hll λi y b o s=>(hl i y b o s).2.1;simp only[uptoBulk];omega};.cases j with|succ j=>simp at c|zero=>simp only[b1n,b0c]at c;subst c;have R: ∀(i:Nat) (x:LP) (j:Nat) (u:PV),(l.map f)[i]? =some x->x[j]? =some u->∃k,w.cell? (a.add (i*K+j))=some k/\RP (λa v=>w.cell? a=some v/\True) k u:=λi x j u hx c=>(by rw[b0s]at hx;obtain⟨y,g,rfl⟩:=b4n.1 hx;obtain⟨b,q⟩:=r i y g;exact(hl i y b g q).2.2.2.2 j u c);refine⟨_,rfl,.vs (sz:=K) (λi j=>(w.cell? (a.add (i*K+j))).getD Go.undef) Ag B (λx hx=>(z x hx).1) (λx hx=>(z x hx).2) (λ_=>⟨_,rfl,λi x j u hx c=> ?_⟩) λi x j u hx c=> ?_⟩;{obtain⟨k,d,_⟩:=R i x j u hx c;simp[d]};.obtain⟨k,d,J⟩:=R i x j u hx c;simpa [d] using J
theorem aco{e:Array Field}{cs:List Value}{xs:List (DataW H×List MemPlace)}{K:Nat}{f:α->LP}{m:α->Nat}{G:α->Prop}
  (h: ∀(i:Nat) (c:Field),e[i]? =some c->DataW.trod enc P w base sp held n c.type ((cs.drop c.offset).take (P.cellsOf c.type))=xs[i]?) (hx:xs.length=e.size)
  (i:Nat) (c:Field) (l:e[i]? =some c) (O:Opens enc P w base sp held c.type K f m G):
  ∃(b:DataW H×List MemPlace) (y:α),xs[i]? =some b/\G y/\m y<=uptoBulk b.1/\(f y).length=K/\(f y).all fy=true/\∀(j:Nat) (u:PV),(f y)[j]? =some u->∃cv,cs[c.offset+j]? =some cv/\RP (λa v=>w.cell? a=some v/\True) cv u:=by have g:=h i c l;have k:i<xs.length:=(by rw[hx];exact(b03.1 l).1);rw[bq k]at g;obtain⟨y,x,t,s,q,r⟩:=O _ _ _ g;refine⟨xs[i],y,bq k,x,t,s,q,λj u o=> ?_⟩;obtain⟨cv,d,p⟩:=r j u o;refine⟨cv,?_,p⟩;rw[b04]at d;split at d;{rwa [b1k]at d};.cases d
theorem a1r{g f l:Field}(B:P.underlying t=some (.struct #[g,f,l]))(h0:P.underlying g.type=some (.int .i64))(D:P.underlying f.type=some (.int .i64))(A:P.underlying l.type=some .string)
  (v:g.offset=0) (H:f.offset=1) (y:l.offset=2):Opens enc P w base sp held t 3 pn (λp=>p.di.length+4) (λp=>inR p.au/\inR p.he):=by
 intro m cs x h;obtain⟨s,n,rfl,rfl,I,c,b⟩:=b6q B h;obtain⟨b0,G,i,E,J,_,_,q⟩:=aco b c 0 g rfl (ov h0);obtain⟨M,F,e,z,L,_,_,o⟩:=aco b c 1 f rfl (ov D);obtain⟨N,C,k,K,O,_,_,r⟩:=aco b c 2 l rfl (alt A);rw[v]at q;rw[H]at o;rw[y]at r
 match s,c,i,e,k with
 |[c0,c1,c2],_,i,e,k=>
  simp only[b1n,b21,b0c]at i e k;subst i e k;refine⟨⟨G,F,C⟩,⟨E,z⟩,?_,rfl,rfl,λj u d=> ?_⟩
  .simp only[b07,b0o,uptoBulk,uptoBulkAll];omega
  .match j,d with
   |0,d=>exact q 0 u d
   |1,d=>exact o 0 u d
   |2,d=>exact r 0 u d
   |j+3,d=>simp[pn]at d
end
/- The tables of Go's library that the rows of this seat list: what their readings give; a world that lays them. -/
open Go Go.RowKit Go.Lib
open Go.Proofs.YtlaoaleoeknhoaaGreatDoor
def lay10:List (String×DataW Unit):=[("math/bits.deBruijn32tab",Rows.laid_math_bits_deBruijn32tab),("math/bits.deBruijn64tab",Rows.laid_math_bits_deBruijn64tab),("internal/strconv.uint64pow10",Rows.laid_internal_strconv_uint64pow10),("unicode/utf8.acceptRanges",Rows.laid_unicode_utf8_acceptRanges),("strconv.isGraphic",Rows.laid_strconv_isGraphic),("strconv.isNotPrint16",Rows.laid_strconv_isNotPrint16),("strconv.isNotPrint32",Rows.laid_strconv_isNotPrint32),("strconv.isPrint16",Rows.laid_strconv_isPrint16),("strconv.isPrint32",Rows.laid_strconv_isPrint32),("unicode/utf8.first",Rows.laid_unicode_utf8_first)]
theorem bi1{W:World}(_:laidMet prog lay10 W):Laid prog W:=⟨trivial⟩
def bpq(k:IntKind):DataW Unit->Array Value
 | .agg ds=>(ds.map λ| .lit (.int _ n)=>Value.int k n|_=>Go.undef).toArray
 |_=> #[]
noncomputable def i8 (os:Os):World:=
 let N:=(World.settled prog os).heap.size
 let T:=Lib.goPrintTabs
 let w0:=World.holding prog os ⟨#[
  .cells (intCellsOf .u16 T.p16) 500,.cells (intCellsOf .u16 T.n16) 500,.cells (intCellsOf .u32 T.p32) 177,.cells (intCellsOf .u16 T.n32) 500,.cells (intCellsOf .u16 Pinned.isGraphicZ) 500], #[],[]⟩
 let put (h:Array Obj) (g:Nat) (cs:Array Value):Array Obj:=h.modify g fun
  | .cells _ t frozen=> .cells cs t frozen
  |o=>o
 let h1:=put w0.heap 1 (Lib.pow10Tab.map λz=>Value.int .u64 z).toArray
 let h2:=put h1 2 (Lib.firstTab.map λz=>Value.int .u8 z).toArray
 let h3:=put h2 3 ((List.range 16).flatMap λi=>[Value.int .u8 (Lib.accLo i),Value.int .u8 (Lib.accHi i)]).toArray
 let h4:=put h3 4 #[.slice (some ⟨N,0,none⟩) T.p16.length T.p16.length]
 let h5:=put h4 5 #[.slice (some ⟨N+1,0,none⟩) T.n16.length T.n16.length]
 let h6:=put h5 6 #[.slice (some ⟨N+2,0,none⟩) T.p32.length T.p32.length]
 let h7:=put h6 7 #[.slice (some ⟨N+3,0,none⟩) T.n32.length T.n32.length]
 let h8:=put h7 8 #[.slice (some ⟨N+4,0,none⟩) Pinned.isGraphicZ.length Pinned.isGraphicZ.length]
 let h9:=put h8 9 (bpq .u8 Rows.laid_math_bits_deBruijn32tab)
 let h10:=put h9 10 (bpq .u8 Rows.laid_math_bits_deBruijn64tab)
 {w0 with heap:=h10}
noncomputable abbrev N0:Nat:=(World.settled prog default).heap.size
theorem bph(os:Os)(args:Array Value):LaidIn prog ((i8 os).forCall (λ_ _=>0) ⟨#[],args,[]⟩).memory (lay10.take 4) [9,10,1,3]:=
 LaidIn.of_run [9,10,1,3] 8 Ae Ae Ae Ae
theorem bp0(os:Os)(args:Array Value):LaidIn Tryz.prog ((i8 os).forCall (fun _ _=>0) ⟨#[],args,[]⟩).memory [("strconv.isGraphic",Lib.sliceData .u16 Pinned.isGraphicZ)] [8,N0+4]:=
 laidIn_slice (t:=501) (e:=500) (te:=500) Pinned.isGraphicZ (N0+4) Ae Ae Ae Ae Ae Ae Ae Ae (b0g Ae) (b0g Ae)
theorem bp8(os:Os)(args:Array Value):LaidIn Tryz.prog ((i8 os).forCall (fun _ _=>0) ⟨#[],args,[]⟩).memory [("strconv.isNotPrint16",Lib.sliceData .u16 Lib.goPrintTabs.n16)] [5,N0+1]:=
 laidIn_slice (t:=501) (e:=500) (te:=500) Lib.goPrintTabs.n16 (N0+1) Ae Ae Ae Ae Ae Ae Ae Ae (b0g Ae) (b0g Ae)
theorem bql(os:Os)(args:Array Value):LaidIn Tryz.prog ((i8 os).forCall (fun _ _=>0) ⟨#[],args,[]⟩).memory [("strconv.isNotPrint32",Lib.sliceData .u16 Lib.goPrintTabs.n32)] [7,N0+3]:=
 laidIn_slice (t:=501) (e:=500) (te:=500) Lib.goPrintTabs.n32 (N0+3) Ae Ae Ae Ae Ae Ae Ae Ae (b0g Ae) (b0g Ae)
theorem bnk(os:Os)(args:Array Value):LaidIn Tryz.prog ((i8 os).forCall (fun _ _=>0) ⟨#[],args,[]⟩).memory [("strconv.isPrint16",Lib.sliceData .u16 Lib.goPrintTabs.p16)] [4,N0]:=
 laidIn_slice (t:=501) (e:=500) (te:=500) Lib.goPrintTabs.p16 N0 Ae Ae Ae Ae Ae Ae Ae Ae (b0g Ae) (b0g Ae)
theorem bn4(os:Os)(args:Array Value):LaidIn Tryz.prog ((i8 os).forCall (fun _ _=>0) ⟨#[],args,[]⟩).memory [("strconv.isPrint32",Lib.sliceData .u32 Lib.goPrintTabs.p32)] [6,N0+2]:=
 laidIn_slice (t:=178) (e:=177) (te:=177) Lib.goPrintTabs.p32 (N0+2) Ae Ae Ae Ae Ae Ae Ae Ae (b0g Ae) (b0g Ae)
theorem bot(os:Os)(args:Array Value):LaidIn Tryz.prog ((i8 os).forCall (fun _ _=>0) ⟨#[],args,[]⟩).memory [("unicode/utf8.first",Rows.laid_unicode_utf8_first)] [2]:=
 LaidIn.of_run [2] 8 Ae Ae Ae Ae
theorem bq6:Rows.laid_strconv_isGraphic=Lib.sliceData .u16 Pinned.isGraphicZ:=Ae
theorem br2:lay10=lay10.take 4++[("strconv.isGraphic",Lib.sliceData .u16 Pinned.isGraphicZ)]++[("strconv.isNotPrint16",Lib.sliceData .u16 Lib.goPrintTabs.n16)]++[("strconv.isNotPrint32",Lib.sliceData .u16 Lib.goPrintTabs.n32)]++[("strconv.isPrint16",Lib.sliceData .u16 Lib.goPrintTabs.p16)]++[("strconv.isPrint32",Lib.sliceData .u32 Lib.goPrintTabs.p32)]++[("unicode/utf8.first",Rows.laid_unicode_utf8_first)]:=by rw[<-bq6,<-Pinned.isNotPrint16_eq,<-Pinned.isNotPrint32_eq,<-Pinned.isPrint16_eq,<-Pinned.isPrint32_eq];rfl
theorem bbl(os:Os)(args:Array Value):laidMet prog lay10 ((i8 os).forCall (λ_ _=>0) ⟨#[],args,[]⟩).memory:=by rw[br2];exact((((((bph os args).append (bp0 os args) Ae).append (bp8 os args) Ae).append (bql os args) Ae).append (bnk os args) Ae).append (bn4 os args) Ae).append (bot os args) Ae|>.met
variable {P:Program}
theorem Den.vsE{k:FuncId}{args:LP}{ext a c:List Box}{e sz:Nat}{sh:Bool}{xs:List LP}(D:Den P k args ext (.os 1000000 n) c (.arr e sz sh xs::a))(y:n=xs.length):Den P k args ext (.vs xs) c (.arr e sz true xs::a):=by
 refine⟨D.enter,λw V u q g r j B=>(D.run w V u q g r j B).mono λF H=> ?_⟩;rintro⟨v,i,rfl,z,x⟩;have d:=z.shared (em (fg c (.arr e sz sh xs::a)) [1000000]);have f:fg c (.arr e sz sh xs::a) 1000000=some (.arr e sz sh xs):=by simp[fg]
 have h0:a8 (fg c (.arr e sz sh xs::a)) [1000000] 1000000=some (.arr e sz true xs):=by simp[a8,fg,Box.share]
 have b:=d.1.asList h0
 have o:v=i 1000000:=by obtain⟨_,E,t,A,s,p,G,C⟩:=x.os_arr f;rw[f]at p;cases p;exact C y
 have l:fg c (.arr e sz true xs::a)=a8 (fg c (.arr e sz sh xs::a)) [1000000]:=by funext m;unfold a8 fg;by_cases h:m=1000000;{subst h;simp[Box.share]};.simp only[b1h,h,b25];by_cases j:m<1000000;{simp[j]};.simp only[if_neg j];cases hk:m - 1000000 with|zero=>omega|succ k=>simp
 rw[l];exact⟨v,i,rfl,d.1,by rw[o];exact .pure b⟩
theorem ph: ∀{xs:List LP},(∀x∈xs,lg σ x=some (x,[]))->l7 σ xs=some (xs,[])
 |[],_=>rfl
 |x::r,h=>by
  have ih:l7 σ r=some (r,[]):=ph λy a=>h y Dw;have h0:=h x Ad;simp[l7,h0,ih]
def kp [Inhabited α](q:α->α->Bool)(l:List α):Nat->List α
 |0=>[]
 |i+1=>kp q l i++if i=0\/q (el l i) (el l (i - 1))=false then [el l i]else []
theorem aff [Inhabited α](q:α->α->Bool)(l:List α): ∀i,(kp q l i).length<=i
 |0=>by simp[kp]
 |i+1=>by
  have:=aff q l i;simp only[kp];split<;>simp<;>omega
theorem acu [Inhabited α](q:α->α->Bool)(l:List α): ∀i,i<=l.length->(∀j,0<j->j<i->q (el l j) (el l (j - 1))=false)->kp q l i=l.take i
 |0,_,_=>by simp[kp]
 |i+1,hi,h=>by
  have ih:=acu q l i Aa λj h1 h2=>h j h1 Aa;have hg:l[i]? =some (el l i):=by simp[el,bd,bq (show i<l.length from Aa)]
  have a:i=0\/q (el l i) (el l (i - 1))=false:=by
   rcases b2i i with h0|h0
   .exact .inl h0
   .exact .inr (h i h0 Aa)
  rw[kp,if_pos a,ih,b4g,hg];rfl
theorem a2a [Inhabited α](q:α->α->Bool)(l:List α){i:Nat}(h:0<i):0<(kp q l i).length:=by induction i with|zero=>omega|succ i ih=>rcases b2i i with h0|h0;{subst h0;simp[kp]};.have:=ih h0;simp only[kp,b0a];omega
theorem aar [Inhabited α](q:α->α->Bool)(l:List α): ∀n,n<=l.length->(∀j,0<j->j<n->q (el l j) (el l (j - 1))=false)\/∃k,0<k/\k<n/\q (el l k) (el l (k - 1))=true/\∀j,0<j->j<k->q (el l j) (el l (j - 1))=false
 |0,_=> .inl λj h1 h2=>by omega
 |n+1,h=>by
  rcases aar q l n (by omega)with h1|⟨k,h1,h2,h3,h4⟩
  .rcases b2i n with h0|h0
   .exact .inl λj h2 h3=>by omega
   .cases hq:q (el l n) (el l (n - 1))with
    |true=>exact .inr ⟨n,h0,by omega,hq,h1⟩
    |false=>
     refine .inl λj h2 h3=> ?_;rcases b1m.1 h3 with h4|rfl
     .exact h1 j h2 h4
     .exact hq
  .exact .inr ⟨k,h1,by omega,h3,h4⟩
section
variable  {K:KT}  [Inhabited α] (f:α->LP) (l:List α)
theorem ay5(n k i off e sz:Nat):a0h n k i off K (some none) (some (.arh e sz (l.map f)))=((k=l.length/\i<k)/\bv (f (el l i)) λc=>off<c.length/\kk K (gq c off) [] [n]):=by simp only[a0h,bv,b0x,b2s];refine propext (b1x λa=>b1x λb=> ?_);rw[jv f l Aa]
theorem ayf(n k i off m e sz:Nat):a0h n k i off K (some (some m)) (some (.arh e sz (l.map f)))=((k=l.length/\i<k)/\bv (f (el l i)) λc=>off+m<=c.length/\kk K (.agg ((c.drop off).take m)) [] [n]):=by simp only[a0h,bv,b0x,b2s];refine propext (b1x λa=>b1x λb=> ?_);rw[jv f l Aa]
theorem a0l(n k i off m e sz:Nat)(us:LP):aoq σ n k i off K (some m) (some us) (some (.arh e sz (l.map f)))=((us.length=m/\us.all fy=true/\k=l.length/\i<k/\off+m<=sz)/\bv (f (el l i)) λc=>bv ((l.map f).set i (c.take off++us++c.drop (off+m))) λxs'=>kk K .undef [(n,.arh e sz xs')] [n]):=by
 simp only[aoq,bv,b0x,b2s];refine propext (b1x λh0=>b1x λa=>b1x λb=>b1x λg=>b1x λd=> ?_);rw[jv f l Aa]
end
attribute [go_sem ↓ 1100] ay5 ayf a0l
theorem azr{K:KT}(t:TypeId)(n k i:Nat):r7 P t σ (.osl n k i) K=xu P t σ (.osl n k i) K:=(rfl)
attribute [go_sem ↓] azr
theorem bu(d:LN)(f:α->LP)(h: ∀a,aop d (f a)=true): ∀l:List α,ac2 d (l.map f)=true
 |[]=>rfl
 |a::l=>by simp only[b07,ac2,h a,bu d f h l,b5d]
/- Sorted lists: insertion, and the first of equals. -/
open Go
def pu(b:α->α->Bool):List α->α->List α
 |[],v=>[v]
 |a::r,v=>if b a v=true then a::pu b r v else if b v a=true then v::a::r else a::r
theorem adg [Inhabited α](b:α->α->Bool): ∀(o:List α) (v:α) (k:Nat),k<=o.length->(∀j,j<k->b (el o j) v=true)->(k<o.length->b (el o k) v=false)->
  pu b o v=if k<o.length/\b v (el o k)=false then o else o.take k++v::o.drop k
 |[],v,k,hk,_,_=>by
  have:k=0:=Ay
  subst this
  simp[pu]
 |a::l,v,0,_,_,h2=>by
  have h:=h2 Ad;have g:el (a::l) 0=a:=rfl;rw[g]at h ⊢;simp only[pu,h]
  cases he:b v a<;>simp
 |a::l,v,k+1,hk,h1,h2=>by
  have h0:b a v=true:=h1 0 Aa;have f:=adg b l v k Ay (λj i=>h1 (j+1) Aa) (λd=>h2 Aq);simp only[pu,if_pos h0,f];have e:el (a::l) (k+1)=el l k:=rfl;rw[e];by_cases c:k<l.length/\b v (el l k)=false
  .rw[if_pos c,if_pos ⟨by simp;exact c.1,c.2⟩]
  .rw[if_neg c,if_neg (λh=>c ⟨by simpa using h.1,h.2⟩)];simp
theorem ai5(b:α->α->Bool): ∀(l:List α) (v:α),(pu b l v).length<=l.length+1
 |[],v=>by simp[pu]
 |a::l,v=>by
  have:=ai5 b l v;simp only[pu];split
  .simp;omega
  .split<;>simp
theorem asy(b:α->α->Bool): ∀(l:List α) (v x:α),x∈pu b l v->x=v\/x∈l
 |[],v,x,h=>by simpa [pu] using h
 |a::l,v,x,h=>by
  simp only[pu]at h;split at h
  .rcases b0p.1 h with rfl|h
   .simp
   .rcases asy b l v x h with h|h<;>simp[h]
  .split at h
   .simpa using h
   .exact .inr h
structure KO{α:Type}(lt:α->α->Bool)(S:α->Prop):Prop where
 irr: ∀a,lt a a=false
 tr: ∀a b c,lt a b=true->lt b c=true->lt a c=true
 nt: ∀a b c,lt a b=false->lt b c=false->lt a c=false
 tri: ∀a b,S a->S b->lt a b=false->lt b a=false->a=b
section
variable  {lt:α->α->Bool} {S:α->Prop} (h:KO lt S)
abbrev SS(lt:α->α->Bool)(l:List α):Prop:=l.Pairwise λa b=>lt a b=true
include h
theorem KO.asym{a b:α}(c:lt a b=true):lt b a=false:=by cases hb:lt b a with|false=>rfl|true=>have:=h.tr a b a c hb;rw[h.irr]at this;cases this
theorem KO.lelt{a b c:α}(d:lt b a=false)(e:lt b c=true):lt a c=true:=by cases hc:lt a c with|true=>rfl|false=>have:=h.nt b a c d hc;rw[e]at this;cases this
theorem KO.ss_eq: ∀{l m:List α},SS lt l->SS lt m->(∀x,x∈l↔x∈m)->l=m
 |[],[],_,_,_=>rfl
 |[],b::m,_,_,e=>by have:=(e b).2 Ad;simp at this
 |a::l,[],_,_,e=>by have:=(e a).1 Ad;simp at this
 |a::l,b::m,h1,h2,e=>by
  rw[SS,b10]at h1 h2
  have hab:a=b:=by
   rcases b0p.1 ((e a).1 Ad)with h3|h3
   .exact h3
   .rcases b0p.1 ((e b).2 Ad)with h4|h4
    .exact h4.symm
    .have:=h.asym (h2.1 a h3);rw[h1.1 b h4]at this;cases this
  subst hab;rw[KO.ss_eq h1.2 h2.2 λx=> ?_];constructor
  .intro hx;rcases b0p.1 ((e x).1 Bx)with rfl|h3
   .have:=h1.1 x hx;rw[h.irr]at this;cases this
   .exact h3
  .intro hx;rcases b0p.1 ((e x).2 Bx)with rfl|h3
   .have:=h2.1 x hx;rw[h.irr]at this;cases this
   .exact h3
theorem KO.ins_mem{v:α}(hv:S v): ∀{l:List α},(∀x∈l,S x)->∀x,x∈pu lt l v↔x=v\/x∈l
 |[],_,x=>by simp[pu]
 |a::l,hl,x=>by
  have ih:=KO.ins_mem hv (l:=l) (λx hx=>hl x Bx) x
  cases h1:lt a v with
  |true=>
   have e:pu lt (a::l) v=a::pu lt l v:=by simp only[pu];rw[if_pos h1]
   rw[e,b0p,ih,b0p];constructor
   .rintro(h|h|h)<;>simp[h]
   .rintro(h|h|h)<;>simp[h]
  |false=>
   cases h2:lt v a with
   |true=>
    have e:pu lt (a::l) v=v::a::l:=Ek
    rw[e];simp
   |false=>
    have e:pu lt (a::l) v=a::l:=Dy
    have:a=v:=h.tri a v (hl a Ad) hv h1 h2;rw[e,this];simp
theorem KO.ins_ss{v:α}(hv:S v): ∀{l:List α},(∀x∈l,S x)->SS lt l->SS lt (pu lt l v)
 |[],_,_=>by simp[pu]
 |a::l,hl,hs=>by
  have hl': ∀x∈l,S x:=λx hx=>hl x Bx;have hs':=hs;rw[SS,b10]at hs'
  cases h1:lt a v with
  |true=>
   have e:pu lt (a::l) v=a::pu lt l v:=by simp only[pu];rw[if_pos h1]
   rw[e,SS,b10];refine⟨λx hx=> ?_,KO.ins_ss hv hl' hs'.2⟩;rcases(h.ins_mem hv hl' x).1 hx with rfl|hx
   .exact h1
   .exact hs'.1 x hx
  |false=>
   cases h2:lt v a with
   |true=>
    have e:pu lt (a::l) v=v::a::l:=Ek
    rw[e,SS,b10];refine⟨λx hx=> ?_,hs⟩;rcases b0p.1 hx with rfl|hx
    .exact h2
    .exact h.tr _ _ _ h2 (hs'.1 x hx)
   |false=>
    have e:pu lt (a::l) v=a::l:=Dy
    rw[e];exact hs
theorem KO.fold_mem: ∀{r o:List α},(∀x∈r,S x)->(∀x∈o,S x)->∀x,x∈r.foldl (pu lt) o↔x∈r\/x∈o
 |[],o,_,_,x=>by simp
 |v::r,o,hr,ho,x=>by
  have hv:=hr v Ad
  have a: ∀x∈pu lt o v,S x:=λx hx=>by
   rcases(h.ins_mem hv ho x).1 hx with rfl|hx
   .exact hv
   .exact ho x hx
  rw[b2j,KO.fold_mem (λx hx=>hr x Bx) a x,h.ins_mem hv ho,b0p];constructor
  .rintro(h|h|h)<;>simp[h]
  .rintro((h|h)|h)<;>simp[h]
theorem KO.fold_ss: ∀{r o:List α},(∀x∈r,S x)->(∀x∈o,S x)->SS lt o->SS lt (r.foldl (pu lt) o)
 |[],o,_,_,hs=>hs
 |v::r,o,hr,ho,hs=>by
  have hv:=hr v Ad
  have a: ∀x∈pu lt o v,S x:=λx hx=>by
   rcases(h.ins_mem hv ho x).1 hx with rfl|hx
   .exact hv
   .exact ho x hx
  rw[b2j];exact KO.fold_ss (λx hx=>hr x Bx) a (h.ins_ss hv ho hs)
theorem KO.kp_inv [Inhabited α]{q:α->α->Bool}(k: ∀a b,q a b=true↔(lt a b=false/\lt b a=false)){l:List α}(n: ∀x∈l,S x)(o:l.Pairwise λa b=>lt b a=false):
  ∀i,i<=l.length->SS lt (kp q l i)/\∀x,x∈kp q l i↔x∈l.take i
 |0,_=>by simp[kp]
 |i+1,hi=>by
  obtain⟨i1,i2⟩:=KO.kp_inv k n o i Aa;have hlt:i<l.length:=Aa
  have y:l[i]? =some (el l i):=by simp[el,bd,bq hlt]
  have d:el l i=l[i]:=by simp[el,bd,bq hlt]
  have c:l.take (i+1)=l.take i++[el l i]:=by rw[b4g,y];rfl
  have r: ∀x∈l.take i,lt (el l i) x=false:=λx hx=>by
   obtain⟨j,s,rfl⟩:=b1f.1 hx;have f:j<i:=by simp at s;omega
   rw[b4x,d];exact b1i.1 o j i Aa hlt f
  rcases b2i i with h0|h0
  .subst h0;simp only[kp];simp[c]
  .have hp:el l (i - 1)∈l.take i:=by
    rw[b1f];refine⟨i - 1,Ag,?_⟩;rw[b4x];simp[el,bd,bq (show i - 1<l.length from Aa)]
   cases hqq:q (el l i) (el l (i - 1))with
   |true=>
    have e:kp q l (i+1)=kp q l i:=by
     simp only[kp];rw[if_neg (by rw[hqq];simp;omega),b00]
    obtain⟨v,z⟩:=(k _ _).1 hqq;have w:el l i=el l (i - 1):=h.tri _ _ (n _ (by rw[d];exact b1g _)) (n _ (b1e hp)) v z;rw[e];refine⟨i1,λx=> ?_⟩;rw[i2,c,b0j,b1h,w];constructor
    .exact .inl
    .rintro(h|rfl)
     .exact h
     .exact hp
   |false=>
    have e:kp q l (i+1)=kp q l i++[el l i]:=by
     simp only[kp];rw[if_pos (.inr hqq)]
    have m:lt (el l (i - 1)) (el l i)=true:=by
     cases hc:lt (el l (i - 1)) (el l i)with
     |true=>rfl
     |false=>have:=(k _ _).2 ⟨r _ hp,hc⟩;rw[hqq]at this;cases this
    rw[e];refine⟨?_,λx=> ?_⟩
    .rw[SS,b4d];refine⟨i1,Ad,λa A b t=> ?_⟩;rw[b1h]at t;subst t;have p:=(i2 a).1 A;obtain⟨j,s,rfl⟩:=b1f.1 p;have f:j<i:=by simp at s;omega
     rw[b4x]
     have g:lt (el l (i - 1)) l[j]=false:=by
      have u:el l (i - 1)=l[i - 1]:=by simp[el,bd,bq (show i - 1<l.length from Aa)]
      rcases b5u j (i - 1)with h3|h3
      .rw[u];exact b1i.1 o j (i - 1) Aa Aa h3
      .have:j=i - 1:=Aa
       subst this;rw[u];exact h.irr _
     exact h.lelt g m
    .rw[c,b0j,b0j,i2]
end
end Go.Proofs.Am
