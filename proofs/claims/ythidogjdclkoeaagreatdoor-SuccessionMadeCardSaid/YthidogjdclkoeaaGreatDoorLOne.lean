/- LOne. -/
import Derived.Test.YthidogjdclkoeaaGreatDoorDSix
import Derived.Lib.MapLaws
set_option linter.unusedSimpArgs false
set_option linter.unusedVariables false
namespace Go.Proofs.Am
open Go Go.RowKit
open Go.Proofs
def asc(l:List Int):Prop:=l.Pairwise (· < ·)
theorem au6{l m:List Int}(hl:asc l)(hm:asc m)(h: ∀k,k∈l↔k∈m):l=m:=by
 have nl:l.Nodup:=hl.imp fun h=>by omega
 have nm:m.Nodup:=hm.imp fun h=>by omega
 exact List.Perm.eq_of_pairwise (fun a b _ _ h1 h2=>by omega) hl hm ((List.perm_ext_iff_of_nodup nl nm).2 h)
theorem nf: ∀(l:List Int) (n k:Int),k∈yd l n↔k=n\/k∈l
 |[],n,k=>by simp[yd]
 |a::l,n,k=>by
  have ih:=nf l n k;simp only[yd];split
  ·simp only[List.mem_cons,ih];constructor
   ·rintro(h|h|h)
    ·exact .inr (.inl h)
    ·exact .inl h
    ·exact .inr (.inr h)
   ·rintro(h|h|h)
    ·exact .inr (.inl h)
    ·exact .inl h
    ·exact .inr (.inr h)
  ·split
   ·rename_i h;simp only[List.mem_cons];constructor
    ·exact .inr
    ·rintro(h2|h2)
     ·exact .inl (by omega)
     ·exact h2
   ·simp only[List.mem_cons]
theorem akz: ∀{l:List Int} (n:Int),asc l->asc (yd l n)
 |[],n,_=>by simp[yd,asc]
 |a::l,n,h=>by
  have h':=List.pairwise_cons.1 h;simp only[yd];split
  ·rename_i hlt;refine List.pairwise_cons.2 ⟨fun b hb=> ?_,akz n h'.2⟩;rcases(nf l n b).1 hb with rfl|hb
   ·exact hlt
   ·exact h'.1 b hb
  ·split
   ·exact h
   ·rename_i h1 h2;refine List.pairwise_cons.2 ⟨fun b hb=> ?_,h⟩;rcases List.mem_cons.1 hb with rfl|hb
    ·omega
    ·have:=h'.1 b hb;omega
theorem zz(l:List Int):(srt l).Pairwise (· <= ·):=by
 have:=List.pairwise_mergeSort (le:=fun x y:Int=>decide (x<=y)) (fun a b c h1 h2=>by simp at*;omega) (fun a b=>by simp;omega) l;simpa [srt] using this
theorem as5(l:List Int)(k:Int):k∈srt l↔k∈l:=(List.mergeSort_perm _ _).mem_iff
theorem a0t{l:List Int}(h:l.Nodup):asc (srt l):=by
 have h1:=zz l;have h2:(srt l).Nodup:=(List.mergeSort_perm _ _).nodup_iff.2 h;exact(h1.and h2).imp fun⟨a,b⟩=>by omega
structure TwInv(v:List Vt)(i:Nat)(M:List (Int×Ct))(T:List (Int×Unit)):Prop where
 i1: ∀p∈M,∃a,a<i/\(el v a).k=p.1/\(el v a).x=p.2
 i2: ∀a,a<i->∃p∈M,p.1=(el v a).k
 i3: ∀p∈M,∀q∈M,p.1=q.1->p=q
 i4:(T.map (·.1)).Nodup
 i5: ∀n,n∈T.map (·.1)↔∃a,a<i/\∃p∈M,p.1=n/\(el v a).k=n/\(el v a).x≠p.2
theorem aj9(d:Array Int)(hd: ∀i j,i<j->j<d.size->d[i]!<=d[j]!): ∀m,m<=d.size->
  (Lib.compactUpTo d m).Pairwise (· < ·)/\(∀x,x∈Lib.compactUpTo d m↔∃j,j<m/\d[j]! =x)
 |0,_=>by simp[Lib.compactUpTo]
 |m+1,hm=>by
  obtain⟨h1,h2⟩:=aj9 d hd m (by omega);rw[Lib.compactUpTo_succ]
  cases hk:Lib.keeps d m with
  |true=>
   simp only[if_true];refine⟨?_,fun x=> ?_⟩
   ·rw[List.pairwise_append];refine⟨h1,by simp,fun a ha b hb=> ?_⟩;simp at hb;subst hb;obtain⟨j,hj,rfl⟩:=(h2 a).1 ha;have hne:m=0\/d[m]!≠d[m - 1]!:=by simpa [Lib.keeps] using hk
    have h3:d[j]!<=d[m - 1]!:=by
     by_cases e:j=m - 1
     ·rw[e];omega
     ·exact hd j (m - 1) (by omega) (by omega)
    have h4:d[m - 1]!<=d[m]!:=hd (m - 1) m (by omega) (by omega);rcases hne with h|h
    ·omega
    ·omega
   ·rw[List.mem_append,h2];constructor
    ·rintro(⟨j,hj,e⟩|h)
     ·exact⟨j,by omega,e⟩
     ·simp at h;exact⟨m,by omega,h.symm⟩
    ·rintro⟨j,hj,e⟩;by_cases hjm:j=m
     ·right;simp[<-e,hjm]
     ·left;exact⟨j,by omega,e⟩
  |false=>
   simp only[Bool.false_eq_true,if_false,List.append_nil];refine⟨h1,fun x=> ?_⟩;rw[h2];have hne: ¬(m=0\/d[m]!≠d[m - 1]!):=by simpa [Lib.keeps] using hk
   constructor
   ·rintro⟨j,hj,e⟩;exact⟨j,by omega,e⟩
   ·rintro⟨j,hj,e⟩;by_cases hjm:j=m
    ·subst hjm;refine⟨j - 1,by omega,?_⟩
     have:d[j]! =d[j - 1]!:=by
      by_cases h:d[j]! =d[j - 1]!
      ·exact h
      ·exact absurd (.inr h) hne
     rw[<-this];exact e
    ·exact⟨j,by omega,e⟩
theorem aas(l:List Int):asc (nk l)/\∀k,k∈nk l↔k∈l:=by
 have hs:=zz l
 obtain⟨h1,h2⟩:=aj9 (srt l).toArray (fun i j hij hj=>by
  have hj':j<(srt l).length:=by simpa using hj
  have:=List.pairwise_iff_getElem.1 hs i j (by omega) hj' hij;simpa [getElem!_pos,hj',show i<(srt l).length by omega] using this) (srt l).length (by simp)
 refine⟨h1,fun x=> ?_⟩;show x∈Lib.compactUpTo (srt l).toArray (srt l).length↔_;rw[h2,<-as5];constructor
 ·rintro⟨j,hj,rfl⟩;simp[getElem!_pos,hj]
 ·intro hx;obtain⟨j,hj,rfl⟩:=List.getElem_of_mem hx;exact⟨j,hj,by simp[getElem!_pos,hj]⟩
structure CnSpec(R:Ct->Int->Prop)(l:List Cn):Prop where
 r1:l.Pairwise fun a b=>j2 a.x b.x<0
 r2: ∀n∈l,asc n.ks
 r3: ∀x k,(∃n∈l,n.x=x/\k∈n.ks)↔R x k
 r4: ∀n∈l,n.ks≠[]
theorem as7{l:List Cn}(h:l.Pairwise fun a b=>j2 a.x b.x<0): ∀a∈l,∀b∈l,a.x=b.x->a=b:=by
 induction l with
 |nil=>simp
 |cons n r ih=>
  obtain⟨h1,h2⟩:=List.pairwise_cons.1 h;intro a ha b hb e;rcases List.mem_cons.1 ha with ha|ha<;>rcases List.mem_cons.1 hb with hb|hb
  ·rw[ha,hb]
  ·have:=h1 b hb;rw[<-ha,e]at this;exact absurd this (to_ordC.irr _)
  ·have:=h1 a ha;rw[<-hb,<-e]at this;exact absurd this (to_ordC.irr _)
  ·exact ih h2 a ha b hb e
theorem a6q{R:Ct->Int->Prop}{l m:List Cn}(hl:CnSpec R l)(hm:CnSpec R m):l=m:=by
 have sub: ∀{l m:List Cn},CnSpec R l->CnSpec R m->∀n∈l,n∈m:=fun {l m} hl hm n hn=>by
  obtain⟨k,r,hk⟩:=List.exists_cons_of_ne_nil (hl.r4 n hn);obtain⟨p,hp,hpx,hpk⟩:=(hm.r3 n.x k).2 ((hl.r3 n.x k).1 ⟨n,hn,rfl,by rw[hk];simp⟩)
  have hks:n.ks=p.ks:=by
   refine au6 (hl.r2 n hn) (hm.r2 p hp) fun q=>⟨fun hq=> ?_,fun hq=> ?_⟩
   ·obtain⟨p',hp',h1,h2⟩:=(hm.r3 n.x q).2 ((hl.r3 n.x q).1 ⟨n,hn,rfl,hq⟩);rw[as7 hm.r1 p hp p' hp' (hpx.trans h1.symm)];exact h2
   ·obtain⟨n',hn',h1,h2⟩:=(hl.r3 n.x q).2 ((hm.r3 n.x q).1 ⟨p,hp,hpx,hq⟩);rw[as7 hl.r1 n hn n' hn' h1.symm];exact h2
  have:n=p:=by
   cases n
   cases p
   simp only at hpx hks;rw[hpx,hks]
  rw[this];exact hp
 have nd: ∀{l:List Cn},(l.Pairwise fun a b=>j2 a.x b.x<0)->l.Nodup:=fun h=>h.imp fun {a b} h e=>by
  rw[e]at h;exact to_ordC.irr _ h
 refine List.Perm.eq_of_pairwise (le:=fun a b=>j2 a.x b.x<0) (fun a b _ _ h1 h2=> ?_) hl.r1 hm.r1 ((List.perm_ext_iff_of_nodup (nd hl.r1) (nd hm.r1)).2 fun n=>⟨sub hl hm n,sub hm hl n⟩);have:=(to_ordC.flip a.x b.x).1 h1;omega
theorem azy: ∀(o:List Cn) (y:Vt),∀b∈nj o y,b.x=y.x\/∃c∈o,b.x=c.x
 |[],y,b,hb=>by
  simp only[nj,List.mem_singleton]at hb
  exact .inl (by rw[hb])
 |n::r,y,b,hb=>by
  simp only[nj]at hb;split at hb
  ·rcases List.mem_cons.1 hb with rfl|hb
   ·exact .inr ⟨b,by simp,rfl⟩
   ·rcases azy r y b hb with h|⟨c,hc,h⟩
    ·exact .inl h
    ·exact .inr ⟨c,by simp[hc],h⟩
  ·split at hb
   ·rename_i he;rcases List.mem_cons.1 hb with rfl|hb
    ·exact .inl he
    ·exact .inr ⟨b,by simp[hb],rfl⟩
   ·rcases List.mem_cons.1 hb with rfl|hb
    ·exact .inl rfl
    ·exact .inr ⟨b,hb,rfl⟩
theorem as2: ∀{o:List Cn} (y:Vt),(o.Pairwise fun a b=>j2 a.x b.x<0)->(nj o y).Pairwise fun a b=>j2 a.x b.x<0
 |[],y,_=>by simp[nj]
 |n::r,y,h=>by
  obtain⟨h1,h2⟩:=List.pairwise_cons.1 h;simp only[nj];split
  ·rename_i hlt;refine List.pairwise_cons.2 ⟨fun b hb=> ?_,as2 y h2⟩;rcases azy r y b hb with e|⟨c,hc,e⟩
   ·rw[e];exact hlt
   ·rw[e];exact h1 c hc
  ·rename_i hnl;split
   ·exact List.pairwise_cons.2 ⟨h1,h2⟩
   ·rename_i hne
    have hgt:j2 y.x n.x<0:=(to_ordC.flip _ _).2 (by
     have:j2 n.x y.x≠0:=fun e=>hne ((j7 _ _).1 e);omega)
    refine List.pairwise_cons.2 ⟨fun b hb=> ?_,h⟩;rcases List.mem_cons.1 hb with rfl|hb
    ·exact hgt
    ·exact to_ordC.tr _ _ _ hgt (h1 b hb)
theorem ash: ∀{o:List Cn} (y:Vt),(∀n∈o,asc n.ks/\n.ks≠[])->∀n∈nj o y,asc n.ks/\n.ks≠[]
 |[],y,_,n,hn=>by
  simp only[nj,List.mem_singleton]at hn;subst hn
  exact⟨by simp[asc],by simp⟩
 |a::r,y,h,n,hn=>by
  simp only[nj]at hn;split at hn
  ·rcases List.mem_cons.1 hn with rfl|hn
   ·exact h n (by simp)
   ·exact ash y (fun m hm=>h m (by simp[hm])) n hn
  ·split at hn
   ·rcases List.mem_cons.1 hn with rfl|hn
    ·refine⟨akz _ (h a (by simp)).1,fun e=> ?_⟩;have:y.k∈yd a.ks y.k:=(nf _ _ _).2 (.inl rfl);simp only at e;rw[e]at this;simp at this
    ·exact h n (by simp[hn])
   ·rcases List.mem_cons.1 hn with rfl|hn
    ·exact⟨by simp[asc],by simp⟩
    ·exact h n hn
theorem aty: ∀(o:List Cn) (y:Vt) (x:Ct) (k:Int),(∃n∈nj o y,n.x=x/\k∈n.ks)↔(x=y.x/\k=y.k)\/∃n∈o,n.x=x/\k∈n.ks
 |[],y,x,k=>by
  simp only[nj,List.mem_singleton];constructor
  ·rintro⟨n,rfl,h1,h2⟩;simp only[List.mem_singleton]at h2;exact .inl ⟨h1.symm,h2⟩
  ·rintro(⟨h1,h2⟩|⟨n,hn,_⟩)
   ·exact⟨_,rfl,h1.symm,by simp[h2]⟩
   ·simp at hn
 |a::r,y,x,k=>by
  have ih:=aty r y x k;simp only[nj];split
  ·simp only[List.mem_cons];constructor
   ·rintro⟨n,rfl|hn,h1,h2⟩
    ·exact .inr ⟨n,.inl rfl,h1,h2⟩
    ·rcases ih.1 ⟨n,hn,h1,h2⟩with h|⟨m,hm,h⟩
     ·exact .inl h
     ·exact .inr ⟨m,.inr hm,h⟩
   ·rintro(h|⟨m,rfl|hm,h⟩)
    ·obtain⟨n,hn,h'⟩:=ih.2 (.inl h);exact⟨n,.inr hn,h'⟩
    ·exact⟨m,.inl rfl,h⟩
    ·obtain⟨n,hn,h'⟩:=ih.2 (.inr ⟨m,hm,h⟩);exact⟨n,.inr hn,h'⟩
  ·split
   ·rename_i he;simp only[List.mem_cons];constructor
    ·rintro⟨n,rfl|hn,h1,h2⟩
     ·simp only[nf]at h1 h2;rcases h2 with h2|h2
      ·exact .inl ⟨by rw[<-h1,he],h2⟩
      ·exact .inr ⟨a,.inl rfl,h1,h2⟩
     ·exact .inr ⟨n,.inr hn,h1,h2⟩
    ·rintro(⟨h1,h2⟩|⟨m,rfl|hm,h1,h2⟩)
     ·exact⟨_,.inl rfl,by rw[h1,he],by simp[nf,h2]⟩
     ·exact⟨_,.inl rfl,h1,by simp only[nf];exact .inr h2⟩
     ·exact⟨m,.inr hm,h1,h2⟩
   ·simp only[List.mem_cons];constructor
    ·rintro⟨n,rfl|hn,h1,h2⟩
     ·simp only[List.mem_singleton]at h2;exact .inl ⟨h1.symm,h2⟩
     ·exact .inr ⟨n,hn,h1,h2⟩
    ·rintro(⟨h1,h2⟩|⟨m,hm,h⟩)
     ·exact⟨_,.inl rfl,h1.symm,by simp[h2]⟩
     ·exact⟨m,.inr hm,h⟩
def yi(seats:List Int)(v:List Vt)(i:Nat)(x:Ct)(k:Int):Prop:=k∈seats/\∃a,a<i/\(el v a).x=x/\(el v a).k=k
theorem kn(seats:List Int)(v:List Vt)(i:Nat)(x:Ct)(k:Int):yi seats v (i+1) x k↔((el v i).k∈seats/\x=(el v i).x/\k=(el v i).k)\/yi seats v i x k:=by
 constructor
 ·rintro⟨h1,a,h2,h3,h4⟩;rcases Nat.lt_succ_iff_lt_or_eq.1 h2 with h|rfl
  ·exact .inr ⟨h1,a,h,h3,h4⟩
  ·exact .inl ⟨by rw[h4];exact h1,h3.symm,h4.symm⟩
 ·rintro(⟨h1,h2,h3⟩|⟨h1,a,h2,h3⟩)
  ·exact⟨by rw[h3];exact h1,i,by omega,h2.symm,h3.symm⟩
  ·exact⟨h1,a,by omega,h3⟩
theorem abg(seats:List Int)(v:List Vt): ∀i,i<=v.length->CnSpec (yi seats v i) (cnI seats v i)
 |0,_=>⟨by simp[cnI],by simp[cnI],fun x k=>by simp[cnI,yi],by simp[cnI]⟩
 |i+1,h=>by
  have hlt:i<v.length:=by omega
  have ih:=abg seats v i (by omega);rw[acr hlt];split
  ·rename_i hk;have h2:=ash (el v i) (fun n hn=>⟨ih.r2 n hn,ih.r4 n hn⟩);refine⟨as2 _ ih.r1,fun n hn=>(h2 n hn).1,fun x k=> ?_,fun n hn=>(h2 n hn).2⟩;rw[aty,kn,ih.r3];constructor
   ·rintro(h|h)
    ·exact .inl ⟨hk,h⟩
    ·exact .inr h
   ·rintro(h|h)
    ·exact .inl h.2
    ·exact .inr h
  ·rename_i hk;refine⟨ih.r1,ih.r2,fun x k=> ?_,ih.r4⟩;rw[kn,ih.r3];constructor
   ·exact .inr
   ·rintro(h|h)
    ·exact absurd h.1 hk
    ·exact h
theorem atn(hinj: ∀x y:Ct,okX x->okX y->eb x=eb y->x=y){seats:List Int}{v:List Vt}(hx: ∀y∈v,okX y.x): ∀i,i<=v.length->
  (∀x k,(∃g∈cF seats v i,g.1=x/\k∈g.2)↔yi seats v i x k)/\∀g∈cF seats v i,g.2≠[]
 |0,_=>⟨fun x k=>by simp[cF,yi],by simp[cF]⟩
 |i+1,h=>by
  have hlt:i<v.length:=by omega
  obtain⟨a1,a2⟩:=atn hinj (seats:=seats) hx i (by omega);have hok:=axs (seats:=seats) hx i (by omega);rw[xg hlt];by_cases hk:(el v i).k∈seats
  ·rw[if_pos hk];generalize cF seats v i=G at*;simp only[cG]
   cases hg:an7 (eb (el v i).x) G with
   |none=>
    simp only;refine⟨fun x k=> ?_,fun g hm=> ?_⟩
    ·rw[kn,<-a1];constructor
     ·rintro⟨g,hm,h1,h2⟩;rcases List.mem_append.1 hm with hm|hm
      ·exact .inr ⟨g,hm,h1,h2⟩
      ·simp only[List.mem_singleton]at hm;subst hm;simp only[List.mem_singleton]at h2;exact .inl ⟨hk,h1.symm,h2⟩
     ·rintro(⟨_,h1,h2⟩|⟨g,hm,h1,h2⟩)
      ·exact⟨_,List.mem_append_right _ (List.mem_singleton.2 rfl),h1.symm,by simp[h2]⟩
      ·exact⟨g,List.mem_append_left _ hm,h1,h2⟩
    ·rcases List.mem_append.1 hm with hm|hm
     ·exact a2 g hm
     ·simp only[List.mem_singleton]at hm;subst hm
      simp
   |some j=>
    obtain⟨hj,hjt⟩:=pe hg;have hjx:(el G j).1=(el v i).x:=hinj _ _ (hok _ (bz hj)).1 (hx _ (bz hlt)) hjt;simp only;have hset: ∀g,g∈G.set j ((el G j).1,(el G j).2++[(el v i).k])->g=((el G j).1,(el G j).2++[(el v i).k])\/g∈G:=fun g hm=>(List.mem_or_eq_of_mem_set hm).symm;have hnew:((el G j).1,(el G j).2++[(el v i).k])∈G.set j ((el G j).1,(el G j).2++[(el v i).k]):=List.mem_iff_getElem.2 ⟨j,by simpa using hj,by simp⟩;refine⟨fun x k=> ?_,fun g hm=> ?_⟩
    ·rw[kn,<-a1];constructor
     ·rintro⟨g,hm,h1,h2⟩;rcases hset g hm with rfl|hm
      ·simp only[List.mem_append,List.mem_singleton]at h1 h2;rcases h2 with h2|h2
       ·exact .inr ⟨el G j,bz hj,h1,h2⟩
       ·exact .inl ⟨hk,by rw[<-h1,hjx],h2⟩
      ·exact .inr ⟨g,hm,h1,h2⟩
     ·rintro(⟨_,h1,h2⟩|⟨g,hm,h1,h2⟩)
      ·exact⟨_,hnew,by rw[h1,<-hjx],by simp[h2]⟩
      ·obtain⟨q,hq,rfl⟩:=List.mem_iff_getElem.1 hm;by_cases hqj:q=j
       ·subst hqj;have e:el G q=G[q]:=by simp[el,bq,hq]
        exact⟨_,hnew,by rw[e];exact h1,by rw[e];exact List.mem_append_left _ h2⟩
       ·refine⟨G[q],List.mem_iff_getElem.2 ⟨q,by simpa using hq,?_⟩,h1,h2⟩;rw[List.getElem_set_ne (fun e=>hqj e.symm)]
    ·rcases hset g hm with rfl|hm
     ·simp
     ·exact a2 g hm
  ·rw[if_neg hk];refine⟨fun x k=> ?_,a2⟩;rw[kn,<-a1];constructor
   ·exact .inr
   ·rintro(h|h)
    ·exact absurd h.1 hk
    ·exact h
theorem ayi(hinj: ∀x y:Ct,okX x->okX y->eb x=eb y->x=y){seats:List Int}{v:List Vt}(hx: ∀y∈v,okX y.x):CnSpec (yi seats v v.length) (cnC seats v):=by
 obtain⟨a1,a2⟩:=atn hinj (seats:=seats) hx v.length (Nat.le_refl _);have hnd:=acp seats v v.length;have hmem: ∀n,n∈cnC seats v↔n∈(cF seats v v.length).map amm:=fun n=>(List.mergeSort_perm _ _).mem_iff;refine⟨?_,fun n hn=> ?_,fun x k=> ?_,fun n hn=> ?_⟩
 ·have h1:(cnC seats v).Pairwise fun a b=> ¬j2 b.x a.x<0:=by
   have:=List.pairwise_mergeSort (le:=fun a b:Cn=> !decide (j2 b.x a.x<0)) (fun a b c h1 h2=>by
    simp only[Bool.not_eq_true',decide_eq_false_iff_not]at h1 h2 ⊢;exact to_ordC.nt c.x b.x a.x h2 h1) (fun a b=>by
    simp only[Bool.or_eq_true,Bool.not_eq_true',decide_eq_false_iff_not];by_cases h:j2 b.x a.x<0
    ·have:=(to_ordC.flip b.x a.x).1 h;exact .inr (by omega)
    ·exact .inl h) ((cF seats v v.length).map amm)
   exact this.imp fun h=>by simpa using h
  have h2:((cnC seats v).map fun n=>n.x).Nodup:=by
   have h3:((cF seats v v.length).map fun g=>g.1).Nodup:=by
    have:((cF seats v v.length).map fun g=>eb g.1)=((cF seats v v.length).map fun g=>g.1).map eb:=by simp
    rw[this]at hnd;exact List.Pairwise.imp (fun {a b} h e=>h (by rw[e])) (List.pairwise_map.1 hnd)
   have h4:((cnC seats v).map fun n=>n.x).Perm ((cF seats v v.length).map fun g=>g.1):=by
    have:=(List.mergeSort_perm ((cF seats v v.length).map amm) (fun a b:Cn=> !decide (j2 b.x a.x<0))).map fun n=>n.x;have e:((cF seats v v.length).map amm).map (fun n=>n.x)=(cF seats v v.length).map fun g=>g.1:=by simp[amm,Function.comp_def]
    rw[e]at this;exact this
   exact h4.nodup_iff.2 h3
  have h5:=List.pairwise_map.1 h2
  exact(h1.and h5).imp fun {a b} h=>by
   have hne:j2 a.x b.x≠0:=fun e=>h.2 ((j7 _ _).1 e);have:=to_ordC.flip b.x a.x;by_cases hlt:j2 a.x b.x<0
   ·exact hlt
   ·exact absurd ((to_ordC.flip b.x a.x).2 (by omega)) h.1
 ·obtain⟨g,_,rfl⟩:=List.mem_map.1 ((hmem n).1 hn);exact(aas g.2).1
 ·rw[<-a1];constructor
  ·rintro⟨n,hn,h1,h2⟩;obtain⟨g,hg,rfl⟩:=List.mem_map.1 ((hmem n).1 hn);exact⟨g,hg,h1,((aas g.2).2 k).1 h2⟩
  ·rintro⟨g,hg,h1,h2⟩;exact⟨amm g,(hmem _).2 (List.mem_map.2 ⟨g,hg,rfl⟩),h1,((aas g.2).2 k).2 h2⟩
 ·obtain⟨g,hg,rfl⟩:=List.mem_map.1 ((hmem n).1 hn);obtain⟨k,r,hk⟩:=List.exists_cons_of_ne_nil (a2 g hg);intro e;have:k∈nk g.2:=((aas g.2).2 k).2 (by rw[hk];simp);rw[show nk g.2=[] from e]at this;simp at this
theorem a36(hinj: ∀x y:Ct,okX x->okX y->eb x=eb y->x=y){seats:List Int}{v:List Vt}(hx: ∀y∈v,okX y.x):cnC seats v=cnR seats v:=
 a6q (ayi hinj hx) (abg seats v v.length (Nat.le_refl _))
def a4l(l:List UInt8):Nat:=l.foldl (fun a c=>a*10+(c.toNat - 48)) 0
theorem aay{d:Nat}(h:d<10):(UInt8.ofNat (48+d)).toNat=48+d:=by
 rw[UInt8.toNat_ofNat'];omega
theorem pf(u:Nat):(∀c∈Lib.decDigits u,48<=c.toNat/\c.toNat<=57)/\a4l (Lib.decDigits u)=u/\Lib.decDigits u≠[]:=by
 induction u using Nat.strongRecOn with
 |_ u ih=>
  by_cases h:u<10
  ·rw[Lib.decDigits,dif_pos h];refine⟨fun c hc=> ?_,?_,by simp⟩
   ·simp only[List.mem_singleton]at hc;rw[hc,aay h];omega
   ·simp only[a4l,List.foldl_cons,List.foldl_nil];rw[aay h];omega
  ·rw[Lib.decDigits,dif_neg h];obtain⟨h1,h2,h3⟩:=ih (u/10) (by omega);have hd:u % 10<10:=by omega
   refine⟨fun c hc=> ?_,?_,by simp⟩
   ·rcases List.mem_append.1 hc with hc|hc
    ·exact h1 c hc
    ·simp only[List.mem_singleton]at hc;rw[hc,aay hd];omega
   ·have h2':a4l (Lib.decDigits (u/10))=u/10:=h2;simp only[a4l,List.foldl_append,List.foldl_cons,List.foldl_nil]at h2' ⊢;rw[h2',aay hd];omega
def a8w(l:List UInt8):Int:=if l.head? =some 45 then -(a4l l.tail:Int)else a4l l
theorem m9(n:Int):a8w (Lib.itoa n)=n/\(∀c∈Lib.itoa n,c≠44)/\∃c r,Lib.itoa n=c::r/\c≠59:=by
 by_cases h:n<0
 ·obtain⟨h1,h2,h3⟩:=pf n.natAbs;have e:Lib.itoa n=45::Lib.decDigits n.natAbs:=by unfold Lib.itoa;rw[if_pos h]
  rw[e];refine⟨?_,fun c hc=> ?_,45,_,rfl,by decide⟩
  ·simp only[a8w,List.head?_cons,if_true,List.tail_cons,h2];omega
  ·rcases List.mem_cons.1 hc with rfl|hc
   ·decide
   ·have:=h1 c hc;intro e;rw[e]at this;simp at this
 ·obtain⟨h1,h2,h3⟩:=pf n.toNat;have e:Lib.itoa n=Lib.decDigits n.toNat:=by unfold Lib.itoa;rw[if_neg h]
  rw[e];obtain⟨c,r,hcr⟩:=List.exists_cons_of_ne_nil h3;have hc:=h1 c (by rw[hcr];simp);refine⟨?_,fun c hc=> ?_,c,r,hcr,fun e=>by rw[e]at hc;simp at hc⟩
  ·have hne: ¬(Lib.decDigits n.toNat).head? =some 45:=fun e=>by
    rw[hcr]at e;simp only[List.head?_cons,Option.some.injEq]at e;rw[e]at hc;simp at hc
   simp only[a8w,if_neg hne,h2];omega
  ·have:=h1 c hc;intro e;rw[e]at this;simp at this
theorem a5f{c:UInt8}: ∀{a b r s:List UInt8},(∀x∈a,x≠c)->(∀x∈b,x≠c)->a++c::r=b++c::s->a=b/\r=s
 |[],[],r,s,_,_,h=>by simpa using h
 |[],y::b,r,s,_,hb,h=>by
  simp only[List.nil_append,List.cons_append,List.cons.injEq]at h
  exact absurd h.1.symm (hb y (by simp))
 |x::a,[],r,s,ha,_,h=>by
  simp only[List.nil_append,List.cons_append,List.cons.injEq]at h
  exact absurd h.1 (ha x (by simp))
 |x::a,y::b,r,s,ha,hb,h=>by
  simp only[List.cons_append,List.cons.injEq]at h;obtain⟨h1,h2⟩:=a5f (fun z hz=>ha z (by simp[hz])) (fun z hz=>hb z (by simp[hz])) h.2;exact⟨by rw[h.1,h1],h2⟩
theorem abx{n m:Int}{r s:List UInt8}(h:Lib.itoa n++44::r=Lib.itoa m++44::s):n=m/\r=s:=by
 obtain⟨h1,h2⟩:=a5f (m9 n).2.1 (m9 m).2.1 h;exact⟨by rw[<-(m9 n).1,h1,(m9 m).1],h2⟩
def a8l(l:List UInt8):Prop:=l=[]\/∃r,l=59::r
theorem azo: ∀{a b:List Int} {r s:List UInt8},a8l r->a8l s->a.flatMap nB++r=b.flatMap nB++s->a=b/\r=s
 |[],[],r,s,_,_,h=>by simpa using h
 |[],m::b,r,s,hr,_,h=>by
  obtain⟨c,q,e,hc⟩:=(m9 m).2.2;simp only[List.flatMap_nil,List.nil_append,List.flatMap_cons,nB,e,List.cons_append]at h;rcases hr with rfl|⟨r',rfl⟩
  ·cases h
  ·simp only[List.cons.injEq]at h
   exact absurd h.1.symm hc
 |n::a,[],r,s,_,hs,h=>by
  obtain⟨c,q,e,hc⟩:=(m9 n).2.2;simp only[List.flatMap_nil,List.nil_append,List.flatMap_cons,nB,e,List.cons_append]at h;rcases hs with rfl|⟨r',rfl⟩
  ·cases h
  ·simp only[List.cons.injEq]at h
   exact absurd h.1 hc
 |n::a,m::b,r,s,hr,hs,h=>by
  simp only[List.flatMap_cons,nB,List.append_assoc,List.cons_append,List.nil_append]at h;obtain⟨h1,h2⟩:=abx h;obtain⟨h3,h4⟩:=azo hr hs h2;exact⟨by rw[h1,h3],h4⟩
theorem a7i(hq: ∀{s t r u:List UInt8},qB s++r=qB t++u->s=t/\r=u){p q:Pn}{r s:List UInt8}(h:tpB p++r=tpB q++s):p=q/\r=s:=by
 simp only[tpB,List.cons_append,List.append_assoc,List.cons.injEq,true_and]at h;obtain⟨h1,h2⟩:=abx h;obtain⟨h3,h4⟩:=abx h2;obtain⟨h5,h6⟩:=hq h4
 cases p
 cases q
 simp only at h1 h3 h5;exact⟨by rw[h1,h3,h5],h6⟩
theorem a0a(hq: ∀{s t r u:List UInt8},qB s++r=qB t++u->s=t/\r=u): ∀{a b:List Pn},a.flatMap tpB=b.flatMap tpB->a=b
 |[],[],_=>rfl
 |[],q::b,h=>by simp[tpB]at h
 |p::a,[],h=>by simp[tpB]at h
 |p::a,q::b,h=>by
  simp only[List.flatMap_cons]at h;obtain⟨h1,h2⟩:=a7i hq h;rw[h1,a0a hq h2]
theorem aym(hq: ∀{s t r u:List UInt8},qB s++r=qB t++u->s=t/\r=u){x y:Ct}(h:eb x=eb y):x=y:=by
 have hs: ∀l:List Pn,a8l (l.flatMap tpB):=fun l=>by
  cases l with
  |nil=>exact .inl rfl
  |cons p l=>exact .inr ⟨_,by simp only[List.flatMap_cons,tpB,List.cons_append];rfl⟩
 obtain⟨h1,h2⟩:=azo (hs _) (hs _) h;have h3:=a0a hq h2
 cases x
 cases y
 simp only at h1 h3;rw[h1,h3]
inductive Kd where
 |bad (b:UInt8)
 |good (r:Nat)
def okK:Kd->Prop
 | .bad b=>128<=b.toNat
 | .good r=>Lib.validRune r=true
def v6:Kd->List Int
 | .bad b=>[92,120,Lib.hexDigit (b.toNat/16),Lib.hexDigit (b.toNat % 16)]
 | .good r=>Lib.escRune Lib.goPrintTabs r
def a9v:Kd->List UInt8
 | .bad b=>[b]
 | .good r=>Lib.encodeRune r
def hv(c:Int):Nat:=if c<58 then(c - 48).toNat else(c - 87).toNat
theorem iv{x:Nat}(h:x<16):hv (Lib.hexDigit x)=x:=by
 unfold hv Lib.hexDigit;split<;>split<;>omega
def unK(l:List Int):Kd:=
 if l.getD 0 0=92 then
  if l.getD 1 0=120 then(if hv (l.getD 2 0)*16+hv (l.getD 3 0)<128 then .good (hv (l.getD 2 0)*16+hv (l.getD 3 0))else .bad (UInt8.ofNat (hv (l.getD 2 0)*16+hv (l.getD 3 0))))
  else if l.getD 1 0=117 then .good (((hv (l.getD 2 0)*16+hv (l.getD 3 0))*16+hv (l.getD 4 0))*16+hv (l.getD 5 0))
  else if l.getD 1 0=85 then .good (((((((hv (l.getD 2 0)*16+hv (l.getD 3 0))*16+hv (l.getD 4 0))*16+hv (l.getD 5 0))*16+hv (l.getD 6 0))*16+hv (l.getD 7 0))*16+hv (l.getD 8 0))*16+hv (l.getD 9 0))
  else if l.getD 1 0=97 then .good 7 else if l.getD 1 0=98 then .good 8 else if l.getD 1 0=102 then .good 12 else if l.getD 1 0=110 then .good 10
  else if l.getD 1 0=114 then .good 13 else if l.getD 1 0=116 then .good 9 else if l.getD 1 0=118 then .good 11 else .good (l.getD 1 0).toNat
 else if l.getD 0 0<128 then .good (l.getD 0 0).toNat
 else if l.getD 0 0<224 then .good ((l.getD 0 0 - 192)*64+(l.getD 1 0 - 128)).toNat
 else if l.getD 0 0<240 then .good ((l.getD 0 0 - 224)*4096+(l.getD 1 0 - 128)*64+(l.getD 2 0 - 128)).toNat
 else .good ((l.getD 0 0 - 240)*262144+(l.getD 1 0 - 128)*4096+(l.getD 2 0 - 128)*64+(l.getD 3 0 - 128)).toNat
theorem a6j(r:Nat)(h:Lib.validRune r=true)(h92:r≠92)(X:List Int):unK (Lib.encodeRuneZ r++X)= .good r:=by
 simp only[Lib.validRune,decide_eq_true_eq]at h;unfold Lib.encodeRuneZ;split
 ·have h1: ¬(r:Int)=92:=by omega
  have h2:(r:Int)<128:=by omega
  simp[unK,h1,h2]
 split
 ·have h1: ¬(192+(r:Int)/64)=92:=by omega
  have h2: ¬(192+(r:Int)/64)<128:=by omega
  have h3:(192+(r:Int)/64)<224:=by omega
  simp only[unK,List.cons_append,List.nil_append,List.getD_cons_zero,List.getD_cons_succ,h1,h2,h3,if_true,if_false];congr 1;omega
 split
 ·have h1: ¬(224+(r:Int)/4096)=92:=by omega
  have h2: ¬(224+(r:Int)/4096)<128:=by omega
  have h3: ¬(224+(r:Int)/4096)<224:=by omega
  have h4:(224+(r:Int)/4096)<240:=by omega
  simp only[unK,List.cons_append,List.nil_append,List.getD_cons_zero,List.getD_cons_succ,h1,h2,h3,h4,if_true,if_false];congr 1;omega
 split
 ·have h1: ¬(240+(r:Int)/262144)=92:=by omega
  have h2: ¬(240+(r:Int)/262144)<128:=by omega
  have h3: ¬(240+(r:Int)/262144)<224:=by omega
  have h4: ¬(240+(r:Int)/262144)<240:=by omega
  simp only[unK,List.cons_append,List.nil_append,List.getD_cons_zero,List.getD_cons_succ,h1,h2,h3,h4,if_false];congr 1;omega
 ·omega
theorem ao3(n:Nat)(k:Nat):n/16^k % 16<16:=by omega
theorem agh(k:Kd)(h:okK k)(X:List Int):unK (v6 k++X)=k:=by
 cases k with
 |bad b=>
  have hb:128<=b.toNat:=h;have hb2:=b.toNat_lt;simp only[v6,unK,List.cons_append,List.nil_append,List.getD_cons_zero,List.getD_cons_succ,if_true];rw[iv (by omega),iv (by omega),if_neg (by omega)];have:b.toNat/16*16+b.toNat % 16=b.toNat:=by omega
  rw[this,UInt8.ofNat_toNat]
 |good r=>
  have hr:Lib.validRune r=true:=h;have hr':=hr;simp only[Lib.validRune,decide_eq_true_eq]at hr';show unK (Lib.escRune Lib.goPrintTabs r++X)=_;generalize Lib.goPrintTabs=T;unfold Lib.escRune;by_cases h0:(r:Int)=34\/(r:Int)=92
  ·rw[if_pos h0];simp only[unK,List.cons_append,List.nil_append,List.getD_cons_zero,List.getD_cons_succ,if_true];rw[if_neg (by omega),if_neg (by omega),if_neg (by omega),if_neg (by omega),if_neg (by omega),if_neg (by omega),if_neg (by omega),if_neg (by omega),if_neg (by omega),if_neg (by omega)];rfl
  rw[if_neg h0];by_cases hp:Lib.isPrintR T r=true
  ·rw[if_pos hp];exact a6j r hr (by omega) X
  rw[if_neg hp];clear hp;by_cases e1:(r:Int)=7
  ·have:r=7:=by omega
   subst this;rfl
  rw[if_neg e1];by_cases e2:(r:Int)=8
  ·have:r=8:=by omega
   subst this;rfl
  rw[if_neg e2];by_cases e3:(r:Int)=12
  ·have:r=12:=by omega
   subst this;rfl
  rw[if_neg e3];by_cases e4:(r:Int)=10
  ·have:r=10:=by omega
   subst this;rfl
  rw[if_neg e4];by_cases e5:(r:Int)=13
  ·have:r=13:=by omega
   subst this;rfl
  rw[if_neg e5];by_cases e6:(r:Int)=9
  ·have:r=9:=by omega
   subst this;rfl
  rw[if_neg e6];by_cases e7:(r:Int)=11
  ·have:r=11:=by omega
   subst this;rfl
  rw[if_neg e7];by_cases h1:(r:Int)<32\/(r:Int)=127
  ·rw[if_pos h1];simp only[unK,List.cons_append,List.nil_append,List.getD_cons_zero,List.getD_cons_succ,if_true,Int.toNat_natCast];rw[iv (by omega),iv (by omega),if_pos (by omega)];refine congrArg Kd.good ?_;omega
  rw[if_neg h1,hr,if_neg (by decide)];by_cases h2:(r:Int)<65536
  ·rw[if_pos h2];simp only[unK,Lib.hexDigits,List.cons_append,List.nil_append,List.getD_cons_zero,List.getD_cons_succ,if_true,Int.toNat_natCast];rw[if_neg (by omega),iv (ao3 r 3),iv (ao3 r 2),iv (ao3 r 1),iv (ao3 r 0)];refine congrArg Kd.good ?_;simp only[Nat.reducePow];omega
  ·rw[if_neg h2];simp only[unK,Lib.hexDigits,List.cons_append,List.nil_append,List.getD_cons_zero,List.getD_cons_succ,if_true,Int.toNat_natCast];rw[if_neg (by omega),if_neg (by omega),iv (ao3 r 7),iv (ao3 r 6),iv (ao3 r 5),iv (ao3 r 4),iv (ao3 r 3),iv (ao3 r 2),iv (ao3 r 1),iv (ao3 r 0)];refine congrArg Kd.good ?_;simp only[Nat.reducePow];omega
def xj(z:Int):Prop:=0<=z/\z<256
theorem p8{x:Nat}(h:x<16):xj (Lib.hexDigit x):=by
 unfold xj Lib.hexDigit;split<;>omega
theorem v7(r:Nat): ∀n,∀z∈Lib.hexDigits r n,xj z
 |0,z,hz=>by simp[Lib.hexDigits]at hz
 |n+1,z,hz=>by
  simp only[Lib.hexDigits,List.mem_cons]at hz;rcases hz with rfl|hz
  ·exact p8 (by omega)
  ·exact v7 r n z hz
theorem xa(k:Kd)(h:okK k): ∀z∈v6 k,xj z:=by
 cases k with
 |bad b=>
  have hb2:=b.toNat_lt;intro z hz;simp only[v6,List.mem_cons,List.not_mem_nil,or_false]at hz;rcases hz with rfl|rfl|rfl|rfl
  ·exact⟨by omega,by omega⟩
  ·exact⟨by omega,by omega⟩
  ·exact p8 (by omega)
  ·exact p8 (by omega)
 |good r=>
  have hr:Lib.validRune r=true:=h;show∀z∈Lib.escRune Lib.goPrintTabs r,xj z;generalize Lib.goPrintTabs=T;unfold Lib.escRune
  have two: ∀a b:Int,xj a->xj b->∀z∈[a,b],xj z:=fun a b ha hb z hz=>by
   simp only[List.mem_cons,List.not_mem_nil,or_false]at hz;rcases hz with rfl|rfl
   ·exact ha
   ·exact hb
  have b92:xj 92:=⟨by omega,by omega⟩;by_cases h0:(r:Int)=34\/(r:Int)=92
  ·rw[if_pos h0];exact two _ _ b92 ⟨by omega,by omega⟩
  rw[if_neg h0];by_cases hp:Lib.isPrintR T r=true
  ·rw[if_pos hp];exact Lib.encodeRuneZ_byte r
  rw[if_neg hp];clear hp;by_cases e1:(r:Int)=7
  ·rw[if_pos e1];exact two _ _ b92 ⟨by omega,by omega⟩
  rw[if_neg e1];by_cases e2:(r:Int)=8
  ·rw[if_pos e2];exact two _ _ b92 ⟨by omega,by omega⟩
  rw[if_neg e2];by_cases e3:(r:Int)=12
  ·rw[if_pos e3];exact two _ _ b92 ⟨by omega,by omega⟩
  rw[if_neg e3];by_cases e4:(r:Int)=10
  ·rw[if_pos e4];exact two _ _ b92 ⟨by omega,by omega⟩
  rw[if_neg e4];by_cases e5:(r:Int)=13
  ·rw[if_pos e5];exact two _ _ b92 ⟨by omega,by omega⟩
  rw[if_neg e5];by_cases e6:(r:Int)=9
  ·rw[if_pos e6];exact two _ _ b92 ⟨by omega,by omega⟩
  rw[if_neg e6];by_cases e7:(r:Int)=11
  ·rw[if_pos e7];exact two _ _ b92 ⟨by omega,by omega⟩
  rw[if_neg e7];by_cases h1:(r:Int)<32\/(r:Int)=127
  ·rw[if_pos h1];intro z hz;simp only[List.mem_cons,List.not_mem_nil,or_false]at hz;rcases hz with rfl|rfl|rfl|rfl
   ·exact b92
   ·exact⟨by omega,by omega⟩
   ·exact p8 (by omega)
   ·exact p8 (by omega)
  rw[if_neg h1,hr,if_neg (by decide)];by_cases h2:(r:Int)<65536
  ·rw[if_pos h2];intro z hz;rcases List.mem_cons.1 hz with rfl|hz
   ·exact b92
   rcases List.mem_cons.1 hz with rfl|hz
   ·exact⟨by omega,by omega⟩
   ·exact v7 _ _ z hz
  ·rw[if_neg h2];intro z hz;rcases List.mem_cons.1 hz with rfl|hz
   ·exact b92
   rcases List.mem_cons.1 hz with rfl|hz
   ·exact⟨by omega,by omega⟩
   ·exact v7 _ _ z hz
def toB(z:Int):UInt8:=UInt8.ofNat z.toNat
def toI(b:UInt8):Int:=(b.toNat:Int)
theorem a01{z:Int}(h:xj z):toI (toB z)=z:=by
 unfold toI toB;rw[UInt8.toNat_ofNat'];have:=h.1;have:=h.2;omega
theorem vb: ∀{l:List Int},(∀z∈l,xj z)->(l.map toB).map toI=l
 |[],_=>rfl
 |z::l,h=>by
  simp only[List.map_cons];rw[a01 (h z (by simp)),vb fun y hy=>h y (by simp[hy])]
theorem avs{k1 k2:Kd}(h1:okK k1)(h2:okK k2){X Y:List UInt8}(h:(v6 k1).map toB++X=(v6 k2).map toB++Y):k1=k2/\X=Y:=by
 have e:k1=k2:=by
  have:=congrArg (List.map toI) h;rw[List.map_append,List.map_append,vb (xa k1 h1),vb (xa k2 h2)]at this;rw[<-agh k1 h1 (X.map toI),this,agh k2 h2]
 subst e;exact⟨rfl,List.append_cancel_left h⟩
theorem a00(l:List UInt8)(hne:l≠[]): ∃k,okK k/\Lib.quoteStep Lib.goPrintTabs ⟨l.toArray⟩=v6 k/\a9v k=l.take (Utf8.decode ⟨l.toArray⟩ 0).2:=by
 by_cases hb:(Utf8.decode ⟨l.toArray⟩ 0).2=1/\(Utf8.decode ⟨l.toArray⟩ 0).1=65533
 ·obtain⟨a,r,rfl⟩:=List.exists_cons_of_ne_nil hne;refine⟨.bad a,?_,?_,?_⟩
  ·show 128<=a.toNat;have h1:Lib.decodeL (a::r)=Lib.decodeN (a::r).length a.toNat ((a::r).getD 1 0).toNat ((a::r).getD 2 0).toNat ((a::r).getD 3 0).toNat:=Lib.decodeL_N _;have h2:(Lib.decodeL (a::r)).1=65533:=hb.2;rw[h1]at h2;have h3:=a.toNat_lt;rcases Nat.lt_or_ge a.toNat 128 with h4|h4
   ·unfold Lib.decodeN at h2;rw[if_pos h4]at h2;simp only at h2;omega
   ·exact h4
  ·unfold Lib.quoteStep;rw[if_pos hb];rfl
  ·rw[hb.1];rfl
 ·refine⟨.good (Utf8.decode ⟨l.toArray⟩ 0).1,Lib.rune_valid _,Lib.quoteStep_good _ _ hb,?_⟩;exact Lib.encode_decode l hne fun h=>hb ⟨h.2,h.1⟩
theorem adz(l:List UInt8)(w:Nat):(⟨l.toArray⟩:ByteArray).extract w (⟨l.toArray⟩:ByteArray).size=⟨(l.drop w).toArray⟩:=by
 apply ByteArray.ext;simp[ByteArray.size,ByteArray.data_extract];rw[List.take_of_length_le (by simp)]
def qF(f:Nat)(l:List UInt8):List UInt8:=(Lib.quoteFrom Lib.goPrintTabs f ⟨l.toArray⟩).map toB
theorem ajx(f:Nat):qF f []=[]:=by
 unfold qF;rw[Lib.quoteFrom_end _ _ _ (by simp[ByteArray.size])];rfl
theorem agk(f:Nat)(l:List UInt8)(hne:l≠[])(hf:l.length<=f): ∃k f',okK k/\f'+1=f/\1<=(Utf8.decode ⟨l.toArray⟩ 0).2/\a9v k=l.take (Utf8.decode ⟨l.toArray⟩ 0).2/\qF f l=(v6 k).map toB++qF f' (l.drop (Utf8.decode ⟨l.toArray⟩ 0).2):=by
 obtain⟨k,h1,h2,h3⟩:=a00 l hne;have hpos:0<l.length:=List.length_pos_iff.2 hne;obtain⟨f',rfl⟩: ∃f',f=f'+1:=⟨f - 1,by omega⟩
 have hw:1<=(Utf8.decode ⟨l.toArray⟩ 0).2:=by
  rw[Lib.decode_at];unfold Lib.decodeN
  repeat' split
  all_goals simp
 refine⟨k,f',h1,rfl,hw,h3,?_⟩;unfold qF;have hs:0<(⟨l.toArray⟩:ByteArray).size:=by simpa [ByteArray.size] using hpos
 simp only[Lib.quoteFrom,hs,if_true,List.map_append,h2];rw[adz]
theorem adq(k:Kd)(h:okK k)(X Y:List UInt8):(v6 k).map toB++X≠34::Y:=by
 intro e
 cases k with
 |bad b=>cases e
 |good r=>
  have h1:(v6 (.good r)).map toB++X=34::Y:=e;have h2:=congrArg (List.map toI) h1;rw[List.map_append,vb (xa _ h)]at h2;have h3:=agh _ h (X.map toI);rw[h2]at h3
  have h4:unK (List.map toI (34::Y))= .good 34:=by
   have e1:toI 34=34:=by decide
   simp only[List.map_cons,unK,List.getD_cons_zero,e1];rw[if_neg (by omega),if_pos (by omega)];rfl
  rw[h4]at h3
  cases h3
  have h5:v6 (.good 34)=[92,34]:=by
   show Lib.escRune Lib.goPrintTabs ((34:Nat):Int)=_;generalize Lib.goPrintTabs=T;unfold Lib.escRune;rw[if_pos (.inl rfl)];rfl
  rw[h5]at h2;simp[toI]at h2
theorem a4y: ∀(n:Nat) {f g:Nat} {s t r u:List UInt8},s.length<=n->s.length<=f->t.length<=g->qF f s++34::r=qF g t++34::u->s=t/\r=u:=by
 intro n
 induction n with
 |zero=>
  intro f g s t r u hn hf hg h;have hs:s=[]:=List.eq_nil_of_length_eq_zero (by omega);subst hs;by_cases ht:t=[]
  ·subst ht;rw[ajx,ajx]at h;exact⟨rfl,by simpa using h⟩
  ·obtain⟨k,g',h1,_,_,_,h2⟩:=agk g t ht hg;rw[ajx,h2,List.append_assoc]at h
   exact absurd h.symm (adq k h1 _ _)
 |succ n ih=>
  intro f g s t r u hn hf hg h;by_cases hs:s=[]
  ·subst hs;exact ih (by simp) hf hg h
  ·obtain⟨k,f',h1,hf',hw,hc,h2⟩:=agk f s hs hf;by_cases ht:t=[]
   ·subst ht;rw[ajx,h2,List.append_assoc]at h;exact absurd h (adq k h1 _ _)
   ·obtain⟨k2,g',h3,hg',hw2,hc2,h4⟩:=agk g t ht hg;rw[h2,h4,List.append_assoc,List.append_assoc]at h;obtain⟨rfl,h5⟩:=avs h1 h3 h;have hsl:0<s.length:=List.length_pos_iff.2 hs;have htl:0<t.length:=List.length_pos_iff.2 ht;obtain⟨h6,h7⟩:=ih (by simp;omega) (by simp;omega) (by simp;omega) h5;refine⟨?_,h7⟩;rw[<-List.take_append_drop (Utf8.decode ⟨s.toArray⟩ 0).2 s,<-List.take_append_drop (Utf8.decode ⟨t.toArray⟩ 0).2 t,<-hc,<-hc2,h6]
theorem a6a{s t r u:List UInt8}(h:qB s++r=qB t++u):s=t/\r=u:=by
 have hq: ∀l:List UInt8,qB l=34::(qF l.length l++[34]):=fun l=>by
  show(strOfNums (Lib.quoteZ Lib.goPrintTabs ⟨l.toArray⟩)).data.toList=_;rw[strOfNums_data];simp only[Lib.quoteZ,List.map_cons,List.map_append,List.map_nil,qF];rfl
 rw[hq,hq]at h;simp only[List.cons_append,List.append_assoc,List.cons.injEq,true_and,List.nil_append]at h;exact a4y s.length (Nat.le_refl _) (Nat.le_refl _) (Nat.le_refl _) h
theorem atq{x y:Ct}(h:eb x=eb y):x=y:=aym (fun h=>a6a h) h
theorem axa{seats:List Int}{v:List Vt}(hx: ∀y∈v,okX y.x):cnC seats v=cnR seats v:=a36 (fun _ _ _ _ h=>atq h) hx
end Go.Proofs.Am
