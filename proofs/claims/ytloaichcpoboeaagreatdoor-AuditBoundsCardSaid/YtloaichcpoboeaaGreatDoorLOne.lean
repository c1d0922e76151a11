/- LOne. -/
import Derived.Test.YtloaichcpoboeaaGreatDoorDSix
set_option linter.unusedSimpArgs false
set_option linter.unusedVariables false
namespace Go.Proofs.Am
open Go Go.RowKit
open Go.Proofs
def asc(l:List Int):Prop:=l.Pairwise (· < ·)
theorem a2a{l m:List Int}(hl:asc l)(hm:asc m)(h: ∀k,k∈l↔k∈m):l=m:=by
 have nl:l.Nodup:=hl.imp fun h=>by omega
 have nm:m.Nodup:=hm.imp fun h=>by omega
 exact List.Perm.eq_of_pairwise (fun a b _ _ h1 h2=>by omega) hl hm ((List.perm_ext_iff_of_nodup nl nm).2 h)
theorem ol: ∀(l:List Int) (n k:Int),k∈at6 l n↔k=n\/k∈l
 |[],n,k=>by simp[at6]
 |a::l,n,k=>by
  have ih:=ol l n k;simp only[at6];split
  ·simp only[List.mem_cons,ih];constructor
   ·rintro(h|h|h)
    ·exact .inr (.inl h)
    ·exact .inl h
    ·exact .inr (.inr h)
   ·rintro(h|h|h)
    ·exact .inr (.inl h)
    ·exact .inl h
    ·exact .inr (.inr h)
  ·split
   ·rename_i h;simp only[List.mem_cons];constructor
    ·exact .inr
    ·rintro(h2|h2)
     ·exact .inl (by omega)
     ·exact h2
   ·simp only[List.mem_cons]
theorem aqb: ∀{l:List Int} (n:Int),asc l->asc (at6 l n)
 |[],n,_=>by simp[at6,asc]
 |a::l,n,h=>by
  have h':=List.pairwise_cons.1 h;simp only[at6];split
  ·rename_i hlt;refine List.pairwise_cons.2 ⟨fun b hb=> ?_,aqb n h'.2⟩;rcases(ol l n b).1 hb with rfl|hb
   ·exact hlt
   ·exact h'.1 b hb
  ·split
   ·exact h
   ·rename_i h1 h2;refine List.pairwise_cons.2 ⟨fun b hb=> ?_,h⟩;rcases List.mem_cons.1 hb with rfl|hb
    ·omega
    ·have:=h'.1 b hb;omega
theorem aa9(l:List Int):(srt l).Pairwise (· <= ·):=by
 have:=List.pairwise_mergeSort (le:=fun x y:Int=>decide (x<=y)) (fun a b c h1 h2=>by simp at*;omega) (fun a b=>by simp;omega) l;simpa [srt] using this
theorem ako(l:List Int)(k:Int):k∈srt l↔k∈l:=(List.mergeSort_perm _ _).mem_iff
theorem bdc{l:List Int}(h:l.Nodup):asc (srt l):=by
 have h1:=aa9 l;have h2:(srt l).Nodup:=(List.mergeSort_perm _ _).nodup_iff.2 h;exact(h1.and h2).imp fun⟨a,b⟩=>by omega
structure TwInv(v:List Vt)(i:Nat)(M:List (Int×Ct))(T:List (Int×Unit)):Prop where
 i1: ∀p∈M,∃a,a<i/\(el v a).k=p.1/\(el v a).x=p.2
 i2: ∀a,a<i->∃p∈M,p.1=(el v a).k
 i3: ∀p∈M,∀q∈M,p.1=q.1->p=q
 i4:(T.map (·.1)).Nodup
 i5: ∀n,n∈T.map (·.1)↔∃a,a<i/\∃p∈M,p.1=n/\(el v a).k=n/\(el v a).x≠p.2
theorem aog(d:Array Int)(hd: ∀i j,i<j->j<d.size->d[i]!<=d[j]!): ∀m,m<=d.size->
  (Lib.compactUpTo d m).Pairwise (· < ·)/\(∀x,x∈Lib.compactUpTo d m↔∃j,j<m/\d[j]! =x)
 |0,_=>by simp[Lib.compactUpTo]
 |m+1,hm=>by
  obtain⟨h1,h2⟩:=aog d hd m (by omega);rw[Lib.compactUpTo_succ]
  cases hk:Lib.keeps d m with
  |true=>
   simp only[if_true];refine⟨?_,fun x=> ?_⟩
   ·rw[List.pairwise_append];refine⟨h1,by simp,fun a ha b hb=> ?_⟩;simp at hb;subst hb;obtain⟨j,hj,rfl⟩:=(h2 a).1 ha;have hne:m=0\/d[m]!≠d[m - 1]!:=by simpa [Lib.keeps] using hk
    have h3:d[j]!<=d[m - 1]!:=by
     by_cases e:j=m - 1
     ·rw[e];omega
     ·exact hd j (m - 1) (by omega) (by omega)
    have h4:d[m - 1]!<=d[m]!:=hd (m - 1) m (by omega) (by omega);rcases hne with h|h
    ·omega
    ·omega
   ·rw[List.mem_append,h2];constructor
    ·rintro(⟨j,hj,e⟩|h)
     ·exact⟨j,by omega,e⟩
     ·simp at h;exact⟨m,by omega,h.symm⟩
    ·rintro⟨j,hj,e⟩;by_cases hjm:j=m
     ·right;simp[<-e,hjm]
     ·left;exact⟨j,by omega,e⟩
  |false=>
   simp only[Bool.false_eq_true,if_false,List.append_nil];refine⟨h1,fun x=> ?_⟩;rw[h2];have hne: ¬(m=0\/d[m]!≠d[m - 1]!):=by simpa [Lib.keeps] using hk
   constructor
   ·rintro⟨j,hj,e⟩;exact⟨j,by omega,e⟩
   ·rintro⟨j,hj,e⟩;by_cases hjm:j=m
    ·subst hjm;refine⟨j - 1,by omega,?_⟩
     have:d[j]! =d[j - 1]!:=by
      by_cases h:d[j]! =d[j - 1]!
      ·exact h
      ·exact absurd (.inr h) hne
     rw[<-this];exact e
    ·exact⟨j,by omega,e⟩
theorem ac4(l:List Int):asc (nk l)/\∀k,k∈nk l↔k∈l:=by
 have hs:=aa9 l
 obtain⟨h1,h2⟩:=aog (srt l).toArray (fun i j hij hj=>by
  have hj':j<(srt l).length:=by simpa using hj
  have:=List.pairwise_iff_getElem.1 hs i j (by omega) hj' hij;simpa [getElem!_pos,hj',show i<(srt l).length by omega] using this) (srt l).length (by simp)
 refine⟨h1,fun x=> ?_⟩;show x∈Lib.compactUpTo (srt l).toArray (srt l).length↔_;rw[h2,<-ako];constructor
 ·rintro⟨j,hj,rfl⟩;simp[getElem!_pos,hj]
 ·intro hx;obtain⟨j,hj,rfl⟩:=List.getElem_of_mem hx;exact⟨j,hj,by simp[getElem!_pos,hj]⟩
structure CnSpec(R:Ct->Int->Prop)(l:List Cn):Prop where
 r1:l.Pairwise fun a b=>ot a.x b.x<0
 r2: ∀n∈l,asc n.ks
 r3: ∀x k,(∃n∈l,n.x=x/\k∈n.ks)↔R x k
 r4: ∀n∈l,n.ks≠[]
theorem axt{l:List Cn}(h:l.Pairwise fun a b=>ot a.x b.x<0): ∀a∈l,∀b∈l,a.x=b.x->a=b:=by
 induction l with
 |nil=>simp
 |cons n r ih=>
  obtain⟨h1,h2⟩:=List.pairwise_cons.1 h;intro a ha b hb e;rcases List.mem_cons.1 ha with ha|ha<;>rcases List.mem_cons.1 hb with hb|hb
  ·rw[ha,hb]
  ·have:=h1 b hb;rw[<-ha,e]at this;exact absurd this (to_ordC.irr _)
  ·have:=h1 a ha;rw[<-hb,<-e]at this;exact absurd this (to_ordC.irr _)
  ·exact ih h2 a ha b hb e
theorem bh8{R:Ct->Int->Prop}{l m:List Cn}(hl:CnSpec R l)(hm:CnSpec R m):l=m:=by
 have sub: ∀{l m:List Cn},CnSpec R l->CnSpec R m->∀n∈l,n∈m:=fun {l m} hl hm n hn=>by
  obtain⟨k,r,hk⟩:=List.exists_cons_of_ne_nil (hl.r4 n hn);obtain⟨p,hp,hpx,hpk⟩:=(hm.r3 n.x k).2 ((hl.r3 n.x k).1 ⟨n,hn,rfl,by rw[hk];simp⟩)
  have hks:n.ks=p.ks:=by
   refine a2a (hl.r2 n hn) (hm.r2 p hp) fun q=>⟨fun hq=> ?_,fun hq=> ?_⟩
   ·obtain⟨p',hp',h1,h2⟩:=(hm.r3 n.x q).2 ((hl.r3 n.x q).1 ⟨n,hn,rfl,hq⟩);rw[axt hm.r1 p hp p' hp' (hpx.trans h1.symm)];exact h2
   ·obtain⟨n',hn',h1,h2⟩:=(hl.r3 n.x q).2 ((hm.r3 n.x q).1 ⟨p,hp,hpx,hq⟩);rw[axt hl.r1 n hn n' hn' h1.symm];exact h2
  have:n=p:=by
   cases n
   cases p
   simp only at hpx hks;rw[hpx,hks]
  rw[this];exact hp
 have nd: ∀{l:List Cn},(l.Pairwise fun a b=>ot a.x b.x<0)->l.Nodup:=fun h=>h.imp fun {a b} h e=>by
  rw[e]at h;exact to_ordC.irr _ h
 refine List.Perm.eq_of_pairwise (le:=fun a b=>ot a.x b.x<0) (fun a b _ _ h1 h2=> ?_) hl.r1 hm.r1 ((List.perm_ext_iff_of_nodup (nd hl.r1) (nd hm.r1)).2 fun n=>⟨sub hl hm n,sub hm hl n⟩);have:=(to_ordC.flip a.x b.x).1 h1;omega
theorem a9f: ∀(o:List Cn) (y:Vt),∀b∈aal o y,b.x=y.x\/∃c∈o,b.x=c.x
 |[],y,b,hb=>by
  simp only[aal,List.mem_singleton]at hb
  exact .inl (by rw[hb])
 |n::r,y,b,hb=>by
  simp only[aal]at hb;split at hb
  ·rcases List.mem_cons.1 hb with rfl|hb
   ·exact .inr ⟨b,by simp,rfl⟩
   ·rcases a9f r y b hb with h|⟨c,hc,h⟩
    ·exact .inl h
    ·exact .inr ⟨c,by simp[hc],h⟩
  ·split at hb
   ·rename_i he;rcases List.mem_cons.1 hb with rfl|hb
    ·exact .inl he
    ·exact .inr ⟨b,by simp[hb],rfl⟩
   ·rcases List.mem_cons.1 hb with rfl|hb
    ·exact .inl rfl
    ·exact .inr ⟨b,hb,rfl⟩
theorem a0r: ∀{o:List Cn} (y:Vt),(o.Pairwise fun a b=>ot a.x b.x<0)->(aal o y).Pairwise fun a b=>ot a.x b.x<0
 |[],y,_=>by simp[aal]
 |n::r,y,h=>by
  obtain⟨h1,h2⟩:=List.pairwise_cons.1 h;simp only[aal];split
  ·rename_i hlt;refine List.pairwise_cons.2 ⟨fun b hb=> ?_,a0r y h2⟩;rcases a9f r y b hb with e|⟨c,hc,e⟩
   ·rw[e];exact hlt
   ·rw[e];exact h1 c hc
  ·rename_i hnl;split
   ·exact List.pairwise_cons.2 ⟨h1,h2⟩
   ·rename_i hne
    have hgt:ot y.x n.x<0:=(to_ordC.flip _ _).2 (by
     have:ot n.x y.x≠0:=fun e=>hne ((ae5 _ _).1 e);omega)
    refine List.pairwise_cons.2 ⟨fun b hb=> ?_,h⟩;rcases List.mem_cons.1 hb with rfl|hb
    ·exact hgt
    ·exact to_ordC.tr _ _ _ hgt (h1 b hb)
theorem awe: ∀{o:List Cn} (y:Vt),(∀n∈o,asc n.ks/\n.ks≠[])->∀n∈aal o y,asc n.ks/\n.ks≠[]
 |[],y,_,n,hn=>by
  simp only[aal,List.mem_singleton]at hn;subst hn
  exact⟨by simp[asc],by simp⟩
 |a::r,y,h,n,hn=>by
  simp only[aal]at hn;split at hn
  ·rcases List.mem_cons.1 hn with rfl|hn
   ·exact h n (by simp)
   ·exact awe y (fun m hm=>h m (by simp[hm])) n hn
  ·split at hn
   ·rcases List.mem_cons.1 hn with rfl|hn
    ·refine⟨aqb _ (h a (by simp)).1,fun e=> ?_⟩;have:y.k∈at6 a.ks y.k:=(ol _ _ _).2 (.inl rfl);simp only at e;rw[e]at this;simp at this
    ·exact h n (by simp[hn])
   ·rcases List.mem_cons.1 hn with rfl|hn
    ·exact⟨by simp[asc],by simp⟩
    ·exact h n hn
theorem aya: ∀(o:List Cn) (y:Vt) (x:Ct) (k:Int),(∃n∈aal o y,n.x=x/\k∈n.ks)↔(x=y.x/\k=y.k)\/∃n∈o,n.x=x/\k∈n.ks
 |[],y,x,k=>by
  simp only[aal,List.mem_singleton];constructor
  ·rintro⟨n,rfl,h1,h2⟩;simp only[List.mem_singleton]at h2;exact .inl ⟨h1.symm,h2⟩
  ·rintro(⟨h1,h2⟩|⟨n,hn,_⟩)
   ·exact⟨_,rfl,h1.symm,by simp[h2]⟩
   ·simp at hn
 |a::r,y,x,k=>by
  have ih:=aya r y x k;simp only[aal];split
  ·simp only[List.mem_cons];constructor
   ·rintro⟨n,rfl|hn,h1,h2⟩
    ·exact .inr ⟨n,.inl rfl,h1,h2⟩
    ·rcases ih.1 ⟨n,hn,h1,h2⟩with h|⟨m,hm,h⟩
     ·exact .inl h
     ·exact .inr ⟨m,.inr hm,h⟩
   ·rintro(h|⟨m,rfl|hm,h⟩)
    ·obtain⟨n,hn,h'⟩:=ih.2 (.inl h);exact⟨n,.inr hn,h'⟩
    ·exact⟨m,.inl rfl,h⟩
    ·obtain⟨n,hn,h'⟩:=ih.2 (.inr ⟨m,hm,h⟩);exact⟨n,.inr hn,h'⟩
  ·split
   ·rename_i he;simp only[List.mem_cons];constructor
    ·rintro⟨n,rfl|hn,h1,h2⟩
     ·simp only[ol]at h1 h2;rcases h2 with h2|h2
      ·exact .inl ⟨by rw[<-h1,he],h2⟩
      ·exact .inr ⟨a,.inl rfl,h1,h2⟩
     ·exact .inr ⟨n,.inr hn,h1,h2⟩
    ·rintro(⟨h1,h2⟩|⟨m,rfl|hm,h1,h2⟩)
     ·exact⟨_,.inl rfl,by rw[h1,he],by simp[ol,h2]⟩
     ·exact⟨_,.inl rfl,h1,by simp only[ol];exact .inr h2⟩
     ·exact⟨m,.inr hm,h1,h2⟩
   ·simp only[List.mem_cons];constructor
    ·rintro⟨n,rfl|hn,h1,h2⟩
     ·simp only[List.mem_singleton]at h2;exact .inl ⟨h1.symm,h2⟩
     ·exact .inr ⟨n,hn,h1,h2⟩
    ·rintro(⟨h1,h2⟩|⟨m,hm,h⟩)
     ·exact⟨_,.inl rfl,h1.symm,by simp[h2]⟩
     ·exact⟨m,.inr hm,h⟩
def aay(seats:List Int)(v:List Vt)(i:Nat)(x:Ct)(k:Int):Prop:=k∈seats/\∃a,a<i/\(el v a).x=x/\(el v a).k=k
theorem ky(seats:List Int)(v:List Vt)(i:Nat)(x:Ct)(k:Int):aay seats v (i+1) x k↔((el v i).k∈seats/\x=(el v i).x/\k=(el v i).k)\/aay seats v i x k:=by
 constructor
 ·rintro⟨h1,a,h2,h3,h4⟩;rcases Nat.lt_succ_iff_lt_or_eq.1 h2 with h|rfl
  ·exact .inr ⟨h1,a,h,h3,h4⟩
  ·exact .inl ⟨by rw[h4];exact h1,h3.symm,h4.symm⟩
 ·rintro(⟨h1,h2,h3⟩|⟨h1,a,h2,h3⟩)
  ·exact⟨by rw[h3];exact h1,i,by omega,h2.symm,h3.symm⟩
  ·exact⟨h1,a,by omega,h3⟩
theorem aec(seats:List Int)(v:List Vt): ∀i,i<=v.length->CnSpec (aay seats v i) (cnI seats v i)
 |0,_=>⟨by simp[cnI],by simp[cnI],fun x k=>by simp[cnI,aay],by simp[cnI]⟩
 |i+1,h=>by
  have hlt:i<v.length:=by omega
  have ih:=aec seats v i (by omega);rw[anx hlt];split
  ·rename_i hk;have h2:=awe (el v i) (fun n hn=>⟨ih.r2 n hn,ih.r4 n hn⟩);refine⟨a0r _ ih.r1,fun n hn=>(h2 n hn).1,fun x k=> ?_,fun n hn=>(h2 n hn).2⟩;rw[aya,ky,ih.r3];constructor
   ·rintro(h|h)
    ·exact .inl ⟨hk,h⟩
    ·exact .inr h
   ·rintro(h|h)
    ·exact .inl h.2
    ·exact .inr h
  ·rename_i hk;refine⟨ih.r1,ih.r2,fun x k=> ?_,ih.r4⟩;rw[ky,ih.r3];constructor
   ·exact .inr
   ·rintro(h|h)
    ·exact absurd h.1 hk
    ·exact h
theorem a04(hinj: ∀x y:Ct,okX x->okX y->em x=em y->x=y){seats:List Int}{v:List Vt}(hx: ∀y∈v,okX y.x): ∀i,i<=v.length->
  (∀x k,(∃g∈cF seats v i,g.1=x/\k∈g.2)↔aay seats v i x k)/\∀g∈cF seats v i,g.2≠[]
 |0,_=>⟨fun x k=>by simp[cF,aay],by simp[cF]⟩
 |i+1,h=>by
  have hlt:i<v.length:=by omega
  obtain⟨a1,a2⟩:=a04 hinj (seats:=seats) hx i (by omega);have hok:=a6j (seats:=seats) hx i (by omega);rw[y6 hlt];by_cases hk:(el v i).k∈seats
  ·rw[if_pos hk];generalize cF seats v i=G at*;simp only[cG]
   cases hg:atr (em (el v i).x) G with
   |none=>
    simp only;refine⟨fun x k=> ?_,fun g hm=> ?_⟩
    ·rw[ky,<-a1];constructor
     ·rintro⟨g,hm,h1,h2⟩;rcases List.mem_append.1 hm with hm|hm
      ·exact .inr ⟨g,hm,h1,h2⟩
      ·simp only[List.mem_singleton]at hm;subst hm;simp only[List.mem_singleton]at h2;exact .inl ⟨hk,h1.symm,h2⟩
     ·rintro(⟨_,h1,h2⟩|⟨g,hm,h1,h2⟩)
      ·exact⟨_,List.mem_append_right _ (List.mem_singleton.2 rfl),h1.symm,by simp[h2]⟩
      ·exact⟨g,List.mem_append_left _ hm,h1,h2⟩
    ·rcases List.mem_append.1 hm with hm|hm
     ·exact a2 g hm
     ·simp only[List.mem_singleton]at hm;subst hm
      simp
   |some j=>
    obtain⟨hj,hjt⟩:=rc hg;have hjx:(el G j).1=(el v i).x:=hinj _ _ (hok _ (cj hj)).1 (hx _ (cj hlt)) hjt;simp only;have hset: ∀g,g∈G.set j ((el G j).1,(el G j).2++[(el v i).k])->g=((el G j).1,(el G j).2++[(el v i).k])\/g∈G:=fun g hm=>(List.mem_or_eq_of_mem_set hm).symm;have hnew:((el G j).1,(el G j).2++[(el v i).k])∈G.set j ((el G j).1,(el G j).2++[(el v i).k]):=List.mem_iff_getElem.2 ⟨j,by simpa using hj,by simp⟩;refine⟨fun x k=> ?_,fun g hm=> ?_⟩
    ·rw[ky,<-a1];constructor
     ·rintro⟨g,hm,h1,h2⟩;rcases hset g hm with rfl|hm
      ·simp only[List.mem_append,List.mem_singleton]at h1 h2;rcases h2 with h2|h2
       ·exact .inr ⟨el G j,cj hj,h1,h2⟩
       ·exact .inl ⟨hk,by rw[<-h1,hjx],h2⟩
      ·exact .inr ⟨g,hm,h1,h2⟩
     ·rintro(⟨_,h1,h2⟩|⟨g,hm,h1,h2⟩)
      ·exact⟨_,hnew,by rw[h1,<-hjx],by simp[h2]⟩
      ·obtain⟨q,hq,rfl⟩:=List.mem_iff_getElem.1 hm;by_cases hqj:q=j
       ·subst hqj;have e:el G q=G[q]:=by simp[el,aw,hq]
        exact⟨_,hnew,by rw[e];exact h1,by rw[e];exact List.mem_append_left _ h2⟩
       ·refine⟨G[q],List.mem_iff_getElem.2 ⟨q,by simpa using hq,?_⟩,h1,h2⟩;rw[List.getElem_set_ne (fun e=>hqj e.symm)]
    ·rcases hset g hm with rfl|hm
     ·simp
     ·exact a2 g hm
  ·rw[if_neg hk];refine⟨fun x k=> ?_,a2⟩;rw[ky,<-a1];constructor
   ·exact .inr
   ·rintro(h|h)
    ·exact absurd h.1 hk
    ·exact h
theorem a3i(hinj: ∀x y:Ct,okX x->okX y->em x=em y->x=y){seats:List Int}{v:List Vt}(hx: ∀y∈v,okX y.x):CnSpec (aay seats v v.length) (cnC seats v):=by
 obtain⟨a1,a2⟩:=a04 hinj (seats:=seats) hx v.length (Nat.le_refl _);have hnd:=acx seats v v.length;have hmem: ∀n,n∈cnC seats v↔n∈(cF seats v v.length).map at2:=fun n=>(List.mergeSort_perm _ _).mem_iff;refine⟨?_,fun n hn=> ?_,fun x k=> ?_,fun n hn=> ?_⟩
 ·have h1:(cnC seats v).Pairwise fun a b=> ¬ot b.x a.x<0:=by
   have:=List.pairwise_mergeSort (le:=fun a b:Cn=> !decide (ot b.x a.x<0)) (fun a b c h1 h2=>by
    simp only[Bool.not_eq_true',decide_eq_false_iff_not]at h1 h2 ⊢;exact to_ordC.nt c.x b.x a.x h2 h1) (fun a b=>by
    simp only[Bool.or_eq_true,Bool.not_eq_true',decide_eq_false_iff_not];by_cases h:ot b.x a.x<0
    ·have:=(to_ordC.flip b.x a.x).1 h;exact .inr (by omega)
    ·exact .inl h) ((cF seats v v.length).map at2)
   exact this.imp fun h=>by simpa using h
  have h2:((cnC seats v).map fun n=>n.x).Nodup:=by
   have h3:((cF seats v v.length).map fun g=>g.1).Nodup:=by
    have:((cF seats v v.length).map fun g=>em g.1)=((cF seats v v.length).map fun g=>g.1).map em:=by simp
    rw[this]at hnd;exact List.Pairwise.imp (fun {a b} h e=>h (by rw[e])) (List.pairwise_map.1 hnd)
   have h4:((cnC seats v).map fun n=>n.x).Perm ((cF seats v v.length).map fun g=>g.1):=by
    have:=(List.mergeSort_perm ((cF seats v v.length).map at2) (fun a b:Cn=> !decide (ot b.x a.x<0))).map fun n=>n.x;have e:((cF seats v v.length).map at2).map (fun n=>n.x)=(cF seats v v.length).map fun g=>g.1:=by simp[at2,Function.comp_def]
    rw[e]at this;exact this
   exact h4.nodup_iff.2 h3
  have h5:=List.pairwise_map.1 h2
  exact(h1.and h5).imp fun {a b} h=>by
   have hne:ot a.x b.x≠0:=fun e=>h.2 ((ae5 _ _).1 e);have:=to_ordC.flip b.x a.x;by_cases hlt:ot a.x b.x<0
   ·exact hlt
   ·exact absurd ((to_ordC.flip b.x a.x).2 (by omega)) h.1
 ·obtain⟨g,_,rfl⟩:=List.mem_map.1 ((hmem n).1 hn);exact(ac4 g.2).1
 ·rw[<-a1];constructor
  ·rintro⟨n,hn,h1,h2⟩;obtain⟨g,hg,rfl⟩:=List.mem_map.1 ((hmem n).1 hn);exact⟨g,hg,h1,((ac4 g.2).2 k).1 h2⟩
  ·rintro⟨g,hg,h1,h2⟩;exact⟨at2 g,(hmem _).2 (List.mem_map.2 ⟨g,hg,rfl⟩),h1,((ac4 g.2).2 k).2 h2⟩
 ·obtain⟨g,hg,rfl⟩:=List.mem_map.1 ((hmem n).1 hn);obtain⟨k,r,hk⟩:=List.exists_cons_of_ne_nil (a2 g hg);intro e;have:k∈nk g.2:=((ac4 g.2).2 k).2 (by rw[hk];simp);rw[show nk g.2=[] from e]at this;simp at this
theorem baz(hinj: ∀x y:Ct,okX x->okX y->em x=em y->x=y){seats:List Int}{v:List Vt}(hx: ∀y∈v,okX y.x):cnC seats v=cnR seats v:=
 bh8 (a3i hinj hx) (aec seats v v.length (Nat.le_refl _))
theorem as0:nB 0=[48,44]/\nB 1=[49,44]:=by decide+kernel
theorem abw: ∀{a b:List Int},(∀n∈a,n=0\/n=1)->(∀n∈b,n=0\/n=1)->a.flatMap nB=b.flatMap nB->a=b
 |[],[],_,_,_=>rfl
 |[],y::b,_,hb,h=>by
  rcases hb y (by simp)with rfl|rfl<;>simp[as0.1,as0.2]at h
 |x::a,[],ha,_,h=>by
  rcases ha x (by simp)with rfl|rfl<;>simp[as0.1,as0.2]at h
 |x::a,y::b,ha,hb,h=>by
  have ih:=abw (a:=a) (b:=b) (fun n hn=>ha n (by simp[hn])) (fun n hn=>hb n (by simp[hn]));rcases ha x (by simp)with rfl|rfl<;>rcases hb y (by simp)with rfl|rfl<;>simp[as0.1,as0.2]at h
  ·rw[ih h]
  ·rw[ih h]
theorem a8d{seats:List Int}{v:List Vt}(hx: ∀y∈v,okX y.x):cnC seats v=cnR seats v:=baz (fun x y hx hy h=>by
 obtain⟨_,_,h1,h2⟩:=hx;obtain⟨_,_,h3,h4⟩:=hy;have h5:=abw h2 h4 h
 cases x
 cases y
 simp only at h1 h3 h5;rw[h1,h3,h5]) hx
end Go.Proofs.Am
