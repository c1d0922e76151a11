/- DSix. -/
import Derived.Test.YthidogjdclkoeaaGreatDoorDFive
import Derived.Test.YthidogjdclkoeaaGreatDoorAmSF
import Derived.Test.YthidogjdclkoeaaGreatDoorDThree
set_option maxHeartbeats 1000000
set_option maxRecDepth 100000
set_option linter.unusedSimpArgs false
set_option linter.unusedVariables false
namespace Go.Proofs.Am
open Go Go.RowKit
open Go.Proofs
structure TO{α:Type}(f:α->α->Int):Prop where
 eq: ∀x y,f x y=0↔x=y
 flip: ∀x y,f x y<0↔0<f y x
 tr: ∀x y z,f x y<0->f y z<0->f x z<0
theorem TO.self{α:Type}{f:α->α->Int}(h:TO f)(x:α):f x x=0:=(h.eq x x).2 rfl
theorem TO.irr{α:Type}{f:α->α->Int}(h:TO f)(x:α): ¬f x x<0:=by rw[h.self];omega
theorem TO.nt{α:Type}{f:α->α->Int}(h:TO f)(x y z:α)(h1: ¬f x y<0)(h2: ¬f y z<0): ¬f x z<0:=by
 intro h3;by_cases e1:f x y=0
 ·rw[(h.eq x y).1 e1]at h3;exact h2 h3
 ·by_cases e2:f y z=0
  ·rw[<-(h.eq y z).1 e2]at h3;exact h1 h3
  ·have a1:f y x<0:=(h.flip y x).2 (by omega);have a2:=h.tr y x z a1 h3;exact h2 a2
theorem aci:TO jv:=by
 refine⟨ahl,fun x y=> ?_,fun x y z=> ?_⟩
 ·unfold jv;repeat' split<;>omega
 ·unfold jv;repeat' split<;>omega
theorem aw8:TO Lib.compareBytes:=by
 refine⟨er,?_,?_⟩
 ·intro x
  induction x with
  |nil=>intro y;cases y<;>simp[Lib.compareBytes]
  |cons a r ih=>
   intro y
   cases y with
   |nil=>simp[Lib.compareBytes]
   |cons b s=>
    simp only[Lib.compareBytes];by_cases h1:a<b
    ·have h2: ¬b<a:=fun h=>UInt8.lt_irrefl _ (UInt8.lt_trans h1 h);simp[h1,h2]
    ·by_cases h2:b<a
     ·simp[h1,h2]
     ·simp[h1,h2,ih s]
 ·intro x
  induction x with
  |nil=>
   intro y z
   cases y<;>cases z<;>simp[Lib.compareBytes]
  |cons a r ih=>
   intro y z h1 h2
   cases y with
   |nil=>simp[Lib.compareBytes]at h1
   |cons b s=>
    cases z with
    |nil=>simp[Lib.compareBytes]at h2
    |cons c t=>
     simp only[Lib.compareBytes]at h1 h2 ⊢;by_cases ab:a<b
     ·by_cases bc:b<c
      ·rw[if_pos (UInt8.lt_trans ab bc)];omega
      ·rw[if_neg bc]at h2;by_cases cb:c<b
       ·rw[if_pos cb]at h2;omega
       ·have:b=c:=UInt8.le_antisymm (UInt8.not_lt.1 cb) (UInt8.not_lt.1 bc);subst this;rw[if_pos ab];omega
     ·rw[if_neg ab]at h1;by_cases ba:b<a
      ·rw[if_pos ba]at h1;omega
      ·have:a=b:=UInt8.le_antisymm (UInt8.not_lt.1 ba) (UInt8.not_lt.1 ab);subst this;rw[if_neg ba]at h1;by_cases bc:a<c
       ·rw[if_pos bc];omega
       ·rw[if_neg bc]at h2 ⊢;by_cases cb:c<a
        ·rw[if_pos cb]at h2;omega
        ·rw[if_neg cb]at h2 ⊢;exact ih s t h1 h2
theorem a4o{α β γ:Type}{f:β->β->Int}{g:γ->γ->Int}(hf:TO f)(hg:TO g)(a:α->β)(b:α->γ)(hi: ∀x y,a x=a y->b x=b y->x=y):TO (fun x y=>or2 (f (a x) (a y)) (g (b x) (b y))):=by
 refine⟨fun x y=> ?_,fun x y=> ?_,fun x y z=> ?_⟩
 ·rw[aug,hf.eq,hg.eq];exact⟨fun h=>hi x y h.1 h.2,fun h=>by rw[h];exact⟨rfl,rfl⟩⟩
 ·have h1:=hf.flip (a x) (a y);have h2:=hg.flip (b x) (b y);have h3:f (a x) (a y)=0↔f (a y) (a x)=0:=by rw[hf.eq,hf.eq];exact⟨Eq.symm,Eq.symm⟩
  unfold or2;by_cases e:f (a x) (a y)=0
  ·rw[if_pos e,if_pos (h3.1 e)];exact h2
  ·rw[if_neg e,if_neg (fun h=>e (h3.2 h))];exact h1
 ·intro h1 h2;unfold or2 at h1 h2 ⊢;by_cases e1:f (a x) (a y)=0
  ·rw[if_pos e1]at h1;have q1:=(hf.eq _ _).1 e1;rw[q1];by_cases e2:f (a y) (a z)=0
   ·rw[if_pos e2]at h2 ⊢;exact hg.tr _ _ _ h1 h2
   ·rw[if_neg e2]at h2 ⊢;exact h2
  ·rw[if_neg e1]at h1;by_cases e2:f (a y) (a z)=0
   ·rw[<-(hf.eq _ _).1 e2,if_neg e1];exact h1
   ·rw[if_neg e2]at h2;have h3:=hf.tr _ _ _ h1 h2;rw[if_neg (by omega)];exact h3
theorem az0{α β:Type}{f:β->β->Int}(hf:TO f)(a:α->β)(hi: ∀x y,a x=a y->x=y):TO (fun x y=>f (a x) (a y)):=
 ⟨fun x y=>by rw[hf.eq];exact⟨hi x y,fun h=>by rw[h]⟩,fun x y=>hf.flip _ _,fun x y z=>hf.tr _ _ _⟩
theorem aau{β γ:Type}{f:β->β->Int}{g:γ->γ->Int}(hf:TO f)(hg:TO g):TO (fun p q:β×γ=>or2 (f p.1 q.1) (g p.2 q.2)):=
 a4o hf hg (·.1) (·.2) fun x y h1 h2=>Prod.ext h1 h2
theorem a29:TO u9:=az0 (aau aci (aau aci aw8)) (fun p:Pn=>(p.au,(p.he,p.di))) fun x y h=>by
 cases x
 cases y
 simpa using h
theorem atd{α:Type}{f:α->α->Int}(hf:TO f):TO (n4 f):=by
 refine⟨ab6 f hf.eq,?_,?_⟩
 ·intro x
  induction x with
  |nil=>intro y;cases y<;>simp[n4]
  |cons a r ih=>
   intro y
   cases y with
   |nil=>simp[n4]
   |cons b s=>
    have h3:f a b=0↔f b a=0:=by rw[hf.eq,hf.eq];exact⟨Eq.symm,Eq.symm⟩
    simp only[n4];by_cases e:f a b=0
    ·rw[if_pos e,if_pos (h3.1 e)];exact ih s
    ·rw[if_neg e,if_neg (fun h=>e (h3.2 h))];exact hf.flip a b
 ·intro x
  induction x with
  |nil=>
   intro y z
   cases y<;>cases z<;>simp[n4]
   all_goals (intro h;omega)
  |cons a r ih=>
   intro y z h1 h2
   cases y with
   |nil=>simp[n4]at h1
   |cons b s=>
    cases z with
    |nil=>simp[n4]at h2
    |cons c t=>
     simp only[n4]at h1 h2 ⊢;by_cases e1:f a b=0
     ·rw[if_pos e1]at h1;have q1:=(hf.eq _ _).1 e1;subst q1;by_cases e2:f a c=0
      ·rw[if_pos e2]at h2 ⊢;exact ih s t h1 h2
      ·rw[if_neg e2]at h2 ⊢;exact h2
     ·rw[if_neg e1]at h1;by_cases e2:f b c=0
      ·rw[<-(hf.eq _ _).1 e2,if_neg e1];exact h1
      ·rw[if_neg e2]at h2;have h3:=hf.tr _ _ _ h1 h2;rw[if_neg (by omega)];exact h3
theorem to_ordC:TO j2:=az0 (aau (atd aci) (atd a29)) (fun x:Ct=>(x.li,x.pi)) fun x y h=>by
 cases x
 cases y
 simpa using h
def nk(l:List Int):List Int:=a4d (srt l)
def yk(i j:Nat):List Gp->List (List PV)
 |[]=>[]
 |g::r=>[.vs (g.1.li.map i1),.vs (g.1.pi.map pn),if j<i then .vs ((nk g.2).map i1)else .os (j+500) g.2.length]::yk i (j+1) r
theorem afb: ∀(G:List Gp) (j:Nat),yk 0 j G=td j G
 |[],_=>rfl
 |a::G,j=>by simp[yk,td,afb G (j+1)]
theorem ai7(i:Nat): ∀(G:List Gp) (j:Nat),(yk i j G).length=G.length
 |[],_=>rfl
 |a::G,j=>by simp[yk,ai7 i G (j+1)]
theorem aqh(i:Nat): ∀(G:List Gp) (j k:Nat),k<G.length->db (yk i j G) k=[.vs ((el G k).1.li.map i1),.vs ((el G k).1.pi.map pn),if j+k<i then .vs ((nk (el G k).2).map i1)else .os (j+k+500) (el G k).2.length]
 |[],j,k,h=>by simp at h
 |a::G,j,0,_=>rfl
 |a::G,j,k+1,hk=>by
  have:=aqh i G (j+1) k (by simpa using hk);rw[show j+1+k=j+(k+1) by omega]at this;exact this
theorem adi(i:Nat): ∀(G:List Gp) (j k:Nat),k<G.length->j+k=i->(yk i j G).set k [.vs ((el G k).1.li.map i1),.vs ((el G k).1.pi.map pn),.vs ((nk (el G k).2).map i1)]=yk (i+1) j G
 |[],j,k,h,_=>by simp at h
 |a::G,j,0,_,h=>by
  have h1:j<i+1:=by omega
  have h2: ¬j<i:=by omega
  have hrest: ∀(G:List Gp) (j':Nat),i+1<=j'->yk i j' G=yk (i+1) j' G:=by
   intro G
   induction G with
   |nil=>intro j' _;rfl
   |cons b G ih=>
    intro j' hj';simp only[yk,ih (j'+1) (by omega)];rw[if_neg (by omega),if_neg (by omega)]
  simp only[yk,List.set_cons_zero,if_pos h1,hrest G (j+1) (by omega)]
  rfl
 |a::G,j,k+1,hk,h=>by
  have ih:=adi i G (j+1) k (by simpa using hk) (by omega);have h1:j<i:=by omega
  have h2:j<i+1:=by omega
  simp only[yk,List.set_cons_succ,if_pos h1,if_pos h2];rw[<-ih];rfl
def amm(g:Gp):Cn:=⟨g.1,nk g.2⟩
theorem akx(n:Nat): ∀(G:List Gp) (j:Nat),j+G.length<=n->yk n j G=(G.map amm).map cn3
 |[],_,_=>rfl
 |a::G,j,h=>by
  have ih:=akx n G (j+1) (by simp at h;omega);have h1:j<n:=by simp at h;omega
  simp only[yk,if_pos h1,ih,List.map_cons,amm,cn3]
def dSt(G:List Gp)(i:Nat):ASt:=(99,.arh 150 3 (yk i 0 G))::grp (500+i) (ur (G.drop i))
def dFr(n i:Nat):AFr:=[(5,.os 99 n),(63,.int .i64 n),(64,.int .i64 i)]
theorem afv{σ:ASt}: ∀L:List Cn,lm σ (L.map cn3)=some (L.map cn3,[])
 |[]=>rfl
 |n::L=>by
  have ih:=afv (σ:=σ) L;simp only[List.map_cons,lm,ih];rfl
theorem anc(a b:Cn)(ha:re a.x)(hb:re b.x):Den Tryz.prog 139 [.agg (cn3 a),.agg (cn3 b)] [] (.int .i64 (j2 a.x b.x)) [] []:=by
 refine aa Tryz.func139 rfl Tryz.call139 Tryz.ntmps139 Tryz.results139 (by simp) (by kernel_rfl) [] (exts:=[]) rfl rfl ?_;simp only[go_sem];refine call (sa a.x b.x ha.1 ha.2 hb.1 hb.2) [] ?_;simp only[go_sem]
def a7s(l:List Cn):List Cn:=l.mergeSort fun a b=> !decide (j2 b.x a.x<0)
theorem alm(l:List Cn)(hl:l.length<4611686018427387904)(hb: ∀n∈l,re n.x)(hd: ∀a∈l,∀b∈l,a.x=b.x->a=b):
  Den Tryz.prog 138 [.os 1000000 l.length,.fn 139 []] [.arr 150 3 false (l.map cn3)] (.tup []) [] [.arr 150 3 false ((a7s l).map cn3)]:=by
 refine akr (F:=cn3) (cf:=fun a b=>j2 a.x b.x) (enters_of Tryz.func138 (by kernel_rfl) rfl) hl
  (fun m enc hk h1 c hO b cap d w hcmp hH hblk hsz=>AnyQ.slices_SortFunc Tryz.sortCount 3 (fun _=>by kernel_rfl) (fun _=>by kernel_rfl) enc hk h1 c hO _ _ b 0 cap d w (enters_of Tryz.func139 (by kernel_rfl) rfl) hcmp hH hblk hsz)
  (fun p cap fv w=>AnyF.slices_SortFunc_none Tryz.sortCount p cap fv w)
  (fun x hx y hy=>anc x y (hb x hx) (hb y hy)) (fun x _=>to_ordC.irr x.x) (fun x _ y _ z _=>to_ordC.tr x.x y.x z.x) (fun x _ y _ z _=>to_ordC.nt x.x y.x z.x) (fun x hx y hy h1 h2=>hd x hx y hy ?_) (List.mergeSort_perm _ _) ?_
 ·by_cases e:j2 x.x y.x=0
  ·exact(j7 _ _).1 e
  ·have:=(to_ordC.flip y.x x.x).2 (by omega);exact absurd this h2
 ·have:=List.pairwise_mergeSort (le:=fun a b:Cn=> !decide (j2 b.x a.x<0)) (fun a b c h1 h2=> ?_) (fun a b=> ?_) l
  ·exact this.imp fun h=>by simpa using h
  ·simp only[Bool.not_eq_true',decide_eq_false_iff_not]at h1 h2 ⊢;exact to_ordC.nt c.x b.x a.x h2 h1
  ·simp only[Bool.or_eq_true,Bool.not_eq_true',decide_eq_false_iff_not];by_cases h:j2 b.x a.x<0
   ·have:=(to_ordC.flip b.x a.x).1 h;exact .inr (by omega)
   ·exact .inl h
theorem uy{G:List Gp}{i j:Nat}(hj:j<G.length)(hij:i<=j):ah (dSt G i) (j+500)=some (.arr 3 1 false ((el G j).2.map i1)):=by
 simp only[dSt,ah];rw[if_neg (by omega),show j+500=500+i+(j - i) by omega,ji];have hd:i+(j - i)=j:=by omega
 simp[ur,el,bq,hd,hj]
theorem aj7(i:Nat): ∀(G:List Gp) (j:Nat) (r:List PV),r∈yk i j G->∃k,k<G.length/\r=[.vs ((el G k).1.li.map i1),.vs ((el G k).1.pi.map pn),if j+k<i then .vs ((nk (el G k).2).map i1)else .os (j+k+500) (el G k).2.length]
 |[],j,r,h=>by simp[yk]at h
 |a::G,j,r,h=>by
  simp only[yk,List.mem_cons]at h;rcases h with rfl|h
  ·exact⟨0,by simp,rfl⟩
  ·obtain⟨k,hk,rfl⟩:=aj7 i G (j+1) r h;exact⟨k+1,by simpa using hk,by rw[show j+1+k=j+(k+1) by omega];rfl⟩
theorem a9q{P:Program}{N:Nat}{fr:AFr}{σ:ASt}{G:List Gp}{i:Nat}(hl:G.length<=900)(h5:look fr 5= .os 99 G.length)(h63:look fr 63= .int .i64 G.length)(h64:look fr 64= .int .i64 i)
  (s99:ah σ 99=some (.arh 150 3 (yk i 0 G))) (sg: ∀j,i<=j->j<G.length->ah σ (j+500)=some (.arr 3 1 false ((el G j).2.map i1))) (hx: ∀n,1000000<=n->ah σ n=none):
  Cv P N fr σ (dFr G.length i) (dSt G i):=by
 refine Cv.weak (fun t=> ?_) (fun n B h=> ?_) (fun t=> ?_) (fun n B h=> ?_) fun n hn hf=>absurd (hx n hn) hf
 ·simp only[dFr,look];split
  ·rename_i h;subst h;exact .inr h5.symm
  split
  ·rename_i h;subst h;exact .inr h63.symm
  split
  ·rename_i h;subst h;exact .inr h64.symm
  exact .inl rfl
 ·have h0:=h;simp only[dSt,ah]at h;split at h
  ·rename_i e;subst e;rw[s99];exact h
  rw[gz]at h;split at h
  ·rename_i hn;have hj:=(ca.1 h).1;rw[show(ur (G.drop i)).length=G.length - i by simp[ur]]at hj;have hnj:n - 500<G.length:=by omega
   have e1:n=(n - 500)+500:=by omega
   rw[e1]at h0 ⊢;rw[uy hnj (by omega)]at h0;rw[sg (n - 500) (by omega) hnj];exact h0
  ·cases h
 ·have c99:ah (dSt G i) 99≠none:=by simp[dSt,ah]
  simp only[dFr,look]
  repeat' split
  all_goals first
   |exact .os _ _ c99
   |exact .int _ _
   |exact .undef
 ·simp only[dSt,ah]at h;split at h
  ·cases h
   intro r hr u hu;obtain⟨k,hk,rfl⟩:=aj7 _ _ _ r hr;simp only[List.mem_cons,List.not_mem_nil,or_false]at hu;rcases hu with rfl|rfl|rfl
   ·exact .vs _
   ·exact .vs _
   ·rw[Nat.zero_add];split
    ·exact .vs _
    ·exact .os _ _ (by rw[uy hk (by omega)];simp)
  rw[gz]at h;split at h
  ·have:=List.mem_of_getElem? h;obtain⟨g,_,rfl⟩:=List.mem_map.1 this;trivial
  ·cases h
theorem a7d(G:List Gp)(y:Vt):(cG G y).length<=G.length+1:=by
 unfold cG;split<;>simp
theorem au8(seats:List Int)(v:List Vt): ∀i,(cF seats v i).length<=i
 |0=>by simp[cF]
 |i+1=>by
  have ih:=au8 seats v i;rcases Nat.lt_or_ge i v.length with h|h
  ·rw[xg h];split
   ·exact Nat.le_trans (a7d _ _) (by omega)
   ·omega
  ·have:cF seats v (i+1)=cF seats v i:=by simp only[cF];rw[List.take_of_length_le (by omega),List.take_of_length_le h]
   rw[this];omega
theorem axs{seats:List Int}{v:List Vt}(hx: ∀y∈v,okX y.x): ∀i,i<=v.length->∀g∈cF seats v i,okX g.1/\g.2.length<=i
 |0,_=>by simp[cF]
 |i+1,h=>by
  have ih:=axs (seats:=seats) hx i (by omega);have hlt:i<v.length:=by omega
  rw[xg hlt];split
  ·unfold cG;split
   ·intro g hg;rcases List.mem_append.1 hg with hg|hg
    ·exact⟨(ih g hg).1,by have:=(ih g hg).2;omega⟩
    ·simp only[List.mem_singleton]at hg;subst hg;exact⟨hx _ (bz hlt),by simp⟩
   ·rename_i j hj;obtain⟨hj1,_⟩:=pe hj;intro g hg;rcases List.mem_or_eq_of_mem_set hg with hg|rfl
    ·exact⟨(ih g hg).1,by have:=(ih g hg).2;omega⟩
    ·have:=ih _ (bz hj1);exact⟨this.1,by simp;omega⟩
  ·intro g hg;exact⟨(ih g hg).1,by have:=(ih g hg).2;omega⟩
theorem fp(σ:ASt)(n:Nat)(B:Box)(m:Nat):ah (qn σ n B) m=if m=n then some B else ah σ m:=by rw[bi];rfl
theorem asb(d:List Nat): ∀L:List Cn,ra d (L.map cn3)=true
 |[]=>rfl
 |n::L=>by
  have ih:=asb d L;simp only[List.map_cons,ra,ih,Bool.and_true];rfl
theorem aps{t:List UInt8}{G:List Gp}(h:an7 t G=none):t∉G.map fun g=>eb g.1:=by
 unfold an7 at h;rw[List.findIdx?_eq_none_iff]at h;intro hm;obtain⟨g,hg,rfl⟩:=List.mem_map.1 hm;simpa using h g hg
theorem acp(seats:List Int)(v:List Vt): ∀i,((cF seats v i).map fun g=>eb g.1).Nodup
 |0=>by simp[cF]
 |i+1=>by
  have ih:=acp seats v i;rcases Nat.lt_or_ge i v.length with h|h
  ·rw[xg h];split
   ·unfold cG;split
    ·rename_i hn;rw[List.map_append,List.nodup_append]
     exact⟨ih,by simp,fun a ha b hb e=>by
      simp only[List.map_cons,List.map_nil,List.mem_singleton]at hb;subst hb;subst e;exact aps hn ha⟩
    ·rename_i j hj;obtain⟨hj1,_⟩:=pe hj;rw[List.map_set];have:eb ((el (cF seats v i) j).1,(el (cF seats v i) j).2++[(el v i).k]).1=((cF seats v i).map fun g=>eb g.1)[j]'(by simpa using hj1):=by simp[el,bq,hj1]
     rw[this,List.set_getElem_self];exact ih
   ·exact ih
  ·have:cF seats v (i+1)=cF seats v i:=by simp only[cF];rw[List.take_of_length_le (by omega),List.take_of_length_le h]
   rw[this];exact ih
theorem af8{α β:Type}{f:α->β}: ∀{l:List α},(l.map f).Nodup->∀{x y:α},x∈l->y∈l->f x=f y->x=y
 |[],_,x,y,hx,_,_=>by simp at hx
 |a::l,h,x,y,hx,hy,e=>by
  rw[List.map_cons,List.nodup_cons]at h;obtain⟨h0,hn⟩:=h;rcases List.mem_cons.1 hx with h1|hx
  ·rcases List.mem_cons.1 hy with h2|hy
   ·rw[h1,h2]
   ·exact absurd (List.mem_map.2 ⟨y,hy,by rw[<-e,h1]⟩) h0
  ·rcases List.mem_cons.1 hy with h2|hy
   ·exact absurd (List.mem_map.2 ⟨x,hx,by rw[e,h2]⟩) h0
   ·exact af8 hn hx hy e
def cnC(seats:List Int)(v:List Vt):List Cn:=a7s ((cF seats v v.length).map amm)
theorem a5b(v:List Vt)(seats:List Int)(hv:v.length<=900)(hs:big seats.length)(hx: ∀y∈v,okX y.x):Den Tryz.prog 113 [.vs (v.map vt7),.vs (seats.map i1)] [] (.vs ((cnC seats v).map cn3)) [] []:=by
 refine aa Tryz.func113 rfl Tryz.call113 Tryz.ntmps113 Tryz.results113 (by simp) (by kernel_rfl) [] (exts:=[]) rfl rfl ?_;simp only[go_sem];refine amy Tryz.mixed 0 (fun i:Nat=>cFr v seats (cF seats v i).length i) (fun i=>cSt (cF seats v i)) (fun i=>i<=v.length) (fun i=>v.length - i) (by kernel_rfl) (Nat.zero_le _) ?_ ?_
 ·have hc:=Cv.trans (Cv.lift (P:=Tryz.prog) (N:=87) (fr:=[(15,.int .i64 0),(14,.int .i64 v.length),(13,.vs (v.map vt7)),(6,.mh 12),(12,.mh 12),(5,.nils),(4,.nils),(0,.vs (v.map vt7)),(1,.vs (seats.map i1))]) (σ:=[(12,.mp [])]) (n:=99) (slot:=5) (B:= .arh 150 3 []) rfl rfl ⟨_,_,by omega,.inr rfl⟩) (Cv.new (n:=900046) (B:= .arr 3 1 false []) (by rfl) ⟨_,_,by omega,.inl rfl⟩);refine Cv.trans hc ?_;refine a7y (G:=[]) (i:=0) (by simp) rfl rfl rfl rfl rfl rfl rfl rfl rfl (fun j hj=>by simp at hj) fun n hn=> ?_;simp only[go_sem]
  repeat rw[if_neg (by omega)]
 ·intro i hi;by_cases hlt:i<v.length
  ·have h1:(i:Int)<(v.length:Int):=by omega
   have hsu:=xg (seats:=seats) hlt;generalize hG':cF seats v i=G at*;have hyx:=hx (el v i) (bz hlt);have hm:=aiv (eb (el v i).x) G;have ht1: ∀n,n<500->ah (grp 500 (ur G)) n=none:=fun n hn=>xe _ _ _ hn;have hGi:G.length<=i:=by rw[<-hG'];exact au8 seats v i
   have hGl:G.length<=900:=by omega
   have ht2: ∀n,2000<=n->ah (grp 500 (ur G)) n=none:=fun n hn=>by
    rw[gz,if_pos (by omega)];exact List.getElem?_eq_none (by simp[ur];omega)
   have htj: ∀j,j<G.length->ah (grp 500 (ur G)) (j+500)=some (.arr 3 1 false ((el G j).2.map i1)):=fun j hj=>by
    rw[Nat.add_comm,ji];simp[ur,el,bq,hj]
   have htn:ah (grp 500 (ur G)) (G.length+500)=none:=by
    rw[Nat.add_comm,ji];exact List.getElem?_eq_none (by simp[ur])
   have hrl:=aa6 G 0;have hGk:=axs (seats:=seats) hx i hi;rw[hG']at hGk;simp only[cFr,cSt];generalize grp 500 (ur G)=τ at*;simp only[go_sem,h1,hlt,ht1,ht2,fp,hrl];refine call (aew seats (el v i).k hs) [] ?_;by_cases hk:(el v i).k∈seats
   rotate_left
   ·rw[if_neg hk]at hsu;simp only[go_sem,hk];refine⟨i+1,⟨by omega,by omega⟩,?_⟩;rw[hsu];refine a7y (by omega) rfl rfl rfl rfl rfl ?_ rfl rfl rfl (fun j hj=> ?_) fun n hn=> ?_
    ·show PV.int IntKind.i64 (IntKind.i64.wrap (↑i+1))=_;rw[ai]<;>first|rfl|omega
    ·simp only[go_sem,fp,htj j hj];rw[if_neg (by omega)]
    ·simp only[go_sem,fp]
     repeat rw[if_neg (by omega)]
     exact ht2 n (by omega)
   simp only[go_sem,hk,ht1,ht2,fp,hrl];refine call (ajd (el v i).x hyx) [] ?_
   cases hgi:an7 (eb (el v i).x) G with
   |none=>
    rw[hgi]at hm;simp only[go_sem,hm,a1f,ht1,ht2,fp,hrl];refine call (ajd (el v i).x hyx) [] ?_;simp only[go_sem,hm,akj,ht1,ht2,fp,hrl];refine call (aey (el v i).x hyx.1) [] ?_
    have hrn:db (td 0 G++[[PV.vs ((el v i).x.li.map i1),PV.vs ((el v i).x.pi.map pn),PV.nils]]) G.length=[PV.vs ((el v i).x.li.map i1),PV.vs ((el v i).x.pi.map pn),PV.nils]:=by
     simp[db,bq,List.getElem?_append_right,hrl]
    simp only[go_sem,ht1,ht2,fp,hrl,hrn]
    (repeat refine And.intro (by first|omega|exact ae (by kernel_rfl)) ?_)
    refine⟨i+1,⟨by omega,by omega⟩,?_⟩;have hGn:cG G (el v i)=G++[((el v i).x,[(el v i).k])]:=by simp only[cG,hgi]
    rw[if_pos hk,hGn]at hsu;rw[hsu]
    have hrs:(td 0 G++[[PV.vs ((el v i).x.li.map i1),PV.vs ((el v i).x.pi.map pn),PV.nils]]).set G.length [PV.vs ((el v i).x.li.map i1),PV.vs ((el v i).x.pi.map pn),PV.os 58 1]=td 0 G++[[PV.vs ((el v i).x.li.map i1),PV.vs ((el v i).x.pi.map pn),PV.os 58 1]]:=by
     rw[List.set_append,if_neg (by omega),hrl,Nat.sub_self];rfl
    rw[hrs];refine a9i (by omega) rfl rfl rfl rfl rfl ?_ rfl rfl rfl ?_ ?_ (fun j hj=> ?_) fun n hn=> ?_
    ·show PV.int IntKind.i64 (IntKind.i64.wrap (↑i+1))=_;rw[ai]<;>first|rfl|omega
    ·simp only[go_sem,fp]
    ·simp only[go_sem,fp]
     repeat rw[if_neg (by omega)]
     exact htn
    ·simp only[go_sem,fp,htj j hj]
     repeat rw[if_neg (by omega)]
    ·simp only[go_sem,fp]
     repeat rw[if_neg (by omega)]
     exact ht2 n (by omega)
   |some j=>
    rw[hgi]at hm;obtain⟨hj,hjt⟩:=pe hgi;have hmj:=ar2 G 0 j hj;have hrj:=ao7 G 0 j hj;rw[Nat.zero_add]at hmj hrj;have htj':=htj j hj;have hj2: ¬j=899546:=by omega
    simp only[go_sem,hm,a1f,hmj,ht1,ht2,fp,hrl,hrj,htj',hj,hj2];have hkl:=(hGk _ (bz hj)).2
    (repeat refine And.intro (by first|omega|exact ae (by kernel_rfl)) ?_)
    refine⟨i+1,⟨by omega,by omega⟩,?_⟩;have hGn:cG G (el v i)=G.set j ((el G j).1,(el G j).2++[(el v i).k]):=by simp only[cG,hgi]
    rw[if_pos hk,hGn]at hsu;rw[hsu];have hrs:=akk ((el G j).1,(el G j).2++[(el v i).k]) G 0 j hj;rw[List.length_append,List.length_singleton,Nat.zero_add]at hrs;rw[<-hrs];have hms:=alh ((el G j).1,(el G j).2++[(el v i).k]) G 0 j rfl hj;rw[<-hms];refine a7y (by simp;omega) rfl rfl rfl ?_ rfl ?_ rfl rfl rfl (fun k hk2=> ?_) fun n hn=> ?_
    ·rw[List.length_set];rfl
    ·show PV.int IntKind.i64 (IntKind.i64.wrap (↑i+1))=_;rw[ai]<;>first|rfl|omega
    ·rw[List.length_set]at hk2;simp only[go_sem,fp,htj k hk2];rw[if_neg (by omega)];by_cases hkj:k=j
     ·subst hkj;rw[if_pos rfl];simp[el,bq,hk2,i1]
     ·rw[if_neg hkj];have hjk: ¬j=k:=fun e=>hkj e.symm;simp[el,bq,List.getElem?_set,hjk]
    ·simp only[go_sem,fp]
     repeat rw[if_neg (by omega)]
     exact ht2 n (by omega)
  ·have h1: ¬(i:Int)<(v.length:Int):=by omega
   have hin:i=v.length:=by omega
   subst hin;have hGi:=au8 seats v v.length;have hGk:=axs (seats:=seats) hx v.length (Nat.le_refl _);have hC:cnC seats v=a7s ((cF seats v v.length).map amm):=rfl;rw[hC];clear hC;generalize hG':cF seats v v.length=G at*;have hGn:cF seats v v.length=G:=hG';have hGl:G.length<=900:=by omega
   simp only[cFr];have f99:ah (cSt G) 99=some (.arh 150 3 (td 0 G)):=rfl;have hrl:=aa6 G 0;simp only[go_sem,h1];refine uj _ _ ?_;simp only[go_sem,f99,hrl];refine amy Tryz.mixed 0 (fun i=>dFr G.length i) (fun i=>dSt G i) (fun i=>i<=G.length) (fun i=>G.length - i) (by kernel_rfl) (Nat.zero_le _) ?_ ?_
   ·refine a9q hGl rfl rfl rfl ?_ (fun j _ hj=> ?_) fun n hn=> ?_
    ·rw[afb];rfl
    ·exact a1x G j hj (by omega)
    ·exact axt G n (by omega)
   ·intro i hi;by_cases hlt:i<G.length
    ·have h2:(i:Int)<(G.length:Int):=by omega
     have hri:=aqh i G 0 i hlt;rw[Nat.zero_add,if_neg (Nat.lt_irrefl i)]at hri;have hrl:=ai7 i G 0;have hf:=uy hlt (Nat.le_refl i);have f99:ah (dSt G i) 99=some (.arh 150 3 (yk i 0 G)):=rfl;simp only[dSt,ah]at hf;simp only[dFr,dSt];have htl: ∀n,n<500->ah (grp (500+i) (ur (G.drop i))) n=none:=fun n hn=>xe _ _ _ (by omega)
     have htj: ∀j,i<=j->j<G.length->ah (grp (500+i) (ur (G.drop i))) (j+500)=some (.arr 3 1 false ((el G j).2.map i1)):=fun j h3 h4=>by
      have:=uy h4 h3;simp only[dSt,ah]at this
      rwa [if_neg (by omega)]at this
     have htn: ∀n,1000000<=n->ah (grp (500+i) (ur (G.drop i))) n=none:=fun n hn=>by
      rw[gz,if_pos (by omega)];exact List.getElem?_eq_none (by simp[ur];omega)
     have hi9: ¬99=i+500:=by omega
     rw[if_neg hi9]at hf;generalize grp (500+i) (ur (G.drop i))=τ at*;simp only[go_sem,h2,hrl,hlt,hri,htl,fp,hf];have hkl:=(hGk _ (bz hlt)).2;refine call (ax4 (el G i).2 (by omega)) [i+500] ?_;have hi6:i+500<1000000:=by omega
     have hi7: ¬i+500=99:=by omega
     simp only[go_sem,fp,hf,htl,hrl,hlt,hri,jj,hi6,hi9,hi7];refine⟨Nat.le_refl _,?_⟩;have hcd:=ag7 (srt (el G i).2) (by rw[jj];omega);rw[jj]at hcd;refine call hcd [i+500] ?_;have hcz:(a5w (srt (el G i).2)).length=(el G i).2.length:=by rw[ak3,jj]
     simp only[go_sem,fp,hf,htl,hrl,hlt,hri,jj,hcz,hi6,hi9,hi7];refine⟨Nat.le_refl _,i+1,⟨by omega,by omega⟩,?_⟩;have hst:=adi i G 0 i hlt (Nat.zero_add i);refine a9q (i:=i+1) hGl rfl rfl ?_ ?_ (fun j h3 h4=> ?_) fun n hn=> ?_
     ·show PV.int IntKind.i64 (IntKind.i64.wrap (↑i+1))=_;rw[ai]<;>first|rfl|omega
     ·rw[<-hst];rfl
     ·simp only[go_sem,fp,htj j (by omega) h4]
      repeat rw[if_neg (by omega)]
     ·simp only[go_sem,fp,htn n hn]
      repeat rw[if_neg (by omega)]
    ·have hiG:i=G.length:=by omega
     subst hiG;have h2: ¬(G.length:Int)<(G.length:Int):=by omega
     simp only[dFr];simp only[go_sem,h2];have hre:=akx G.length G 0 (by omega)
     have hok: ∀n∈G.map amm,re n.x:=fun n hn=>by
      obtain⟨g,hg,rfl⟩:=List.mem_map.1 hn;exact ky (hGk g hg).1.1
     have hgl:(G.map amm).length=G.length:=by simp
     generalize hL:G.map amm=L at*;refine⟨[(5,.os 99 L.length)],[(99,.arr 150 3 false (L.map cn3))],Cv.trans (fr':=[(5,.os 99 L.length)]) (σ':=[(99,.arh 150 3 (L.map cn3))]) ?_ (Cv.shutB (n:=99) rfl (afv L)),?_⟩
     ·have hds:dSt G G.length=[(99,.arh 150 3 (L.map cn3))]:=by
       simp only[dSt,hre,List.drop_length];rfl
      rw[hds];refine Cv.wk ?_;simp only[go_sem,hgl,asb]
     ·simp only[go_sem];refine call (alm L (by omega) hok ?_) [99] ?_
      ·intro a ha b hb hab;rw[<-hL]at ha hb;obtain⟨g,hg,rfl⟩:=List.mem_map.1 ha;obtain⟨h,hh,rfl⟩:=List.mem_map.1 hb;have h1:eb g.1=eb h.1:=congrArg eb hab;rw[af8 (hGn ▸ acp seats v v.length) hg hh h1]
      ·have hsl:(a7s L).length=L.length:=List.length_mergeSort _;simp only[go_sem,hsl];exact Nat.le_refl _
def axr(l:List Vt):List Vt:=l.mergeSort fun a b=> !decide (o9 b a<0)
theorem to_V:TO (fun p q:Int×Ct=>or2 (jv p.1 q.1) (j2 p.2 q.2)):=aau aci to_ordC
theorem aso(l:List Vt)(hl:l.length<4611686018427387904)(hb: ∀n∈l,re n.x)(hd: ∀a∈l,∀b∈l,a.c=b.c):
  Den Tryz.prog 142 [.os 1000000 l.length,.fn 141 []] [.arr 164 7 false (l.map vt7)] (.tup []) [] [.arr 164 7 false ((axr l).map vt7)]:=by
 refine akr (F:=vt7) (cf:=o9) (enters_of Tryz.func142 (by kernel_rfl) rfl) hl
  (fun m enc hk h1 c hO b cap d w hcmp hH hblk hsz=>AnyQ.slices_SortFunc Tryz.sortVote 7 (fun _=>by kernel_rfl) (fun _=>by kernel_rfl) enc hk h1 c hO _ _ b 0 cap d w (enters_of Tryz.func141 (by kernel_rfl) rfl) hcmp hH hblk hsz)
  (fun p cap fv w=>AnyF.slices_SortFunc_none Tryz.sortVote p cap fv w)
  (fun x hx y hy=>ajo x y (hb x hx) (hb y hy)) (fun x _=>to_V.irr (x.k,x.x)) (fun x _ y _ z _=>to_V.tr (x.k,x.x) (y.k,y.x) (z.k,z.x)) (fun x _ y _ z _=>to_V.nt (x.k,x.x) (y.k,y.x) (z.k,z.x)) (fun x hx y hy h1 h2=> ?_) (List.mergeSort_perm _ _) ?_
 ·have hc:=hd x hx y hy
  have e:(x.k,x.x)=(y.k,y.x):=by
   by_cases e:o9 x y=0
   ·exact(to_V.eq (x.k,x.x) (y.k,y.x)).1 e
   ·have:=(to_V.flip (y.k,y.x) (x.k,x.x)).2 (by simp only[o9]at e h1;simp only;omega);exact absurd this h2
  cases x
  cases y
  simp only[Prod.mk.injEq]at e;simp only at hc;simp[e,hc]
 ·have:=List.pairwise_mergeSort (le:=fun a b:Vt=> !decide (o9 b a<0)) (fun a b c h1 h2=> ?_) (fun a b=> ?_) l
  ·exact this.imp fun h=>by simpa using h
  ·simp only[Bool.not_eq_true',decide_eq_false_iff_not]at h1 h2 ⊢;exact to_V.nt (c.k,c.x) (b.k,b.x) (a.k,a.x) h2 h1
  ·simp only[Bool.or_eq_true,Bool.not_eq_true',decide_eq_false_iff_not];by_cases h:o9 b a<0
   ·have:=(to_V.flip (b.k,b.x) (a.k,a.x)).1 h;refine .inr ?_;simp only[o9];simp only at this;omega
   ·exact .inl h
def cA:Cs:=⟨0,3,4,0⟩
def a4e:Ct:=⟨[1],[]⟩
def noA:Ct:=⟨[0],[]⟩
theorem aam{s:Stm}{v:Vt}(h1:am s=0)(h2:s.kd=10/\s.body=[])(h3:et (mkV s).c (mkV s).x=true)(h4:mkV s=v)(h5:s.sk=s.au/\s.sd=dig s):ez s=(v,true):=by
 have:ofE s=(v,0):=by rw[ofE,if_neg (by simp[h1]),if_pos ⟨h2.1,h2.2,h3⟩,h4]
 simp only[ez,this,h5];simp
theorem oo(au nu ti:Int)(d:Drf):(aoq au nu ti d).sk=(aoq au nu ti d).au/\(aoq au nu ti d).sd=dig (aoq au nu ti d):=⟨rfl,rfl⟩
theorem v1:ez (vt 2 0 cA a4e)=(⟨2,cA,a4e⟩,true):=aam (by kernel_rfl) ⟨by kernel_rfl,by kernel_rfl⟩ (by kernel_rfl) (by kernel_rfl) (oo _ _ _ _)
theorem v2:ez (vt 1 0 cA a4e)=(⟨1,cA,a4e⟩,true):=aam (by kernel_rfl) ⟨by kernel_rfl,by kernel_rfl⟩ (by kernel_rfl) (by kernel_rfl) (oo _ _ _ _)
theorem v3:ez (vt 2 1 cA noA)=(⟨2,cA,noA⟩,true):=aam (by kernel_rfl) ⟨by kernel_rfl,by kernel_rfl⟩ (by kernel_rfl) (by kernel_rfl) (oo _ _ _ _)
end Go.Proofs.Am
