/- GAOne. -/
import Derived.Test.YtloaichcpoboeaaGreatDoorAmS
set_option linter.unusedSimpArgs false
set_option linter.unusedVariables false
namespace Go.Proofs.Am
open Go Go.RowKit
structure Ed where
 fr:Int
 to:Int
 lv:Int
deriving Inhabited,DecidableEq
structure Gr where
 sz:Int
 ed:List Ed
 gone:List Int
deriving Inhabited,DecidableEq
def rch(g:Gr)(S:List Int):Nat->Int->Bool
 |0,k=>decide (k∈S)&& !decide (k∈g.gone)
 |n+1,k=>rch g S n k||g.ed.any fun e=>decide (e.to=k)&&rch g S n e.fr
def dvl(g:Gr)(S:List Int):Nat->Int->Int
 |0,_=> -1
 |n+1,k=>if 0<=dvl g S n k then dvl g S n k else if rch g S n k=true then(n:Int)else -1
theorem afj{g:Gr}{S:List Int}{n m:Nat}{k:Int}(h:rch g S n k=true)(hm:n<=m):rch g S m k=true:=by
 induction hm with
 |refl=>exact h
 |step _ ih=>rw[rch,ih,Bool.true_or]
theorem wu{g:Gr}{S:List Int}{n:Nat}{e:Ed}(he:e∈g.ed)(h:rch g S n e.fr=true):rch g S (n+1) e.to=true:=by
 rw[rch,Bool.or_eq_true];exact .inr (List.any_eq_true.2 ⟨e,he,by simp[h]⟩)
theorem va(g:Gr)(S:List Int)(k:Int): ∀n:Nat,-1<=dvl g S n k/\dvl g S n k<n
 |0=>by simp[dvl]
 |n+1=>by
  have h:=va g S k n;rw[dvl];split
  ·omega
  ·split<;>omega
theorem jd(g:Gr)(S:List Int)(k:Int): ∀n:Nat,(dvl g S n k<0↔∀m,m<n->rch g S m k=false)/\(∀m:Nat,dvl g S n k=m->rch g S m k=true/\m<n/\∀j,j<m->rch g S j k=false)
 |0=>⟨by simp[dvl],fun m h=>by simp[dvl]at h⟩
 |n+1=>by
  obtain⟨h1,h2⟩:=jd g S k n;have hb:=va g S k n;rw[dvl];split
  ·rename_i h0;refine⟨⟨fun h=>by omega,fun h=> ?_⟩,fun m hm=> ?_⟩
   ·exact absurd (h1.2 fun m hm=>h m (by omega)) (by omega)
   ·obtain⟨a,b,c⟩:=h2 m hm;exact⟨a,by omega,c⟩
  ·rename_i h0;have hn:=h1.1 (by omega);split
   ·rename_i hr;refine⟨⟨fun h=>by omega,fun h=> ?_⟩,fun m hm=> ?_⟩
    ·rw[h n (by omega)]at hr;cases hr
    ·have:m=n:=by omega
     subst this;exact⟨hr,by omega,hn⟩
   ·rename_i hr;refine⟨⟨fun _ m hm=> ?_,fun _=>by omega⟩,fun m hm=>by omega⟩;by_cases hmn:m=n
    ·rw[hmn];simpa using hr
    ·exact hn m (by omega)
theorem az1{g:Gr}{S:List Int}{n:Nat}{k:Int}(h:0<=dvl g S n k): ∀m,n<=m->dvl g S m k=dvl g S n k:=fun m hm=>by
 induction hm with
 |refl=>rfl
 |step _ ih=>rw[dvl,if_pos (by omega),ih]
theorem bh9{g:Gr}{S:List Int}{n:Nat}(h: ∀k,rch g S n k=true->0<=dvl g S n k): ∀m,n<=m->∀k,dvl g S m k=dvl g S n k:=by
 have hr: ∀m,n<=m->∀k,rch g S m k=true->rch g S n k=true/\0<n:=fun m hm=>by
  induction hm with
  |refl=>
   intro k hk;refine⟨hk,?_⟩;have h1:=h k hk;have h2:=va g S k n
   omega
  |step hm ih=>
   intro k hk;rw[rch,Bool.or_eq_true]at hk;rcases hk with hk|hk
   ·exact ih k hk
   ·obtain⟨e,he,hx⟩:=List.any_eq_true.1 hk;rw[Bool.and_eq_true]at hx;obtain⟨h1,h2⟩:=hx;have h1:=of_decide_eq_true h1;obtain⟨h3,h0⟩:=ih _ h2;have h4:=h _ h3;obtain⟨m',hm'⟩: ∃m':Nat,dvl g S n e.fr=(m':Int):=⟨(dvl g S n e.fr).toNat,by omega⟩;obtain⟨a,b,_⟩:=(jd g S e.fr n).2 m' hm';rw[<-h1];exact⟨afj (wu he a) (by omega),h0⟩
 intro m hm k;by_cases h0:0<=dvl g S n k
 ·exact az1 h0 m hm
 ·have h1: ∀j,rch g S j k=false:=fun j=>by
   cases hj:rch g S j k with
   |false=>rfl
   |true=>
    have h2:rch g S (max n j) k=true:=afj hj (by omega);exact absurd (h k (hr _ (by omega) k h2).1) h0
  have h2:=(jd g S k m).1.2 fun j _=>h1 j;have h3:=va g S k m;have h4:=va g S k n;omega
def nwl(g:Gr)(S:List Int)(n:Nat)(k:Int):Prop:=rch g S n k=true/\dvl g S n k<0
theorem a33{g:Gr}{S:List Int}{k:Int}:nwl g S 0 k↔k∈S/\k∉g.gone:=by
 unfold nwl;simp[rch,dvl]
theorem qg{g:Gr}{S:List Int}{n:Nat}{k:Int}:nwl g S (n+1) k↔dvl g S (n+1) k<0/\∃e∈g.ed,e.to=k/\dvl g S (n+1) e.fr=n:=by
 unfold nwl;constructor
 ·rintro⟨h1,h2⟩;refine⟨h2,?_⟩;have h3:=(jd g S k (n+1)).1.1 h2;rw[rch,h3 n (by omega),Bool.false_or]at h1;obtain⟨e,he,hx⟩:=List.any_eq_true.1 h1;rw[Bool.and_eq_true]at hx;obtain⟨h4,h5⟩:=hx;have h4:=of_decide_eq_true h4;refine⟨e,he,h4,?_⟩
  have h6: ¬dvl g S (n+1) e.fr<0:=fun h=>by
   rw[(jd g S e.fr (n+1)).1.1 h n (by omega)]at h5;cases h5
  obtain⟨m,hm⟩: ∃m:Nat,dvl g S (n+1) e.fr=(m:Int):=⟨(dvl g S (n+1) e.fr).toNat,by omega⟩;obtain⟨a,b,_⟩:=(jd g S e.fr (n+1)).2 m hm;by_cases hmn:m=n
  ·rw[hm,hmn]
  ·have:=wu he a;rw[h4,h3 (m+1) (by omega)]at this
   cases this
 ·rintro⟨h1,e,he,h2,h3⟩;obtain⟨a,_,_⟩:=(jd g S e.fr (n+1)).2 n h3;rw[<-h2]at h1 ⊢;exact⟨wu he a,h1⟩
theorem aia{g:Gr}{S:List Int}{n:Nat}{k:Int}(h:nwl g S n k):dvl g S (n+1) k=n:=by
 rw[dvl,if_neg (by have:=h.2;omega),if_pos h.1]
theorem awn{g:Gr}{S:List Int}{n:Nat}{k:Int}(h: ¬nwl g S n k):dvl g S (n+1) k=dvl g S n k:=by
 rw[dvl];have hb:=va g S k n;by_cases h0:0<=dvl g S n k
 ·rw[if_pos h0]
 ·rw[if_neg h0,if_neg (fun hr=>h ⟨hr,by omega⟩)];omega
structure OkE(g:Gr):Prop where
 lo:0<=g.sz
 ed: ∀e∈g.ed,(0<=e.fr/\e.fr<g.sz)/\(0<=e.to/\e.to<g.sz)
def rt(g:Gr)(f:Int->Int):List Int:=(List.range g.sz.toNat).map fun k:Nat=>f k
theorem wj(g:Gr)(f:Int->Int):(rt g f).length=g.sz.toNat:=by simp[rt]
theorem tc{g:Gr}{f:Int->Int}{k:Int}(h0:0<=k)(h1:k<g.sz):el (rt g f) k.toNat=f k:=by
 have:k.toNat<g.sz.toNat:=by omega
 simp[el,rt,aw,this,Int.toNat_of_nonneg h0]
theorem ap5{g:Gr}{f:Int->Int}{k v:Int}(h0:0<=k):(rt g f).set k.toNat v=rt g fun x=>if x=k then v else f x:=by
 refine List.ext_getElem (by simp[rt]) fun i h1 h2=> ?_;rw[List.getElem_set];simp only[rt,List.getElem_map,List.getElem_range];by_cases hi:k.toNat=i
 ·rw[if_pos hi,if_pos (by omega)]
 ·rw[if_neg hi,if_neg (by omega)]
theorem dp{g:Gr}{f h:Int->Int}(he: ∀k,0<=k->k<g.sz->f k=h k):rt g f=rt g h:=by
 refine List.map_congr_left fun i hi=> ?_;rw[List.mem_range]at hi;exact he _ (by omega) (by omega)
def dvL(g:Gr)(S:List Int)(n:Nat):List Int:=rt g (dvl g S n)
def r7(n:Int)(d:List Int)(e:Ed):List Int:=if el d e.fr.toNat=n/\el d e.to.toNat= -1 then d.set e.to.toNat (n+1)else d
theorem aho(n:Int)(d:List Int)(e:Ed):(r7 n d e).length=d.length:=by
 unfold r7;split<;>simp
theorem a0g{g:Gr}{S:List Int}{n:Nat}{k:Int}:dvl g S n k<0↔dvl g S n k= -1:=by
 have:=va g S k n;omega
theorem av4{g:Gr}{S:List Int}{n:Nat}{k:Int}:dvl g S (n+1) k=n↔nwl g S n k:=by
 refine⟨fun h=> ?_,aia⟩;by_cases hn:nwl g S n k
 ·exact hn
 ·rw[awn hn]at h;have:=va g S k n;omega
theorem abj{g:Gr}{S:List Int}{n:Nat}(hg:OkE g): ∀(l:List Ed) (P:Int->Bool),(∀e∈l,e∈g.ed)->(∀k,P k=true->dvl g S (n+1) k<0)->
  l.foldl (r7 n) (rt g fun k=>if P k=true then(n:Int)+1 else dvl g S (n+1) k)=rt g fun k=>if(P k||(decide (dvl g S (n+1) k<0)&&l.any fun e=>decide (e.to=k)&&decide (dvl g S (n+1) e.fr=n)))=true then(n:Int)+1 else dvl g S (n+1) k
 |[],P,_,_=>by simp
 |e::l,P,hl,hP=>by
  obtain⟨⟨f0,f1⟩,t0,t1⟩:=hg.ed e (hl e (by simp))
  have hP': ∀k,(P k||(decide (k=e.to)&&(decide (dvl g S (n+1) e.fr=n)&&decide (dvl g S (n+1) k<0))))=true->dvl g S (n+1) k<0:=fun k hk=>by
   rw[Bool.or_eq_true]at hk;rcases hk with hk|hk
   ·exact hP k hk
   ·simp only[Bool.and_eq_true,decide_eq_true_eq]at hk;exact hk.2.2
  have ih:=abj (S:=S) (n:=n) hg l _ (fun x hx=>hl x (by simp[hx])) hP';rw[List.foldl_cons]
  have hst:r7 n (rt g fun k=>if P k=true then(n:Int)+1 else dvl g S (n+1) k) e=rt g fun k=>if(P k||(decide (k=e.to)&&(decide (dvl g S (n+1) e.fr=n)&&decide (dvl g S (n+1) k<0))))=true then(n:Int)+1 else dvl g S (n+1) k:=by
   unfold r7;rw[tc f0 f1,tc t0 t1]
   have e1:((if P e.fr=true then(n:Int)+1 else dvl g S (n+1) e.fr)=n)↔dvl g S (n+1) e.fr=n:=by
    by_cases hp:P e.fr=true
    ·rw[if_pos hp];have:=hP _ hp;omega
    ·rw[if_neg hp]
   have e2:((if P e.to=true then(n:Int)+1 else dvl g S (n+1) e.to)= -1)↔P e.to=false/\dvl g S (n+1) e.to<0:=by
    by_cases hp:P e.to=true
    ·rw[if_pos hp,hp];have:=hP _ hp;simp;omega
    ·rw[if_neg hp,a0g];simp[hp]
   by_cases hc:dvl g S (n+1) e.fr=n/\P e.to=false/\dvl g S (n+1) e.to<0
   ·rw[if_pos ⟨e1.2 hc.1,e2.2 hc.2⟩,ap5 t0];refine dp fun k _ _=> ?_;by_cases hk:k=e.to
    ·subst hk;simp[hc.1,hc.2.2]
    ·simp[hk]
   ·rw[if_neg fun h=>hc ⟨e1.1 h.1,e2.1 h.2⟩];refine dp fun k _ _=> ?_;by_cases hk:k=e.to
    ·subst hk;by_cases hp:P e.to=true
     ·simp[hp]
     ·have hp:P e.to=false:=by simpa using hp
      by_cases h1:dvl g S (n+1) e.fr=n
      ·have h2: ¬dvl g S (n+1) e.to<0:=fun h=>hc ⟨h1,hp,h⟩;simp[hp,h2]
      ·simp[hp,h1]
    ·simp[hk]
  rw[hst,ih];refine dp fun k _ _=> ?_;congr 1;rw[eq_iff_iff];simp only[Bool.or_eq_true,Bool.and_eq_true,decide_eq_true_eq,List.any_cons];constructor
  ·rintro((h|⟨rfl,h2,h3⟩)|⟨h1,h2⟩)
   ·exact .inl h
   ·exact .inr ⟨h3,.inl ⟨rfl,h2⟩⟩
   ·exact .inr ⟨h1,.inr h2⟩
  ·rintro(h|⟨h1,⟨rfl,h2⟩|h2⟩)
   ·exact .inl (.inl h)
   ·exact .inl (.inr ⟨rfl,h2,h1⟩)
   ·exact .inr ⟨h1,h2⟩
theorem axs{g:Gr}{S:List Int}{n:Nat}(hg:OkE g):g.ed.foldl (r7 n) (dvL g S (n+1))=dvL g S (n+2):=by
 have h:=abj (S:=S) (n:=n) hg g.ed (fun _=>false) (fun e he=>he) (by simp);have e0:(rt g fun k=>if(fun _:Int=>false) k=true then(n:Int)+1 else dvl g S (n+1) k)=dvL g S (n+1):=dp fun k _ _=>by simp
 rw[e0]at h;rw[h];refine dp fun k _ _=> ?_;by_cases hn:nwl g S (n+1) k
 ·rw[aia hn,if_pos]
  ·simp
  ·obtain⟨h1,e,he,h2,h3⟩:=qg.1 hn;simp only[Bool.false_or,Bool.and_eq_true,decide_eq_true_eq];exact⟨h1,List.any_eq_true.2 ⟨e,he,by simp[h2,h3]⟩⟩
 ·rw[awn hn,if_neg];intro hh;simp only[Bool.false_or,Bool.and_eq_true,decide_eq_true_eq]at hh;obtain⟨h1,h2⟩:=hh;obtain⟨e,he,h3⟩:=List.any_eq_true.1 h2;simp only[Bool.and_eq_true,decide_eq_true_eq]at h3;exact hn (qg.2 ⟨h1,e,he,h3.1,h3.2⟩)
def ow(O:Int->List Int)(d:Int)(s:List Int×List Int)(x:Int):List Int×List Int:=if 0<=el s.1 x.toNat then s else(s.1.set x.toNat d,s.2++O x)
theorem aww{g:Gr}{S:List Int}{n:Nat}{O:Int->List Int}: ∀(F:List Int) (P:Int->Bool) (N:List Int),(∀x∈F,(0<=x/\x<g.sz)/\nwl g S n x)->(∀k,P k=true->nwl g S n k)->
  ∃N',F.foldl (ow O n) (rt g (fun k=>if P k=true then(n:Int)else dvl g S n k),N)=(rt g (fun k=>if(P k||decide (k∈F))=true then(n:Int)else dvl g S n k),N')/\∀y,y∈N'↔y∈N\/∃x∈F,P x=false/\y∈O x
 |[],P,N,_,_=>⟨N,by simp,by simp⟩
 |x::F,P,N,hF,hP=>by
  obtain⟨⟨x0,x1⟩,xn⟩:=hF x (by simp);rw[List.foldl_cons];have he:el (rt g (fun k=>if P k=true then(n:Int)else dvl g S n k)) x.toNat=if P x=true then(n:Int)else dvl g S n x:=tc x0 x1
  by_cases hp:P x=true
  ·have h1:ow O n (rt g (fun k=>if P k=true then(n:Int)else dvl g S n k),N) x=(rt g (fun k=>if P k=true then(n:Int)else dvl g S n k),N):=by
    unfold ow;rw[he,if_pos hp,if_pos (by omega)]
   rw[h1];obtain⟨N',e1,e2⟩:=aww F P N (fun y hy=>hF y (by simp[hy])) hP;refine⟨N',?_,fun y=> ?_⟩
   ·rw[e1];congr 1;refine dp fun k _ _=> ?_;by_cases hk:k=x
    ·subst hk;simp[hp]
    ·simp[hk]
   ·rw[e2];simp[hp]
  ·have hp:P x=false:=by simpa using hp
   have h1:ow O n (rt g (fun k=>if P k=true then(n:Int)else dvl g S n k),N) x=(rt g (fun k=>if(P k||decide (k=x))=true then(n:Int)else dvl g S n k),N++O x):=by
    unfold ow;rw[he,if_neg (by rw[hp];have:=xn.2;simp;omega),ap5 x0];congr 1;refine dp fun k _ _=> ?_;by_cases hk:k=x
    ·simp[hk]
    ·simp[hk]
   rw[h1]
   obtain⟨N',e1,e2⟩:=aww F (fun k=>P k||decide (k=x)) (N++O x) (fun y hy=>hF y (by simp[hy])) fun k hk=>by
    simp only[Bool.or_eq_true,decide_eq_true_eq]at hk;rcases hk with hk|rfl
    ·exact hP k hk
    ·exact xn
   refine⟨N',?_,fun y=> ?_⟩
   ·rw[e1];congr 1;refine dp fun k _ _=> ?_;congr 1;simp[Bool.or_assoc]
   ·rw[e2];simp only[List.mem_append,Bool.or_eq_false_iff,decide_eq_false_iff_not,List.mem_cons,exists_eq_or_imp];constructor
    ·rintro((h|h)|⟨z,hz,⟨h1,h2⟩,h3⟩)
     ·exact .inl h
     ·exact .inr (.inl ⟨hp,h⟩)
     ·exact .inr (.inr ⟨z,hz,h1,h3⟩)
    ·rintro(h|⟨h1,h2⟩|⟨z,hz,h1,h3⟩)
     ·exact .inl (.inl h)
     ·exact .inl (.inr h2)
     ·by_cases hzx:z=x
      ·subst hzx;exact .inl (.inr h3)
      ·exact .inr ⟨z,hz,⟨h1,hzx⟩,h3⟩
def aw6(g:Gr)(S:List Int):Nat->List Int
 |0=>dvL g S 1
 |n+1=>g.ed.foldl (r7 n) (aw6 g S n)
theorem a1b{g:Gr}{S:List Int}(hg:OkE g): ∀n,aw6 g S n=dvL g S (n+1)
 |0=>rfl
 |n+1=>by rw[aw6,a1b hg n,axs hg]
def bg(g:Gr)(S:List Int):List Int:=dvL g S (g.sz.toNat+1)
def au3(g:Gr)(s:List Int×List Int):List Int:=s.2.filter fun y=>decide (0<=y/\y<=g.sz - 1)&& !decide (0<=el s.1 y.toNat)
def pfr(g:Gr)(O:Int->List Int)(S:List Int):Nat->List Int×List Int
 |0=>(rt g fun _=> -1,((List.range g.sz.toNat).map fun k:Nat=>(k:Int)).filter fun k=>decide (k∈S)&& !decide (k∈g.gone))
 |n+1=>((((pfr g O S n).2.foldl (ow O n) ((pfr g O S n).1,[])).1),au3 g ((pfr g O S n).2.foldl (ow O n) ((pfr g O S n).1,[])))
theorem ww{g:Gr}{O:Int->List Int}{S:List Int}(hg:OkE g)(hO: ∀x y,y∈O x↔∃e∈g.ed,e.fr=x/\e.to=y): ∀n,(pfr g O S n).1=dvL g S n/\∀k,k∈(pfr g O S n).2↔(0<=k/\k<g.sz)/\nwl g S n k
 |0=>by
  have hlo:=hg.lo;refine⟨(dp (f:=fun _=> -1) (h:=dvl g S 0) fun k _ _=>rfl),fun k=> ?_⟩;show k∈List.filter _ _↔_;rw[List.mem_filter,a33,Bool.and_eq_true];constructor
  ·rintro⟨h,h1,h2⟩;obtain⟨j,hj,rfl⟩:=List.mem_map.1 h;rw[List.mem_range]at hj;exact⟨⟨by omega,by omega⟩,of_decide_eq_true h1,by simpa using h2⟩
  ·rintro⟨⟨h1,h2⟩,h3,h4⟩
   exact⟨List.mem_map.2 ⟨k.toNat,List.mem_range.2 (by omega),by omega⟩,decide_eq_true h3,by simpa using h4⟩
 |n+1=>by
  obtain⟨h1,h2⟩:=ww (S:=S) hg hO n;obtain⟨N,e1,e2⟩:=aww (g:=g) (S:=S) (n:=n) (O:=O) (pfr g O S n).2 (fun _=>false) [] (fun x hx=>(h2 x).1 hx) (by simp);have e0:(rt g fun k=>if(fun _:Int=>false) k=true then(n:Int)else dvl g S n k)=(pfr g O S n).1:=by rw[h1];exact dp fun k _ _=>by simp
  rw[e0]at e1
  have hd:(rt g fun k=>if((fun _:Int=>false) k||decide (k∈(pfr g O S n).2))=true then(n:Int)else dvl g S n k)=dvL g S (n+1):=dp fun k k0 k1=>by
   by_cases hn:nwl g S n k
   ·have hm:=(h2 k).2 ⟨⟨k0,k1⟩,hn⟩;rw[aia hn];simp[hm]
   ·have hm:k∉(pfr g O S n).2:=fun h=>hn ((h2 k).1 h).2;rw[awn hn];simp[hm]
  rw[hd]at e1;have hp:pfr g O S (n+1)=(dvL g S (n+1),au3 g (dvL g S (n+1),N)):=by rw[pfr,e1]
  rw[hp];refine⟨rfl,fun k=> ?_⟩;show k∈List.filter _ N↔_;rw[List.mem_filter,e2];simp only[List.not_mem_nil,false_or,Bool.and_eq_true,decide_eq_true_eq,true_and];have hel: ∀k,0<=k->k<g.sz->el (dvL g S (n+1)) k.toNat=dvl g S (n+1) k:=fun k k0 k1=>tc k0 k1;constructor
  ·rintro⟨⟨x,hx,hy⟩,⟨k0,k1⟩,h3⟩;obtain⟨e,he,rfl,rfl⟩:=(hO _ _).1 hy;refine⟨⟨k0,by omega⟩,qg.2 ⟨?_,e,he,rfl,av4.2 ((h2 _).1 hx).2⟩⟩;rw[hel _ k0 (by omega)]at h3;simp at h3;omega
  ·rintro⟨⟨k0,k1⟩,hn⟩;obtain⟨h3,e,he,h4,h5⟩:=qg.1 hn;obtain⟨⟨f0,f1⟩,_⟩:=hg.ed e he;refine⟨⟨e.fr,(h2 _).2 ⟨⟨f0,f1⟩,av4.1 h5⟩,(hO _ _).2 ⟨e,he,rfl,h4⟩⟩,⟨k0,by omega⟩,?_⟩;rw[hel _ k0 k1];simp;omega
theorem ahf{g:Gr}{S:List Int}(hg:OkE g)(hS: ∀x∈S,0<=x/\x<g.sz): ∀(n:Nat) (k:Int),rch g S n k=true->0<=k/\k<g.sz
 |0,k,h=>by
  simp only[rch,Bool.and_eq_true,decide_eq_true_eq]at h
  exact hS k h.1
 |n+1,k,h=>by
  rw[rch,Bool.or_eq_true]at h;rcases h with h|h
  ·exact ahf hg hS n k h
  ·obtain⟨e,he,hx⟩:=List.any_eq_true.1 h;simp only[Bool.and_eq_true,decide_eq_true_eq]at hx;rw[<-hx.1];exact(hg.ed e he).2
theorem lz{l m:List Int}(hl:l.Nodup)(h: ∀x∈l,x∈m):l.length<=m.length:=by
 induction l generalizing m with
 |nil=>simp
 |cons a r ih=>
  obtain⟨h1,h2⟩:=List.nodup_cons.1 hl;have ha:=h a (by simp);have:=ih (m:=m.erase a) h2 fun x hx=>(List.mem_erase_of_ne (fun e:x=a=>h1 (by rw[<-e];exact hx))).2 (h x (by simp[hx]));rw[List.length_erase_of_mem ha]at this;have:=List.length_pos_of_mem ha;simp only[List.length_cons];omega
theorem ay5{g:Gr}{S:List Int}(hg:OkE g)(hS: ∀x∈S,0<=x/\x<g.sz){n:Nat}{k:Int}(h:nwl g S n k):n<g.sz.toNat:=by
 have key: ∀(n:Nat) (k:Int),nwl g S n k->∃l:List Int,l.length=n+1/\l.Nodup/\(∀x∈l,0<=x/\x<g.sz)/\∀x∈l,0<=dvl g S (n+1) x:=fun n=>by
  induction n with
  |zero=>
   intro k h
   exact⟨[k],rfl,by simp,fun x hx=>by rw[List.mem_singleton]at hx;rw[hx];exact ahf hg hS _ _ h.1,fun x hx=>by rw[List.mem_singleton]at hx;rw[hx,aia h];simp⟩
  |succ n ih=>
   intro k h;obtain⟨h1,e,he,h2,h3⟩:=qg.1 h;obtain⟨l,l1,l2,l3,l4⟩:=ih e.fr (av4.1 h3);refine⟨k::l,by simp[l1],List.nodup_cons.2 ⟨fun hk=> ?_,l2⟩,fun x hx=> ?_,fun x hx=> ?_⟩
   ·have:=l4 k hk;omega
   ·rcases List.mem_cons.1 hx with rfl|hx
    ·exact ahf hg hS _ _ h.1
    ·exact l3 x hx
   ·rcases List.mem_cons.1 hx with rfl|hx
    ·rw[aia h];omega
    ·rw[az1 (l4 x hx) _ (by omega)];exact l4 x hx
 obtain⟨l,l1,l2,l3,_⟩:=key n k h
 have:=lz (m:=(List.range g.sz.toNat).map fun k:Nat=>(k:Int)) l2 fun x hx=>by
  have:=l3 x hx;exact List.mem_map.2 ⟨x.toNat,List.mem_range.2 (by omega),by omega⟩
 rw[List.length_map,List.length_range]at this;omega
theorem bg1{g:Gr}{O:Int->List Int}{S:List Int}(hg:OkE g)(hO: ∀x y,y∈O x↔∃e∈g.ed,e.fr=x/\e.to=y)(hS: ∀x∈S,0<=x/\x<g.sz){n:Nat}(h:(pfr g O S n).2≠[]):n<g.sz.toNat:=by
 obtain⟨k,hk⟩:=List.exists_mem_of_ne_nil _ h;exact ay5 hg hS (((ww (S:=S) hg hO n).2 k).1 hk).2
theorem bau{g:Gr}{O:Int->List Int}{S:List Int}(hg:OkE g)(hO: ∀x y,y∈O x↔∃e∈g.ed,e.fr=x/\e.to=y)(hS: ∀x∈S,0<=x/\x<g.sz){n:Nat}(hn:n<=g.sz.toNat+1)(h:(pfr g O S n).2=[]):(pfr g O S n).1=bg g S:=by
 obtain⟨h1,h2⟩:=ww (S:=S) hg hO n;rw[h1];refine dp fun k _ _=>(bh9 (fun k hk=> ?_) _ hn k).symm;by_cases hd:0<=dvl g S n k
 ·exact hd
 ·have:=(h2 k).2 ⟨ahf hg hS _ _ hk,hk,by omega⟩;rw[h]at this;simp at this
theorem a5i{g:Gr}{S:List Int}(hg:OkE g):aw6 g S g.sz.toNat=bg g S:=a1b hg _
theorem zt(g:Gr)(S:List Int):(bg g S).length=g.sz.toNat:=wj _ _
theorem apx{g:Gr}{S:List Int}{k:Int}(h0:0<=k)(h1:k<g.sz):el (bg g S) k.toNat=dvl g S (g.sz.toNat+1) k:=tc h0 h1
def kw(ta:List Int)(d:Int):Int:=if d<0 then 0 else if d<(ta.length:Int)then el ta d.toNat else 1
def uw(d:List Int)(x:Int)(b:Int)(k:Int):Int:=if k≠x/\0<=el d k.toNat/\(b<0\/el d k.toNat+2<b)then el d k.toNat+2 else b
def mo(d K:List Int)(x:Int):Int:=K.foldl (uw d x) (el d x.toNat)
def u5(d gone ta K:List Int)(x:Int):Int:=if 0<=mo d K x/\x∉gone then kw ta (mo d K x) - 1 else 0
def yy(d gone ta K:List Int):Int:=(K.map (u5 d gone ta K)).sum
theorem an8{d:List Int}{x:Int}: ∀(K:List Int) (b:Int),(K.foldl (uw d x) b<0↔b<0/\∀k∈K,k≠x->el d k.toNat<0)/\∀u:Int,0<=u->((0<=K.foldl (uw d x) b/\K.foldl (uw d x) b<=u)↔(0<=b/\b<=u)\/∃k∈K,k≠x/\0<=el d k.toNat/\el d k.toNat+2<=u)
 |[],b=>⟨by simp,fun u _=>by simp⟩
 |k::K,b=>by
  rw[List.foldl_cons];obtain⟨h1,h2⟩:=an8 (d:=d) (x:=x) K (uw d x b k);constructor
  ·rw[h1];unfold uw;constructor
   ·rintro⟨a,c⟩;split at a
    ·omega
    ·rename_i hn;refine⟨a,fun y hy hyx=> ?_⟩;rcases List.mem_cons.1 hy with rfl|hy
     ·by_cases h0:0<=el d y.toNat
      ·exact absurd ⟨hyx,h0,.inl a⟩ hn
      ·omega
     ·exact c y hy hyx
   ·rintro⟨a,c⟩;refine⟨?_,fun y hy hyx=>c y (by simp[hy]) hyx⟩;rw[if_neg fun h=>by have:=c k (by simp) h.1;omega];exact a
  ·intro u hu;rw[h2 u hu];unfold uw;constructor
   ·rintro(⟨a,c⟩|⟨y,hy,r⟩)
    ·split at a
     ·rename_i hc;rw[if_pos hc]at c;exact .inr ⟨k,by simp,hc.1,hc.2.1,c⟩
     ·rename_i hc;rw[if_neg hc]at c;exact .inl ⟨a,c⟩
    ·exact .inr ⟨y,by simp[hy],r⟩
   ·rintro(⟨a,c⟩|⟨y,hy,r1,r2,r3⟩)
    ·left;split
     ·omega
     ·exact⟨a,c⟩
    ·rcases List.mem_cons.1 hy with rfl|hy
     ·left;split
      ·exact⟨by omega,r3⟩
      ·rename_i hc;by_cases h0:b<0
       ·exact absurd ⟨r1,r2,.inl h0⟩ hc
       ·by_cases h1:el d y.toNat+2<b
        ·exact absurd ⟨r1,r2,.inr h1⟩ hc
        ·omega
     ·exact .inr ⟨y,hy,r1,r2,r3⟩
structure OkTa(ta:List Int):Prop where
 ne:0<ta.length
 lo: ∀c∈ta,1<=c
 dec: ∀i j,i<=j->j<ta.length->el ta j<=el ta i
theorem amh{l:List Int}{i:Nat}(h:i<l.length):el l i∈l:=by
 rw[el,aw,a8 h];exact List.getElem_mem h
theorem adz{ta:List Int}(ht:OkTa ta){u:Int}(hu:0<=u):1<=kw ta u:=by
 unfold kw;rw[if_neg (by omega)];split
 ·exact ht.lo _ (amh (by omega))
 ·omega
theorem a6h{ta:List Int}(ht:OkTa ta){u v:Int}(hu:0<=u)(h:u<=v):kw ta v<=kw ta u:=by
 by_cases hv:v<(ta.length:Int)
 ·unfold kw;rw[if_neg (by omega),if_pos hv,if_neg (by omega),if_pos (by omega)];exact ht.dec _ _ (by omega) (by omega)
 ·have h1:kw ta v=1:=by unfold kw;rw[if_neg (by omega),if_neg hv]
  rw[h1];exact adz ht hu
theorem aqi{d gone ta K:List Int}(ht:OkTa ta){x:Int}:0<=u5 d gone ta K x:=by
 unfold u5;split
 ·rename_i h;have:=adz ht h.1;omega
 ·omega
theorem avn{K:List Int}: ∀{M:List Int} {f h:Int->Int},K.Nodup->(∀k∈K,k∈M)->(∀k∈K,f k<=h k)->(∀k∈M,0<=h k)->(K.map f).sum<=(M.map h).sum:=by
 induction K with
 |nil=>
  intro M f h _ _ _ h0
  induction M with
  |nil=>simp
  |cons m M ih=>
   have:=ih (by simp) (fun k hk=>h0 k (by simp[hk]));have:=h0 m (by simp);simp only[List.map_cons,List.sum_cons,List.map_nil,List.sum_nil]at*
   omega
 |cons a r ih=>
  intro M f h hl hs hf h0;obtain⟨h1,h2⟩:=List.nodup_cons.1 hl;have ha:=hs a (by simp);have:=ih (M:=M.erase a) (f:=f) (h:=h) h2 (fun x hx=>(List.mem_erase_of_ne (fun e:x=a=>h1 (by rw[<-e];exact hx))).2 (hs x (by simp[hx]))) (fun k hk=>hf k (by simp[hk])) (fun k hk=>h0 k (List.mem_of_mem_erase hk))
  have hp:(M.map h).sum=h a+((M.erase a).map h).sum:=by
   have hq:M.Perm (a::M.erase a):=List.perm_cons_erase ha;have hm:=(hq.map h)
   have hsum: ∀{l l':List Int},l.Perm l'->l.sum=l'.sum:=fun hp=>by
    induction hp with
    |nil=>rfl
    |cons x _ ih=>simp[ih]
    |swap x y l=>simp;omega
    |trans _ _ i1 i2=>exact i1.trans i2
   rw[hsum hm];simp
  have:=hf a (by simp);rw[hp,List.map_cons,List.sum_cons];omega
theorem a44{d gone ta K:List Int}(ht:OkTa ta):0<=yy d gone ta K:=by
 have:=avn (K:=[]) (M:=K) (f:=u5 d gone ta K) (h:=u5 d gone ta K) (by simp) (by simp) (by simp) fun k _=>aqi ht;simpa [yy] using this
structure Ac where
 fr:Int
 to:Int
 cap:Int
deriving Inhabited,DecidableEq
structure Nt where
 nd:Int
 ac:List Ac
deriving Inhabited,DecidableEq
structure OkNt(n:Nt):Prop where
 lo:2<=n.nd
 ac: ∀a∈n.ac,(0<=a.fr/\a.fr<n.nd)/\(0<=a.to/\a.to<n.nd)/\a.to≠0/\0<=a.cap/\a.cap<=1048576
structure RsS where
 by_:List Int
 q:List Int
deriving Inhabited
def arc(a:Ac)(f k:Int)(i:Nat)(s:RsS):RsS:=if a.fr=k/\f<a.cap/\a.to∉s.q then⟨s.by_.set a.to.toNat (i+1),s.q++[a.to]⟩else s
def avb(a:Ac)(f k:Int)(i:Nat)(s:RsS):RsS:=if a.to=k/\0<f/\a.fr∉s.q then⟨s.by_.set a.fr.toNat (-((i:Int)+1)),s.q++[a.fr]⟩else s
def rsI(n:Nt)(f:List Int)(k:Int)(s:RsS):Nat->RsS
 |0=>s
 |i+1=>avb (el n.ac i) (el f i) k i (arc (el n.ac i) (el f i) k i (rsI n f k s i))
def rsT(n:Nt)(f:List Int):Nat->RsS
 |0=>⟨List.replicate n.nd.toNat 0,[0]⟩
 |t+1=>if t<(rsT n f t).q.length then rsI n f (el (rsT n f t).q t) (rsT n f t) n.ac.length else rsT n f t
def z7(n:Nt)(f by_ q:List Int)(x:Int)(j:Nat):Prop:=
 ∃i,i<n.ac.length/\∃j',j'<j/\((el by_ x.toNat=(i:Int)+1/\(el n.ac i).to=x/\el f i<(el n.ac i).cap/\(el n.ac i).fr=el q j')\/(el by_ x.toNat= -((i:Int)+1)/\(el n.ac i).fr=x/\0<el f i/\(el n.ac i).to=el q j'))
structure RsInv(n:Nt)(f:List Int)(s:RsS):Prop where
 len:s.by_.length=n.nd.toNat
 hd: ∃r,s.q=0::r
 nd:s.q.Nodup
 rng: ∀x∈s.q,0<=x/\x<n.nd
 tree: ∀j,0<j->j<s.q.length->z7 n f s.by_ s.q (el s.q j) j
 out: ∀x:Int,0<=x->x<n.nd->(x∉s.q\/x=0)->el s.by_ x.toNat=0
theorem am8{l:List Int}{x:Int}{j:Nat}(h:j<l.length):el (l++[x]) j=el l j:=by
 simp[el,aw,List.getElem?_append_left h]
theorem bdf{l:List Int}{x:Int}:el (l++[x]) l.length=x:=by
 simp[el,aw]
theorem af0{l:List Int}{i:Nat}{x:Int}(h:i<l.length):el (l.set i x) i=x:=by
 simp[el,aw,h]
theorem sj{l:List Int}{i j:Nat}{x:Int}(h:i≠j):el (l.set i x) j=el l j:=by
 simp[el,aw,List.getElem?_set_ne h]
theorem ag5{n:Nt}{f by_ q:List Int}{x y v:Int}{j:Nat}(h:z7 n f by_ q x j)(hj:j<=q.length)(hx:0<=x)(hy:0<=y)(hne:x≠y):z7 n f (by_.set y.toNat v) (q++[y]) x j:=by
 obtain⟨i,hi,j',hj',h⟩:=h;refine⟨i,hi,j',hj',?_⟩;rw[sj (by omega),am8 (by omega)];exact h
theorem ayf{n:Nt}{f:List Int}{s:RsS}(h:RsInv n f s){y v:Int}(hy:0<=y/\y<n.nd)(hq:y∉s.q)(hr: ∃i,i<n.ac.length/\∃j',j'<s.q.length/\((v=(i:Int)+1/\(el n.ac i).to=y/\el f i<(el n.ac i).cap/\(el n.ac i).fr=el s.q j')\/(v= -((i:Int)+1)/\(el n.ac i).fr=y/\0<el f i/\(el n.ac i).to=el s.q j'))):RsInv n f ⟨s.by_.set y.toNat v,s.q++[y]⟩:=by
 obtain⟨r,hr0⟩:=h.hd;have hl:=h.len;have hy0:y≠0:=fun e=>hq (by rw[hr0,e];simp);refine⟨by simp[hl],⟨r++[y],by simp[hr0]⟩,?_,fun x hx=> ?_,fun j h0 hj=> ?_,fun x x0 x1 hx=> ?_⟩
 ·refine List.nodup_append.2 ⟨h.nd,by simp,fun a ha b hb=> ?_⟩;rw[List.mem_singleton]at hb;rintro rfl;exact hq (hb ▸ ha)
 ·rcases List.mem_append.1 hx with hx|hx
  ·exact h.rng x hx
  ·rw[List.mem_singleton]at hx;rw[hx];exact hy
 ·rw[List.length_append,List.length_singleton]at hj;by_cases hjl:j<s.q.length
  ·show z7 n f _ _ (el (s.q++[y]) j) j;rw[am8 hjl];have hm:=amh hjl;exact ag5 (h.tree j h0 hjl) (by omega) (h.rng _ hm).1 hy.1 fun e=>hq (e ▸ hm)
  ·have:j=s.q.length:=by omega
   subst this;show z7 n f _ _ (el (s.q++[y]) s.q.length) _;rw[bdf];obtain⟨i,hi,j',hj',hc⟩:=hr;refine⟨i,hi,j',hj',?_⟩;rw[af0 (by omega),am8 hj'];exact hc
 ·have hxy:x≠y:=fun e=>by
   rcases hx with hx|hx
   ·exact hx (by rw[e];simp)
   ·omega
  show el (s.by_.set _ _) _=0;rw[sj (by omega)];refine h.out x x0 x1 ?_;rcases hx with hx|hx
  ·exact .inl fun hm=>hx (List.mem_append_left _ hm)
  ·exact .inr hx
theorem a3m{n:Nt}{f:List Int}{s:RsS}(hn:OkNt n)(h:RsInv n f s){i j:Nat}(hi:i<n.ac.length)(hj:j<s.q.length):RsInv n f (arc (el n.ac i) (el f i) (el s.q j) i s)/\∃r,(arc (el n.ac i) (el f i) (el s.q j) i s).q=s.q++r:=by
 have hm:el n.ac i∈n.ac:=by
  rw[el,aw,a8 hi];exact List.getElem_mem hi
 obtain⟨_,ht,_⟩:=hn.ac _ hm;unfold arc;split
 ·rename_i hc;exact⟨ayf h ht hc.2.2 ⟨i,hi,j,hj,.inl ⟨rfl,rfl,hc.2.1,hc.1⟩⟩,_,rfl⟩
 ·exact⟨h,[],by simp⟩
theorem a31{n:Nt}{f:List Int}{s:RsS}(hn:OkNt n)(h:RsInv n f s){i j:Nat}(hi:i<n.ac.length)(hj:j<s.q.length):RsInv n f (avb (el n.ac i) (el f i) (el s.q j) i s)/\∃r,(avb (el n.ac i) (el f i) (el s.q j) i s).q=s.q++r:=by
 have hm:el n.ac i∈n.ac:=by
  rw[el,aw,a8 hi];exact List.getElem_mem hi
 obtain⟨ht,_,_⟩:=hn.ac _ hm;unfold avb;split
 ·rename_i hc;exact⟨ayf h ht hc.2.2 ⟨i,hi,j,hj,.inr ⟨rfl,rfl,hc.2.1,hc.1⟩⟩,_,rfl⟩
 ·exact⟨h,[],by simp⟩
theorem a0b{l r:List Int}{j:Nat}(h:j<l.length):el (l++r) j=el l j:=by
 simp[el,aw,List.getElem?_append_left h]
theorem akh{n:Nt}{f:List Int}{s:RsS}(hn:OkNt n)(h:RsInv n f s){j:Nat}(hj:j<s.q.length): ∀i,i<=n.ac.length->RsInv n f (rsI n f (el s.q j) s i)/\∃r,(rsI n f (el s.q j) s i).q=s.q++r
 |0,_=>⟨h,[],by simp[rsI]⟩
 |i+1,hi=>by
  obtain⟨h1,r1,e1⟩:=akh hn h hj i (by omega);have k1:el (rsI n f (el s.q j) s i).q j=el s.q j:=by rw[e1,a0b hj]
  obtain⟨h2,r2,e2⟩:=a3m hn h1 (i:=i) (j:=j) (by omega) (by rw[e1,List.length_append];omega);rw[k1]at h2 e2;have k2:el (arc (el n.ac i) (el f i) (el s.q j) i (rsI n f (el s.q j) s i)).q j=el s.q j:=by rw[e2,e1,List.append_assoc,a0b hj]
  obtain⟨h3,r3,e3⟩:=a31 hn h2 (i:=i) (j:=j) (by omega) (by rw[e2,e1,List.length_append,List.length_append];omega);rw[k2]at h3 e3;rw[rsI];exact⟨h3,r1++(r2++r3),by rw[e3,e2,e1];simp⟩
theorem ash{n:Nt}{f:List Int}(hn:OkNt n):RsInv n f (rsT n f 0):=by
 have hlo:=hn.lo;refine⟨by simp[rsT],⟨[],rfl⟩,by simp[rsT],fun x hx=> ?_,fun j h0 hj=> ?_,fun x x0 x1 _=> ?_⟩
 ·simp[rsT]at hx;omega
 ·simp[rsT]at hj;omega
 ·have:x.toNat<n.nd.toNat:=by omega
  simp[rsT,el,aw,this]
theorem ax9{n:Nt}{f:List Int}{s:RsS}(h:RsInv n f s):s.q.length<=n.nd.toNat:=by
 have:=lz (m:=(List.range n.nd.toNat).map fun k:Nat=>(k:Int)) h.nd fun x hx=>by
  have:=h.rng x hx;exact List.mem_map.2 ⟨x.toNat,List.mem_range.2 (by omega),by omega⟩
 rwa [List.length_map,List.length_range]at this
theorem ad3{n:Nt}{f:List Int}(hn:OkNt n): ∀t,RsInv n f (rsT n f t)
 |0=>ash hn
 |t+1=>by
  have ih:=ad3 (f:=f) hn t;rw[rsT];split
  ·rename_i h;exact(akh hn ih h _ (Nat.le_refl _)).1
  ·exact ih
theorem a9a{n:Nt}{f:List Int}{t:Nat}(h: ¬t<(rsT n f t).q.length): ∀u,t<=u->rsT n f u=rsT n f t:=fun u hu=>by
 induction hu with
 |refl=>rfl
 | @step k hk ih=>
  have e:rsT n f (k+1)=if k<(rsT n f k).q.length then rsI n f (el (rsT n f k).q k) (rsT n f k) n.ac.length else rsT n f k:=rfl
  show rsT n f (k+1)=_;have hk2:t<=k:=hk;rw[e,ih,if_neg (by omega)]
def rsF(n:Nt)(f:List Int):RsS:=rsT n f n.nd.toNat
theorem tk{n:Nt}{f:List Int}(hn:OkNt n):RsInv n f (rsF n f):=ad3 hn _
theorem bho{n:Nt}{f:List Int}(hn:OkNt n){t:Nat}(h:t<(rsT n f t).q.length):t<n.nd.toNat:=by
 have:=ax9 (ad3 (f:=f) hn t);omega
theorem be0{n:Nt}{f:List Int}{t:Nat}(ht:t<=n.nd.toNat)(h: ¬t<(rsT n f t).q.length):rsT n f t=rsF n f:=(a9a h _ ht).symm
def par(n:Nt)(by_:List Int)(k:Int):Int:=if 0<el by_ k.toNat then(el n.ac (el by_ k.toNat - 1).toNat).fr else(el n.ac (-el by_ k.toNat - 1).toNat).to
def fi(by_:List Int)(k:Int):Nat:=if 0<el by_ k.toNat then(el by_ k.toNat - 1).toNat else(-el by_ k.toNat - 1).toNat
theorem aw5{by_:List Int}{k:Int}{i:Nat}(h:el by_ k.toNat=(i:Int)+1):0<el by_ k.toNat/\fi by_ k=i:=by
 unfold fi;rw[h,if_pos (by omega)];omega
theorem az0{by_:List Int}{k:Int}{i:Nat}(h:el by_ k.toNat= -((i:Int)+1)):el by_ k.toNat<0/\fi by_ k=i:=by
 unfold fi;rw[h,if_neg (by omega)];omega
structure Stp(n:Nt)(f by_ q:List Int)(k k':Int)(j j':Nat):Prop where
 pa:par n by_ k=k'
 at_:el q j'=k'
 lt:j'<j
 il:fi by_ k<n.ac.length
 hw:(0<el by_ k.toNat/\(el n.ac (fi by_ k)).to=k/\el f (fi by_ k)<(el n.ac (fi by_ k)).cap/\(el n.ac (fi by_ k)).fr=k')\/(el by_ k.toNat<0/\(el n.ac (fi by_ k)).fr=k/\0<el f (fi by_ k)/\(el n.ac (fi by_ k)).to=k')
theorem bh4{n:Nt}{f:List Int}{s:RsS}(h:RsInv n f s){j:Nat}(h0:0<j)(hj:j<s.q.length): ∃j',Stp n f s.by_ s.q (el s.q j) (el s.q j') j j':=by
 obtain⟨i,hi,j',hj',hc⟩:=h.tree j h0 hj;refine⟨j',?_⟩;rcases hc with ⟨c1,c2,c3,c4⟩|⟨c1,c2,c3,c4⟩
 ·obtain⟨b1,b2⟩:=aw5 c1;refine⟨?_,rfl,hj',by rw[b2];exact hi,.inl ⟨b1,?_,?_,?_⟩⟩
  ·unfold par;rw[if_pos b1,show(el s.by_ (el s.q j).toNat - 1).toNat=i by omega];exact c4
  ·rw[b2];exact c2
  ·rw[b2];exact c3
  ·rw[b2];exact c4
 ·obtain⟨b1,b2⟩:=az0 c1;refine⟨?_,rfl,hj',by rw[b2];exact hi,.inr ⟨b1,?_,?_,?_⟩⟩
  ·unfold par;rw[if_neg (by omega),show(-el s.by_ (el s.q j).toNat - 1).toNat=i by omega];exact c4
  ·rw[b2];exact c2
  ·rw[b2];exact c3
  ·rw[b2];exact c4
theorem bib{n:Nt}{f:List Int}{s:RsS}(h:RsInv n f s): ∀(j:Nat),j<s.q.length->∃(L:Nat) (P:Nat->Nat),P 0=j/\P L=0/\∀m,m<L->0<P m/\P m<s.q.length/\Stp n f s.by_ s.q (el s.q (P m)) (el s.q (P (m+1))) (P m) (P (m+1)):=by
 intro j
 induction j using Nat.strongRecOn with
 |ind j ih=>
  intro hj;by_cases h0:j=0
  ·exact⟨0,fun _=>0,h0.symm,rfl,fun m hm=>by omega⟩
  ·obtain⟨j',hs⟩:=bh4 h (by omega) hj;obtain⟨L,P,p0,pL,pm⟩:=ih j' hs.lt (by have:=hs.lt;omega);refine⟨L+1,fun m=>match m with|0=>j|m+1=>P m,rfl,pL,fun m hm=> ?_⟩
   cases m with
   |zero=>
    refine⟨by show 0<j;omega,hj,?_⟩;show Stp n f s.by_ s.q (el s.q j) (el s.q (P 0)) j (P 0);rw[p0]
    exact hs
   |succ m=>exact pm m (by omega)
def pk(n:Nt)(by_:List Int):Nat->Int
 |0=>1
 |m+1=>par n by_ (pk n by_ m)
def awt(n:Nt)(f by_:List Int)(k:Int):Int:=if 0<el by_ k.toNat then(el n.ac (fi by_ k)).cap - el f (fi by_ k)else el f (fi by_ k)
def lst(n:Nt)(f by_:List Int):Nat->Int
 |0=>1048576
 |m+1=>min (lst n f by_ m) (awt n f by_ (pk n by_ m))
def psh(by_:List Int)(k v:Int)(f:List Int):List Int:=if 0<el by_ k.toNat then f.set (fi by_ k) (el f (fi by_ k)+v)else f.set (fi by_ k) (el f (fi by_ k) - v)
def fl(n:Nt)(f by_:List Int)(v:Int):Nat->List Int
 |0=>f
 |m+1=>psh by_ (pk n by_ m) v (fl n f by_ v m)
structure Way(n:Nt)(f:List Int)(s:RsS)(L:Nat)(P:Nat->Nat):Prop where
 pos:0<L
 end_ : pk n s.by_ L = 0
 mid: ∀m,m<L->pk n s.by_ m≠0/\pk n s.by_ m∈s.q/\Stp n f s.by_ s.q (pk n s.by_ m) (pk n s.by_ (m+1)) (P m) (P (m+1))
 at_: ∀m,m<=L->el s.q (P m)=pk n s.by_ m/\P m<s.q.length
theorem bhv{l:List Int}(h:l.Nodup){i j:Nat}(hi:i<l.length)(hj:j<l.length)(he:el l i=el l j):i=j:=by
 simp only[el,aw,a8 hi,a8 hj,Option.getD_some]at he;have hp:=List.pairwise_iff_getElem.1 h;rcases Nat.lt_trichotomy i j with hlt|hlt|hlt
 ·exact absurd he (hp i j hi hj hlt)
 ·exact hlt
 ·exact absurd he.symm (hp j i hj hi hlt)
theorem bhl{n:Nt}{f:List Int}{s:RsS}(h:RsInv n f s)(h1:el s.by_ 1≠0)(hn:2<=n.nd): ∃L P,Way n f s L P:=by
 have hm:(1:Int)∈s.q:=by
  by_cases hm:(1:Int)∈s.q
  ·exact hm
  ·exact absurd (h.out 1 (by omega) (by omega) (.inl hm)) h1
 obtain⟨j,hj,hje⟩:=List.mem_iff_getElem.1 hm;have hel:el s.q j=1:=by rw[el,aw,a8 hj];exact hje
 obtain⟨r,hr⟩:=h.hd;have hz:el s.q 0=0:=by rw[hr];rfl
 have hq0:0<s.q.length:=by rw[hr];simp
 obtain⟨L,P,p0,pL,pm⟩:=bib h j hj
 have hat: ∀m,m<=L->el s.q (P m)=pk n s.by_ m/\P m<s.q.length:=fun m=>by
  induction m with
  |zero=>intro _;rw[p0];exact⟨hel,hj⟩
  |succ m ih=>
   intro hm;obtain⟨a,b⟩:=ih (by omega);obtain⟨_,_,st⟩:=pm m (by omega);refine⟨?_,by have:=st.lt;omega⟩;rw[pk,<-a];exact st.pa.symm
 refine⟨L,P,?_,?_,fun m hm=> ?_,hat⟩
 ·by_cases hL:L=0
  ·subst hL;have:P 0=0:=pL;rw[p0]at this;rw[this,hz]at hel;omega
  ·omega
 ·rw[<-(hat L (Nat.le_refl _)).1,pL,hz]
 ·obtain⟨a,b,st⟩:=pm m hm;obtain⟨e1,e2⟩:=hat m (by omega);obtain⟨e3,_⟩:=hat (m+1) (by omega);rw[e1,e3]at st;refine⟨fun e=> ?_,e1 ▸ amh b,st⟩;have:=bhv h.nd b hq0 (by rw[e1,e,hz]);omega
theorem bf4{n:Nt}{f:List Int}{s:RsS}{L:Nat}{P:Nat->Nat}(w:Way n f s L P): ∀m k,m<=k->k<=L->P k<=P m:=fun m k hm=>by
 induction hm with
 |refl=>intro _;exact Nat.le_refl _
 | @step k h ih=>
  intro hk;have h1:=(w.mid k (by omega)).2.2.lt;have h2:=ih (by omega);exact Nat.le_trans (Nat.le_of_lt h1) h2
theorem bij{n:Nt}{f:List Int}{s:RsS}(h:RsInv n f s){L:Nat}{P:Nat->Nat}(w:Way n f s L P){m k:Nat}(hm:m<k)(hk:k<L):fi s.by_ (pk n s.by_ m)≠fi s.by_ (pk n s.by_ k):=fun e=>by
 obtain⟨_,_,a⟩:=w.mid m (by omega);obtain⟨_,_,b⟩:=w.mid k hk;have l1:=a.lt;have l2:=b.lt;have l3:=bf4 w (m+1) k (by omega) (by omega)
 have hP: ∀u v:Nat,u<=L->v<=L->pk n s.by_ u=pk n s.by_ v->P u=P v:=fun u v hu hv e=>by
  obtain⟨u1,u2⟩:=w.at_ u hu;obtain⟨v1,v2⟩:=w.at_ v hv;exact bhv h.nd u2 v2 (by rw[u1,v1,e])
 rcases a.hw with ⟨_,a2,_,a4⟩|⟨_,a2,_,a4⟩<;>rcases b.hw with ⟨_,b2,_,b4⟩|⟨_,b2,_,b4⟩<;>rw[e]at a2 a4
 ·have:=hP m k (by omega) (by omega) (a2.symm.trans b2);omega
 ·have:=hP m (k+1) (by omega) (by omega) (a2.symm.trans b4);omega
 ·have:=hP m (k+1) (by omega) (by omega) (a2.symm.trans b4);omega
 ·have:=hP m k (by omega) (by omega) (a2.symm.trans b2);omega
theorem bc4{by_:List Int}{k v:Int}{f:List Int}:(psh by_ k v f).length=f.length:=by
 unfold psh;split<;>simp
theorem a1w{n:Nt}{f by_:List Int}{v:Int}: ∀m,(fl n f by_ v m).length=f.length
 |0=>rfl
 |m+1=>by rw[fl,bc4,a1w m]
theorem bac{by_:List Int}{k v:Int}{f:List Int}{i:Nat}(h:fi by_ k≠i):el (psh by_ k v f) i=el f i:=by
 unfold psh;split<;>exact sj h
theorem al5{n:Nt}{f:List Int}{s:RsS}(h:RsInv n f s){L:Nat}{P:Nat->Nat}(w:Way n f s L P){v:Int}{k:Nat}(hk:k<L): ∀m,m<=k->el (fl n f s.by_ v m) (fi s.by_ (pk n s.by_ k))=el f (fi s.by_ (pk n s.by_ k))
 |0,_=>rfl
 |m+1,hm=>by rw[fl,bac (bij h w (by omega) hk),al5 h w hk m (by omega)]
def okF(n:Nt)(f:List Int):Prop:=f.length=n.ac.length/\∀i,i<n.ac.length->0<=el f i/\el f i<=(el n.ac i).cap
theorem a89{n:Nt}{f:List Int}{s:RsS}{L:Nat}{P:Nat->Nat}(w:Way n f s L P){m:Nat}(hm:m<L):1<=awt n f s.by_ (pk n s.by_ m):=by
 obtain⟨_,_,a⟩:=w.mid m hm;unfold awt;rcases a.hw with ⟨a1,_,a3,_⟩|⟨a1,_,a3,_⟩
 ·rw[if_pos a1];omega
 ·rw[if_neg (by omega)];omega
theorem aeg{n:Nt}{f:List Int}{s:RsS}{L:Nat}{P:Nat->Nat}(w:Way n f s L P): ∀m,m<=L->1<=lst n f s.by_ m/\lst n f s.by_ m<=1048576
 |0,_=>by simp[lst]
 |m+1,hm=>by
  have h1:=aeg w m (by omega);have h2:=a89 w (m:=m) (by omega);rw[lst];omega
theorem a05{n:Nt}{f by_:List Int}: ∀{m k:Nat},m<k->lst n f by_ k<=awt n f by_ (pk n by_ m)
 |m,k+1,h=>by
  rw[lst];by_cases hm:m=k
  ·subst hm;omega
  ·have:=a05 (n:=n) (f:=f) (by_:=by_) (m:=m) (k:=k) (by omega);omega
theorem bd1{n:Nt}{f:List Int}{s:RsS}(h:RsInv n f s){L:Nat}{P:Nat->Nat}(w:Way n f s L P)(hf:okF n f){v:Int}(h0:1<=v)(hv: ∀m,m<L->v<=awt n f s.by_ (pk n s.by_ m)): ∀m,m<=L->okF n (fl n f s.by_ v m)
 |0,_=>hf
 |m+1,hm=>by
  have ih:=bd1 h w hf h0 hv m (by omega);obtain⟨_,_,a⟩:=w.mid m (by omega);have hk:=al5 h w (v:=v) (k:=m) (by omega) m (Nat.le_refl _);have hr:=hv m (by omega);have hb:=hf.2 _ a.il;refine⟨by rw[a1w];exact hf.1,fun i hi=> ?_⟩;rw[fl];by_cases hia:fi s.by_ (pk n s.by_ m)=i
  ·subst hia;unfold psh awt at*;have hl:fi s.by_ (pk n s.by_ m)<(fl n f s.by_ v m).length:=by rw[ih.1];exact a.il
   split
   ·rename_i hp;rw[if_pos hp]at hr;rw[af0 hl,hk];omega
   ·rename_i hp;rw[if_neg hp]at hr;rw[af0 hl,hk];omega
  ·rw[bac hia];exact ih.2 i hi
def sc(ac:List Ac)(f:List Int):Int:=match ac,f with
 |a::ac,x::f=>(if a.fr=0 then a.cap - x else 0)+sc ac f
 |_,_=>0
theorem af3: ∀(ac:List Ac) (f:List Int) (i:Nat) (x:Int),i<ac.length->i<f.length->sc ac (f.set i x)=sc ac f - (if(el ac i).fr=0 then x - el f i else 0)
 |[],_,_,_,h,_=>by simp at h
 |_::_,[],_,_,_,h=>by simp at h
 |a::ac,y::f,0,x,_,_=>by
  show(if a.fr=0 then a.cap - x else 0)+sc ac f=(if a.fr=0 then a.cap - y else 0)+sc ac f - (if a.fr=0 then x - y else 0)
  split<;>omega
 |a::ac,y::f,i+1,x,h1,h2=>by
  have ih:=af3 ac f i x (by simpa using h1) (by simpa using h2);show(if a.fr=0 then a.cap - y else 0)+sc ac (f.set i x)=(if a.fr=0 then a.cap - y else 0)+sc ac f - (if(el ac i).fr=0 then x - el f i else 0);rw[ih];omega
theorem bec{n:Nt}{f:List Int}(h:okF n f):0<=sc n.ac f:=by
 obtain⟨h1,h2⟩:=h;revert h1 h2;generalize n.ac=ac;intro h1 h2
 induction ac generalizing f with
 |nil=>simp[sc]
 |cons a ac ih=>
  cases f with
  |nil=>simp[sc]
  |cons x f=>
   have:=ih (f:=f) (by simpa using h1) fun i hi=>h2 (i+1) (by simpa using hi);have h0:=h2 0 (by simp);have e1:el (x::f) 0=x:=rfl;have e2:el (a::ac) 0=a:=rfl;rw[e1,e2]at h0;show 0<=(if a.fr=0 then a.cap - x else 0)+sc ac f;split<;>omega
theorem a98{n:Nt}{f:List Int}{s:RsS}(hn:OkNt n)(h:RsInv n f s){L:Nat}{P:Nat->Nat}(w:Way n f s L P)(hf:okF n f){v:Int}: ∀m,m<=L->sc n.ac (fl n f s.by_ v m)=sc n.ac f - (if m=L then v else 0)
 |0,_=>by rw[if_neg (by have:=w.pos;omega)];simp[fl]
 |m+1,hm=>by
  have ih:=a98 hn h w hf (v:=v) m (by omega);rw[if_neg (by omega)]at ih;obtain⟨hz,_,a⟩:=w.mid m (by omega);have hl:fi s.by_ (pk n s.by_ m)<(fl n f s.by_ v m).length:=by rw[a1w,hf.1];exact a.il
  have hmem:el n.ac (fi s.by_ (pk n s.by_ m))∈n.ac:=by
   rw[el,aw,a8 a.il];exact List.getElem_mem a.il
  obtain⟨_,_,ht,_⟩:=hn.ac _ hmem
  have hend:m+1=L↔pk n s.by_ (m+1)=0:=by
   constructor
   ·intro e;rw[e];exact w.end_
   ·intro e;by_cases hlt:m+1<L
    ·exact absurd e (w.mid _ hlt).1
    ·omega
  rw[fl];unfold psh;rcases a.hw with ⟨a1,a2,_,a4⟩|⟨a1,a2,_,a4⟩
  ·rw[if_pos a1,af3 _ _ _ _ a.il hl,ih,a4];by_cases he:m+1=L
   ·rw[if_pos he,if_pos (hend.1 he)];omega
   ·rw[if_neg he,if_neg fun e=>he (hend.2 e)];omega
  ·rw[if_neg (by omega),af3 _ _ _ _ a.il hl,ih,if_neg (by rw[a2];exact hz)];rw[if_neg fun e=>ht (by rw[a4];exact hend.1 e)];omega
def byF(n:Nt)(f:List Int):List Int:=(rsF n f).by_
open Classical in
noncomputable def ava (n:Nt) (f:List Int):Nat:=if h: ∃L P,Way n f (rsF n f) L P then h.choose else 0
theorem w9{n:Nt}{f:List Int}(hn:OkNt n)(h1:el (byF n f) 1≠0): ∃P,Way n f (rsF n f) (ava n f) P:=by
 have h: ∃L P,Way n f (rsF n f) L P:=bhl (tk hn) h1 hn.lo;unfold ava;rw[dif_pos h];exact h.choose_spec
noncomputable def mxS (n:Nt) (f:List Int):List Int:=if el (byF n f) 1=0 then f else fl n f (byF n f) (lst n f (byF n f) (ava n f)) (ava n f)
theorem bgk{n:Nt}{f:List Int}(hn:OkNt n)(hf:okF n f):okF n (mxS n f):=by
 unfold mxS;split
 ·exact hf
 ·rename_i h1;obtain⟨P,w⟩:=w9 hn h1;exact bd1 (tk hn) w hf (aeg w _ (Nat.le_refl _)).1 (fun m hm=>a05 hm) _ (Nat.le_refl _)
theorem a4t{n:Nt}{f:List Int}(hn:OkNt n)(hf:okF n f)(h1:el (byF n f) 1≠0):sc n.ac (mxS n f)<sc n.ac f:=by
 obtain⟨P,w⟩:=w9 hn h1;have h:=a98 hn (tk hn) w hf (v:=lst n f (byF n f) (ava n f)) (ava n f) (Nat.le_refl _);have h2:=(aeg w (ava n f) (Nat.le_refl _)).1;unfold mxS;rw[if_neg h1];rw[if_pos rfl]at h;have e:(rsF n f).by_=byF n f:=rfl;rw[e]at h h2;omega
noncomputable def mxT (n:Nt):Nat->List Int
 |0=>List.replicate n.ac.length 0
 |t+1=>mxS n (mxT n t)
theorem ain{n:Nt}(hn:OkNt n): ∀t,okF n (mxT n t)
 |0=>by
  refine⟨by simp[mxT],fun i hi=> ?_⟩
  have hm:el n.ac i∈n.ac:=by
   rw[el,aw,a8 hi];exact List.getElem_mem hi
  have:=(hn.ac _ hm).2.2.2.1;have e:el (mxT n 0) i=0:=by simp[mxT,el,aw,hi]
  rw[e]
  omega
 |t+1=>bgk hn (ain hn t)
theorem a0u{n:Nt}(hn:OkNt n): ∀t,(∀u,u<t->el (byF n (mxT n u)) 1≠0)->sc n.ac (mxT n t)+t<=sc n.ac (mxT n 0)
 |0,_=>by simp
 |t+1,h=>by
  have ih:=a0u hn t fun u hu=>h u (by omega);have h2:=a4t hn (ain hn t) (h t (by omega));show sc n.ac (mxS n (mxT n t))+((t+1:Nat):Int)<=_;omega
theorem afq{n:Nt}{t:Nat}(h:el (byF n (mxT n t)) 1=0): ∀u,t<=u->mxT n u=mxT n t:=fun u hu=>by
 induction hu with
 |refl=>rfl
 | @step k hk ih=>
  show mxS n (mxT n k)=_;rw[ih];unfold mxS;rw[if_pos h]
noncomputable def aet (n:Nt):List Int:=mxT n (sc n.ac (mxT n 0)).toNat
theorem bah{n:Nt}(hn:OkNt n){t:Nat}(h: ∀u,u<=t->el (byF n (mxT n u)) 1≠0):t<(sc n.ac (mxT n 0)).toNat:=by
 have h1:=a0u hn (t+1) fun u hu=>h u (by omega);have h2:=bec (ain hn (t+1));omega
theorem bbm{n:Nt}(hn:OkNt n){t:Nat}(h:el (byF n (mxT n t)) 1=0):mxT n t=aet n:=by
 have key: ∃u,u<=(sc n.ac (mxT n 0)).toNat/\el (byF n (mxT n u)) 1=0:=by
  by_cases hx: ∃u,u<=(sc n.ac (mxT n 0)).toNat/\el (byF n (mxT n u)) 1=0
  ·exact hx
  ·have:=bah hn (t:=(sc n.ac (mxT n 0)).toNat) fun u hu e=>hx ⟨u,hu,e⟩;omega
 obtain⟨u,hu,e⟩:=key;have h1:aet n=mxT n u:=afq e _ hu;rw[h1];rcases Nat.le_total t u with hle|hle
 ·exact(afq h _ hle).symm
 ·exact afq e _ hle
theorem ad5{n:Nt}(hn:OkNt n):okF n (aet n):=ain hn _
def abo(z:List (Ac×Int))(v:Int):Int:=(z.map fun p=>(if p.1.to=v then p.2 else 0) - (if p.1.fr=v then p.2 else 0)).sum
def a24(z:List (Ac×Int)):Int:=(z.map fun p=>if p.1.fr=0 then p.2 else 0).sum
theorem adu{w:Int->Int}{u x:Int}(hu:0<=u): ∀n:Nat,((List.range n).map fun v:Nat=>w v*(if u=(v:Int)then x else 0)).sum=if u<n then w u*x else 0
 |0=>by simp;omega
 |n+1=>by
  rw[List.range_succ,List.map_append,List.sum_append,adu hu n];simp only[List.map_cons,List.map_nil,List.sum_cons,List.sum_nil,Int.add_zero];by_cases h1:u<n
  ·rw[if_pos h1,if_neg (by omega),if_pos (by omega)];simp
  ·rw[if_neg h1];by_cases h2:u=n
   ·rw[if_pos h2,if_pos (by omega),h2];simp
   ·rw[if_neg h2,if_neg (by omega)];simp
theorem a7t{α:Type}(l:List α)(f g:α->Int):(l.map fun a=>f a - g a).sum=(l.map f).sum - (l.map g).sum:=by
 induction l with
 |nil=>simp
 |cons a l ih=>simp only[List.map_cons,List.sum_cons,ih];omega
theorem a47{α:Type}(l:List α)(f g:α->Int):(l.map fun a=>f a+g a).sum=(l.map f).sum+(l.map g).sum:=by
 induction l with
 |nil=>simp
 |cons a l ih=>simp only[List.map_cons,List.sum_cons,ih];omega
theorem apz: ∀N:Nat,((List.range N).map fun _=>(0:Int)).sum=0
 |0=>rfl
 |n+1=>by rw[List.range_succ,List.map_append,List.sum_append,apz n];rfl
theorem a20{w:Int->Int}{N:Nat}: ∀z:List (Ac×Int),(∀p∈z,(0<=p.1.fr/\p.1.fr<N)/\0<=p.1.to/\p.1.to<N)->(z.map fun p=>p.2*(w p.1.to - w p.1.fr)).sum=((List.range N).map fun v:Nat=>w v*abo z v).sum
 |[],_=>by
  simp only[List.map_nil,List.sum_nil,abo,Int.mul_zero]
  exact(apz N).symm
 |p::z,h=>by
  have ih:=a20 (w:=w) (N:=N) z fun q hq=>h q (by simp[hq]);obtain⟨⟨f0,f1⟩,t0,t1⟩:=h p (by simp);have e1:=adu (w:=w) (x:=p.2) t0 N;have e2:=adu (w:=w) (x:=p.2) f0 N;rw[if_pos t1]at e1;rw[if_pos f1]at e2
  have e3:((List.range N).map fun v:Nat=>w v*abo (p::z) v)=(List.range N).map fun v:Nat=>(w v*(if p.1.to=(v:Int)then p.2 else 0) - w v*(if p.1.fr=(v:Int)then p.2 else 0))+w v*abo z v:=List.map_congr_left fun v _=>by
   have e:abo (p::z) v=((if p.1.to=(v:Int)then p.2 else 0) - (if p.1.fr=(v:Int)then p.2 else 0))+abo z v:=rfl;rw[e,Int.mul_add,Int.mul_sub]
  rw[e3,a47,a7t,e1,e2,<-ih];simp only[List.map_cons,List.sum_cons];rw[Int.mul_sub,Int.mul_comm p.2,Int.mul_comm p.2]
structure OkZ(N:Nat)(z:List (Ac×Int)):Prop where
 two:2<=N
 rng: ∀p∈z,((0<=p.1.fr/\p.1.fr<N)/\0<=p.1.to/\p.1.to<N)/\p.1.to≠0/\0<=p.2/\p.2<=p.1.cap
 net: ∀v:Nat,2<=v->v<N->abo z v=0
theorem a7o{N:Nat}{z:List (Ac×Int)}(h:OkZ N z):abo z 0= - a24 z:=by
 have h1:=h.rng;clear h;unfold abo a24
 induction z with
 |nil=>simp
 |cons p z ih=>
  have:=ih fun q hq=>h1 q (by simp[hq]);have hp:=(h1 p (by simp)).2.1;simp only[List.map_cons,List.sum_cons];rw[this,if_neg hp];split<;>omega
theorem axi{α:Type}{l:List α}{f g:α->Int}(h: ∀a∈l,f a<=g a):(l.map f).sum<=(l.map g).sum:=by
 induction l with
 |nil=>simp
 |cons a l ih=>
  have h1:=ih fun x hx=>h x (by simp[hx]);have h2:=h a (by simp);simp only[List.map_cons,List.sum_cons];omega
def mq(S:Int->Bool)(ac:List Ac):Int:=(ac.map fun a=>if S a.fr=true/\S a.to=false then a.cap else 0).sum
theorem bk9{N:Nat}{z:List (Ac×Int)}(h:OkZ N z){S:Int->Bool}(h0:S 0=true)(h1:S 1=false):a24 z<=mq S (z.map Prod.fst):=by
 have hp:=a20 (w:=fun v=>if S v=true then -1 else 0) (N:=N) z fun p hp=>(h.rng p hp).1
 have hz:((List.range N).map fun v:Nat=>(if S v=true then(-1:Int)else 0)*abo z v).sum=a24 z:=by
  obtain⟨M,rfl⟩: ∃M,N=M+2:=⟨N - 2,by have:=h.two;omega⟩
  have hM: ∀M':Nat,M'<=M->((List.range (M'+2)).map fun v:Nat=>(if S v=true then(-1:Int)else 0)*abo z v).sum=a24 z:=fun M'=>by
   induction M' with
   |zero=>
    intro _;have e0:S ((0:Nat):Int)=true:=h0;have e1:S ((1:Nat):Int)=false:=h1;have n0:abo z ((0:Nat):Int)= - a24 z:=a7o h;have e:List.range (0+2)=[0,1]:=rfl;rw[e];simp only[List.map_cons,List.map_nil,List.sum_cons,List.sum_nil];rw[if_pos e0,if_neg (by rw[e1];simp),n0]
    omega
   |succ k ih=>
    intro hk;have e:List.range (k+1+2)=List.range (k+2)++[k+2]:=List.range_succ;rw[e,List.map_append,List.sum_append,ih (by omega)];simp only[List.map_cons,List.map_nil,List.sum_cons,List.sum_nil];rw[h.net (k+2) (by omega) (by omega)];simp
  exact hM M (Nat.le_refl _)
 rw[hz]at hp;rw[<-hp];unfold mq;rw[List.map_map];refine axi fun p hpm=> ?_;obtain⟨_,_,x0,x1⟩:=h.rng p hpm;show p.2*((if S p.1.to=true then -1 else 0) - (if S p.1.fr=true then -1 else 0))<=if S p.1.fr=true/\S p.1.to=false then p.1.cap else 0
 cases hf:S p.1.fr<;>cases ht:S p.1.to<;>simp<;>omega
def aap(g:Gr)(d c:Int->Int)(seeds sinks:List Int):List Ac:=
 (seeds.filter fun k=>decide (0<=d k)).map (fun k=>⟨0,2+2*k,c k⟩)++((((List.range g.sz.toNat).map fun k:Nat=>(k:Int)).filter fun k=>decide (0<=d k)).map (fun k=>⟨2+2*k,3+2*k,c k - 1⟩)++((sinks.filter fun k=>decide (0<=d k)).map (fun k=>⟨2+2*k,1,1⟩)++(g.ed.filter fun e=>decide (0<=d e.fr)).map fun e=>⟨3+2*e.fr,2+2*e.to,64⟩))
def jj(G:Int)(dec:List Int)(v:Int):Bool:=decide (v=0)||(decide (2<=v)&&(decide ((v - 2)/2<G)&&(decide ((v - 2) % 2=0)|| !decide ((v - 2)/2∈dec))))
theorem afc(G:Int)(dec:List Int)(k:Int)(h:0<=k):jj G dec (2+2*k)=decide (k<G):=by
 have e1:(2+2*k - 2)/2=k:=by omega
 have e2:(2+2*k - 2) % 2=0:=by omega
 unfold jj;rw[e1,e2,decide_eq_false (show¬2+2*k=0 by omega),decide_eq_true (show 2<=2+2*k by omega)];simp
theorem aoh(G:Int)(dec:List Int)(k:Int)(h:0<=k):jj G dec (3+2*k)=(decide (k<G)&& !decide (k∈dec)):=by
 have e1:(3+2*k - 2)/2=k:=by omega
 have e2:(3+2*k - 2) % 2=1:=by omega
 unfold jj;rw[e1,e2,decide_eq_false (show¬3+2*k=0 by omega),decide_eq_true (show 2<=3+2*k by omega)];simp
theorem yj(S:Int->Bool)(a b:List Ac):mq S (a++b)=mq S a+mq S b:=by
 unfold mq;rw[List.map_append,List.sum_append]
theorem acg{S:Int->Bool}{l:List Ac}(h: ∀a∈l,¬(S a.fr=true/\S a.to=false)):mq S l=0:=by
 unfold mq
 induction l with
 |nil=>rfl
 |cons a l ih=>
  rw[List.map_cons,List.sum_cons,ih fun x hx=>h x (by simp[hx]),if_neg (h a (by simp))];rfl
theorem bba{l:List Int}{p:Int->Bool}: ∀q:Int->Bool,(((l.filter q).map fun k=>if p k=true then(1:Int)else 0)).sum<=((l.filter p).length:Int):=fun q=>by
 induction l with
 |nil=>simp
 |cons a l ih=>
  by_cases hq:q a=true<;>by_cases hp:p a=true<;>simp[hq,hp]<;>omega
theorem a54{g:Gr}{d c:Int->Int}{seeds sinks dec:List Int}{G:Int}(hs: ∀k∈seeds,0<=k/\k<G)(hk: ∀k∈sinks,0<=k)(hc: ∀k,0<=d k->1<=c k)
  (he: ∀e∈g.ed,0<=e.fr/\0<=e.to/\(e.fr<G->e.fr∉dec->e.to<G)):
  mq (jj G dec) (aap g d c seeds sinks)<=(dec.map fun k=>if 0<=d k then c k - 1 else 0).sum+((sinks.filter fun k=>decide (k<G)).length:Int):=by
 have p1:mq (jj G dec) ((seeds.filter fun k=>decide (0<=d k)).map fun k=>(⟨0,2+2*k,c k⟩:Ac))=0:=acg fun a ha=>by
  obtain⟨k,hk,rfl⟩:=List.mem_map.1 ha;have:=hs k (List.mem_filter.1 hk).1;rintro⟨_,h⟩;rw[afc _ _ _ this.1]at h;exact absurd this.2 (of_decide_eq_false h)
 have p4:mq (jj G dec) ((g.ed.filter fun e=>decide (0<=d e.fr)).map fun e=>(⟨3+2*e.fr,2+2*e.to,64⟩:Ac))=0:=acg fun a ha=>by
  obtain⟨e,hm,rfl⟩:=List.mem_map.1 ha;obtain⟨f0,t0,h3⟩:=he e (List.mem_filter.1 hm).1;rintro⟨h1,h2⟩;rw[aoh _ _ _ f0,Bool.and_eq_true]at h1;rw[afc _ _ _ t0]at h2;exact absurd (h3 (of_decide_eq_true h1.1) (by simpa using h1.2)) (of_decide_eq_false h2)
 have p3:mq (jj G dec) ((sinks.filter fun k=>decide (0<=d k)).map fun k=>(⟨2+2*k,1,1⟩:Ac))<=((sinks.filter fun k=>decide (k<G)).length:Int):=by
  have e:mq (jj G dec) ((sinks.filter fun k=>decide (0<=d k)).map fun k=>(⟨2+2*k,1,1⟩:Ac))=((sinks.filter fun k=>decide (0<=d k)).map fun k=>if decide (k<G)=true then(1:Int)else 0).sum:=by
   unfold mq;rw[List.map_map];congr 1;refine List.map_congr_left fun k hm=> ?_;have h0:=hk k (List.mem_filter.1 hm).1;show(if jj G dec (2+2*k)=true/\jj G dec 1=false then(1:Int)else 0)=_;have s1:jj G dec 1=false:=by unfold jj;simp
   rw[afc _ _ _ h0,s1];by_cases hg:k<G<;>simp[hg]
  rw[e];exact bba _
 have p2:mq (jj G dec) (((((List.range g.sz.toNat).map fun k:Nat=>(k:Int)).filter fun k=>decide (0<=d k)).map fun k=>(⟨2+2*k,3+2*k,c k - 1⟩:Ac)))<=(dec.map fun k=>if 0<=d k then c k - 1 else 0).sum:=by
  have hrn:((List.range g.sz.toNat).map fun k:Nat=>(k:Int)).Nodup:=by
   rw[List.Nodup,List.pairwise_map];exact(List.nodup_range (n:=g.sz.toNat)).imp fun h e=>h (by omega)
  generalize hR:(List.range g.sz.toNat).map (fun k:Nat=>(k:Int))=R at*
  have hR0: ∀k∈R,0<=k:=fun k hk=>by
   rw[<-hR]at hk;obtain⟨j,_,rfl⟩:=List.mem_map.1 hk;omega
  have e:mq (jj G dec) ((R.filter fun k=>decide (0<=d k)).map fun k=>(⟨2+2*k,3+2*k,c k - 1⟩:Ac))=((R.filter fun k=>decide (0<=d k)&&(decide (k<G)&&decide (k∈dec))).map fun k=>c k - 1).sum:=by
   clear hR hrn
   induction R with
   |nil=>rfl
   |cons a R ih=>
    have ih:=ih fun k hk=>hR0 k (by simp[hk]);have a0:=hR0 a (by simp);by_cases hd:0<=d a
    ·rw[List.filter_cons_of_pos (by simpa using hd),List.map_cons];have e1: ∀x (l:List Ac),mq (jj G dec) (x::l)=(if jj G dec x.fr=true/\jj G dec x.to=false then x.cap else 0)+mq (jj G dec) l:=fun x l=>rfl;rw[e1,ih];show(if jj G dec (2+2*a)=true/\jj G dec (3+2*a)=false then c a - 1 else 0)+_=_;rw[afc _ _ _ a0,aoh _ _ _ a0];by_cases h1:a<G<;>by_cases h2:a∈dec<;>simp[h1,h2,hd]
    ·rw[List.filter_cons_of_neg (by simpa using hd),List.filter_cons_of_neg (by simp[hd])];exact ih
  rw[e];refine avn (hrn.filter _) (fun k hk=> ?_) (fun k hk=> ?_) fun k hk=> ?_
  ·simp only[List.mem_filter,Bool.and_eq_true,decide_eq_true_eq]at hk;exact hk.2.2.2
  ·simp only[List.mem_filter,Bool.and_eq_true,decide_eq_true_eq]at hk;rw[if_pos hk.2.1];exact Int.le_refl _
  ·split
   ·rename_i h;have:=hc k h;omega
   ·omega
 unfold aap;rw[yj,yj,yj,p1,p4];omega
theorem axy{g:Gr}{d c:Int->Int}{seeds sinks dec:List Int}{G:Int}{z:List (Ac×Int)}{N:Nat}(hz:OkZ N z)(hza:z.map Prod.fst=aap g d c seeds sinks)(hv:a24 z=(sinks.length:Int))(hs: ∀k∈seeds,0<=k/\k<G)(hk: ∀k∈sinks,0<=k)(hc: ∀k,0<=d k->1<=c k)
  (he: ∀e∈g.ed,0<=e.fr/\0<=e.to/\(e.fr<G->e.fr∉dec->e.to<G)):
  ((sinks.filter fun k=>decide (G<=k)).length:Int)<=(dec.map fun k=>if 0<=d k then c k - 1 else 0).sum:=by
 have h1:=bk9 hz (S:=jj G dec) (by unfold jj;simp) (by unfold jj;simp);rw[hza,hv]at h1;have h2:=a54 (d:=d) (c:=c) (sinks:=sinks) (g:=g) hs hk hc he
 have h3: ∀l:List Int,l.length=(l.filter fun k=>decide (k<G)).length+(l.filter fun k=>decide (G<=k)).length:=fun l=>by
  induction l with
  |nil=>rfl
  |cons a l ih=>
   by_cases h:a<G
   ·have h': ¬G<=a:=by omega
    simp[h,h'];omega
   ·have h':G<=a:=by omega
    simp[h,h'];omega
 have h4:=h3 sinks;omega
theorem afu{g h:Gr}{S dec:List Int}{G:Int}(hS: ∀k∈S,k<G)(hgo:h.gone=g.gone)(hin: ∀e∈h.ed,e.fr<G->e.to<G->e∈g.ed)(hout: ∀e∈h.ed,e.fr<G->¬e.to<G->e.fr∈dec): ∀(n:Nat) (x:Int),rch h S n x=true->
  (x<G->rch g S n x=true\/∃y∈dec,∃m,m+2<=n/\rch g S m y=true)/\(¬x<G->∃y∈dec,∃m,m+1<=n/\rch g S m y=true)
 |0,x,hx=>by
  refine⟨fun _=> .inl ?_,fun hn=> ?_⟩
  ·rw[rch,hgo]at hx;exact hx
  ·simp only[rch,Bool.and_eq_true,decide_eq_true_eq]at hx
   exact absurd (hS x hx.1) hn
 |n+1,x,hx=>by
  rw[rch,Bool.or_eq_true]at hx;rcases hx with hx|hx
  ·obtain⟨a,b⟩:=afu hS hgo hin hout n x hx;refine⟨fun hg=> ?_,fun hg=> ?_⟩
   ·rcases a hg with a|⟨y,hy,m,hm,r⟩
    ·exact .inl (afj a (by omega))
    ·exact .inr ⟨y,hy,m,by omega,r⟩
   ·obtain⟨y,hy,m,hm,r⟩:=b hg;exact⟨y,hy,m,by omega,r⟩
  ·obtain⟨e,he,hx⟩:=List.any_eq_true.1 hx;simp only[Bool.and_eq_true,decide_eq_true_eq]at hx;obtain⟨rfl,hf⟩:=hx;obtain⟨a,b⟩:=afu hS hgo hin hout n e.fr hf;by_cases hfr:e.fr<G
   ·refine⟨fun hg=> ?_,fun hg=> ?_⟩
    ·rcases a hfr with a|⟨y,hy,m,hm,r⟩
     ·exact .inl (wu (hin e he hfr hg) a)
     ·exact .inr ⟨y,hy,m,by omega,r⟩
    ·rcases a hfr with a|⟨y,hy,m,hm,r⟩
     ·exact⟨e.fr,hout e he hfr hg,n,by omega,a⟩
     ·exact⟨y,hy,m,by omega,r⟩
   ·obtain⟨y,hy,m,hm,r⟩:=b hfr;exact⟨fun _=> .inr ⟨y,hy,m,by omega,r⟩,fun _=>⟨y,hy,m,by omega,r⟩⟩
theorem bay{g:Gr}{S:List Int}{n N:Nat}{x:Int}(h:rch g S n x=true)(hn:n<N):0<=dvl g S N x/\dvl g S N x<=n:=by
 have hb:=va g S x N
 have h0: ¬dvl g S N x<0:=fun hh=>by
  rw[(jd g S x N).1.1 hh n hn]at h;cases h
 refine⟨by omega,?_⟩;obtain⟨m,hm⟩: ∃m:Nat,dvl g S N x=(m:Int):=⟨(dvl g S N x).toNat,by omega⟩;obtain⟨_,_,c⟩:=(jd g S x N).2 m hm;by_cases hlt:n<m
 ·rw[c n hlt]at h;cases h
 ·omega
theorem ba2{g:Gr}{S:List Int}(hg:OkE g)(hS: ∀x∈S,0<=x/\x<g.sz): ∀(m:Nat) (y:Int),rch g S m y=true->∃j,j<=m/\j<g.sz.toNat/\rch g S j y=true:=fun m y h=>by
 by_cases hn:nwl g S m y
 ·exact⟨m,Nat.le_refl _,ay5 hg hS hn,h⟩
 ·have h0:0<=dvl g S m y:=by
   by_cases h0:0<=dvl g S m y
   ·exact h0
   ·exact absurd ⟨h,by omega⟩ hn
  obtain⟨j,hj⟩: ∃j:Nat,dvl g S m y=(j:Int):=⟨(dvl g S m y).toNat,by omega⟩;obtain⟨a,b,c⟩:=(jd g S y m).2 j hj;exact⟨j,by omega,ay5 hg hS ⟨a,by rw[a0g];have:=(jd g S y j).1.2 c;have:=va g S y j;omega⟩,a⟩
theorem aps{g:Gr}{S:List Int}(hg:OkE g)(hS: ∀x∈S,0<=x/\x<g.sz){m:Nat}{y:Int}(h:rch g S m y=true):0<=el (bg g S) y.toNat/\el (bg g S) y.toNat<=m:=by
 obtain⟨j,j1,j2,j3⟩:=ba2 hg hS m y h;obtain⟨y0,y1⟩:=ahf hg hS m y h;rw[apx y0 y1];have:=bay (N:=g.sz.toNat+1) j3 (by omega);omega
theorem apd{g:Gr}{S:List Int}(hg: ∀e∈g.ed,e.to∉g.gone): ∀(n:Nat) (k:Int),rch g S n k=true->k∉g.gone
 |0,k,h=>by
  simp only[rch,Bool.and_eq_true,decide_eq_true_eq]at h
  simpa using h.2
 |n+1,k,h=>by
  rw[rch,Bool.or_eq_true]at h;rcases h with h|h
  ·exact apd hg n k h
  ·obtain⟨e,he,hx⟩:=List.any_eq_true.1 h;simp only[Bool.and_eq_true,decide_eq_true_eq]at hx;rw[<-hx.1];exact hg e he
theorem ar8{g h:Gr}{S dec ta:List Int}(hg:OkE g)(hSg: ∀x∈S,0<=x/\x<g.sz)(ht:OkTa ta)(hd: ∀k∈dec,0<=k/\k<g.sz)(hgo:h.gone=g.gone)(hgn: ∀e∈h.ed,e.to∉h.gone)(hin: ∀e∈h.ed,e.fr<g.sz->e.to<g.sz->e∈g.ed)(hout: ∀e∈h.ed,e.fr<g.sz->¬e.to<g.sz->e.fr∈dec)(N:Nat):
  (dec.map fun k=>if 0<=dvl h S N k then kw ta (dvl h S N k) - 1 else 0).sum<=yy (bg g S) g.gone ta dec:=by
 refine axi fun k hk=> ?_;split
 ·rename_i h0;obtain⟨n,hn⟩: ∃n:Nat,dvl h S N k=(n:Int):=⟨(dvl h S N k).toNat,by omega⟩;obtain⟨r,_,_⟩:=(jd h S k N).2 n hn;have hng:=apd hgn n k r;rw[hgo]at hng
  have hl:0<=mo (bg g S) dec k/\mo (bg g S) dec k<=n:=by
   refine((an8 (d:=bg g S) (x:=k) dec (el (bg g S) k.toNat)).2 n (by omega)).2 ?_;rcases((afu (fun x hx=>(hSg x hx).2) hgo hin hout n k r).1 (hd k hk).2)with a|⟨y,hy,m,hm,a⟩
   ·exact .inl (aps hg hSg a)
   ·obtain⟨b1,b2⟩:=aps hg hSg a;by_cases hyk:y=k
    ·subst hyk;exact .inl ⟨b1,by omega⟩
    ·exact .inr ⟨y,hy,hyk,b1,by omega⟩
  unfold u5;rw[if_pos ⟨hl.1,hng⟩,hn];have:=a6h ht hl.1 hl.2;omega
 ·exact aqi ht
end Go.Proofs.Am
