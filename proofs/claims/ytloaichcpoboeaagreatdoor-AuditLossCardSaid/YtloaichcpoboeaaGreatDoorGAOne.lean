/- GAOne. -/
import Derived.Test.YtloaichcpoboeaaGreatDoorAmS
set_option linter.unusedSimpArgs false
set_option linter.unusedVariables false
namespace Go.Proofs.Am
open Go Go.RowKit
structure Ed where
 fr:Int
 to:Int
 lv:Int
deriving Inhabited,DecidableEq
structure Gr where
 sz:Int
 ed:List Ed
 gone:List Int
deriving Inhabited,DecidableEq
def rch(g:Gr)(S:List Int):Nat→Int→Bool
 |0,k=>decide (k∈S)&& !decide (k∈g.gone)
 |n+1,k=>rch g S n k||g.ed.any fun e=>decide (e.to=k)&&rch g S n e.fr
def dvl(g:Gr)(S:List Int):Nat→Int→Int
 |0,_=> -1
 |n+1,k=>if 0≤dvl g S n k then dvl g S n k else if rch g S n k=true then(n:Int)else -1
theorem alm{g:Gr}{S:List Int}{n m:Nat}{k:Int}(h:rch g S n k=true)(hm:n≤m):rch g S m k=true:=by
 induction hm with
 |refl=>exact h
 |step _ ih=>rw[rch,ih,Bool.true_or]
theorem aaf{g:Gr}{S:List Int}{n:Nat}{e:Ed}(he:e∈g.ed)(h:rch g S n e.fr=true):rch g S (n+1) e.to=true:=by
 rw[rch,Bool.or_eq_true]
 exact .inr (List.any_eq_true.2 ⟨e,he,by simp[h]⟩)
theorem xy(g:Gr)(S:List Int)(k:Int): ∀n:Nat,-1≤dvl g S n k∧dvl g S n k<n
 |0=>by simp[dvl]
 |n+1=>by
  have h:=xy g S k n
  rw[dvl]
  split
  ·omega
  ·split<;>omega
theorem ol(g:Gr)(S:List Int)(k:Int): ∀n:Nat,(dvl g S n k<0↔∀m,m<n→rch g S m k=false)∧(∀m:Nat,dvl g S n k=m→rch g S m k=true∧m<n∧∀j,j<m→rch g S j k=false)
 |0=>⟨by simp[dvl],fun m h=>by simp[dvl]at h⟩
 |n+1=>by
  obtain⟨h1,h2⟩:=ol g S k n
  have hb:=xy g S k n
  rw[dvl]
  split
  ·rename_i h0
   refine⟨⟨fun h=>by omega,fun h=> ?_⟩,fun m hm=> ?_⟩
   ·exact absurd (h1.2 fun m hm=>h m (by omega)) (by omega)
   ·obtain⟨a,b,c⟩:=h2 m hm
    exact⟨a,by omega,c⟩
  ·rename_i h0
   have hn:=h1.1 (by omega)
   split
   ·rename_i hr
    refine⟨⟨fun h=>by omega,fun h=> ?_⟩,fun m hm=> ?_⟩
    ·rw[h n (by omega)]at hr;cases hr
    ·have:m=n:=by omega
     subst this
     exact⟨hr,by omega,hn⟩
   ·rename_i hr
    refine⟨⟨fun _ m hm=> ?_,fun _=>by omega⟩,fun m hm=>by omega⟩
    by_cases hmn:m=n
    ·rw[hmn];simpa using hr
    ·exact hn m (by omega)
theorem avs{g:Gr}{S:List Int}{n:Nat}{k:Int}(h:0≤dvl g S n k): ∀m,n≤m→dvl g S m k=dvl g S n k:=fun m hm=>by
 induction hm with
 |refl=>rfl
 |step _ ih=>rw[dvl,if_pos (by omega),ih]
theorem a93{g:Gr}{S:List Int}{n:Nat}(h: ∀k,rch g S n k=true→0≤dvl g S n k): ∀m,n≤m→∀k,dvl g S m k=dvl g S n k:=by
 have hr: ∀m,n≤m→∀k,rch g S m k=true→rch g S n k=true∧0<n:=fun m hm=>by
  induction hm with
  |refl=>
   intro k hk
   refine⟨hk,?_⟩
   have h1:=h k hk
   have h2:=xy g S k n
   omega
  |step hm ih=>
   intro k hk
   rw[rch,Bool.or_eq_true]at hk
   rcases hk with hk|hk
   ·exact ih k hk
   ·obtain⟨e,he,hx⟩:=List.any_eq_true.1 hk
    rw[Bool.and_eq_true]at hx
    obtain⟨h1,h2⟩:=hx
    have h1:=of_decide_eq_true h1
    obtain⟨h3,h0⟩:=ih _ h2
    have h4:=h _ h3
    obtain⟨m',hm'⟩: ∃m':Nat,dvl g S n e.fr=(m':Int):=⟨(dvl g S n e.fr).toNat,by omega⟩
    obtain⟨a,b,_⟩:=(ol g S e.fr n).2 m' hm'
    rw[←h1]
    exact⟨alm (aaf he a) (by omega),h0⟩
 intro m hm k
 by_cases h0:0≤dvl g S n k
 ·exact avs h0 m hm
 ·have h1: ∀j,rch g S j k=false:=fun j=>by
   cases hj:rch g S j k with
   |false=>rfl
   |true=>
    have h2:rch g S (max n j) k=true:=alm hj (by omega)
    exact absurd (h k (hr _ (by omega) k h2).1) h0
  have h2:=(ol g S k m).1.2 fun j _=>h1 j
  have h3:=xy g S k m
  have h4:=xy g S k n
  omega
def nwl(g:Gr)(S:List Int)(n:Nat)(k:Int):Prop:=rch g S n k=true∧dvl g S n k<0
theorem a0z{g:Gr}{S:List Int}{k:Int}:nwl g S 0 k↔k∈S∧k∉g.gone:=by
 unfold nwl
 simp[rch,dvl]
theorem o5{g:Gr}{S:List Int}{n:Nat}{k:Int}:nwl g S (n+1) k↔dvl g S (n+1) k<0∧∃e∈g.ed,e.to=k∧dvl g S (n+1) e.fr=n:=by
 unfold nwl
 constructor
 ·rintro⟨h1,h2⟩
  refine⟨h2,?_⟩
  have h3:=(ol g S k (n+1)).1.1 h2
  rw[rch,h3 n (by omega),Bool.false_or]at h1
  obtain⟨e,he,hx⟩:=List.any_eq_true.1 h1
  rw[Bool.and_eq_true]at hx
  obtain⟨h4,h5⟩:=hx
  have h4:=of_decide_eq_true h4
  refine⟨e,he,h4,?_⟩
  have h6: ¬dvl g S (n+1) e.fr<0:=fun h=>by
   rw[(ol g S e.fr (n+1)).1.1 h n (by omega)]at h5;cases h5
  obtain⟨m,hm⟩: ∃m:Nat,dvl g S (n+1) e.fr=(m:Int):=⟨(dvl g S (n+1) e.fr).toNat,by omega⟩
  obtain⟨a,b,_⟩:=(ol g S e.fr (n+1)).2 m hm
  by_cases hmn:m=n
  ·rw[hm,hmn]
  ·have:=aaf he a
   rw[h4,h3 (m+1) (by omega)]at this
   cases this
 ·rintro⟨h1,e,he,h2,h3⟩
  obtain⟨a,_,_⟩:=(ol g S e.fr (n+1)).2 n h3
  rw[←h2]at h1 ⊢
  exact⟨aaf he a,h1⟩
theorem afl{g:Gr}{S:List Int}{n:Nat}{k:Int}(h:nwl g S n k):dvl g S (n+1) k=n:=by
 rw[dvl,if_neg (by have:=h.2;omega),if_pos h.1]
theorem av1{g:Gr}{S:List Int}{n:Nat}{k:Int}(h: ¬nwl g S n k):dvl g S (n+1) k=dvl g S n k:=by
 rw[dvl]
 have hb:=xy g S k n
 by_cases h0:0≤dvl g S n k
 ·rw[if_pos h0]
 ·rw[if_neg h0,if_neg (fun hr=>h ⟨hr,by omega⟩)]
  omega
structure OkE(g:Gr):Prop where
 lo:0≤g.sz
 ed: ∀e∈g.ed,(0≤e.fr∧e.fr<g.sz)∧(0≤e.to∧e.to<g.sz)
def p7(g:Gr)(f:Int→Int):List Int:=(List.range g.sz.toNat).map fun k:Nat=>f k
theorem abk(g:Gr)(f:Int→Int):(p7 g f).length=g.sz.toNat:=by simp[p7]
theorem w4{g:Gr}{f:Int→Int}{k:Int}(h0:0≤k)(h1:k<g.sz):el (p7 g f) k.toNat=f k:=by
 have:k.toNat<g.sz.toNat:=by omega
 simp[el,p7,List.getD_eq_getElem?_getD,this,Int.toNat_of_nonneg h0]
theorem alq{g:Gr}{f:Int→Int}{k v:Int}(h0:0≤k):(p7 g f).set k.toNat v=p7 g fun x=>if x=k then v else f x:=by
 refine List.ext_getElem (by simp[p7]) fun i h1 h2=> ?_
 rw[List.getElem_set]
 simp only[p7,List.getElem_map,List.getElem_range]
 by_cases hi:k.toNat=i
 ·rw[if_pos hi,if_pos (by omega)]
 ·rw[if_neg hi,if_neg (by omega)]
theorem bz{g:Gr}{f h:Int→Int}(he: ∀k,0≤k→k<g.sz→f k=h k):p7 g f=p7 g h:=by
 refine List.map_congr_left fun i hi=> ?_
 rw[List.mem_range]at hi
 exact he _ (by omega) (by omega)
def dvL(g:Gr)(S:List Int)(n:Nat):List Int:=p7 g (dvl g S n)
def qc(n:Int)(d:List Int)(e:Ed):List Int:=if el d e.fr.toNat=n∧el d e.to.toNat= -1 then d.set e.to.toNat (n+1)else d
theorem agj(n:Int)(d:List Int)(e:Ed):(qc n d e).length=d.length:=by
 unfold qc
 split<;>simp
theorem a5k{g:Gr}{S:List Int}{n:Nat}{k:Int}:dvl g S n k<0↔dvl g S n k= -1:=by
 have:=xy g S k n
 omega
theorem atl{g:Gr}{S:List Int}{n:Nat}{k:Int}:dvl g S (n+1) k=n↔nwl g S n k:=by
 refine⟨fun h=> ?_,afl⟩
 by_cases hn:nwl g S n k
 ·exact hn
 ·rw[av1 hn]at h
  have:=xy g S k n
  omega
theorem aae{g:Gr}{S:List Int}{n:Nat}(hg:OkE g): ∀(l:List Ed) (P:Int→Bool),(∀e∈l,e∈g.ed)→(∀k,P k=true→dvl g S (n+1) k<0)→
  l.foldl (qc n) (p7 g fun k=>if P k=true then(n:Int)+1 else dvl g S (n+1) k)=p7 g fun k=>if(P k||(decide (dvl g S (n+1) k<0)&&l.any fun e=>decide (e.to=k)&&decide (dvl g S (n+1) e.fr=n)))=true then(n:Int)+1 else dvl g S (n+1) k
 |[],P,_,_=>by simp
 |e::l,P,hl,hP=>by
  obtain⟨⟨f0,f1⟩,t0,t1⟩:=hg.ed e (hl e (by simp))
  have hP': ∀k,(P k||(decide (k=e.to)&&(decide (dvl g S (n+1) e.fr=n)&&decide (dvl g S (n+1) k<0))))=true→dvl g S (n+1) k<0:=fun k hk=>by
   rw[Bool.or_eq_true]at hk
   rcases hk with hk|hk
   ·exact hP k hk
   ·simp only[Bool.and_eq_true,decide_eq_true_eq]at hk
    exact hk.2.2
  have ih:=aae (S:=S) (n:=n) hg l _ (fun x hx=>hl x (by simp[hx])) hP'
  rw[List.foldl_cons]
  have hst:qc n (p7 g fun k=>if P k=true then(n:Int)+1 else dvl g S (n+1) k) e=p7 g fun k=>if(P k||(decide (k=e.to)&&(decide (dvl g S (n+1) e.fr=n)&&decide (dvl g S (n+1) k<0))))=true then(n:Int)+1 else dvl g S (n+1) k:=by
   unfold qc
   rw[w4 f0 f1,w4 t0 t1]
   have e1:((if P e.fr=true then(n:Int)+1 else dvl g S (n+1) e.fr)=n)↔dvl g S (n+1) e.fr=n:=by
    by_cases hp:P e.fr=true
    ·rw[if_pos hp]
     have:=hP _ hp
     omega
    ·rw[if_neg hp]
   have e2:((if P e.to=true then(n:Int)+1 else dvl g S (n+1) e.to)= -1)↔P e.to=false∧dvl g S (n+1) e.to<0:=by
    by_cases hp:P e.to=true
    ·rw[if_pos hp,hp]
     have:=hP _ hp
     simp
     omega
    ·rw[if_neg hp,a5k]
     simp[hp]
   by_cases hc:dvl g S (n+1) e.fr=n∧P e.to=false∧dvl g S (n+1) e.to<0
   ·rw[if_pos ⟨e1.2 hc.1,e2.2 hc.2⟩,alq t0]
    refine bz fun k _ _=> ?_
    by_cases hk:k=e.to
    ·subst hk
     simp[hc.1,hc.2.2]
    ·simp[hk]
   ·rw[if_neg fun h=>hc ⟨e1.1 h.1,e2.1 h.2⟩]
    refine bz fun k _ _=> ?_
    by_cases hk:k=e.to
    ·subst hk
     by_cases hp:P e.to=true
     ·simp[hp]
     ·have hp:P e.to=false:=by simpa using hp
      by_cases h1:dvl g S (n+1) e.fr=n
      ·have h2: ¬dvl g S (n+1) e.to<0:=fun h=>hc ⟨h1,hp,h⟩
       simp[hp,h2]
      ·simp[hp,h1]
    ·simp[hk]
  rw[hst,ih]
  refine bz fun k _ _=> ?_
  congr 1
  rw[eq_iff_iff]
  simp only[Bool.or_eq_true,Bool.and_eq_true,decide_eq_true_eq,List.any_cons]
  constructor
  ·rintro((h|⟨rfl,h2,h3⟩)|⟨h1,h2⟩)
   ·exact .inl h
   ·exact .inr ⟨h3,.inl ⟨rfl,h2⟩⟩
   ·exact .inr ⟨h1,.inr h2⟩
  ·rintro(h|⟨h1,⟨rfl,h2⟩|h2⟩)
   ·exact .inl (.inl h)
   ·exact .inl (.inr ⟨rfl,h2,h1⟩)
   ·exact .inr ⟨h1,h2⟩
theorem avj{g:Gr}{S:List Int}{n:Nat}(hg:OkE g):g.ed.foldl (qc n) (dvL g S (n+1))=dvL g S (n+2):=by
 have h:=aae (S:=S) (n:=n) hg g.ed (fun _=>false) (fun e he=>he) (by simp)
 have e0:(p7 g fun k=>if(fun _:Int=>false) k=true then(n:Int)+1 else dvl g S (n+1) k)=dvL g S (n+1):=bz fun k _ _=>by simp
 rw[e0]at h
 rw[h]
 refine bz fun k _ _=> ?_
 by_cases hn:nwl g S (n+1) k
 ·rw[afl hn,if_pos]
  ·simp
  ·obtain⟨h1,e,he,h2,h3⟩:=o5.1 hn
   simp only[Bool.false_or,Bool.and_eq_true,decide_eq_true_eq]
   exact⟨h1,List.any_eq_true.2 ⟨e,he,by simp[h2,h3]⟩⟩
 ·rw[av1 hn,if_neg]
  intro hh
  simp only[Bool.false_or,Bool.and_eq_true,decide_eq_true_eq]at hh
  obtain⟨h1,h2⟩:=hh
  obtain⟨e,he,h3⟩:=List.any_eq_true.1 h2
  simp only[Bool.and_eq_true,decide_eq_true_eq]at h3
  exact hn (o5.2 ⟨h1,e,he,h3.1,h3.2⟩)
def m7(O:Int→List Int)(d:Int)(s:List Int×List Int)(x:Int):List Int×List Int:=if 0≤el s.1 x.toNat then s else(s.1.set x.toNat d,s.2++O x)
theorem axd{g:Gr}{S:List Int}{n:Nat}{O:Int→List Int}: ∀(F:List Int) (P:Int→Bool) (N:List Int),(∀x∈F,(0≤x∧x<g.sz)∧nwl g S n x)→(∀k,P k=true→nwl g S n k)→
  ∃N',F.foldl (m7 O n) (p7 g (fun k=>if P k=true then(n:Int)else dvl g S n k),N)=(p7 g (fun k=>if(P k||decide (k∈F))=true then(n:Int)else dvl g S n k),N')∧∀y,y∈N'↔y∈N∨∃x∈F,P x=false∧y∈O x
 |[],P,N,_,_=>⟨N,by simp,by simp⟩
 |x::F,P,N,hF,hP=>by
  obtain⟨⟨x0,x1⟩,xn⟩:=hF x (by simp)
  rw[List.foldl_cons]
  have he:el (p7 g (fun k=>if P k=true then(n:Int)else dvl g S n k)) x.toNat=if P x=true then(n:Int)else dvl g S n x:=w4 x0 x1
  by_cases hp:P x=true
  ·have h1:m7 O n (p7 g (fun k=>if P k=true then(n:Int)else dvl g S n k),N) x=(p7 g (fun k=>if P k=true then(n:Int)else dvl g S n k),N):=by
    unfold m7
    rw[he,if_pos hp,if_pos (by omega)]
   rw[h1]
   obtain⟨N',e1,e2⟩:=axd F P N (fun y hy=>hF y (by simp[hy])) hP
   refine⟨N',?_,fun y=> ?_⟩
   ·rw[e1]
    congr 1
    refine bz fun k _ _=> ?_
    by_cases hk:k=x
    ·subst hk;simp[hp]
    ·simp[hk]
   ·rw[e2]
    simp[hp]
  ·have hp:P x=false:=by simpa using hp
   have h1:m7 O n (p7 g (fun k=>if P k=true then(n:Int)else dvl g S n k),N) x=(p7 g (fun k=>if(P k||decide (k=x))=true then(n:Int)else dvl g S n k),N++O x):=by
    unfold m7
    rw[he,if_neg (by rw[hp];have:=xn.2;simp;omega),alq x0]
    congr 1
    refine bz fun k _ _=> ?_
    by_cases hk:k=x
    ·simp[hk]
    ·simp[hk]
   rw[h1]
   obtain⟨N',e1,e2⟩:=axd F (fun k=>P k||decide (k=x)) (N++O x) (fun y hy=>hF y (by simp[hy])) fun k hk=>by
    simp only[Bool.or_eq_true,decide_eq_true_eq]at hk
    rcases hk with hk|rfl
    ·exact hP k hk
    ·exact xn
   refine⟨N',?_,fun y=> ?_⟩
   ·rw[e1]
    congr 1
    refine bz fun k _ _=> ?_
    congr 1
    simp[Bool.or_assoc]
   ·rw[e2]
    simp only[List.mem_append,Bool.or_eq_false_iff,decide_eq_false_iff_not,List.mem_cons,exists_eq_or_imp]
    constructor
    ·rintro((h|h)|⟨z,hz,⟨h1,h2⟩,h3⟩)
     ·exact .inl h
     ·exact .inr (.inl ⟨hp,h⟩)
     ·exact .inr (.inr ⟨z,hz,h1,h3⟩)
    ·rintro(h|⟨h1,h2⟩|⟨z,hz,h1,h3⟩)
     ·exact .inl (.inl h)
     ·exact .inl (.inr h2)
     ·by_cases hzx:z=x
      ·subst hzx;exact .inl (.inr h3)
      ·exact .inr ⟨z,hz,⟨h1,hzx⟩,h3⟩
def as2(g:Gr)(S:List Int):Nat→List Int
 |0=>dvL g S 1
 |n+1=>g.ed.foldl (qc n) (as2 g S n)
theorem at1{g:Gr}{S:List Int}(hg:OkE g): ∀n,as2 g S n=dvL g S (n+1)
 |0=>rfl
 |n+1=>by rw[as2,at1 hg n,avj hg]
def dv(g:Gr)(S:List Int):List Int:=dvL g S (g.sz.toNat+1)
def ao9(g:Gr)(s:List Int×List Int):List Int:=s.2.filter fun y=>decide (0≤y∧y≤g.sz - 1)&& !decide (0≤el s.1 y.toNat)
def pfr(g:Gr)(O:Int→List Int)(S:List Int):Nat→List Int×List Int
 |0=>(p7 g fun _=> -1,((List.range g.sz.toNat).map fun k:Nat=>(k:Int)).filter fun k=>decide (k∈S)&& !decide (k∈g.gone))
 |n+1=>((((pfr g O S n).2.foldl (m7 O n) ((pfr g O S n).1,[])).1),ao9 g ((pfr g O S n).2.foldl (m7 O n) ((pfr g O S n).1,[])))
theorem ua{g:Gr}{O:Int→List Int}{S:List Int}(hg:OkE g)(hO: ∀x y,y∈O x↔∃e∈g.ed,e.fr=x∧e.to=y): ∀n,(pfr g O S n).1=dvL g S n∧∀k,k∈(pfr g O S n).2↔(0≤k∧k<g.sz)∧nwl g S n k
 |0=>by
  have hlo:=hg.lo
  refine⟨(bz (f:=fun _=> -1) (h:=dvl g S 0) fun k _ _=>rfl),fun k=> ?_⟩
  show k∈List.filter _ _↔_
  rw[List.mem_filter,a0z,Bool.and_eq_true]
  constructor
  ·rintro⟨h,h1,h2⟩
   obtain⟨j,hj,rfl⟩:=List.mem_map.1 h
   rw[List.mem_range]at hj
   exact⟨⟨by omega,by omega⟩,of_decide_eq_true h1,by simpa using h2⟩
  ·rintro⟨⟨h1,h2⟩,h3,h4⟩
   exact⟨List.mem_map.2 ⟨k.toNat,List.mem_range.2 (by omega),by omega⟩,decide_eq_true h3,by simpa using h4⟩
 |n+1=>by
  obtain⟨h1,h2⟩:=ua (S:=S) hg hO n
  obtain⟨N,e1,e2⟩:=axd (g:=g) (S:=S) (n:=n) (O:=O) (pfr g O S n).2 (fun _=>false) [] (fun x hx=>(h2 x).1 hx) (by simp)
  have e0:(p7 g fun k=>if(fun _:Int=>false) k=true then(n:Int)else dvl g S n k)=(pfr g O S n).1:=by rw[h1];exact bz fun k _ _=>by simp
  rw[e0]at e1
  have hd:(p7 g fun k=>if((fun _:Int=>false) k||decide (k∈(pfr g O S n).2))=true then(n:Int)else dvl g S n k)=dvL g S (n+1):=bz fun k k0 k1=>by
   by_cases hn:nwl g S n k
   ·have hm:=(h2 k).2 ⟨⟨k0,k1⟩,hn⟩
    rw[afl hn]
    simp[hm]
   ·have hm:k∉(pfr g O S n).2:=fun h=>hn ((h2 k).1 h).2
    rw[av1 hn]
    simp[hm]
  rw[hd]at e1
  have hp:pfr g O S (n+1)=(dvL g S (n+1),ao9 g (dvL g S (n+1),N)):=by rw[pfr,e1]
  rw[hp]
  refine⟨rfl,fun k=> ?_⟩
  show k∈List.filter _ N↔_
  rw[List.mem_filter,e2]
  simp only[List.not_mem_nil,false_or,Bool.and_eq_true,decide_eq_true_eq,true_and]
  have hel: ∀k,0≤k→k<g.sz→el (dvL g S (n+1)) k.toNat=dvl g S (n+1) k:=fun k k0 k1=>w4 k0 k1
  constructor
  ·rintro⟨⟨x,hx,hy⟩,⟨k0,k1⟩,h3⟩
   obtain⟨e,he,rfl,rfl⟩:=(hO _ _).1 hy
   refine⟨⟨k0,by omega⟩,o5.2 ⟨?_,e,he,rfl,atl.2 ((h2 _).1 hx).2⟩⟩
   rw[hel _ k0 (by omega)]at h3
   simp at h3
   omega
  ·rintro⟨⟨k0,k1⟩,hn⟩
   obtain⟨h3,e,he,h4,h5⟩:=o5.1 hn
   obtain⟨⟨f0,f1⟩,_⟩:=hg.ed e he
   refine⟨⟨e.fr,(h2 _).2 ⟨⟨f0,f1⟩,atl.1 h5⟩,(hO _ _).2 ⟨e,he,rfl,h4⟩⟩,⟨k0,by omega⟩,?_⟩
   rw[hel _ k0 k1]
   simp
   omega
theorem akn{g:Gr}{S:List Int}(hg:OkE g)(hS: ∀x∈S,0≤x∧x<g.sz): ∀(n:Nat) (k:Int),rch g S n k=true→0≤k∧k<g.sz
 |0,k,h=>by
  simp only[rch,Bool.and_eq_true,decide_eq_true_eq]at h
  exact hS k h.1
 |n+1,k,h=>by
  rw[rch,Bool.or_eq_true]at h
  rcases h with h|h
  ·exact akn hg hS n k h
  ·obtain⟨e,he,hx⟩:=List.any_eq_true.1 h
   simp only[Bool.and_eq_true,decide_eq_true_eq]at hx
   rw[←hx.1]
   exact(hg.ed e he).2
theorem akx{l m:List Int}(hl:l.Nodup)(h: ∀x∈l,x∈m):l.length≤m.length:=by
 induction l generalizing m with
 |nil=>simp
 |cons a r ih=>
  obtain⟨h1,h2⟩:=List.nodup_cons.1 hl
  have ha:=h a (by simp)
  have:=ih (m:=m.erase a) h2 fun x hx=>(List.mem_erase_of_ne (fun e:x=a=>h1 (by rw[←e];exact hx))).2 (h x (by simp[hx]))
  rw[List.length_erase_of_mem ha]at this
  have:=List.length_pos_of_mem ha
  simp only[List.length_cons]
  omega
theorem ban{g:Gr}{S:List Int}(hg:OkE g)(hS: ∀x∈S,0≤x∧x<g.sz){n:Nat}{k:Int}(h:nwl g S n k):n<g.sz.toNat:=by
 have key: ∀(n:Nat) (k:Int),nwl g S n k→∃l:List Int,l.length=n+1∧l.Nodup∧(∀x∈l,0≤x∧x<g.sz)∧∀x∈l,0≤dvl g S (n+1) x:=fun n=>by
  induction n with
  |zero=>
   intro k h
   exact⟨[k],rfl,by simp,fun x hx=>by rw[List.mem_singleton]at hx;rw[hx];exact akn hg hS _ _ h.1,fun x hx=>by rw[List.mem_singleton]at hx;rw[hx,afl h];simp⟩
  |succ n ih=>
   intro k h
   obtain⟨h1,e,he,h2,h3⟩:=o5.1 h
   obtain⟨l,l1,l2,l3,l4⟩:=ih e.fr (atl.1 h3)
   refine⟨k::l,by simp[l1],List.nodup_cons.2 ⟨fun hk=> ?_,l2⟩,fun x hx=> ?_,fun x hx=> ?_⟩
   ·have:=l4 k hk
    omega
   ·rcases List.mem_cons.1 hx with rfl|hx
    ·exact akn hg hS _ _ h.1
    ·exact l3 x hx
   ·rcases List.mem_cons.1 hx with rfl|hx
    ·rw[afl h];omega
    ·rw[avs (l4 x hx) _ (by omega)]
     exact l4 x hx
 obtain⟨l,l1,l2,l3,_⟩:=key n k h
 have:=akx (m:=(List.range g.sz.toNat).map fun k:Nat=>(k:Int)) l2 fun x hx=>by
  have:=l3 x hx
  exact List.mem_map.2 ⟨x.toNat,List.mem_range.2 (by omega),by omega⟩
 rw[List.length_map,List.length_range]at this
 omega
theorem bbi{g:Gr}{O:Int→List Int}{S:List Int}(hg:OkE g)(hO: ∀x y,y∈O x↔∃e∈g.ed,e.fr=x∧e.to=y)(hS: ∀x∈S,0≤x∧x<g.sz){n:Nat}(h:(pfr g O S n).2≠[]):n<g.sz.toNat:=by
 obtain⟨k,hk⟩:=List.exists_mem_of_ne_nil _ h
 exact ban hg hS (((ua (S:=S) hg hO n).2 k).1 hk).2
theorem a5y{g:Gr}{O:Int→List Int}{S:List Int}(hg:OkE g)(hO: ∀x y,y∈O x↔∃e∈g.ed,e.fr=x∧e.to=y)(hS: ∀x∈S,0≤x∧x<g.sz){n:Nat}(hn:n≤g.sz.toNat+1)(h:(pfr g O S n).2=[]):(pfr g O S n).1=dv g S:=by
 obtain⟨h1,h2⟩:=ua (S:=S) hg hO n
 rw[h1]
 refine bz fun k _ _=>(a93 (fun k hk=> ?_) _ hn k).symm
 by_cases hd:0≤dvl g S n k
 ·exact hd
 ·have:=(h2 k).2 ⟨akn hg hS _ _ hk,hk,by omega⟩
  rw[h]at this
  simp at this
theorem a0k{g:Gr}{S:List Int}(hg:OkE g):as2 g S g.sz.toNat=dv g S:=at1 hg _
def zo(ta:List Int)(d:Int):Int:=if d<0 then 0 else if d<(ta.length:Int)then el ta d.toNat else 1
def aep(d:List Int)(x:Int)(b:Int)(k:Int):Int:=if k≠x∧0≤el d k.toNat∧(b<0∨el d k.toNat+2<b)then el d k.toNat+2 else b
def jx(d K:List Int)(x:Int):Int:=K.foldl (aep d x) (el d x.toNat)
def afw(d gone ta K:List Int)(x:Int):Int:=if 0≤jx d K x∧x∉gone then zo ta (jx d K x) - 1 else 0
def ap5(d gone ta K:List Int):Int:=(K.map (afw d gone ta K)).sum
structure OkTa(ta:List Int):Prop where
 ne:0<ta.length
 lo: ∀c∈ta,1≤c
 dec: ∀i j,i≤j→j<ta.length→el ta j≤el ta i
end Go.Proofs.Am
