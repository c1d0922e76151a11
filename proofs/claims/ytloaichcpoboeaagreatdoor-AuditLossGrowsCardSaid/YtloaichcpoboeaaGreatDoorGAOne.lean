/- GAOne. -/
import Derived.Test.YtloaichcpoboeaaGreatDoorAmS
set_option linter.unusedSimpArgs false
set_option linter.unusedVariables false
namespace Go.Proofs.Am
open Go Go.RowKit
structure Ed where
 fr:Int
 to:Int
 lv:Int
deriving Inhabited,DecidableEq
structure Gr where
 sz:Int
 ed:List Ed
 gone:List Int
deriving Inhabited,DecidableEq
def rch(g:Gr)(S:List Int):Nat→Int→Bool
 |0,k=>decide (k∈S)&& !decide (k∈g.gone)
 |n+1,k=>rch g S n k||g.ed.any fun e=>decide (e.to=k)&&rch g S n e.fr
def dvl(g:Gr)(S:List Int):Nat→Int→Int
 |0,_=> -1
 |n+1,k=>if 0≤dvl g S n k then dvl g S n k else if rch g S n k=true then(n:Int)else -1
theorem ak1{g:Gr}{S:List Int}{n m:Nat}{k:Int}(h:rch g S n k=true)(hm:n≤m):rch g S m k=true:=by
 induction hm with
 |refl=>exact h
 |step _ ih=>rw[rch,ih,Bool.true_or]
theorem aa1{g:Gr}{S:List Int}{n:Nat}{e:Ed}(he:e∈g.ed)(h:rch g S n e.fr=true):rch g S (n+1) e.to=true:=by
 rw[rch,Bool.or_eq_true]
 exact .inr (List.any_eq_true.2 ⟨e,he,by simp[h]⟩)
theorem ab3(g:Gr)(S:List Int)(k:Int): ∀n:Nat,-1≤dvl g S n k∧dvl g S n k<n
 |0=>by simp[dvl]
 |n+1=>by
  have h:=ab3 g S k n
  rw[dvl]
  split
  ·omega
  ·split<;>omega
theorem np(g:Gr)(S:List Int)(k:Int): ∀n:Nat,(dvl g S n k<0↔∀m,m<n→rch g S m k=false)∧(∀m:Nat,dvl g S n k=m→rch g S m k=true∧m<n∧∀j,j<m→rch g S j k=false)
 |0=>⟨by simp[dvl],fun m h=>by simp[dvl]at h⟩
 |n+1=>by
  obtain⟨h1,h2⟩:=np g S k n
  have hb:=ab3 g S k n
  rw[dvl]
  split
  ·rename_i h0
   refine⟨⟨fun h=>by omega,fun h=> ?_⟩,fun m hm=> ?_⟩
   ·exact absurd (h1.2 fun m hm=>h m (by omega)) (by omega)
   ·obtain⟨a,b,c⟩:=h2 m hm
    exact⟨a,by omega,c⟩
  ·rename_i h0
   have hn:=h1.1 (by omega)
   split
   ·rename_i hr
    refine⟨⟨fun h=>by omega,fun h=> ?_⟩,fun m hm=> ?_⟩
    ·rw[h n (by omega)]at hr;cases hr
    ·have:m=n:=by omega
     subst this
     exact⟨hr,by omega,hn⟩
   ·rename_i hr
    refine⟨⟨fun _ m hm=> ?_,fun _=>by omega⟩,fun m hm=>by omega⟩
    by_cases hmn:m=n
    ·rw[hmn];simpa using hr
    ·exact hn m (by omega)
theorem avw{g:Gr}{S:List Int}{n:Nat}{k:Int}(h:0≤dvl g S n k): ∀m,n≤m→dvl g S m k=dvl g S n k:=fun m hm=>by
 induction hm with
 |refl=>rfl
 |step _ ih=>rw[dvl,if_pos (by omega),ih]
theorem a9e{g:Gr}{S:List Int}{n:Nat}(h: ∀k,rch g S n k=true→0≤dvl g S n k): ∀m,n≤m→∀k,dvl g S m k=dvl g S n k:=by
 have hr: ∀m,n≤m→∀k,rch g S m k=true→rch g S n k=true∧0<n:=fun m hm=>by
  induction hm with
  |refl=>
   intro k hk
   refine⟨hk,?_⟩
   have h1:=h k hk
   have h2:=ab3 g S k n
   omega
  |step hm ih=>
   intro k hk
   rw[rch,Bool.or_eq_true]at hk
   rcases hk with hk|hk
   ·exact ih k hk
   ·obtain⟨e,he,hx⟩:=List.any_eq_true.1 hk
    rw[Bool.and_eq_true]at hx
    obtain⟨h1,h2⟩:=hx
    have h1:=of_decide_eq_true h1
    obtain⟨h3,h0⟩:=ih _ h2
    have h4:=h _ h3
    obtain⟨m',hm'⟩: ∃m':Nat,dvl g S n e.fr=(m':Int):=⟨(dvl g S n e.fr).toNat,by omega⟩
    obtain⟨a,b,_⟩:=(np g S e.fr n).2 m' hm'
    rw[←h1]
    exact⟨ak1 (aa1 he a) (by omega),h0⟩
 intro m hm k
 by_cases h0:0≤dvl g S n k
 ·exact avw h0 m hm
 ·have h1: ∀j,rch g S j k=false:=fun j=>by
   cases hj:rch g S j k with
   |false=>rfl
   |true=>
    have h2:rch g S (max n j) k=true:=ak1 hj (by omega)
    exact absurd (h k (hr _ (by omega) k h2).1) h0
  have h2:=(np g S k m).1.2 fun j _=>h1 j
  have h3:=ab3 g S k m
  have h4:=ab3 g S k n
  omega
def nwl(g:Gr)(S:List Int)(n:Nat)(k:Int):Prop:=rch g S n k=true∧dvl g S n k<0
theorem ayo{g:Gr}{S:List Int}{k:Int}:nwl g S 0 k↔k∈S∧k∉g.gone:=by
 unfold nwl
 simp[rch,dvl]
theorem aay{g:Gr}{S:List Int}{n:Nat}{k:Int}:nwl g S (n+1) k↔dvl g S (n+1) k<0∧∃e∈g.ed,e.to=k∧dvl g S (n+1) e.fr=n:=by
 unfold nwl
 constructor
 ·rintro⟨h1,h2⟩
  refine⟨h2,?_⟩
  have h3:=(np g S k (n+1)).1.1 h2
  rw[rch,h3 n (by omega),Bool.false_or]at h1
  obtain⟨e,he,hx⟩:=List.any_eq_true.1 h1
  rw[Bool.and_eq_true]at hx
  obtain⟨h4,h5⟩:=hx
  have h4:=of_decide_eq_true h4
  refine⟨e,he,h4,?_⟩
  have h6: ¬dvl g S (n+1) e.fr<0:=fun h=>by
   rw[(np g S e.fr (n+1)).1.1 h n (by omega)]at h5;cases h5
  obtain⟨m,hm⟩: ∃m:Nat,dvl g S (n+1) e.fr=(m:Int):=⟨(dvl g S (n+1) e.fr).toNat,by omega⟩
  obtain⟨a,b,_⟩:=(np g S e.fr (n+1)).2 m hm
  by_cases hmn:m=n
  ·rw[hm,hmn]
  ·have:=aa1 he a
   rw[h4,h3 (m+1) (by omega)]at this
   cases this
 ·rintro⟨h1,e,he,h2,h3⟩
  obtain⟨a,_,_⟩:=(np g S e.fr (n+1)).2 n h3
  rw[←h2]at h1 ⊢
  exact⟨aa1 he a,h1⟩
theorem al2{g:Gr}{S:List Int}{n:Nat}{k:Int}(h:nwl g S n k):dvl g S (n+1) k=n:=by
 rw[dvl,if_neg (by have:=h.2;omega),if_pos h.1]
theorem a31{g:Gr}{S:List Int}{n:Nat}{k:Int}(h: ¬nwl g S n k):dvl g S (n+1) k=dvl g S n k:=by
 rw[dvl]
 have hb:=ab3 g S k n
 by_cases h0:0≤dvl g S n k
 ·rw[if_pos h0]
 ·rw[if_neg h0,if_neg (fun hr=>h ⟨hr,by omega⟩)]
  omega
structure OkE(g:Gr):Prop where
 lo:0≤g.sz
 ed: ∀e∈g.ed,(0≤e.fr∧e.fr<g.sz)∧(0≤e.to∧e.to<g.sz)
def wu(g:Gr)(f:Int→Int):List Int:=(List.range g.sz.toNat).map fun k:Nat=>f k
theorem ak7(g:Gr)(f:Int→Int):(wu g f).length=g.sz.toNat:=by simp[wu]
theorem ag7{g:Gr}{f:Int→Int}{k:Int}(h0:0≤k)(h1:k<g.sz):el (wu g f) k.toNat=f k:=by
 have:k.toNat<g.sz.toNat:=by omega
 simp[el,wu,List.getD_eq_getElem?_getD,this,Int.toNat_of_nonneg h0]
theorem ayk{g:Gr}{f:Int→Int}{k v:Int}(h0:0≤k):(wu g f).set k.toNat v=wu g fun x=>if x=k then v else f x:=by
 refine List.ext_getElem (by simp[wu]) fun i h1 h2=> ?_
 rw[List.getElem_set]
 simp only[wu,List.getElem_map,List.getElem_range]
 by_cases hi:k.toNat=i
 ·rw[if_pos hi,if_pos (by omega)]
 ·rw[if_neg hi,if_neg (by omega)]
theorem fw{g:Gr}{f h:Int→Int}(he: ∀k,0≤k→k<g.sz→f k=h k):wu g f=wu g h:=by
 refine List.map_congr_left fun i hi=> ?_
 rw[List.mem_range]at hi
 exact he _ (by omega) (by omega)
def dvL(g:Gr)(S:List Int)(n:Nat):List Int:=wu g (dvl g S n)
def a9a(n:Int)(d:List Int)(e:Ed):List Int:=if el d e.fr.toNat=n∧el d e.to.toNat= -1 then d.set e.to.toNat (n+1)else d
theorem aqt{g:Gr}{S:List Int}{n:Nat}{k:Int}:dvl g S (n+1) k=n↔nwl g S n k:=by
 refine⟨fun h=> ?_,al2⟩
 by_cases hn:nwl g S n k
 ·exact hn
 ·rw[a31 hn]at h
  have:=ab3 g S k n
  omega
def m5(O:Int→List Int)(d:Int)(s:List Int×List Int)(x:Int):List Int×List Int:=if 0≤el s.1 x.toNat then s else(s.1.set x.toNat d,s.2++O x)
theorem avs{g:Gr}{S:List Int}{n:Nat}{O:Int→List Int}: ∀(F:List Int) (P:Int→Bool) (N:List Int),(∀x∈F,(0≤x∧x<g.sz)∧nwl g S n x)→(∀k,P k=true→nwl g S n k)→
  ∃N',F.foldl (m5 O n) (wu g (fun k=>if P k=true then(n:Int)else dvl g S n k),N)=(wu g (fun k=>if(P k||decide (k∈F))=true then(n:Int)else dvl g S n k),N')∧∀y,y∈N'↔y∈N∨∃x∈F,P x=false∧y∈O x
 |[],P,N,_,_=>⟨N,by simp,by simp⟩
 |x::F,P,N,hF,hP=>by
  obtain⟨⟨x0,x1⟩,xn⟩:=hF x (by simp)
  rw[List.foldl_cons]
  have he:el (wu g (fun k=>if P k=true then(n:Int)else dvl g S n k)) x.toNat=if P x=true then(n:Int)else dvl g S n x:=ag7 x0 x1
  by_cases hp:P x=true
  ·have h1:m5 O n (wu g (fun k=>if P k=true then(n:Int)else dvl g S n k),N) x=(wu g (fun k=>if P k=true then(n:Int)else dvl g S n k),N):=by
    unfold m5
    rw[he,if_pos hp,if_pos (by omega)]
   rw[h1]
   obtain⟨N',e1,e2⟩:=avs F P N (fun y hy=>hF y (by simp[hy])) hP
   refine⟨N',?_,fun y=> ?_⟩
   ·rw[e1]
    congr 1
    refine fw fun k _ _=> ?_
    by_cases hk:k=x
    ·subst hk;simp[hp]
    ·simp[hk]
   ·rw[e2]
    simp[hp]
  ·have hp:P x=false:=by simpa using hp
   have h1:m5 O n (wu g (fun k=>if P k=true then(n:Int)else dvl g S n k),N) x=(wu g (fun k=>if(P k||decide (k=x))=true then(n:Int)else dvl g S n k),N++O x):=by
    unfold m5
    rw[he,if_neg (by rw[hp];have:=xn.2;simp;omega),ayk x0]
    congr 1
    refine fw fun k _ _=> ?_
    by_cases hk:k=x
    ·simp[hk]
    ·simp[hk]
   rw[h1]
   obtain⟨N',e1,e2⟩:=avs F (fun k=>P k||decide (k=x)) (N++O x) (fun y hy=>hF y (by simp[hy])) fun k hk=>by
    simp only[Bool.or_eq_true,decide_eq_true_eq]at hk
    rcases hk with hk|rfl
    ·exact hP k hk
    ·exact xn
   refine⟨N',?_,fun y=> ?_⟩
   ·rw[e1]
    congr 1
    refine fw fun k _ _=> ?_
    congr 1
    simp[Bool.or_assoc]
   ·rw[e2]
    simp only[List.mem_append,Bool.or_eq_false_iff,decide_eq_false_iff_not,List.mem_cons,exists_eq_or_imp]
    constructor
    ·rintro((h|h)|⟨z,hz,⟨h1,h2⟩,h3⟩)
     ·exact .inl h
     ·exact .inr (.inl ⟨hp,h⟩)
     ·exact .inr (.inr ⟨z,hz,h1,h3⟩)
    ·rintro(h|⟨h1,h2⟩|⟨z,hz,h1,h3⟩)
     ·exact .inl (.inl h)
     ·exact .inl (.inr h2)
     ·by_cases hzx:z=x
      ·subst hzx;exact .inl (.inr h3)
      ·exact .inr ⟨z,hz,⟨h1,hzx⟩,h3⟩
def bb0(g:Gr)(S:List Int):Nat→List Int
 |0=>dvL g S 1
 |n+1=>g.ed.foldl (a9a n) (bb0 g S n)
def eo(g:Gr)(S:List Int):List Int:=dvL g S (g.sz.toNat+1)
def an3(g:Gr)(s:List Int×List Int):List Int:=s.2.filter fun y=>decide (0≤y∧y≤g.sz - 1)&& !decide (0≤el s.1 y.toNat)
def pfr(g:Gr)(O:Int→List Int)(S:List Int):Nat→List Int×List Int
 |0=>(wu g fun _=> -1,((List.range g.sz.toNat).map fun k:Nat=>(k:Int)).filter fun k=>decide (k∈S)&& !decide (k∈g.gone))
 |n+1=>((((pfr g O S n).2.foldl (m5 O n) ((pfr g O S n).1,[])).1),an3 g ((pfr g O S n).2.foldl (m5 O n) ((pfr g O S n).1,[])))
theorem td{g:Gr}{O:Int→List Int}{S:List Int}(hg:OkE g)(hO: ∀x y,y∈O x↔∃e∈g.ed,e.fr=x∧e.to=y): ∀n,(pfr g O S n).1=dvL g S n∧∀k,k∈(pfr g O S n).2↔(0≤k∧k<g.sz)∧nwl g S n k
 |0=>by
  have hlo:=hg.lo
  refine⟨(fw (f:=fun _=> -1) (h:=dvl g S 0) fun k _ _=>rfl),fun k=> ?_⟩
  show k∈List.filter _ _↔_
  rw[List.mem_filter,ayo,Bool.and_eq_true]
  constructor
  ·rintro⟨h,h1,h2⟩
   obtain⟨j,hj,rfl⟩:=List.mem_map.1 h
   rw[List.mem_range]at hj
   exact⟨⟨by omega,by omega⟩,of_decide_eq_true h1,by simpa using h2⟩
  ·rintro⟨⟨h1,h2⟩,h3,h4⟩
   exact⟨List.mem_map.2 ⟨k.toNat,List.mem_range.2 (by omega),by omega⟩,decide_eq_true h3,by simpa using h4⟩
 |n+1=>by
  obtain⟨h1,h2⟩:=td (S:=S) hg hO n
  obtain⟨N,e1,e2⟩:=avs (g:=g) (S:=S) (n:=n) (O:=O) (pfr g O S n).2 (fun _=>false) [] (fun x hx=>(h2 x).1 hx) (by simp)
  have e0:(wu g fun k=>if(fun _:Int=>false) k=true then(n:Int)else dvl g S n k)=(pfr g O S n).1:=by rw[h1];exact fw fun k _ _=>by simp
  rw[e0]at e1
  have hd:(wu g fun k=>if((fun _:Int=>false) k||decide (k∈(pfr g O S n).2))=true then(n:Int)else dvl g S n k)=dvL g S (n+1):=fw fun k k0 k1=>by
   by_cases hn:nwl g S n k
   ·have hm:=(h2 k).2 ⟨⟨k0,k1⟩,hn⟩
    rw[al2 hn]
    simp[hm]
   ·have hm:k∉(pfr g O S n).2:=fun h=>hn ((h2 k).1 h).2
    rw[a31 hn]
    simp[hm]
  rw[hd]at e1
  have hp:pfr g O S (n+1)=(dvL g S (n+1),an3 g (dvL g S (n+1),N)):=by rw[pfr,e1]
  rw[hp]
  refine⟨rfl,fun k=> ?_⟩
  show k∈List.filter _ N↔_
  rw[List.mem_filter,e2]
  simp only[List.not_mem_nil,false_or,Bool.and_eq_true,decide_eq_true_eq,true_and]
  have hel: ∀k,0≤k→k<g.sz→el (dvL g S (n+1)) k.toNat=dvl g S (n+1) k:=fun k k0 k1=>ag7 k0 k1
  constructor
  ·rintro⟨⟨x,hx,hy⟩,⟨k0,k1⟩,h3⟩
   obtain⟨e,he,rfl,rfl⟩:=(hO _ _).1 hy
   refine⟨⟨k0,by omega⟩,aay.2 ⟨?_,e,he,rfl,aqt.2 ((h2 _).1 hx).2⟩⟩
   rw[hel _ k0 (by omega)]at h3
   simp at h3
   omega
  ·rintro⟨⟨k0,k1⟩,hn⟩
   obtain⟨h3,e,he,h4,h5⟩:=aay.1 hn
   obtain⟨⟨f0,f1⟩,_⟩:=hg.ed e he
   refine⟨⟨e.fr,(h2 _).2 ⟨⟨f0,f1⟩,aqt.1 h5⟩,(hO _ _).2 ⟨e,he,rfl,h4⟩⟩,⟨k0,by omega⟩,?_⟩
   rw[hel _ k0 k1]
   simp
   omega
theorem akt{g:Gr}{S:List Int}(hg:OkE g)(hS: ∀x∈S,0≤x∧x<g.sz): ∀(n:Nat) (k:Int),rch g S n k=true→0≤k∧k<g.sz
 |0,k,h=>by
  simp only[rch,Bool.and_eq_true,decide_eq_true_eq]at h
  exact hS k h.1
 |n+1,k,h=>by
  rw[rch,Bool.or_eq_true]at h
  rcases h with h|h
  ·exact akt hg hS n k h
  ·obtain⟨e,he,hx⟩:=List.any_eq_true.1 h
   simp only[Bool.and_eq_true,decide_eq_true_eq]at hx
   rw[←hx.1]
   exact(hg.ed e he).2
theorem acf{l m:List Int}(hl:l.Nodup)(h: ∀x∈l,x∈m):l.length≤m.length:=by
 induction l generalizing m with
 |nil=>simp
 |cons a r ih=>
  obtain⟨h1,h2⟩:=List.nodup_cons.1 hl
  have ha:=h a (by simp)
  have:=ih (m:=m.erase a) h2 fun x hx=>(List.mem_erase_of_ne (fun e:x=a=>h1 (by rw[←e];exact hx))).2 (h x (by simp[hx]))
  rw[List.length_erase_of_mem ha]at this
  have:=List.length_pos_of_mem ha
  simp only[List.length_cons]
  omega
theorem bax{g:Gr}{S:List Int}(hg:OkE g)(hS: ∀x∈S,0≤x∧x<g.sz){n:Nat}{k:Int}(h:nwl g S n k):n<g.sz.toNat:=by
 have key: ∀(n:Nat) (k:Int),nwl g S n k→∃l:List Int,l.length=n+1∧l.Nodup∧(∀x∈l,0≤x∧x<g.sz)∧∀x∈l,0≤dvl g S (n+1) x:=fun n=>by
  induction n with
  |zero=>
   intro k h
   exact⟨[k],rfl,by simp,fun x hx=>by rw[List.mem_singleton]at hx;rw[hx];exact akt hg hS _ _ h.1,fun x hx=>by rw[List.mem_singleton]at hx;rw[hx,al2 h];simp⟩
  |succ n ih=>
   intro k h
   obtain⟨h1,e,he,h2,h3⟩:=aay.1 h
   obtain⟨l,l1,l2,l3,l4⟩:=ih e.fr (aqt.1 h3)
   refine⟨k::l,by simp[l1],List.nodup_cons.2 ⟨fun hk=> ?_,l2⟩,fun x hx=> ?_,fun x hx=> ?_⟩
   ·have:=l4 k hk
    omega
   ·rcases List.mem_cons.1 hx with rfl|hx
    ·exact akt hg hS _ _ h.1
    ·exact l3 x hx
   ·rcases List.mem_cons.1 hx with rfl|hx
    ·rw[al2 h];omega
    ·rw[avw (l4 x hx) _ (by omega)]
     exact l4 x hx
 obtain⟨l,l1,l2,l3,_⟩:=key n k h
 have:=acf (m:=(List.range g.sz.toNat).map fun k:Nat=>(k:Int)) l2 fun x hx=>by
  have:=l3 x hx
  exact List.mem_map.2 ⟨x.toNat,List.mem_range.2 (by omega),by omega⟩
 rw[List.length_map,List.length_range]at this
 omega
theorem bao{g:Gr}{O:Int→List Int}{S:List Int}(hg:OkE g)(hO: ∀x y,y∈O x↔∃e∈g.ed,e.fr=x∧e.to=y)(hS: ∀x∈S,0≤x∧x<g.sz){n:Nat}(h:(pfr g O S n).2≠[]):n<g.sz.toNat:=by
 obtain⟨k,hk⟩:=List.exists_mem_of_ne_nil _ h
 exact bax hg hS (((td (S:=S) hg hO n).2 k).1 hk).2
theorem a8s{g:Gr}{O:Int→List Int}{S:List Int}(hg:OkE g)(hO: ∀x y,y∈O x↔∃e∈g.ed,e.fr=x∧e.to=y)(hS: ∀x∈S,0≤x∧x<g.sz){n:Nat}(hn:n≤g.sz.toNat+1)(h:(pfr g O S n).2=[]):(pfr g O S n).1=eo g S:=by
 obtain⟨h1,h2⟩:=td (S:=S) hg hO n
 rw[h1]
 refine fw fun k _ _=>(a9e (fun k hk=> ?_) _ hn k).symm
 by_cases hd:0≤dvl g S n k
 ·exact hd
 ·have:=(h2 k).2 ⟨akt hg hS _ _ hk,hk,by omega⟩
  rw[h]at this
  simp at this
def s8(ta:List Int)(d:Int):Int:=if d<0 then 0 else if d<(ta.length:Int)then el ta d.toNat else 1
def sj(d:List Int)(x:Int)(b:Int)(k:Int):Int:=if k≠x∧0≤el d k.toNat∧(b<0∨el d k.toNat+2<b)then el d k.toNat+2 else b
def jb(d K:List Int)(x:Int):Int:=K.foldl (sj d x) (el d x.toNat)
def mb(d gone ta K:List Int)(x:Int):Int:=if 0≤jb d K x∧x∉gone then s8 ta (jb d K x) - 1 else 0
def q9(d gone ta K:List Int):Int:=(K.map (mb d gone ta K)).sum
theorem abd{d:List Int}{x:Int}: ∀(K:List Int) (b:Int),(K.foldl (sj d x) b<0↔b<0∧∀k∈K,k≠x→el d k.toNat<0)∧∀u:Int,0≤u→((0≤K.foldl (sj d x) b∧K.foldl (sj d x) b≤u)↔(0≤b∧b≤u)∨∃k∈K,k≠x∧0≤el d k.toNat∧el d k.toNat+2≤u)
 |[],b=>⟨by simp,fun u _=>by simp⟩
 |k::K,b=>by
  rw[List.foldl_cons]
  obtain⟨h1,h2⟩:=abd (d:=d) (x:=x) K (sj d x b k)
  constructor
  ·rw[h1]
   unfold sj
   constructor
   ·rintro⟨a,c⟩
    split at a
    ·omega
    ·rename_i hn
     refine⟨a,fun y hy hyx=> ?_⟩
     rcases List.mem_cons.1 hy with rfl|hy
     ·by_cases h0:0≤el d y.toNat
      ·exact absurd ⟨hyx,h0,.inl a⟩ hn
      ·omega
     ·exact c y hy hyx
   ·rintro⟨a,c⟩
    refine⟨?_,fun y hy hyx=>c y (by simp[hy]) hyx⟩
    rw[if_neg fun h=>by have:=c k (by simp) h.1;omega]
    exact a
  ·intro u hu
   rw[h2 u hu]
   unfold sj
   constructor
   ·rintro(⟨a,c⟩|⟨y,hy,r⟩)
    ·split at a
     ·rename_i hc
      rw[if_pos hc]at c
      exact .inr ⟨k,by simp,hc.1,hc.2.1,c⟩
     ·rename_i hc
      rw[if_neg hc]at c
      exact .inl ⟨a,c⟩
    ·exact .inr ⟨y,by simp[hy],r⟩
   ·rintro(⟨a,c⟩|⟨y,hy,r1,r2,r3⟩)
    ·left
     split
     ·omega
     ·exact⟨a,c⟩
    ·rcases List.mem_cons.1 hy with rfl|hy
     ·left
      split
      ·exact⟨by omega,r3⟩
      ·rename_i hc
       by_cases h0:b<0
       ·exact absurd ⟨r1,r2,.inl h0⟩ hc
       ·by_cases h1:el d y.toNat+2<b
        ·exact absurd ⟨r1,r2,.inr h1⟩ hc
        ·omega
     ·exact .inr ⟨y,hy,r1,r2,r3⟩
theorem ag9{d K M:List Int}{x:Int}(hs: ∀k∈K,k∈M)(h:0≤jb d K x):0≤jb d M x∧jb d M x≤jb d K x:=by
 obtain⟨_,h2⟩:=abd (d:=d) (x:=x) K (el d x.toNat)
 obtain⟨_,h4⟩:=abd (d:=d) (x:=x) M (el d x.toNat)
 refine(h4 _ h).2 ?_
 rcases(h2 _ h).1 ⟨h,Int.le_refl _⟩with h|⟨k,hk,r⟩
 ·exact .inl h
 ·exact .inr ⟨k,hs k hk,r⟩
structure OkTa(ta:List Int):Prop where
 ne:0<ta.length
 lo: ∀c∈ta,1≤c
 dec: ∀i j,i≤j→j<ta.length→el ta j≤el ta i
theorem atk{l:List Int}{i:Nat}(h:i<l.length):el l i∈l:=by
 rw[el,List.getD_eq_getElem?_getD,List.getElem?_eq_getElem h]
 exact List.getElem_mem h
theorem axd{ta:List Int}(ht:OkTa ta){u:Int}(hu:0≤u):1≤s8 ta u:=by
 unfold s8
 rw[if_neg (by omega)]
 split
 ·exact ht.lo _ (atk (by omega))
 ·omega
theorem akm{ta:List Int}(ht:OkTa ta){u v:Int}(hu:0≤u)(h:u≤v):s8 ta v≤s8 ta u:=by
 by_cases hv:v<(ta.length:Int)
 ·unfold s8
  rw[if_neg (by omega),if_pos hv,if_neg (by omega),if_pos (by omega)]
  exact ht.dec _ _ (by omega) (by omega)
 ·have h1:s8 ta v=1:=by unfold s8;rw[if_neg (by omega),if_neg hv]
  rw[h1]
  exact axd ht hu
theorem a5l{ta:List Int}(ht:OkTa ta){u:Int}(hu:0≤u):s8 ta u≤el ta 0:=by
 have h:=akm ht (Int.le_refl 0) hu
 have h0:s8 ta 0=el ta 0:=by
  have:=ht.ne
  unfold s8
  rw[if_neg (by omega),if_pos (by omega)]
  rfl
 omega
theorem aax{d gone ta K:List Int}(ht:OkTa ta){x:Int}:0≤mb d gone ta K x:=by
 unfold mb
 split
 ·rename_i h
  have:=axd ht h.1
  omega
 ·omega
theorem a0v{d gone ta K:List Int}(ht:OkTa ta){x:Int}:mb d gone ta K x≤el ta 0 - 1:=by
 unfold mb
 split
 ·rename_i h
  have:=a5l ht h.1
  omega
 ·have:=ht.lo _ (atk ht.ne)
  omega
theorem aoa{d gone ta K M:List Int}(ht:OkTa ta)(hs: ∀k∈K,k∈M){x:Int}:mb d gone ta K x≤mb d gone ta M x:=by
 by_cases h:0≤jb d K x∧x∉gone
 ·obtain⟨a,b⟩:=ag9 hs h.1
  unfold mb
  rw[if_pos h,if_pos ⟨a,h.2⟩]
  have:=akm ht a b
  omega
 ·have h0:mb d gone ta K x=0:=if_neg h
  rw[h0]
  exact aax ht
theorem auv{K:List Int}: ∀{M:List Int} {f h:Int→Int},K.Nodup→(∀k∈K,k∈M)→(∀k∈K,f k≤h k)→(∀k∈M,0≤h k)→(K.map f).sum≤(M.map h).sum:=by
 induction K with
 |nil=>
  intro M f h _ _ _ h0
  induction M with
  |nil=>simp
  |cons m M ih=>
   have:=ih (by simp) (fun k hk=>h0 k (by simp[hk]))
   have:=h0 m (by simp)
   simp only[List.map_cons,List.sum_cons,List.map_nil,List.sum_nil]at*
   omega
 |cons a r ih=>
  intro M f h hl hs hf h0
  obtain⟨h1,h2⟩:=List.nodup_cons.1 hl
  have ha:=hs a (by simp)
  have:=ih (M:=M.erase a) (f:=f) (h:=h) h2 (fun x hx=>(List.mem_erase_of_ne (fun e:x=a=>h1 (by rw[←e];exact hx))).2 (hs x (by simp[hx]))) (fun k hk=>hf k (by simp[hk])) (fun k hk=>h0 k (List.mem_of_mem_erase hk))
  have hp:(M.map h).sum=h a+((M.erase a).map h).sum:=by
   have hq:M.Perm (a::M.erase a):=List.perm_cons_erase ha
   have hm:=(hq.map h)
   have hsum: ∀{l l':List Int},l.Perm l'→l.sum=l'.sum:=fun hp=>by
    induction hp with
    |nil=>rfl
    |cons x _ ih=>simp[ih]
    |swap x y l=>simp;omega
    |trans _ _ i1 i2=>exact i1.trans i2
   rw[hsum hm]
   simp
  have:=hf a (by simp)
  rw[hp,List.map_cons,List.sum_cons]
  omega
theorem azc{d gone ta K:List Int}(ht:OkTa ta):0≤q9 d gone ta K:=by
 have:=auv (K:=[]) (M:=K) (f:=mb d gone ta K) (h:=mb d gone ta K) (by simp) (by simp) (by simp) fun k _=>aax ht
 simpa [q9] using this
theorem ap3{d gone ta K M:List Int}(ht:OkTa ta)(hn:K.Nodup)(hs: ∀k∈K,k∈M):q9 d gone ta K≤q9 d gone ta M:=
 auv hn hs (fun _ _=>aoa ht hs) fun _ _=>aax ht
theorem bal{M:List Int}{f:Int→Int}{c:Int}(h: ∀k,f k≤c):(M.map f).sum≤M.length*c:=by
 induction M with
 |nil=>simp
 |cons m M ih=>
  have:=h m
  simp only[List.map_cons,List.sum_cons,List.length_cons]
  have e:((M.length+1:Nat):Int)*c=M.length*c+c:=by
   rw[Int.natCast_add,Int.add_mul]
   simp
  rw[e]
  omega
theorem ayr{d gone ta K:List Int}(ht:OkTa ta):q9 d gone ta K≤K.length*(el ta 0 - 1):=bal fun _=>a0v ht
end Go.Proofs.Am
