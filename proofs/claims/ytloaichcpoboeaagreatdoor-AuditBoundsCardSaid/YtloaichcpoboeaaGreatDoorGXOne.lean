/- GXOne. -/
import Derived.Test.YtloaichcpoboeaaGreatDoorGWTwo
import Derived.Test.YtloaichcpoboeaaGreatDoorGAOne
import Derived.Test.YtloaichcpoboeaaGreatDoorGWOne
import Derived.Test.YtloaichcpoboeaaGreatDoorGWFour
import Derived.Test.YtloaichcpoboeaaGreatDoorAmQT
set_option maxHeartbeats 1000000
set_option maxRecDepth 100000
set_option linter.unusedSimpArgs false
set_option linter.unusedVariables false
namespace Go.Proofs.Am
open Go Go.RowKit
open Go.Proofs
def auh(g:Gr)(e:Ed):Gr:=if e.fr=e.to\/e.fr∈g.gone\/e.to∈g.gone then g else if m6 g.ed e.fr e.to=true then g else zb g e
theorem a2f(g:Gr)(e:Ed)(h1:g.ed.length<=900)(h2:big g.gone.length):Den Tryz.prog 38 [.agg (gr g),.int .i64 e.fr,.int .i64 e.to,.int .i64 e.lv] [] (.agg (gr (auh g e))) [] []:=by
 refine aa Tryz.func38 rfl Tryz.call38 Tryz.ntmps38 Tryz.results38 (by simp) (by kernel_rfl) [] (exts:=[]) rfl rfl ?_;have c3:=beo g.gone e.fr h2;have c4:=beo g.gone e.to h2;have hR:auh g e=if e.fr=e.to\/e.fr∈g.gone\/e.to∈g.gone then g else if m6 g.ed e.fr e.to=true then g else zb g e:=rfl
 by_cases q1:e.fr=e.to
 ·rw[if_pos (.inl q1)]at hR;rw[hR];simp only[go_sem,q1]
 by_cases q2:e.fr∈g.gone
 ·rw[if_pos (.inr (.inl q2))]at hR;rw[hR];simp only[go_sem,q1];refine call c3 [] ?_;simp only[go_sem,q2]
 by_cases q3:e.to∈g.gone
 ·rw[if_pos (.inr (.inr q3))]at hR;rw[hR];simp only[go_sem,q1];refine call c3 [] ?_;simp only[go_sem,q2];refine call c4 [] ?_;simp only[go_sem,q3]
 rw[if_neg (by simp[q1,q2,q3])]at hR;have hle:=zf g.ed e.fr e.to;have hb:=fun i=>ph (l:=g.ed) (f:=e.fr) (t:=e.to) (i:=i);have hst:=xz (l:=g.ed) (f:=e.fr) (t:=e.to);have hI:aez g.ed e=g.ed.take (mw g.ed e.fr e.to)++e::g.ed.drop (mw g.ed e.fr e.to):=rfl;unfold m6 at hR;unfold zb at hR;rw[hI]at hR;generalize mw g.ed e.fr e.to=k at*;simp only[go_sem,q1];refine call c3 [] ?_;simp only[go_sem,q2];refine call c4 [] ?_;simp only[go_sem,q3];refine loop Tryz.mixed 0 (fun i:Nat=>[(1,.int .i64 e.fr),(2,.int .i64 e.to),(3,.int .i64 e.lv),(4,.ptr 4 0),(8,.ptr 8 0),(9,.int .i64 i)]) (fun _=>[(4,.cells (gr g)),(8,.cells [.int .i64 0,.nils,.nils])]) (fun i=>i<=k) (fun i=>k - i) (by kernel_rfl) (Nat.zero_le _) ?_ ?_
 ·simp only[go_sem]
 intro i hi;by_cases hk:i<k
 ·have g0:i<g.ed.length:=by omega
  have g1:(i:Int)<(g.ed.length:Int):=by omega
  have g2:=of_decide_eq_true (hb i hk);have w1:IntKind.i64.wrap ((i:Int)+1)=((i+1:Nat):Int):=by rw[ae]<;>omega
  simp only at g2;by_cases a1:(el g.ed i).fr<e.fr
  ·simp only[go_sem,g0,g1,a1];exact⟨i+1,⟨by omega,by omega⟩,w1⟩
  ·have a2:(el g.ed i).fr=e.fr/\(el g.ed i).to<e.to:=by omega
   simp only[go_sem,g0,g1,a1,a2.1,a2.2,Int.lt_irrefl];exact⟨i+1,⟨by omega,by omega⟩,w1⟩
 have:i=k:=by omega
 subst this;by_cases g0:i<g.ed.length
 ·have g1:(i:Int)<(g.ed.length:Int):=by omega
  have g2:=of_decide_eq_false (hst g0);simp only at g2;have a1: ¬(el g.ed i).fr<e.fr:=by omega
  by_cases a2:(el g.ed i).fr=e.fr
  ·have a3: ¬(el g.ed i).to<e.to:=by omega
   by_cases a4:(el g.ed i).to=e.to
   ·rw[decide_eq_true ⟨g0,a2,a4⟩,if_pos rfl]at hR;rw[hR];simp only[go_sem,g0,g1,a1,a2,a3,a4,Int.lt_irrefl]
   ·rw[decide_eq_false (fun h=>a4 h.2.2),if_neg (by simp)]at hR;rw[hR];simp only[go_sem,g0,g1,a1,a2,a3,a4,Int.lt_irrefl];refine⟨⟨by omega,Nat.le_refl _⟩,by rw[List.length_take];omega,by rw[List.length_take];omega,⟨by omega,Nat.le_refl _,Nat.le_refl _⟩,by rw[List.length_take,List.length_drop,List.length_take];omega,ag (by kernel_rfl),?_⟩;rw[List.take_length,List.map_append,List.map_cons,List.append_assoc];rfl
  ·rw[decide_eq_false (fun h=>a2 h.2.1),if_neg (by simp)]at hR;rw[hR];simp only[go_sem,g0,g1,a1,a2];refine⟨⟨by omega,Nat.le_refl _⟩,by rw[List.length_take];omega,by rw[List.length_take];omega,⟨by omega,Nat.le_refl _,Nat.le_refl _⟩,by rw[List.length_take,List.length_drop,List.length_take];omega,ag (by kernel_rfl),?_⟩;rw[List.take_length,List.map_append,List.map_cons,List.append_assoc];rfl
 ·have g1: ¬(i:Int)<(g.ed.length:Int):=by omega
  rw[decide_eq_false (fun h=>g0 h.1),if_neg (by simp)]at hR;rw[hR];simp only[go_sem,g1];refine⟨⟨by omega,Nat.le_refl _⟩,by rw[List.length_take];omega,by rw[List.length_take];omega,⟨by omega,Nat.le_refl _,Nat.le_refl _⟩,by rw[List.length_take,List.length_drop,List.length_take];omega,ag (by kernel_rfl),?_⟩;rw[List.take_length,List.map_append,List.map_cons,List.append_assoc];rfl
structure DI(h g:Gr)(N:Int)(K:List Int)(k:Nat):Prop where
 ok:bh h=true
 sz:h.sz=N
 gone:h.gone=g.gone
 len:h.ed.length<=k
 far: ∀e∈h.ed,(e.fr<g.sz->e.to<g.sz->e∈g.ed)/\(e.fr<g.sz->¬e.to<g.sz->e.fr∈K)
theorem anj{h g:Gr}{N:Int}{K:List Int}{k:Nat}(hh:DI h g N K k)(e:Ed)(h1:0<=e.fr/\e.fr<N)(h2:0<=e.to/\e.to<N)(h3:1<=e.lv/\e.lv<=3)(hx:g.sz<=e.fr\/e.fr∈K/\g.sz<=e.to)(hk:k<500):DI (auh h e) g N K (k+1):=by
 unfold auh;have hl:=hh.len;split
 ·exact⟨hh.ok,hh.sz,hh.gone,by omega,hh.far⟩
 split
 ·exact⟨hh.ok,hh.sz,hh.gone,by omega,hh.far⟩
 rename_i a b
 have hw:vc h e=0:=by
  have hz:=hh.sz;unfold vc;rw[if_neg (by simp[hh.ok]),if_neg,if_neg (by omega),if_neg b,if_neg (by omega)];rintro(q|q|q|q|q|q|q)
  ·omega
  ·omega
  ·omega
  ·omega
  ·exact a (.inl q)
  ·exact a (.inr (.inl q))
  ·exact a (.inr (.inr q))
 refine⟨aoz hh.ok hw,hh.sz,hh.gone,?_,fun x hm=> ?_⟩
 ·show(aez h.ed e).length<=_;rw[wx];omega
 ·rcases an5.1 hm with rfl|hm
  ·refine⟨fun q1 q2=> ?_,fun q1 q2=> ?_⟩
   ·omega
   ·rcases hx with hx|hx
    ·omega
    ·exact hx.1
  ·exact hh.far x hm
def af7(G A:Int):List Int:=(List.range A.toNat).map fun i:Nat=>G+i
theorem aqr(G A:Int):(af7 G A).length=A.toNat:=by simp[af7]
theorem bcs{G A:Int}{i:Int}(h0:0<=i)(h:i<A):el (af7 G A) i.toNat=G+i:=by
 have h1:i.toNat<A.toNat:=by omega
 simp only[el,af7,aw,List.getElem?_map,List.getElem?_range h1,Option.map_some,Option.getD_some];omega
theorem a41{G A x:Int}:x∈af7 G A↔G<=x/\x<G+A:=by
 unfold af7;rw[List.mem_map];constructor
 ·rintro⟨i,hi,rfl⟩;have:=List.mem_range.1 hi;omega
 ·rintro⟨h1,h2⟩;exact⟨(x - G).toNat,List.mem_range.2 (by omega),by omega⟩
def mi(l K:List Int)(G A:Int)(s:Gr×Nat):Gr×Nat:=
 if 0<K.length then
  if ai l s.2 2=1 then(auh s.1 ⟨el K (ai l (dgo l s.2 1) K.length).toNat,G+ai l (dgo l s.2 2) A,1+ai l (dgo l s.2 3) 3⟩,dgo l s.2 4)
  else(auh s.1 ⟨G+ai l (dgo l s.2 1) A,ai l (dgo l s.2 2) s.1.sz,1+ai l (dgo l s.2 3) 3⟩,dgo l s.2 4)
 else(auh s.1 ⟨G+ai l s.2 A,ai l (dgo l s.2 1) s.1.sz,1+ai l (dgo l s.2 2) 3⟩,dgo l s.2 3)
def akg(l K:List Int)(G A:Int):Nat->Gr×Nat->Gr×Nat
 |0,s=>s
 |n+1,s=>akg l K G A n (mi l K G A s)
def dcG(l K:List Int)(g:Gr)(A:Int)(p:Nat):Gr×Nat:=akg l K g.sz A (ai l p 10).toNat (⟨g.sz+A,g.ed,g.gone⟩,dgo l p 1)
theorem abf{l K:List Int}{G A:Int}{s:Gr×Nat}(h:s.2<=l.length):(mi l K G A s).2<=l.length:=by
 unfold mi;split
 ·split<;>exact dm h _
 ·exact dm h _
theorem agl{l K:List Int}{g:Gr}{A:Int}{s:Gr×Nat}{k:Nat}(h:DI s.1 g (g.sz+A) K k)(hA:0<A)(hz:0<=g.sz)(hK: ∀x∈K,0<=x/\x<g.sz)(hk:k<500):DI (mi l K g.sz A s).1 g (g.sz+A) K (k+1):=by
 have hs:=h.sz;have a1:=fun p=>bi (l:=l) (p:=p) (n:=A) hA;have a2:=fun p=>bi (l:=l) (p:=p) (n:=s.1.sz) (by omega);have a3:=fun p=>bi (l:=l) (p:=p) (n:=3) (by omega);unfold mi;split
 ·rename_i hl;have a4:=fun p=>bi (l:=l) (p:=p) (n:=(K.length:Int)) (by omega);split
  ·have m1:=a1 (dgo l s.2 2);have m3:=a3 (dgo l s.2 3);have m4:=a4 (dgo l s.2 1);have hm:el K (ai l (dgo l s.2 1) K.length).toNat∈K:=dl (by omega);have hr:=hK _ hm;exact anj h _ ⟨hr.1,by show el K (ai l (dgo l s.2 1) K.length).toNat<_;omega⟩ ⟨by show 0<=g.sz+ai l (dgo l s.2 2) A;omega,by show g.sz+ai l (dgo l s.2 2) A<_;omega⟩ ⟨by show 1<=1+ai l (dgo l s.2 3) 3;omega,by show 1+ai l (dgo l s.2 3) 3<=3;omega⟩ (.inr ⟨hm,by show g.sz<=g.sz+ai l (dgo l s.2 2) A;omega⟩) hk
  ·have m1:=a1 (dgo l s.2 1);have m2:=a2 (dgo l s.2 2);have m3:=a3 (dgo l s.2 3);exact anj h _ ⟨by show 0<=g.sz+ai l (dgo l s.2 1) A;omega,by show g.sz+ai l (dgo l s.2 1) A<_;omega⟩ ⟨m2.1,by show ai l (dgo l s.2 2) s.1.sz<_;omega⟩ ⟨by show 1<=1+ai l (dgo l s.2 3) 3;omega,by show 1+ai l (dgo l s.2 3) 3<=3;omega⟩ (.inl (by show g.sz<=g.sz+ai l (dgo l s.2 1) A;omega)) hk
 ·have m1:=a1 s.2;have m2:=a2 (dgo l s.2 1);have m3:=a3 (dgo l s.2 2);exact anj h _ ⟨by show 0<=g.sz+ai l s.2 A;omega,by show g.sz+ai l s.2 A<_;omega⟩ ⟨m2.1,by show ai l (dgo l s.2 1) s.1.sz<_;omega⟩ ⟨by show 1<=1+ai l (dgo l s.2 2) 3;omega,by show 1+ai l (dgo l s.2 2) 3<=3;omega⟩ (.inl (by show g.sz<=g.sz+ai l s.2 A;omega)) hk
theorem aq8{l K:List Int}{g:Gr}{A:Int}(hA:0<A)(hz:0<=g.sz)(hK: ∀x∈K,0<=x/\x<g.sz): ∀(n:Nat) (s:Gr×Nat) (k:Nat),DI s.1 g (g.sz+A) K k->k+n<500->s.2<=l.length->DI (akg l K g.sz A n s).1 g (g.sz+A) K (k+n)/\(akg l K g.sz A n s).2<=l.length
 |0,s,k,h,_,hp=>⟨h,hp⟩
 |n+1,s,k,h,hk,hp=>by
  have:=aq8 hA hz hK n _ (k+1) (agl (l:=l) h hA hz hK (by omega)) (by omega) (abf hp);rw[show k+1+n=k+(n+1) by omega]at this;exact this
theorem ax6{g:Gr}{A:Int}{K:List Int}(hg:bh g=true)(hA:0<=A)(hz:g.sz+A<=64):DI ⟨g.sz+A,g.ed,g.gone⟩ g (g.sz+A) K g.ed.length:=by
 obtain⟨⟨a1,a2,a3⟩,b,c,d⟩:=ey.1 hg;refine⟨ey.2 ⟨⟨by show 0<=g.sz+A;omega,hz,a3⟩,?_,fun e he=> ?_,d⟩,rfl,rfl,Nat.le_refl _,fun e he=>⟨fun _ _=>he,fun _ h=> ?_⟩⟩
 ·obtain⟨q1,q2⟩:=c7.1 b;exact c7.2 ⟨fun x hx=>by have:=q1 x hx;show 0<=x/\x<g.sz+A;omega,q2⟩
 ·obtain⟨q1,q2,q3,q4,q6,q7⟩:=c e he;exact⟨⟨q1.1,by show e.fr<g.sz+A;omega⟩,⟨q2.1,by show e.to<g.sz+A;omega⟩,q3,q4,q6,q7⟩
 ·obtain⟨q1,q2,_⟩:=c e he;exact absurd q2.2 h
theorem bhp{l K:List Int}{g:Gr}{A:Int}{p:Nat}(hg:bh g=true)(hA:0<A)(hz:g.sz+A<=64)(hK: ∀x∈K,0<=x/\x<g.sz)(hp:p<=l.length)(hl:g.ed.length<=400):DI (dcG l K g A p).1 g (g.sz+A) K (g.ed.length+10)/\(dcG l K g A p).2<=l.length:=by
 have h0:0<=g.sz:=(ig.1 hg).1.1;have hn:=bi (l:=l) (p:=p) (n:=10) (by omega);obtain⟨a,b⟩:=aq8 (l:=l) hA h0 hK (ai l p 10).toNat (⟨g.sz+A,g.ed,g.gone⟩,dgo l p 1) g.ed.length (ax6 hg (by omega) hz) (by omega) (dm hp 1);exact⟨⟨a.ok,a.sz,a.gone,Nat.le_trans a.len (by omega),a.far⟩,b⟩
def acr(a:Ac):List PV:=[.int .i64 a.fr,.int .i64 a.to,.int .i64 a.cap]
theorem bg7(a:Ac):acr a=[.int .i64 a.fr,.int .i64 a.to,.int .i64 a.cap]:=(rfl)
def ntw(n:Nt):List PV:=[.int .i64 n.nd,.vs (n.ac.map acr)]
theorem iv(n:Nt):ntw n=[.int .i64 n.nd,.vs (n.ac.map acr)]:=(rfl)
attribute [go_sem] bg7 iv
structure OkNw(n:Nt):Prop where
 nd:2<=n.nd/\n.nd<=130
 ln:n.ac.length<=1200
 ac: ∀a∈n.ac,(0<=a.fr/\a.fr<n.nd)/\(0<=a.to/\a.to<n.nd)/\a.fr≠a.to/\a.to≠0/\a.fr≠1/\0<=a.cap/\a.cap<=1048576
theorem OkNw.nt{n:Nt}(h:OkNw n):OkNt n:=⟨h.nd.1,fun a ha=>by
 obtain⟨q1,q2,q3,q4,q5,q6⟩:=h.ac a ha;exact⟨q1,q2,q4,q6⟩⟩
def asn(a:Ac)(f:Int)(s:List Int):List Int:=s.set a.fr.toNat (el s a.fr.toNat - f)
def ayt(a:Ac)(f:Int)(s:List Int):List Int:=s.set a.to.toNat (el s a.to.toNat+f)
def acv(n:Nt)(f:List Int):Nat->List Int
 |0=>List.replicate n.nd.toNat 0
 |i+1=>ayt (el n.ac i) (el f i) (asn (el n.ac i) (el f i) (acv n f i))
theorem aei(n:Nt)(f:List Int): ∀i,(acv n f i).length=n.nd.toNat
 |0=>by simp[acv]
 |i+1=>by rw[acv,ayt,asn,List.length_set,List.length_set,aei n f i]
def zL(n:Nt)(f:List Int)(i:Nat):List (Ac×Int):=(List.range i).map fun j=>(el n.ac j,el f j)
theorem akp(n:Nt)(f:List Int)(i:Nat):zL n f (i+1)=zL n f i++[(el n.ac i,el f i)]:=by
 unfold zL;rw[List.range_succ,List.map_append];rfl
theorem bik(n:Nt)(f:List Int):(zL n f n.ac.length).map Prod.fst=n.ac:=by
 unfold zL;rw[List.map_map];refine List.ext_getElem (by simp) fun i h1 h2=> ?_;simp[el,aw,h2]
theorem aqf(z:List (Ac×Int))(p:Ac×Int)(v:Int):abo (z++[p]) v=abo z v+((if p.1.to=v then p.2 else 0) - (if p.1.fr=v then p.2 else 0)):=by
 unfold abo;rw[List.map_append,List.sum_append];simp
theorem ayp{s:List Int}{k:Int}{v:Nat}{x:Int}(h0:0<=k)(hk:k<s.length):el (s.set k.toNat x) v=if k=v then x else el s v:=by
 split
 ·rename_i h;subst h;exact af0 (by omega)
 ·rename_i h;exact sj (by omega)
theorem amq{n:Nt}{f:List Int}(h:OkNw n): ∀i,i<=n.ac.length->∀v:Nat,v<n.nd.toNat->el (acv n f i) v=abo (zL n f i) v
 |0,_,v,hv=>by simp[acv,zL,abo,el,aw,hv]
 |i+1,hi,v,hv=>by
  have ih:=amq (f:=f) h i (by omega);have hl:=aei n f i;obtain⟨q1,q2,q3,_⟩:=h.ac _ (dl (show i<n.ac.length by omega));rw[acv,akp,aqf,ayt,ayp q2.1 (by rw[asn,List.length_set];omega),asn];simp only;have e1:el ((acv n f i).set (el n.ac i).fr.toNat (el (acv n f i) (el n.ac i).fr.toNat - el f i)) (el n.ac i).to.toNat=el (acv n f i) (el n.ac i).to.toNat:=sj (by omega);rw[e1];by_cases c1:(el n.ac i).to=v
  ·have c2: ¬(el n.ac i).fr=v:=by omega
   rw[if_pos c1,if_pos c1,if_neg c2,show(el n.ac i).to.toNat=v by omega,ih v hv];omega
  ·rw[if_neg c1,if_neg c1,ayp q1.1 (by omega)];by_cases c2:(el n.ac i).fr=v
   ·rw[if_pos c2,if_pos c2,show(el n.ac i).fr.toNat=v by omega,ih v hv];omega
   ·rw[if_neg c2,if_neg c2,ih v hv];omega
theorem bg9{n:Nt}{f:List Int}(h:OkNw n)(hf:okF n f): ∀i,i<=n.ac.length->∀v:Int,-(1048576*(i:Int))<=abo (zL n f i) v/\abo (zL n f i) v<=1048576*(i:Int)
 |0,_,v=>by simp[zL,abo]
 |i+1,hi,v=>by
  have ih:=bg9 h hf i (by omega) v;obtain⟨q1,q2,q3,_,_,q6⟩:=h.ac _ (dl (show i<n.ac.length by omega));have hb:=hf.2 i (by omega);rw[akp,aqf];simp only;split<;>split<;>omega
def ab0(n:Nt)(f:List Int):Bool:=decide (∀v:Nat,v<n.nd.toNat->2<=v->el (acv n f n.ac.length) v=0)
def arp(n:Nt)(f:List Int):Nat->Int
 |0=>0
 |i+1=>arp n f i+if(el n.ac i).fr=0 then el f i else 0
def o8(n:Nt)(f:List Int):Int:=if ab0 n f=true then arp n f n.ac.length else 0
theorem a9w(n:Nt)(f:List Int): ∀i,arp n f i=a24 (zL n f i)
 |0=>rfl
 |i+1=>by
  rw[arp,akp,a9w n f i];unfold a24;rw[List.map_append,List.sum_append];simp
theorem awj{n:Nt}{f:List Int}(h:OkNw n)(hf:okF n f): ∀i,i<=n.ac.length->0<=arp n f i/\arp n f i<=1048576*(i:Int)
 |0,_=>by simp[arp]
 |i+1,hi=>by
  have ih:=awj h hf i (by omega);obtain⟨q1,q2,q3,_,_,q6⟩:=h.ac _ (dl (show i<n.ac.length by omega));have hb:=hf.2 i (by omega);rw[arp];split<;>omega
theorem a5c{n:Nt}{f:List Int}(h:OkNw n)(hf:okF n f){m:Nat}(hm:0<m)(hv:o8 n f=m):OkZ n.nd.toNat (zL n f n.ac.length)/\a24 (zL n f n.ac.length)=m:=by
 unfold o8 at hv;split at hv
 ·rename_i h1;have h1:=of_decide_eq_true h1;have hnd:=h.nd;refine⟨⟨by omega,fun p hp=> ?_,fun v v0 v1=> ?_⟩,by rw[<-a9w];exact hv⟩
  ·unfold zL at hp;obtain⟨j,hj,rfl⟩:=List.mem_map.1 hp;have hj:=List.mem_range.1 hj;obtain⟨q1,q2,q3,q4,_,q6⟩:=h.ac _ (dl hj);have hb:=hf.2 j hj;simp only;exact⟨⟨⟨q1.1,by omega⟩,q2.1,by omega⟩,q4,hb⟩
  ·rw[<-amq h _ (Nat.le_refl _) v v1];exact h1 v v1 v0
 ·omega
def dZ(g:Gr)(p:Pol)(k:Int):Int:=el (bg (bz g p.lv) p.se) k.toNat
def cZ(g:Gr)(p:Pol)(k:Int):Int:=kw p.ta (dZ g p k)
def ab7(g:Gr)(p:Pol)(K:List Int):Nt:=⟨2+2*g.sz,aap (bz g p.lv) (dZ g p) (cZ g p) p.se K⟩
theorem oc{n:Int}{p:Pol}:i9 n p=true↔0<p.se.length/\kr p.se n=true/\(1<=p.ta.length/\p.ta.length<=8/\1<=p.lv/\p.lv<=3)/\aaf (jc p.ta) p.ta.length=true:=by
 unfold i9;simp only[Bool.and_eq_true,decide_eq_true_eq]
theorem baa{n:Int}{p:Pol}(h:i9 n p=true)(d:Int):0<=kw p.ta d/\kw p.ta d<=1000/\(0<=d->1<=kw p.ta d):=
 ⟨(aep h d).1,(aep h d).2,fun h0=>adz (adp h) h0⟩
theorem l9{l:List Int}{n:Int}(h:kr l n=true)(h0:0<=n):l.length<=n.toNat:=by
 obtain⟨h1,h2⟩:=c7.1 h
 have:=lz (l:=l) (m:=(List.range n.toNat).map fun k:Nat=>(k:Int)) (h2.imp fun h=>by omega) fun x hx=>by
  have:=h1 x hx;exact List.mem_map.2 ⟨x.toNat,List.mem_range.2 (by omega),by omega⟩
 rw[List.length_map,List.length_range]at this;exact this
theorem awa{g:Gr}{d c:Int->Int}{seeds sinks:List Int}{a:Ac}(h:a∈aap g d c seeds sinks):
  (∃k∈seeds,0<=d k/\a=⟨0,2+2*k,c k⟩)\/(∃k:Nat,k<g.sz.toNat/\0<=d k/\a=⟨2+2*k,3+2*k,c k - 1⟩)\/(∃k∈sinks,0<=d k/\a=⟨2+2*k,1,1⟩)\/∃e∈g.ed,0<=d e.fr/\a=⟨3+2*e.fr,2+2*e.to,64⟩:=by
 unfold aap at h;simp only[List.mem_append,List.mem_map,List.mem_filter,decide_eq_true_eq]at h;rcases h with ⟨k,⟨h1,h2⟩,rfl⟩|⟨k,⟨⟨j,h1,rfl⟩,h2⟩,rfl⟩|⟨k,⟨h1,h2⟩,rfl⟩|⟨e,⟨h1,h2⟩,rfl⟩
 ·exact .inl ⟨k,h1,h2,rfl⟩
 ·exact .inr (.inl ⟨j,List.mem_range.1 h1,h2,rfl⟩)
 ·exact .inr (.inr (.inl ⟨k,h1,h2,rfl⟩))
 ·exact .inr (.inr (.inr ⟨e,h1,h2,rfl⟩))
theorem amr{g:Gr}{p:Pol}{K:List Int}(hg:bh g=true)(hp:i9 g.sz p=true)(hK:kr K g.sz=true):OkNw (ab7 g p K):=by
 obtain⟨⟨a1,a2,a3⟩,b,c,_⟩:=ey.1 hg;obtain⟨p1,p2,p3,p4⟩:=oc.1 hp;have l1:=l9 p2 a1;have l2:=l9 hK a1;have s1:=(c7.1 p2).1;have s2:=(c7.1 hK).1;have hsz:(bz g p.lv).sz=g.sz:=rfl;refine⟨⟨by show 2<=2+2*g.sz;omega,by show 2+2*g.sz<=130;omega⟩,?_,fun a ha=> ?_⟩
 ·show(aap _ _ _ _ _).length<=1200;unfold aap;simp only[List.length_append,List.length_map];have f1:=List.length_filter_le (fun k=>decide (0<=dZ g p k)) p.se;have f2:=List.length_filter_le (fun k=>decide (0<=dZ g p k)) ((List.range (bz g p.lv).sz.toNat).map fun k:Nat=>(k:Int));have f3:=List.length_filter_le (fun k=>decide (0<=dZ g p k)) K;have f4:=List.length_filter_le (fun e:Ed=>decide (0<=dZ g p e.fr)) (bz g p.lv).ed;have f5:=List.length_filter_le (fun e:Ed=>decide (p.lv<=e.lv)) g.ed;rw[List.length_map,List.length_range,hsz]at f2;have f6:(bz g p.lv).ed.length<=g.ed.length:=f5;rw[hsz];omega
 ·have hn:(ab7 g p K).nd=2+2*g.sz:=rfl;rw[hn];have cc:=fun k=>baa hp (dZ g p k);rcases awa ha with ⟨k,h1,h2,rfl⟩|⟨k,h1,h2,rfl⟩|⟨k,h1,h2,rfl⟩|⟨e,h1,h2,rfl⟩
  ·have:=s1 k h1;have c1:=cc k;have c2:cZ g p k=kw p.ta (dZ g p k):=rfl;simp only;omega
  ·rw[hsz]at h1;have c1:=cc k;have c2:cZ g p k=kw p.ta (dZ g p k):=rfl;simp only;omega
  ·have:=s2 k h1;simp only;omega
  ·have h1:e∈g.ed:=(List.mem_filter.1 h1).1;obtain⟨q1,q2,q3,_⟩:=c e h1;simp only;omega
theorem a10(l:List Int)(x:Int):l.take (ur l x)=l.takeWhile fun a=>decide (a<x):=by
 unfold ur;exact(List.prefix_iff_eq_take.1 (List.takeWhile_prefix _)).symm
theorem ac9{l:List Int}{x y:Int}:y∈aah l x↔y=x\/y∈l:=by
 unfold aah;split
 ·rename_i h;constructor
  ·exact .inr
  ·rintro(rfl|h1)
   ·have:=dl h.1;rw[h.2]at this;exact this
   ·exact h1
 ·rw[List.mem_append,List.mem_cons];constructor
  ·rintro(h|h|h)
   ·exact .inr (List.mem_of_mem_take h)
   ·exact .inl h
   ·exact .inr (List.mem_of_mem_drop h)
  ·rintro(h|h)
   ·exact .inr (.inl h)
   ·rw[<-List.take_append_drop (ur l x) l,List.mem_append]at h;rcases h with h|h
    ·exact .inl h
    ·exact .inr (.inr h)
theorem ap1{l:List Int}{x n:Int}(h:kr l n=true)(hx:0<=x/\x<n):kr (aah l x) n=true:=by
 obtain⟨h1,h2⟩:=c7.1 h;refine c7.2 ⟨fun y hy=> ?_,?_⟩
 ·rcases ac9.1 hy with rfl|hy
  ·exact hx
  ·exact h1 y hy
 ·unfold aah;split
  ·exact h2
  ·rename_i hn;have h3:=h2;rw[<-List.take_append_drop (ur l x) l]at h3;obtain⟨a1,a2,a3⟩:=List.pairwise_append.1 h3
   have hb: ∀a∈l.take (ur l x),a<x:=fun a ha=>by
    rw[a10]at ha;have:=List.all_eq_true.1 (List.all_takeWhile (p:=fun a=>decide (a<x)) (l:=l)) _ ha;exact of_decide_eq_true this
   have hd: ∀b∈l.drop (ur l x),x<b:=fun b hbm=>by
    have hlt:ur l x<l.length:=by
     have:=List.length_pos_of_mem hbm;rw[List.length_drop]at this;omega
    have h8:l.drop (ur l x)=el l (ur l x)::l.drop (ur l x+1):=by
     rw[List.drop_eq_getElem_cons hlt];congr 1;simp[el,aw,hlt]
    have h9:=of_decide_eq_false (kx (p:=fun a=>decide (a<x)) (l:=l) h8);have h10: ¬el l (ur l x)=x:=fun e=>hn ⟨hlt,e⟩;rw[h8]at hbm a2;rcases List.mem_cons.1 hbm with rfl|hbm
    ·omega
    ·have:=(List.pairwise_cons.1 a2).1 b hbm;omega
   refine List.pairwise_append.2 ⟨a1,List.pairwise_cons.2 ⟨hd,a2⟩,fun a ha b hbm=> ?_⟩;rcases List.mem_cons.1 hbm with rfl|hbm
   ·exact hb a ha
   ·exact a3 a ha b hbm
def afr(D:List Int)(z:Nat):List Int:=(List.range z).flatMap fun n:Nat=>((List.range z).filter fun k:Nat=>decide (el D k=(n:Int))).map fun k:Nat=>(k:Int)
theorem v7{D:List Int}{z:Nat}{x:Int}(h:x∈afr D z):(0<=x/\x<z)/\0<=el D x.toNat:=by
 unfold afr at h;obtain⟨n,_,h⟩:=List.mem_flatMap.1 h;obtain⟨k,hk,rfl⟩:=List.mem_map.1 h;obtain⟨h1,h2⟩:=List.mem_filter.1 hk;have h1:=List.mem_range.1 h1;have h2:=of_decide_eq_true h2;refine⟨⟨by omega,by omega⟩,?_⟩;rw[Int.toNat_natCast,h2];omega
theorem aba(D:List Int)(z:Nat):(afr D z).Nodup:=by
 unfold afr;refine List.pairwise_flatMap.2 ⟨fun n _=> ?_,?_⟩
 ·rw[List.pairwise_map];exact(List.nodup_range.filter _).imp fun h=>by omega
 ·refine List.nodup_range.imp fun h x hx y hy e=> ?_;obtain⟨a,ha,rfl⟩:=List.mem_map.1 hx;obtain⟨b,hb,e2⟩:=List.mem_map.1 hy;have ha:=of_decide_eq_true (List.mem_filter.1 ha).2;have hb:=of_decide_eq_true (List.mem_filter.1 hb).2;have:a=b:=by omega
  subst this;omega
theorem aqy(D:List Int)(z:Nat):(afr D z).length<=z:=by
 have:=lz (m:=(List.range z).map fun k:Nat=>(k:Int)) (aba D z) fun x hx=>by
  have:=(v7 hx).1;exact List.mem_map.2 ⟨x.toNat,List.mem_range.2 (by omega),by omega⟩
 rwa [List.length_map,List.length_range]at this
noncomputable def bhi (g:Gr) (p:Pol) (s:List Int×List Int) (k:Int):List Int×List Int:=if o8 (ab7 g p (aah s.2 k)) (aet (ab7 g p (aah s.2 k)))=((aah s.2 k).length:Int)then(s.1++[k],aah s.2 k)else s
noncomputable def acb (g:Gr) (p:Pol) (o:List Int):List Int×List Int:=o.foldl (bhi g p) ([],[])
theorem ag9{g:Gr}{p:Pol}{o:List Int}{i:Nat}(h:i<o.length):acb g p (o.take (i+1))=bhi g p (acb g p (o.take i)) (el o i):=by
 unfold acb;rw[List.take_add_one,a8 h,Option.toList_some,List.foldl_append];simp[el,aw,h]
structure AI(g:Gr)(p:Pol)(o:List Int)(s:List Int×List Int):Prop where
 sub:s.1.Sublist o
 mem: ∀x∈s.1,x∈s.2
 set:kr s.2 g.sz=true
 sv:s.2=[]\/o8 (ab7 g p s.2) (aet (ab7 g p s.2))=(s.2.length:Int)
theorem bas{g:Gr}{p:Pol}{o:List Int}{s:List Int×List Int}(h:AI g p o s){k:Int}(hk:0<=k/\k<g.sz):AI g p (o++[k]) (bhi g p s k):=by
 unfold bhi;split
 ·rename_i hv;refine⟨h.sub.append (List.Sublist.refl _),fun x hx=> ?_,ap1 h.set hk,.inr hv⟩;show x∈aah s.2 k;rcases List.mem_append.1 hx with hx|hx
  ·exact ac9.2 (.inr (h.mem x hx))
  ·exact ac9.2 (.inl (List.mem_singleton.1 hx))
 ·exact⟨h.sub.trans (List.sublist_append_left _ _),h.mem,h.set,h.sv⟩
theorem ac3{g:Gr}{p:Pol}{o:List Int}(ho: ∀x∈o,0<=x/\x<g.sz): ∀i,i<=o.length->AI g p (o.take i) (acb g p (o.take i))
 |0,_=>⟨by simp[acb],by simp[acb],rfl,.inl rfl⟩
 |i+1,hi=>by
  have ih:=ac3 (p:=p) ho i (by omega);rw[ag9 (by omega)];have:=bas ih (k:=el o i) (ho _ (dl (by omega)))
  have e:o.take (i+1)=o.take i++[el o i]:=by
   rw[List.take_add_one,a8 (show i<o.length by omega),Option.toList_some];simp[el,aw,show i<o.length by omega]
  rw[e];exact this
theorem ayq{n m:Int}{p:Pol}(h:i9 n p=true)(hm:n<=m):i9 m p=true:=by
 obtain⟨p1,p2,p3,p4⟩:=oc.1 h;obtain⟨q1,q2⟩:=c7.1 p2;exact oc.2 ⟨p1,c7.2 ⟨fun x hx=>by have:=q1 x hx;omega,q2⟩,p3,p4⟩
theorem agk{g h:Gr}{p:Pol}{K:List Int}{A:Int}{k:Nat}(hg:bh g=true)(hp:i9 g.sz p=true)(hd:DI h g (g.sz+A) K k)(hA:0<=A)(hK: ∀x∈K,0<=x/\x<g.sz):
  (((acb h p (afr (bg (bz h p.lv) p.se) h.sz.toNat)).1.filter fun x=>decide (x∈af7 g.sz A)).length:Int)<=yy (bg (bz g p.lv) p.se) g.gone p.ta K:=by
 have hsz:=hd.sz
 have ho: ∀x∈afr (bg (bz h p.lv) p.se) h.sz.toNat,0<=x/\x<h.sz:=fun x hx=>by
  have:=(v7 hx).1;omega
 have hlo:=a44 (d:=bg (bz g p.lv) p.se) (gone:=g.gone) (K:=K) (adp hp);have hAI:=ac3 (p:=p) ho _ (Nat.le_refl _);rw[List.take_length]at hAI;have hnd:=aba (bg (bz h p.lv) p.se) h.sz.toNat;generalize afr (bg (bz h p.lv) p.se) h.sz.toNat=o at*;generalize acb h p o=s at*;obtain⟨a,b⟩:=s;obtain⟨i1,i2,i3,i4⟩:=hAI;simp only at i1 i2 i3 i4 ⊢;have hph:=ayq hp (show g.sz<=h.sz by omega)
 have key:b=[]\/(b.filter fun k=>decide (g.sz<=k)).length<=yy (bg (bz g p.lv) p.se) g.gone p.ta K:=by
  by_cases hb:b.length=0
  ·exact .inl (List.length_eq_zero_iff.1 hb)
  refine .inr ?_;rcases i4 with rfl|i4
  ·simp at hb
  have hnw:=amr hd.ok hph i3;obtain⟨z1,z2⟩:=a5c hnw (ad5 hnw.nt) (by omega) i4;obtain⟨⟨a1,a2,a3⟩,_,c,_⟩:=ey.1 hd.ok;have hS: ∀x∈p.se,0<=x/\x<g.sz:=(c7.1 (oc.1 hp).2.1).1;have hT:=adp hp
  have h1:=axy (g:=bz h p.lv) (d:=dZ h p) (c:=cZ h p) (seeds:=p.se) (sinks:=b) (dec:=K) (G:=g.sz) z1 (bik _ _) z2 hS (fun k hk=>((c7.1 i3).1 k hk).1) (fun k hk=>adz hT hk) fun e he=>by
   have he:=(List.mem_filter.1 he).1;obtain⟨q1,q2,_⟩:=c e he;refine⟨q1.1,q2.1,fun h1 h2=> ?_⟩;by_cases h3:e.to<g.sz
   ·exact h3
   ·exact absurd ((hd.far e he).2 h1 h3) h2
  have h2:=ar8 (g:=bz g p.lv) (h:=bz h p.lv) (S:=p.se) (dec:=K) (ta:=p.ta) (apl hg p.lv) hS hT hK hd.gone (fun e he=>by
   have he:=(List.mem_filter.1 he).1;exact(c e he).2.2.2.2.2) (fun e he h1 h2=>by
   obtain⟨he,hl⟩:=List.mem_filter.1 he;exact List.mem_filter.2 ⟨(hd.far e he).1 h1 h2,hl⟩) (fun e he h1 h2=>(hd.far e (List.mem_filter.1 he).1).2 h1 h2) ((bz h p.lv).sz.toNat+1)
  have h3:(K.map fun k=>if 0<=dZ h p k then cZ h p k - 1 else 0)=K.map fun k=>if 0<=dvl (bz h p.lv) p.se ((bz h p.lv).sz.toNat+1) k then kw p.ta (dvl (bz h p.lv) p.se ((bz h p.lv).sz.toNat+1) k) - 1 else 0:=by
   refine List.map_congr_left fun k hk=> ?_;have hkr:=hK k hk;have e:dZ h p k=dvl (bz h p.lv) p.se ((bz h p.lv).sz.toNat+1) k:=apx (g:=bz h p.lv) hkr.1 (by show k<h.sz;omega);unfold cZ;rw[e]
  rw[h3]at h1;exact Int.le_trans h1 h2
 have hcnt:(a.filter fun x=>decide (x∈af7 g.sz A)).length<=(b.filter fun k=>decide (g.sz<=k)).length:=by
  refine lz ((i1.nodup hnd).filter _) fun x hx=> ?_;obtain⟨h1,h2⟩:=List.mem_filter.1 hx;have h2:=a41.1 (of_decide_eq_true h2);exact List.mem_filter.2 ⟨i2 x h1,decide_eq_true h2.1⟩
 rcases key with rfl|key
 ·simp at hcnt;rw[show(a.filter fun x=>decide (x∈af7 g.sz A)).length=0 by simpa using hcnt];exact hlo
 ·omega
def bo(b:Bool):List PV:=[.bool b]
theorem bjz(b:Bool):bo b=[.bool b]:=(rfl)
attribute [go_sem] bjz
def sf(q:List Int)(N:Nat):List Bool:=(List.range N).map fun x:Nat=>decide ((x:Int)∈q)
theorem azh(q:List Int)(N:Nat):(sf q N).length=N:=by simp[sf]
theorem aoi{q:List Int}{N:Nat}{x:Int}(h0:0<=x)(h:x<N):el (sf q N) x.toNat=decide (x∈q):=by
 have h1:x.toNat<N:=by omega
 have e:((x.toNat:Nat):Int)=x:=by omega
 simp only[sf,el,aw,List.getElem?_map,List.getElem?_range h1,Option.map_some,Option.getD_some,e]
theorem xg{q:List Int}{N:Nat}{y:Int}(h0:0<=y):(sf q N).set y.toNat true=sf (q++[y]) N:=by
 unfold sf;refine List.ext_getElem (by simp) fun i h1 h2=> ?_;rw[List.getElem_set];simp only[List.length_map,List.length_range]at h2;split
 ·rename_i h;simp only[List.getElem_map,List.getElem_range,List.mem_append,List.mem_singleton];rw[decide_eq_true (.inr (by omega))]
 ·rename_i h;simp only[List.getElem_map,List.getElem_range,List.mem_append,List.mem_singleton];have: ¬(i:Int)=y:=by omega
  simp[this]
theorem asb(N:Nat):sf [] N=List.replicate N false:=by
 unfold sf;refine List.ext_getElem (by simp) fun i h1 h2=>by simp
theorem aoq{q:List Int}{t:Nat}(h:t<=q.length)(y:Int):(q++[y]).drop t=q.drop t++[y]:=List.drop_append_of_le_length h
def zh(by_:List Int):Nat->List Int
 |0=>[0]
 |k+1=>zh by_ k++if el by_ (k+1)=0 then []else [((k:Int)+1)]
theorem ai0(by_:List Int): ∀k,(zh by_ k).length<=k+1
 |0=>by simp[zh]
 |k+1=>by
  have:=ai0 by_ k;rw[zh,List.length_append];split<;>simp<;>omega
theorem xw(n:Nt)(h:OkNw n):Den Tryz.prog 96 [.agg (ntw n)] [] (.int .i64 0) [] []:=by
 refine aa Tryz.func96 rfl Tryz.call96 Tryz.ntmps96 Tryz.results96 (by simp) (by kernel_rfl) [] (exts:=[]) rfl rfl ?_;obtain⟨hn0,hn1⟩:=h.nd;have hln:=h.ln;have a1: ¬n.nd<2:=by omega
 have a2: ¬130<n.nd:=by omega
 have a3: ¬(1200:Int)<(n.ac.length:Int):=by omega
 simp only[go_sem,a1,a2,a3];refine loop Tryz.mixed 0 (fun i:Nat=>[(1,.ptr 1 0),(3,.int .i64 i)]) (fun i=>[(1,.cells (ntw n))]) (fun i=>i<=n.ac.length) (fun i=>n.ac.length - i) (by kernel_rfl) (Nat.zero_le _) ?_ ?_
 ·simp only[go_sem]
 ·intro i hi;by_cases hlt:i<n.ac.length
  ·have g1:(i:Int)<(n.ac.length:Int):=by omega
   obtain⟨⟨f0,f1⟩,⟨t0,t1⟩,hft,ht0,hf1,c0,c1⟩:=h.ac _ (dl hlt);have b1: ¬(el n.ac i).fr<0:=by omega
   have b2: ¬n.nd<=(el n.ac i).fr:=by omega
   have b3: ¬(el n.ac i).to<0:=by omega
   have b4: ¬n.nd<=(el n.ac i).to:=by omega
   have b5: ¬(el n.ac i).cap<0:=by omega
   have b6: ¬1048576<(el n.ac i).cap:=by omega
   simp only[go_sem,g1,hlt,b1,b2,b3,b4,b5,b6,hft,ht0,hf1];exact⟨i+1,⟨by omega,by omega⟩,by rw[ae]<;>omega⟩
  ·have g1: ¬(i:Int)<(n.ac.length:Int):=by omega
   simp only[go_sem,g1]
theorem ait(l:List Int)(k:Nat)(v:Int):(l.map i1).set k [.int .i64 v]=(l.set k v).map i1:=by
 rw[List.map_set];rfl
theorem aku(n:Nt)(f:List Int)(h:OkNw n)(hf:okF n f):Den Tryz.prog 97 [.agg (ntw n),.vs (f.map i1)] [] (.bool (ab0 n f)) [] []:=by
 refine aa Tryz.func97 rfl Tryz.call97 Tryz.ntmps97 Tryz.results97 (by simp) (by kernel_rfl) [] (exts:=[]) rfl rfl ?_;obtain⟨hn0,hn1⟩:=h.nd;have hln:=h.ln;have hfl:=hf.1;obtain⟨N,hN⟩: ∃N:Nat,n.nd=(N:Int):=⟨n.nd.toNat,by omega⟩;have hN2:n.nd.toNat=N:=by omega
 have cK:=xw n h;rw[iv,hN]at cK;have g0: ¬¬(f.length:Int)=(n.ac.length:Int):=by omega
 have nz:List.replicate N [PV.int IntKind.i64 0]=(acv n f 0).map i1:=by rw[acv,hN2];simp[i1]
 have nl:=aei n f;rw[hN2]at nl;have ns: ∀i,acv n f (i+1)=ayt (el n.ac i) (el f i) (asn (el n.ac i) (el f i) (acv n f i)):=fun i=>rfl
 have nb: ∀i,i<=n.ac.length->∀v:Nat,v<N-> -(1048576*(i:Int))<=el (acv n f i) v/\el (acv n f i) v<=1048576*(i:Int):=fun i hi v hv=>by
  rw[amq h i hi v (by omega)];exact bg9 h hf i hi v
 have hX:ab0 n f=decide (∀v:Nat,v<N->2<=v->el (acv n f n.ac.length) v=0):=by unfold ab0;rw[hN2]
 rw[hX];clear hX;generalize acv n f=T at*;rw[iv,hN];simp only[go_sem];refine call cK [] ?_;have N0:(0:Int)<=(N:Int):=by omega
 simp only[go_sem,hfl,N0];refine⟨⟨Nat.le_refl _,by omega,by omega⟩,?_⟩;refine loop Tryz.mixed (0:Nat) (fun i:Nat=>[(1,.vs (f.map i1)),(2,.ptr 2 0),(5,.os 21 N),(6,.int .i64 i)]) (fun i=>[(2,.cells [.int .i64 N,.vs (n.ac.map acr)]),(21,.arr 3 1 false ((T i).map i1))]) (fun i=>i<=n.ac.length) (fun i=>n.ac.length - i) (by kernel_rfl) (Nat.zero_le _) ?_ ?_
 ·rw[<-nz];simp only[go_sem];rfl
 intro i hi;have hTl:=nl i;by_cases g1:i<n.ac.length
 ·have g2:(i:Int)<(f.length:Int):=by omega
  have g3:i<f.length:=by omega
  obtain⟨⟨q0,q1⟩,⟨q2,q3⟩,q4,_⟩:=h.ac _ (dl g1);have hb:=hf.2 i g1;have b0: ¬el f i<0:=by omega
  have b1: ¬(el n.ac i).cap<el f i:=by omega
  have q1':(el n.ac i).fr<(N:Int):=by omega
  have q3':(el n.ac i).to<(N:Int):=by omega
  have q5:(el n.ac i).fr.toNat<N:=by omega
  have q6:(el n.ac i).to.toNat<N:=by omega
  have hsu:=ns i;have hbd:=nb i (by omega);generalize T i=s at*;have hb1:=hbd _ q5;have hb2:=hbd _ q6;have w1:IntKind.i64.wrap (el s (el n.ac i).fr.toNat - el f i)=el s (el n.ac i).fr.toNat - el f i:=by rw[ae]<;>omega
  have e2:el (s.set (el n.ac i).fr.toNat (el s (el n.ac i).fr.toNat - el f i)) (el n.ac i).to.toNat=el s (el n.ac i).to.toNat:=sj (by omega);have w2:IntKind.i64.wrap (el s (el n.ac i).to.toNat+el f i)=el s (el n.ac i).to.toNat+el f i:=by rw[ae]<;>omega
  have r2:cw (List.map i1 (s.set (el n.ac i).fr.toNat (el s (el n.ac i).fr.toNat - el f i))) (el n.ac i).to.toNat=[.int .i64 (el s (el n.ac i).to.toNat)]:=by
   rw[ic i1 _ (by rw[List.length_set];omega),e2];rfl
  simp only[go_sem,g2,g1,g3,b0,b1,q0,q1',q2,q3',q5,q6,hTl,w1,ait,List.length_set,r2,w2];refine⟨ag (by kernel_rfl),ag (by kernel_rfl),ag (by kernel_rfl),i+1,⟨by omega,by omega⟩,by rw[ae]<;>omega,?_⟩;rw[hsu,ayt,asn,e2]
 have:i=n.ac.length:=by omega
 subst this;have g2: ¬((n.ac.length:Nat):Int)<(f.length:Int):=by omega
 generalize hm:decide (∀v:Nat,v<N->2<=v->el (T n.ac.length) v=0)=m;have no: ∀v:Nat,v<N->2<=v->el (T n.ac.length) v≠0->m=false:=fun v h1 h2 h3=>by rw[<-hm];exact decide_eq_false fun h=>h3 (h v h1 h2)
 have yes:(∀v:Nat,v<N->2<=v->el (T n.ac.length) v=0)->m=true:=fun h=>by rw[<-hm];exact decide_eq_true h
 clear hm;generalize T n.ac.length=S at*;simp only[go_sem,g2];refine loop Tryz.mixed (2:Nat) (fun i:Nat=>[(1,.vs (f.map i1)),(2,.ptr 2 0),(5,.os 21 N),(7,.int .i64 i)]) (fun i=>[(2,.cells [.int .i64 N,.vs (n.ac.map acr)]),(21,.arr 3 1 false (S.map i1))]) (fun i=>2<=i/\i<=N/\∀v,v<i->2<=v->el S v=0) (fun i=>N - i) (by kernel_rfl) ⟨by omega,by omega,fun v h1 h2=>by omega⟩ ?_ ?_
 ·simp only[go_sem]
 rintro i ⟨i0,i1',i2⟩;by_cases g3:i<N
 ·have g4:(i:Int)<(N:Int):=by omega
  by_cases c:el S i=0
  ·simp only[go_sem,g3,g4,c,hTl]
   exact⟨i+1,⟨⟨by omega,by omega,fun v h1 h2=>by
    rcases Nat.lt_succ_iff_lt_or_eq.1 h1 with h3|h3
    ·exact i2 v h3 h2
    ·rw[h3];exact c⟩,by omega⟩,by rw[ae]<;>omega⟩
  ·have hq:=no i g3 i0 c;simp only[go_sem,g3,g4,c,hTl,hq]
 ·have:i=N:=by omega
  subst this;have g4: ¬((i:Nat):Int)<(i:Int):=by omega
  have hq:=yes i2;simp only[go_sem,g4,hq]
theorem alh(n:Nt)(f:List Int)(h:OkNw n)(hf:okF n f):Den Tryz.prog 72 [.agg (ntw n),.vs (f.map i1)] [] (.int .i64 (o8 n f)) [] []:=by
 refine aa Tryz.func72 rfl Tryz.call72 Tryz.ntmps72 Tryz.results72 (by simp) (by kernel_rfl) [] (exts:=[]) rfl rfl ?_;have cV:=aku n f h hf;have hln:=h.ln;have hfl:=hf.1;have hv:o8 n f=if ab0 n f=true then arp n f n.ac.length else 0:=rfl
 have vs: ∀i,arp n f (i+1)=arp n f i+if(el n.ac i).fr=0 then el f i else 0:=fun i=>rfl
 have v0:arp n f 0=0:=rfl;have vb:=awj h hf;rw[iv]at cV
 cases hx:ab0 n f
 ·rw[hx]at cV hv;rw[hv];simp only[go_sem];refine call cV [] ?_;simp only[go_sem]
 ·rw[hx]at cV hv;rw[hv,if_pos rfl];simp only[go_sem];refine call cV [] ?_;simp only[go_sem];generalize arp n f=V at*;refine loop Tryz.mixed (0:Nat) (fun i:Nat=>[(1,.vs (f.map i1)),(2,.ptr 2 0),(5,.int .i64 (V i)),(6,.int .i64 i)]) (fun i=>[(2,.cells (ntw n))]) (fun i=>i<=n.ac.length) (fun i=>n.ac.length - i) (by kernel_rfl) (Nat.zero_le _) ?_ ?_
  ·simp only[go_sem,v0]
  intro i hi;by_cases g1:i<n.ac.length
  ·have g2:(i:Int)<(f.length:Int):=by omega
   have g3:i<f.length:=by omega
   have hb:=hf.2 i g1;have hsu:=vs i;have hbd:=vb i (by omega);have hcp:=(h.ac _ (dl g1)).2.2.2.2.2.2;by_cases c:(el n.ac i).fr=0
   ·rw[if_pos c]at hsu;have w1:IntKind.i64.wrap (V i+el f i)=V i+el f i:=by rw[ae]<;>omega
    simp only[go_sem,g2,g1,g3,c,w1];exact⟨i+1,⟨by omega,by omega⟩,by rw[hsu],by rw[ae]<;>omega⟩
   ·rw[if_neg c,Int.add_zero]at hsu;simp only[go_sem,g2,g1,g3,c];exact⟨i+1,⟨by omega,by omega⟩,by rw[hsu],by rw[ae]<;>omega⟩
  ·have g2: ¬(i:Int)<(f.length:Int):=by omega
   have:i=n.ac.length:=by omega
   subst this;simp only[go_sem,g2]
theorem aiw(n:Nt)(f:List Int)(h:OkNw n)(hf:f.length=n.ac.length):Den Tryz.prog 73 [.agg (ntw n),.os 1000000 f.length] [.arr 3 1 false (f.map i1)] (.os 0 n.nd.toNat) [.arr 3 1 false ((byF n f).map i1)] [.arr 3 1 false (f.map i1)]:=by
 refine aa Tryz.func73 rfl Tryz.call73 Tryz.ntmps73 Tryz.results73 (by simp) (by kernel_rfl) [13] (exts:=[1000000]) rfl rfl ?_;obtain⟨hn0,hn1⟩:=h.nd;have hln:=h.ln;have hnt:=h.nt;obtain⟨N,hN⟩: ∃N:Nat,n.nd=(N:Int):=⟨n.nd.toNat,by omega⟩;have hN2:n.nd.toNat=N:=by omega
 have r0:rsT n f 0=⟨List.replicate N 0,[0]⟩:=by rw[rsT,hN2]
 have rs: ∀t,t<(rsT n f t).q.length->rsT n f (t+1)=rsI n f (el (rsT n f t).q t) (rsT n f t) n.ac.length:=fun t ht=>by rw[rsT,if_pos ht]
 have rlt: ∀t,t<(rsT n f t).q.length->t<N:=fun t ht=>by have:=bho hnt ht;omega
 have rend: ∀t,t<=N->¬t<(rsT n f t).q.length->(rsT n f t).by_=byF n f:=fun t h1 h2=>by rw[be0 (by omega) h2];rfl
 have rin:=ad3 (f:=f) hnt;have ri2:=fun t (j:Nat) (hj:j<(rsT n f t).q.length)=>akh hnt (rin t) hj;have hac:=h.ac;have ii: ∀(k:Int) (s:RsS) (i:Nat),rsI n f k s (i+1)=avb (el n.ac i) (el f i) k i (arc (el n.ac i) (el f i) k i (rsI n f k s i)):=fun k s i=>by rw[rsI]
 have i0: ∀(k:Int) (s:RsS),rsI n f k s 0=s:=fun k s=>by rw[rsI]
 have nz:(rsT n f 0).by_.map i1=List.replicate N [vd (PV.int .i64 0)]:=by rw[r0];simp[i1];exact .inr rfl
 have N1:0<N:=by omega
 have sz:(sf (rsT n f 0).q N).map bo=(List.replicate N [vd (PV.bool false)]).set 0 (PV.bool true::List.drop 1 (cw (List.replicate N [vd (PV.bool false)]) 0)):=by
  rw[r0];have h1:=xg (q:=[]) (N:=N) (y:=0) (by omega);rw[asb]at h1
  have h2:cw (List.replicate N [vd (PV.bool false)]) 0=[PV.bool false]:=by
   unfold cw;rw[aw,List.getElem?_replicate,if_pos N1];rfl
  rw[h2];show(sf ([]++[0]) N).map bo=_;rw[<-h1,List.map_set,List.map_replicate];rfl
 have qz:(rsT n f 0).q.map i1=[[PV.int .i64 0]]:=by rw[r0];rfl
 have bl: ∀s,RsInv n f s->s.by_.length=N:=fun s hs=>by rw[hs.len,hN2]
 rw[hN2,iv,hN];have N0:(0:Int)<=(N:Int):=by omega
 have N3:(0:Int)<(N:Int):=by omega
 simp only[go_sem,N0,N1,N3];refine⟨⟨Nat.le_refl _,by omega,by omega⟩,⟨Nat.le_refl _,by omega,by omega⟩,?_⟩;refine jf (Cv.toQ 7 19 3 1 0 [[.int .i64 0]] [(1,.os 1000000 f.length),(2,.ptr 2 0),(5,.os 13 N),(6,.os 16 N)] [1000000,2,13,16] (by rfl) (by rfl) (by omega) (by rfl) ?_ (by rfl) (by rfl)) ?_
 ·simp only[go_sem]
 refine loop Tryz.mixed (0,0) (fun s:Nat×Nat=>[(1,.os 1000000 f.length),(2,.ptr 2 0),(5,.os 13 N),(6,.os 16 N),(7,.oq 19 s.2)]) (fun s=>[(1000000,.arr 3 1 false (f.map i1)),(2,.cells [.int .i64 N,.vs (n.ac.map acr)]),(13,.arr 3 1 false ((rsT n f s.1).by_.map i1)),(16,.arr 4 1 false ((sf (rsT n f s.1).q N).map bo)),(19,.arq 3 1 s.2 (((rsT n f s.1).q.drop s.1).map i1))]) (fun s=>s.1<=N) (fun s=>N - s.1) (by kernel_rfl) (Nat.zero_le _) ?_ ?_
 ·simp only[go_sem,nz,sz,qz]
 rintro⟨t,c⟩ ht;have rst:=rs t;have rlt:=rlt t;have rend:=rend t ht;have ri2:=ri2 t t;generalize rsT n f t=s at*;by_cases g:t<s.q.length
 rotate_left
 ·have hd:s.q.drop t=[]:=List.drop_eq_nil_of_le (by omega);have rend:=rend g;rw[hd,rend];simp only[go_sem]
 have hd:s.q.drop t=el s.q t::s.q.drop (t+1):=by
  rw[List.drop_eq_getElem_cons g];congr 1;simp[el,aw,g]
 have ri2:=ri2 g;have rst:=rst g;have rlt:=rlt g;rw[hd];generalize hk:el s.q t=k at*;have ii:=ii k s;have i0:=i0 k s;have J0:t+1<=s.q.length:=by omega
 have p1:(0:Int)<(((s.q.drop (t+1)).length+1:Nat):Int):=by omega
 have p2:0<(s.q.drop (t+1)).length+1:=by omega
 have p3:(1:Int)<=(((s.q.drop (t+1)).length+1:Nat):Int):=by omega
 simp only[go_sem,p1,p2,p3];have e1: ∀X:List PV,List.drop (Int.toNat 1) (X::(s.q.drop (t+1)).map i1)=(s.q.drop (t+1)).map i1:=fun X=>rfl;rw[<-i0];generalize hJ:rsI n f k s=J at*;refine loop Tryz.mixed (0,c+1) (fun u:Nat×Nat=>[(1,.os 1000000 f.length),(2,.ptr 2 0),(5,.os 13 N),(6,.os 16 N),(7,.oq 19 u.2),(8,.int .i64 k),(9,.int .i64 u.1)]) (fun u=>[(1000000,.arr 3 1 false (f.map i1)),(2,.cells [.int .i64 N,.vs (n.ac.map acr)]),(13,.arr 3 1 false ((J u.1).by_.map i1)),(16,.arr 4 1 false ((sf (J u.1).q N).map bo)),(19,.arq 3 1 u.2 (((J u.1).q.drop (t+1)).map i1))]) (fun u=>u.1<=n.ac.length) (fun u=>n.ac.length - u.1) (by kernel_rfl) (Nat.zero_le _) ?_ ?_
 ·simp only[go_sem]
 rintro⟨i,c2⟩ hi;by_cases g2:i<n.ac.length
 rotate_left
 ·have:i=n.ac.length:=by simp only at hi;omega
  subst this;have g2': ¬((n.ac.length:Nat):Int)<(n.ac.length:Int):=by omega
  simp only[go_sem,g2'];refine⟨(t+1,c2),⟨by show t+1<=N;omega,by show N - (t+1)<N - t;omega⟩,?_⟩;rw[rst];exact⟨rfl,rfl,rfl,rfl,rfl⟩
 have g2':(i:Int)<(n.ac.length:Int):=by omega
 have gf:i<f.length:=by omega
 have gf':(i:Int)<(f.length:Int):=by omega
 obtain⟨⟨f0,f1⟩,⟨t0,t1⟩,hft,_⟩:=hac _ (dl g2);have ii:=ii i;obtain⟨hInv,r,hr⟩:=ri2 i (by omega);have hq:t+1<=(J i).q.length:=by rw[hr,List.length_append];omega
 have hbl:=bl _ hInv;have hql:=ax9 hInv;have f1':(el n.ac i).fr<(N:Int):=by omega
 have t1':(el n.ac i).to<(N:Int):=by omega
 have f2:(el n.ac i).fr.toNat<N:=by omega
 have t2:(el n.ac i).to.toNat<N:=by omega
 have sT:=aoi (q:=(J i).q) (N:=N) t0 t1';have sF:=aoi (q:=(J i).q) (N:=N) f0 f1';have sl:=azh (J i).q N;have aT:=fun h=>xg (q:=(J i).q) (N:=N) (y:=(el n.ac i).to) h;have aF:=fun h=>xg (q:=(J i).q) (N:=N) (y:=(el n.ac i).fr) h;have wi:IntKind.i64.wrap ((i:Int)+1)=((i+1:Nat):Int):=by rw[ae]<;>omega
 have wn:IntKind.i64.wrap (0 - ((i+1:Nat):Int))= -((i:Int)+1):=by rw[ae]<;>omega
 have hi2:i+1<=n.ac.length:=g2;have hm1:n.ac.length - (i+1)<n.ac.length - i:=Nat.sub_lt_sub_left g2 (Nat.lt_succ_self i);clear hJ ri2 rst;generalize hz:J i=z at*;have hqb:((z.q.drop (t+1)).length+1)*8<=140737488355328:=by rw[List.length_drop];omega
 by_cases A1:(el n.ac i).fr=k
 ·have B1: ¬(el n.ac i).to=k:=fun e=>hft (A1.trans e.symm);by_cases A2:el f i<(el n.ac i).cap
  ·by_cases A3:(el n.ac i).to∈z.q
   ·have hsu:J (i+1)=z:=by rw[ii,avb,if_neg (by simp[B1]),arc,if_neg (by simp[A3])]
    simp only[go_sem,g2',g2,gf,gf',A1,B1,A2,A3,t0,t1',t2,sT,sl]
    (repeat refine And.intro (by first|omega|exact ag (by kernel_rfl)) ?_)
    exact⟨(i+1,c2),⟨hi2,hm1⟩,⟨rfl,wi⟩,by rw[hsu],by rw[hsu],rfl,by rw[hsu]⟩
   ·have hsu:J (i+1)=⟨z.by_.set (el n.ac i).to.toNat (i+1),z.q++[(el n.ac i).to]⟩:=by rw[ii,avb,if_neg (by simp[B1]),arc,if_pos ⟨A1,A2,A3⟩]
    simp only[go_sem,g2',g2,gf,gf',A1,B1,A2,A3,t0,t1',t2,sT,sl,hbl,wi,hqb]
    (repeat refine And.intro (by first|omega|exact ag (by kernel_rfl)) ?_)
    refine⟨(i+1,c2+1),⟨hi2,hm1⟩,⟨rfl,rfl⟩,by rw[hsu,ait];rfl,?_,rfl,?_⟩
    ·rw[hsu,<-aT t0,List.map_set];rfl
    ·rw[hsu];show _=List.map i1 (List.drop (t+1) (z.q++[(el n.ac i).to]));rw[aoq hq,List.map_append];rfl
  ·have hsu:J (i+1)=z:=by rw[ii,avb,if_neg (by simp[B1]),arc,if_neg (by simp[A2])]
   simp only[go_sem,g2',g2,gf,gf',A1,B1,A2]
   (repeat refine And.intro (by first|omega|exact ag (by kernel_rfl)) ?_)
   exact⟨(i+1,c2),⟨hi2,hm1⟩,⟨rfl,wi⟩,by rw[hsu],by rw[hsu],rfl,by rw[hsu]⟩
 ·by_cases B1:(el n.ac i).to=k
  ·by_cases B2:0<el f i
   ·by_cases B3:(el n.ac i).fr∈z.q
    ·have hsu:J (i+1)=z:=by rw[ii,arc,if_neg (by simp[A1]),avb,if_neg (by simp[B3])]
     simp only[go_sem,g2',g2,gf,gf',A1,B1,B2,B3,f0,f1',f2,sF,sl]
     (repeat refine And.intro (by first|omega|exact ag (by kernel_rfl)) ?_)
     exact⟨(i+1,c2),⟨hi2,hm1⟩,⟨rfl,wi⟩,by rw[hsu],by rw[hsu],rfl,by rw[hsu]⟩
    ·have hsu:J (i+1)=⟨z.by_.set (el n.ac i).fr.toNat (-((i:Int)+1)),z.q++[(el n.ac i).fr]⟩:=by rw[ii,arc,if_neg (by simp[A1]),avb,if_pos ⟨B1,B2,B3⟩]
     simp only[go_sem,g2',g2,gf,gf',A1,B1,B2,B3,f0,f1',f2,sF,sl,hbl,wi,wn,hqb]
     (repeat refine And.intro (by first|omega|exact ag (by kernel_rfl)) ?_)
     refine⟨(i+1,c2+1),⟨hi2,hm1⟩,⟨rfl,rfl⟩,by rw[hsu,ait],?_,rfl,?_⟩
     ·rw[hsu,<-aF f0,List.map_set];rfl
     ·rw[hsu];show _=List.map i1 (List.drop (t+1) (z.q++[(el n.ac i).fr]));rw[aoq hq,List.map_append];rfl
   ·have hsu:J (i+1)=z:=by rw[ii,arc,if_neg (by simp[A1]),avb,if_neg (by simp[B2])]
    simp only[go_sem,g2',g2,gf,gf',A1,B1,B2]
    (repeat refine And.intro (by first|omega|exact ag (by kernel_rfl)) ?_)
    exact⟨(i+1,c2),⟨hi2,hm1⟩,⟨rfl,wi⟩,by rw[hsu],by rw[hsu],rfl,by rw[hsu]⟩
  ·have hsu:J (i+1)=z:=by rw[ii,arc,if_neg (by simp[A1]),avb,if_neg (by simp[B1])]
   simp only[go_sem,g2',g2,gf,gf',A1,B1]
   (repeat refine And.intro (by first|omega|exact ag (by kernel_rfl)) ?_)
   exact⟨(i+1,c2),⟨hi2,hm1⟩,⟨rfl,wi⟩,by rw[hsu],by rw[hsu],rfl,by rw[hsu]⟩
end Go.Proofs.Am
