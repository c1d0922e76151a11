/- DOne. -/
import Derived.Test.YtlaoaleoeknhoaaGreatDoorCThree
import Derived.Test.YtlaoaleoeknhoaaGreatDoorAmZ
import Derived.Test.YtlaoaleoeknhoaaGreatDoorShP
import Derived.WalkKit
import Derived.BigCall
import Derived.Deep.LoopGhost
import Derived.Deep.RegionHeld3
import Derived.WalkSpells
import Derived.StillTactics
import Derived.Laws.Pointers
import Derived.Lib.ItoaLen
set_option linter.unusedSimpArgs false
set_option linter.unusedVariables false
set_option maxHeartbeats 1000000
set_option maxRecDepth 100000
set_option maxHeartbeats 4000000
namespace Go.Proofs.Am
open Go Go.RowKit Tryz
open Go.Proofs
open Go Go.RowKit Go.Sort
theorem aft(a b:LB):DN 198 [.str a,.str b] (.int .i64 (Lib.compareBytes a b)):=by refine ab4 (enters_of func198 Ae rfl) λw V c m j f d=> ?_;obtain⟨v1,v2,rfl⟩: ∃v1 v2,c=[v1,v2]:=(by match c,f with|[v1,v2],_=>exact⟨v1,v2,rfl⟩);obtain⟨i,g,_⟩:=d 0 v1 (.str a) rfl rfl;obtain⟨l,h,_⟩:=d 1 v2 (.str b) rfl rfl;rw[g.str_inv,h.str_inv];refine(Any.strings_Compare Tryz.laysCmpStr ⟨a.toArray⟩ ⟨b.toArray⟩ w).mono ?_;rintro e k ⟨rfl,rfl⟩;exact⟨_,rfl,b4v _ _,.int _ _⟩
theorem bbe(p q:Pn):DN 169 [.agg (pn p),.agg (pn q)] (.int .i64 (aaz p q)):=by refine ag_ func169 ntmps169 results169 ?_;rw[pn,pn];simp only[go_sem];refine Qq (fx p.au q.au) [] ?_;simp only[go_sem];refine Qq (fx p.he q.he) [] ?_;simp only[go_sem];refine Qq (aft p.di q.di) [] ?_;simp only[go_sem];refine Qq (acq [ic p.au q.au,ic p.he q.he,Lib.compareBytes p.di q.di] Ap) [] ?_;simp only[go_sem];refine⟨ok_,?_⟩;simp only[orL,aaz,or2];(repeat' split);all_goals simp_all
theorem ay4(a b:List Pn)(k:big a.length)(j:big b.length):DN 168 [.vs (a.map pn),.vs (b.map pn),.fn 169 []] (.int .i64 (ue aaz a b)):=by refine ag_ func168 ntmps168 results168 ?_;have f:=bg1 a.length b.length;generalize h:min a.length b.length=M at*;simp only[Int.ofNat_lt]at f;simp only[go_sem,f];refine lo_ 0 (λi:Nat=>[(0,.vs (a.map pn)),(1,.vs (b.map pn)),(2,.fn 169 []),(13,.int .i64 M),(14,.int .i64 i)]) (λ_=>[]) (λi=>i<=M/\ue aaz a b=ue aaz (a.drop i) (b.drop i)) (λi=>M - i) ?_ ?_ ?_;{exact⟨b0k _,rfl⟩};{simp only[go_sem]};.rintro i ⟨hi,hc⟩;by_cases g:i<M;{have h1:(i:Int)<(M:Int):=Aa;have e:i<a.length:=Aa;have d:i<b.length:=Aa;rw[vp aaz e d]at hc;simp only[go_sem,h1,e,d];refine Qq (bbe (el a i) (el b i)) [] ?_;by_cases c:aaz (el a i) (el b i)=0;{rw[if_pos c]at hc;simp only[go_sem,c];refine⟨ok_,i+1,⟨⟨Aa,hc⟩,Aa⟩,?_⟩;rw[ah]<;>omega};.rw[if_neg c]at hc;simp only[go_sem,c];exact⟨ok_,hc.symm⟩};.have h1: ¬(i:Int)<(M:Int):=Aa;rw[abn aaz Aa]at hc;simp only[go_sem,h1];refine Qq (fx a.length b.length) [] ?_;simp only[go_sem];exact hc.symm
theorem sq(x y:Ct)(a:big x.li.length)(b:big x.pi.length)(d:big y.li.length)(c:big y.pi.length):DN 119 [.agg (ct x),.agg (ct y)] (.int .i64 (nc x y)):=by refine ag_ func119 ntmps119 results119 ?_;rw[kn,kn];simp only[go_sem];refine Qq (ax7 x.li y.li a d) [] ?_;simp only[go_sem];refine Qq (ay4 x.pi y.pi b c) [] ?_;simp only[go_sem];refine Qq (acq [ue ic x.li y.li,ue aaz x.pi y.pi] Ap) [] ?_;simp only[go_sem];refine⟨ok_,?_⟩;simp only[orL,nc,or2];(repeat' split);all_goals simp_all
theorem ux: ∀a b:LB,Op.bytesLess a b=decide (Lib.compareBytes a b<0)
 |[],[]=>by simp[Op.bytesLess,Lib.compareBytes]
 |[],_::_=>by simp[Op.bytesLess,Lib.compareBytes]
 |_::_,[]=>by simp[Op.bytesLess,Lib.compareBytes]
 |a::r,b::s=>by
  have ih:=ux r s;simp only[Op.bytesLess,Lib.compareBytes];by_cases c:a<b
  .simp[c]
  .by_cases h2:b<a
   .have:a≠b:=λe=>by subst e;exact c h2
    simp[c,h2,this]
   .have:a=b:=b4w (b4b.1 h2) (b4b.1 c);subst this;simp[c,ih]
theorem ir: ∀a b:LB,Lib.compareBytes a b=0↔a=b
 |[],[]=>by simp[Lib.compareBytes]
 |[],_::_=>by simp[Lib.compareBytes]
 |_::_,[]=>by simp[Lib.compareBytes]
 |a::r,b::s=>by
  have ih:=ir r s;simp only[Lib.compareBytes];by_cases c:a<b
  .have:a≠b:=λe=>by subst e;exact b7f _ c
   simp[c,this]
  .by_cases h2:b<a
   .have:a≠b:=λe=>by subst e;exact b7f _ h2
    simp[c,h2,this]
   .have:a=b:=b4w (b4b.1 h2) (b4b.1 c);subst this;simp[c,ih]
theorem jt: ∀a b:LB,Lib.compareBytes a b= -1\/Lib.compareBytes a b=0\/Lib.compareBytes a b=1
 |[],[]=>by simp[Lib.compareBytes]
 |[],_::_=>by simp[Lib.compareBytes]
 |_::_,[]=>by simp[Lib.compareBytes]
 |a::r,b::s=>by
  have ih:=jt r s;simp only[Lib.compareBytes];split
  .simp
  .split
   .simp
   .exact ih
theorem mr(x y:Ct)(E:big x.li.length)(H:big x.pi.length)(F:big y.li.length)(B:big y.pi.length):DN 66 [.agg (ct x),.agg (ct y)] (.int .i64 (nc x y)):=by refine ag_ func66 ntmps66 results66 ?_;rw[kn,kn];obtain⟨a,p⟩:=x;obtain⟨b,q⟩:=y;simp only[nc];change big a.length at E;change big p.length at H;change big b.length at F;change big q.length at B;simp only[go_sem];refine lo_ 0 (λi:Nat=>[(2,.ptr 2 0),(3,.ptr 3 0),(4,.int .i64 0),(5,.int .i64 i)]) (λ_=>[(2,.cells [.vs (a.map i1),.vs (p.map pn)]),(3,.cells [.vs (b.map i1),.vs (q.map pn)])]) (λi=>(i<=a.length/\i<=b.length)/\ue ic a b=ue ic (a.drop i) (b.drop i)) (λi=>a.length - i) ?_ ?_ ?_;{exact⟨⟨b0k _,b0k _⟩,rfl⟩};{simp only[go_sem]};.rintro i ⟨⟨hia,hib⟩,hc⟩;by_cases l:i<a.length/\i<b.length;{obtain⟨k,m⟩:=l;have f:(i:Int)<(a.length:Int):=Aa;have n:(i:Int)<(b.length:Int):=Aa;rw[vp ic k m]at hc;simp only[go_sem,f,n,k,m];refine Qq (q9 (el a i) (el b i)) [] ?_;by_cases g:ic (el a i) (el b i)=0;{rw[if_pos g]at hc;simp only[go_sem,g];refine⟨ok_,i+1,⟨⟨Aa,hc⟩,Aa⟩,?_⟩;rw[ah]<;>omega};.rw[if_neg g]at hc;simp only[go_sem,g];refine⟨ok_,?_⟩;rw[hc,or2,if_neg g]};.rw[abn ic Aa]at hc;have c:(i<a.length/\¬i<b.length)\/¬i<a.length:=Aa;rcases c with ⟨k,m⟩|k;(case' inl=>have f:(i:Int)<(a.length:Int):=Aa;have n: ¬(i:Int)<(b.length:Int):=Aa;simp only[go_sem,f,n]);(case' inr=>have f: ¬(i:Int)<(a.length:Int):=Aa;simp only[go_sem,f]);all_goals(refine Qq (q9 a.length b.length) [] ?_;by_cases g:ic a.length b.length=0;rotate_left;{simp only[go_sem,g];rw[hc,or2,if_neg g]};rw[g]at hc;simp only[go_sem,g];refine lo_ 0 (λi:Nat=>[(2,.ptr 2 0),(3,.ptr 3 0),(4,.int .i64 0),(8,.int .i64 i)]) (λ_=>[(2,.cells [.vs (a.map i1),.vs (p.map pn)]),(3,.cells [.vs (b.map i1),.vs (q.map pn)])]) (λi=>(i<=p.length/\i<=q.length)/\ue aaz p q=ue aaz (p.drop i) (q.drop i)) (λi=>p.length - i) ?_ ?_ ?_;{exact⟨⟨b0k _,b0k _⟩,rfl⟩};{simp only[go_sem]};rintro j ⟨⟨C,D⟩,d⟩;by_cases l:j<p.length/\j<q.length;{obtain⟨k,m⟩:=l;have f:(j:Int)<(p.length:Int):=Aa;have n:(j:Int)<(q.length:Int):=Aa;rw[vp aaz k m]at d;generalize A:el p j=u at d;generalize G:el q j=v at d;simp only[go_sem,f,n,k,m,A,G,pn];refine⟨ok_,?_⟩;refine Qq (q9 u.au v.au) [] ?_;by_cases r:ic u.au v.au=0;rotate_left;{have s:aaz u v=ic u.au v.au:=(by simp[aaz,or2,r]);rw[s,if_neg r]at d;simp only[go_sem,r];rw[hc,or2,if_pos rfl];exact d.symm};simp only[go_sem,r];refine Qq (q9 u.he v.he) [] ?_;by_cases o:ic u.he v.he=0;rotate_left;{have s:aaz u v=ic u.he v.he:=(by simp[aaz,or2,r,o]);rw[s,if_neg o]at d;simp only[go_sem,o];rw[hc,or2,if_pos rfl];exact d.symm};have s:aaz u v=Lib.compareBytes u.di v.di:=(by simp[aaz,or2,r,o]);rw[s]at d;by_cases t:u.di=v.di;{have z4:=(ir u.di v.di).2 t;rw[if_pos z4]at d;simp only[go_sem,o,t];refine⟨j+1,⟨⟨Aa,d⟩,Aa⟩,?_⟩;rw[ah]<;>omega};.have z4:Lib.compareBytes u.di v.di≠0:=λe=>t ((ir u.di v.di).1 e);rw[if_neg z4]at d;have w:=ux u.di v.di;by_cases z:Lib.compareBytes u.di v.di<0;{have z7:Lib.compareBytes u.di v.di= -1:=Fa;simp only[z,b8f]at w;simp only[go_sem,o,t,w];rw[hc,or2,if_pos rfl,d,z7]};.have z7:Lib.compareBytes u.di v.di=1:=Fa;simp only[z,b6e]at w;simp only[go_sem,o,t,w];rw[hc,or2,if_pos rfl,d,z7]};.rw[abn aaz Aa]at d;have c:(j<p.length/\¬j<q.length)\/¬j<p.length:=Aa;rcases c with ⟨k,m⟩|k;(case' inl=>have f:(j:Int)<(p.length:Int):=Aa;have n: ¬(j:Int)<(q.length:Int):=Aa;simp only[go_sem,f,n]);(case' inr=>have f: ¬(j:Int)<(p.length:Int):=Aa;simp only[go_sem,f]);all_goals(refine Qq (q9 p.length q.length) [] ?_;simp only[go_sem];rw[hc,or2,if_pos rfl];exact d.symm))
structure Vt where
 k:Int
 c:Cs
 x:Ct
deriving Inhabited,DecidableEq
def vt7(v:Vt):LP:=[.int .i64 v.k,.int .i64 v.c.ep,.int .i64 v.c.kd,.int .i64 v.c.su,.int .i64 v.c.ro,.vs (v.x.li.map i1),.vs (v.x.pi.map pn)]
theorem as0(v:Vt):vt7 v=[.int .i64 v.k,.int .i64 v.c.ep,.int .i64 v.c.kd,.int .i64 v.c.su,.int .i64 v.c.ro,.vs (v.x.li.map i1),.vs (v.x.pi.map pn)]:=(rfl)
attribute [go_sem] as0
structure Cn where
 x:Ct
 ks:LI
deriving Inhabited,DecidableEq
variable {P:Program}{σ:ASt}{w:World}{N i:Nat}{seats:LI}{fr:AFr}{n:Int}{acc:LB}{v:List Vt}{x:Ct}{α:Type}
def cn3(n:Cn):LP:=[.vs (n.x.li.map i1),.vs (n.x.pi.map pn),.vs (n.ks.map i1)]
theorem bgp(n:Cn):cn3 n=[.vs (n.x.li.map i1),.vs (n.x.pi.map pn),.vs (n.ks.map i1)]:=(rfl)
attribute [go_sem] bgp
def qg(x:Ct):Prop:=big x.li.length/\big x.pi.length
def aeq:LI->Int->LI
 |[],n=>[n]
 |a::l,n=>if a<n then a::aeq l n else if a=n then a::l else n::a::l
theorem a7j: ∀(l:LI) (n:Int) (k:Nat),k<=l.length->(∀j,j<k->el l j<n)->(k<l.length->¬el l k<n)->
  aeq l n=if k<l.length/\el l k=n then l else l.take k++(n::l.drop k)
 |[],n,k,hk,_,_=>by
  have:k=0:=Ay
  subst this
  simp[aeq]
 |a::l,n,0,_,_,h2=>by
  have h:=h2 Ad;have g:el (a::l) 0=a:=rfl;rw[g]at h ⊢;simp only[aeq,if_neg h];by_cases c:a=n
  .simp[c]
  .simp[c]
 |a::l,n,k+1,hk,h1,h2=>by
  have h0:a<n:=h1 0 Aa;have f:=a7j l n k Ay (λj i=>h1 (j+1) Aa) (λd=>h2 Aq);simp only[aeq,if_pos h0,f];have e:el (a::l) (k+1)=el l k:=rfl;rw[e];by_cases b:k<l.length/\el l k=n
  .rw[if_pos b,if_pos ⟨by simp;exact b.1,b.2⟩]
  .rw[if_neg b,if_neg (λh=>b ⟨by simpa using h.1,h.2⟩)];simp
theorem avz: ∀(l:LI) (n:Int),(aeq l n).length<=l.length+1
 |[],n=>by simp[aeq]
 |a::l,n=>by
  have:=avz l n;simp only[aeq];split
  .simp;omega
  .split<;>simp
theorem a1o(l:List Pn):l.length<=(l.flatMap pnB).length:=by induction l with|nil=>simp|cons p l ih=>simp only[b2m,b0a,b0q,pnB,ax];omega
theorem acg(l:LI)(n:Int)(m:l.length<=1000000):DN 221 [.vs (l.map i1),.int .i64 n] (.vs ((aeq l n).map i1)):=by refine ag_ func221 ntmps221 results221 ?_;simp only[go_sem];refine lo_ 0 (λk:Nat=>[(0,.vs (l.map i1)),(1,.int .i64 n),(5,.int .i64 k)]) (λ_=>[]) (λk=>k<=l.length/\∀j,j<k->el l j<n) (λk=>l.length - k) ?_ ?_ ?_;{exact⟨b0k _,λj g=>Aa⟩};{simp only[go_sem]};.rintro k ⟨hk,hall⟩;by_cases c:k<l.length/\el l k<n;{obtain⟨b,e⟩:=c;have a:(k:Int)<(l.length:Int):=Aa;simp only[go_sem,a,b,e];refine⟨k+1,⟨⟨Aa,λj g=> ?_⟩,Aa⟩,?_⟩;{rcases b1m.1 g with h|h;{exact hall j h};.rw[h];exact e};.rw[ah]<;>omega};.have lt:(l.take k).length=k:=Ag;have o:((l.take l.length).drop k).length=l.length - k:=Ad;have d:=a7j l n k hk hall (λa i=>c ⟨a,i⟩);by_cases b:k<l.length;{have a:(k:Int)<(l.length:Int):=Aa;have e: ¬el l k<n:=λh=>c ⟨b,h⟩;by_cases f:el l k=n;{rw[if_pos ⟨b,f⟩]at d;simp only[go_sem,a,b,e,f];exact⟨λh=>absurd h (Int.lt_irrefl n),λ_=>by rw[d]⟩};.rw[if_neg (λh=>f h.2)]at d;simp only[go_sem,a,b,e,f];(repeat refine an_ ?_);rw[d];simp;rfl};.have a: ¬(k:Int)<(l.length:Int):=Aa;rw[if_neg (λh=>b h.1)]at d;simp only[go_sem,a,b];(repeat refine an_ ?_);rw[d];simp;rfl
theorem anh(x:Ct)(h:aaf x):DN 220 [.agg (ct x)] (.agg (ct x)):=by refine ag_ func220 ntmps220 results220 ?_;have b:=b1l (a1o x.pi) h.2;have a:=h.1;rw[kn];simp only[go_sem];(repeat refine an_ ?_);exact ok_
theorem akv(x:Ct)(h:aaf x):DN 190 [.agg (ct x)] (.agg (ct x)):=by refine ag_ func190 ntmps190 results190 ?_;have b:=b1l (a1o x.pi) h.2;have a:=h.1;rw[kn];simp only[go_sem];(repeat refine an_ ?_);exact ok_
theorem cr [Inhabited α]{l:List α}(h:i<l.length):el l i∈l:=by simp only[el,bd,bq h,b1o];exact b1g _
theorem ap3(a b:Int):ic a b=0↔a=b:=by unfold ic;split;{simp;omega};.split;{simp;omega};.simp;omega
theorem a1n(a b:Int):or2 a b=0↔a=0/\b=0:=by unfold or2;split;{simp_all};.simp_all
theorem bjy(p q:Pn):aaz p q=0↔p=q:=by cases p;cases q;simp only[aaz,a1n,ap3,ir,Pn.mk.injEq]
theorem aiy(f:α->α->Int)(c: ∀x y,f x y=0↔x=y): ∀a b:List α,ue f a b=0↔a=b
 |[],[]=>by simp[ue]
 |[],_::_=>by simp[ue]
 |_::_,[]=>by simp[ue]
 |x::a,y::b=>by
  have ih:=aiy f c a b;simp only[ue];split
  .rename_i h;rw[ih];simp[(c x y).1 h]
  .rename_i h;have:x≠y:=λe=>h ((c x y).2 e);simp[h,this]
theorem n7(x y:Ct):nc x y=0↔x=y:=by cases x;cases y;simp only[nc,a1n,aiy ic ap3,aiy aaz bjy,Ct.mk.injEq]
def twK(v:List Vt)(i:Nat)(out:LI)(k:Nat):LI:=
 (List.range k).foldl (λo k=>if(el v i).k=(el v k).k/\(el v i).x≠(el v k).x then aeq o (el v i).k else o) out
theorem bqp(v:List Vt)(i:Nat)(a:LI):twK v i a 0=a:=rfl
def tg:List Cn->Vt->List Cn
 |[],y=>[⟨y.x,[y.k]⟩]
 |n::r,y=>if nc n.x y.x<0 then n::tg r y else if n.x=y.x then⟨n.x,aeq n.ks y.k⟩::r else⟨y.x,[y.k]⟩::n::r
def cnI(seats:LI)(v:List Vt)(i:Nat):List Cn:=(v.take i).foldl (λo y=>if y.k∈seats then tg o y else o) []
def cnR(seats:LI)(v:List Vt):List Cn:=cnI seats v v.length
theorem ajl(h:i<v.length):cnI seats v (i+1)=if(el v i).k∈seats then tg (cnI seats v i) (el v i)else cnI seats v i:=by simp only[cnI,bt h,b22,b2j,b5q]
theorem aua: ∀(o:List Cn) (y:Vt),(tg o y).length<=o.length+1
 |[],y=>by simp[tg]
 |n::r,y=>by
  have:=aua r y;simp only[tg];split
  .simp;omega
  .split<;>simp
theorem asi: ∀(o:List Cn) (y:Vt) (k:Nat),k<=o.length->(∀j,j<k->nc (el o j).x y.x<0)->(k<o.length->¬nc (el o k).x y.x<0)->
  tg o y=if k<o.length/\(el o k).x=y.x then o.set k ⟨y.x,aeq (el o k).ks y.k⟩else o.take k++(⟨y.x,[y.k]⟩::o.drop k)
 |[],y,k,hk,_,_=>by
  have:k=0:=Ay
  subst this
  simp[tg]
 |n::r,y,0,_,_,h2=>by
  have h:=h2 Ad;have f:el (n::r) 0=n:=rfl;rw[f]at h ⊢;simp only[tg,if_neg h];by_cases b:n.x=y.x
  .simp[b]
  .simp[b]
 |n::r,y,k+1,hk,h1,h2=>by
  have h0:nc n.x y.x<0:=h1 0 Aa;have e:=asi r y k Ay (λj g=>h1 (j+1) Aa) (λc=>h2 Au);simp only[tg,if_pos h0,e];have d:el (n::r) (k+1)=el r k:=rfl;rw[d];by_cases a:k<r.length/\(el r k).x=y.x
  .rw[if_pos a,if_pos ⟨by simp;exact a.1,a.2⟩];simp
  .rw[if_neg a,if_neg (λh=>a ⟨by simpa using h.1,h.2⟩)];simp
theorem a68{m:Nat}: ∀{o:List Cn} {y:Vt},(∀n∈o,aaf n.x/\n.ks.length<=m)->aaf y.x->∀n∈tg o y,aaf n.x/\n.ks.length<=m+1
 |[],y,_,hy,n,hn=>by
  simp only[tg,b1h]at hn;subst hn
  exact⟨hy,by simp⟩
 |a::r,y,ho,hy,n,hn=>by
  have ha:=ho a Ad;simp only[tg]at hn;split at hn
  .rcases b0p.1 hn with rfl|h
   .exact⟨ha.1,Aa⟩
   .exact a68 (λn hn=>ho n By) hy n h
  .split at hn
   .rcases b0p.1 hn with rfl|h
    .exact⟨ha.1,by have:=avz a.ks y.k;simp only;omega⟩
    .have:=ho n Ev;exact⟨this.1,Aa⟩
   .rcases b0p.1 hn with rfl|h
    .exact⟨hy,Ad⟩
    .have:=ho n h;exact⟨this.1,Aa⟩
theorem ak8(seats:LI)(hx: ∀y∈v,aaf y.x): ∀i,i<=v.length->(cnI seats v i).length<=i/\∀n∈cnI seats v i,aaf n.x/\n.ks.length<=i
 |0,_=>by simp[cnI]
 |i+1,h=>by
  have ih:=ak8 seats hx i Aa;have hlt:i<v.length:=Aa
  rw[ajl hlt];split
  .exact⟨b1l (aua _ _) Aa,a68 ih.2 (hx _ (cr hlt))⟩
  .exact⟨Aa,λn a=>⟨(ih.2 n a).1,by have:=(ih.2 n a).2;omega⟩⟩
theorem lm(h:aaf x):qg x:=⟨by have:=h.1;simp only[big];omega,by have:=b1l (a1o x.pi) h.2;simp only[big];omega⟩
theorem bjd(seats:LI)(v:List Vt)(hv:v.length<=900)(hs:big seats.length)(hx: ∀y∈v,aaf y.x):DN 164 [.vs (v.map vt7),.vs (seats.map i1)] (.vs ((cnR seats v).map cn3)):=by refine ag_ func164 ntmps164 results164 ?_;simp only[go_sem];refine bm 5 99 207 3 false ?_ ?_ ?_ Aa;{refine yw mx_ 0 (λi:Nat=>[(0,.vs (v.map vt7)),(1,.vs (seats.map i1)),(5,.os 99 (cnI seats v i).length),(6,.int .i64 i)]) (λi=>[(99,.arr 207 3 false ((cnI seats v i).map cn3))]) (λi=>i<=v.length) (λi=>v.length - i) Ae (b0k _) ?_ ?_;{refine Cv.wk ?_;simp only[go_sem];exact⟨rfl,rfl⟩};.intro i hi;by_cases a:i<v.length;{have h1:(i:Int)<(v.length:Int):=Aa;obtain⟨M,K⟩:=ak8 seats hx i hi;have g:=ajl (seats:=seats) a;have s:=hx (el v i) (cr a);have f:=lm s;simp only[go_sem,h1,a];refine Qq (pz seats (el v i).k hs) [] ?_;by_cases D:(el v i).k∈seats;rotate_left;{rw[if_neg D]at g;simp only[go_sem,D];refine⟨i+1,Aa,Cv.wk ?_⟩;simp only[go_sem,g];rw[ah]<;>omega};rw[if_pos D]at g;generalize L:cnI seats v i=o at*;simp only[go_sem,D];refine yw mx_ 0 (λk:Nat=>[(0,.vs (v.map vt7)),(1,.vs (seats.map i1)),(5,.os 99 o.length),(6,.int .i64 i),(7,.int .i64 k)]) (λ_=>[(99,.arr 207 3 false (o.map cn3))]) (λk=>k<=o.length/\∀j,j<k->nc (el o j).x (el v i).x<0) (λk=>o.length - k) Ae ⟨b0k _,λj J=>Aa⟩ ?_ ?_;{refine Cv.wk ?_;simp only[go_sem]};rintro k ⟨C,u⟩;by_cases b:k<o.length;{have h2:(k:Int)<(o.length:Int):=Aa;have F:=K (el o k) (cr b);have l:=lm F.1;simp only[go_sem,h2,b,a];refine Qq (mr (el o k).x (el v i).x l.1 l.2 f.1 f.2) [] ?_;by_cases B:nc (el o k).x (el v i).x<0;{simp only[go_sem,B];refine⟨ok_,k+1,⟨⟨Aa,λj J=> ?_⟩,Aa⟩,Cv.wk ?_⟩;{rcases b1m.1 J with h|h;{exact u j h};.rw[h];exact B};.simp only[go_sem];rw[ah]<;>omega};have d:=asi o (el v i) k C u (λ_=>B);have A: ¬(k:Int)=(o.length:Int):=Aa;by_cases E:nc (el o k).x (el v i).x=0;{have z3:=(n7 _ _).1 E;rw[if_pos ⟨b,z3⟩]at d;simp only[go_sem,B];refine⟨ok_,ng _ _ ?_⟩;simp only[go_sem,A,b,a];refine Qq (mr (el o k).x (el v i).x l.1 l.2 f.1 f.2) [] ?_;simp only[go_sem,E,b,a];refine⟨ok_,?_⟩;refine Qq (acg (el o k).ks (el v i).k Aa) [] ?_;simp only[go_sem,b,a];refine⟨ok_,i+1,Aa,Cv.wk ?_⟩;simp only[go_sem,g,d];refine⟨⟨Ad,Ab⟩,?_⟩;rw[b2r];congr 1;rw[bgp,<-z3]};.rw[if_neg (λh=>E ((n7 _ _).2 h.2))]at d;simp only[go_sem,B];refine⟨ok_,?_⟩;refine⟨_,_,Cv.trans (fr':=[(0,.vs (v.map vt7)),(1,.vs (seats.map i1)),(5,.os 99 o.length),(6,.int .i64 i),(7,.int .i64 k)]) (σ':=[(99,.arr 207 3 false (o.map cn3))]) (Cv.wk ?_) (Cv.asL (n:=99) (slot:=5) (e:=207) (sz:=3) (sh:=false) (xs:=o.map cn3) (by simp[look]) (by simp[ai])),?_⟩;{simp only[go_sem]};simp only[go_sem,A,b,a];refine Qq (mr (el o k).x (el v i).x l.1 l.2 f.1 f.2) [] ?_;simp only[go_sem,E,b,a];refine⟨ok_,?_⟩;have t:(o.take k).length=k:=Ag;have I:((o.take o.length).drop k).length=o.length - k:=Ad;(repeat refine an_ ?_);refine Qq (anh (el v i).x s) [] ?_;simp only[go_sem,t,I];(repeat refine an_ ?_);have H:List.map cn3 (List.take k o)++[[PV.vs (List.map i1 (el v i).x.li),PV.vs (List.map pn (el v i).x.pi),PV.vs []]]++List.map cn3 (List.drop k (List.take o.length o))=(o.take k++⟨(el v i).x,[]⟩::o.drop k).map cn3:=(by simp[cn3]);have c:k<(o.take k++(⟨(el v i).x,[]⟩:Cn)::o.drop k).length:=Ag;have r:el (o.take k++(⟨(el v i).x,[]⟩:Cn)::o.drop k) k=⟨(el v i).x,[]⟩:=(by simp[el,bd,t]);have p:(o.take k++(⟨(el v i).x,[]⟩:Cn)::o.drop k).set k ⟨(el v i).x,[(el v i).k]⟩=tg o (el v i):=(by rw[d];simp[b7g,t]);have z:(o.take k++(⟨(el v i).x,[]⟩:Cn)::o.drop k).length=k+1+(o.length - k):=Ag;rw[H];generalize (o.take k++(⟨(el v i).x,[]⟩:Cn)::o.drop k)=Z at*;rw[<-z];have q:dq (List.map cn3 Z) k=cn3 ⟨(el v i).x,[]⟩:=(by rw[v8 cn3 Z k c,r]);rw[q];simp only[go_sem,c,a];refine Qq (acg [] (el v i).k Ad) [] ?_;simp only[go_sem,c,q];have m:(List.map cn3 Z).set k [PV.vs (List.map i1 (el v i).x.li),PV.vs (List.map pn (el v i).x.pi),PV.vs (List.map i1 (aeq [] (el v i).k))]=List.map cn3 (tg o (el v i)):=(by rw[<-p,b2r];rfl);have w:Z.length=(tg o (el v i)).length:=(by rw[<-p,b15]);refine⟨ok_,i+1,Aa,Cv.trans (fr':=[(0,.vs (v.map vt7)),(1,.vs (seats.map i1)),(5,.os 60 Z.length),(6,.int .i64 (i+1:Nat))]) (σ':=[(60,.arr 207 3 false ((tg o (el v i)).map cn3))]) (Cv.wk ?_) (Cv.wkR [(60,99)] ?_)⟩;{simp only[go_sem,m];rw[r];exact⟨Ab,m⟩};.simp only[go_sem,g,w]};.have h2: ¬(k:Int)<(o.length:Int):=Aa;have G:((k:Int)=(o.length:Int))=True:=Ag;have d:=asi o (el v i) k C u (λh=>absurd h b);rw[if_neg (λh=>b h.1)]at d;simp only[go_sem,h2];refine⟨ok_,?_⟩;refine⟨_,_,Cv.trans (fr':=[(0,.vs (v.map vt7)),(1,.vs (seats.map i1)),(5,.os 99 o.length),(6,.int .i64 i),(7,.int .i64 k)]) (σ':=[(99,.arr 207 3 false (o.map cn3))]) (Cv.wk ?_) (Cv.asL (n:=99) (slot:=5) (e:=207) (sz:=3) (sh:=false) (xs:=o.map cn3) (by simp[look]) (by simp[ai])),?_⟩;{simp only[go_sem]};simp only[go_sem,h2,G,a];refine⟨ok_,?_⟩;have t:(o.take k).length=k:=Ag;have I:((o.take o.length).drop k).length=o.length - k:=Ad;(repeat refine an_ ?_);refine Qq (anh (el v i).x s) [] ?_;simp only[go_sem,t,I];(repeat refine an_ ?_);have H:List.map cn3 (List.take k o)++[[PV.vs (List.map i1 (el v i).x.li),PV.vs (List.map pn (el v i).x.pi),PV.vs []]]++List.map cn3 (List.drop k (List.take o.length o))=(o.take k++⟨(el v i).x,[]⟩::o.drop k).map cn3:=(by simp[cn3]);have c:k<(o.take k++(⟨(el v i).x,[]⟩:Cn)::o.drop k).length:=Ag;have r:el (o.take k++(⟨(el v i).x,[]⟩:Cn)::o.drop k) k=⟨(el v i).x,[]⟩:=(by simp[el,bd,t]);have p:(o.take k++(⟨(el v i).x,[]⟩:Cn)::o.drop k).set k ⟨(el v i).x,[(el v i).k]⟩=tg o (el v i):=(by rw[d];simp[b7g,t]);have z:(o.take k++(⟨(el v i).x,[]⟩:Cn)::o.drop k).length=k+1+(o.length - k):=Ag;rw[H];generalize (o.take k++(⟨(el v i).x,[]⟩:Cn)::o.drop k)=Z at*;rw[<-z];have q:dq (List.map cn3 Z) k=cn3 ⟨(el v i).x,[]⟩:=(by rw[v8 cn3 Z k c,r]);rw[q];simp only[go_sem,c,a];refine Qq (acg [] (el v i).k Ad) [] ?_;simp only[go_sem,c,q];have m:(List.map cn3 Z).set k [PV.vs (List.map i1 (el v i).x.li),PV.vs (List.map pn (el v i).x.pi),PV.vs (List.map i1 (aeq [] (el v i).k))]=List.map cn3 (tg o (el v i)):=(by rw[<-p,b2r];rfl);have w:Z.length=(tg o (el v i)).length:=(by rw[<-p,b15]);refine⟨ok_,i+1,Aa,Cv.trans (fr':=[(0,.vs (v.map vt7)),(1,.vs (seats.map i1)),(5,.os 60 Z.length),(6,.int .i64 (i+1:Nat))]) (σ':=[(60,.arr 207 3 false ((tg o (el v i)).map cn3))]) (Cv.wk ?_) (Cv.wkR [(60,99)] ?_)⟩;{simp only[go_sem,m];rw[r];exact⟨Ab,m⟩};.simp only[go_sem,g,w]};.have h1: ¬(i:Int)<(v.length:Int):=Aa;have:i=v.length:=Aa;subst this;simp only[go_sem,h1];refine ng _ _ ?_;simp only[go_sem];rfl};{simp only[go_sem]};.simp only[go_sem]
def srt(l:LI):LI:=l.mergeSort λx y=>decide (x<=y)
theorem js(l:LI):(srt l).length=l.length:=b3b l
theorem atf(l:LI)(c:l.length<4611686018427387904):Den prog 124 [.os 1000000 l.length] [.arr 3 1 false (l.map i1)] (.tup []) [] [.arr 3 1 false ((srt l).map i1)]:=
 aqk (e:=3) (l:=l) (new:=srt l) (enters_of func124 Ae rfl) (js l)
  (λg a w d b _=>Any.slices_Sort_int Tryz.laysSort g 0 a l w d b c)
  (λh p a w=>Any.slices_Sort_int_none Tryz.laysSort p a w)
def a9c(l:LI):LI:=Lib.compact l
theorem bk7(l:LI):(a9c l).length<=l.length:=by simp only[a9c,Lib.compact,Lib.compactUpTo,b0x];exact b1l (b05 _ _) Ad
def bpd(l:LI):LI:=a9c l++List.replicate (l.length - (a9c l).length) 0
theorem ahb(l:LI):(bpd l).length=l.length:=by have:=bk7 l;simp[bpd];omega
theorem ab6(l:LI)(b:l.length<=9223372036854775807):Den prog 88 [.os 1000000 l.length] [.arr 3 1 false (l.map i1)] (.vs ((a9c l).map i1)) [] [.arr 3 1 true ((bpd l).map i1)]:=
 bji (e:=3) (l:=l) (enters_of func88 Ae rfl) (ahb l) (by simp[bpd]) (λg a w d f c=>Any.slices_Compact_int Tryz.laysCompact g 0 a l w d b c)
  λh p a w=>Any.slices_Compact_int_empty Tryz.laysCompact p a w
/- Who votes twice: the program's. -/
open Go Go.RowKit
theorem att:(prog.info? 292).map (·.size)=some 2:=Ae
theorem bar:liesAt prog prog.depth 292 (2/prog.cellsOf 292) 0 292 1=true:=Ae
theorem bjs(b:Nat)(w:World)(h0:w.cell? ⟨b,0,none⟩=some (.pointer (some ⟨b,0,none⟩))):
  Calls prog 314 #[.pointer (some ⟨b,0,none⟩)] w λe w'=>e= .returned (.tuple #[])/\w'=w:=by obtain⟨j,hj,_⟩:=b4n.1 att;go_enter func314,ntmps314;go_wp2;rw[Lib.run_neq_ptr_same w _ Tryz.underlying290 hj];go_wp2;go_end0;exact⟨rfl,rfl⟩
theorem bdj(b:Nat)(w:World)(h0:w.cell? ⟨b,0,none⟩=some (.pointer none))(hsh:w.shape? b=some (292,2))(hfz:w.frozen? ⟨b,0,none⟩=false):
  Calls prog 314 #[.pointer (some ⟨b,0,none⟩)] w λe w'=>e= .returned (.tuple #[])/\w'=w.setCell ⟨b,0,none⟩ (.pointer (some ⟨b,0,none⟩)):=by obtain⟨j,hj,hjs⟩:=b4n.1 att;go_enter func314,ntmps314;go_wp2;rw[Lib.run_to_unsafe w ⟨b,0,none⟩ Tryz.underlying290 Tryz.underlying389 hj (by rw[hjs];decide) hsh (Nat.zero_lt_succ 1)];simp only[Result.andThen];rw[b1p];go_wp2;rw[run_callFunc_extern func376 Ae Ae Ae (e:=Extern.AbiNoEscape.same) Ae];rw[Lib.run_noEscape];simp only[Result.andThen];rw[b1p];go_wp2;rw[Lib.run_from_unsafe w ⟨b,0,none⟩ Tryz.underlying389 Tryz.underlying290 hj hsh bar];simp only[Result.andThen];rw[b1p];go_wp2;go_end0;exact⟨rfl,rfl⟩
def kept(b:Nat)(w w':World):Prop:= ∀(k:Nat) (o:Obj),w.heap[k]? =some o->k≠b->(∀cur fr,o≠ .cells cur 5 fr)->w'.heap[k]? =some o
theorem zd(b off:Nat)(v:Value)(w:World):kept b w (w.setCell ⟨b,off,none⟩ v):=λk o h a _=>by
 show((w.setCell ⟨b,off,none⟩ v).heap)[k]? =_;rw[setCell_eq];simp only[mapBlock,b3w,if_neg (Ne.symm a)];exact h
theorem bnh(B b:Nat)(a:List Value)(w:World)(h:Lib.IsBuilder 292 5 B b a w):
  Calls prog 314 #[.pointer (some ⟨b,0,none⟩)] w λe w'=>e= .returned (.tuple #[])/\(Lib.BuilderAt 292 5 B b (.pointer (some ⟨b,0,none⟩)) a w'/\Below B w w'/\kept b w w'):=by rcases h with h|h;{refine(bdj b w h.cell0 h.shape h.frozen0).mono ?_;rintro e w' ⟨rfl,rfl⟩;exact⟨rfl,h.used _,(b4v B w).setCell (p:=⟨b,0,none⟩) h.1 _,zd b 0 _ w⟩};.refine(bjs b w h.cell0).mono ?_;rintro e w' ⟨rfl,rfl⟩;exact⟨rfl,h,b4v B _,λk o h _ _=>h⟩
theorem btk(B b:Nat)(bs:List Value)(s:ByteArray)(w:World)(h:Lib.IsBuilder 292 5 B b bs w)(hlen:bs.length+s.size<=140737488355328)(hBw:B<=w.heap.size):
  Calls prog 267 #[.pointer (some ⟨b,0,none⟩),.string s] w λe w'=>e= .returned (.tuple #[.int .i64 s.size,.nilIface])/\(Lib.IsBuilder 292 5 B b (bs++Lib.strCells s) w'/\Below B w w'/\kept b w w'):=by
 obtain⟨i0,hi,hz0,hz1,hz2⟩:=info_parts (show(prog.info? 5).map (λi=>(i.zero,i.size,i.bytes))=some (some (.int .u8 0),1,1) from Ae);have ecc: ∀us w,(callFunc 314 us).run prog w= .ok (.enter 314 us) w:=enters_of func314 Ae rfl
 go_enter func267,ntmps267
 go_wp2_with (go_at_fn 314;refine(bnh B b bs _ h).mono ?_)
 rintro e w1 ⟨rfl,h1,hb1,hk1⟩;have HK1:Aside (kept b w w1):=hk1;clear hk1;obtain⟨hB,v,hbk,hown,hne⟩:=h1;have c0:w1.cell? ⟨b,0,none⟩=some (.pointer (some ⟨b,0,none⟩)):=by rw[Lib.cell_of_heap hbk];rfl
 have c1:w1.cell? ⟨b,1,none⟩=some v:=by rw[Lib.cell_of_heap hbk];rfl
 go_wp2_with (at_builtin;refine Lib.wpList_append_own_string _ rfl _ _ 123 9 rfl B 5 i0 Tryz.underlying123 Tryz.underlying9 hi hz0 hz1 hz2 _ _ _ rfl hown s rfl ?c3 ?c4 ?c5 ?_)
 case c3=>unfold maxLen;omega
 case c4=>omega
 case c5=>have:=hb1.size;omega
 intro v' w2 hown' hgrow _
 have hlt:b<w1.heap.size:=by rcases b5u b w1.heap.size with h'|h';{exact h'};.simp[b36 h']at hbk
 have hb2:w2.heap[b]? =some (.cells #[.pointer (some ⟨b,0,none⟩),v] 292 (0,0)):=by rw[hgrow.block b hlt (λe=>hne e.symm)];exact hbk
 have d0:w2.cell? ⟨b,0,none⟩=some (.pointer (some ⟨b,0,none⟩)):=by rw[Lib.cell_of_heap hb2];rfl
 have d1:w2.cell? ⟨b,1,none⟩=some v:=by rw[Lib.cell_of_heap hb2];rfl
 have f1:w2.frozen? ⟨b,1,none⟩=false:=Lib.frozen_of_heap hb2 1
 obtain⟨ao,n',cap,rfl⟩: ∃ao n' cap,v'= .slice ao n' cap:=by rcases hown'.2 with ⟨hv,_⟩|⟨g,cap,cur,hv,_⟩;{exact⟨_,_,_,hv⟩};.exact⟨_,_,_,hv⟩
 have HK2:Aside (kept b w1 w2):=λk o h hk hty=>by rw[hgrow.block k (b03.1 h).1 (λe=> ?_)];{exact h};.rcases hown.2 with ⟨hv,_⟩|⟨g,cap,cur,hv,_,q2,_⟩;{rw[hv]at e;cases e};.rw[hv]at e;simp only[Value.ownBlock,b0c]at e;subst e;rw[q2]at h;cases h;exact hty _ _ rfl
 go_wp2
 go_ret2
 refine⟨rfl,Or.inr ?_,?_,λk o h hk hty=>zd b 1 _ w2 k o (HK2.out k o (HK1.out k o h hk hty) hk hty) hk hty⟩
 .exact Lib.BuilderAt.put (T:=292) (e:=5) hB hb2 (bs':=bs++Lib.strCells s) (by simpa [Lib.strCells_length] using hown') Ar
 .exact(hb1.grown hgrow (by have:=hb1.size;omega) (λk hk=>(hown.lt k hk).1)).setCell (p:=⟨b,1,none⟩) hB _
def inR(n:Int):Prop:= -9223372036854775808<=n/\n<=9223372036854775807
instance (n:Int):Decidable (inR n):=by unfold inR;exact inferInstance
def nB(n:Int):LB:=Lib.itoa n++[44]
def plX(x:Ct):Prop:=x.pi=[]/\∀n∈x.li,n=0\/n=1
def gw(x:Ct):LB:=x.li.flatMap nB
def okO(x:Ct):Prop:=aaf x/\(∀n∈x.li,inR n)/\∀p∈x.pi,inR p.au/\inR p.he
def okX(x:Ct):Prop:=aaf x/\(∀n∈x.li,inR n)/\plX x
theorem okO.okX(h:okO x)(a:plX x):Am.okX x:=⟨h.1,h.2.1,a⟩
theorem aq8(h:inR n):(Lib.itoa n).length<=21:=Lib.itoa_length_le n h.1 h.2
theorem boh(h:inR n):(nB n).length<=22:=by have:=aq8 h;simp[nB];omega
theorem bpm(l:LI)(h: ∀n∈l,inR n):(l.flatMap nB).length<=22*l.length:=by induction l with|nil=>simp|cons n l ih=>have c:=boh (h n Ad);have b:=ih λm a=>h m Dw;simp only[b2m,b0a,b0q];omega
theorem a0i{T e:TypeId}{B b:Nat}{a:List Value}{W c:World}(h:Lib.IsBuilder T e B b a W)(j:Below W.heap.size W c):Lib.IsBuilder T e B b a c:=by have i: ∀p,Lib.BuilderAt T e B b p a W->Lib.BuilderAt T e B b p a c:=(by rintro p ⟨k,v,d,f,l⟩;refine⟨k,v,(j.block _ ?_).trans d,⟨f.1,?_⟩,l⟩;{exact(b03.1 d).1};.rcases f.2 with h5|⟨g,cap,cur,rfl,q1,q2,q3⟩;{exact .inl h5};.exact .inr ⟨g,cap,cur,rfl,q1,(j.block _ (b03.1 q2).1).trans q2,q3⟩);rcases h with h|h;{exact .inl (i _ h)};.exact .inr (i _ h)
structure TJ(w:World)(acc:LB)(W:World):Prop where
 bld:Lib.IsBuilder 292 5 w.heap.size w.heap.size (Lib.byteCells acc) W
 bel:Below w.heap.size w W
theorem TJ.laid{W:World}(h:TJ w acc W)(c:Laid prog w):Laid prog W:=
 ab9 c W λb _ a=>(h.bel.block b (b03.1 a).1).trans a
theorem TJ.step{W b:World}(h:TJ w acc W)(a:Below W.heap.size W b):TJ w acc b:=
 ⟨a0i h.bld a,⟨a.os.trans h.bel.os,a.tape.trans h.bel.tape,a.output.trans h.bel.output,b1l h.bel.size a.size,λk c=>(a.block k (b24 c h.bel.size)).trans (h.bel.block k c)⟩⟩
theorem a82:Lib.itoa 0=[48]/\Lib.itoa 1=[49]:=B5
theorem a6q(n:Int)(a:n=0\/n=1):DN 417 [.int .i64 n] (.str (Lib.itoa n)):=by rcases a with rfl|rfl;{refine ah_ [] [] func417 ntmps417 results417 ?_;rw[a82.1];simp only[go_sem];exact⟨B5,B5⟩};.refine ah_ [] [] func417 ntmps417 results417 ?_;rw[a82.2];simp only[go_sem];exact⟨B5,B5⟩
theorem bjg(n:Int)(a:n=0\/n=1):DN 377 [.int .i64 n,.int .i64 10] (.str (Lib.itoa n)):=by refine ag_ func377 ntmps377 results377 ?_;have b:0<=n:=Aa;have c:n<100:=Aa;simp only[go_sem,b,c];refine Qq (a6q n a) [] ?_;simp only[go_sem]
theorem a4g(n:Int)(a:n=0\/n=1):DN 315 [.int .i64 n] (.str (Lib.itoa n)):=by refine ag_ func315 ntmps315 results315 ?_;simp only[go_sem];refine Qq (bjg n a) [] ?_;simp only[go_sem]
theorem a9v(n:Int)(a:n=0\/n=1):DN 268 [.int .i64 n] (.str (Lib.itoa n)):=by refine ag_ func268 ntmps268 results268 ?_;simp only[go_sem];refine Qq (a4g n a) [] ?_;simp only[go_sem]
theorem bry(n:Int)(f:n=0\/n=1)(w W:World)(c:LB)(h:TJ w c W):
  Calls prog 268 #[.int .i64 n] W λe W'=>e= .returned (.string ⟨(Lib.itoa n).toArray⟩)/\TJ w c W'/\Below W.heap.size W W':=by refine(vq (a9v n f) W ⟨trivial⟩ (λ_=>True) [.int .i64 n] rfl λi v u a b=> ?_).mono λe W'=> ?_;{match i,a,b with|0,a,b=>simp only[b1n,b0c]at a b;subst a b;exact .int _ _|i+1,a,b=>simp at a};.rintro⟨v,rfl,hg,E,hR,_⟩;have d:Below W.heap.size W W':=(b4v _ W).grown hg (b0f _) λk g=>(by cases g);rw[hR.str_inv];exact⟨rfl,h.step d,d⟩
theorem bsb(s:ByteArray)(w W:World)(a:LB)(h:TJ w a W)(f:a.length+s.size<=140737488355328):
  Calls prog 267 #[.pointer (some ⟨w.heap.size,0,none⟩),.string s] W λe W'=>e= .returned (.tuple #[.int .i64 s.size,.nilIface])/\TJ w (a++s.data.toList) W'/\kept w.heap.size W W':=by refine(btk w.heap.size w.heap.size _ s W h.bld (by rw[Lib.byteCells_length];exact f) h.bel.size).mono ?_;rintro e W' ⟨rfl,b,c,d⟩;exact⟨rfl,⟨by rw[Lib.byteCells_append];exact b,h.bel.trans c⟩,d⟩
theorem bhy(w:World)(o:Obj):w.heap.size+1=(w.alloc o).heap.size:=Ad
theorem ble(w:World)(u v:Value)(t:TypeId):(w.alloc (.cells #[u,v] t)).cell? ⟨w.heap.size,1,none⟩=some v:=by have:(w.alloc (.cells #[u,v] t)).heap[w.heap.size]? =some (.cells #[u,v] t (0,0)):=(by show(w.heap.push (.cells #[u,v] t))[w.heap.size]? =_;rw[Array.getElem?_push_size]);rw[Lib.cell_of_heap this];rfl
theorem al9(f:α->LB)(l:List α)(i:Nat):((l.take i).flatMap f).length<=(l.flatMap f).length:=by
 conv=>rhs;rw[<-b3u i l,b29,b0a]
 omega
theorem be4(l:List Pn):l.length<=(l.flatMap pnB).length:=by induction l with|nil=>simp|cons p l ih=>simp only[b2m,b0a,b0q,pnB,ax];omega
theorem azq(x:Ct)(hx:okX x)(w:World)(a1 a2:Option Addr)(c1 c2:Nat)
  (hli:0<x.li.length->∃b o,a1=some ⟨b,o,none⟩/\∀i,i<x.li.length->w.cell? ⟨b,o+i,none⟩=some (.int .i64 (el x.li i))):
  Calls prog 189 #[.agg #[.slice a1 x.li.length c1,.slice a2 x.pi.length c2]] w λe w'=>e= .returned (.string ⟨(gw x).toArray⟩)/\Below w.heap.size w w':=by have HX:Aside (okX x):=hx;have HLi:Aside _:=hli;have HQ:Aside (plX x):=hx.2.2;clear hx hli;obtain⟨n1,e1⟩: ∃n,n=x.li.length:=⟨_,rfl⟩;obtain⟨n2,e2⟩: ∃n,n=x.pi.length:=⟨_,rfl⟩;rw[<-e1,<-e2];have E12:Aside (n1=x.li.length/\n2=x.pi.length):=⟨e1,e2⟩;have hb1:n1<=1000000:=(by rw[e1];exact HX.out.1.1);have hb2:n2<=100000000:=(by rw[e2];exact b1l (be4 x.pi) HX.out.1.2);clear e1 e2;go_enter func189,ntmps189;go_wp2;have s1:w.heap.size+1=(w.alloc (.cells #[.slice a1 n1 c1,.slice a2 n2 c2] 44)).heap.size:=bhy w _;have d0:(w.alloc (.cells #[.slice a1 n1 c1,.slice a2 n2 c2] 44)).cell? ⟨w.heap.size,1,none⟩=some (.slice a2 n2 c2):=ble w _ _ _;have bw:Below w.heap.size w (w.alloc (.cells #[.slice a1 n1 c1,.slice a2 n2 c2] 44)):=(b4v _ w).alloc (b0f _) _;rw[s1];generalize w.alloc (.cells #[.slice a1 n1 c1,.slice a2 n2 c2] 44)=w1 at s1 d0 bw ⊢;have T0:Aside (TJ w1 [] (w1.alloc (.cells #[.pointer none,.slice none 0 0] 292))):=⟨Lib.fresh_isBuilder _ _ w1,(b4v _ w1).alloc (b0f _) _⟩;have KW:Aside (w.heap.size+1=w1.heap.size/\w1.cell? ⟨w.heap.size,1,none⟩=some (.slice a2 n2 c2)/\Below w.heap.size w w1):=⟨s1,d0,bw⟩;clear s1 d0 bw;generalize w1.alloc (.cells #[.pointer none,.slice none 0 0] 292)=W0 at T0 ⊢;go_loopg [11] n1 (λg v wr=> ∃i:Nat,v= .int .i64 i/\i<=n1/\n1<=i+g/\Aside (TJ w1 ((x.li.take i).flatMap nB) wr));(case atStart=>exact⟨0,rfl,b0k _,Aa,T0.out⟩);case round=>clear T0;obtain⟨i,rfl,hi,hg,T⟩:=hrel;by_cases hlt:i<n1;{have hltz:(i:Int)<(n1:Int):=Aa;obtain⟨b,o,rfl,hc⟩:=HLi.out (by rw[<-E12.out.1];omega);have hci:wr.cell? ⟨b,o+i,none⟩=some (.int .i64 (el x.li i)):=(by have h1:=hc i (by rw[<-E12.out.1];exact hlt);have h2:=T.out.bel.cell (p:=⟨b,o+i,none⟩) (by have:=block_lt_of_cell h1;have:=KW.out.1;simp only at*;omega);rw[h2,KW.out.2.2.cell (p:=⟨b,o+i,none⟩) (block_lt_of_cell h1)];exact h1);clear hc;have hin:inR (el x.li i):=HX.out.2.1 _ Ck;have hm: ¬(9223372036854775807<(Lib.itoa (el x.li i)).length+1):=(by have:=aq8 hin;omega);have HIN:Aside (inR (el x.li i)):=hin;have HIM:Aside (el x.li i=0\/el x.li i=1):=HQ.out.2 _ Ck;clear hin;go_wp2_with (go_at_call 268;refine(bry _ HIM.out w1 _ _ T.out).mono ?_);rintro e W2 ⟨rfl,T2,_⟩;clear T;have T2':Aside (TJ w1 (List.flatMap nB (List.take i x.li)) W2):=T2;clear T2;go_wp2_with (go_at_call 267;refine(bsb _ w1 _ _ T2'.out ?hw).mono ?_);(case hw=>have a1:=bpm x.li HX.out.2.1;have a2:=HX.out.1.1;have a3:=aq8 HIN.out;have a4:=al9 nB x.li i;have a5:(({data:=(Lib.itoa (el x.li i)).toArray}:ByteArray)++{data:= #[44]}).size=(Lib.itoa (el x.li i)).length+1:=(by simp[ByteArray.size_append,ByteArray.size]);omega);rintro e W3 ⟨rfl,T3,_⟩;have T3':Aside (TJ w1 _ W3):=T3;clear T3;go_wp2;go_roundg (n1 - (i+1));(case measure=>omega);case rel=>refine⟨i+1,by go_num,Aa,Aa,?_⟩;have a1:i<x.li.length:=(by rw[<-E12.out.1];exact hlt);have a2:(x.li.take (i+1)).flatMap nB=(x.li.take i).flatMap nB++(({data:=(Lib.itoa (el x.li i)).toArray}:ByteArray)++{data:= #[44]}).data.toList:=(by rw[bt a1,b29];simp[nB]);show TJ w1 _ _;rw[a2];exact T3'.out};.have hin1:i=n1:=Aa;subst hin1;have T1:Aside (TJ w1 (x.li.flatMap nB) wr):=(by have:=T.out;rw[E12.out.1,b0n]at this;exact this);clear T hg hi HLi;have hltz: ¬((i:Int)<(i:Int)):=Aa;have hc1:wr.cell? ⟨w.heap.size,1,none⟩=some (.slice a2 n2 c2):=(by rw[T1.out.bel.cell (p:=⟨w.heap.size,1,none⟩) (by have:=KW.out.1;simp only;omega)];exact KW.out.2.1);go_wp2;clear hc1;go_loopg [23] n2 (λg v wr=> ∃j:Nat,v= .int .i64 j/\j<=n2/\n2<=j+g/\Aside (TJ w1 (gw x) wr));(case atStart=>exact⟨0,rfl,b0k _,Aa,T1.out⟩);case round=>clear T1;obtain⟨j,rfl,hj,hg,T⟩:=hrel;have hj0:n2=0:=(by have h1:=E12.out.2;have h2:=HQ.out.1;rw[h2]at h1;exact h1);by_cases hlt:j<n2;{omega};.have hjn:j=n2:=Aa;subst hjn;have T1:Aside (TJ w1 (gw x) wr):=T;clear T hg hj;have hltz: ¬((j:Int)<(j:Int)):=Aa;go_wp2_with (go_at_call 270;refine(Any.Builder_String_any Tryz.laysBStr Tryz.laysBStrX w1.heap.size w1.heap.size (gw x) _ T1.out.bld T1.out.bel.size).mono ?_);rintro e W ⟨rfl⟩ hb;have HB:Aside (Below w1.heap.size wr W):=hb;clear hb;go_wp2;go_ret;refine⟨rfl,?_⟩;have hb:=HB.out;have h1:=KW.out.2.2;have h2:=T1.out.bel;have h3:=KW.out.1;exact⟨hb.os.trans (h2.os.trans h1.os),hb.tape.trans (h2.tape.trans h1.tape),hb.output.trans (h2.output.trans h1.output),b1l h1.size (b1l h2.size hb.size),λk hk=>(hb.block k Aa).trans ((h2.block k Aa).trans (h1.block k hk))⟩
theorem bcc(b o n:Nat):(⟨b,o,none⟩:Addr).add n=⟨b,o+n,none⟩:=by unfold Addr.add;split;{rename_i h;rw[h];rfl};.rfl
theorem a7x{a:Addr}{z:Value}(h:w.cell? a=some z): ∃b o,a=⟨b,o,none⟩:=by obtain⟨b,o,v⟩:=a;cases v with|none=>exact⟨b,o,rfl⟩|some v=>simp only[World.cell?]at h;split at h<;>simp at h
theorem avg(x:Ct)(hx:okX x):DN 189 [.agg (ct x)] (.str (gw x)):=by refine ab4 (enters_of func189 Ae rfl) λw V a S Q g h=> ?_;obtain⟨v,rfl⟩: ∃v,a=[v]:=(by match a,g with|[v],_=>exact⟨v,rfl⟩);obtain⟨E,I,H⟩:=h 0 v (.agg (ct x)) rfl rfl;obtain⟨r,rfl,hs,C⟩:=I.agg_inv;have c:r.size=2:=hs;have G:=(C 0 (.vs (x.li.map i1)) rfl).vs_inv;have N:=(C 1 (.vs (x.pi.map pn)) rfl).vs_inv;obtain⟨p,F,K,m,_,z,J⟩:=at5 (sz:=1) G (λy k=>Ge);obtain⟨D,A,R,s,_,M,P⟩:=at5 (sz:=3) N (λy k=>Ge);rw[b0x]at m s z M;have L:r= #[.slice p x.li.length F,.slice D x.pi.length A]:=(by apply Array.ext Au;intro i l O;match i with|0=>rw[<-m];simp[Array.getD,c]|1=>rw[<-s];simp[Array.getD,c]|i+2=>omega);subst L;refine(azq x hx w p D F A (λh0=> ?_)).mono ?_;{obtain⟨ad,rfl,hp⟩:=z h0;have f: ∀i,i<x.li.length->w.cell? (ad.add (i*1+0))=some (.int .i64 (el x.li i)):=λi d=>(by have q:=J i (i1 (el x.li i)) 0 (.int .i64 (el x.li i)) F8 rfl;have t:=(H _ _ (hp i (i1 (el x.li i)) 0 (.int .i64 (el x.li i)) F8 rfl)).1;generalize K i 0=u at q t;cases q;exact t);obtain⟨b,o,B⟩:=a7x (f 0 h0);refine⟨b,o,by simpa [Addr.add] using B,λi d=> ?_⟩;have l:=f i d;have j:ad=⟨b,o,none⟩:=(by simpa [Addr.add] using B);rw[j,bcc]at l;simpa using l};.rintro e W' ⟨rfl,hB⟩;exact⟨_,rfl,hB,.str _⟩
abbrev Gp:=Ct×LI
def azt(t:LB)(G:List Gp):Option Nat:=G.findIdx? λg=>decide (gw g.1=t)
def aa3(j:Nat):List Gp->List (PV×PV)
 |[]=>[]
 |g::r=>(.str (gw g.1),.int .i64 j)::aa3 (j+1) r
def zg(j:Nat):List Gp->List LP
 |[]=>[]
 |g::r=>[.vs (g.1.li.map i1),.vs (g.1.pi.map pn),.os (j+500) g.2.length]::zg (j+1) r
def aay(G:List Gp):List Box:=G.map λg=> .arr 3 1 false (g.2.map i1)
def cG(G:List Gp)(y:Vt):List Gp:=
 match azt (gw y.x) G with
 |none=>G++[(y.x,[y.k])]
 |some j=>G.set j ((el G j).1,(el G j).2++[y.k])
def cF(seats:LI)(v:List Vt)(i:Nat):List Gp:=(v.take i).foldl (λG y=>if y.k∈seats then cG G y else G) []
theorem acz(h:i<v.length):cF seats v (i+1)=if(el v i).k∈seats then cG (cF seats v i) (el v i)else cF seats v i:=by simp only[cF,bt h,b22,b2j,b5q]
theorem bfc(G:List Gp)(g:Gp): ∀j,aa3 j (G++[g])=aa3 j G++[(.str (gw g.1),.int .i64 ((j+G.length:Nat):Int))]:=by induction G with|nil=>intro j;rfl|cons a G ih=>intro j;simp only[b1s,aa3,ih,b0q];rw[show j+1+G.length=j+(G.length+1) from Aa]
theorem atw(g:Gp): ∀(G:List Gp) (j k:Nat),gw g.1=gw (el G k).1->k<G.length->aa3 j (G.set k g)=aa3 j G
 |[],j,k,_,h=>by simp at h
 |a::G,j,0,h,_=>by
  simp only[b74,aa3]
  rw[show gw g.1=gw a.1 from h]
 |a::G,j,k+1,h,hk=>by
  simp only[b6f,aa3];rw[atw g G (j+1) k h (by simpa using hk)]
theorem ah3: ∀(G:List Gp) (j:Nat),(zg j G).length=G.length
 |[],_=>rfl
 |a::G,j=>by simp[zg,ah3 G (j+1)]
theorem baq(G:List Gp)(g:Gp): ∀j,zg j (G++[g])=zg j G++[[.vs (g.1.li.map i1),.vs (g.1.pi.map pn),.os (j+G.length+500) g.2.length]]:=by induction G with|nil=>intro j;rfl|cons a G ih=>intro j;simp only[b1s,zg,ih,b0q];rw[show j+1+G.length=j+(G.length+1) from Aa]
theorem at0(g:Gp): ∀(G:List Gp) (j k:Nat),k<G.length->zg j (G.set k g)=(zg j G).set k [.vs (g.1.li.map i1),.vs (g.1.pi.map pn),.os (j+k+500) g.2.length]
 |[],j,k,h=>by simp at h
 |a::G,j,0,_=>rfl
 |a::G,j,k+1,hk=>by
  simp only[b6f,zg];rw[at0 g G (j+1) k (by simpa using hk),show j+1+k=j+(k+1) by omega]
theorem a8y: ∀(G:List Gp) (j k:Nat),k<G.length->dq (zg j G) k=[.vs ((el G k).1.li.map i1),.vs ((el G k).1.pi.map pn),.os (j+k+500) (el G k).2.length]
 |[],j,k,h=>by simp at h
 |a::G,j,0,_=>rfl
 |a::G,j,k+1,hk=>by
  have:=a8y G (j+1) k Ay;rw[show j+1+k=j+(k+1) from Aa]at this;exact this
theorem af8(t:LB): ∀(G:List Gp) (j i:Nat),p8 (.str t) (aa3 j G) i=some ((azt t G).map (· +i))
 |[],j,i=>by simp[aa3,p8,azt]
 |g::G,j,i=>by
  have ih:=af8 t G (j+1) (i+1);simp only[aa3,p8,ahs,azt,List.findIdx?_cons];by_cases h:t=gw g.1
  .have h':gw g.1=t:=h.symm;simp[h']
  .have h': ¬gw g.1=t:=λe=>h e.symm;simp only[h,h',b6e,b12,b25];rw[ih];simp only[azt,Option.map_map]
   cases List.findIdx? (λg=>decide (gw g.1=t)) G with
   |none=>rfl
   |some x=>simp;omega
theorem apz(t:LB)(G:List Gp):p8 (.str t) (aa3 0 G) 0=some (azt t G):=by rw[af8];cases azt t G<;>simp
theorem xb{t:LB}{G:List Gp}(h:azt t G=some i):i<G.length/\gw (el G i).1=t:=by unfold azt at h;rw[b3k]at h;obtain⟨a,b,_⟩:=h;refine⟨a,?_⟩;simpa [el,bd,bq a] using b
theorem a83: ∀(G:List Gp) (j k:Nat),k<G.length->((aa3 j G).getD k (PV.undef,PV.undef)).2= .int .i64 ((j+k:Nat):Int)
 |[],j,k,h=>by simp at h
 |a::G,j,0,_=>rfl
 |a::G,j,k+1,hk=>by
  have:=a83 G (j+1) k Ay;rw[show j+1+k=j+(k+1) from Aa]at this;simpa [aa3] using this
def cFr(v:List Vt)(seats:LI)(n:Nat)(i:Nat):AFr:=[(13,.vs (v.map vt7)),(1,.vs (seats.map i1)),(6,.mh 12),(5,.os 99 n),(14,.int .i64 v.length),(15,.int .i64 i)]
def cSt(G:List Gp):ASt:=(12,.mp (aa3 0 G))::(99,.arh 207 3 (zg 0 G))::(900046,.arr 3 1 false [])::grp 500 (aay G)
theorem bkc{n:Nat}{L:Nat->PV}(b:L 13= .vs (v.map vt7))(d:L 1= .vs (seats.map i1))(f:L 6= .mh 12)(e:L 5= .os 99 n)(c:L 14= .int .i64 v.length)(a:L 15= .int .i64 i):
  ∀t,look (cFr v seats n i) t= .undef\/look (cFr v seats n i) t=L t:=by intro t;simp only[cFr,look];split;{rename_i h;subst h;exact .inr b.symm};split;{rename_i h;subst h;exact .inr d.symm};split;{rename_i h;subst h;exact .inr f.symm};split;{rename_i h;subst h;exact .inr e.symm};split;{rename_i h;subst h;exact .inr c.symm};split;{rename_i h;subst h;exact .inr a.symm};exact .inl rfl
theorem bko{G:List Gp}{s:St}(a:s 12=some (.mp (aa3 0 G)))(c:s 99=some (.arh 207 3 (zg 0 G)))(f:s 900046=some (.arr 3 1 false []))
  (d: ∀j,j<G.length->s (j+500)=some (.arr 3 1 false ((el G j).2.map i1))): ∀n B,ai (cSt G) n=some B->s n=some B:=by intro n B h;simp only[cSt,ai]at h;split at h;{rename_i e;subst e;rw[a];exact h};split at h;{rename_i e;subst e;rw[c];exact h};split at h;{rename_i e;subst e;rw[f];exact h};rw[j9]at h;split at h;{rename_i hn;obtain⟨j,rfl⟩: ∃j,n=j+500:=⟨n - 500,Aa⟩;rw[b1z]at h;have b:=(dm.1 h).1;rw[show(aay G).length=G.length by simp[aay]]at b;rw[d j b,<-h];simp[aay,el,bd,b]};.cases h
theorem as1: ∀(G:List Gp) (j:Nat) (r:LP),r∈zg j G->∃k,k<G.length/\r=[.vs ((el G k).1.li.map i1),.vs ((el G k).1.pi.map pn),.os (j+k+500) (el G k).2.length]
 |[],j,r,h=>by simp[zg]at h
 |a::G,j,r,h=>by
  simp only[zg,b0p]at h;rcases h with rfl|h
  .exact⟨0,by simp,rfl⟩
  .obtain⟨k,hk,rfl⟩:=as1 G (j+1) r h;exact⟨k+1,Ay,Fy⟩
theorem bam(G:List Gp)(j:Nat)(h:j<G.length)(a:j<900000 - 500):ai (cSt G) (j+500)≠none:=by simp only[cSt,ai];rw[if_neg Aa,if_neg Aa,if_neg Aa,b6g,mz];simp[aay,h]
theorem as5: ∀(G:List Gp) (j:Nat) (e:PV×PV),e∈aa3 j G->∃k:Int,e.2= .int .i64 k
 |[],j,e,h=>by simp[aa3]at h
 |a::G,j,e,h=>by
  simp only[aa3,b0p]at h;rcases h with rfl|h
  .exact⟨_,rfl⟩
  .exact as5 G (j+1) e h
theorem bqy{G:List Gp}(D:G.length<=900)
  (c:look fr 13= .vs (v.map vt7)) (p:look fr 1= .vs (seats.map i1)) (C:look fr 6= .mh 12) (y:look fr 5= .os 99 G.length) (d:look fr 14= .int .i64 v.length) (l:look fr 15= .int .i64 i)
  (a:ai σ 12=some (.mp (aa3 0 G))) (m:ai σ 99=some (.arh 207 3 (zg 0 G))) (x:ai σ 900046=some (.arr 3 1 false []))
  (s: ∀j,j<G.length->ai σ (j+500)=some (.arr 3 1 false ((el G j).2.map i1))) (hx: ∀n,1000000<=n->ai σ n=none):
  Cv P N fr σ (cFr v seats G.length i) (cSt G):=by
 refine Cv.weak (bkc c p C y d l) (bko a m x s) (λt=> ?_) (λn B h=> ?_) λn w A=>absurd (hx n w) A
 .have c12:ai (cSt G) 12≠none:=by simp[cSt,ai]
  have f:ai (cSt G) 99≠none:=by simp[cSt,ai]
  simp only[cFr,look]
  repeat' split
  all_goals first
   |exact .vs _
   |exact .int _ _
   |exact .mh _ c12
   |exact .os _ _ f
   |exact .undef
 .simp only[cSt,ai]at h;split at h;{cases h;intro e z;obtain⟨k,b⟩:=as5 _ _ e z;rw[b];exact .int _ _};split at h;{cases h;intro r q u o;obtain⟨k,b,rfl⟩:=as1 _ _ r q;simp only[b0p,b6y,or_false]at o;rcases o with rfl|rfl|rfl;{exact .vs _};{exact .vs _};.rw[b1w];exact .os _ _ (bam G k b Aa)};split at h;{cases h;trivial};rw[j9]at h;split at h;{have:=b0e h;obtain⟨g,_,rfl⟩:=b0z.1 this;trivial};.cases h
theorem a6y(m:Nat): ∀(G:List Gp) (j:Nat),(zg j G).map (qj 58 m)=zg j G
 |[],_=>rfl
 |a::G,j=>by
  have h:rn 58 m (j+500)=j+500:=by unfold rn;rw[if_neg Aa]
  simp only[zg,b07,qj,renV,h,a6y m G (j+1)]
theorem a30(m:Nat): ∀(G:List Gp) (j:Nat),(aa3 j G).map (λp=>(p.1,renV 58 m p.2))=aa3 j G
 |[],_=>rfl
 |a::G,j=>by
  simp only[aa3,b07,renV,a30 m G (j+1)]
theorem blr(G:List Gp)(j:Nat)(h:j<G.length)(a:j<900000 - 500):ai (cSt G) (j+500)=some (.arr 3 1 false ((el G j).2.map i1)):=by simp only[cSt,ai];rw[if_neg Aa,if_neg Aa,if_neg Aa,b6g,mz];simp[aay,el,bd,h]
theorem bfb(G:List Gp)(n:Nat)(h:G.length+900047<=n):ai (cSt G) n=none:=by simp only[cSt,ai];rw[if_neg Aa,if_neg Aa,if_neg Aa,j9,if_pos Aa];exact b2o Fd
theorem bsk{G:List Gp}{g:Gp}(x:G.length<900)
  (e:look fr 13= .vs (v.map vt7)) (o:look fr 1= .vs (seats.map i1)) (w:look fr 6= .mh 12) (t:look fr 5= .os 99 (G.length+1)) (f:look fr 14= .int .i64 v.length) (l:look fr 15= .int .i64 i)
  (d:ai σ 12=some (.mp (aa3 0 G++[(.str (gw g.1),.int .i64 G.length)]))) (m:ai σ 99=some (.arh 207 3 (zg 0 G++[[.vs (g.1.li.map i1),.vs (g.1.pi.map pn),.os 58 g.2.length]]))) (r:ai σ 900046=some (.arr 3 1 false []))
  (c:ai σ 58=some (.arr 3 1 false (g.2.map i1))) (sm:ai σ (G.length+500)=none)
  (s: ∀j,j<G.length->ai σ (j+500)=some (.arr 3 1 false ((el G j).2.map i1))) (hx: ∀n,1000000<=n->ai σ n=none):
  Cv P N fr σ (cFr v seats (G++[g]).length i) (cSt (G++[g])):=by have a: ∀k,k≠58->ai (ae0 58 (G.length+500) σ) k=if k=G.length+500 then(ai σ 58).map (na 58 (G.length+500))else(ai σ k).map (na 58 (G.length+500)):=λk p=>(wy sm k p).2;refine Cv.trans (Cv.rn [(58,G.length+500)] ⟨⟨sm,Aa⟩,trivial⟩) ?_;refine bqy (fr:=a89 58 (G.length+500) fr) (σ:=ae0 58 (G.length+500) σ) Ag ?_ ?_ ?_ ?_ ?_ ?_ ?_ ?_ ?_ (λj u=> ?_) λn q=> ?_;{rw[ki,e];rfl};{rw[ki,o];rfl};{rw[ki,w];rfl};{rw[ki,t,b0a];rfl};{rw[ki,f];rfl};{rw[ki,l];rfl};{rw[a 12 Aa,if_neg Aa,d,bfc];simp only[b02,na,b0d,a30,b07,b0o,renV,b1w]};{rw[a 99 Aa,if_neg Aa,m,baq];have h:rn 58 (G.length+500) 58=G.length+500:=(by unfold rn;rw[if_pos rfl]);simp only[b02,na,b0d,a6y,b07,b0o,qj,renV,h,b1w]};{rw[a 900046 Aa,if_neg Aa,r];rfl};{rw[a (j+500) Aa];by_cases b:j=G.length;{subst b;rw[if_pos rfl,c];simp[na,el]};.have hj':j<G.length:=(by simp at u;omega);rw[if_neg Aa,s j hj'];simp[na,el,b09 hj']};.rw[a n Aa,if_neg Aa,hx n q];rfl
end Go.Proofs.Am
