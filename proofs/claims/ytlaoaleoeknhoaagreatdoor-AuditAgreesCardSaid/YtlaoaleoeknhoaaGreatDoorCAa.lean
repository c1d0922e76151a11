/- CAa. -/
import Derived.Test.YtlaoaleoeknhoaaGreatDoorAmX
set_option linter.unusedSimpArgs false
set_option linter.unusedVariables false
set_option maxHeartbeats 1000000
set_option maxRecDepth 100000
namespace Go.Proofs.Am
open Go Go.RowKit Tryz
open Go.Proofs
structure Cs where
 ep:Int
 kd:Int
 su:Int
 ro:Int
deriving Inhabited,DecidableEq
abbrev LC:=List Cs
def cs(c:Cs):LP:=[.int .i64 c.ep,.int .i64 c.kd,.int .i64 c.su,.int .i64 c.ro]
theorem dh(c:Cs):cs c=[.int .i64 c.ep,.int .i64 c.kd,.int .i64 c.su,.int .i64 c.ro]:=(rfl)
attribute [go_sem] dh
def gg(c:Cs):Bool:=decide (0<=c.ep/\c.ep<40/\0<=c.su/\c.su<64/\0<=c.ro/\c.ro<=1/\(c.kd=1/\c.su=0/\c.ro=0\/c.kd=2\/c.kd=3))
theorem gv{c:Cs}(h: ¬(0<=c.ep/\c.ep<40/\0<=c.su/\c.su<64/\0<=c.ro/\c.ro<=1/\(c.kd=1/\c.su=0/\c.ro=0\/c.kd=2\/c.kd=3))):gg c=false:=b0b h
theorem qx{c:Cs}(h:0<=c.ep/\c.ep<40/\0<=c.su/\c.su<64/\0<=c.ro/\c.ro<=1/\(c.kd=1/\c.su=0/\c.ro=0\/c.kd=2\/c.kd=3)):gg c=true:=b0h h
theorem ni(c:Cs):DN 99 [.agg (cs c)] (.bool (gg c)):=by refine ag_ func99 ntmps99 results99 ?_;by_cases h0:c.ep<0;{rw[gv (c:=c) Aa];simp only[go_sem,h0]};by_cases a:40<=c.ep;{rw[gv (c:=c) Aa];simp only[go_sem,h0,a]};by_cases b:c.su<0;{rw[gv (c:=c) Aa];simp only[go_sem,h0,a,b]};by_cases d:64<=c.su;{rw[gv (c:=c) Aa];simp only[go_sem,h0,a,b,d]};by_cases e:c.ro<0;{rw[gv (c:=c) Aa];simp only[go_sem,h0,a,b,d,e]};by_cases f:1<c.ro;{rw[gv (c:=c) Aa];simp only[go_sem,h0,a,b,d,e,f]};by_cases h:c.kd=1;{by_cases g:c.su=0;{by_cases i:c.ro=0;{rw[qx (c:=c) Aa];simp only[go_sem,h0,a,b,d,e,f,h,g,i]};.rw[gv (c:=c) Aa];simp only[go_sem,h0,a,b,d,e,f,h,g,i]};.rw[gv (c:=c) Aa];simp only[go_sem,h0,a,b,d,e,f,h,g]};by_cases g:c.kd=2;{rw[qx (c:=c) Aa];simp only[go_sem,h0,a,b,d,e,f,h,g]};by_cases i:c.kd=3;{rw[qx (c:=c) Aa];simp only[go_sem,h0,a,b,d,e,f,h,g,i]};rw[gv (c:=c) Aa];simp only[go_sem,h0,a,b,d,e,f,h,g,i]
theorem ao9(c:Cs):DN 185 [.agg (cs c)] (.bool (gg c)):=by refine ag_ func185 ntmps185 results185 ?_;by_cases h0:c.ep<0;{rw[gv (c:=c) Aa];simp only[go_sem,h0]};by_cases a:40<=c.ep;{rw[gv (c:=c) Aa];simp only[go_sem,h0,a]};by_cases b:c.su<0;{rw[gv (c:=c) Aa];simp only[go_sem,h0,a,b]};by_cases d:64<=c.su;{rw[gv (c:=c) Aa];simp only[go_sem,h0,a,b,d]};by_cases e:c.ro<0;{rw[gv (c:=c) Aa];simp only[go_sem,h0,a,b,d,e]};by_cases f:1<c.ro;{rw[gv (c:=c) Aa];simp only[go_sem,h0,a,b,d,e,f]};by_cases h:c.kd=1;{by_cases g:c.su=0;{by_cases i:c.ro=0;{rw[qx (c:=c) Aa];simp only[go_sem,h0,a,b,d,e,f,h,g,i]};.rw[gv (c:=c) Aa];simp only[go_sem,h0,a,b,d,e,f,h,g,i]};.rw[gv (c:=c) Aa];simp only[go_sem,h0,a,b,d,e,f,h,g]};by_cases g:c.kd=2;{rw[qx (c:=c) Aa];simp only[go_sem,h0,a,b,d,e,f,h,g]};by_cases i:c.kd=3;{rw[qx (c:=c) Aa];simp only[go_sem,h0,a,b,d,e,f,h,g,i]};rw[gv (c:=c) Aa];simp only[go_sem,h0,a,b,d,e,f,h,g,i]
def aac(c:Cs):Bool:=gg c&&decide (c.ro=0)&&decide (c.kd≠1)
theorem bni(c:Cs):DN 467 [.agg (cs c)] (.bool (aac c)):=by refine ag_ func467 ntmps467 results467 ?_;simp only[go_sem];refine Qq (ni c) [] ?_;cases h:gg c;{simp only[go_sem,aac,h]};.by_cases h1:c.ro=0;{by_cases h2:c.kd=1;{simp only[go_sem,aac,h,h1,h2]};.simp only[go_sem,aac,h,h1,h2]};.simp only[go_sem,aac,h,h1]
def noD:Drf:=⟨0,0,0,0,[],[]⟩
def bk1(c:Cs):Cs×Int:=if aac c then({c with ro:=1},0)else(⟨0,0,0,0⟩,41)
def xf(p:Nat->Bool)(n:Nat):Bool:=decide (∀i,i<n->p i=true)
theorem m7{p:Nat->Bool}{n:Nat}(h: ∀i,i<n->p i=true):xf p n=true:=b0h h
theorem fj{p:Nat->Bool}{n i:Nat}(hi:i<n)(h:p i=false):xf p n=false:=b0b λa=>by rw[a i hi]at h;cases h
theorem cu{p:Nat->Bool}{i:Nat}(h: ∀j,j<i->p j=true)(b:p i=true): ∀j,j<i+1->p j=true:=λj c=>by
 by_cases a:j=i
 .rw[a];exact b
 .exact h j Aa
def kv(n:Int)(l:LI)(i:Nat):Bool:=decide (0<=el l i/\el l i<n/\(0<i->el l (i - 1)<el l i))
def pq(l:LI)(n:Int):Bool:=xf (kv n l) l.length
def lk(l:LI):Bool:=decide (0<l.length/\l.length<=64)&&pq l 64
theorem bil(l:LI)(n:Int)(r:big l.length):DN 159 [.vs (l.map i1),.int .i64 n] (.bool (pq l n)):=by refine ag_ func159 ntmps159 results159 ?_;generalize o:pq l n=m;have b:pq l n=false->m=false:=λh=>(by rw[<-o];exact h);have d:pq l n=true->m=true:=λh=>(by rw[<-o];exact h);simp only[go_sem];refine lo_ 0 (λi:Nat=>[(0,.vs (l.map i1)),(1,.int .i64 n),(5,.int .i64 i)]) (λi=>[]) (λi=>i<=l.length/\∀j,j<i->kv n l j=true) (λi=>l.length - i) ?_ ?_ ?_;{simp};{simp only[go_sem]};.rintro i ⟨hi,hp⟩;by_cases a:i<l.length;{have hlt:(i:Int)<(l.length:Int):=Aa;by_cases e:el l i<0;{have c:kv n l i=false:=b0b Aa;simp only[go_sem,hlt,a,e];exact⟨ok_,(b (fj a c)).symm⟩};by_cases f:n<=el l i;{have c:kv n l i=false:=b0b Aa;simp only[go_sem,hlt,a,e,f];exact⟨ok_,(b (fj a c)).symm⟩};by_cases q:0<i;{have a3':(0:Int)<(i:Int):=Aa;have k:=wr_ i;have p:i - 1<l.length:=Aa;by_cases g:el l i<=el l (i - 1);{have c:kv n l i=false:=b0b Aa;simp only[go_sem,hlt,a,e,f,a3',k,p,g];exact⟨ok_,(b (fj a c)).symm⟩};.have c:kv n l i=true:=b0h Aa;simp only[go_sem,hlt,a,e,f,a3',k,p,g];exact⟨ok_,i+1,⟨⟨Aa,cu hp c⟩,Aa⟩,Ab⟩};.have a3': ¬(0:Int)<(i:Int):=Aa;have c:kv n l i=true:=b0h Aa;simp only[go_sem,hlt,a,e,f,a3'];exact⟨ok_,i+1,⟨⟨Aa,cu hp c⟩,Aa⟩,Ab⟩};.have hf: ¬((i:Int)<(l.length:Int)):=Aa;have:i=l.length:=Aa;subst this;simp only[go_sem,hf];exact(d (m7 hp)).symm
theorem aky(l:LI)(u:big l.length):DN 58 [.vs (l.map i1)] (.bool (lk l)):=by refine ag_ func58 ntmps58 results58 ?_;by_cases s:l.length=0;{have hr:lk l=false:=(by simp[lk,s]);rw[hr];have b:(l.length:Int)=0:=Aa;simp only[go_sem,b]};by_cases n:(64:Int)<(l.length:Int);{have hr:lk l=false:=(by rw[lk,b0b Aa];rfl);rw[hr];have b: ¬(l.length:Int)=0:=Aa;simp only[go_sem,b,n]};have b: ¬(l.length:Int)=0:=Aa;have k:lk l=pq l 64:=(by rw[lk,b0h Aa];rfl);rw[k];generalize q:pq l 64=m;have c:pq l 64=false->m=false:=λh=>(by rw[<-q];exact h);have e:pq l 64=true->m=true:=λh=>(by rw[<-q];exact h);simp only[go_sem,b,n];refine lo_ 0 (λi:Nat=>[(0,.vs (l.map i1)),(3,.int .i64 i)]) (λi=>[]) (λi=>i<=l.length/\∀j,j<i->kv 64 l j=true) (λi=>l.length - i) ?_ ?_ ?_;{simp};{simp only[go_sem]};.rintro i ⟨hi,hp⟩;by_cases a:i<l.length;{have hlt:(i:Int)<(l.length:Int):=Aa;by_cases f:el l i<0;{have d:kv 64 l i=false:=b0b Aa;simp only[go_sem,hlt,a,f];exact⟨ok_,(c (fj a d)).symm⟩};by_cases g:64<=el l i;{have d:kv 64 l i=false:=b0b Aa;simp only[go_sem,hlt,a,f,g];exact⟨ok_,(c (fj a d)).symm⟩};by_cases t:0<i;{have a3':(0:Int)<(i:Int):=Aa;have p:=wr_ i;have r:i - 1<l.length:=Aa;by_cases o:el l i<=el l (i - 1);{have d:kv 64 l i=false:=b0b Aa;simp only[go_sem,hlt,a,f,g,a3',p,r,o];exact⟨ok_,(c (fj a d)).symm⟩};.have d:kv 64 l i=true:=b0h Aa;simp only[go_sem,hlt,a,f,g,a3',p,r,o];exact⟨ok_,i+1,⟨⟨Aa,cu hp d⟩,Aa⟩,Ab⟩};.have a3': ¬(0:Int)<(i:Int):=Aa;have d:kv 64 l i=true:=b0h Aa;simp only[go_sem,hlt,a,f,g,a3'];exact⟨ok_,i+1,⟨⟨Aa,cu hp d⟩,Aa⟩,Ab⟩};.have hf: ¬((i:Int)<(l.length:Int)):=Aa;have:i=l.length:=Aa;subst this;simp only[go_sem,hf];exact(e (m7 hp)).symm
structure Pol where
 se:LI
 ta:LI
 lv:Int
deriving Inhabited,DecidableEq
structure Rl where
 gen:LI
 pol:Pol
 seats:Int
 span:Int
 quota:Int
deriving Inhabited,DecidableEq
def pl(p:Pol):LP:=[.vs (p.se.map i1),.vs (p.ta.map i1),.int .i64 p.lv]
theorem uf(p:Pol):pl p=[.vs (p.se.map i1),.vs (p.ta.map i1),.int .i64 p.lv]:=(rfl)
def rl(r:Rl):LP:=[.vs (r.gen.map i1),.vs (r.pol.se.map i1),.vs (r.pol.ta.map i1),.int .i64 r.pol.lv,.int .i64 r.seats,.int .i64 r.span,.int .i64 r.quota]
theorem fc(r:Rl):rl r=[.vs (r.gen.map i1),.vs (r.pol.se.map i1),.vs (r.pol.ta.map i1),.int .i64 r.pol.lv,.int .i64 r.seats,.int .i64 r.span,.int .i64 r.quota]:=(rfl)
attribute [go_sem] uf fc
def pj(ta:LI)(i:Nat):Bool:=decide (1<=el ta i/\el ta i<=1000/\(0<i->el ta i<=el ta (i - 1)))
def a6o(p:Pol):Bool:=decide (0<p.se.length)&&(pq p.se 64&&(decide (1<=p.ta.length/\p.ta.length<=8/\1<=p.lv/\p.lv<=3)&&xf (pj p.ta) p.ta.length))
structure Ed where
 fr:Int
 to:Int
 lv:Int
deriving Inhabited,DecidableEq
structure Gr where
 sz:Int
 ed:List Ed
 gone:LI
deriving Inhabited,DecidableEq
def rch(g:Gr)(S:LI):Nat->Int->Bool
 |0,k=>decide (k∈S)&& !decide (k∈g.gone)
 |n+1,k=>rch g S n k||g.ed.any λe=>decide (e.to=k)&&rch g S n e.fr
def dvl(g:Gr)(S:LI):Nat->Int->Int
 |0,_=> -1
 |n+1,k=>if 0<=dvl g S n k then dvl g S n k else if rch g S n k=true then(n:Int)else -1
theorem auj{g:Gr}{S:LI}{n m:Nat}{k:Int}(h:rch g S n k=true)(a:n<=m):rch g S m k=true:=by induction a with|refl=>exact h|step _ ih=>rw[rch,ih,Bool.true_or]
theorem aih{g:Gr}{S:LI}{n:Nat}{e:Ed}(a:e∈g.ed)(h:rch g S n e.fr=true):rch g S (n+1) e.to=true:=by rw[rch,b1v];exact .inr (b2n.2 ⟨e,a,Ev⟩)
theorem ae2(g:Gr)(S:LI)(k:Int): ∀n:Nat,-1<=dvl g S n k/\dvl g S n k<n
 |0=>by simp[dvl]
 |n+1=>by
  have h:=ae2 g S k n;rw[dvl];split
  .omega
  .split<;>omega
theorem uj(g:Gr)(S:LI)(k:Int): ∀n:Nat,(dvl g S n k<0↔∀m,m<n->rch g S m k=false)/\(∀m:Nat,dvl g S n k=m->rch g S m k=true/\m<n/\∀j,j<m->rch g S j k=false)
 |0=>⟨by simp[dvl],λm h=>by simp[dvl]at h⟩
 |n+1=>by
  obtain⟨h1,h2⟩:=uj g S k n;have hb:=ae2 g S k n;rw[dvl];split
  .rename_i h0;refine⟨⟨λh=>Aa,λh=> ?_⟩,λm hm=> ?_⟩
   .exact absurd (h1.2 λm hm=>h m Aa) Aa
   .obtain⟨a,b,c⟩:=h2 m hm;exact⟨a,Aa,c⟩
  .rename_i h0;have hn:=h1.1 Aa;split
   .rename_i hr;refine⟨⟨λh=>Aa,λh=> ?_⟩,λm hm=> ?_⟩
    .rw[h n Aa]at hr;cases hr
    .have:m=n:=Aa
     subst this;exact⟨hr,Aa,hn⟩
   .rename_i hr;refine⟨⟨λ_ m hm=> ?_,λ_=>Aa⟩,λm hm=>Aa⟩;by_cases d:m=n
    .rw[d];simpa using hr
    .exact hn m Aa
theorem a1z{g:Gr}{S:LI}{n:Nat}{k:Int}(h:0<=dvl g S n k): ∀m,n<=m->dvl g S m k=dvl g S n k:=λm a=>by
 induction a with
 |refl=>rfl
 |step _ ih=>rw[dvl,if_pos Aa,ih]
theorem bm5{g:Gr}{S:LI}{n:Nat}(h: ∀k,rch g S n k=true->0<=dvl g S n k): ∀m,n<=m->∀k,dvl g S m k=dvl g S n k:=by have r: ∀m,n<=m->∀k,rch g S m k=true->rch g S n k=true/\0<n:=λm i=>(by induction i with|refl=>intro k c;refine⟨c,?_⟩;have d:=h k c;have f:=ae2 g S k n;omega|step i ih=>intro k c;rw[rch,b1v]at c;rcases c with c|c;{exact ih k c};.obtain⟨e,he,hx⟩:=b2n.1 c;rw[b0l]at hx;obtain⟨d,f⟩:=hx;have d:=b0g d;obtain⟨p,h0⟩:=ih _ f;have q:=h _ p;obtain⟨l,o⟩: ∃l:Nat,dvl g S n e.fr=(l:Int):=⟨(dvl g S n e.fr).toNat,Aa⟩;obtain⟨a,b,_⟩:=(uj g S e.fr n).2 l o;rw[<-d];exact⟨auj (aih he a) Aa,h0⟩);intro m i k;by_cases h0:0<=dvl g S n k;{exact a1z h0 m i};.have d: ∀j,rch g S j k=false:=λj=>(by cases hj:rch g S j k with|false=>rfl|true=>have f:rch g S (max n j) k=true:=auj hj Aa;exact absurd (h k (r _ Aa k f).1) h0);have f:=(uj g S k m).1.2 λj _=>d j;have p:=ae2 g S k m;have q:=ae2 g S k n;omega
def nwl(g:Gr)(S:LI)(n:Nat)(k:Int):Prop:=rch g S n k=true/\dvl g S n k<0
theorem bbk{g:Gr}{S:LI}{k:Int}:nwl g S 0 k↔k∈S/\k∉g.gone:=by unfold nwl;simp[rch,dvl]
theorem uy{g:Gr}{S:LI}{n:Nat}{k:Int}:nwl g S (n+1) k↔dvl g S (n+1) k<0/\∃e∈g.ed,e.to=k/\dvl g S (n+1) e.fr=n:=by unfold nwl;constructor;{rintro⟨h1,h2⟩;refine⟨h2,?_⟩;have d:=(uj g S k (n+1)).1.1 h2;rw[rch,d n Aa,b5g]at h1;obtain⟨e,f,hx⟩:=b2n.1 h1;rw[b0l]at hx;obtain⟨c,j⟩:=hx;have c:=b0g c;refine⟨e,f,c,?_⟩;have o: ¬dvl g S (n+1) e.fr<0:=λh=>(by rw[(uj g S e.fr (n+1)).1.1 h n Aa]at j;cases j);obtain⟨m,l⟩: ∃m:Nat,dvl g S (n+1) e.fr=(m:Int):=⟨(dvl g S (n+1) e.fr).toNat,Aa⟩;obtain⟨a,b,_⟩:=(uj g S e.fr (n+1)).2 m l;by_cases i:m=n;{rw[l,i]};.have:=aih f a;rw[c,d (m+1) Aa]at this;cases this};.rintro⟨h1,e,f,h2,d⟩;obtain⟨a,_,_⟩:=(uj g S e.fr (n+1)).2 n d;rw[<-h2]at h1 ⊢;exact⟨aih f a,h1⟩
theorem alz{g:Gr}{S:LI}{n:Nat}{k:Int}(h:nwl g S n k):dvl g S (n+1) k=n:=by rw[dvl,if_neg A9,if_pos h.1]
theorem a0o{g:Gr}{S:LI}{n:Nat}{k:Int}(h: ¬nwl g S n k):dvl g S (n+1) k=dvl g S n k:=by rw[dvl];have b:=ae2 g S k n;by_cases h0:0<=dvl g S n k;{rw[if_pos h0]};.rw[if_neg h0,if_neg (λa=>h ⟨a,Aa⟩)];omega
structure OkE(g:Gr):Prop where
 lo:0<=g.sz
 ed: ∀e∈g.ed,(0<=e.fr/\e.fr<g.sz)/\(0<=e.to/\e.to<g.sz)
def xg(g:Gr)(f:Int->Int):LI:=(List.range g.sz.toNat).map λk:Nat=>f k
theorem aaw(g:Gr)(f:Int->Int):(xg g f).length=g.sz.toNat:=by simp[xg]
theorem adz{g:Gr}{f:Int->Int}{k:Int}(h0:0<=k)(a:k<g.sz):el (xg g f) k.toNat=f k:=by have:k.toNat<g.sz.toNat:=Aa;simp[el,xg,bd,this,Int.toNat_of_nonneg h0]
theorem avu{g:Gr}{f:Int->Int}{k v:Int}(h0:0<=k):(xg g f).set k.toNat v=xg g λx=>if x=k then v else f x:=by refine b38 (by simp[xg]) λi b c=> ?_;rw[List.getElem_set];simp only[xg,b45,b6h];by_cases a:k.toNat=i;{rw[if_pos a,if_pos Aa]};.rw[if_neg a,if_neg Aa]
theorem ey{g:Gr}{f h:Int->Int}(a: ∀k,0<=k->k<g.sz->f k=h k):xg g f=xg g h:=by refine b7u λi b=> ?_;rw[b2k]at b;exact a _ Aa Aa
def dvL(g:Gr)(S:LI)(n:Nat):LI:=xg g (dvl g S n)
def xx(n:Int)(d:LI)(e:Ed):LI:=if el d e.fr.toNat=n/\el d e.to.toNat= -1 then d.set e.to.toNat (n+1)else d
theorem akp(n:Int)(d:LI)(e:Ed):(xx n d e).length=d.length:=by unfold xx;split<;>simp
theorem bjl{g:Gr}{S:LI}{n:Nat}{k:Int}:dvl g S n k<0↔dvl g S n k= -1:=by have:=ae2 g S k n;omega
theorem a3g{g:Gr}{S:LI}{n:Nat}{k:Int}:dvl g S (n+1) k=n↔nwl g S n k:=by refine⟨λh=> ?_,alz⟩;by_cases a:nwl g S n k;{exact a};.rw[a0o a]at h;have:=ae2 g S k n;omega
theorem agh{g:Gr}{S:LI}{n:Nat}(f:OkE g): ∀(l:List Ed) (P:Int->Bool),(∀e∈l,e∈g.ed)->(∀k,P k=true->dvl g S (n+1) k<0)->
  l.foldl (xx n) (xg g λk=>if P k=true then(n:Int)+1 else dvl g S (n+1) k)=xg g λk=>if(P k||(decide (dvl g S (n+1) k<0)&&l.any λe=>decide (e.to=k)&&decide (dvl g S (n+1) e.fr=n)))=true then(n:Int)+1 else dvl g S (n+1) k
 |[],P,_,_=>by simp
 |e::l,P,hl,hP=>by
  obtain⟨⟨f0,f1⟩,t0,t1⟩:=f.ed e (hl e Ad)
  have hP': ∀k,(P k||(decide (k=e.to)&&(decide (dvl g S (n+1) e.fr=n)&&decide (dvl g S (n+1) k<0))))=true->dvl g S (n+1) k<0:=λk hk=>by
   rw[b1v]at hk;rcases hk with hk|hk
   .exact hP k hk
   .simp only[b0l,b01]at hk;exact hk.2.2
  have ih:=agh (S:=S) (n:=n) f l _ (λx hx=>hl x Bx) hP';rw[b2j]
  have hst:xx n (xg g λk=>if P k=true then(n:Int)+1 else dvl g S (n+1) k) e=xg g λk=>if(P k||(decide (k=e.to)&&(decide (dvl g S (n+1) e.fr=n)&&decide (dvl g S (n+1) k<0))))=true then(n:Int)+1 else dvl g S (n+1) k:=by
   unfold xx;rw[adz f0 f1,adz t0 t1]
   have d:((if P e.fr=true then(n:Int)+1 else dvl g S (n+1) e.fr)=n)↔dvl g S (n+1) e.fr=n:=by
    by_cases a:P e.fr=true
    .rw[if_pos a];have:=hP _ a;omega
    .rw[if_neg a]
   have i:((if P e.to=true then(n:Int)+1 else dvl g S (n+1) e.to)= -1)↔P e.to=false/\dvl g S (n+1) e.to<0:=by
    by_cases a:P e.to=true
    .rw[if_pos a,a];have:=hP _ a;simp;omega
    .rw[if_neg a,bjl];simp[a]
   by_cases c:dvl g S (n+1) e.fr=n/\P e.to=false/\dvl g S (n+1) e.to<0
   .rw[if_pos ⟨d.2 c.1,i.2 c.2⟩,avu t0];refine ey λk _ _=> ?_;by_cases hk:k=e.to
    .subst hk;simp[c.1,c.2.2]
    .simp[hk]
   .rw[if_neg λh=>c ⟨d.1 h.1,i.1 h.2⟩];refine ey λk _ _=> ?_;by_cases hk:k=e.to
    .subst hk;by_cases a:P e.to=true
     .simp[a]
     .have a:P e.to=false:=A6
      by_cases b:dvl g S (n+1) e.fr=n
      .have h2: ¬dvl g S (n+1) e.to<0:=λh=>c ⟨b,a,h⟩;simp[a,h2]
      .simp[a,b]
    .simp[hk]
  rw[hst,ih];refine ey λk _ _=> ?_;congr 1;rw[eq_iff_iff];simp only[b1v,b0l,b01,List.any_cons];constructor
  .rintro((h|⟨rfl,h2,h3⟩)|⟨b,h2⟩)
   .exact .inl h
   .exact .inr ⟨h3,.inl ⟨rfl,h2⟩⟩
   .exact .inr ⟨b,.inr h2⟩
  .rintro(h|⟨b,⟨rfl,h2⟩|h2⟩)
   .exact .inl (.inl h)
   .exact .inl (.inr ⟨rfl,h2,b⟩)
   .exact .inr ⟨b,h2⟩
theorem a7t{g:Gr}{S:LI}{n:Nat}(j:OkE g):g.ed.foldl (xx n) (dvL g S (n+1))=dvL g S (n+2):=by have h:=agh (S:=S) (n:=n) j g.ed (λ_=>false) (λe b=>b) Ad;have l:(xg g λk=>if(λ_:Int=>false) k=true then(n:Int)+1 else dvl g S (n+1) k)=dvL g S (n+1):=ey λk _ _=>Ad;rw[l]at h;rw[h];refine ey λk _ _=> ?_;by_cases c:nwl g S (n+1) k;{rw[alz c,if_pos];{simp};.obtain⟨d,e,b,f,a⟩:=uy.1 c;simp only[b5g,b0l,b01];exact⟨d,b2n.2 ⟨e,b,by simp[f,a]⟩⟩};.rw[a0o c,if_neg];intro i;simp only[b5g,b0l,b01]at i;obtain⟨d,f⟩:=i;obtain⟨e,b,a⟩:=b2n.1 f;simp only[b0l,b01]at a;exact c (uy.2 ⟨d,e,b,a.1,a.2⟩)
def th(O:Int->LI)(d:Int)(s:LI×LI)(x:Int):LI×LI:=if 0<=el s.1 x.toNat then s else(s.1.set x.toNat d,s.2++O x)
theorem a13{g:Gr}{S:LI}{n:Nat}{O:Int->LI}: ∀(F:LI) (P:Int->Bool) (N:LI),(∀x∈F,(0<=x/\x<g.sz)/\nwl g S n x)->(∀k,P k=true->nwl g S n k)->
  ∃N',F.foldl (th O n) (xg g (λk=>if P k=true then(n:Int)else dvl g S n k),N)=(xg g (λk=>if(P k||decide (k∈F))=true then(n:Int)else dvl g S n k),N')/\∀y,y∈N'↔y∈N\/∃x∈F,P x=false/\y∈O x
 |[],P,N,_,_=>⟨N,by simp,by simp⟩
 |x::F,P,N,hF,hP=>by
  obtain⟨⟨x0,x1⟩,xn⟩:=hF x Ad;rw[b2j];have he:el (xg g (λk=>if P k=true then(n:Int)else dvl g S n k)) x.toNat=if P x=true then(n:Int)else dvl g S n x:=adz x0 x1
  by_cases hp:P x=true
  .have h1:th O n (xg g (λk=>if P k=true then(n:Int)else dvl g S n k),N) x=(xg g (λk=>if P k=true then(n:Int)else dvl g S n k),N):=by
    unfold th;rw[he,if_pos hp,if_pos Aa]
   rw[h1];obtain⟨N',c,d⟩:=a13 F P N (λy b=>hF y Bf) hP;refine⟨N',?_,λy=> ?_⟩
   .rw[c];congr 1;refine ey λk _ _=> ?_;by_cases a:k=x
    .subst a;simp[hp]
    .simp[a]
   .rw[d];simp[hp]
  .have hp:P x=false:=by simpa using hp
   have h1:th O n (xg g (λk=>if P k=true then(n:Int)else dvl g S n k),N) x=(xg g (λk=>if(P k||decide (k=x))=true then(n:Int)else dvl g S n k),N++O x):=by
    unfold th;rw[he,if_neg (by rw[hp];have:=xn.2;simp;omega),avu x0];congr 1;refine ey λk _ _=> ?_;by_cases a:k=x
    .simp[a]
    .simp[a]
   rw[h1]
   obtain⟨N',c,d⟩:=a13 F (λk=>P k||decide (k=x)) (N++O x) (λy b=>hF y Bf) λk a=>by
    simp only[b1v,b01]at a;rcases a with a|rfl
    .exact hP k a
    .exact xn
   refine⟨N',?_,λy=> ?_⟩
   .rw[c];congr 1;refine ey λk _ _=> ?_;congr 1;simp[Bool.or_assoc]
   .rw[d];simp only[b0j,b7o,b1d,b0p,exists_eq_or_imp];constructor
    .rintro((h|h)|⟨z,hz,⟨h1,h2⟩,h3⟩)
     .exact .inl h
     .exact .inr (.inl ⟨hp,h⟩)
     .exact .inr (.inr ⟨z,hz,h1,h3⟩)
    .rintro(h|⟨h1,h2⟩|⟨z,hz,h1,h3⟩)
     .exact .inl (.inl h)
     .exact .inl (.inr h2)
     .by_cases hzx:z=x
      .subst hzx;exact .inl (.inr h3)
      .exact .inr ⟨z,hz,⟨h1,hzx⟩,h3⟩
def a1a(g:Gr)(S:LI):Nat->LI
 |0=>dvL g S 1
 |n+1=>g.ed.foldl (xx n) (a1a g S n)
theorem a5h{g:Gr}{S:LI}(hg:OkE g): ∀n,a1a g S n=dvL g S (n+1)
 |0=>rfl
 |n+1=>by rw[a1a,a5h hg n,a7t hg]
def eb(g:Gr)(S:LI):LI:=dvL g S (g.sz.toNat+1)
def axv(g:Gr)(s:LI×LI):LI:=s.2.filter λy=>decide (0<=y/\y<=g.sz - 1)&& !decide (0<=el s.1 y.toNat)
def pfr(g:Gr)(O:Int->LI)(S:LI):Nat->LI×LI
 |0=>(xg g λ_=> -1,((List.range g.sz.toNat).map λk:Nat=>(k:Int)).filter λk=>decide (k∈S)&& !decide (k∈g.gone))
 |n+1=>((((pfr g O S n).2.foldl (th O n) ((pfr g O S n).1,[])).1),axv g ((pfr g O S n).2.foldl (th O n) ((pfr g O S n).1,[])))
theorem abk{g:Gr}{O:Int->LI}{S:LI}(m:OkE g)(l: ∀x y,y∈O x↔∃e∈g.ed,e.fr=x/\e.to=y): ∀n,(pfr g O S n).1=dvL g S n/\∀k,k∈(pfr g O S n).2↔(0<=k/\k<g.sz)/\nwl g S n k
 |0=>by
  have hlo:=m.lo;refine⟨(ey (f:=λ_=> -1) (h:=dvl g S 0) λk _ _=>rfl),λk=> ?_⟩;show k∈List.filter _ _↔_;rw[b16,bbk,b0l];constructor
  .rintro⟨h,h1,h2⟩;obtain⟨j,hj,rfl⟩:=b0z.1 h;rw[b2k]at hj;exact⟨Aa,b0g h1,Cp⟩
  .rintro⟨⟨h1,h2⟩,h3,h4⟩
   exact⟨b0z.2 ⟨k.toNat,b2k.2 Aa,Aa⟩,b0h h3,by simpa using h4⟩
 |n+1=>by
  obtain⟨h1,h2⟩:=abk (S:=S) m l n;obtain⟨N,e1,e2⟩:=a13 (g:=g) (S:=S) (n:=n) (O:=O) (pfr g O S n).2 (λ_=>false) [] (λx hx=>(h2 x).1 hx) Ad;have e0:(xg g λk=>if(λ_:Int=>false) k=true then(n:Int)else dvl g S n k)=(pfr g O S n).1:=by rw[h1];exact ey λk _ _=>Ad
  rw[e0]at e1
  have q:(xg g λk=>if((λ_:Int=>false) k||decide (k∈(pfr g O S n).2))=true then(n:Int)else dvl g S n k)=dvL g S (n+1):=ey λk a b=>by
   by_cases c:nwl g S n k
   .have hm:=(h2 k).2 ⟨⟨a,b⟩,c⟩;rw[alz c];simp[hm]
   .have hm:k∉(pfr g O S n).2:=λh=>c ((h2 k).1 h).2;rw[a0o c];simp[hm]
  rw[q]at e1;have p:pfr g O S (n+1)=(dvL g S (n+1),axv g (dvL g S (n+1),N)):=by rw[pfr,e1]
  rw[p];refine⟨rfl,λk=> ?_⟩;show k∈List.filter _ N↔_;rw[b16,e2];simp only[b6y,b8g,b0l,b01,b8e];have d: ∀k,0<=k->k<g.sz->el (dvL g S (n+1)) k.toNat=dvl g S (n+1) k:=λk a b=>adz a b;constructor
  .rintro⟨⟨x,hx,hy⟩,⟨a,b⟩,h3⟩;obtain⟨e,i,rfl,rfl⟩:=(l _ _).1 hy;refine⟨⟨a,Aa⟩,uy.2 ⟨?_,e,i,rfl,a3g.2 ((h2 _).1 hx).2⟩⟩;rw[d _ a Aa]at h3;simp at h3;omega
  .rintro⟨⟨a,b⟩,c⟩;obtain⟨h3,e,i,h4,r⟩:=uy.1 c;obtain⟨⟨o,s⟩,_⟩:=m.ed e i;refine⟨⟨e.fr,(h2 _).2 ⟨⟨o,s⟩,a3g.1 r⟩,(l _ _).2 ⟨e,i,rfl,h4⟩⟩,⟨a,Aa⟩,?_⟩;rw[d _ a b];simp;omega
theorem at8{g:Gr}{S:LI}(a:OkE g)(b: ∀x∈S,0<=x/\x<g.sz): ∀(n:Nat) (k:Int),rch g S n k=true->0<=k/\k<g.sz
 |0,k,h=>by
  simp only[rch,b0l,b01]at h
  exact b k h.1
 |n+1,k,h=>by
  rw[rch,b1v]at h;rcases h with h|h
  .exact at8 a b n k h
  .obtain⟨e,he,hx⟩:=b2n.1 h;simp only[b0l,b01]at hx;rw[<-hx.1];exact(a.ed e he).2
theorem vn{l m:LI}(f:l.Nodup)(h: ∀x∈l,x∈m):l.length<=m.length:=by induction l generalizing m with|nil=>simp|cons a r ih=>obtain⟨c,d⟩:=b3i.1 f;have b:=h a Ad;have:=ih (m:=m.erase a) d λx hx=>(b53 (λe:x=a=>c (by rw[<-e];exact hx))).2 (h x Bx);rw[b48 b]at this;have:=b4o b;simp only[b0q];omega
theorem bo5{g:Gr}{S:LI}(j:OkE g)(f: ∀x∈S,0<=x/\x<g.sz){n:Nat}{k:Int}(h:nwl g S n k):n<g.sz.toNat:=by have a: ∀(n:Nat) (k:Int),nwl g S n k->∃l:LI,l.length=n+1/\l.Nodup/\(∀x∈l,0<=x/\x<g.sz)/\∀x∈l,0<=dvl g S (n+1) x:=λn=>(by induction n with|zero=>intro k h;exact⟨[k],rfl,Ad,λx hx=>by rw[b1h]at hx;rw[hx];exact at8 j f _ _ h.1,λx hx=>by rw[b1h]at hx;rw[hx,alz h];simp⟩|succ n ih=>intro k h;obtain⟨q,e,s,r,p⟩:=uy.1 h;obtain⟨l,i,c,d,b⟩:=ih e.fr (a3g.1 p);refine⟨k::l,by simp[i],b3i.2 ⟨λo=> ?_,c⟩,λx hx=> ?_,λx hx=> ?_⟩;{have:=b k o;omega};{rcases b0p.1 hx with rfl|hx;{exact at8 j f _ _ h.1};.exact d x hx};.rcases b0p.1 hx with rfl|hx;{rw[alz h];omega};.rw[a1z (b x hx) _ Aa];exact b x hx);obtain⟨l,i,c,d,_⟩:=a n k h;have:=vn (m:=(List.range g.sz.toNat).map λk:Nat=>(k:Int)) c λx hx=>(by have:=d x hx;exact b0z.2 ⟨x.toNat,b2k.2 Aa,Aa⟩);rw[b0x,b3c]at this;omega
theorem boa{g:Gr}{O:Int->LI}{S:LI}(a:OkE g)(d: ∀x y,y∈O x↔∃e∈g.ed,e.fr=x/\e.to=y)(b: ∀x∈S,0<=x/\x<g.sz){n:Nat}(h:(pfr g O S n).2≠[]):n<g.sz.toNat:=by obtain⟨k,c⟩:=b6k _ h;exact bo5 a b (((abk (S:=S) a d n).2 k).1 c).2
theorem bhj{g:Gr}{O:Int->LI}{S:LI}(a:OkE g)(l: ∀x y,y∈O x↔∃e∈g.ed,e.fr=x/\e.to=y)(j: ∀x∈S,0<=x/\x<g.sz){n:Nat}(c:n<=g.sz.toNat+1)(h:(pfr g O S n).2=[]):(pfr g O S n).1=eb g S:=by obtain⟨d,f⟩:=abk (S:=S) a l n;rw[d];refine ey λk _ _=>(bm5 (λk b=> ?_) _ c k).symm;by_cases i:0<=dvl g S n k;{exact i};.have:=(f k).2 ⟨at8 a j _ _ b,b,Aa⟩;rw[h]at this;simp at this
theorem a9w{g:Gr}{S:LI}(a:OkE g):a1a g S g.sz.toNat=eb g S:=a5h a _
theorem adh(g:Gr)(S:LI):(eb g S).length=g.sz.toNat:=aaw _ _
def rf(ta:LI)(d:Int):Int:=if d<0 then 0 else if d<(ta.length:Int)then el ta d.toNat else 1
def aw9(d:LI)(x:Int)(b:Int)(k:Int):Int:=if k≠x/\0<=el d k.toNat/\(b<0\/el d k.toNat+2<b)then el d k.toNat+2 else b
def tn(d K:LI)(x:Int):Int:=K.foldl (aw9 d x) (el d x.toNat)
def apc(d gone ta K:LI)(x:Int):Int:=if 0<=tn d K x/\x∉gone then rf ta (tn d K x) - 1 else 0
def bb2(d gone ta K:LI):Int:=(K.map (apc d gone ta K)).sum
structure OkTa(ta:LI):Prop where
 ne:0<ta.length
 lo: ∀c∈ta,1<=c
 dec: ∀i j,i<=j->j<ta.length->el ta j<=el ta i
theorem ars{l:LI}{i:Nat}(h:i<l.length):el l i∈l:=by rw[el,bd,bq h];exact b1g h
theorem bi8{ta:LI}(a:OkTa ta){u:Int}(b:0<=u):1<=rf ta u:=by unfold rf;rw[if_neg Aa];split;{exact a.lo _ (ars Aa)};.omega
structure Ac where
 fr:Int
 to:Int
 cap:Int
deriving Inhabited,DecidableEq
structure Nt where
 nd:Int
 ac:List Ac
deriving Inhabited,DecidableEq
variable {L i j m t:Nat}{by_ f l:LI}{n:Nt}{k v x:Int}
structure OkNt(n:Nt):Prop where
 lo:2<=n.nd
 ac: ∀a∈n.ac,(0<=a.fr/\a.fr<n.nd)/\(0<=a.to/\a.to<n.nd)/\a.to≠0/\0<=a.cap/\a.cap<=1048576
structure RsS where
 by_:LI
 q:LI
deriving Inhabited
def az8(a:Ac)(f k:Int)(i:Nat)(s:RsS):RsS:=if a.fr=k/\f<a.cap/\a.to∉s.q then⟨s.by_.set a.to.toNat (i+1),s.q++[a.to]⟩else s
def a0b(a:Ac)(f k:Int)(i:Nat)(s:RsS):RsS:=if a.to=k/\0<f/\a.fr∉s.q then⟨s.by_.set a.fr.toNat (-((i:Int)+1)),s.q++[a.fr]⟩else s
def rsI(n:Nt)(f:LI)(k:Int)(s:RsS):Nat->RsS
 |0=>s
 |i+1=>a0b (el n.ac i) (el f i) k i (az8 (el n.ac i) (el f i) k i (rsI n f k s i))
def rsT(n:Nt)(f:LI):Nat->RsS
 |0=>⟨List.replicate n.nd.toNat 0,[0]⟩
 |t+1=>if t<(rsT n f t).q.length then rsI n f (el (rsT n f t).q t) (rsT n f t) n.ac.length else rsT n f t
def acy(n:Nt)(f by_ q:LI)(x:Int)(j:Nat):Prop:=
 ∃i,i<n.ac.length/\∃j',j'<j/\((el by_ x.toNat=(i:Int)+1/\(el n.ac i).to=x/\el f i<(el n.ac i).cap/\(el n.ac i).fr=el q j')\/(el by_ x.toNat= -((i:Int)+1)/\(el n.ac i).fr=x/\0<el f i/\(el n.ac i).to=el q j'))
structure RsInv(n:Nt)(f:LI)(s:RsS):Prop where
 len:s.by_.length=n.nd.toNat
 hd: ∃r,s.q=0::r
 nd:s.q.Nodup
 rng: ∀x∈s.q,0<=x/\x<n.nd
 tree: ∀j,0<j->j<s.q.length->acy n f s.by_ s.q (el s.q j) j
 out: ∀x:Int,0<=x->x<n.nd->(x∉s.q\/x=0)->el s.by_ x.toNat=0
theorem ap2(h:j<l.length):el (l++[x]) j=el l j:=by simp[el,bd,b09 h]
theorem bi3:el (l++[x]) l.length=x:=by simp[el,bd]
theorem ag4(h:i<l.length):el (l.set i x) i=x:=by simp[el,bd,h]
theorem yr(h:i≠j):el (l.set i x) j=el l j:=by simp[el,bd,List.getElem?_set_ne h]
theorem aoj{q:LI}{y:Int}(h:acy n f by_ q x j)(g:j<=q.length)(hx:0<=x)(e:0<=y)(d:x≠y):acy n f (by_.set y.toNat v) (q++[y]) x j:=by obtain⟨i,b,c,a,h⟩:=h;refine⟨i,b,c,a,?_⟩;rw[yr Aa,ap2 Aa];exact h
theorem a18{s:RsS}(h:RsInv n f s){y:Int}(o:0<=y/\y<n.nd)(l:y∉s.q)(t: ∃i,i<n.ac.length/\∃j',j'<s.q.length/\((v=(i:Int)+1/\(el n.ac i).to=y/\el f i<(el n.ac i).cap/\(el n.ac i).fr=el s.q j')\/(v= -((i:Int)+1)/\(el n.ac i).fr=y/\0<el f i/\(el n.ac i).to=el s.q j'))):RsInv n f ⟨s.by_.set y.toNat v,s.q++[y]⟩:=by obtain⟨r,g⟩:=h.hd;have B:=h.len;have u:y≠0:=λe=>l (by rw[g,e];simp);refine⟨by simp[B],⟨r++[y],Ew⟩,?_,λx hx=> ?_,λj h0 C=> ?_,λx w A hx=> ?_⟩;{refine b6p.2 ⟨h.nd,Ad,λa D b m=> ?_⟩;rw[b1h]at m;rintro rfl;exact l (m ▸ D)};{rcases b0j.1 hx with hx|hx;{exact h.rng x hx};.rw[b1h]at hx;rw[hx];exact o};{rw[b0a,b1j]at C;by_cases c:j<s.q.length;{show acy n f _ _ (el (s.q++[y]) j) j;rw[ap2 c];have k:=ars c;exact aoj (h.tree j h0 c) Aa (h.rng _ k).1 o.1 λe=>l (e ▸ k)};.have:j=s.q.length:=Aa;subst this;show acy n f _ _ (el (s.q++[y]) s.q.length) _;rw[bi3];obtain⟨i,p,j',d,z⟩:=t;refine⟨i,p,j',d,?_⟩;rw[ag4 Aa,ap2 d];exact z};.have hxy:x≠y:=λe=>(by rcases hx with hx|hx;{exact hx (by rw[e];simp)};.omega);show el (s.by_.set _ _) _=0;rw[yr Aa];refine h.out x w A ?_;rcases hx with hx|hx;{exact .inl λk=>hx (b4c _ k)};.exact .inr hx
theorem bbz{s:RsS}(a:OkNt n)(h:RsInv n f s)(hi:i<n.ac.length)(b:j<s.q.length):RsInv n f (az8 (el n.ac i) (el f i) (el s.q j) i s)/\∃r,(az8 (el n.ac i) (el f i) (el s.q j) i s).q=s.q++r:=by have c:el n.ac i∈n.ac:=(by rw[el,bd,bq hi];exact b1g hi);obtain⟨_,d,_⟩:=a.ac _ c;unfold az8;split;{rename_i hc;exact⟨a18 h d hc.2.2 ⟨i,hi,j,b,.inl ⟨rfl,rfl,hc.2.1,hc.1⟩⟩,_,rfl⟩};.exact⟨h,[],Ad⟩
theorem bd4{s:RsS}(a:OkNt n)(h:RsInv n f s)(hi:i<n.ac.length)(b:j<s.q.length):RsInv n f (a0b (el n.ac i) (el f i) (el s.q j) i s)/\∃r,(a0b (el n.ac i) (el f i) (el s.q j) i s).q=s.q++r:=by have c:el n.ac i∈n.ac:=(by rw[el,bd,bq hi];exact b1g hi);obtain⟨d,_,_⟩:=a.ac _ c;unfold a0b;split;{rename_i hc;exact⟨a18 h d hc.2.2 ⟨i,hi,j,b,.inr ⟨rfl,rfl,hc.2.1,hc.1⟩⟩,_,rfl⟩};.exact⟨h,[],Ad⟩
theorem a1w{r:LI}(h:j<l.length):el (l++r) j=el l j:=by simp[el,bd,b09 h]
theorem aqw{s:RsS}(b:OkNt n)(h:RsInv n f s){j:Nat}(c:j<s.q.length): ∀i,i<=n.ac.length->RsInv n f (rsI n f (el s.q j) s i)/\∃r,(rsI n f (el s.q j) s i).q=s.q++r
 |0,_=>⟨h,[],by simp[rsI]⟩
 |i+1,hi=>by
  obtain⟨h1,r1,e1⟩:=aqw b h c i Aa;have k1:el (rsI n f (el s.q j) s i).q j=el s.q j:=by rw[e1,a1w c]
  obtain⟨d,k,a⟩:=bbz b h1 (i:=i) (j:=j) Aa (by rw[e1,b0a];omega);rw[k1]at d a;have l:el (az8 (el n.ac i) (el f i) (el s.q j) i (rsI n f (el s.q j) s i)).q j=el s.q j:=by rw[a,e1,b0m,a1w c]
  obtain⟨e,m,g⟩:=bd4 b d (i:=i) (j:=j) Aa (by rw[a,e1,b0a,b0a];omega);rw[l]at e g;rw[rsI];exact⟨e,r1++(k++m),by rw[g,a,e1];simp⟩
theorem azd(a:OkNt n):RsInv n f (rsT n f 0):=by have c:=a.lo;refine⟨by simp[rsT],⟨[],rfl⟩,by simp[rsT],λx hx=> ?_,λj h0 b=> ?_,λx d e _=> ?_⟩;{simp[rsT]at hx;omega};{simp[rsT]at b;omega};.have:x.toNat<n.nd.toNat:=Aa;simp[rsT,el,bd,this]
theorem a0t{s:RsS}(h:RsInv n f s):s.q.length<=n.nd.toNat:=by have:=vn (m:=(List.range n.nd.toNat).map λk:Nat=>(k:Int)) h.nd λx hx=>(by have:=h.rng x hx;exact b0z.2 ⟨x.toNat,b2k.2 Aa,Aa⟩);rwa [b0x,b3c]at this
theorem ag3{f:LI}(a:OkNt n): ∀t,RsInv n f (rsT n f t)
 |0=>azd a
 |t+1=>by
  have ih:=ag3 (f:=f) a t;rw[rsT];split
  .rename_i h;exact(aqw a ih h _ (b0f _)).1
  .exact ih
theorem ban(h: ¬t<(rsT n f t).q.length): ∀u,t<=u->rsT n f u=rsT n f t:=λu a=>by
 induction a with
 |refl=>rfl
 | @step k hk ih=>
  have e:rsT n f (k+1)=if k<(rsT n f k).q.length then rsI n f (el (rsT n f k).q k) (rsT n f k) n.ac.length else rsT n f k:=rfl
  show rsT n f (k+1)=_;have b:t<=k:=hk;rw[e,ih,if_neg Aa]
def rsF(n:Nt)(f:LI):RsS:=rsT n f n.nd.toNat
theorem xz(a:OkNt n):RsInv n f (rsF n f):=ag3 a _
theorem bn9(a:OkNt n)(h:t<(rsT n f t).q.length):t<n.nd.toNat:=by have:=a0t (ag3 (f:=f) a t);omega
theorem bkm(a:t<=n.nd.toNat)(h: ¬t<(rsT n f t).q.length):rsT n f t=rsF n f:=(ban h _ a).symm
def par(n:Nt)(by_:LI)(k:Int):Int:=if 0<el by_ k.toNat then(el n.ac (el by_ k.toNat - 1).toNat).fr else(el n.ac (-el by_ k.toNat - 1).toNat).to
def ja(by_:LI)(k:Int):Nat:=if 0<el by_ k.toNat then(el by_ k.toNat - 1).toNat else(-el by_ k.toNat - 1).toNat
theorem a3i(h:el by_ k.toNat=(i:Int)+1):0<el by_ k.toNat/\ja by_ k=i:=by unfold ja;rw[h,if_pos Aa];omega
theorem a4r(h:el by_ k.toNat= -((i:Int)+1)):el by_ k.toNat<0/\ja by_ k=i:=by unfold ja;rw[h,if_neg Aa];omega
structure Stp(n:Nt)(f by_ q:LI)(k k':Int)(j j':Nat):Prop where
 pa:par n by_ k=k'
 at_:el q j'=k'
 lt:j'<j
 il:ja by_ k<n.ac.length
 hw:(0<el by_ k.toNat/\(el n.ac (ja by_ k)).to=k/\el f (ja by_ k)<(el n.ac (ja by_ k)).cap/\(el n.ac (ja by_ k)).fr=k')\/(el by_ k.toNat<0/\(el n.ac (ja by_ k)).fr=k/\0<el f (ja by_ k)/\(el n.ac (ja by_ k)).to=k')
theorem bnm{s:RsS}(h:RsInv n f s)(h0:0<j)(g:j<s.q.length): ∃j',Stp n f s.by_ s.q (el s.q j) (el s.q j') j j':=by obtain⟨i,e,j',a,k⟩:=h.tree j h0 g;refine⟨j',?_⟩;rcases k with ⟨d,b,c,c4⟩|⟨d,b,c,c4⟩;{obtain⟨b1,b2⟩:=a3i d;refine⟨?_,rfl,a,by rw[b2];exact e,.inl ⟨b1,?_,?_,?_⟩⟩;{unfold par;rw[if_pos b1,show(el s.by_ (el s.q j).toNat - 1).toNat=i from Aa];exact c4};{rw[b2];exact b};{rw[b2];exact c};.rw[b2];exact c4};.obtain⟨b1,b2⟩:=a4r d;refine⟨?_,rfl,a,by rw[b2];exact e,.inr ⟨b1,?_,?_,?_⟩⟩;{unfold par;rw[if_neg Aa,show(-el s.by_ (el s.q j).toNat - 1).toNat=i from Aa];exact c4};{rw[b2];exact b};{rw[b2];exact c};.rw[b2];exact c4
theorem bo1{s:RsS}(h:RsInv n f s): ∀(j:Nat),j<s.q.length->∃(L:Nat) (P:Nat->Nat),P 0=j/\P L=0/\∀m,m<L->0<P m/\P m<s.q.length/\Stp n f s.by_ s.q (el s.q (P m)) (el s.q (P (m+1))) (P m) (P (m+1)):=by intro j;induction j using Nat.strongRecOn with|ind j ih=>intro a;by_cases h0:j=0;{exact⟨0,λ_=>0,h0.symm,rfl,λm d=>Aa⟩};.obtain⟨j',hs⟩:=bnm h Aa a;obtain⟨L,P,e,b,c⟩:=ih j' hs.lt (by have:=hs.lt;omega);(refine⟨L+1,λm=>match m with|0=>j|m+1=>P m,rfl,b,λm d=> ?_⟩);cases m with|zero=>refine⟨by show 0<j;omega,a,?_⟩;show Stp n f s.by_ s.q (el s.q j) (el s.q (P 0)) j (P 0);rw[e];exact hs|succ m=>exact c m Aa
def pk(n:Nt)(by_:LI):Nat->Int
 |0=>1
 |m+1=>par n by_ (pk n by_ m)
def a57(n:Nt)(f by_:LI)(k:Int):Int:=if 0<el by_ k.toNat then(el n.ac (ja by_ k)).cap - el f (ja by_ k)else el f (ja by_ k)
def lst(n:Nt)(f by_:LI):Nat->Int
 |0=>1048576
 |m+1=>min (lst n f by_ m) (a57 n f by_ (pk n by_ m))
def psh(by_:LI)(k v:Int)(f:LI):LI:=if 0<el by_ k.toNat then f.set (ja by_ k) (el f (ja by_ k)+v)else f.set (ja by_ k) (el f (ja by_ k) - v)
def fl(n:Nt)(f by_:LI)(v:Int):Nat->LI
 |0=>f
 |m+1=>psh by_ (pk n by_ m) v (fl n f by_ v m)
structure Way(n:Nt)(f:LI)(s:RsS)(L:Nat)(P:Nat->Nat):Prop where
 pos:0<L
 end_ : pk n s.by_ L = 0
 mid: ∀m,m<L->pk n s.by_ m≠0/\pk n s.by_ m∈s.q/\Stp n f s.by_ s.q (pk n s.by_ m) (pk n s.by_ (m+1)) (P m) (P (m+1))
 at_: ∀m,m<=L->el s.q (P m)=pk n s.by_ m/\P m<s.q.length
theorem bqf(h:l.Nodup)(hi:i<l.length)(c:j<l.length)(b:el l i=el l j):i=j:=by simp only[el,bd,bq hi,bq c,b1o]at b;have d:=b1i.1 h;rcases b8b i j with a|a|a;{exact absurd b (d i j hi c a)};{exact a};.exact absurd b.symm (d j i c hi a)
theorem bos{s:RsS}(h:RsInv n f s)(y:el s.by_ 1≠0)(B:2<=n.nd): ∃L P,Way n f s L P:=by
 have d:(1:Int)∈s.q:=by by_cases d:(1:Int)∈s.q;{exact d};.exact absurd (h.out 1 Aa Aa (.inl d)) y
 obtain⟨j,t,o⟩:=b1f.1 d;have g:el s.q j=1:=by rw[el,bd,bq t];exact o
 obtain⟨r,u⟩:=h.hd;have p:el s.q 0=0:=by rw[u];rfl
 have k:0<s.q.length:=by rw[u];simp
 obtain⟨L,P,x,v,w⟩:=bo1 h j t
 have c: ∀m,m<=L->el s.q (P m)=pk n s.by_ m/\P m<s.q.length:=λm=>by induction m with|zero=>intro _;rw[x];exact⟨g,t⟩|succ m ih=>intro d;obtain⟨a,b⟩:=ih Aa;obtain⟨_,_,i⟩:=w m Aa;refine⟨?_,by have:=i.lt;omega⟩;rw[pk,<-a];exact i.pa.symm
 refine⟨L,P,?_,?_,λm d=> ?_,c⟩
 .by_cases hL:L=0;{subst hL;have:P 0=0:=v;rw[x]at this;rw[this,p]at g;omega};.omega
 .rw[<-(c L (b0f _)).1,v,p]
 .obtain⟨a,b,i⟩:=w m d;obtain⟨l,A⟩:=c m Aa;obtain⟨z,_⟩:=c (m+1) Aa;rw[l,z]at i;refine⟨λe=> ?_,l ▸ ars b,i⟩;have:=bqf h.nd b k (by rw[l,e,p]);omega
theorem bo3{s:RsS}{P:Nat->Nat}(w:Way n f s L P): ∀m k,m<=k->k<=L->P k<=P m:=λm k c=>by
 induction c with
 |refl=>intro _;exact b0f _
 | @step k h ih=>
  intro d;have a:=(w.mid k Aa).2.2.lt;have b:=ih Aa;exact b1l (Nat.le_of_lt a) b
theorem bpz{s:RsS}(h:RsInv n f s){P:Nat->Nat}(w:Way n f s L P){k:Nat}(t:m<k)(o:k<L):ja s.by_ (pk n s.by_ m)≠ja s.by_ (pk n s.by_ k):=λe=>by
 obtain⟨_,_,a⟩:=w.mid m Aa;obtain⟨_,_,b⟩:=w.mid k o;have z:=a.lt;have x:=b.lt;have y:=bo3 w (m+1) k Aa Aa
 have d: ∀u v:Nat,u<=L->v<=L->pk n s.by_ u=pk n s.by_ v->P u=P v:=λu v l p e=>by
  obtain⟨q,r⟩:=w.at_ u l;obtain⟨v1,v2⟩:=w.at_ v p;exact bqf h.nd r v2 (by rw[q,v1,e])
 rcases a.hw with ⟨_,c,_,j⟩|⟨_,c,_,j⟩<;>rcases b.hw with ⟨_,i,_,g⟩|⟨_,i,_,g⟩<;>rw[e]at c j
 .have:=d m k Aa Aa (c.symm.trans i);omega
 .have:=d m (k+1) Aa Aa (c.symm.trans g);omega
 .have:=d m (k+1) Aa Aa (c.symm.trans g);omega
 .have:=d m k Aa Aa (c.symm.trans i);omega
theorem bip:(psh by_ k v f).length=f.length:=by unfold psh;split<;>simp
theorem a0x: ∀m,(fl n f by_ v m).length=f.length
 |0=>rfl
 |m+1=>by rw[fl,bip,a0x m]
theorem bgk(h:ja by_ k≠i):el (psh by_ k v f) i=el f i:=by unfold psh;split<;>exact yr h
theorem aqv{s:RsS}(h:RsInv n f s){P:Nat->Nat}(w:Way n f s L P){k:Nat}(hk:k<L): ∀m,m<=k->el (fl n f s.by_ v m) (ja s.by_ (pk n s.by_ k))=el f (ja s.by_ (pk n s.by_ k))
 |0,_=>rfl
 |m+1,hm=>by rw[fl,bgk (bpz h w (by omega) hk),aqv h w hk m (by omega)]
def okF(n:Nt)(f:LI):Prop:=f.length=n.ac.length/\∀i,i<n.ac.length->0<=el f i/\el f i<=(el n.ac i).cap
theorem bdu{s:RsS}{P:Nat->Nat}(w:Way n f s L P)(d:m<L):1<=a57 n f s.by_ (pk n s.by_ m):=by obtain⟨_,_,a⟩:=w.mid m d;unfold a57;rcases a.hw with ⟨b,_,c,_⟩|⟨b,_,c,_⟩;{rw[if_pos b];omega};.rw[if_neg Aa];omega
theorem ahg{s:RsS}{P:Nat->Nat}(w:Way n f s L P): ∀m,m<=L->1<=lst n f s.by_ m/\lst n f s.by_ m<=1048576
 |0,_=>by simp[lst]
 |m+1,hm=>by
  have h1:=ahg w m Aa;have a:=bdu w (m:=m) Aa;rw[lst];omega
theorem a8c{n:Nt}{f by_:LI}: ∀{m k:Nat},m<k->lst n f by_ k<=a57 n f by_ (pk n by_ m)
 |m,k+1,h=>by
  rw[lst];by_cases hm:m=k
  .subst hm;omega
  .have:=a8c (n:=n) (f:=f) (by_:=by_) (m:=m) (k:=k) Aa;omega
theorem bh9{s:RsS}(h:RsInv n f s){P:Nat->Nat}(w:Way n f s L P)(b:okF n f){v:Int}(h0:1<=v)(hv: ∀m,m<L->v<=a57 n f s.by_ (pk n s.by_ m)): ∀m,m<=L->okF n (fl n f s.by_ v m)
 |0,_=>b
 |m+1,hm=>by
  have ih:=bh9 h w b h0 hv m Aa;obtain⟨_,_,a⟩:=w.mid m Aa;have hk:=aqv h w (v:=v) (k:=m) Aa m (b0f _);have hr:=hv m Aa;have hb:=b.2 _ a.il;refine⟨by rw[a0x];exact b.1,λi hi=> ?_⟩;rw[fl];by_cases hia:ja s.by_ (pk n s.by_ m)=i
  .subst hia;unfold psh a57 at*;have hl:ja s.by_ (pk n s.by_ m)<(fl n f s.by_ v m).length:=by rw[ih.1];exact a.il
   split
   .rename_i hp;rw[if_pos hp]at hr;rw[ag4 hl,hk];omega
   .rename_i hp;rw[if_neg hp]at hr;rw[ag4 hl,hk];omega
  .rw[bgk hia];exact ih.2 i hi
def xp(ac:List Ac)(f:LI):Int:=match ac,f with
 |a::ac,x::f=>(if a.fr=0 then a.cap - x else 0)+xp ac f
 |_,_=>0
theorem ah0: ∀(ac:List Ac) (f:LI) (i:Nat) (x:Int),i<ac.length->i<f.length->xp ac (f.set i x)=xp ac f - (if(el ac i).fr=0 then x - el f i else 0)
 |[],_,_,_,h,_=>by simp at h
 |_::_,[],_,_,_,h=>by simp at h
 |a::ac,y::f,0,x,_,_=>by
  show(if a.fr=0 then a.cap - x else 0)+xp ac f=(if a.fr=0 then a.cap - y else 0)+xp ac f - (if a.fr=0 then x - y else 0)
  split<;>omega
 |a::ac,y::f,i+1,x,h1,h2=>by
  have ih:=ah0 ac f i x Bv Cp;show(if a.fr=0 then a.cap - y else 0)+xp ac (f.set i x)=(if a.fr=0 then a.cap - y else 0)+xp ac f - (if(el ac i).fr=0 then x - el f i else 0);rw[ih];omega
theorem bjf(h:okF n f):0<=xp n.ac f:=by obtain⟨c,b⟩:=h;revert c b;generalize n.ac=ac;intro c b;induction ac generalizing f with|nil=>simp[xp]|cons a ac ih=>cases f with|nil=>simp[xp]|cons x f=>have:=ih (f:=f) Au λi d=>b (i+1) Aq;have h0:=b 0 Ad;have e:el (x::f) 0=x:=rfl;have g:el (a::ac) 0=a:=rfl;rw[e,g]at h0;show 0<=(if a.fr=0 then a.cap - x else 0)+xp ac f;split<;>omega
theorem bgd{s:RsS}(j:OkNt n)(h:RsInv n f s){P:Nat->Nat}(w:Way n f s L P)(o:okF n f){v:Int}: ∀m,m<=L->xp n.ac (fl n f s.by_ v m)=xp n.ac f - (if m=L then v else 0)
 |0,_=>by rw[if_neg (by have:=w.pos;omega)];simp[fl]
 |m+1,hm=>by
  have ih:=bgd j h w o (v:=v) m Aa;rw[if_neg Aa]at ih;obtain⟨hz,_,a⟩:=w.mid m Aa;have hl:ja s.by_ (pk n s.by_ m)<(fl n f s.by_ v m).length:=by rw[a0x,o.1];exact a.il
  have c:el n.ac (ja s.by_ (pk n s.by_ m))∈n.ac:=by
   rw[el,bd,bq a.il];exact b1g a.il
  obtain⟨_,_,p,_⟩:=j.ac _ c
  have b:m+1=L↔pk n s.by_ (m+1)=0:=by
   constructor
   .intro e;rw[e];exact w.end_
   .intro e;by_cases i:m+1<L
    .exact absurd e (w.mid _ i).1
    .omega
  rw[fl];unfold psh;rcases a.hw with ⟨l,k,_,g⟩|⟨l,k,_,g⟩
  .rw[if_pos l,ah0 _ _ _ _ a.il hl,ih,g];by_cases d:m+1=L
   .rw[if_pos d,if_pos (b.1 d)];omega
   .rw[if_neg d,if_neg λe=>d (b.2 e)];omega
  .rw[if_neg Aa,ah0 _ _ _ _ a.il hl,ih,if_neg (by rw[k];exact hz)];rw[if_neg λe=>p (by rw[g];exact b.1 e)];omega
def byF(n:Nt)(f:LI):LI:=(rsF n f).by_
open Classical in
noncomputable def a0a (n:Nt) (f:LI):Nat:=if h: ∃L P,Way n f (rsF n f) L P then h.choose else 0
theorem acf(a:OkNt n)(b:el (byF n f) 1≠0): ∃P,Way n f (rsF n f) (a0a n f) P:=by have h: ∃L P,Way n f (rsF n f) L P:=bos (xz a) b a.lo;unfold a0a;rw[dif_pos h];exact h.choose_spec
noncomputable def mxS (n:Nt) (f:LI):LI:=if el (byF n f) 1=0 then f else fl n f (byF n f) (lst n f (byF n f) (a0a n f)) (a0a n f)
theorem bnt(a:OkNt n)(b:okF n f):okF n (mxS n f):=by unfold mxS;split;{exact b};.rename_i h1;obtain⟨P,w⟩:=acf a h1;exact bh9 (xz a) w b (ahg w _ (b0f _)).1 (λm c=>a8c c) _ (b0f _)
theorem beu(a:OkNt n)(d:okF n f)(b:el (byF n f) 1≠0):xp n.ac (mxS n f)<xp n.ac f:=by obtain⟨P,w⟩:=acf a b;have h:=bgd a (xz a) w d (v:=lst n f (byF n f) (a0a n f)) (a0a n f) (b0f _);have c:=(ahg w (a0a n f) (b0f _)).1;unfold mxS;rw[if_neg b];rw[if_pos rfl]at h;have e:(rsF n f).by_=byF n f:=rfl;rw[e]at h c;omega
noncomputable def mxT (n:Nt):Nat->LI
 |0=>List.replicate n.ac.length 0
 |t+1=>mxS n (mxT n t)
theorem ali(a:OkNt n): ∀t,okF n (mxT n t)
 |0=>by
  refine⟨by simp[mxT],λi hi=> ?_⟩
  have hm:el n.ac i∈n.ac:=by
   rw[el,bd,bq hi];exact b1g hi
  have:=(a.ac _ hm).2.2.2.1;have e:el (mxT n 0) i=0:=by simp[mxT,el,bd,hi]
  rw[e]
  omega
 |t+1=>bnt a (ali a t)
theorem a6n(a:OkNt n): ∀t,(∀u,u<t->el (byF n (mxT n u)) 1≠0)->xp n.ac (mxT n t)+t<=xp n.ac (mxT n 0)
 |0,_=>by simp
 |t+1,h=>by
  have ih:=a6n a t λu b=>h u Aa;have c:=beu a (ali a t) (h t Aa);show xp n.ac (mxS n (mxT n t))+((t+1:Nat):Int)<=_;omega
theorem aiv(h:el (byF n (mxT n t)) 1=0): ∀u,t<=u->mxT n u=mxT n t:=λu a=>by
 induction a with
 |refl=>rfl
 | @step k hk ih=>
  show mxS n (mxT n k)=_;rw[ih];unfold mxS;rw[if_pos h]
noncomputable def air (n:Nt):LI:=mxT n (xp n.ac (mxT n 0)).toNat
theorem bgo(a:OkNt n)(h: ∀u,u<=t->el (byF n (mxT n u)) 1≠0):t<(xp n.ac (mxT n 0)).toNat:=by have c:=a6n a (t+1) λu b=>h u Aa;have d:=bjf (ali a (t+1));omega
theorem biy(d:OkNt n)(h:el (byF n (mxT n t)) 1=0):mxT n t=air n:=by have c: ∃u,u<=(xp n.ac (mxT n 0)).toNat/\el (byF n (mxT n u)) 1=0:=(by by_cases hx: ∃u,u<=(xp n.ac (mxT n 0)).toNat/\el (byF n (mxT n u)) 1=0;{exact hx};.have:=bgo d (t:=(xp n.ac (mxT n 0)).toNat) λu b e=>hx ⟨u,b,e⟩;omega);obtain⟨u,b,e⟩:=c;have f:air n=mxT n u:=aiv e _ b;rw[f];rcases Nat.le_total t u with a|a;{exact(aiv h _ a).symm};.exact aiv e _ a
theorem apj(a:OkNt n):okF n (air n):=ali a _
def a94(z:List (Ac×Int))(v:Int):Int:=(z.map λp=>(if p.1.to=v then p.2 else 0) - (if p.1.fr=v then p.2 else 0)).sum
structure OkZ(N:Nat)(z:List (Ac×Int)):Prop where
 two:2<=N
 rng: ∀p∈z,((0<=p.1.fr/\p.1.fr<N)/\0<=p.1.to/\p.1.to<N)/\p.1.to≠0/\0<=p.2/\p.2<=p.1.cap
 net: ∀v:Nat,2<=v->v<N->a94 z v=0
def arc(g:Gr)(d c:Int->Int)(seeds sinks:LI):List Ac:=
 (seeds.filter λk=>decide (0<=d k)).map (λk=>⟨0,2+2*k,c k⟩)++((((List.range g.sz.toNat).map λk:Nat=>(k:Int)).filter λk=>decide (0<=d k)).map (λk=>⟨2+2*k,3+2*k,c k - 1⟩)++((sinks.filter λk=>decide (0<=d k)).map (λk=>⟨2+2*k,1,1⟩)++(g.ed.filter λe=>decide (0<=d e.fr)).map λe=>⟨3+2*e.fr,2+2*e.to,64⟩))
end Go.Proofs.Am
