/- HB7. -/
import Derived.Test.YtlaoaleoeknhoaaGreatDoorHB1
set_option linter.unusedSimpArgs false
set_option linter.unusedVariables false
set_option maxHeartbeats 1000000
set_option maxRecDepth 100000
namespace Go.Proofs.Am
open Go Go.RowKit Tryz
open Go.Proofs
variable {N i:Nat}{f l o q:LI}{L:LS}{n:Nt}{g:Gr}{k x y:Int}
theorem a1h{α:Type}(p:α->Bool): ∀l:List α,(l.filter p).length+(l.filter λx=> !p x).length=l.length
 |[]=>rfl
 |a::l=>by
  have:=a1h p l;by_cases h:p a=true
  .simp[h];omega
  .have h':p a=false:=An
   simp[h'];omega
theorem a3f: ∀(A:LI) (L:LS),A.Nodup->(A.map λa=>(ofA L a).length).sum<=L.length
 |[],L,_=>by simp
 |a::A,L,hd=>by
  rw[b3i]at hd;have h1:=a1h (λs:Stm=>decide (s.au=a)) L;have h2:=a3f A (L.filter λs=> !decide (s.au=a)) hd.2
  have h3:(A.map λb=>(ofA (L.filter λs=> !decide (s.au=a)) b).length)=A.map λb=>(ofA L b).length:=by
   apply b7u;intro b d;have c:b≠a:=λe=>hd.1 (e ▸ d);unfold ofA;rw[b76];congr 1;apply b8c;intro s _;by_cases e:s.au=b
   .have: ¬s.au=a:=λf=>c (e.symm.trans f);simp[e,c]
   .simp[e]
  rw[h3]at h2;simp only[b07,List.sum_cons];unfold ofA at h2 ⊢;omega
theorem bbp{l:List Pn}(h:l6 l=true):(l.map (·.au)).Nodup:=by
 have h0: ∀i,i<l.length->n5 l i=true:=b0g h
 have hs: ∀i,0<i->i<l.length->(el l (i - 1)).au<(el l i).au:=λi b d=>by have:=h0 i d;simp only[n5,b0l,b2c,b64,b1d]at this;rcases this.1.1.2 with h|h;{exact absurd b h};.omega
 have f: ∀i,i<l.length->∀j,j<i->(el l j).au<(el l i).au:=by intro i;induction i with|zero=>intro _ j a;omega|succ i ih=>intro d j a;have g:=hs (i+1) Aa d;rw[b1z]at g;by_cases e:j=i;{rw[e];exact g};.have:=ih Aa j Aa;omega
 have k: ∀i (h:i<l.length),el l i=l[i]:=λi h=>by simp[el,bd,h]
 rw[List.nodup_iff_pairwise_ne,b1i];intro i j b a c e;simp only[b0x]at b a;simp only[b45]at e;have:=f j a i c;rw[k i b,k j a]at this;omega
def bmv(L:LS)(pins:List Pn)(i:Nat):Nat:=((pins.take i).map λp=>(ofA L p.au).length).sum
theorem a06{a:List Pn}(h:i<a.length):bmv L a (i+1)=bmv L a i+(ofA L (el a i).au).length:=by unfold bmv;rw[bt h,b0d,b7h];simp
theorem a7d{a:List Pn}(h:l6 a=true)(i:Nat):bmv L a i<=L.length:=by have c:=bbp h;have d:((a.take i).map (·.au)).Nodup:=(by rw[b3j];exact c.sublist (List.take_sublist _ _));have b:=a3f _ L d;rw[b66]at b;exact b
theorem a7l(L:LS)(a:List Pn)(x:L.length<=1000)(hs:GS L)(w:a.length<=100000): ∃r:LS×Int,(r.1.length<=L.length/\∀s∈r.1,s∈L)/\DN 277 [.agg [.vs (L.map sm)],.vs (a.map pn)] (.tup [.vs (r.1.map sm),.int .i64 r.2]):=by have g:=r6 L Aa hs.ok;have l:=afw a Af;generalize adk L=v at g;have z:([]:LS).length<=L.length/\∀s∈([]:LS),s∈L:=⟨Ad,Ad⟩;refine bi_ [] [] func277 ntmps277 results277 ?_;simp only[go_sem];refine aq (g) [] ?_;cases v;{simp only[go_sem];refine SX.put ([],1) z ?_;simp only[go_sem]};by_cases k:(64:Int)<(a.length:Int);{simp only[go_sem,k];refine SX.put ([],1) z ?_;simp only[go_sem]};simp only[go_sem,k];refine aq (l) [] ?_;cases hb:l6 a;{simp only[go_sem];refine SX.put ([],1) z ?_;simp only[go_sem]};simp only[go_sem];refine iu 6 99 75 13 false ?_ ?_ ?_ Aa;{refine im_ (0,([]:LS)) (λi:Nat×LS=>[(1,.vs (a.map pn)),(2,.ptr 2 0),(6,.os 99 i.2.length),(7,.int .i64 i.1)]) (λi=>[(2,.cells [.vs (L.map sm)]),(99,.arr 75 13 false (i.2.map sm))]) (λi=>i.1<=a.length/\i.2.length<=bmv L a i.1/\∀s∈i.2,s∈L) (λi=>a.length - i.1) ⟨Ad,Ad,Ad⟩ ?_ ?_;{simp only[go_sem]};.rintro⟨i,out⟩ ⟨i1,i2,i3⟩ ih;dsimp only at i1 i2 i3;have p:=wq_ i;have e:=a7d (L:=L) hb i;by_cases c:i<a.length;rotate_left;{have b: ¬(i:Int)<(a.length:Int):=Aa;simp only[go_sem,b];refine SX.put (out,0) ⟨by show out.length<=L.length;omega,i3⟩ ?_;simp only[go_sem]};have b:(i:Int)<(a.length:Int):=Aa;have o:=abq L (el a i).au;have q:=aas L (el a i).au Aa hs.ok;obtain⟨⟨B,u⟩,⟨m,f⟩,t⟩:=a38 (el a i).au (ofA L (el a i).au) (el a i).di Aa (λs h=>hs s (abs h).1);dsimp only at m f;simp only[go_sem,c,b];refine aq (q) [] ?_;simp only[go_sem,c,b];refine aq (t) [] ?_;cases u;{simp only[go_sem];(repeat refine an_ ?_);refine SX.put ([],11) z ?_;simp only[go_sem]};by_cases j:(B.length:Int)=(el a i).he;rotate_left;{simp only[go_sem,c,b,j];(repeat refine an_ ?_);refine SX.put ([],11) z ?_;simp only[go_sem]};have n:=a06 (L:=L) c;have d:=a7d (L:=L) hb (i+1);simp only[go_sem,c,b,j];(repeat refine an_ ?_);refine bkX (ih (i+1,out++B) ⟨Eh,by show(out++B).length<=bmv L a (i+1);rw[b0a];omega,λs h=> ?_⟩ Cd) ?_;{rcases b0j.1 h with h|h;{exact i3 s h};.exact(abs (f s h)).1};simp only[go_sem,p,b0a,b0d]};{simp only[go_sem]};.simp only[go_sem]
theorem bi0(L:LS)(a:List Pn)(b:L.length<=1000)(hs:GS L)(d:a.length<=100000): ∃r:LS×Int,(r.1.length<=L.length/\∀s∈r.1,s∈L)/\DN 207 [.agg [.vs (L.map sm)],.vs (a.map pn)] (.tup [.vs (r.1.map sm),.int .i64 r.2]):=by obtain⟨r,e,c⟩:=a7l L a b hs d;refine⟨r,e,?_⟩;refine ag_ func207 ntmps207 results207 ?_;simp only[go_sem];refine Qq c [] ?_;simp only[go_sem]
theorem bie(r:Rl)(c:Int)(b:RlB r): ∃x:Int×Int,True/\DN 343 [.agg (rl r),.int .i64 c] (.tup [.int .i64 x.1,.int .i64 x.2]):=by have e:=nh r Dq Dp Do;rw[fc]at e ⊢;refine bi_ [] [] func343 ntmps343 results343 ?_;simp only[go_sem];refine aq (e) [] ?_;by_cases a:c9 r=0;rotate_left;{simp only[go_sem,a];refine SX.put (0,c9 r) trivial ?_;simp only[go_sem]};by_cases d:c<0;{simp only[go_sem,a,d];refine SX.put (0,2) trivial ?_;simp only[go_sem]};by_cases f:(40:Int)<=c;{simp only[go_sem,a,d,f];refine SX.put (0,2) trivial ?_;simp only[go_sem]};simp only[go_sem,a,d,f];exact SX.put (_,0) trivial ⟨rfl,rfl⟩
def bcu(r:Rl)(L:LS):Tm:=el (dw r L) ((dw r L).length - 1)
theorem axz(r:Rl)(L:LS)(c:RlB r)(h0:c9 r=0)(e:L.length<=900)(hs: ∀s∈L,om s):DN 96 [.agg (rl r),.vs (L.map sm)] (.tup [.agg (tm (bcu r L)),.int .i64 0]):=by have a:=xt r L c e hs;have f:=td r L;have g:=sx r L;rw[vg h0]at a;unfold bcu;generalize dw r L=X at*;have b:IntKind.i64.wrap ((X.length:Int) - 1)=((X.length - 1:Nat):Int):=Ab;have d:X.length - 1<X.length:=Aa;rw[fc]at a ⊢;refine ag_ func96 ntmps96 results96 ?_;simp only[go_sem];refine Qq a [] ?_;simp only[go_sem,b,d]
theorem bjb(L:LS)(q:L.length<=1000)(hs:GS L): ∃r:List Pn,(r.length<=64/\∀p∈r,p.di.length<=32)/\DN 98 [.agg [.vs (L.map sm)]] (.vs (r.map pn)):=by refine bi_ [] [] func98 ntmps98 results98 ?_;simp only[go_sem];refine iu 3 99 114 3 false ?_ ?_ ?_ Aa;{refine im_ (0,([]:List Pn)) (λi:Nat×List Pn=>[(1,.ptr 1 0),(3,.os 99 i.2.length),(4,.int .i64 i.1)]) (λi=>[(1,.cells [.vs (L.map sm)]),(99,.arr 114 3 false (i.2.map pn))]) (λi=>i.1<=64/\i.2.length<=i.1/\∀p∈i.2,p.di.length<=32) (λi=>64 - i.1) ⟨Ad,Ad,Ad⟩ ?_ ?_;{simp only[go_sem]};.rintro⟨i,out⟩ ⟨i1,i2,i3⟩ ih;dsimp only at i1 i2 i3;have d:=wq_ i;by_cases o:i<64;rotate_left;{have b: ¬(i:Int)<64:=Aa;simp only[go_sem,b];refine SX.put out ⟨Aa,i3⟩ ?_;simp only[go_sem]};have b:(i:Int)<64:=Aa;have l:=abq L i;have n:=aas L i Aa hs.ok;obtain⟨C,⟨t,j⟩,k⟩:=a32 i (ofA L i) Aa (λs h=>hs.ok s (abs h).1);simp only[go_sem,b];refine aq (n) [] ?_;simp only[go_sem];refine aq (k) [] ?_;by_cases e:(0:Int)<(C.length:Int);rotate_left;{simp only[go_sem,e];refine bkX (ih (i+1,out) ⟨E4,by show out.length<=i+1;omega,i3⟩ Dt) ?_;simp only[go_sem,d]};have f:IntKind.i64.wrap ((C.length:Int) - 1)=((C.length - 1:Nat):Int):=Ab;have c:C.length - 1<C.length:=Aa;have m:=(a5y (j _ (aw c)).2).2.2;have a:(el C (C.length - 1)).sd.length<=32:=(by rw[(b0g m).2,show(dig (el C (C.length - 1))).length=32 from xw _];omega);simp only[go_sem,e,f,c];(repeat refine an_ ?_);refine bkX (ih (i+1,out++[⟨i,C.length,(el C (C.length - 1)).sd⟩]) ⟨E4,by show(out++[_]).length<=i+1;simp;omega,λp g=> ?_⟩ Dt) ?_;{rcases b0j.1 g with h|h;{exact i3 p h};.rw[b1h.1 h];exact a};simp only[go_sem,d,b0a,b0d]};{simp only[go_sem]};.simp only[go_sem]
structure DI(h g:Gr)(N:Int)(K:LI)(k:Nat):Prop where
 ok:dd h=true
 sz:h.sz=N
 gone:h.gone=g.gone
 len:h.ed.length<=k
 far: ∀e∈h.ed,(e.fr<g.sz->e.to<g.sz->e∈g.ed)/\(e.fr<g.sz->¬e.to<g.sz->e.fr∈K)
def acr(a:Ac):LP:=[.int .i64 a.fr,.int .i64 a.to,.int .i64 a.cap]
theorem bou(a:Ac):acr a=[.int .i64 a.fr,.int .i64 a.to,.int .i64 a.cap]:=(rfl)
def ntw(n:Nt):LP:=[.int .i64 n.nd,.vs (n.ac.map acr)]
theorem kg(n:Nt):ntw n=[.int .i64 n.nd,.vs (n.ac.map acr)]:=(rfl)
attribute [go_sem] bou kg
structure OkNw(n:Nt):Prop where
 nd:2<=n.nd/\n.nd<=130
 ln:n.ac.length<=1200
 ac: ∀a∈n.ac,(0<=a.fr/\a.fr<n.nd)/\(0<=a.to/\a.to<n.nd)/\a.fr≠a.to/\a.to≠0/\a.fr≠1/\0<=a.cap/\a.cap<=1048576
theorem OkNw.nt(h:OkNw n):OkNt n:=⟨h.nd.1,λa f=>by
 obtain⟨d,b,i,c,g,e⟩:=h.ac a f;exact⟨d,b,c,e⟩⟩
def ayl(a:Ac)(f:Int)(s:LI):LI:=s.set a.fr.toNat (el s a.fr.toNat - f)
def a47(a:Ac)(f:Int)(s:LI):LI:=s.set a.to.toNat (el s a.to.toNat+f)
def ajh(n:Nt)(f:LI):Nat->LI
 |0=>List.replicate n.nd.toNat 0
 |i+1=>a47 (el n.ac i) (el f i) (ayl (el n.ac i) (el f i) (ajh n f i))
theorem ai4(n:Nt)(f:LI): ∀i,(ajh n f i).length=n.nd.toNat
 |0=>by simp[ajh]
 |i+1=>by rw[ajh,a47,ayl,b15,b15,ai4 n f i]
def zL(n:Nt)(f:LI)(i:Nat):List (Ac×Int):=(List.range i).map λj=>(el n.ac j,el f j)
theorem a4b(n:Nt)(f:LI)(i:Nat):zL n f (i+1)=zL n f i++[(el n.ac i,el f i)]:=by unfold zL;rw[b34,b0d];rfl
theorem asu(z:List (Ac×Int))(p:Ac×Int)(v:Int):a94 (z++[p]) v=a94 z v+((if p.1.to=v then p.2 else 0) - (if p.1.fr=v then p.2 else 0)):=by unfold a94;rw[b0d,b7h];simp
theorem a7h{s:LI}{v:Nat}(h0:0<=k)(a:k<s.length):el (s.set k.toNat x) v=if k=v then x else el s v:=by split;{rename_i h;subst h;exact ag4 Aa};.rename_i h;exact yr Aa
theorem a2f{f:LI}(h:OkNw n): ∀i,i<=n.ac.length->∀v:Nat,v<n.nd.toNat->el (ajh n f i) v=a94 (zL n f i) v
 |0,_,v,hv=>by simp[ajh,zL,a94,el,bd,hv]
 |i+1,hi,v,hv=>by
  have ih:=a2f (f:=f) h i Aa;have hl:=ai4 n f i;obtain⟨q1,q2,q3,_⟩:=h.ac _ (aw (show i<n.ac.length from Aa));rw[ajh,a4b,asu,a47,a7h q2.1 (by rw[ayl,b15];omega),ayl];simp only;have e1:el ((ajh n f i).set (el n.ac i).fr.toNat (el (ajh n f i) (el n.ac i).fr.toNat - el f i)) (el n.ac i).to.toNat=el (ajh n f i) (el n.ac i).to.toNat:=yr Aa;rw[e1];by_cases c1:(el n.ac i).to=v
  .have c2: ¬(el n.ac i).fr=v:=Aa
   rw[if_pos c1,if_pos c1,if_neg c2,show(el n.ac i).to.toNat=v from Aa,ih v hv];omega
  .rw[if_neg c1,if_neg c1,a7h q1.1 Aa];by_cases c2:(el n.ac i).fr=v
   .rw[if_pos c2,if_pos c2,show(el n.ac i).fr.toNat=v from Aa,ih v hv];omega
   .rw[if_neg c2,if_neg c2,ih v hv];omega
theorem bm1(h:OkNw n)(a:okF n f): ∀i,i<=n.ac.length->∀v:Int,-(1048576*(i:Int))<=a94 (zL n f i) v/\a94 (zL n f i) v<=1048576*(i:Int)
 |0,_,v=>by simp[zL,a94]
 |i+1,hi,v=>by
  have ih:=bm1 h a i Aa v;obtain⟨d,c,b,_,_,g⟩:=h.ac _ (aw (show i<n.ac.length from Aa));have e:=a.2 i Aa;rw[a4b,asu];simp only;split<;>split<;>omega
def age(n:Nt)(f:LI):Bool:=decide (∀v:Nat,v<n.nd.toNat->2<=v->el (ajh n f n.ac.length) v=0)
def a2h(n:Nt)(f:LI):Nat->Int
 |0=>0
 |i+1=>a2h n f i+if(el n.ac i).fr=0 then el f i else 0
def zn(n:Nt)(f:LI):Int:=if age n f=true then a2h n f n.ac.length else 0
theorem a4w(h:OkNw n)(a:okF n f): ∀i,i<=n.ac.length->0<=a2h n f i/\a2h n f i<=1048576*(i:Int)
 |0,_=>by simp[a2h]
 |i+1,hi=>by
  have ih:=a4w h a i Aa;obtain⟨d,c,b,_,_,g⟩:=h.ac _ (aw (show i<n.ac.length from Aa));have e:=a.2 i Aa;rw[a2h];split<;>omega
def dZ(g:Gr)(p:Pol)(k:Int):Int:=el (eb (eu g p.lv) p.se) k.toNat
def cZ(g:Gr)(p:Pol)(k:Int):Int:=rf p.ta (dZ g p k)
def afi(g:Gr)(p:Pol)(K:LI):Nt:=⟨2+2*g.sz,arc (eu g p.lv) (dZ g p) (cZ g p) p.se K⟩
theorem aj2{n:Int}{p:Pol}:m9 n p=true↔0<p.se.length/\pq p.se n=true/\(1<=p.ta.length/\p.ta.length<=8/\1<=p.lv/\p.lv<=3)/\xf (pj p.ta) p.ta.length=true:=by unfold m9;simp only[b0l,b01]
theorem bg3{n:Int}{p:Pol}(h:m9 n p=true)(d:Int):0<=rf p.ta d/\rf p.ta d<=1000/\(0<=d->1<=rf p.ta d):=
 ⟨(aiz h d).1,(aiz h d).2,λh0=>bi8 (bid h) h0⟩
theorem qu{n:Int}(h:pq l n=true)(h0:0<=n):l.length<=n.toNat:=by obtain⟨a,b⟩:=j8.1 h;have:=vn (l:=l) (m:=(List.range n.toNat).map λk:Nat=>(k:Int)) (b.imp λh=>Aa) λx hx=>(by have:=a x hx;exact b0z.2 ⟨x.toNat,b2k.2 Aa,Aa⟩);rw[b0x,b3c]at this;exact this
theorem a65{d c:Int->Int}{f b:LI}{a:Ac}(h:a∈arc g d c f b):
  (∃k∈f,0<=d k/\a=⟨0,2+2*k,c k⟩)\/(∃k:Nat,k<g.sz.toNat/\0<=d k/\a=⟨2+2*k,3+2*k,c k - 1⟩)\/(∃k∈b,0<=d k/\a=⟨2+2*k,1,1⟩)\/∃e∈g.ed,0<=d e.fr/\a=⟨3+2*e.fr,2+2*e.to,64⟩:=by unfold arc at h;simp only[b0j,b0z,b16,b01]at h;rcases h with ⟨k,⟨i,l⟩,rfl⟩|⟨k,⟨⟨j,i,rfl⟩,l⟩,rfl⟩|⟨k,⟨i,l⟩,rfl⟩|⟨e,⟨i,l⟩,rfl⟩;{exact .inl ⟨k,i,l,rfl⟩};{exact .inr (.inl ⟨j,b2k.1 i,l,rfl⟩)};{exact .inr (.inr (.inl ⟨k,i,l,rfl⟩))};.exact .inr (.inr (.inr ⟨e,i,l,rfl⟩))
theorem a3y{p:Pol}{K:LI}(t:dd g=true)(j:m9 g.sz p=true)(n:pq K g.sz=true):OkNw (afi g p K):=by obtain⟨⟨l,H,x⟩,b,c,_⟩:=abu.1 t;obtain⟨A,i,y,D⟩:=aj2.1 j;have J:=qu i l;have F:=qu n l;have q:=(j8.1 i).1;have r:=(j8.1 n).1;have f:(eu g p.lv).sz=g.sz:=rfl;refine⟨⟨by show 2<=2+2*g.sz;omega,by show 2+2*g.sz<=130;omega⟩,?_,λa w=> ?_⟩;{show(arc _ _ _ _ _).length<=1200;unfold arc;simp only[b0a,b0x];have I:=b05 (λk=>decide (0<=dZ g p k)) p.se;have v:=b05 (λk=>decide (0<=dZ g p k)) ((List.range (eu g p.lv).sz.toNat).map λk:Nat=>(k:Int));have z:=b05 (λk=>decide (0<=dZ g p k)) K;have C:=b05 (λe:Ed=>decide (0<=dZ g p e.fr)) (eu g p.lv).ed;have s:=b05 (λe:Ed=>decide (p.lv<=e.lv)) g.ed;rw[b0x,b3c,f]at v;have G:(eu g p.lv).ed.length<=g.ed.length:=s;rw[f];omega};.have hn:(afi g p K).nd=2+2*g.sz:=rfl;rw[hn];have m:=λk=>bg3 j (dZ g p k);rcases a65 w with ⟨k,d,h,rfl⟩|⟨k,d,h,rfl⟩|⟨k,d,h,rfl⟩|⟨e,d,h,rfl⟩;{have:=q k d;have u:=m k;have o:cZ g p k=rf p.ta (dZ g p k):=rfl;simp only;omega};{rw[f]at d;have u:=m k;have o:cZ g p k=rf p.ta (dZ g p k):=rfl;simp only;omega};{have:=r k d;simp only;omega};.have d:e∈g.ed:=(b16.1 d).1;obtain⟨B,L,E,_⟩:=c e d;simp only;omega
theorem a7f(l:LI)(x:Int):l.take (aag l x)=l.takeWhile λa=>decide (a<x):=by unfold aag;exact(b4l.1 (b4t _)).symm
theorem ah8:y∈aj7 l x↔y=x\/y∈l:=by unfold aj7;split;{rename_i h;constructor;{exact .inr};.rintro(rfl|h1);{have:=aw h.1;rw[h.2]at this;exact this};.exact h1};.rw[b0j,b0p];constructor;{rintro(h|h|h);{exact .inr (b1e h)};{exact .inl h};.exact .inr (b1t h)};.rintro(h|h);{exact .inr (.inl h)};.rw[<-b3u (aag l x) l,b0j]at h;rcases h with h|h;{exact .inl h};.exact .inr (.inr h)
theorem asw{n:Int}(h:pq l n=true)(hx:0<=x/\x<n):pq (aj7 l x) n=true:=by obtain⟨o,k⟩:=j8.1 h;refine j8.2 ⟨λy i=> ?_,?_⟩;{rcases ah8.1 i with rfl|i;{exact hx};.exact o y i};.unfold aj7;split;{exact k};.rename_i hn;have m:=k;rw[<-b3u (aag l x) l]at m;obtain⟨t,g,q⟩:=b4d.1 m;have s: ∀a∈l.take (aag l x),a<x:=λa f=>(by rw[a7f]at f;have:=b06.1 (b5h (p:=λa=>decide (a<x)) (l:=l)) _ f;exact b0g this);have u: ∀b∈l.drop (aag l x),x<b:=λb c=>(by have d:aag l x<l.length:=(by have:=b4o c;rw[b1b]at this;omega);have j:l.drop (aag l x)=el l (aag l x)::l.drop (aag l x+1):=(by rw[b2g d];congr 1;simp[el,bd,d]);have v:=b1a (pe (p:=λa=>decide (a<x)) (l:=l) j);have r: ¬el l (aag l x)=x:=λe=>hn ⟨d,e⟩;rw[j]at c g;rcases b0p.1 c with rfl|c;{omega};.have:=(b10.1 g).1 b c;omega);refine b4d.2 ⟨t,b10.2 ⟨u,g⟩,λa f b c=> ?_⟩;rcases b0p.1 c with rfl|c;{exact s a f};.exact q a f b c
def aur(D:LI)(z:Nat):LI:=(List.range z).flatMap λn:Nat=>((List.range z).filter λk:Nat=>decide (el D k=(n:Int))).map λk:Nat=>(k:Int)
theorem ahr{D:LI}{z:Nat}(h:x∈aur D z):(0<=x/\x<z)/\0<=el D x.toNat:=by unfold aur at h;obtain⟨n,_,h⟩:=b51.1 h;obtain⟨k,c,rfl⟩:=b0z.1 h;obtain⟨b,a⟩:=b16.1 c;have b:=b2k.1 b;have a:=b0g a;refine⟨Aa,?_⟩;rw[b19,a];omega
theorem ayq(D:LI)(z:Nat):(aur D z).Nodup:=by unfold aur;refine b7i.2 ⟨λn _=> ?_,?_⟩;{rw[b4f];exact(List.nodup_range.filter _).imp λh=>Aa};.refine List.nodup_range.imp λh x hx y f e=> ?_;obtain⟨a,d,rfl⟩:=b0z.1 hx;obtain⟨b,c,g⟩:=b0z.1 f;have d:=b0g (b16.1 d).2;have c:=b0g (b16.1 c).2;have:a=b:=Aa;subst this;omega
theorem aui(D:LI)(z:Nat):(aur D z).length<=z:=by have:=vn (m:=(List.range z).map λk:Nat=>(k:Int)) (ayq D z) λx hx=>(by have:=(ahr hx).1;exact b0z.2 ⟨x.toNat,b2k.2 Aa,Aa⟩);rwa [b0x,b3c]at this
noncomputable def bol (g:Gr) (p:Pol) (s:LI×LI) (k:Int):LI×LI:=if zn (afi g p (aj7 s.2 k)) (air (afi g p (aj7 s.2 k)))=((aj7 s.2 k).length:Int)then(s.1++[k],aj7 s.2 k)else s
noncomputable def aj4 (g:Gr) (p:Pol) (o:LI):LI×LI:=o.foldl (bol g p) ([],[])
theorem alu{p:Pol}(h:i<o.length):aj4 g p (o.take (i+1))=bol g p (aj4 g p (o.take i)) (el o i):=by unfold aj4;rw[b4g,bq h,b6i,b22];simp[el,bd,h]
structure AI(g:Gr)(p:Pol)(o:LI)(s:LI×LI):Prop where
 sub:s.1.Sublist o
 mem: ∀x∈s.1,x∈s.2
 set:pq s.2 g.sz=true
 sv:s.2=[]\/zn (afi g p s.2) (air (afi g p s.2))=(s.2.length:Int)
theorem bj0{p:Pol}{s:LI×LI}(h:AI g p o s)(a:0<=k/\k<g.sz):AI g p (o++[k]) (bol g p s k):=by unfold bol;split;{rename_i hv;refine⟨h.sub.append (List.Sublist.refl _),λx hx=> ?_,asw h.set a,.inr hv⟩;show x∈aj7 s.2 k;rcases b0j.1 hx with hx|hx;{exact ah8.2 (.inr (h.mem x hx))};.exact ah8.2 (.inl (b1h.1 hx))};.exact⟨h.sub.trans (List.sublist_append_left _ _),h.mem,h.set,h.sv⟩
theorem asf{p:Pol}(a: ∀x∈o,0<=x/\x<g.sz): ∀i,i<=o.length->AI g p (o.take i) (aj4 g p (o.take i))
 |0,_=>⟨by simp[aj4],by simp[aj4],rfl,.inl rfl⟩
 |i+1,hi=>by
  have ih:=asf (p:=p) a i Aa;rw[alu Aa];have:=bj0 ih (k:=el o i) (a _ (aw Aa))
  have e:o.take (i+1)=o.take i++[el o i]:=by
   rw[b4g,bq (show i<o.length from Aa),b6i];simp[el,bd,show i<o.length from Aa]
  rw[e];exact this
def bo(b:Bool):LP:=[.bool b]
theorem bru(b:Bool):bo b=[.bool b]:=(rfl)
attribute [go_sem] bru
def yd(q:LI)(N:Nat):List Bool:=(List.range N).map λx:Nat=>decide ((x:Int)∈q)
theorem a0n(q:LI)(N:Nat):(yd q N).length=N:=by simp[yd]
theorem as7(h0:0<=x)(h:x<N):el (yd q N) x.toNat=decide (x∈q):=by have a:x.toNat<N:=Aa;have e:((x.toNat:Nat):Int)=x:=Aa;simp only[yd,el,bd,b0s,b2z a,b02,b1o,e]
theorem adn(h0:0<=y):(yd q N).set y.toNat true=yd (q++[y]) N:=by unfold yd;refine b38 Ad λi b a=> ?_;rw[List.getElem_set];simp only[b0x,b3c]at a;split;{rename_i h;simp only[b45,b6h,b0j,b1h];rw[b0h (.inr Aa)]};.rename_i h;simp only[b45,b6h,b0j,b1h];have: ¬(i:Int)=y:=Aa;simp[this]
theorem azo(N:Nat):yd [] N=List.replicate N false:=by unfold yd;refine b38 Ad λi a b=>Ad
theorem asx{t:Nat}(h:t<=q.length)(y:Int):(q++[y]).drop t=q.drop t++[y]:=b5y h
def adp(by_:LI):Nat->LI
 |0=>[0]
 |k+1=>adp by_ k++if el by_ (k+1)=0 then []else [((k:Int)+1)]
theorem alr(by_:LI): ∀k,(adp by_ k).length<=k+1
 |0=>by simp[adp]
 |k+1=>by
  have:=alr by_ k;rw[adp,b0a];split<;>simp<;>omega
theorem ac3(n:Nt)(h:OkNw n):DN 431 [.agg (ntw n)] (.int .i64 0):=by refine ag_ func431 ntmps431 results431 ?_;obtain⟨p,s⟩:=h.nd;have r:=h.ln;have k: ¬n.nd<2:=Aa;have q: ¬130<n.nd:=Aa;have e: ¬(1200:Int)<(n.ac.length:Int):=Aa;simp only[go_sem,k,q,e];refine lo_ 0 (λi:Nat=>[(1,.ptr 1 0),(3,.int .i64 i)]) (λi=>[(1,.cells (ntw n))]) (λi=>i<=n.ac.length) (λi=>n.ac.length - i) (b0k _) ?_ ?_;{simp only[go_sem]};.intro i hi;by_cases a:i<n.ac.length;{have g1:(i:Int)<(n.ac.length:Int):=Aa;obtain⟨⟨t,u⟩,⟨w,v⟩,c,b,d,y,x⟩:=h.ac _ (aw a);have j: ¬(el n.ac i).fr<0:=Aa;have o: ¬n.nd<=(el n.ac i).fr:=Aa;have l: ¬(el n.ac i).to<0:=Aa;have f: ¬n.nd<=(el n.ac i).to:=Aa;have g: ¬(el n.ac i).cap<0:=Aa;have m: ¬1048576<(el n.ac i).cap:=Aa;simp only[go_sem,g1,a,j,o,l,f,g,m,c,b,d];exact⟨i+1,Aa,Ab⟩};.have g1: ¬(i:Int)<(n.ac.length:Int):=Aa;simp only[go_sem,g1]
theorem ald(l:LI)(k:Nat)(v:Int):(l.map i1).set k [.int .i64 v]=(l.set k v).map i1:=by rw[b2r];rfl
theorem arj(n:Nt)(f:LI)(h:OkNw n)(A:okF n f):DN 432 [.agg (ntw n),.vs (f.map i1)] (.bool (age n f)):=by
 refine ag_ func432 ntmps432 results432 ?_;obtain⟨a0,O⟩:=h.nd;have M:=h.ln;have q:=A.1;obtain⟨N,G⟩: ∃N:Nat,n.nd=(N:Int):=⟨n.nd.toNat,Aa⟩;have a:n.nd.toNat=N:=Aa
 have F:=ac3 n h;rw[kg,G]at F;have g0: ¬¬(f.length:Int)=(n.ac.length:Int):=Aa
 have nz:List.replicate N [PV.int IntKind.i64 0]=(ajh n f 0).map i1:=by rw[ajh,a];simp[i1]
 have C:=ai4 n f;rw[a]at C;have ns: ∀i,ajh n f (i+1)=a47 (el n.ac i) (el f i) (ayl (el n.ac i) (el f i) (ajh n f i)):=λi=>rfl
 have Y: ∀i,i<=n.ac.length->∀v:Nat,v<N-> -(1048576*(i:Int))<=el (ajh n f i) v/\el (ajh n f i) v<=1048576*(i:Int):=λi u v hv=>by rw[a2f h i u v Aa];exact bm1 h A i u v
 have H:age n f=decide (∀v:Nat,v<N->2<=v->el (ajh n f n.ac.length) v=0):=by unfold age;rw[a]
 rw[H];clear H;generalize ajh n f=T at*;rw[kg,G];simp only[go_sem];refine Qq F [] ?_;have R:(0:Int)<=(N:Int):=Aa
 simp only[go_sem,q,R];refine⟨⟨b0f _,Aa⟩,?_⟩;refine lo_ (0:Nat) (λi:Nat=>[(1,.vs (f.map i1)),(2,.ptr 2 0),(5,.os 21 N),(6,.int .i64 i)]) (λi=>[(2,.cells [.int .i64 N,.vs (n.ac.map acr)]),(21,.arr 3 1 false ((T i).map i1))]) (λi=>i<=n.ac.length) (λi=>n.ac.length - i) (b0k _) ?_ ?_
 .rw[<-nz];simp only[go_sem];rfl
 intro i u;have b:=C i;by_cases t:i<n.ac.length
 .have z:(i:Int)<(f.length:Int):=Aa;have d:i<f.length:=Aa;obtain⟨⟨V,q1⟩,⟨P,q3⟩,q4,_⟩:=h.ac _ (aw t);have hb:=A.2 i t;have b0: ¬el f i<0:=Aa;have U: ¬(el n.ac i).cap<el f i:=Aa;have r:(el n.ac i).fr<(N:Int):=Aa;have x:(el n.ac i).to<(N:Int):=Aa;have B:(el n.ac i).fr.toNat<N:=Aa;have D:(el n.ac i).to.toNat<N:=Aa;have y:=ns i;have e:=Y i Aa;generalize T i=s at*;have a1:=e _ B;have J:=e _ D;have L:IntKind.i64.wrap (el s (el n.ac i).fr.toNat - el f i)=el s (el n.ac i).fr.toNat - el f i:=Ab;have E:el (s.set (el n.ac i).fr.toNat (el s (el n.ac i).fr.toNat - el f i)) (el n.ac i).to.toNat=el s (el n.ac i).to.toNat:=yr Aa;have W:IntKind.i64.wrap (el s (el n.ac i).to.toNat+el f i)=el s (el n.ac i).to.toNat+el f i:=Ab;have Z:dq (List.map i1 (s.set (el n.ac i).fr.toNat (el s (el n.ac i).fr.toNat - el f i))) (el n.ac i).to.toNat=[.int .i64 (el s (el n.ac i).to.toNat)]:=(by rw[jv i1 _ (by rw[b15];omega),E];rfl);simp only[go_sem,z,t,d,b0,U,V,r,P,x,B,D,b,L,ald,b15,Z,W];refine⟨ok_,ok_,ok_,i+1,Aa,Ab,?_⟩;rw[y,a47,ayl,E]
 have:i=n.ac.length:=Aa
 subst this;have z: ¬((n.ac.length:Nat):Int)<(f.length:Int):=Aa
 generalize p:decide (∀v:Nat,v<N->2<=v->el (T n.ac.length) v=0)=m;have K: ∀v:Nat,v<N->2<=v->el (T n.ac.length) v≠0->m=false:=λv l k g=>by rw[<-p];exact b0b λh=>g (h v l k)
 have w:(∀v:Nat,v<N->2<=v->el (T n.ac.length) v=0)->m=true:=λh=>by rw[<-p];exact b0h h
 clear p;generalize T n.ac.length=S at*;simp only[go_sem,z];refine lo_ (2:Nat) (λi:Nat=>[(1,.vs (f.map i1)),(2,.ptr 2 0),(5,.os 21 N),(7,.int .i64 i)]) (λi=>[(2,.cells [.int .i64 N,.vs (n.ac.map acr)]),(21,.arr 3 1 false (S.map i1))]) (λi=>2<=i/\i<=N/\∀v,v<i->2<=v->el S v=0) (λi=>N - i) ⟨Aa,Aa,λv l k=>Aa⟩ ?_ ?_
 .simp only[go_sem]
 rintro i ⟨X,Q,I⟩;by_cases d:i<N
 .have j:(i:Int)<(N:Int):=Aa
  by_cases c:el S i=0
  .simp only[go_sem,d,j,c,b]
   exact⟨i+1,⟨⟨Aa,Aa,λv l k=>by
    rcases b1m.1 l with g|g
    .exact I v g k
    .rw[g];exact c⟩,Aa⟩,Ab⟩
  .have o:=K i d X c;simp only[go_sem,d,j,c,b,o]
 .have:i=N:=Aa;subst this;have j: ¬((i:Nat):Int)<(i:Int):=Aa;have o:=w I;simp only[go_sem,j,o]
theorem ark(n:Nt)(f:LI)(h:OkNw n)(d:okF n f):DN 394 [.agg (ntw n),.vs (f.map i1)] (.int .i64 (zn n f)):=by refine ag_ func394 ntmps394 results394 ?_;have b:=arj n f h d;have m:=h.ln;have p:=d.1;have e:zn n f=if age n f=true then a2h n f n.ac.length else 0:=rfl;have vs: ∀i,a2h n f (i+1)=a2h n f i+if(el n.ac i).fr=0 then el f i else 0:=λi=>rfl;have r:a2h n f 0=0:=rfl;have o:=a4w h d;rw[kg]at b;cases hx:age n f;{rw[hx]at b e;rw[e];simp only[go_sem];refine Qq b [] ?_;simp only[go_sem]};.rw[hx]at b e;rw[e,if_pos rfl];simp only[go_sem];refine Qq b [] ?_;simp only[go_sem];generalize a2h n f=V at*;refine lo_ (0:Nat) (λi:Nat=>[(1,.vs (f.map i1)),(2,.ptr 2 0),(5,.int .i64 (V i)),(6,.int .i64 i)]) (λi=>[(2,.cells (ntw n))]) (λi=>i<=n.ac.length) (λi=>n.ac.length - i) (b0k _) ?_ ?_;{simp only[go_sem,r]};intro i s;by_cases g:i<n.ac.length;{have g2:(i:Int)<(f.length:Int):=Aa;have j:i<f.length:=Aa;have t:=d.2 i g;have a:=vs i;have k:=o i Aa;have q:=(h.ac _ (aw g)).2.2.2.2.2.2;by_cases c:(el n.ac i).fr=0;{rw[if_pos c]at a;have l:IntKind.i64.wrap (V i+el f i)=V i+el f i:=Ab;simp only[go_sem,g2,g,j,c,l];exact⟨i+1,Aa,A4,Ab⟩};.rw[if_neg c,b8d]at a;simp only[go_sem,g2,g,j,c];exact⟨i+1,Aa,A4,Ab⟩};.have g2: ¬(i:Int)<(f.length:Int):=Aa;have:i=n.ac.length:=Aa;subst this;simp only[go_sem,g2]
theorem ak2(n:Nt)(f:LI)(h:OkNw n)(hf:f.length=n.ac.length):Den prog 395 [.agg (ntw n),.os 1000000 f.length] [.arr 3 1 false (f.map i1)] (.os 0 n.nd.toNat) [.arr 3 1 false ((byF n f).map i1)] [.arr 3 1 false (f.map i1)]:=by refine ah_ [13] [1000000] func395 ntmps395 results395 ?_;obtain⟨a1,a3⟩:=h.nd;have a2:=h.ln;have F:=h.nt;obtain⟨N,hN⟩: ∃N:Nat,n.nd=(N:Int):=⟨n.nd.toNat,Aa⟩;have H:n.nd.toNat=N:=Aa;have S:rsT n f 0=⟨List.replicate N 0,[0]⟩:=(by rw[rsT,H]);have rs: ∀t,t<(rsT n f t).q.length->rsT n f (t+1)=rsI n f (el (rsT n f t).q t) (rsT n f t) n.ac.length:=λt L=>(by rw[rsT,if_pos L]);have x: ∀t,t<(rsT n f t).q.length->t<N:=λt L=>(by have:=bn9 F L;omega);have b: ∀t,t<=N->¬t<(rsT n f t).q.length->(rsT n f t).by_=byF n f:=λt Z Y=>(by rw[bkm Aa Y];rfl);have a0:=ag3 (f:=f) F;have p:=λt (j:Nat) (hj:j<(rsT n f t).q.length)=>aqw F (a0 t) hj;have V:=h.ac;have v: ∀(k:Int) (s:RsS) (i:Nat),rsI n f k s (i+1)=a0b (el n.ac i) (el f i) k i (az8 (el n.ac i) (el f i) k i (rsI n f k s i)):=λk s i=>(by rw[rsI]);have T: ∀(k:Int) (s:RsS),rsI n f k s 0=s:=λk s=>(by rw[rsI]);have nz:(rsT n f 0).by_.map i1=List.replicate N [aap (PV.int .i64 0)]:=(by rw[S];simp[i1];exact .inr rfl);have N1:0<N:=Aa;have sz:(yd (rsT n f 0).q N).map bo=(List.replicate N [aap (PV.bool false)]).set 0 (PV.bool true::List.drop 1 (dq (List.replicate N [aap (PV.bool false)]) 0)):=(by rw[S];have Z:=adn (q:=[]) (N:=N) (y:=0) Aa;rw[azo]at Z;have Y:dq (List.replicate N [aap (PV.bool false)]) 0=[PV.bool false]:=(by unfold dq;rw[bd,b5e,if_pos N1];rfl);rw[Y];show(yd ([]++[0]) N).map bo=_;rw[<-Z,b2r,b4a];rfl);have qz:(rsT n f 0).q.map i1=[[PV.int .i64 0]]:=(by rw[S];rfl);have bl: ∀s,RsInv n f s->s.by_.length=N:=λs hs=>(by rw[hs.len,H]);rw[H,kg,hN];have N0:(0:Int)<=(N:Int):=Aa;have N3:(0:Int)<(N:Int):=Aa;simp only[go_sem,N0,N1,N3];refine⟨⟨b0f _,Aa⟩,⟨b0f _,Aa⟩,?_⟩;refine ak7 (Cv.toQ 7 19 3 1 0 [[.int .i64 0]] [(1,.os 1000000 f.length),(2,.ptr 2 0),(5,.os 13 N),(6,.os 16 N)] [1000000,2,13,16] Al Al Aa Al ?_ Al Al) ?_;{simp only[go_sem]};refine lo_ (0,0) (λs:Nat×Nat=>[(1,.os 1000000 f.length),(2,.ptr 2 0),(5,.os 13 N),(6,.os 16 N),(7,.oq 19 s.2)]) (λs=>[(1000000,.arr 3 1 false (f.map i1)),(2,.cells [.int .i64 N,.vs (n.ac.map acr)]),(13,.arr 3 1 false ((rsT n f s.1).by_.map i1)),(16,.arr 4 1 false ((yd (rsT n f s.1).q N).map bo)),(19,.arq 3 1 s.2 (((rsT n f s.1).q.drop s.1).map i1))]) (λs=>s.1<=N) (λs=>N - s.1) (b0k _) ?_ ?_;{simp only[go_sem,nz,sz,qz]};rintro⟨t,c⟩ L;have A:=rs t;have x:=x t;have b:=b t L;have p:=p t t;generalize rsT n f t=s at*;by_cases g:t<s.q.length;rotate_left;{have U:s.q.drop t=[]:=b5j Aa;have b:=b g;rw[U,b];simp only[go_sem]};have U:s.q.drop t=el s.q t::s.q.drop (t+1):=(by rw[b2g g];congr 1;simp[el,bd,g]);have p:=p g;have A:=A g;have x:=x g;rw[U];generalize hk:el s.q t=k at*;have v:=v k s;have T:=T k s;have J0:t+1<=s.q.length:=Aa;have p1:(0:Int)<(((s.q.drop (t+1)).length+1:Nat):Int):=Aa;have p2:0<(s.q.drop (t+1)).length+1:=Aa;have p3:(1:Int)<=(((s.q.drop (t+1)).length+1:Nat):Int):=Aa;simp only[go_sem,p1,p2,p3];have e1: ∀X:LP,List.drop (Int.toNat 1) (X::(s.q.drop (t+1)).map i1)=(s.q.drop (t+1)).map i1:=λX=>rfl;rw[<-T];generalize hJ:rsI n f k s=J at*;refine lo_ (0,c+1) (λu:Nat×Nat=>[(1,.os 1000000 f.length),(2,.ptr 2 0),(5,.os 13 N),(6,.os 16 N),(7,.oq 19 u.2),(8,.int .i64 k),(9,.int .i64 u.1)]) (λu=>[(1000000,.arr 3 1 false (f.map i1)),(2,.cells [.int .i64 N,.vs (n.ac.map acr)]),(13,.arr 3 1 false ((J u.1).by_.map i1)),(16,.arr 4 1 false ((yd (J u.1).q N).map bo)),(19,.arq 3 1 u.2 (((J u.1).q.drop (t+1)).map i1))]) (λu=>u.1<=n.ac.length) (λu=>n.ac.length - u.1) (b0k _) ?_ ?_;{simp only[go_sem]};rintro⟨i,C⟩ hi;by_cases w:i<n.ac.length;rotate_left;{have:i=n.ac.length:=(by simp only at hi;omega);subst this;have a: ¬((n.ac.length:Nat):Int)<(n.ac.length:Int):=Aa;simp only[go_sem,a];refine⟨(t+1,C),⟨by show t+1<=N;omega,by show N - (t+1)<N - t;omega⟩,?_⟩;rw[A];exact⟨rfl,rfl,rfl,rfl,rfl⟩};have a:(i:Int)<(n.ac.length:Int):=Aa;have G:i<f.length:=Aa;have m:(i:Int)<(f.length:Int):=Aa;obtain⟨⟨R,f1⟩,⟨Q,t1⟩,W,_⟩:=V _ (aw w);have v:=v i;obtain⟨B,r,hr⟩:=p i Aa;have hq:t+1<=(J i).q.length:=(by rw[hr,b0a];omega);have O:=bl _ B;have a4:=a0t B;have I:(el n.ac i).fr<(N:Int):=Aa;have D:(el n.ac i).to<(N:Int):=Aa;have f2:(el n.ac i).fr.toNat<N:=Aa;have t2:(el n.ac i).to.toNat<N:=Aa;have sT:=as7 (q:=(J i).q) (N:=N) Q D;have sF:=as7 (q:=(J i).q) (N:=N) R I;have P:=a0n (J i).q N;have aT:=λh=>adn (q:=(J i).q) (N:=N) (y:=(el n.ac i).to) h;have aF:=λh=>adn (q:=(J i).q) (N:=N) (y:=(el n.ac i).fr) h;have E:=wq_ i;have wn:IntKind.i64.wrap (0 - ((i+1:Nat):Int))= -((i:Int)+1):=Ab;have l:i+1<=n.ac.length:=w;have d:n.ac.length - (i+1)<n.ac.length - i:=b3q w (b20 i);clear hJ p A;generalize hz:J i=z at*;have M:((z.q.drop (t+1)).length+1)*8<=140737488355328:=(by rw[b1b];omega);by_cases o:(el n.ac i).fr=k;{have B1: ¬(el n.ac i).to=k:=λe=>W (o.trans e.symm);by_cases K:el f i<(el n.ac i).cap;{by_cases A3:(el n.ac i).to∈z.q;{have hsu:J (i+1)=z:=(by rw[v,a0b,if_neg (by simp[B1]),az8,if_neg (by simp[A3])]);simp only[go_sem,a,w,G,m,o,B1,K,A3,Q,D,t2,sT,P];(repeat refine an_ ?_);exact⟨(i+1,C),⟨l,d⟩,⟨rfl,E⟩,Bq,Bq,rfl,Bq⟩};.have hsu:J (i+1)=⟨z.by_.set (el n.ac i).to.toNat (i+1),z.q++[(el n.ac i).to]⟩:=(by rw[v,a0b,if_neg (by simp[B1]),az8,if_pos ⟨o,K,A3⟩]);simp only[go_sem,a,w,G,m,o,B1,K,A3,Q,D,t2,sT,P,O,E,M];(repeat refine an_ ?_);refine⟨(i+1,C+1),⟨l,d⟩,⟨rfl,rfl⟩,by rw[hsu,ald];rfl,?_,rfl,?_⟩;{rw[hsu,<-aT Q,b2r];rfl};.rw[hsu];show _=List.map i1 (List.drop (t+1) (z.q++[(el n.ac i).to]));rw[asx hq,b0d];rfl};.have hsu:J (i+1)=z:=(by rw[v,a0b,if_neg (by simp[B1]),az8,if_neg (by simp[K])]);simp only[go_sem,a,w,G,m,o,B1,K];(repeat refine an_ ?_);exact⟨(i+1,C),⟨l,d⟩,⟨rfl,E⟩,Bq,Bq,rfl,Bq⟩};.by_cases B1:(el n.ac i).to=k;{by_cases B2:0<el f i;{by_cases B3:(el n.ac i).fr∈z.q;{have hsu:J (i+1)=z:=(by rw[v,az8,if_neg (by simp[o]),a0b,if_neg (by simp[B3])]);simp only[go_sem,a,w,G,m,o,B1,B2,B3,R,I,f2,sF,P];(repeat refine an_ ?_);exact⟨(i+1,C),⟨l,d⟩,⟨rfl,E⟩,Bq,Bq,rfl,Bq⟩};.have hsu:J (i+1)=⟨z.by_.set (el n.ac i).fr.toNat (-((i:Int)+1)),z.q++[(el n.ac i).fr]⟩:=(by rw[v,az8,if_neg (by simp[o]),a0b,if_pos ⟨B1,B2,B3⟩]);simp only[go_sem,a,w,G,m,o,B1,B2,B3,R,I,f2,sF,P,O,E,wn,M];(repeat refine an_ ?_);refine⟨(i+1,C+1),⟨l,d⟩,⟨rfl,rfl⟩,by rw[hsu,ald],?_,rfl,?_⟩;{rw[hsu,<-aF R,b2r];rfl};.rw[hsu];show _=List.map i1 (List.drop (t+1) (z.q++[(el n.ac i).fr]));rw[asx hq,b0d];rfl};.have hsu:J (i+1)=z:=(by rw[v,az8,if_neg (by simp[o]),a0b,if_neg (by simp[B2])]);simp only[go_sem,a,w,G,m,o,B1,B2];(repeat refine an_ ?_);exact⟨(i+1,C),⟨l,d⟩,⟨rfl,E⟩,Bq,Bq,rfl,Bq⟩};.have hsu:J (i+1)=z:=(by rw[v,az8,if_neg (by simp[o]),a0b,if_neg (by simp[B1])]);simp only[go_sem,a,w,G,m,o,B1];(repeat refine an_ ?_);exact⟨(i+1,C),⟨l,d⟩,⟨rfl,E⟩,Bq,Bq,rfl,Bq⟩
end Go.Proofs.Am
