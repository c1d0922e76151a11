/- WOne. -/
import Derived.Test.YtlaoaleoeknhoaaGreatDoorHB9
import Derived.Test.YtlaoaleoeknhoaaGreatDoorBThree
set_option linter.unusedSimpArgs false
set_option linter.unusedVariables false
set_option maxHeartbeats 1000000
set_option maxRecDepth 100000
namespace Go.Proofs.Am
open Go Go.RowKit Tryz
open Go.Proofs
variable {i:Nat}{L M l:LS}{r:Rl}{c:Cs}{t:Tm}{a:Int}{s:Stm}{v:Vt}{α:Type}
theorem afj(d:c9 r=0): ∀u∈dw r L,zb u:=λu a=>by
 obtain⟨b,_,c⟩:=ab2 d a;have:=b.len;refine⟨Af,?_⟩;rw[<-c];exact ajg
theorem afz(l:LI)(p:Nat):(pg l p).gen.length<=7/\(pg l p).pol.se.length<=2/\(pg l p).pol.ta.length<=2:=by refine⟨?_,?_,?_⟩;{show(([0,1,2,3,4,5,6]:LI).take _).length<=7;rw[b0i];exact b6w _ _};{show(if _ then [0,1]else [0]:LI).length<=2;split<;>simp};.exact b0f 2
theorem xk(l:LI)(p:Nat):RlB (pg l p):=by obtain⟨h0,a,b⟩:=afz l p;exact⟨Aa,Aa,Aa⟩
theorem bn1(l:LI)(r:Rl)(a:Int)(s:ChS):bp3 l r a s=⟨(bnl l a (chX l a s).1 (chY l a s).1 (chS r a s) ((chY l a s).2,s.L) (chS r a s).length).1,
  (bnl l a (chX l a s).1 (chY l a s).1 (chS r a s) ((chY l a s).2,s.L) (chS r a s).length).2,
  (aez (chX l a s).1.li).1,qm s.v a (chX l a s).1.li⟩:=rfl
theorem bjo(c:Cs):DN 433 [.agg (cs c)] (.tup [.agg (cs (bk1 c).1),.int .i64 (bk1 c).2]):=by refine ag_ func433 ntmps433 results433 ?_;simp only[go_sem];refine Qq (bni c) [] ?_;cases h:aac c;{have e1:bk1 c=(⟨0,0,0,0⟩,41):=(by rw[bk1,h];rfl);rw[e1];simp only[go_sem]};.have e1:bk1 c=({c with ro:=1},0):=(by rw[bk1,h];rfl);rw[e1];simp only[go_sem]
theorem bkw(c:Cs):bk1 c=if aac c=true then(ax0 c,0)else(⟨0,0,0,0⟩,41):=rfl
theorem bc4{p:Stm->Bool}(b: ∀j,j<i->p (el l j)=false)(h:p (el l i)=false): ∀j,j<i+1->p (el l j)=false:=λj c=>by
 by_cases a:j=i
 .rw[a];exact h
 .exact b j Aa
theorem bks{p:Stm->Bool}(hi:i<l.length)(h:p (el l i)=true):l.any p=true:=b2n.2 ⟨_,cr hi,h⟩
theorem a7k{p:Stm->Bool}(h: ∀j,j<l.length->p (el l j)=false):l.any p=false:=by rw[b5n];intro x hx;obtain⟨j,a,rfl⟩:=ac7 hx;rw[h j a];simp
theorem ax1(l:LS)(t:Tm)(c:Cs)(G:big t.ros.length)(I:big l.length)(hs: ∀s∈l,om s):DN 434 [.vs (l.map sm),.agg (tm t),.agg (cs c)] (.bool (tq l t c)):=by refine ag_ func434 ntmps434 results434 ?_;have E:=bni c;rw[dh]at E;simp only[go_sem];refine Qq E [] ?_;cases e:aac c;{simp only[go_sem,tq,e]};have F:tq l t c=l.any (bmo t.ros c):=(by rw[tq,e,b3r]);rw[F];simp only[go_sem];refine lo_ 0 (λi:Nat=>[(0,.vs (l.map sm)),(4,.ptr 4 0),(5,.ptr 5 0),(7,.int .i64 i)]) (λi=>[(4,.cells (tm t)),(5,.cells (cs c))]) (λi=>i<=l.length/\∀j,j<i->bmo t.ros c (el l j)=false) (λi=>l.length - i) ?_ ?_ ?_;{simp};{simp only[go_sem]};.rintro i ⟨hi,hp⟩;by_cases d:i<l.length;{have hlt:(i:Int)<(l.length:Int):=Aa;have B:=hs _ (cr d);have v:=bks (p:=bmo t.ros c) d;have nx:=bc4 (l:=l) hp;have C:=ui (el l i) B;have D:=λh:aj (el l i)=0=>fw (el l i) (ot h);have H:=pz t.ros (el l i).au G;rw[dc]at C D;generalize f:bmo t.ros c (el l i)=q at*;unfold bmo at f;by_cases g:(el l i).kd=15;rotate_left;{skip;simp only[go_sem,hlt,d,g];refine⟨i+1,⟨⟨Aa,nx (by rw[<-f];simp[g])⟩,Aa⟩,Ab⟩};by_cases k:(el l i).a=c.ep;rotate_left;{skip;simp only[go_sem,hlt,d,g,k];refine⟨i+1,⟨⟨Aa,nx (by rw[<-f];simp[k])⟩,Aa⟩,Ab⟩};by_cases m:(el l i).b=c.kd;rotate_left;{skip;simp only[go_sem,hlt,d,g,k,m];refine⟨i+1,⟨⟨Aa,nx (by rw[<-f];simp[m])⟩,Aa⟩,Ab⟩};by_cases n:(el l i).c=c.su;rotate_left;{skip;simp only[go_sem,hlt,d,g,k,m,n];refine⟨i+1,⟨⟨Aa,nx (by rw[<-f];simp[n])⟩,Aa⟩,Ab⟩};by_cases x:((el l i).li.length:Int)=0;rotate_left;{have r: ¬(el l i).li.length=0:=Aa;simp only[go_sem,hlt,d,g,k,m,n,x];refine⟨i+1,⟨⟨Aa,nx (by rw[<-f];simp[r])⟩,Aa⟩,Ab⟩};have r:(el l i).li.length=0:=Aa;by_cases A:((el l i).pins.length:Int)=0;rotate_left;{have o: ¬(el l i).pins.length=0:=Aa;simp only[go_sem,hlt,d,g,k,m,n,x,A];refine⟨i+1,⟨⟨Aa,nx (by rw[<-f];simp[o])⟩,Aa⟩,Ab⟩};have o:(el l i).pins.length=0:=Aa;by_cases u:(el l i).body=[];rotate_left;{skip;simp only[go_sem,hlt,d,g,k,m,n,x,A,u];refine⟨i+1,⟨⟨Aa,nx (by rw[<-f];simp[u])⟩,Aa⟩,Ab⟩};simp only[go_sem,hlt,d,g,k,m,n,x,A,u];refine Qq H [] ?_;by_cases y:(el l i).au∈t.ros;rotate_left;{simp only[go_sem,y];refine⟨i+1,⟨⟨Aa,nx (by rw[<-f];simp[y])⟩,Aa⟩,Ab⟩};simp only[go_sem,y];refine Qq C [] ?_;simp only[go_sem];refine⟨⟨g.symm,k.symm,m.symm,n.symm,u.symm⟩,?_⟩;by_cases w:aj (el l i)=0;rotate_left;{simp only[go_sem,w];refine⟨i+1,⟨⟨Aa,nx (by rw[<-f];simp[w])⟩,Aa⟩,Ab⟩};simp only[go_sem,w];refine Qq (D w) [] ?_;simp only[go_sem];refine⟨⟨g.symm,k.symm,m.symm,n.symm,u.symm⟩,?_⟩;by_cases z:(el l i).sk=(el l i).au/\(el l i).sd=dig (el l i);rotate_left;{simp only[go_sem,z];refine⟨i+1,⟨⟨Aa,nx (by rw[<-f];simp[z])⟩,Aa⟩,Ab⟩};simp only[go_sem,z];have:=v (by rw[<-f];simp[y,w,z,g,k,m,n,r,o,u]);rw[this]};.have hf: ¬((i:Int)<(l.length:Int)):=Aa;have:i=l.length:=Aa;subst this;simp only[go_sem,hf];rw[a7k hp]
theorem anw(h:(lq r L t c).2.2≠0):(lq r L t c).2.1=false/\(lq r L t c).1=noC:=by unfold lq at h ⊢;split;{exact⟨rfl,rfl⟩};.rename_i hs;rw[if_neg hs]at h;have:xi L c (cj r t c).1=[]:=(by unfold xi;rw[if_neg h]);rw[this];exact⟨rfl,rfl⟩
theorem bmc(a:tq L t c=true):asp r L t c=((lq r L t (ax0 c)).1,(lq r L t (ax0 c)).2.1&&decide ((lq r L t (ax0 c)).2.2=0)):=by unfold asp;by_cases h:(lq r L t (ax0 c)).2.2=0;{rw[if_pos ⟨a,h⟩,b0h h,b6s]};.rw[if_neg (λb=>h b.2),(anw h).1,(anw h).2,b3d]
theorem bhk(a:tq L t c=false):asp r L t c=(noC,false):=by unfold asp;rw[if_neg Dw]
theorem awv(h:aac c=false):tq L t c=false:=by rw[tq,h,b3d]
theorem a9r(r:Rl)(L:LS)(t:Tm)(c:Cs)(l:RlB r)(i:big t.ros.length)(j:L.length<=900)(hs: ∀s∈L,om s):DN 397 [.agg (rl r),.vs (L.map sm),.agg (tm t),.agg (cs c)] (.tup [.agg (ct (asp r L t c).1),.bool (asp r L t c).2]):=by refine ag_ func397 ntmps397 results397 ?_;have n:=bjo c;have g:=ax1 L t c i Af hs;have d:=aat r L t (ax0 c) l i j hs;have a:=bkw c;have f:=bmc (r:=r) (L:=L) (t:=t) (c:=c);have h:=bhk (r:=r) (L:=L) (t:=t) (c:=c);have k:=awv (L:=L) (t:=t) (c:=c);generalize asp r L t c=m at*;generalize lq r L t (ax0 c)=D at*;obtain⟨x,b,e⟩:=D;simp only at d f;rw[fc,ec,dh,kn]at d;rw[ec,dh]at g;simp only[go_sem];refine Qq n [] ?_;cases ho:aac c;{rw[ho,if_neg Ad]at a;rw[h (k ho),a];simp only[go_sem,noC,b0o]};rw[ho,if_pos rfl]at a;rw[a];simp only[go_sem];refine Qq g [] ?_;cases ha:tq L t c;{rw[h ha];simp only[go_sem,noC,b0o]};rw[f ha];simp only[go_sem,ax0];simp only[ax0]at d;refine Qq d [] ?_;cases b;{simp only[go_sem]};.simp only[go_sem]
theorem be3(r:Rl)(L:LS)(t:Tm)(c:Cs)(n:RlB r)(o:big t.ros.length)(l:L.length<=900)(hs: ∀s∈L,om s):DN 352 [.agg (rl r),.vs (L.map sm),.agg (tm t),.agg (cs c)] (.tup [.agg (ct (al6 r L t c).1),.bool (al6 r L t c).2.1,.int .i64 (al6 r L t c).2.2]):=by
 refine ag_ func352 ntmps352 results352 ?_;have p:=ni c;have j:=aat r L t c n o l hs;have k:=a9r r L t c n o l hs
 have a:al6 r L t c=if gg c=true/\c.ro=0 then
  if(lq r L t c).2.2≠0 then(noC,false,(lq r L t c).2.2)
  else if(asp r L t c).2=true then((asp r L t c).1,true,0)else((lq r L t c).1,(lq r L t c).2.1,0)
 else(noC,false,41):=rfl
 generalize al6 r L t c=m at*;generalize lq r L t c=D at*;generalize asp r L t c=S at*;obtain⟨x,b,e⟩:=D;obtain⟨y,i⟩:=S;simp only at j k a;rw[dh]at p;rw[fc,ec,dh,kn]at j k;simp only[go_sem];refine Qq p [] ?_;by_cases f:gg c=true
 rotate_left
 .rw[if_neg (λh=>f h.1)]at a;subst a;simp only[go_sem,f,noC,b0o]
 by_cases d:c.ro=0
 rotate_left
 .rw[if_neg (λh=>d h.2)]at a;subst a;simp only[go_sem,f,d,noC,b0o]
 rw[if_pos ⟨f,d⟩]at a;rw[d]at j k;simp only[go_sem,f,d];refine Qq j [] ?_;by_cases g:e=0
 rotate_left
 .rw[if_pos g]at a;subst a;simp only[go_sem,g,noC,b0o]
 rw[if_neg (by simpa using g)]at a;simp only[go_sem,g,d];refine Qq k [] ?_
 cases i
 .rw[if_neg Ad]at a;subst a;simp only[go_sem]
 .rw[if_pos rfl]at a;subst a;simp only[go_sem]
noncomputable def bs9 {α:Type} (n:Nat) (f:Nat->α):α:=Nat.rec (motive:=λ_=>α) (f 0) (λm _=>f (Nat.succ m)) n
noncomputable def bsp {α:Type} (x:Int) (f:Int->α):α:=match x with
 | .ofNat n=>bs9 n λm=>f (Int.ofNat m)
 | .negSucc n=>f (Int.negSucc n)
theorem bmg(n:Nat)(f:Nat->α):bs9 n f=f n:=by cases n<;>rfl
theorem bhs(x:Int)(f:Int->α):bsp x f=f x:=by cases x with|ofNat n=>exact bmg n λm=>f (Int.ofNat m)|negSucc n=>rfl
noncomputable def a9b {α:Type} (l:LI):(LI->α)->α:=List.rec (motive:=λ_=>(LI->α)->α) (λf=>f []) (λa _ ih f=>bsp a λb=>ih λr=>f (b::r)) l
theorem aiq(l:LI): ∀f:LI->α,a9b l f=f l:=by induction l with|nil=>intro f;rfl|cons a r ih=>intro f;show bsp a (λb=>a9b r λr=>f (b::r))=_;rw[bhs,ih]
noncomputable def wAS {α:Type} (b:LB) (m:Nat):(LI->α)->α:=Nat.rec (motive:=λ_=>(LI->α)->α) (λf=>f (List.replicate 64 0)) (λm ih f=>ih λw=>a9b (w.set m (w16 b m)) f) m
noncomputable def wBS {α:Type} (b:LB) (m:Nat):(LI->α)->α:=Nat.rec (motive:=λ_=>(LI->α)->α) (λf=>wAS b 16 f) (λm ih f=>ih λw=>a9b (w.set (16+m) (wst w m)) f) m
noncomputable def brt {α:Type} (h k w:LI) (m:Nat):(LI->α)->α:=Nat.rec (motive:=λ_=>(LI->α)->α) (λf=>f h) (λm ih f=>ih λv=>a9b (rnd v (el k m) (el w m)) f) m
noncomputable def br8 {α:Type} (v h:LI) (m:Nat):(LI->α)->α:=Nat.rec (motive:=λ_=>(LI->α)->α) (λf=>f v) (λm ih f=>ih λu=>a9b (u.set m (ad (el u m) (el h m))) f) m
theorem bgy(b:LB): ∀(m:Nat) (f:LI->α),wAS b m f=f (wA b m)
 |0,_=>rfl
 |m+1,f=>by
  show wAS b m (λw=>a9b (w.set m (w16 b m)) f)=_;rw[bgy b m,aiq];rfl
theorem bgu(b:LB): ∀(m:Nat) (f:LI->α),wBS b m f=f (wB b m)
 |0,f=>bgy b 16 f
 |m+1,f=>by
  show wBS b m (λw=>a9b (w.set (16+m) (wst w m)) f)=_;rw[bgu b m,aiq];rfl
theorem a03(h k w:LI): ∀(m:Nat) (f:LI->α),brt h k w m f=f (aos h k w m)
 |0,_=>rfl
 |m+1,f=>by
  show brt h k w m (λv=>a9b (rnd v (el k m) (el w m)) f)=_;rw[a03 h k w m,aiq];rfl
theorem a2n(v h:LI): ∀(m:Nat) (f:LI->α),br8 v h m f=f (fin v h m)
 |0,_=>rfl
 |m+1,f=>by
  show br8 v h m (λu=>a9b (u.set m (ad (el u m) (el h m))) f)=_;rw[a2n v h m,aiq];rfl
noncomputable def bqt {α:Type} (h:LI) (b:LB) (f:LI->α):α:=wBS b 48 λw=>brt h kK w 64 λv=>br8 v h 8 f
theorem bln(h:LI)(b:LB)(f:LI->α):bqt h b f=f (bg0 h b kK):=by unfold bqt bg0;rw[bgu,a03,a2n]
noncomputable def hsS {α:Type} (b:LB) (m:Nat):(LI->α)->α:=Nat.rec (motive:=λ_=>(LI->α)->α) (λf=>f h0) (λm ih f=>ih λh=>bqt h ((b.take (64*m+64)).drop (64*m)) f) m
theorem a9s(a:LB)(f:LI->α):hsS a 0 f=f h0:=rfl
theorem bcy(a:LB)(m:Nat):hsS (α:=α) a (m+1)=λf=>hsS a m λh=>bqt h ((a.take (64*m+64)).drop (64*m)) f:=rfl
theorem bke(b:LB):hs b 0=h0:=(rfl)
theorem blu(b:LB)(m:Nat):hs b (m+1)=bg0 (hs b m) (((agu b).take (64*m+64)).drop (64*m)) kK:=(rfl)
theorem bp4(b:LB)(m:Nat): ∀(f:LI->α),hsS (agu b) m f=f (hs b m):=by induction m with|zero=>intro f;rw[a9s,bke]|succ m ih=>intro f;rw[bcy];dsimp only;rw[ih,bln,blu]
def aw4(a b:Stm):Int:=or2 (ic a.nu b.nu) (Lib.compareBytes a.sd b.sd)
def ltN(a b:Stm):Bool:=decide (aw4 a b<0)
def fm(a b:Stm):Bool:=decide (aw4 a b=0)
theorem to_N:TO (λp q:Int×LB=>or2 (ic p.1 q.1) (Lib.compareBytes p.2 q.2)):=q8 pv atz
theorem a1k{a b:Stm}:aw4 a b=0↔a.nu=b.nu/\a.sd=b.sd:=by have:=to_N.eq (a.nu,a.sd) (b.nu,b.sd);simpa only[aw4,b0t] using this
theorem adc{a b:Stm}:aw4 a b<0↔0<aw4 b a:=to_N.flip (a.nu,a.sd) (b.nu,b.sd)
def ob(s:Stm):Bool:=decide (aj s=0)&&decide (s.sk=s.au/\s.sd=dig s)
def xc(L:LS)(a:Int):LS:=L.filter λs=>decide (s.au=a)&&ob s
theorem jy:s∈xc L a↔s∈L/\s.au=a/\ob s=true:=by simp[xc,b16]
def CF(L:LS):Prop:= ∀s∈L,∀t∈L,ob s=true->ob t=true->s.au=t.au->s.nu=t.nu->s.sd=t.sd->s=t
theorem CF.own(h:CF L){t:Stm}(hs:s∈xc L a)(k:t∈xc L a)(c:s.nu=t.nu)(d:s.sd=t.sd):s=t:=by obtain⟨j,f,b⟩:=jy.1 hs;obtain⟨g,e,i⟩:=jy.1 k;exact h s j t g b i (f.trans e.symm) c d
def a0f(l:LS):LS:=l.mergeSort λa b=> !decide (aw4 b a<0)
def ma(L:LS)(a:Int):LS:=kp fm (a0f (xc L a)) (a0f (xc L a)).length
theorem aof(a b:Stm):fm a b=true↔(ltN a b=false/\ltN b a=false):=by have c:=adc (a:=a) (b:=b);have d:=adc (a:=b) (b:=a);unfold fm ltN;rw[b3l,b1d,b1d];constructor;{intro h;constructor<;>omega};.rintro⟨h3,h4⟩;omega
theorem brz(h:CF L):KO ltN (λs=>s∈xc L a) where
 irr x:=b0b (to_N.irr (x.nu,x.sd))
 tr x y z h1 h2:=b0h (to_N.tr (x.nu,x.sd) (y.nu,y.sd) (z.nu,z.sd) (b0g h1) (b0g h2))
 nt x y z h1 h2:=b0b (to_N.nt (x.nu,x.sd) (y.nu,y.sd) (z.nu,z.sd) (b1a h1) (b1a h2))
 tri x y hx hy h1 h2:=by have d:=b0g ((aof x y).2 ⟨h1,h2⟩);obtain⟨c,b⟩:=a1k.1 d;exact h.own hx hy c b
theorem a4o(l:LS):(a0f l).Pairwise λa b=>ltN b a=false:=by
 have:=b2w (le:=λa b:Stm=> !decide (aw4 b a<0)) (λa b c d e=>by
  simp only[b2c,b1d]at d e ⊢;exact to_N.nt (c.nu,c.sd) (b.nu,b.sd) (a.nu,a.sd) e d) (λa b=>by
  simp only[b1v,b2c,b1d];have d:=adc (a:=b) (b:=a);omega) l
 exact this.imp λh=>by simpa [ltN] using h
theorem adq(h:CF L):SS ltN (ma L a)/\∀s,s∈ma L a↔s∈xc L a:=by have c:=b2e (xc L a) λa b:Stm=> !decide (aw4 b a<0);have h:=(brz (a:=a) h).kp_inv aof (l:=a0f (xc L a)) (λx hx=>c.mem_iff.1 hx) (a4o _) _ (b0f _);refine⟨h.1,λx=> ?_⟩;rw[ma,h.2,b0n];exact c.mem_iff
theorem ahx(L:LS)(a:Int):(xc L a).length<=L.length:=b05 _ _
theorem abh(L:LS)(a:Int):(ma L a).length<=L.length:=by have b:=aff fm (a0f (xc L a)) (a0f (xc L a)).length;have c:(a0f (xc L a)).length=(xc L a).length:=b3b _;have d:=ahx L a;unfold ma;omega
def aj9(M:LS)(i:Nat):Bool:=decide (0<i)&&decide ((el M i).nu=(el M (i - 1)).nu)
def jj(M:LS):List (Stm×Stm):=match (List.range M.length).find? (aj9 M)with|some i=>[(el M (i - 1),el M i)]|none=>[]
theorem bcj(hi:i<M.length)(h:aj9 M i=true)(a: ∀j,j<i->aj9 M j=false):jj M=[(el M (i - 1),el M i)]:=by have:(List.range M.length).find? (aj9 M)=some i:=b49.2 ⟨h,by simpa using hi,λj b=>by simp[a j b]⟩;rw[jj,this]
theorem ax5(a: ∀j,j<M.length->aj9 M j=false):jj M=[]:=by
 have:(List.range M.length).find? (aj9 M)=none:=b6r.2 λj b=>by simp[a j b]
 rw[jj,this]
theorem ajv(M:LS):(jj M=[]/\∀j,j<M.length->aj9 M j=false)\/∃i,0<i/\i<M.length/\jj M=[(el M (i - 1),el M i)]:=by cases h:(List.range M.length).find? (aj9 M)with|none=>exact .inl ⟨by rw[jj,h],λj c=>by simpa using List.find?_range_eq_none.1 h j c⟩|some i=>obtain⟨a,b,_⟩:=b49.1 h;rw[aj9,b0l]at a;exact .inr ⟨i,b0g a.1,A0,by rw[jj,h]⟩
def a9d(v:Vt)(s:Stm):Bool:=decide ((ofE s).2=0)&&(ef (ofE s).1.c v.c&&decide (nc (ofE s).1.x v.x=0))
def axn(M:LS)(v:Vt):Stm:=el M (bgi (a9d v) M).toNat
def alg(M:LS):List (Stm×Stm):=(jq M).flatMap λc=>if 1<(br M c).length then [(axn M (el (br M c) 0),axn M (el (br M c) 1))]else []
def pfs(k:Int)(l:List (Stm×Stm)):List (Int×Stm×Stm):=l.map λp=>(k,p.1,p.2)
def ady(M:LS):List (Int×Stm×Stm):=if 1<M.length then pfs 1 (jj M)++pfs 2 (alg M)else []
def qn(L:LS)(n:Nat):List (Int×Stm×Stm):=(List.range n).flatMap λa:Nat=>ady (ma L a)
def a5f(L:LS):LI:=a9c ((qn L 64).map λp=>p.2.1.au)
def gB(L:LS)(a:Int):Bool:=(xc L a).any λs=>(xc L a).any λt=>decide (s.nu=t.nu)&&decide (s≠t)
theorem av1:gB L a=true↔∃s∈xc L a,∃t∈xc L a,s.nu=t.nu/\s≠t:=by simp[gB,b2n]
theorem bpp{a b:Stm}(h:ltN a b=true):a.nu<=b.nu:=by have c:=b0g h;unfold aw4 or2 ic at c;(repeat' split at c);all_goals omega
theorem atq(h:CF L):jj (ma L a)≠[]↔gB L a=true:=by obtain⟨hs,o⟩:=adq (a:=a) h;rw[av1];constructor;{intro hne;rcases ajv (ma L a)with ⟨h1,_⟩|⟨i,h0,g,h2⟩;{exact absurd h1 hne};.have hadj:aj9 (ma L a) i=true:=(by cases hf:(List.range (ma L a).length).find? (aj9 (ma L a))with|none=>rw[jj,hf]at h2;cases h2|some k=>obtain⟨u,z,_⟩:=b49.1 hf;have p:jj (ma L a)=[(el (ma L a) (k - 1),el (ma L a) k)]:=(by rw[jj,hf]);rw[h2]at p;rw[aj9,b0l]at u;have x:=b0g u.2;simp only[List.cons.injEq,b0t,b7x]at p;rw[aj9,b0h h0,b3r,b3l,p.1,p.2];exact x);rw[aj9,b0l]at hadj;have c:=b0g hadj.2;have v:=cr g;have w:=cr (show i - 1<(ma L a).length from Aa);refine⟨_,(o _).1 v,_,(o _).1 w,c,λr=> ?_⟩;have b:=b1i.1 hs (i - 1) i Aa g Aa;rw[<-elG _ _ Aa,<-elG _ _ g,r,(brz (a:=a) h).irr]at b;cases b};.rintro⟨s,s1,t,t1,c,hne⟩ hnil;rcases ajv (ma L a)with ⟨_,h2⟩|⟨i,_,_,h3⟩;rotate_left;{rw[hnil]at h3;cases h3};obtain⟨i,g,rfl⟩:=ac7 ((o s).2 s1);obtain⟨j,e,rfl⟩:=ac7 ((o t).2 t1);have d: ∀i j,i<j->j<(ma L a).length->(el (ma L a) i).nu<=(el (ma L a) j).nu:=λi j f e=>(by have b:=b1i.1 hs i j Aa e f;rw[<-elG _ _ Aa,<-elG _ _ e]at b;exact bpp b);have l: ∀i j,i<j->j<(ma L a).length->(el (ma L a) i).nu=(el (ma L a) j).nu->False:=λi j f e r=>(by have q:=h2 (i+1) Aa;rw[aj9,b0h Aa,b3r,b1z,b1d]at q;have y:=d i (i+1) Aa Aa;by_cases n:i+1=j;{exact q (by rw[n];exact r.symm)};.have m2:=d (i+1) j Aa e;exact q Aa);rcases b8b i j with m|m|m;{exact l i j m e c};{subst m;exact hne rfl};.exact l j i m g c.symm
def UNI(L:LS):Prop:= ∀c,∀s∈L,∀t∈L,okV c s=true->okV c t=true->s.au=t.au->s.nu=t.nu
theorem a0v{p:Stm->Bool}(h:l.any p=true): ∃i:Nat,bgi p l=(i:Int)/\i<l.length/\p (el l i)=true:=by cases hf:l.findIdx? p with|none=>rw[b26]at hf;rw[b2n]at h;obtain⟨x,hx,b⟩:=h;rw[hf x hx]at b;cases b|some i=>obtain⟨a,c,_⟩:=b3k.1 hf;exact⟨i,by rw[bgi,hf],a,by rw[elG _ _ a];exact c⟩
theorem a0p(h:v∈br M c):M.any (a9d v)=true:=by obtain⟨s,hs,d,rfl⟩:=mc.1 h;refine b2n.2 ⟨s,hs,?_⟩;have a:=(b41.1 d).1;have b:(ofE s).2=0:=b0g (b41.1 a).1;unfold a9d;rw[b0h b,b3r];have e:(eh s).1=(ofE s).1:=rfl;rw[e,(n7 _ _).2 rfl];simp[ef]
theorem be0(h:v∈br M c):axn M v∈M:=by obtain⟨i,a,b,_⟩:=a0v (a0p h);unfold axn;rw[a,b19];exact cr b
theorem aw6(h:CF L)(m:UNI L)(hd:alg (ma L a)≠[]):gB L a=true:=by obtain⟨_,g⟩:=adq (a:=a) h;obtain⟨p,o⟩:=b6k _ hd;obtain⟨c,_,i⟩:=b51.1 o;split at i;rotate_left;{simp at i};rename_i j;have e:=(ajp (ma L a) c).1;have b:=b1i.1 e 0 1 Aa j Aa;obtain⟨d,s,z,n⟩:=mc.1 (b1g (show 0<(br (ma L a) c).length from Aa));obtain⟨k,y,v,w⟩:=mc.1 (b1g j);have f:=(g _).1 s;have l:=(g _).1 y;obtain⟨r,t,_⟩:=jy.1 f;obtain⟨q,u,_⟩:=jy.1 l;refine av1.2 ⟨d,f,k,l,m c d r k q z v (t.trans u.symm),λx=> ?_⟩;subst x;rw[<-n,<-w]at b;have:=(bnn c).irr (eh d).1;rw[this]at b;cases b
theorem bc6(h:CF L): ∀p∈ady (ma L a),p.2.1.au=a:=λp b=>by
 obtain⟨_,e⟩:=adq (a:=a) h;unfold ady at b;split at b
 rotate_left
 .simp at b
 rcases b0j.1 b with b|b
 .obtain⟨q,hq,rfl⟩:=b0z.1 b;rcases ajv (ma L a)with ⟨h1,_⟩|⟨i,h0,hi,h2⟩
  .rw[h1]at hq;simp at hq
  .rw[h2,b1h]at hq;rw[hq];exact(jy.1 ((e _).1 (cr (show i - 1<(ma L a).length from Aa)))).2.1
 .obtain⟨q,hq,rfl⟩:=b0z.1 b;obtain⟨c,_,d⟩:=b51.1 hq;split at d
  rotate_left
  .simp at d
  rename_i f;rw[b1h]at d;rw[d];exact(jy.1 ((e _).1 (be0 (cr (show 0<(br (ma L a) c).length from Aa))))).2.1
theorem ata(h:CF L)(i:UNI L):ady (ma L a)≠[]↔gB L a=true:=by obtain⟨_,g⟩:=adq (a:=a) h;constructor;{intro b;unfold ady at b;split at b;{by_cases d:jj (ma L a)=[];{refine aw6 h i λf=>b ?_;rw[d,f];rfl};.exact(atq h).1 d};.exact absurd rfl b};.intro hg;have d:=(atq h).2 hg;obtain⟨s,m,t,l,_,b⟩:=av1.1 hg;have k:1<(ma L a).length:=(by have c:=(g s).2 m;have e:=(g t).2 l;match hM:ma L a,c,e with|[],c,_=>simp at c|[x],c,e=>simp at c e;exact absurd (c.trans e.symm) b|_::_::_,_,_=>simp);unfold ady;rw[if_pos k];intro f;obtain⟨j,_⟩:=List.append_eq_nil_iff.1 f;exact d (List.map_eq_nil_iff.1 j)
theorem bjj(h:CF L)(i:UNI L):a5f L=bj (gB L) 64:=by
 have c:(qn L 64).map (λp=>p.2.1.au)=(List.range 64).flatMap λa:Nat=>List.replicate (ady (ma L a)).length (a:Int):=by unfold qn;rw[List.map_flatMap];congr 1;funext a;refine List.eq_replicate_iff.2 ⟨by rw[b0x],λb q=> ?_⟩;obtain⟨p,o,rfl⟩:=b0z.1 q;exact bc6 h p o
 have d: ∀k:Int,k∈(qn L 64).map (λp=>p.2.1.au)↔(0<=k/\k<64)/\gB L k=true:=λk=>by rw[c,b51];constructor;{rintro⟨a,f,g⟩;obtain⟨j,rfl⟩:=b5i.1 g;have f:=b2k.1 f;exact⟨Aa,(ata h i).1 λl=>j (by rw[l];rfl)⟩};.rintro⟨⟨j,l⟩,h3⟩;obtain⟨a,rfl⟩: ∃a:Nat,k=a:=⟨k.toNat,Aa⟩;refine⟨a,b2k.2 Aa,b5i.2 ⟨λr=> ?_,rfl⟩⟩;exact(ata h i).2 h3 (b0u r)
 have e:((qn L 64).map λp=>p.2.1.au).Pairwise λx y=>decide (x<=y)=true:=by rw[c,b7i];refine⟨λa _=>List.pairwise_replicate.2 (.inr Ad),?_⟩;refine List.Pairwise.imp ?_ (b5k (n:=64));intro a b m x hx y s;rw[(b5i.1 hx).2,(b5i.1 s).2];simp;omega
 have hs:srt ((qn L 64).map λp=>p.2.1.au)=(qn L 64).map λp=>p.2.1.au:=List.mergeSort_of_pairwise e;unfold a5f;rw[<-hs,bfk _ (λx hx=>((d x).1 hx).1)];unfold bj;refine b8c λk g=> ?_;obtain⟨a,f,rfl⟩:=b0z.1 g;have f:=b2k.1 f;rw[b3s,b3l,d];exact⟨λh=>h.2,λh=>⟨Aa,h⟩⟩
theorem avd(a b:Stm):DN 197 [.agg (sm a),.agg (sm b)] (.int .i64 (aw4 a b)):=by refine ag_ func197 ntmps197 results197 ?_;simp only[go_sem];refine Qq (fx a.nu b.nu) [] ?_;simp only[go_sem];refine Qq (aft a.sd b.sd) [] ?_;simp only[go_sem];refine Qq (acq [ic a.nu b.nu,Lib.compareBytes a.sd b.sd] Ap) [] ?_;simp only[go_sem];refine⟨ok_,?_⟩;simp only[orL,aw4,or2];(repeat' split);all_goals simp_all
theorem aqh(a b:Stm):Den prog 201 [.agg (sm a),.agg (sm b),.ptr 1000000 0] [.cells [.fn 197 []]] (.bool (fm a b)) [] [.cells [.fn 197 []]]:=by refine ah_ [] [1000000] func201 ntmps201 results201 ?_;simp only[go_sem];refine Qq (avd a b) [] ?_;simp only[go_sem];rfl
theorem a1j(l:LS)(A:l.length<4611686018427387904)(h:CF L)(n: ∀s∈l,s∈xc L a):
  Den prog 199 [.os 1000000 l.length,.fn 197 []] [.arr 75 13 false (l.map sm)] (.tup []) [] [.arr 75 13 false ((a0f l).map sm)]:=by refine aa8 (F:=sm) (cf:=aw4) (enters_of func199 Ae rfl) A (λm k t i c q b e d w g u f j=>AnyQ.slices_SortFunc Tryz.sortStm 13 (λ_=>Ae) (λ_=>Ae) k t i c q _ _ b 0 e d w (enters_of func197 Ae rfl) g u f j) (λp e r w=>AnyF.slices_SortFunc_none Tryz.sortStm p e r w) (λx hx y o=>avd x y) (λx _=>to_N.irr (x.nu,x.sd)) (λx _ y _ z _=>to_N.tr (x.nu,x.sd) (y.nu,y.sd) (z.nu,z.sd)) (λx _ y _ z _=>to_N.nt (x.nu,x.sd) (y.nu,y.sd) (z.nu,z.sd)) (λx hx y o i v=> ?_) (b2e _ _) ?_;{exact(brz (a:=a) h).tri x y (n x hx) (n y o) (b0b i) (b0b v)};.exact(a4o l).imp λh=>b1a h
theorem amw(l:LS)(f:big l.length)(hd: ∀i,0<i->i<l.length->fm (el l i) (el l (i - 1))=false):
  Den prog 200 [.os 1000000 l.length,.fn 201 [.ptr 1000001 0]] [.arr 75 13 false (l.map sm),.cells [.fn 197 []]] (.os 1000000 l.length) [] [.arr 75 13 false (l.map sm),.cells [.fn 197 []]]:=by refine ah_ [] [1000000,1000001] func200 ntmps200 results200 ?_;by_cases c:(l.length:Int)<2;{simp only[go_sem,c]};simp only[go_sem,c];refine lo_ 1 (λi:Nat=>[(0,.os 1000000 l.length),(1,.fn 201 [.ptr 1000001 0]),(5,.int .i64 i)]) (λ_=>[(1000000,.arr 75 13 false (l.map sm)),(1000001,.cells [.fn 197 []])]) (λi=>1<=i/\i<=l.length) (λi=>l.length - i) ⟨b0f _,Aa⟩ ?_ ?_;{simp only[go_sem]};.rintro i ⟨hi0,hi⟩;by_cases b:i<l.length;{have h1:(i:Int)<(l.length:Int):=Aa;obtain⟨j,rfl⟩: ∃j,i=j+1:=⟨i - 1,Aa⟩;have d:IntKind.i64.wrap (((j+1:Nat):Int) - 1)=(j:Int):=Ab;have e:j<l.length:=Aa;simp only[go_sem,h1,b,d,e];have a:=hd (j+1) Aa b;rw[b1z]at a;refine Qq (aqh (el l (j+1)) (el l j)) [1000001] ?_;simp only[go_sem,a];refine⟨ok_,j+1+1,⟨Aa,Aa⟩,?_⟩;rw[ah]<;>omega};.have h1: ¬(i:Int)<(l.length:Int):=Aa;simp only[go_sem,h1]
theorem aii(l:LS)(V:big l.length){k:Nat}(W:0<k)(U:k<l.length)(K:fm (el l k) (el l (k - 1))=true)(P: ∀j,0<j->j<k->fm (el l j) (el l (j - 1))=false):
  Den prog 200 [.os 1000000 l.length,.fn 201 [.ptr 1000001 0]] [.arr 75 13 false (l.map sm),.cells [.fn 197 []]] (.vs ((kp fm l l.length).map sm)) [] [.arr 75 13 true ((kp fm l l.length).map sm++List.replicate (l.length - (kp fm l l.length).length) zS),.cells [.fn 197 []]]:=by refine ah_ [] [1000000,1000001] func200 ntmps200 results200 ?_;have z: ¬(l.length:Int)<2:=Aa;simp only[go_sem,z];refine yw mx_ 1 (λi:Nat=>[(0,.os 1000000 l.length),(1,.fn 201 [.ptr 1000001 0]),(5,.int .i64 i)]) (λ_=>[(1000000,.arh 75 13 (l.map sm)),(1000001,.cells [.fn 197 []])]) (λi=>1<=i/\i<=k) (λi=>k - i) Ae ⟨b0f _,Aa⟩ ?_ ?_;{refine Cv.trans (Cv.opn (n:=1000000) Al) (Cv.wk ?_);have e:=bu [1000000,1000001] sm (λ_=>rfl) l;simp only[go_sem,e]};.rintro i ⟨hi0,hi⟩;have r:i<l.length:=Aa;have I:(i:Int)<(l.length:Int):=Aa;obtain⟨j,rfl⟩: ∃j,i=j+1:=⟨i - 1,Aa⟩;have M:IntKind.i64.wrap (((j+1:Nat):Int) - 1)=(j:Int):=Ab;have N:j<l.length:=Aa;have E:=aqh (el l (j+1)) (el l j);by_cases R:j+1<k;{have hne:=P (j+1) Aa R;rw[b1z]at hne;rw[hne]at E;simp only[go_sem,I,r,M,N];refine Qq E [1000001] ?_;simp only[go_sem];refine⟨ok_,j+1+1,⟨Aa,Aa⟩,Cv.wk ?_⟩;have e:=bu [1000000,1000001] sm (λ_=>rfl) l;simp only[go_sem,e];rw[ah]<;>omega};.obtain rfl:k=j+1:=Aa;rw[b1z]at K;rw[K]at E;simp only[go_sem,I,r,M,N];refine Qq E [1000001] ?_;simp only[go_sem,I,r,M,N];refine⟨ok_,?_⟩;have G:kp fm l (j+1+1)=l.take (j+1):=(by have:=acu fm l (j+1) Aa P;rw[kp,if_neg (λh=>by rcases h with h|h;omega;rw[b1z,K]at h;cases h),this,b00]);refine yw mx_ (0,l) (λs:Nat×LS=>[(0,.os 1000000 l.length),(1,.fn 201 [.ptr 1000001 0]),(5,.int .i64 (kp fm l (j+1+(s.1+1))).length),(6,.osl 1000000 l.length (j+1)),(7,.int .i64 ((s.1+1:Nat):Int))]) (λs=>[(1000000,.arh 75 13 (s.2.map sm)),(1000001,.cells [.fn 197 []])]) (λs=>j+1+(s.1+1)<=l.length/\s.2.length=l.length/\(kp fm l (j+1+(s.1+1))).length<j+1+(s.1+1)/\s.2.take (kp fm l (j+1+(s.1+1))).length=kp fm l (j+1+(s.1+1))/\∀a,(kp fm l (j+1+(s.1+1))).length<=a->el s.2 a=el l a) (λs=>l.length - s.1) Ae ?_ ?_ ?_;{have f:(l.take (j+1)).length=j+1:=Ag;refine⟨Ah,rfl,?_,?_,λa _=>rfl⟩;{show(kp fm l (j+1+1)).length<j+1+1;rw[G,f];omega};.show l.take (kp fm l (j+1+1)).length=kp fm l (j+1+1);rw[G,f]};{refine Cv.wk ?_;have f:(l.take (j+1)).length=j+1:=Ag;have e:=bu [1000000,1000001] sm (λ_=>rfl) l;simp only[go_sem,e,G,f]};.rintro⟨n,L⟩ ⟨i1,i2,i3,i4,i5⟩;simp only at i1 i2 i3 i4 i5;simp only;have S:kp fm l (j+1+(n+1)+1)=kp fm l (j+1+(n+1))++if fm (el l (j+1+(n+1))) (el l (j+1+n))=false then [el l (j+1+(n+1))]else []:=(by rw[kp];have h0: ¬j+1+(n+1)=0:=Aa;simp only[h0,b8g];rfl);have T:0<(kp fm l (j+1+(n+1))).length:=a2a _ _ Aa;generalize Q:kp fm l (j+1+(n+1))=o at*;by_cases C:j+1+(n+1)<l.length;{have q:((n+1:Nat):Int)<((l.length - (j+1):Nat):Int):=Aa;have p:((j+1:Nat):Int)+((n+1:Nat):Int)<(l.length:Int):=Aa;have t:((j+1:Nat):Int)+(n:Int)<(l.length:Int):=Aa;have v:IntKind.i64.wrap (((n+1:Nat):Int) - 1)=(n:Int):=Ab;have u:j+1+(n+1)<L.length:=Aa;have w:j+1+n<L.length:=Aa;have B:el L (j+1+(n+1))=el l (j+1+(n+1)):=i5 _ Aa;have D:el L (j+1+n)=el l (j+1+n):=i5 _ Aa;have d:kp fm l (j+1+((n+1)+1))=o++if fm (el l (j+1+(n+1))) (el l (j+1+n))=false then [el l (j+1+(n+1))]else []:=S;have g:=aqh (el l (j+1+(n+1))) (el l (j+1+n));have m:j+1+n<l.length:=Aa;cases hsame:fm (el l (j+1+(n+1))) (el l (j+1+n))with|true=>rw[hsame,if_neg Ad,b00]at d;rw[hsame]at g;simp only[go_sem,q,p,t,v,u,w,i2,B,D,C,m];refine Qq g [1000001] ?_;simp only[go_sem,q,p,t,v,u,w,i2,B,D,C,m];refine⟨ok_,(n+1,L),⟨⟨Ah,i2,?_,?_,λa J=>i5 a ?_⟩,Ah⟩,Cv.wk ?_⟩;{show(kp fm l (j+1+((n+1)+1))).length<_;rw[d];simp only;omega};{show L.take (kp fm l (j+1+((n+1)+1))).length=_;rw[d];exact i4};{have ha':(kp fm l (j+1+((n+1)+1))).length<=a:=J;rwa [d]at ha'};.have e:=bu [1000000,1000001] sm (λ_=>rfl) L;simp only[go_sem,d,e];rw[ah]<;>omega|false=>rw[hsame,if_pos rfl]at d;rw[hsame]at g;have O:o.length<l.length:=Aa;simp only[go_sem,q,p,t,v,u,w,O,i2,B,D,C,m];refine Qq g [1000001] ?_;simp only[go_sem,q,p,t,v,u,w,O,i2,B,D,C,m];refine⟨ok_,(n+1,L.set o.length (el l (j+1+(n+1)))),⟨⟨Ah,Em,?_,?_,λa J=> ?_⟩,Ah⟩,Cv.wk ?_⟩;{show(kp fm l (j+1+((n+1)+1))).length<_;rw[d,b0a,b1j];simp only;omega};{show(L.set o.length (el l (j+1+(n+1)))).take (kp fm l (j+1+((n+1)+1))).length=kp fm l (j+1+((n+1)+1));rw[d];exact wa Aa i4};{have ha':(kp fm l (j+1+((n+1)+1))).length<=a:=J;rw[d,b0a,b1j]at ha';show el (L.set o.length _) a=_;rw[ala Aa];exact i5 a Aa};.have e:=bu [1000000,1000001] sm (λ_=>rfl) (L.set o.length (el l (j+1+(n+1))));have y:(L.map sm).set o.length [PV.int IntKind.i64 (el l (j+1+(n+1))).au,PV.int IntKind.i64 (el l (j+1+(n+1))).nu,PV.str (el l (j+1+(n+1))).prev,PV.int IntKind.i64 (el l (j+1+(n+1))).ti,PV.int IntKind.i64 (el l (j+1+(n+1))).kd,PV.int IntKind.i64 (el l (j+1+(n+1))).a,PV.int IntKind.i64 (el l (j+1+(n+1))).b,PV.int IntKind.i64 (el l (j+1+(n+1))).c,PV.vs (List.map Am.i1 (el l (j+1+(n+1))).li),PV.vs (List.map pn (el l (j+1+(n+1))).pins),PV.str (el l (j+1+(n+1))).body,PV.int IntKind.i64 (el l (j+1+(n+1))).sk,PV.str (el l (j+1+(n+1))).sd]=(L.set o.length (el l (j+1+(n+1)))).map sm:=D0;have F:(o++[el l (j+1+(n+1))]).length=o.length+1:=Ad;simp only[go_sem,d,y,e,F];exact⟨Ab,Ab⟩};.have hend:j+1+(n+1)=l.length:=Aa;have q: ¬((n+1:Nat):Int)<((l.length - (j+1):Nat):Int):=Aa;have p:(o.length:Int)<(l.length:Int):=Aa;rw[hend]at Q;rw[Q];have A:(L.map sm).take o.length=o.map sm:=(by rw[<-b3j,i4]);have H: ∀σ,l7 σ (o.map sm++List.replicate (l.length - o.length) zS)=some (o.map sm++List.replicate (l.length - o.length) zS,[]):=λσ=>ph λx hx=>(by rcases b0j.1 hx with hx|hx;{obtain⟨c,_,rfl⟩:=b0z.1 hx;rfl};.rw[b18 hx];rfl);have t:(o.length:Int)<=(l.length:Int):=Aa;have v:(o.map sm++List.replicate (l.length - o.length) zS).length=l.length:=Ag;have u:(o.map sm++List.replicate (l.length - o.length) zS).take o.length=o.map sm:=Ad;simp only[go_sem,q,p,i2,A];refine ng _ _ ?_;have w:o.length<l.length:=Aa;simp only[go_sem,q,p,i2,A,w,<-brp,H,t,v,u];refine ar3 _ ?_;simp only[go_sem]
theorem ai2(l:LS)(a:big l.length):
  ∃new,new.length=l.length/\Den prog 200 [.os 1000000 l.length,.fn 201 [.ptr 1000001 0]] [.arr 75 13 false (l.map sm),.cells [.fn 197 []]] (.vs ((kp fm l l.length).map sm)) [] [.arr 75 13 true new,.cells [.fn 197 []]]:=by rcases aar fm l l.length (b0f _)with h|⟨k0,h1,h2,h3,h4⟩;{rw[ap4 _ _ h];exact⟨_,Ad,(amw l a h).vsE Ad⟩};.exact⟨_,by have:=aff fm l l.length;simp;omega,aii l a h1 h2 h3 h4⟩
def ayd(L:LS)(a:Int)(i:Nat):LS:=xc (L.take i) a
theorem a4t(h:i<L.length):ayd L a (i+1)=ayd L a i++(if(decide ((el L i).au=a)&&ob (el L i))=true then [el L i]else []):=by unfold ayd xc;rw[bt h,b2p];congr 1;simp only[b27,b2t]
theorem be2(L:LS)(a:Int)(i:Nat):(ayd L a i).length<=L.length:=by have b:=ahx (L.take i) a;have c:(L.take i).length<=L.length:=Ak;unfold ayd;omega
theorem bch(L:LS)(a:Int):ayd L a L.length=xc L a:=by rw[ayd,b0n]
theorem bhn(L:LS)(a:Int)(A:L.length<=1000000)(hs: ∀s∈L,om s)(h:CF L):DN 144 [.vs (L.map sm),.int .i64 a] (.vs ((ma L a).map sm)):=by refine ag_ func144 ntmps144 results144 ?_;simp only[go_sem];refine bm 5 99 75 13 false ?_ ?_ ?_ Aa;{refine lo_ 0 (λi:Nat=>[(1,.int .i64 a),(5,.os 99 (ayd L a i).length),(9,.vs (L.map sm)),(10,.int .i64 L.length),(11,.int .i64 i)]) (λi=>[(99,.arr 75 13 false ((ayd L a i).map sm))]) (λi=>i<=L.length) (λi=>L.length - i) (b0k _) ?_ ?_;{simp only[go_sem];exact⟨rfl,rfl⟩};.intro i hi;by_cases c:i<L.length;{have h1:(i:Int)<(L.length:Int):=Aa;have k:=a4t (a:=a) c;have w:=be2 L a i;have r:=hs _ (cr c);have u:=yp (el L i) r;have t:=λh:aj (el L i)=0=>yj (el L i) (ot h);rw[dc]at u t;have q:(decide ((el L i).au=a)&&ob (el L i))=false->ayd L a (i+1)=ayd L a i:=λv=>(by rw[k,v,if_neg Ad,b00]);by_cases g:a=(el L i).au;rotate_left;{have k1': ¬(el L i).au=a:=λe=>g e.symm;have l:=q (by simp[k1']);simp only[go_sem,h1,c,g,k1'];refine⟨i+1,Aa,?_⟩;rw[l];exact⟨⟨rfl,Ab⟩,rfl⟩};have n:=b4s g;have b:=b4s g.symm;simp only[go_sem,h1,c,n,b];refine Qq u [] ?_;by_cases f:aj (el L i)=0;rotate_left;{have l:=q (by simp[ob,f]);simp only[go_sem,f,n,b];refine⟨i+1,Aa,?_⟩;rw[l];exact⟨⟨rfl,Ab⟩,rfl⟩};simp only[go_sem,f,n,b];refine Qq (t f) [] ?_;by_cases j:(el L i).sk=(el L i).au/\(el L i).sd=dig (el L i);rotate_left;{have l:=q (by simp[ob,j]);simp only[go_sem,j,f,n,b];refine⟨i+1,Aa,?_⟩;rw[l];exact⟨⟨rfl,Ab⟩,rfl⟩};have x:ayd L a (i+1)=ayd L a i++[el L i]:=(by rw[k,if_pos (by simp[ob,<-g,f];exact⟨by rw[g];exact j.1,j.2⟩)]);simp only[go_sem,j,f,n,b];refine⟨Aa,i+1,Aa,?_⟩;rw[x];exact⟨⟨Ad,Ab⟩,by simp[dc,j]⟩};.have h1: ¬(i:Int)<(L.length:Int):=Aa;have:i=L.length:=Aa;subst this;simp only[go_sem,h1];have y:=ahx L a;rw[bch];refine Qq (a1j (xc L a) Aa h λs hs=>hs) [99] ?_;have d:(a0f (xc L a)).length=(xc L a).length:=b3b _;simp only[go_sem,d];obtain⟨z,o,m⟩:=ai2 (a0f (xc L a)) Af;rw[d]at m o;refine⟨b0f _,?_⟩;have p:ma L a=kp fm (a0f (xc L a)) (a0f (xc L a)).length:=rfl;rw[p,d];refine Qq m [99,8] ?_;simp only[go_sem,d];omega};{simp only[go_sem]};.simp only[go_sem]
def pf(p:Int×Stm×Stm):LP:= .int .i64 p.1::(sm p.2.1++sm p.2.2)
theorem bit(p:Int×Stm×Stm):pf p=[.int .i64 p.1,.int .i64 p.2.1.au,.int .i64 p.2.1.nu,.str p.2.1.prev,.int .i64 p.2.1.ti,.int .i64 p.2.1.kd,.int .i64 p.2.1.a,.int .i64 p.2.1.b,.int .i64 p.2.1.c,.vs (p.2.1.li.map i1),.vs (p.2.1.pins.map pn),.str p.2.1.body,.int .i64 p.2.1.sk,.str p.2.1.sd,
 .int .i64 p.2.2.au,.int .i64 p.2.2.nu,.str p.2.2.prev,.int .i64 p.2.2.ti,.int .i64 p.2.2.kd,.int .i64 p.2.2.a,.int .i64 p.2.2.b,.int .i64 p.2.2.c,.vs (p.2.2.li.map i1),.vs (p.2.2.pins.map pn),.str p.2.2.body,.int .i64 p.2.2.sk,.str p.2.2.sd]:=(rfl)
attribute [go_sem] bit
theorem a1b(M:LS)(g:big M.length):DN 145 [.vs (M.map sm)] (.vs ((pfs 1 (jj M)).map pf)):=by refine ag_ func145 ntmps145 results145 ?_;simp only[go_sem];refine lo_ 1 (λi:Nat=>[(0,.vs (M.map sm)),(3,.int .i64 i)]) (λ_=>[]) (λi=>1<=i/\(i<=M.length\/i=1)/\∀j,j<i->aj9 M j=false) (λi=>M.length - i) ⟨b0f _,.inr rfl,λj d=>by rw[show j=0 from Aa];rfl⟩ ?_ ?_;{simp only[go_sem]};.rintro i ⟨h0,hi,hp⟩;by_cases a:i<M.length;{have h1:(i:Int)<(M.length:Int):=Aa;obtain⟨j,rfl⟩: ∃j,i=j+1:=⟨i - 1,Aa⟩;have f:IntKind.i64.wrap (((j+1:Nat):Int) - 1)=(j:Int):=Ab;have d:j<M.length:=Aa;have b:=bcj a (M:=M);rw[b1z]at b;by_cases c:(el M (j+1)).nu=(el M j).nu;{have hq:=b (by simp[aj9,c]) hp;rw[hq];simp only[go_sem,h1,a,f,d,c,pfs];exact⟨ok_,ok_⟩};.simp only[go_sem,h1,a,f,d,c];refine⟨ok_,j+1+1,⟨⟨Aa,Aa,λk h=> ?_⟩,Aa⟩,Ab⟩;by_cases e:k=j+1;{subst e;simp[aj9,c]};.exact hp k Aa};.have h1: ¬(i:Int)<(M.length:Int):=Aa;rw[ax5 λj d=>hp j Aa];simp only[go_sem,h1,pfs,b0o]
theorem bd9(v:Vt)(s:Stm)(hs:om s)(hv:qg v.x):Den prog 276 [.agg (sm s),.ptr 1000000 0] [.cells (vt7 v)] (.bool (a9d v s)) [] [.cells (vt7 v)]:=by refine ah_ [] [1000000] func276 ntmps276 results276 ?_;have g:=a3d s hs;have j:qg (ofE s).1.x:=lm (aau (s:=s));have b:a9d v s=(decide ((ofE s).2=0)&&(ef (ofE s).1.c v.c&&decide (nc (ofE s).1.x v.x=0))):=rfl;have d:ef (ofE s).1.c v.c=true↔((ofE s).1.c.ep=v.c.ep/\(ofE s).1.c.kd=v.c.kd/\(ofE s).1.c.su=v.c.su/\(ofE s).1.c.ro=v.c.ro):=(by generalize (ofE s).1.c=a;cases a;cases hv:v.c;simp[ef]);have i:=sq (ofE s).1.x v.x j.1 j.2 hv.1 hv.2;rw[dc]at g;generalize a9d v s=m at*;generalize ofE s=W at*;obtain⟨w,e⟩:=W;dsimp only at g i b d;simp only[go_sem];refine Qq g [] ?_;by_cases f:e=0;rotate_left;{rw[b0b f,b3d]at b;subst b;simp only[go_sem,f]};rw[b0h f,b3r]at b;cases hsc:ef w.c v.c;{rw[hsc,b3d]at b;subst b;have k: ¬(w.c.ep=v.c.ep/\w.c.kd=v.c.kd/\w.c.su=v.c.su/\w.c.ro=v.c.ro):=λh=>(by rw[d.2 h]at hsc;cases hsc);simp only[go_sem,f,k];done};.rw[hsc,b3r]at b;have l:=d.1 hsc;simp only[go_sem,f,l];refine Qq i [] ?_;simp only[go_sem];exact b.symm
theorem bem(v:Vt)(hv:qg v.x)(l:LS)(f:big l.length)(hs: ∀s∈l,om s):Den prog 275 [.vs (l.map sm),.fn 276 [.ptr 1000000 0]] [.cells (vt7 v)] (.int .i64 (bgi (a9d v) l)) [] [.cells (vt7 v)]:=by refine ah_ [] [1000000] func275 ntmps275 results275 ?_;simp only[go_sem];refine lo_ 0 (λi:Nat=>[(0,.vs (l.map sm)),(1,.fn 276 [.ptr 1000000 0]),(7,.int .i64 l.length),(8,.int .i64 i)]) (λi=>[(1000000,.cells (vt7 v))]) (λi=>i<=l.length/\∀j,j<i->a9d v (el l j)=false) (λi=>l.length - i) ?_ ?_ ?_;{simp};{simp only[go_sem]};.rintro i ⟨hi,hp⟩;by_cases a:i<l.length;{have hlt:(i:Int)<(l.length:Int):=Aa;have c:=bd9 v (el l i) (hs _ (cr a)) hv;rw[dc,as0]at c;simp only[go_sem,hlt,a];refine Qq c [1000000] ?_;cases e:a9d v (el l i);{simp only[go_sem];refine⟨i+1,⟨⟨Aa,λj d=> ?_⟩,Aa⟩,Ab⟩;by_cases b:j=i;{rw[b];exact e};.exact hp j Aa};.simp only[go_sem];rw[bjz a e hp]};.have hf: ¬((i:Int)<(l.length:Int)):=Aa;have:i=l.length:=Aa;subst this;simp only[go_sem,hf];rw[a6a hp]
theorem ams(M:LS)(v:Vt)(d:big M.length)(hs: ∀s∈M,om s)(hv:qg v.x)(e:M.any (a9d v)=true):DN 202 [.vs (M.map sm),.agg (vt7 v)] (.agg (sm (axn M v))):=by refine ag_ func202 ntmps202 results202 ?_;obtain⟨i,a,c,_⟩:=a0v e;have b:=bem v hv M d hs;have hx:axn M v=el M i:=(by rw[axn,a,b19]);rw[a,as0]at b;rw[hx];simp only[go_sem];refine Qq b [3] ?_;simp only[go_sem,c];done
theorem al5{M:LS}{K:LC}(h:i<K.length)(f:Cs->List (Stm×Stm)):(K.take (i+1)).flatMap f=(K.take i).flatMap f++f (el K i):=by rw[bt h,b29];simp
theorem agn(L:LS):(jq L).length<=L.length:=by have a:=aff ef (a0e (aal L L.length)) (a0e (aal L L.length)).length;have b:(a0e (aal L L.length)).length=(aal L L.length).length:=b3b _;have c:(aal L L.length).length<=L.length:=(by unfold aal;rw[b0x];refine b1l (b05 _ _) ?_;rw[b0i];omega);unfold jq;omega
def dbl(M:LS)(c:Cs):List (Stm×Stm):=if 1<(br M c).length then [(axn M (el (br M c) 0),axn M (el (br M c) 1))]else []
theorem auw(M:LS):alg M=(jq M).flatMap (dbl M):=rfl
theorem arf(M:LS)(K:LC): ∀i,((K.take i).flatMap (dbl M)).length<=i
 |0=>by simp
 |i+1=>by
  have ih:=arf M K i;by_cases h:i<K.length
  .rw[al5 h (M:=M),b0a]
   have:(dbl M (el K i)).length<=1:=by
    unfold dbl;split<;>simp
   omega
  .rw[b14 Aa];rw[b14 Aa]at ih;omega
theorem apr(M:LS)(q:M.length<=1000000)(hs: ∀s∈M,om s):DN 146 [.vs (M.map sm)] (.vs ((pfs 2 (alg M)).map pf)):=by refine ag_ func146 ntmps146 results146 ?_;have u:=agw M q hs;have w:=agn M;have k:=λc:Cs=>afo M c q hs;rw[auw];have d:=λ(c:Cs) (v:Vt) (h:v∈br M c)=>a0p h;have e:=λ(c:Cs) (v:Vt) (h:v∈br M c)=>lm (r5 v h).1;generalize jq M=K at*;simp only[go_sem];refine Qq u [] ?_;simp only[go_sem];have n: ∀i,((pfs 2 ((K.take i).flatMap (dbl M)))).length<=i:=λi=>(by rw[pfs,b0x];exact arf M K i);refine bm 3 99 152 27 false ?_ ?_ ?_ Aa;{refine lo_ 0 (λi:Nat=>[(0,.vs (M.map sm)),(3,.os 99 (pfs 2 ((K.take i).flatMap (dbl M))).length),(8,.vs (K.map cs)),(9,.int .i64 K.length),(10,.int .i64 i)]) (λi=>[(99,.arr 152 27 false ((pfs 2 ((K.take i).flatMap (dbl M))).map pf))]) (λi=>i<=K.length) (λi=>K.length - i) (b0k _) ?_ ?_;{simp only[go_sem,pfs,b17,b0o,b0r];done};.intro i hi;by_cases j:i<K.length;{have h1:(i:Int)<(K.length:Int):=Aa;have l:=al5 (M:=M) j (dbl M);have t:=n i;have k:=k (el K i);have d:=d (el K i);have e:=e (el K i);have f:dbl M (el K i)=if 1<(br M (el K i)).length then [(axn M (el (br M (el K i)) 0),axn M (el (br M (el K i)) 1))]else []:=rfl;rw[dh]at k;generalize br M (el K i)=V at*;have b:pfs 2 ((K.take (i+1)).flatMap (dbl M))=pfs 2 ((K.take i).flatMap (dbl M))++pfs 2 (dbl M (el K i)):=(by rw[l,pfs,b0d];rfl);generalize pfs 2 ((K.take i).flatMap (dbl M))=o at*;simp only[go_sem,h1,j];refine Qq k [] ?_;by_cases m:1<(V.length:Int);{have hV1:1<V.length:=Aa;have a:0<V.length:=Aa;have g:(0:Int)<(V.length:Int):=Aa;rw[if_pos hV1]at f;rw[f]at b;have p:=ams M (el V 0) Af hs (e _ (cr a)) (d _ (cr a));have r:=ams M (el V 1) Af hs (e _ (cr hV1)) (d _ (cr hV1));rw[as0,dc]at p r;generalize axn M (el V 0)=x0 at*;generalize axn M (el V 1)=x1 at*;simp only[go_sem,m,hV1,a,g];refine Qq p [] ?_;simp only[go_sem,m,hV1,a,g];refine Qq r [] ?_;simp only[go_sem];refine⟨Aa,ok_,i+1,Aa,?_⟩;rw[b];exact⟨⟨by simp[pfs],Ab⟩,by simp[pfs,bit]⟩};.rw[if_neg Aa]at f;rw[f]at b;simp only[go_sem,m];refine⟨i+1,Aa,?_⟩;rw[b];simp only[go_sem,pfs,b0o,b00];rw[ah]<;>omega};.have h1: ¬(i:Int)<(K.length:Int):=Aa;have:i=K.length:=Aa;subst this;simp only[go_sem,h1,b0n];done};{simp only[go_sem]};.simp only[go_sem]
def bku(r:Rl)(L:LS)(t:Tm):LI:=t.ros.filter λk=>w6 r L t 3 k
theorem afn(L:LS):qn L 0=[]:=rfl
theorem agx(L:LS)(i:Nat):qn L (i+1)=qn L i++ady (ma L i):=by unfold qn;rw[b34,b29];simp
theorem ah1(k:Int)(l:List (Stm×Stm)):(pfs k l).length=l.length:=by simp[pfs]
theorem afk(M:LS):(jj M).length<=1:=by unfold jj;split<;>simp
theorem aoa(M:LS):(alg M).length<=M.length:=by have a:=arf M (jq M) (jq M).length;rw[b0n]at a;have b:=agn M;rw[auw];omega
theorem a0z(M:LS):(ady M).length<=1+M.length:=by have a:=afk M;have b:=aoa M;unfold ady;split;{rw[b0a,ah1,ah1];omega};.simp
theorem ac6(L:LS): ∀i,(qn L i).length<=i*(1+L.length)
 |0=>by simp[afn]
 |i+1=>by
  have h1:=ac6 L i;have a:=a0z (ma L i);have b:=abh L i;rw[agx,b0a,b2a,b7t];omega
theorem bae(h:CF L)(hs:s∈ma L a):s∈L:=(jy.1 (((adq (a:=a) h).2 s).1 hs)).1
theorem bb5(L:LS)(u:L.length<=900)(hs: ∀s∈L,om s)(h:CF L):DN 86 [.vs (L.map sm)] (.vs ((qn L 64).map pf)):=by refine ag_ func86 ntmps86 results86 ?_;have l:=λa:Nat=>bhn L a Aa hs h;have k:=λa:Nat=>a1b (ma L a) (by have:=abh L a;simp only[big];omega);have j:=λa:Nat=>apr (ma L a) (by have:=abh L a;omega) λs p=>hs s (bae h p);have f:=λa:Nat=>abh L a;have b:=agx L;have e:=ac6 L;have d:=λa:Nat=>afk (ma L a);have c:=λa:Nat=>aoa (ma L a);simp only[go_sem];refine bm 3 99 152 27 false ?_ ?_ ?_ Aa;{refine lo_ 0 (λi:Nat=>[(0,.vs (L.map sm)),(3,.os 99 (qn L i).length),(6,.int .i64 i)]) (λi=>[(99,.arr 152 27 false ((qn L i).map pf))]) (λi=>i<=64) (λi=>64 - i) (b0k _) ?_ ?_;{simp only[go_sem,afn,b0o,b0r]};.intro i hi;by_cases q:i<64;{have h1:(i:Int)<64:=Aa;have l:=l i;have k:=k i;have j:=j i;have f:=f i;have b:=b i;have d:=d i;have c:=c i;have e:=e i;have m:i*(1+L.length)<=64*901:=b7p Aa Aa;have g:ady (ma L i)=if 1<(ma L i).length then pfs 1 (jj (ma L i))++pfs 2 (alg (ma L i))else []:=rfl;generalize ma L i=M at*;have t:=ah1 1 (jj M);have r:=ah1 2 (alg M);generalize pfs 1 (jj M)=A at*;generalize pfs 2 (alg M)=B at*;generalize qn L i=o at*;simp only[go_sem,h1];refine Qq l [] ?_;by_cases n:1<(M.length:Int);{rw[if_pos Aa]at g;rw[g]at b;simp only[go_sem,n];refine Qq k [] ?_;simp only[go_sem];refine⟨Aa,Qq j [] ?_⟩;simp only[go_sem];refine⟨Aa,i+1,Aa,?_⟩;rw[b];exact⟨⟨by simp only[b0a];omega,Ab⟩,by simp only[b0d,b0m]⟩};.rw[if_neg Aa]at g;rw[g,b00]at b;simp only[go_sem,n];refine⟨i+1,Aa,?_⟩;rw[b];exact⟨⟨rfl,Ab⟩,rfl⟩};.have h1: ¬(i:Int)<64:=Aa;have:i=64:=Aa;subst this;simp only[go_sem,h1]};{simp only[go_sem]};.simp only[go_sem]
theorem aph(p:Int×Stm×Stm):DN 87 [.agg (pf p)] (.int .i64 p.2.1.au):=by refine ag_ func87 ntmps87 results87 ?_;simp only[go_sem]
theorem av9(L:LS)(m:L.length<=900)(hs: ∀s∈L,om s)(h:CF L):DN 42 [.vs (L.map sm)] (.vs ((a5f L).map i1)):=by
 refine ag_ func42 ntmps42 results42 ?_;have q:=bb5 L m hs h;have l:=ac6 L 64;have j:64*(1+L.length)<=64*901:=b7p Aa Aa;have n:a5f L=a9c ((qn L 64).map λp=>p.2.1.au):=rfl;rw[n];generalize qn L 64=F at*;obtain⟨I,d⟩: ∃I:Nat->LI,I=λi=>(F.take i).map λp=>p.2.1.au:=⟨_,rfl⟩;have f:I 0=[]:=by rw[d];rfl
 have b: ∀i,i<F.length->I (i+1)=I i++[(el F i).2.1.au]:=λi g=>by rw[d];show(F.take (i+1)).map _=_;rw[bt g,b0d,List.map_singleton]
 have a: ∀i,(I i).length<=F.length:=λi=>by rw[d];show((F.take i).map _).length<=_;rw[b0x,b0i];omega
 have c:F.map (λp=>p.2.1.au)=I F.length:=by rw[d];show _=(F.take F.length).map _;rw[b0n]
 rw[c];clear d c;simp only[go_sem];refine Qq q [] ?_;simp only[go_sem];refine bm 3 99 3 1 false ?_ ?_ ?_ Aa
 .refine lo_ 0 (λi:Nat=>[(3,.os 99 (I i).length),(7,.vs (F.map pf)),(8,.int .i64 F.length),(9,.int .i64 i)]) (λi=>[(99,.arr 3 1 false ((I i).map i1))]) (λi=>i<=F.length) (λi=>F.length - i) (b0k _) ?_ ?_;{rw[f];simp only[go_sem,b0o,b0r]};.intro i g;by_cases e:i<F.length;{have h1:(i:Int)<(F.length:Int):=Aa;have b:=b i e;have a:=a i;have k:=aph (el F i);rw[bit]at k;generalize I i=o at*;simp only[go_sem,h1,e];refine Qq k [] ?_;simp only[go_sem];refine⟨Aa,i+1,Aa,?_⟩;rw[b];exact⟨⟨Ad,Ab⟩,Ds⟩};.have h1: ¬(i:Int)<(F.length:Int):=Aa;have:i=F.length:=Aa;subst this;have a:=a F.length;generalize I F.length=o at*;have r:=ab6 o Aa;simp only[go_sem,h1];refine Qq r [99] ?_;simp only[go_sem];rw[ahb];exact b0f _
 .simp only[go_sem]
 .simp only[go_sem]
def noS:Stm:=⟨0,0,[],0,0,0,0,0,[],[],[],0,[]⟩
def ba3:Option Stm->LP
 |none=>[.int .i64 0,.int .i64 0,.str [],.int .i64 0,.int .i64 0,.int .i64 0,.int .i64 0,.int .i64 0,.nils,.nils,.str [],.int .i64 0,.str []]
 |some s=>sm s
theorem bmn:ba3 none=[.int .i64 0,.int .i64 0,.str [],.int .i64 0,.int .i64 0,.int .i64 0,.int .i64 0,.int .i64 0,.nils,.nils,.str [],.int .i64 0,.str []]:=rfl
theorem bmz(s:Stm):ba3 (some s)=sm s:=rfl
def ceI(l:LS)(c:Cs)(x:Ct)(seats:LI)(i:Nat):LS:=(List.range i).filterMap λ(k:Nat)=>if(k:Int)∈seats then asr l k c x else none
theorem bsg{x:Ct}{seats:LI}:ceI l c x seats 64=bsq l c x seats:=rfl
def bs7:LS->PV
 |[]=> .nils
 |s::r=> .os 54 (s::r).length
def btf:LS->ASt
 |[]=>[]
 |s::r=>[(54,.arr 75 13 false ((s::r).map sm))]
theorem bqz:bs7 []= .nils:=rfl
theorem bqk(s:Stm)(r:LS):bs7 (s::r)= .os 54 (s::r).length:=rfl
theorem bqv:btf []=[]:=rfl
theorem bpj(s:Stm)(r:LS):btf (s::r)=[(54,.arr 75 13 false ((s::r).map sm))]:=rfl
def bq7(a:Int)(s t:Stm):Bool:=decide (s.au=a)&&(decide (t.au=a)&&(decide (s.nu=t.nu)&&decide (Lib.compareBytes s.sd t.sd<0)))
def bss(s t x y:Stm):Bool:=decide (s.nu<x.nu\/s.nu=x.nu/\(Lib.compareBytes s.sd x.sd<0\/s.sd=x.sd/\Lib.compareBytes t.sd y.sd<0))
def brw(a:Int)(o:Option (Stm×Stm))(s t:Stm):Option (Stm×Stm):=
 if bq7 a s t=true then(match o with|none=>some (s,t)|some (x,y)=>if bss s t x y=true then some (s,t)else some (x,y))else o
def frI(a:Int)(W:LS)(s:Stm)(o:Option (Stm×Stm)):Nat->Option (Stm×Stm)
 |0=>o
 |j+1=>brw a (frI a W s o j) s (el W j)
def frO(a:Int)(W:LS):Nat->Option (Stm×Stm)
 |0=>none
 |i+1=>frI a W (el W i) (frO a W i) W.length
def bp9:Option (Stm×Stm)->LP
 |none=> .int .i64 0::(ba3 none++ba3 none)
 |some p=>pf (1,p.1,p.2)
theorem bmk:bp9 none=[.int .i64 0,.int .i64 0,.int .i64 0,.str [],.int .i64 0,.int .i64 0,.int .i64 0,.int .i64 0,.int .i64 0,.nils,.nils,.str [],.int .i64 0,.str [],.int .i64 0,.int .i64 0,.str [],.int .i64 0,.int .i64 0,.int .i64 0,.int .i64 0,.int .i64 0,.nils,.nils,.str [],.int .i64 0,.str []]:=rfl
theorem bmi(s t:Stm):bp9 (some (s,t))=pf (1,s,t):=rfl
def bro(R:LS)(a:Int):LS:=R.filter λs=>decide (s.au=a)
def dbR(M:LS)(a:Int)(c:Cs):List (Int×Stm×Stm):=
 if 1<(br M c).length then [(2,(asr M a c (el (br M c) 0).x).getD noS,(asr M a c (el (br M c) 1).x).getD noS)]else []
def fkR(M:LS)(a:Int):List (Int×Stm×Stm):=match frO a M M.length with|none=>[]|some p=>[(1,p.1,p.2)]
def faR(M:LS)(K:LC)(a:Int):List (Int×Stm×Stm):=if M.length<2 then []else fkR M a++K.flatMap (dbR M a)
def btn(L:LS)(n:Nat):List (Int×Stm×Stm):=(List.range n).flatMap λa:Nat=>faR (bro (L.filter ob) a) (jq (L.filter ob)) a
theorem boz(L:LS):btn L 0=[]:=rfl
end Go.Proofs.Am
