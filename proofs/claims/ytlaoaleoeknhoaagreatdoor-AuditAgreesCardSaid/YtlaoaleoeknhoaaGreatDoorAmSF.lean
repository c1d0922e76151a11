/- AmSF. -/
import Derived.Test.YtlaoaleoeknhoaaGreatDoorAmDr
import Derived.Test.YtlaoaleoeknhoaaGreatDoorDOne
set_option linter.unusedSimpArgs false
set_option linter.unusedVariables false
set_option maxHeartbeats 1000000
set_option maxRecDepth 100000
namespace Go.Proofs.Am
open Go Go.RowKit Go.Sort Tryz
open Go Go.RowKit
open Go.Proofs
variable {w:World}{g i:Nat}{s:Stm}{zs:Array Value}{α β:Type}
variable {P:Program}
theorem bp2{a:Addr->Value->Prop}{v:Value}{u:PV}(h:RP a v u)(b:fy u=true):v.oneCell'=true:=by cases h<;>first|rfl|cases b
theorem a9m{e K n a q:Nat}{m:List Value}{os:Array Obj}(h:w.ownsRow 0 e K (.slice (some ⟨g,0,none⟩) n a) n m)(l:zs.size=n*K):
  (grow (putRow id (Sort.ahead w q) g 0 zs) os).ownsRow 0 e K (.slice (some ⟨g,0,none⟩) n a) n zs.toList:=by refine avw ?_;rcases h.2 with ⟨c,_⟩|⟨s,i,b,c,k,o,d,r,hs,t⟩;{cases c};.injection c with e1 _ e3;injection e1 with e1;injection e1 with e1;subst e1;subst e3;have p:n*K<=a*K:=b08 K d;refine⟨by simp[l],.inr ⟨g,a,putCells id 0 zs b,rfl,k,?_,d,r,by simpa [putCells] using hs,?_⟩⟩;{simp[putRow,mapBlock,Sort.ahead,b3w,o,onCells]};.apply b6n;intro j;rw[b04,b3x,b3x];by_cases f:j<n*K;{have hjc:j<b.size:=Aa;simp only[if_pos f,putCells,Array.getElem?_mapIdx,b11 hjc,b02];rw[if_pos Ag,b11 Aa];simp[b3m,show j<zs.size from Aa]};.rw[if_neg f,b36 Aa]
theorem ab5{q:Nat}{d:Array Value}{os:Array Obj}{b:Nat}(e:b<w.heap.size)(a:b≠g):(grow (putRow id (Sort.ahead w q) g 0 d) os).heap[b]? =w.heap[b]?:=by have c:(grow (putRow id (Sort.ahead w q) g 0 d) os).heap[b]? =(putRow id (Sort.ahead w q) g 0 d).heap[b]?:=(by simp only[grow];rw[b23];simpa [putRow,mapBlock,Sort.ahead] using e);rw[c];have:g≠b:=λh=>a h.symm;simp[putRow,mapBlock,Sort.ahead,b3w,this]
theorem bky{V:Addr->Prop}{hv:Nat->Value}{d:Nat->Obj->Prop}{e K f q:Nat}{a new:List LP}{os:Array Obj}(sh:Bool)
  (h:SimW (cx (P:=P) w V hv [.arr e K false a] d) (fg [] [.arr e K false a]) hv w)
  (o:hv 1000000= .slice (some ⟨g,0,none⟩) a.length f) (m:new.length=a.length) (t:zs.size=new.length*K) (v: ∀x∈new,x.length=K) (r: ∀x∈new,x.all fy=true)
  (k:qt P e=true) (s: ∀i x j u,new[i]? =some x->x[j]? =some u->RP (env (cx (P:=P) w V hv [.arr e K false a] d) (fg [] [.arr e K false a]) hv w).pc (zs.toList.getD (i*K+j) Go.undef) u):
  SimW (cx (P:=P) w V hv [.arr e K false a] d) (fg [] [.arr e K sh new]) hv (grow (putRow id (Sort.ahead w q) g 0 zs) os):=by have h0:fg [] [.arr e K false a] 1000000=some (.arr e K false a):=rfl;obtain⟨l,y,c,_⟩:=h.box 1000000 _ h0;have c:=c.own (yl k);rw[<-auk (.arr e K false a)];refine(h.write (w':=grow (putRow id (Sort.ahead w q) g 0 zs) os) (n:=1000000) h0 (B':= .arr e K sh new) ?_ ?_ rfl rfl rfl ?_ ?_ ?_).1;{exact⟨_,rfl,by simp[m],λ_=>rfl⟩};{intro off hp;exact hp};{simp[grow,putRow,mapBlock,Sort.ahead]};{intro b hb hne;rw[o]at hne;exact ab5 hb λe=>hne Fl};.intro E hE;rw[o]at c ⊢;refine⟨l,zs.toList,?_,v,r,λi x j u hx p=>(s i x j u hx p).mono hE.pc⟩;rw[m];exact .of (a9m c (by rw[t,m]))
theorem aa8{k e K:Nat}{l new:List α}{F:α->LP}{cf:α->α->Int}
  (henter: ∀us w,(callFunc k us).run P w= .ok (.enter k us) w) (hll:l.length<4611686018427387904)
  (hsort: ∀(m:Nat) (enc:Fin (m+1)->List Value) (hk: ∀x,(enc x).length=K) (h1: ∀x,∀v∈enc x,v.oneCell'=true) (c:Fin (m+1)->Fin (m+1)->Int) (hO:SWO (ltOf c)) (b cap:Nat) (d:Array (Fin (m+1))) (w:World)
   (hcmp:CmpLays P g #[] enc K c b 0 d.size w) (hH:HoldsK enc K w b 0 d) (hblk:b<w.heap.size) (hsz:d.size<4611686018427387904),
   Calls P k #[.slice (some ⟨b,0,none⟩) d.size cap,.func (.func g) #[] #[]] w λe w'=>e= .returned (.tuple #[])/\∃d' n os,PermIn 0 d.size d d'/\SortedIn (ltOf c) 0 d.size d'/\w'=sortWorldK enc K w b 0 n d' os)
  (hnone: ∀p cap fv w,Calls P k #[.slice p 0 cap,fv] w λe w'=>e= .returned (.tuple #[])/\w'=w)
  (D: ∀x∈l,∀y∈l,Den P g [.agg (F x),.agg (F y)] [] (.int .i64 (cf x y)) [] [])
  (hirr: ∀x∈l,¬cf x x<0) (htr: ∀x∈l,∀y∈l,∀z∈l,cf x y<0->cf y z<0->cf x z<0) (hnt: ∀x∈l,∀y∈l,∀z∈l,¬cf x y<0->¬cf y z<0->¬cf x z<0)
  (hanti: ∀x∈l,∀y∈l,¬cf x y<0->¬cf y x<0->x=y) (hperm:new.Perm l) (hso:new.Pairwise λx y=> ¬cf y x<0) (hbt:qt P e=true:=by kernel_rfl):
  Den P k [.os 1000000 l.length,.fn g []] [.arr e K false (l.map F)] (.tup []) [] [.arr e K false (new.map F)]:=by
 refine⟨henter,λw V X gc T hS a9 U=> ?_⟩;have h0:fg [] [.arr e K false (l.map F)] 1000000=some (.arr e K false (l.map F)):=rfl;obtain⟨a2,ys,C,hsz,b9,a3⟩:=hS.box 1000000 _ h0;have C:=C.own (yl hbt);rw[b0x]at C
 obtain⟨v,v2,f4⟩: ∃v v2,T=[v,v2]:=by
  match T,a9 with
  |[v,v2],_=>exact⟨v,v2,rfl⟩
 subst f4;have hr:=U 0 v (.os 1000000 l.length) rfl rfl
 have hf:v2= .func (.func g) #[] #[]:=by
  obtain⟨vs,f1,hl,_⟩:=(U 1 v2 (.fn g []) rfl rfl).fn_inv;have:vs= #[]:=b5r Cg;rw[f1,this]
 subst hf;obtain⟨⟨a,c,f7⟩,e1,g1,g2,f8,k1,k2,k3⟩:=hr.os_arr h0;rw[h0]at k1
 cases k1
 have a4:v=X 1000000:=k3 Ad;rcases C.2 with ⟨d2,b7⟩|⟨b,cap,b3,hg,_,hh,hc,f6,g0,d3⟩
 .have hl:l=[]:=b0u Aa;subst hl;have A:new=[]:=hperm.eq_nil;subst A;have Q:v= .slice none 0 0:=by rw[a4,d2]
  have f:=hnone none 0 (.func (.func g) #[] #[]) w;rw[<-Q]at f;refine f.mono λen w'=> ?_;rintro⟨rfl,rfl⟩;exact⟨_,X,rfl,hS,.pure (.tup rfl λi u G=>by simp at G)⟩
 .have hlt:=(b03.1 hh).1;rcases b2i l.length with b7|g3
  .have hl:l=[]:=b0u b7;subst hl;have A:new=[]:=hperm.eq_nil;subst A;have Q:v= .slice (some ⟨b,0,none⟩) 0 cap:=by rw[a4,hg];rfl
   have f:=hnone (some ⟨b,0,none⟩) cap (.func (.func g) #[] #[]) w;rw[<-Q]at f;refine f.mono λen w'=> ?_;rintro⟨rfl,rfl⟩;exact⟨_,X,rfl,hS,.pure (.tup rfl λi u G=>by simp at G)⟩
  .obtain⟨m,hm⟩: ∃m,l.length=m+1:=⟨l.length - 1,Aa⟩;have e7:ys.length=(m+1)*K:=by rw[<-hm];exact C.1
   let enc:Fin (m+1)->List Value:=λi=>(List.range K).map λj=>ys.getD (i.1*K+j) Go.undef
   let gt:Fin (m+1)->α:=λi=>l[i.1]' Aa
   let cc:Fin (m+1)->Fin (m+1)->Int:=λi j=>cf (gt i) (gt j)
   have s: ∀i,gt i∈l:=λi=>b1g _
   have I: ∀i:Fin (m+1),(l.map F)[i.1]? =some (F (gt i)):=λi=>by
    rw[b0s,bq Aa];rfl
   have Y: ∀x,(enc x).length=K:=λx=>by simp[enc]
   have Z: ∀(i:Fin (m+1)) j,j<K->(enc i)[j]! =ys.getD (i.1*K+j) Go.undef:=λi j O=>by simp[enc,O]
   have L: ∀i,(F (gt i)).length=K:=λi=>hsz _ (b0e (I i));have M: ∀(i:Fin (m+1)) j u,(F (gt i))[j]? =some u->RP (env (cx (P:=P) w V X [.arr e K false (l.map F)] gc) (fg [] [.arr e K false (l.map F)]) X w).pc (ys.getD (i.1*K+j) Go.undef) u:=λi j u G=>a3 i.1 _ j u (I i) G
   have b5: ∀x,∀v∈enc x,v.oneCell'=true:=λx v e0=>by
    obtain⟨j,O,rfl⟩:=b0z.1 e0;have R:j<(F (gt x)).length:=by rw[L];exact b2k.1 O
    refine bp2 (M x j _ (bq R)) ?_;exact b06.1 (b9 _ (b0e (I x))) _ (b1g _)
   let d:Array (Fin (m+1)):=(List.finRange (m+1)).toArray
   have ds:d.size=m+1:=Bi
   have dg: ∀t,t<(m+1)*K->(d[t/K]!).1=t/K:=λt J=>by
    have:t/K<m+1:=(b69 a2).2 J;have c7:t/K<d.size:=Aa
    rw[b3m d _ c7];simp[d]
   have hH:HoldsK enc K w b 0 d:=by
    intro t J;rw[size_flatK,ds]at J;have b4:t % K<K:=b6m _ a2;have e8:t/K*K+t % K=t:=by rw[b3a];exact b5a t K
    rw[get_flatK _ _ _ _ (by rw[ds];exact J),Z _ _ b4,dg t J,e8]
    have g4:t<b3.size:=by
     have:=b08 K hc;rw[hm]at this;omega
    have e2:(b3.toList.take (l.length*K))[t]? =ys[t]?:=by rw[d3]
    rw[b04,if_pos (by rw[hm];exact J),b3x]at e2;refine⟨?_,by simp[World.frozen?,hh]⟩;simp only[World.cell?,hh,b1w,Option.isSome_none,b12,b25,id];rw[e2,bd,bq Aa,b1o]
   have hO:SWO (ltOf cc):=by
    refine⟨λx=> ?_,λx y z h1 H=> ?_,λx y z h1 H=> ?_⟩
    .simp only[ltOf,b1d];exact hirr _ (s x)
    .simp only[ltOf,b01]at h1 H ⊢;exact htr _ (s x) _ (s y) _ (s z) h1 H
    .simp only[ltOf,b1d]at h1 H ⊢;exact hnt _ (s x) _ (s y) _ (s z) h1 H
   have hE: ∀bb,(cx (P:=P) w V X [.arr e K false (l.map F)] gc).E bb->bb=b:=by
    rintro bb ⟨n,B,hB,hb⟩
    have:n=1000000:=by
     unfold fg at hB;by_cases h1:n<1000000
     .simp[h1]at hB
     .simp only[if_neg h1]at hB
      cases hk:n - 1000000 with
      |zero=>omega
      |succ q=>rw[hk]at hB;simp at hB
    subst this;rw[hg]at hb
    cases hb
    rfl
   have d0:(cx (P:=P) w V X [.arr e K false (l.map F)] gc).E b:=⟨1000000,_,h0,by rw[hg];rfl⟩
   have hcmp:CmpLays P g #[] enc K cc b 0 d.size w:=by
    intro q os dk g5 x y
    have hL:Laid P (sortWorldK enc K w b 0 q dk os):=hS.tabs _ λbb o hb=>by
     have a1:=hS.glb bb o hb;have N:bb<w.heap.size:=(b03.1 a1.1).1;unfold sortWorldK putRowK;rw[ab5 N (λe=>a1.2 (by rw[e];exact d0))];exact a1.1
    have f2:=D _ (s x) _ (s y)
    have b1: ∀i:Fin (m+1),RP (λa z=>(sortWorldK enc K w b 0 q dk os).cell? a=some z/\True) (.agg (enc i).toArray) (.agg (F (gt i))):=λi=>by
     refine .agg (by simp[Y,L]) λj u G=> ?_
     have O:j<K:=by
      have:=(dm.1 G).1;rw[L]at this;exact this
     have e3:(enc i).toArray.getD j Go.undef=ys.getD (i.1*K+j) Go.undef:=by
      simp[Array.getD,enc,O]
     rw[e3];refine RP.mono (λa z ha=>⟨?_,trivial⟩) (M i j u G);have c6:a.block≠b:=λe=>ha.2.2 1000000 _ h0 (by rw[hg,e];rfl);have N:=block_lt_of_cell ha.1;refine(b2y ?_).trans ha.1;unfold sortWorldK putRowK;exact ab5 N c6
    have f:=vq f2 (sortWorldK enc K w b 0 q dk os) hL (λ_=>True) [.agg (enc x).toArray,.agg (enc y).toArray] rfl (by
     intro i v u r G
     match i with
     |0=>cases r;cases G;exact b1 x
     |1=>cases r;cases G;exact b1 y
     |i+2=>simp at r)
    refine(a8z f).mono λen w'=> ?_;rintro⟨⟨v,rfl,a0,E,c2,_⟩,a6⟩
    have hd:(sortWorldK enc K w b 0 q dk os).drawn<=w'.drawn:=by
     rcases a6 with h|h
     .cases h
     .exact h
    refine⟨by rw[c2.int_inv],w'.drawn - (sortWorldK enc K w b 0 q dk os).drawn,w'.heap.extract (sortWorldK enc K w b 0 q dk os).heap.size w'.heap.size,?_⟩;generalize sortWorldK enc K w b 0 q dk os=W at a0 hd
    have e4:w'.heap=W.heap++w'.heap.extract W.heap.size w'.heap.size:=by
     apply Array.ext_getElem?;intro t;by_cases J:t<W.heap.size
     .rw[b23 J];exact a0.block t J Ad
     .rw[Array.getElem?_append_right Aa];by_cases c5:t<w'.heap.size
      .rw[b11 c5,b11 Ag];simp only[Array.getElem_extract];congr 2;omega
      .rw[b36 Aa,b36 Ag]
    cases w' with
    |mk hp tp dr ox ou=>
     obtain⟨h1,H,h3,h4,h5⟩:=a0;simp only at h1 H h3 e4 hd;simp only[grow,World.drewN];rw[<-h1,<-H,<-h3,<-e4];congr 1;omega
   have b2:d.size<4611686018427387904:=by
    rw[ds,<-hm];exact hll
   have f:=hsort m enc Y b5 cc hO b cap d w hcmp hH hlt b2;have f0:v= .slice (some ⟨b,0,none⟩) d.size cap:=by rw[a4,hg,ds,hm]
   rw[<-f0]at f;refine f.mono λen w'=> ?_;rintro⟨rfl,d',q,os,S,d4,rfl⟩
   have d1:d'.toList.Perm (List.finRange (m+1)):=by
    have H:=S.2.2;have e5:d'.extract 0 d.size=d':=by rw[<-S.1];exact b75
    rw[e5,b75]at H;simpa [d] using H
   have b6:(List.finRange (m+1)).map gt=l:=by
    apply b38 Dg;intro i h1 H;simp[gt]
   have c0:(d'.toList.map gt).Perm l:=by
    have:=d1.map gt
    rwa [b6]at this
   have f5:(d'.toList.map gt).Pairwise λx y=> ¬cf y x<0:=by
    rw[b4f,b1i];intro i j r O c1;have e9:i<d'.size:=by simpa using r
    have R:j<d'.size:=by simpa using O
    have:=d4 i j (b0k _) c1 (by rw[<-S.1];exact R);rw[b3m d' j R,b3m d' i e9]at this;simpa [ltOf,cc] using this
   have A:d'.toList.map gt=new:=by
    refine b47 (le:=λx y=> ¬cf y x<0) (λx y hx hy h1 H=> ?_) f5 hso (c0.trans hperm.symm);have f3:x∈l:=c0.mem_iff.1 hx;have c3:y∈l:=hperm.mem_iff.1 hy;exact hanti x f3 y c3 H h1
   have a7:d'.size=m+1:=S.1.trans ds;have b8:new.length=l.length:=hperm.length_eq
   have a5: ∀i x,(new.map F)[i]? =some x->∃r:i<d'.size,x=F (gt (d'[i]'r)):=λi x hx=>by
    rw[b0s,<-A,b0s,b3x]at hx;rcases b5u i d'.size with r|r
    .rw[b11 r]at hx;exact⟨r,by simpa using hx.symm⟩
    .rw[b36 r]at hx;simp at hx
   refine⟨_,X,rfl,?_,.pure (.tup rfl λi u G=>by simp at G)⟩;refine bky false hS (by rw[hg,b0x]) (by simp[b8]) (by rw[size_flatK,a7,b0x,b8,hm]) (λx hx=> ?_) (λx hx=> ?_) hbt λi x j u hx G=> ?_
   .obtain⟨i,r⟩:=b2v.1 hx;obtain⟨h1,rfl⟩:=a5 i x r;exact L _
   .obtain⟨i,r⟩:=b2v.1 hx;obtain⟨h1,rfl⟩:=a5 i x r;exact b9 _ (b0e (I _))
   .obtain⟨r,rfl⟩:=a5 i x hx
    have O:j<K:=by
     have:=(dm.1 G).1;rw[L]at this;exact this
    have J:i*K+j<d'.size*K:=by
     have:=b08 K (show i+1<=d'.size from r);rw[b2a,b7t]at this;omega
    have q1:(i*K+j)/K=i:=by rw[b3a,Nat.mul_add_div a2,Nat.div_eq_of_lt O,b13]
    have q2:(i*K+j) % K=j:=by rw[b3a,b57,b3y O]
    have e6:(flatK enc K d').toList.getD (i*K+j) Go.undef=ys.getD ((d'[i]'r).1*K+j) Go.undef:=by
     have:=get_flatK enc K d' (i*K+j) J;rw[q1,q2,b3m d' i r,Z _ _ O,b3m _ _ (by rw[size_flatK];exact J)]at this;rw[bd,b3x,b11 (by rw[size_flatK];exact J),b1o,this]
    rw[e6];exact M _ j u G
theorem a3s(l:List Pn)(h:(l.flatMap pnB).length<=100000000):DN 308 [.vs (l.map pn)] (.bool (decide (aj (a9e l)=0))):=by refine ag_ func308 ntmps308 results308 ?_;have a:=akr (a9e l) (a5w (x:=⟨[],l⟩) ⟨Ad,h⟩);rw[show sm (a9e l)=[.int .i64 0,.int .i64 0,.str [],.int .i64 0,.int .i64 10,.int .i64 0,.int .i64 0,.int .i64 0,.vs [],.vs (l.map pn),.str [],.int .i64 0,.str []] from rfl]at a;simp only[go_sem];refine Qq a [] ?_;simp only[go_sem]
def bmu(kd:Int):Int:=if kd=1 then 4294967295 else 1
def cnt(kd:Int):Int:=if kd=1 then 2 else 1
def atg(kd:Int)(l:LI):Bool:=l.all λn=>decide (0<=n/\n<=bmu kd)
theorem ar0(kd:Int)(l:LI):(atg kd l&&decide ((l.length:Int)=cnt kd))=axp kd l:=by rw[b3s];unfold atg axp bmu cnt;by_cases d:kd=1;{simp only[d,b4i];match l with|[]=>simp|[a]=>simp|[a,b]=>simp[el];omega|a::b::c::r=>simp;intros;omega};.simp only[d,b25];match l with|[]=>simp|[a]=>simp[el];omega|a::b::r=>simp;intros;omega
theorem xd{l:LI}{p:Int->Bool}{n:Int}(a:n∈l)(h:p n=false):l.all p=false:=by rw[List.all_eq_false];exact⟨n,a,Ev⟩
theorem axu(c:Cs)(x:Ct)(hx:aaf x):DN 252 [.agg (cs c),.agg (ct x)] (.bool (kr c x)):=by refine ag_ func252 ntmps252 results252 ?_;have t:=ao9 c;rw[dh]at t;have w:=hx.1;simp only[go_sem];refine Qq t [] ?_;cases a1:gg c;{simp only[go_sem];simp[kr,a1]};simp only[go_sem];refine Qq (a3s x.pi hx.2) [] ?_;by_cases l:aj (a9e x.pi)=0;rotate_left;{simp only[go_sem,l];simp[kr,a1,l]};have s:kr c x=(atg c.kd x.li&&decide ((x.li.length:Int)=cnt c.kd)):=(by rw[ar0];simp[kr,a1,l]);rw[s];have q:(c.kd=1/\bmu c.kd=4294967295/\cnt c.kd=2)\/(¬c.kd=1/\bmu c.kd=1/\cnt c.kd=1):=(by unfold bmu cnt;by_cases h:c.kd=1<;>simp[h]);have k:atg c.kd x.li=x.li.all λn=>decide (0<=n/\n<=bmu c.kd):=rfl;rw[k];clear k s;rcases q with ⟨m,p,r⟩|⟨m,p,r⟩;{rw[p,r];simp only[go_sem,l,m];refine lo_ 0 (λi:Nat=>[(3,.ptr 3 0),(5,.int .i64 2),(6,.int .i64 4294967295),(22,.vs (x.li.map i1)),(23,.int .i64 x.li.length),(24,.int .i64 i)]) (λ_=>[(3,.cells [.vs (x.li.map i1),.vs (x.pi.map pn)])]) (λi=>i<=x.li.length/\∀j,j<i->0<=el x.li j/\el x.li j<=4294967295) (λi=>x.li.length - i) ⟨b0k _,λj d=>Aa⟩ ?_ ?_;{simp only[go_sem]};rintro i ⟨u,b⟩;by_cases a:i<x.li.length;{have h1:(i:Int)<(x.li.length:Int):=Aa;by_cases g:el x.li i<0;{simp only[go_sem,h1,a,g];rw[xd (cr a) Ag];rfl};by_cases v:el x.li i<=4294967295;rotate_left;{have e:4294967295<el x.li i:=Aa;simp only[go_sem,h1,a,g,e];rw[xd (cr a) Ag];rfl};have e: ¬4294967295<el x.li i:=Aa;simp only[go_sem,h1,a,g,e];refine⟨i+1,⟨⟨Aa,λj d=> ?_⟩,Aa⟩,?_⟩;{rcases b1m.1 d with h|h;{exact b j h};.rw[h];omega};.rw[ah]<;>omega};.have h1: ¬(i:Int)<(x.li.length:Int):=Aa;have f:(x.li.all λn=>decide (0<=n/\n<=4294967295))=true:=(by rw[b06];intro n o;obtain⟨j,d,rfl⟩:=b1f.1 o;have:=b j Aa;simp only[el,bd,bq d,b1o]at this;simpa using this);simp only[go_sem,h1];rw[f];simp};.rw[p,r];simp only[go_sem,l,m];refine lo_ 0 (λi:Nat=>[(3,.ptr 3 0),(5,.int .i64 1),(6,.int .i64 1),(22,.vs (x.li.map i1)),(23,.int .i64 x.li.length),(24,.int .i64 i)]) (λ_=>[(3,.cells [.vs (x.li.map i1),.vs (x.pi.map pn)])]) (λi=>i<=x.li.length/\∀j,j<i->0<=el x.li j/\el x.li j<=1) (λi=>x.li.length - i) ⟨b0k _,λj d=>Aa⟩ ?_ ?_;{simp only[go_sem]};rintro i ⟨u,b⟩;by_cases a:i<x.li.length;{have h1:(i:Int)<(x.li.length:Int):=Aa;by_cases g:el x.li i<0;{simp only[go_sem,h1,a,g];rw[xd (cr a) Ag];rfl};by_cases v:el x.li i<=1;rotate_left;{have e:1<el x.li i:=Aa;simp only[go_sem,h1,a,g,e];rw[xd (cr a) Ag];rfl};have e: ¬1<el x.li i:=Aa;simp only[go_sem,h1,a,g,e];refine⟨i+1,⟨⟨Aa,λj d=> ?_⟩,Aa⟩,?_⟩;{rcases b1m.1 d with h|h;{exact b j h};.rw[h];omega};.rw[ah]<;>omega};.have h1: ¬(i:Int)<(x.li.length:Int):=Aa;have f:(x.li.all λn=>decide (0<=n/\n<=1))=true:=(by rw[b06];intro n o;obtain⟨j,d,rfl⟩:=b1f.1 o;have:=b j Aa;simp only[el,bd,bq d,b1o]at this;simpa using this);simp only[go_sem,h1];rw[f];simp
def noV:Vt:=⟨0,⟨0,0,0,0⟩,⟨[],[]⟩⟩
def mkV(s:Stm):Vt:=⟨s.au,⟨s.a,s.b.tmod 16,s.c,s.b.tdiv 16⟩,⟨s.li,s.pins⟩⟩
def ofE(s:Stm):Vt×Int:=if aj s≠0 then(noV,aj s)else if s.kd=10/\s.body=[]/\kr (mkV s).c (mkV s).x=true then(mkV s,0)else(noV,42)
theorem mq(c:aj s=0):s.li.length<=64/\s.pins.length<=64/\l6 s.pins=true/\lz s.b=true:=by unfold aj at c;(repeat' split at c);(all_goals (try (omega;done)));rename_i f g i d a e;refine⟨?_,?_,?_,?_⟩;{simp at a;omega};{simp at a;omega};{cases h:l6 s.pins;{simp[h]at e};.rfl};.cases h:lz s.b;{simp[h]at d};.rfl
theorem akl(e:aj s=0):aaf ⟨s.li,s.pins⟩:=by obtain⟨k,o,g,_⟩:=mq e;refine⟨Ah,?_⟩;have c:=b0g g;have f: ∀p∈s.pins,(pnB p).length<=56:=λp a=>(by obtain⟨i,b,rfl⟩:=b1f.1 a;have:=c i b;simp only[n5,el,bd,bq b,b1o,b0l,b01]at this;have n:=this.2;simp only[pnB,b0a,ax,fk];omega);have j: ∀l:List Pn,(∀p∈l,(pnB p).length<=56)->(l.flatMap pnB).length<=56*l.length:=λl=>(by induction l with|nil=>simp|cons p l ih=>intro h;have m:=h p Ad;have r:=ih λq d=>h q Bi;simp only[b2m,b0a,b0q];omega);have:=j s.pins f;simp only;omega
theorem ot(a:aj s=0):okS s:=by have c:=akl a;have f:s.prev.length<=32/\s.body.length<=4096/\s.li.length<=64/\s.pins.length<=64:=(by unfold aj at a;(repeat' split at a);(all_goals (try (omega;done)));rename_i c f e d g b;have h:s.prev.length<=32:=(by simp only[b1v,b0l,b01,not_or,b6z,inB,b2c,b1d,b79,not_and]at d b;have i:=d.1.1.1.1.1;by_cases h0:s.nu=0;{have:=b.1.1.1 h0;rw[this];simp};.have:=b.1.1.2 Aa;omega);simp at g;exact⟨h,Aa⟩);have e:=c.2;simp only at e;simp only[okS,stB,ut,aax,hdB,b0a,d5,ax,fk,l5,b0q,b0r];omega
theorem a3d(s:Stm)(hs:om s):DN 182 [.agg (sm s)] (.tup [.agg (vt7 (ofE s).1),.int .i64 (ofE s).2]):=by refine ag_ func182 ntmps182 results182 ?_;have k:=yp s hs;generalize f:ofE s=r;rw[sm]at k ⊢;simp only[go_sem];refine Qq k [] ?_;by_cases a:aj s=0;rotate_left;{have:r=(noV,aj s):=(by rw[<-f,ofE,if_pos a]);subst this;simp only[go_sem,a,noV]};have hx:=akl a;have j:=akv ⟨s.li,s.pins⟩ hx;rw[kn]at j;simp only at j;have c4:=axu (mkV s).c (mkV s).x hx;rw[dh,kn]at c4;simp only[mkV]at c4;have g: ¬aj s≠0:=λh=>h a;have l:IntKind.i64.wrap (s.b.tdiv 16)=s.b.tdiv 16:=(by have m:=(mq a).2.2.2;simp only[lz,inB,b0l,b01]at m;have n:s.b.tdiv 16=s.b/16:=b2l Aa;rw[ah]<;>omega);simp only[go_sem,a];refine Qq j [] ?_;by_cases e:s.kd=10;rotate_left;{have:r=(noV,42):=(by rw[<-f,ofE,if_neg g,if_neg (λh=>e h.1)]);subst this;simp only[go_sem,e,noV];exact ok_};by_cases i:s.body=[];rotate_left;{have:r=(noV,42):=(by rw[<-f,ofE,if_neg g,if_neg (λh=>i h.2.1)]);subst this;simp only[go_sem,e,i,noV];exact ok_};simp only[go_sem,e,i];refine⟨ok_,?_⟩;refine Qq c4 [] ?_;by_cases d:kr (mkV s).c (mkV s).x=true;{have:r=(mkV s,0):=(by rw[<-f,ofE,if_neg g,if_pos ⟨e,i,d⟩]);subst this;simp only[mkV]at d;simp only[go_sem,d,mkV,l]};.have:r=(noV,42):=(by rw[<-f,ofE,if_neg g,if_neg (λh=>d h.2.2)]);subst this;simp only[mkV,b6z]at d;simp only[go_sem,d,noV,l]
def eh(s:Stm):Vt×Bool:=((ofE s).1,decide ((ofE s).2=0)&&decide (s.sk=s.au/\s.sd=dig s))
theorem a10(h:(ofE s).2=0):okS s:=by refine ot ?_;unfold ofE at h;split at h;{rename_i h1;exact absurd h h1};.rename_i h1;exact b79.1 h1
theorem aka(s:Stm)(hs:om s):DN 133 [.agg (sm s)] (.tup [.agg (vt7 (eh s).1),.bool (eh s).2]):=by refine ag_ func133 ntmps133 results133 ?_;have b:=a3d s hs;have c:=λh:(ofE s).2=0=>yj s (a10 h);generalize d:eh s=r;rw[sm]at b c ⊢;simp only[go_sem];refine Qq b [] ?_;by_cases a:(ofE s).2=0;{simp only[go_sem,a];refine Qq (c a) [] ?_;simp only[go_sem];refine⟨ok_,?_⟩;rw[<-d];exact⟨⟨rfl,rfl,rfl,rfl,rfl,rfl,rfl⟩,Gc⟩};.simp only[go_sem,a];refine⟨ok_,?_⟩;rw[<-d];exact⟨⟨rfl,rfl,rfl,rfl,rfl,rfl,rfl⟩,Gc⟩
def uu(a b:Vt):Int:=or2 (ic a.k b.k) (nc a.x b.x)
theorem aum(a b:Vt)(d:qg a.x)(c:qg b.x):DN 193 [.agg (vt7 a),.agg (vt7 b)] (.int .i64 (uu a b)):=by refine ag_ func193 ntmps193 results193 ?_;simp only[go_sem];refine Qq (fx a.k b.k) [] ?_;simp only[go_sem];refine Qq (sq a.x b.x d.1 d.2 c.1 c.2) [] ?_;simp only[go_sem];refine Qq (acq [ic a.k b.k,nc a.x b.x] Ap) [] ?_;simp only[go_sem];refine⟨ok_,?_⟩;simp only[orL,uu,or2];(repeat' split);all_goals simp_all
theorem aqo(a b:Vt)(d:qg a.x)(c:qg b.x):Den prog 196 [.agg (vt7 a),.agg (vt7 b),.ptr 1000000 0] [.cells [.fn 193 []]] (.bool (decide (uu a b=0))) [] [.cells [.fn 193 []]]:=by refine ah_ [] [1000000] func196 ntmps196 results196 ?_;simp only[go_sem];refine Qq (aum a b d c) [] ?_;simp only[go_sem]
theorem alb(l:List Vt)(h:big l.length)(e: ∀a∈l,qg a.x)(hd: ∀i,0<i->i<l.length->uu (el l i) (el l (i - 1))≠0):
  Den prog 195 [.os 1000000 l.length,.fn 196 [.ptr 1000001 0]] [.arr 195 7 false (l.map vt7),.cells [.fn 193 []]] (.os 1000000 l.length) [] [.arr 195 7 false (l.map vt7),.cells [.fn 193 []]]:=by refine ah_ [] [1000000,1000001] func195 ntmps195 results195 ?_;by_cases d:(l.length:Int)<2;{simp only[go_sem,d]};simp only[go_sem,d];refine lo_ 1 (λi:Nat=>[(0,.os 1000000 l.length),(1,.fn 196 [.ptr 1000001 0]),(5,.int .i64 i)]) (λ_=>[(1000000,.arr 195 7 false (l.map vt7)),(1000001,.cells [.fn 193 []])]) (λi=>1<=i/\i<=l.length) (λi=>l.length - i) ⟨b0f _,Aa⟩ ?_ ?_;{simp only[go_sem]};.rintro i ⟨hi0,hi⟩;by_cases b:i<l.length;{have h1:(i:Int)<(l.length:Int):=Aa;obtain⟨j,rfl⟩: ∃j,i=j+1:=⟨i - 1,Aa⟩;have g:IntKind.i64.wrap (((j+1:Nat):Int) - 1)=(j:Int):=Ab;have f:j<l.length:=Aa;simp only[go_sem,h1,b,g,f];have c:=hd (j+1) Aa b;rw[b1z]at c;refine Qq (aqo (el l (j+1)) (el l j) (e _ (cr b)) (e _ (cr f))) [1000001] ?_;simp only[go_sem,c];refine⟨ok_,j+1+1,⟨Aa,Aa⟩,?_⟩;rw[ah]<;>omega};.have h1: ¬(i:Int)<(l.length:Int):=Aa;simp only[go_sem,h1]
def okV(c:Cs)(s:Stm):Bool:=(eh s).2&&decide ((eh s).1.c=c)
def aef(l:LS)(c:Cs)(i:Nat):List Vt:=((l.take i).filter (okV c)).map λs=>(eh s).1
theorem alo{l:LS}{c:Cs}(h:i<l.length):aef l c (i+1)=aef l c i++if okV c (el l i)then [(eh (el l i)).1]else []:=by simp only[aef,bt h,b2p,b0d,b27,b2t];split<;>rfl
theorem avn(l:LS)(c:Cs)(i:Nat):(aef l c i).length<=l.length:=by simp only[aef,b0x];refine b1l (b05 _ _) ?_;simp;omega
theorem aau:aaf (eh s).1.x:=by have h0:aaf noV.x:=⟨B8,B8⟩;simp only[eh,ofE];split;{exact h0};.rename_i h;split;{exact akl An};.exact h0
structure TO{α:Type}(f:α->α->Int):Prop where
 eq: ∀x y,f x y=0↔x=y
 flip: ∀x y,f x y<0↔0<f y x
 tr: ∀x y z,f x y<0->f y z<0->f x z<0
theorem TO.self{f:α->α->Int}(h:TO f)(x:α):f x x=0:=(h.eq x x).2 rfl
theorem TO.irr{f:α->α->Int}(h:TO f)(x:α): ¬f x x<0:=by rw[h.self];omega
theorem TO.nt{f:α->α->Int}(h:TO f)(x y z:α)(c: ¬f x y<0)(b: ¬f y z<0): ¬f x z<0:=by intro a;by_cases e:f x y=0;{rw[(h.eq x y).1 e]at a;exact b a};.by_cases e2:f y z=0;{rw[<-(h.eq y z).1 e2]at a;exact c a};.have a1:f y x<0:=(h.flip y x).2 Aa;have d:=h.tr y x z a1 a;exact b d
theorem pv:TO ic:=by refine⟨ap3,λx y=> ?_,λx y z=> ?_⟩;{unfold ic;repeat' split<;>omega};.unfold ic;repeat' split<;>omega
theorem atz:TO Lib.compareBytes:=by refine⟨ir,?_,?_⟩;{intro x;induction x with|nil=>intro y;cases y<;>simp[Lib.compareBytes]|cons a r ih=>intro y;cases y with|nil=>simp[Lib.compareBytes]|cons b s=>simp only[Lib.compareBytes];by_cases e:a<b;{have d: ¬b<a:=λh=>b7f _ (UInt8.lt_trans e h);simp[e,d]};.by_cases d:b<a;{simp[e,d]};.simp[e,d,ih s]};.intro x;induction x with|nil=>intro y z;cases y<;>cases z<;>simp[Lib.compareBytes]|cons a r ih=>intro y z e d;cases y with|nil=>simp[Lib.compareBytes]at e|cons b s=>cases z with|nil=>simp[Lib.compareBytes]at d|cons c t=>simp only[Lib.compareBytes]at e d ⊢;by_cases g:a<b;{by_cases f:b<c;{rw[if_pos (UInt8.lt_trans g f)];omega};.rw[if_neg f]at d;by_cases cb:c<b;{rw[if_pos cb]at d;omega};.have:b=c:=b4w (b4b.1 cb) (b4b.1 f);subst this;rw[if_pos g];omega};.rw[if_neg g]at e;by_cases i:b<a;{rw[if_pos i]at e;omega};.have:a=b:=b4w (b4b.1 i) (b4b.1 g);subst this;rw[if_neg i]at e;by_cases f:a<c;{rw[if_pos f];omega};.rw[if_neg f]at d ⊢;by_cases cb:c<a;{rw[if_pos cb]at d;omega};.rw[if_neg cb]at d ⊢;exact ih s t e d
theorem boo{γ:Type}{f:β->β->Int}{g:γ->γ->Int}(d:TO f)(l:TO g)(a:α->β)(b:α->γ)(hi: ∀x y,a x=a y->b x=b y->x=y):TO (λx y=>or2 (f (a x) (a y)) (g (b x) (b y))):=by refine⟨λx y=> ?_,λx y=> ?_,λx y z=> ?_⟩;{rw[a1n,d.eq,l.eq];exact⟨λh=>hi x y h.1 h.2,λh=>by rw[h];exact⟨rfl,rfl⟩⟩};{have h1:=d.flip (a x) (a y);have c:=l.flip (b x) (b y);have j:f (a x) (a y)=0↔f (a y) (a x)=0:=(by rw[d.eq,d.eq];exact⟨Eq.symm,Eq.symm⟩);unfold or2;by_cases e:f (a x) (a y)=0;{rw[if_pos e,if_pos (j.1 e)];exact c};.rw[if_neg e,if_neg (λh=>e (j.2 h))];exact h1};.intro h1 c;unfold or2 at h1 c ⊢;by_cases k:f (a x) (a y)=0;{rw[if_pos k]at h1;have m:=(d.eq _ _).1 k;rw[m];by_cases i:f (a y) (a z)=0;{rw[if_pos i]at c ⊢;exact l.tr _ _ _ h1 c};.rw[if_neg i]at c ⊢;exact c};.rw[if_neg k]at h1;by_cases i:f (a y) (a z)=0;{rw[<-(d.eq _ _).1 i,if_neg k];exact h1};.rw[if_neg i]at c;have j:=d.tr _ _ _ h1 c;rw[if_neg Aa];exact j
theorem a5b{f:β->β->Int}(b:TO f)(a:α->β)(hi: ∀x y,a x=a y->x=y):TO (λx y=>f (a x) (a y)):=
 ⟨λx y=>by rw[b.eq];exact⟨hi x y,λh=>by rw[h]⟩,λx y=>b.flip _ _,λx y z=>b.tr _ _ _⟩
theorem q8{γ:Type}{f:β->β->Int}{g:γ->γ->Int}(d:TO f)(a:TO g):TO (λp q:β×γ=>or2 (f p.1 q.1) (g p.2 q.2)):=
 boo d a (·.1) (·.2) λx y b c=>Prod.ext b c
theorem bmb:TO aaz:=a5b (q8 pv (q8 pv atz)) (λp:Pn=>(p.au,(p.he,p.di))) λx y h=>by
 cases x
 cases y
 simpa using h
theorem a5u{f:α->α->Int}(i:TO f):TO (ue f):=by refine⟨aiy f i.eq,?_,?_⟩;{intro x;induction x with|nil=>intro y;cases y<;>simp[ue]|cons a r ih=>intro y;cases y with|nil=>simp[ue]|cons b s=>have k:f a b=0↔f b a=0:=(by rw[i.eq,i.eq];exact⟨Eq.symm,Eq.symm⟩);simp only[ue];by_cases e:f a b=0;{rw[if_pos e,if_pos (k.1 e)];exact ih s};.rw[if_neg e,if_neg (λh=>e (k.2 h))];exact i.flip a b};.intro x;induction x with|nil=>intro y z;cases y<;>cases z<;>simp[ue];all_goals (intro h;omega)|cons a r ih=>intro y z g d;cases y with|nil=>simp[ue]at g|cons b s=>cases z with|nil=>simp[ue]at d|cons c t=>simp only[ue]at g d ⊢;by_cases l:f a b=0;{rw[if_pos l]at g;have m:=(i.eq _ _).1 l;subst m;by_cases j:f a c=0;{rw[if_pos j]at d ⊢;exact ih s t g d};.rw[if_neg j]at d ⊢;exact d};.rw[if_neg l]at g;by_cases j:f b c=0;{rw[<-(i.eq _ _).1 j,if_neg l];exact g};.rw[if_neg j]at d;have k:=i.tr _ _ _ g d;rw[if_neg Aa];exact k
theorem to_ordC:TO nc:=a5b (q8 (a5u pv) (a5u bmb)) (λx:Ct=>(x.li,x.pi)) λx y h=>by
 cases x
 cases y
 simpa using h
def nk(l:LI):LI:=a9c (srt l)
def aeo(i j:Nat):List Gp->List LP
 |[]=>[]
 |g::r=>[.vs (g.1.li.map i1),.vs (g.1.pi.map pn),if j<i then .vs ((nk g.2).map i1)else .os (j+500) g.2.length]::aeo i (j+1) r
theorem alx: ∀(G:List Gp) (j:Nat),aeo 0 j G=zg j G
 |[],_=>rfl
 |a::G,j=>by simp[aeo,zg,alx G (j+1)]
theorem auo(i:Nat): ∀(G:List Gp) (j:Nat),(aeo i j G).length=G.length
 |[],_=>rfl
 |a::G,j=>by simp[aeo,auo i G (j+1)]
theorem a35(i:Nat): ∀(G:List Gp) (j k:Nat),k<G.length->dq (aeo i j G) k=[.vs ((el G k).1.li.map i1),.vs ((el G k).1.pi.map pn),if j+k<i then .vs ((nk (el G k).2).map i1)else .os (j+k+500) (el G k).2.length]
 |[],j,k,h=>by simp at h
 |a::G,j,0,_=>rfl
 |a::G,j,k+1,hk=>by
  have:=a35 i G (j+1) k Ay;rw[show j+1+k=j+(k+1) from Aa]at this;exact this
theorem ani(i:Nat): ∀(G:List Gp) (j k:Nat),k<G.length->j+k=i->(aeo i j G).set k [.vs ((el G k).1.li.map i1),.vs ((el G k).1.pi.map pn),.vs ((nk (el G k).2).map i1)]=aeo (i+1) j G
 |[],j,k,h,_=>by simp at h
 |a::G,j,0,_,h=>by
  have h1:j<i+1:=Aa
  have f: ¬j<i:=Aa
  have c: ∀(G:List Gp) (d:Nat),i+1<=d->aeo i d G=aeo (i+1) d G:=by
   intro G
   induction G with
   |nil=>intro d _;rfl
   |cons b G e=>
    intro d g;simp only[aeo,e (d+1) Aa];rw[if_neg Aa,if_neg Aa]
  simp only[aeo,b74,if_pos h1,c G (j+1) Aa]
  rfl
 |a::G,j,k+1,hk,h=>by
  have e:=ani i G (j+1) k Ay Aa;have h1:j<i:=Aa
  have f:j<i+1:=Aa
  simp only[aeo,b6f,if_pos h1,if_pos f];rw[<-e];rfl
def awy(g:Gp):Cn:=⟨g.1,nk g.2⟩
theorem at1(n:Nat): ∀(G:List Gp) (j:Nat),j+G.length<=n->aeo n j G=(G.map awy).map cn3
 |[],_,_=>rfl
 |a::G,j,h=>by
  have ih:=at1 n G (j+1) F6;have h1:j<n:=F6
  simp only[aeo,if_pos h1,ih,b07,awy,cn3]
def dSt(G:List Gp)(i:Nat):ASt:=(99,.arh 207 3 (aeo i 0 G))::grp (500+i) (aay (G.drop i))
def dFr(n i:Nat):AFr:=[(5,.os 99 n),(63,.int .i64 n),(64,.int .i64 i)]
theorem an7{σ:ASt}: ∀L:List Cn,l7 σ (L.map cn3)=some (L.map cn3,[])
 |[]=>rfl
 |n::L=>by
  have ih:=an7 (σ:=σ) L;simp only[b07,l7,ih];rfl
theorem axc(a b:Cn)(d:qg a.x)(c:qg b.x):DN 192 [.agg (cn3 a),.agg (cn3 b)] (.int .i64 (nc a.x b.x)):=by refine ag_ func192 ntmps192 results192 ?_;simp only[go_sem];refine Qq (sq a.x b.x d.1 d.2 c.1 c.2) [] ?_;simp only[go_sem]
def bqs(l:List Cn):List Cn:=l.mergeSort λa b=> !decide (nc b.x a.x<0)
theorem av4(l:List Cn)(B:l.length<4611686018427387904)(s: ∀n∈l,qg n.x)(hd: ∀a∈l,∀b∈l,a.x=b.x->a=b):
  Den prog 191 [.os 1000000 l.length,.fn 192 []] [.arr 207 3 false (l.map cn3)] (.tup []) [] [.arr 207 3 false ((bqs l).map cn3)]:=by refine aa8 (F:=cn3) (cf:=λa b=>nc a.x b.x) (enters_of func191 Ae rfl) B (λm q v g c t b f d w j A i o=>AnyQ.slices_SortFunc Tryz.sortCount 3 (λ_=>Ae) (λ_=>Ae) q v g c t _ _ b 0 f d w (enters_of func192 Ae rfl) j A i o) (λp f u w=>AnyF.slices_SortFunc_none Tryz.sortCount p f u w) (λx hx y r=>axc x y (s x hx) (s y r)) (λx _=>to_ordC.irr x.x) (λx _ y _ z _=>to_ordC.tr x.x y.x z.x) (λx _ y _ z _=>to_ordC.nt x.x y.x z.x) (λx hx y r g k=>hd x hx y r ?_) (b2e _ _) ?_;{by_cases e:nc x.x y.x=0;{exact(n7 _ _).1 e};.have:=(to_ordC.flip y.x x.x).2 Aa;exact absurd this k};.have:=b2w (le:=λa b:Cn=> !decide (nc b.x a.x<0)) (λa b c g k=> ?_) (λa b=> ?_) l;{exact this.imp λh=>An};{simp only[b2c,b1d]at g k ⊢;exact to_ordC.nt c.x b.x a.x k g};.simp only[b1v,b2c,b1d];by_cases h:nc b.x a.x<0;{have:=(to_ordC.flip b.x a.x).1 h;exact .inr Aa};.exact .inl h
theorem abg{G:List Gp}{j:Nat}(b:j<G.length)(a:i<=j):ai (dSt G i) (j+500)=some (.arr 3 1 false ((el G j).2.map i1)):=by simp only[dSt,ai];rw[if_neg Aa,show j+500=500+i+(j - i) from Aa,mz];have c:i+(j - i)=j:=Aa;simp[aay,el,bd,c,b]
theorem at9(i:Nat): ∀(G:List Gp) (j:Nat) (r:LP),r∈aeo i j G->∃k,k<G.length/\r=[.vs ((el G k).1.li.map i1),.vs ((el G k).1.pi.map pn),if j+k<i then .vs ((nk (el G k).2).map i1)else .os (j+k+500) (el G k).2.length]
 |[],j,r,h=>by simp[aeo]at h
 |a::G,j,r,h=>by
  simp only[aeo,b0p]at h;rcases h with rfl|h
  .exact⟨0,by simp,rfl⟩
  .obtain⟨k,hk,rfl⟩:=at9 i G (j+1) r h;exact⟨k+1,Ay,Fy⟩
theorem bth{P:Program}{N:Nat}{fr:AFr}{σ:ASt}{G:List Gp}(x:G.length<=900)(s:look fr 5= .os 99 G.length)(c:look fr 63= .int .i64 G.length)(b:look fr 64= .int .i64 i)
  (d:ai σ 99=some (.arh 207 3 (aeo i 0 G))) (q: ∀j,i<=j->j<G.length->ai σ (j+500)=some (.arr 3 1 false ((el G j).2.map i1))) (hx: ∀n,1000000<=n->ai σ n=none):
  Cv P N fr σ (dFr G.length i) (dSt G i):=by
 refine Cv.weak (λt=> ?_) (λn B h=> ?_) (λt=> ?_) (λn B h=> ?_) λn l w=>absurd (hx n l) w
 .simp only[dFr,look];split;{rename_i h;subst h;exact .inr s.symm};split;{rename_i h;subst h;exact .inr c.symm};split;{rename_i h;subst h;exact .inr b.symm};exact .inl rfl
 .have h0:=h;simp only[dSt,ai]at h;split at h;{rename_i e;subst e;rw[d];exact h};rw[j9]at h;split at h;{rename_i l;have v:=(dm.1 h).1;rw[show(aay (G.drop i)).length=G.length - i by simp[aay]]at v;have a:n - 500<G.length:=Aa;have o:n=(n - 500)+500:=Aa;rw[o]at h0 ⊢;rw[abg a Aa]at h0;rw[q (n - 500) Aa a];exact h0};.cases h
 .have c99:ai (dSt G i) 99≠none:=by simp[dSt,ai]
  simp only[dFr,look]
  repeat' split
  all_goals first
   |exact .os _ _ c99
   |exact .int _ _
   |exact .undef
 .simp only[dSt,ai]at h;split at h;{cases h;intro r m u f;obtain⟨k,p,rfl⟩:=at9 _ _ _ r m;simp only[b0p,b6y,or_false]at f;rcases f with rfl|rfl|rfl;{exact .vs _};{exact .vs _};.rw[b1w];split;{exact .vs _};.exact .os _ _ (by rw[abg p Aa];simp)};rw[j9]at h;split at h;{have:=b0e h;obtain⟨g,_,rfl⟩:=b0z.1 this;trivial};.cases h
theorem bqb(G:List Gp)(y:Vt):(cG G y).length<=G.length+1:=by unfold cG;split<;>simp
theorem a42(seats:LI)(v:List Vt): ∀i,(cF seats v i).length<=i
 |0=>by simp[cF]
 |i+1=>by
  have ih:=a42 seats v i;rcases b5u i v.length with h|h
  .rw[acz h];split
   .exact b1l (bqb _ _) Aa
   .omega
  .have:cF seats v (i+1)=cF seats v i:=E8
   rw[this];omega
theorem bei{seats:LI}{v:List Vt}(hx: ∀y∈v,okX y.x): ∀i,i<=v.length->∀g∈cF seats v i,okX g.1/\g.2.length<=i
 |0,_=>by simp[cF]
 |i+1,h=>by
  have ih:=bei (seats:=seats) hx i Aa;have hlt:i<v.length:=Aa
  rw[acz hlt];split
  .unfold cG;split
   .intro g a;rcases b0j.1 a with a|a
    .exact⟨(ih g a).1,Ey⟩
    .simp only[b1h]at a;subst a;exact⟨hx _ (cr hlt),Ad⟩
   .rename_i j hj;obtain⟨b,_⟩:=xb hj;intro g a;rcases b2f a with a|rfl
    .exact⟨(ih g a).1,Ey⟩
    .have:=ih _ (cr b);exact⟨this.1,Ag⟩
  .intro g a;exact⟨(ih g a).1,Ey⟩
theorem fp(σ:ASt)(n:Nat)(B:Box)(m:Nat):ai (s7 σ n B) m=if m=n then some B else ai σ m:=by rw[bp];rfl
theorem a0j(d:LN): ∀L:List Cn,ac2 d (L.map cn3)=true
 |[]=>rfl
 |n::L=>by
  have ih:=a0j d L;simp only[b07,ac2,ih,b6s];rfl
theorem a29{t:LB}{G:List Gp}(h:azt t G=none):t∉G.map λg=>gw g.1:=by unfold azt at h;rw[b26]at h;intro b;obtain⟨g,a,rfl⟩:=b0z.1 b;simpa using h g a
theorem ah7(seats:LI)(v:List Vt): ∀i,((cF seats v i).map λg=>gw g.1).Nodup
 |0=>by simp[cF]
 |i+1=>by
  have ih:=ah7 seats v i;rcases b5u i v.length with h|h
  .rw[acz h];split
   .unfold cG;split
    .rename_i hn;rw[b0d,b6p]
     exact⟨ih,Ad,λa ha b hb e=>by
      simp only[b07,b0o,b1h]at hb;subst hb;subst e;exact a29 hn ha⟩
    .rename_i j hj;obtain⟨hj1,_⟩:=xb hj;rw[b2r];have:gw ((el (cF seats v i) j).1,(el (cF seats v i) j).2++[(el v i).k]).1=((cF seats v i).map λg=>gw g.1)[j]'(by simpa using hj1):=by simp[el,bd,hj1]
     rw[this,List.set_getElem_self];exact ih
   .exact ih
  .have:cF seats v (i+1)=cF seats v i:=E8
   rw[this];exact ih
theorem akm{f:α->β}: ∀{l:List α},(l.map f).Nodup->∀{x y:α},x∈l->y∈l->f x=f y->x=y
 |[],_,x,y,hx,_,_=>by simp at hx
 |a::l,h,x,y,hx,hy,e=>by
  rw[b07,b3i]at h;obtain⟨h0,hn⟩:=h;rcases b0p.1 hx with b|hx
  .rcases b0p.1 hy with h2|hy
   .rw[b,h2]
   .exact absurd (b0z.2 ⟨y,hy,by rw[<-e,b]⟩) h0
  .rcases b0p.1 hy with h2|hy
   .exact absurd (b0z.2 ⟨x,hx,by rw[e,h2]⟩) h0
   .exact akm hn hx hy e
def cnC(seats:LI)(v:List Vt):List Cn:=bqs ((cF seats v v.length).map awy)
theorem bm9(v:List Vt)(seats:LI)(hv:v.length<=900)(hs:big seats.length)(hx: ∀y∈v,okX y.x):DN 141 [.vs (v.map vt7),.vs (seats.map i1)] (.vs ((cnC seats v).map cn3)):=by refine ag_ func141 ntmps141 results141 ?_;simp only[go_sem];refine yw mx_ 0 (λi:Nat=>cFr v seats (cF seats v i).length i) (λi=>cSt (cF seats v i)) (λi=>i<=v.length) (λi=>v.length - i) Ae (b0k _) ?_ ?_;{have hc:=Cv.trans (Cv.lift (P:=prog) (N:=87) (fr:=[(15,.int .i64 0),(14,.int .i64 v.length),(13,.vs (v.map vt7)),(6,.mh 12),(12,.mh 12),(5,.nils),(4,.nils),(0,.vs (v.map vt7)),(1,.vs (seats.map i1))]) (σ:=[(12,.mp [])]) (n:=99) (slot:=5) (B:= .arh 207 3 []) rfl rfl ⟨_,_,Aa,.inr rfl⟩) (Cv.new (n:=900046) (B:= .arr 3 1 false []) Al ⟨_,_,Aa,.inl rfl⟩);refine Cv.trans hc ?_;refine bqy (G:=[]) (i:=0) Ad rfl rfl rfl rfl rfl rfl rfl rfl rfl (λj l=>by simp at l) λn p=> ?_;simp only[go_sem];repeat rw[if_neg Aa]};.intro i hi;by_cases d:i<v.length;{have S:(i:Int)<(v.length:Int):=Aa;have o:=acz (seats:=seats) d;generalize t:cF seats v i=G at*;have C:=hx (el v i) (cr d);have J:=apz (gw (el v i).x) G;have q: ∀n,n<500->ai (grp 500 (aay G)) n=none:=λn p=>adl _ _ _ p;have a1:G.length<=i:=(by rw[<-t];exact a42 seats v i);have E:G.length<=900:=Aa;have f: ∀n,2000<=n->ai (grp 500 (aay G)) n=none:=λn p=>(by rw[j9,if_pos Aa];exact b2o Fd);have m: ∀j,j<G.length->ai (grp 500 (aay G)) (j+500)=some (.arr 3 1 false ((el G j).2.map i1)):=λj l=>(by rw[b6g,mz];simp[aay,el,bd,l]);have H:ai (grp 500 (aay G)) (G.length+500)=none:=(by rw[b6g,mz];exact b2o (by simp[aay]));have c:=ah3 G 0;have r:=bei (seats:=seats) hx i hi;rw[t]at r;simp only[cFr,cSt];generalize grp 500 (aay G)=τ at*;simp only[go_sem,S,d,q,f,fp,c];refine Qq (ji seats (el v i).k hs) [] ?_;by_cases T:(el v i).k∈seats;rotate_left;{rw[if_neg T]at o;simp only[go_sem,T];refine⟨i+1,Aa,?_⟩;rw[o];refine bqy Aa rfl rfl rfl rfl rfl ?_ rfl rfl rfl (λj l=> ?_) λn p=> ?_;{show PV.int IntKind.i64 (IntKind.i64.wrap (↑i+1))=_;rw[ah]<;>first|rfl|omega};{simp only[go_sem,fp,m j l];rw[if_neg Aa]};.simp only[go_sem,fp];(repeat rw[if_neg Aa]);exact f n Aa};simp only[go_sem,T,q,f,fp,c];refine Qq (avg (el v i).x C) [] ?_;cases hgi:azt (gw (el v i).x) G with|none=>rw[hgi]at J;simp only[go_sem,J,bkb,q,f,fp,c];refine Qq (avg (el v i).x C) [] ?_;simp only[go_sem,J,avr,q,f,fp,c];refine Qq (akv (el v i).x C.1) [] ?_;have Y:dq (zg 0 G++[[PV.vs ((el v i).x.li.map i1),PV.vs ((el v i).x.pi.map pn),PV.nils]]) G.length=[PV.vs ((el v i).x.li.map i1),PV.vs ((el v i).x.pi.map pn),PV.nils]:=(by simp[dq,bd,b0y,c]);simp only[go_sem,q,f,fp,c,Y];(repeat refine an_ ?_);refine⟨i+1,Aa,?_⟩;have s:cG G (el v i)=G++[((el v i).x,[(el v i).k])]:=(by simp only[cG,hgi]);rw[if_pos T,s]at o;rw[o];have u:(zg 0 G++[[PV.vs ((el v i).x.li.map i1),PV.vs ((el v i).x.pi.map pn),PV.nils]]).set G.length [PV.vs ((el v i).x.li.map i1),PV.vs ((el v i).x.pi.map pn),PV.os 58 1]=zg 0 G++[[PV.vs ((el v i).x.li.map i1),PV.vs ((el v i).x.pi.map pn),PV.os 58 1]]:=(by rw[b7g,if_neg Aa,c,b7a];rfl);rw[u];refine bsk Aa rfl rfl rfl rfl rfl ?_ rfl rfl rfl ?_ ?_ (λj l=> ?_) λn p=> ?_;{show PV.int IntKind.i64 (IntKind.i64.wrap (↑i+1))=_;rw[ah]<;>first|rfl|omega};{simp only[go_sem,fp]};{simp only[go_sem,fp];(repeat rw[if_neg Aa]);exact H};{simp only[go_sem,fp,m j l];repeat rw[if_neg Aa]};.simp only[go_sem,fp];(repeat rw[if_neg Aa]);exact f n Aa|some j=>rw[hgi]at J;obtain⟨l,a9⟩:=xb hgi;have V:=a83 G 0 j l;have K:=a8y G 0 j l;rw[b1w]at V K;have M:=m j l;have a3: ¬j=899546:=Aa;simp only[go_sem,J,bkb,V,q,f,fp,c,K,M,l,a3];have a2:=(r _ (cr l)).2;(repeat refine an_ ?_);refine⟨i+1,Aa,?_⟩;have s:cG G (el v i)=G.set j ((el G j).1,(el G j).2++[(el v i).k]):=(by simp only[cG,hgi]);rw[if_pos T,s]at o;rw[o];have u:=at0 ((el G j).1,(el G j).2++[(el v i).k]) G 0 j l;rw[b0a,b1j,b1w]at u;rw[<-u];have X:=atw ((el G j).1,(el G j).2++[(el v i).k]) G 0 j rfl l;rw[<-X];refine bqy Ag rfl rfl rfl ?_ rfl ?_ rfl rfl rfl (λk z=> ?_) λn p=> ?_;{rw[b15];rfl};{show PV.int IntKind.i64 (IntKind.i64.wrap (↑i+1))=_;rw[ah]<;>first|rfl|omega};{rw[b15]at z;simp only[go_sem,fp,m k z];rw[if_neg Aa];by_cases F:k=j;{subst F;rw[if_pos rfl];simp[el,bd,z,i1]};.rw[if_neg F];have a0: ¬j=k:=λe=>F e.symm;simp[el,bd,b2x,a0]};.simp only[go_sem,fp];(repeat rw[if_neg Aa]);exact f n Aa};.have S: ¬(i:Int)<(v.length:Int):=Aa;have a7:i=v.length:=Aa;subst a7;have a1:=a42 seats v v.length;have r:=bei (seats:=seats) hx v.length (b0f _);have hC:cnC seats v=bqs ((cF seats v v.length).map awy):=rfl;rw[hC];clear hC;generalize t:cF seats v v.length=G at*;have s:cF seats v v.length=G:=t;have E:G.length<=900:=Aa;simp only[cFr];have O:ai (cSt G) 99=some (.arh 207 3 (zg 0 G)):=rfl;have c:=ah3 G 0;simp only[go_sem,S];refine ng _ _ ?_;simp only[go_sem,O,c];refine yw mx_ 0 (λi=>dFr G.length i) (λi=>dSt G i) (λi=>i<=G.length) (λi=>G.length - i) Ae (b0k _) ?_ ?_;{refine bth E rfl rfl rfl ?_ (λj _ l=> ?_) λn p=> ?_;{rw[alx];rfl};{exact blr G j l Aa};.exact bfb G n Aa};.intro i hi;by_cases d:i<G.length;{have h2:(i:Int)<(G.length:Int):=Aa;have w:=a35 i G 0 i d;rw[b1w,if_neg (b7y i)]at w;have c:=auo i G 0;have U:=abg d (b0f i);have O:ai (dSt G i) 99=some (.arh 207 3 (aeo i 0 G)):=rfl;simp only[dSt,ai]at U;simp only[dFr,dSt];have D: ∀n,n<500->ai (grp (500+i) (aay (G.drop i))) n=none:=λn p=>adl _ _ _ Aa;have m: ∀j,i<=j->j<G.length->ai (grp (500+i) (aay (G.drop i))) (j+500)=some (.arr 3 1 false ((el G j).2.map i1)):=λj h3 h4=>(by have:=abg h4 h3;simp only[dSt,ai]at this;rwa [if_neg Aa]at this);have H: ∀n,1000000<=n->ai (grp (500+i) (aay (G.drop i))) n=none:=λn p=>(by rw[j9,if_pos Aa];exact b2o Fd);have A: ¬99=i+500:=Aa;rw[if_neg A]at U;generalize grp (500+i) (aay (G.drop i))=τ at*;simp only[go_sem,h2,c,d,w,D,fp,U];have a2:=(r _ (cr d)).2;refine Qq (atf (el G i).2 Aa) [i+500] ?_;have Q:i+500<1000000:=Aa;have R: ¬i+500=99:=Aa;simp only[go_sem,fp,U,D,c,d,w,js,Q,A,R];refine⟨b0f _,?_⟩;have I:=ab6 (srt (el G i).2) (by rw[js];omega);rw[js]at I;refine Qq I [i+500] ?_;have a5:(bpd (srt (el G i).2)).length=(el G i).2.length:=(by rw[ahb,js]);simp only[go_sem,fp,U,D,c,d,w,js,a5,Q,A,R];refine⟨b0f _,i+1,Aa,?_⟩;have a6:=ani i G 0 i d (b1w i);refine bth (i:=i+1) E rfl rfl ?_ ?_ (λj h3 h4=> ?_) λn p=> ?_;{show PV.int IntKind.i64 (IntKind.i64.wrap (↑i+1))=_;rw[ah]<;>first|rfl|omega};{rw[<-a6];rfl};{simp only[go_sem,fp,m j Aa h4];repeat rw[if_neg Aa]};.simp only[go_sem,fp,H n p];repeat rw[if_neg Aa]};.have hiG:i=G.length:=Aa;subst hiG;have h2: ¬(G.length:Int)<(G.length:Int):=Aa;simp only[dFr];simp only[go_sem,h2];have a4:=at1 G.length G 0 Aa;have W: ∀n∈G.map awy,qg n.x:=λn p=>(by obtain⟨g,hg,rfl⟩:=b0z.1 p;exact lm (r g hg).1.1);have Z:(G.map awy).length=G.length:=Ad;generalize hL:G.map awy=L at*;refine⟨[(5,.os 99 L.length)],[(99,.arr 207 3 false (L.map cn3))],Cv.trans (fr':=[(5,.os 99 L.length)]) (σ':=[(99,.arh 207 3 (L.map cn3))]) ?_ (Cv.shutB (n:=99) rfl (an7 L)),?_⟩;{have hds:dSt G G.length=[(99,.arh 207 3 (L.map cn3))]:=(by simp only[dSt,a4,List.drop_length];rfl);rw[hds];refine Cv.wk ?_;simp only[go_sem,Z,a0j]};.simp only[go_sem];refine Qq (av4 L Aa W ?_) [99] ?_;{intro a ha b hb hab;rw[<-hL]at ha hb;obtain⟨g,hg,rfl⟩:=b0z.1 ha;obtain⟨h,hh,rfl⟩:=b0z.1 hb;have S:gw g.1=gw h.1:=congrArg gw hab;rw[akm (s ▸ ah7 seats v v.length) hg hh S]};.have hsl:(bqs L).length=L.length:=b3b _;simp only[go_sem,hsl];exact b0f _
def bbj(l:List Vt):List Vt:=l.mergeSort λa b=> !decide (uu b a<0)
theorem to_V:TO (λp q:Int×Ct=>or2 (ic p.1 q.1) (nc p.2 q.2)):=q8 pv to_ordC
theorem a3t(l:List Vt)(C:l.length<4611686018427387904)(t: ∀n∈l,qg n.x)(hd: ∀a∈l,∀b∈l,a.c=b.c):
  Den prog 194 [.os 1000000 l.length,.fn 193 []] [.arr 195 7 false (l.map vt7)] (.tup []) [] [.arr 195 7 false ((bbj l).map vt7)]:=by refine aa8 (F:=vt7) (cf:=uu) (enters_of func194 Ae rfl) C (λm r A g c u b f d w j B i q=>AnyQ.slices_SortFunc Tryz.sortVote 7 (λ_=>Ae) (λ_=>Ae) r A g c u _ _ b 0 f d w (enters_of func193 Ae rfl) j B i q) (λp f v w=>AnyF.slices_SortFunc_none Tryz.sortVote p f v w) (λx hx y s=>aum x y (t x hx) (t y s)) (λx _=>to_V.irr (x.k,x.x)) (λx _ y _ z _=>to_V.tr (x.k,x.x) (y.k,y.x) (z.k,z.x)) (λx _ y _ z _=>to_V.nt (x.k,x.x) (y.k,y.x) (z.k,z.x)) (λx hx y s g o=> ?_) (b2e _ _) ?_;{have hc:=hd x hx y s;have e:(x.k,x.x)=(y.k,y.x):=(by by_cases e:uu x y=0;{exact(to_V.eq (x.k,x.x) (y.k,y.x)).1 e};.have:=(to_V.flip (y.k,y.x) (x.k,x.x)).2 (by simp only[uu]at e g;simp only;omega);exact absurd this o);cases x;cases y;simp only[b0t]at e;simp only at hc;simp[e,hc]};.have:=b2w (le:=λa b:Vt=> !decide (uu b a<0)) (λa b c g o=> ?_) (λa b=> ?_) l;{exact this.imp λh=>An};{simp only[b2c,b1d]at g o ⊢;exact to_V.nt (c.k,c.x) (b.k,b.x) (a.k,a.x) o g};.simp only[b1v,b2c,b1d];by_cases h:uu b a<0;{have:=(to_V.flip (b.k,b.x) (a.k,a.x)).1 h;refine .inr ?_;simp only[uu];simp only at this;omega};.exact .inl h
def cA:Cs:=⟨0,3,4,0⟩
def bmt:Ct:=⟨[1],[]⟩
def noA:Ct:=⟨[0],[]⟩
theorem aia{v:Vt}(b:aj s=0)(a:s.kd=10/\s.body=[])(f:kr (mkV s).c (mkV s).x=true)(e:mkV s=v)(d:s.sk=s.au/\s.sd=dig s):eh s=(v,true):=by
 have:ofE s=(v,0):=by rw[ofE,if_neg Bf,if_pos ⟨a.1,a.2,f⟩,e]
 simp only[eh,this,d];simp
theorem uc(b nu a:Int)(d:Drf):(n8 b nu a d).sk=(n8 b nu a d).au/\(n8 b nu a d).sd=dig (n8 b nu a d):=⟨rfl,rfl⟩
theorem v1:eh (vt 2 0 cA bmt)=(⟨2,cA,bmt⟩,true):=aia Ae ⟨Ae,Ae⟩ Ae Ae (uc _ _ _ _)
theorem v2:eh (vt 1 0 cA bmt)=(⟨1,cA,bmt⟩,true):=aia Ae ⟨Ae,Ae⟩ Ae Ae (uc _ _ _ _)
theorem v3:eh (vt 2 1 cA noA)=(⟨2,cA,noA⟩,true):=aia Ae ⟨Ae,Ae⟩ Ae Ae (uc _ _ _ _)
end Go.Proofs.Am
