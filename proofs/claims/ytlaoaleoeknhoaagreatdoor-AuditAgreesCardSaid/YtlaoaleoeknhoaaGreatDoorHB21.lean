/- HB21. -/
import Derived.Test.YtlaoaleoeknhoaaGreatDoorPThree
import Derived.SizedLaws
set_option linter.unusedSimpArgs false
set_option linter.unusedVariables false
namespace Go.Proofs.Am
open Go Go.RowKit Tryz
open Go.Proofs
open Go.Proofs.YtlaoaleoeknhoaaGreatDoor.Rows (uptoBulk uptoBulkAll)
variable {K:Nat}{e t:TypeId}{α:Type}
set_option maxHeartbeats 1000000 in
set_option maxRecDepth 100000 in
theorem anz(l:LI)(i:Int)(f:LT)(hr:big f.length)(o: ∀x∈f,zb x)(hc:0<=i/\i<256):DN 3 [.vs (l.map i1),.int .u8 i,.vs (f.map tm)] (.bool true):=by
 refine ag_ func3 ntmps3 results3 ?_;by_cases hL:l.length<=400
 rotate_left
 .simp only[go_sem];refine Qq (aed l) [] ?_;simp only[go_sem,hL];refine Qq ig [] ?_;simp only[go_sem]
 by_cases hR:(20:Int)<(f.length:Int)
 .simp only[go_sem];refine Qq (aed l) [] ?_;simp only[go_sem,hL,hR];refine Qq ig [] ?_;simp only[go_sem]
 have T:big l.length:=Af
 obtain⟨⟨W,L⟩,⟨G,a1,Z⟩,cY⟩:=bcp l 0 T (b0k _);dsimp only at G a1 Z cY;have hB:=xk l 0;have h0:=adw l 0;generalize pg l 0=r at*;have J:IntKind.i64.wrap ((L.length:Int)+1)=((L.length+1:Nat):Int):=Ab
 obtain⟨k,hk,a4⟩: ∃k:Nat,i.tmod ((L.length+1:Nat):Int)=k/\k<=L.length:=by
  refine⟨i.toNat % (L.length+1),?_,by have:=b6m i.toNat (show 0<L.length+1 from Aa);omega⟩;obtain⟨c,rfl⟩: ∃c:Nat,i=c:=⟨i.toNat,Aa⟩;rfl
 have a0:(k:Int)<=(L.length:Int):=Aa
 have cA:=awg r (L.take k) h0 hB Ak (λs hs=>Z.bg s (b1e hs));have R: ∀u∈dw r (L.take k),zb u:=afj h0;have lA:=sx r (L.take k);have pA:=td r (L.take k);generalize dw r (L.take k)=A at*;have U:=xt r L hB Aa Z.bg;rw[vg h0]at U;have gB: ∀u∈dw r L,zb u:=afj h0;have lB:=sx r L;generalize dw r L=B at*;dsimp only at U;have c3:=ya l W 3 T G Aa Aa;have M:=d8 G;generalize dp l W=q1 at*;generalize decide (am l W 3=3 - 1)=nb at c3;have c4:=bh l q1 (A.length:Int) T M Aa;have h4:=d7 (l:=l) (p:=q1) (n:=(A.length:Int)) Aa;have a2:=d8 M;generalize dp l q1=q2 at*;obtain⟨u,hu⟩: ∃u:Nat,am l q1 (A.length:Int)=u:=⟨(am l q1 A.length).toNat,Aa⟩;rw[hu]at c4 h4;have m:u<A.length:=Aa
 have c5:=bh l q2 5 T a2 Aa;have h5:=d7 (l:=l) (p:=q2) (n:=5) Aa;generalize dp l q2=q3 at*;generalize am l q2 5=w at*;have a3:(0:Int)<(A.length:Int):=Aa
 have t:f.length<=1000:=Aa
 rw[fc]at cY cA U
 have e: ∀X:LT,X.length<=1000->(∀x∈X,zb x)->∀Y:LT,Y.length<=1000->(∀x∈Y,zb x)->∃b:Bool,DN 11 [.vs (X.map tm),.vs (Y.map tm)] (.bool b)/\DN 12 [.vs (X.map tm),.vs (Y.map tm)] (.bool b):=λX j g Y hY gY=>
  ⟨agP X Y,zp X Y j hY g gY,by rw[bje];exact aow X Y j hY g gY⟩
 have q:=zp B B Aa Aa gB gB;rw[bev]at q;obtain⟨b4,I,K⟩:=e f t o B Aa gB;simp only[go_sem];refine Qq (aed l) [] ?_;simp only[go_sem,hL,hR];refine Qq (bsi l) [] ?_;simp only[go_sem];refine Qq cY [26] ?_;have wc:IntKind.i64.wrap i=i:=Ab
 have V:((k:Nat):Int).toNat=k:=Aa
 simp only[go_sem,J,wc,hk,a0,V]
 (repeat refine an_ ?_)
 refine Qq cA [] ?_;simp only[go_sem]
 (repeat refine an_ ?_)
 refine Qq U [] ?_;simp only[go_sem];refine Qq c3 [26] ?_;have a:prog.underlying 4=some .bool:=Ae
 obtain⟨N,D,v⟩:=e A Aa R B Aa gB;obtain⟨P,z,C⟩:=e B Aa gB A Aa R;obtain⟨Q,E,y⟩:=e A Aa R f t o
 cases nb
 .simp only[go_sem,a];refine Qq D [] ?_;simp only[go_sem,a];refine Qq v [] ?_;simp only[go_sem,a];refine Qq z [] ?_;simp only[go_sem,a];refine Qq C [] ?_;simp only[go_sem,a];refine Qq E [] ?_;simp only[go_sem,a];refine Qq y [] ?_;simp only[go_sem,a];refine Qq I [] ?_;simp only[go_sem,a];refine Qq K [] ?_;simp only[go_sem,a];refine Qq q [] ?_;simp only[go_sem,a];refine Qq ig [] ?_;simp only[go_sem]
 clear D v z C E y
 have F: ∀S:Tm,zb S->∃X:LT,(A.map tm).set u (tm S)=X.map tm/\X.length=A.length/\∀x∈X,zb x:=λS ht=>
  ⟨A.set u S,by rw[b2r],Ad,λx hx=>by
   rcases b2f hx with h|h
   .exact R x h
   .rw[h];exact ht⟩
 have H:=R _ (aw m);simp only[go_sem,a3];refine Qq c4 [26] ?_;simp only[go_sem];refine⟨m,?_⟩;refine Qq c5 [26] ?_;by_cases O:w=0
 .obtain⟨X,j,d,g⟩:=F ⟨IntKind.i64.wrap ((el A u).ep+1),(el A u).ros,(el A u).bea,(el A u).dec,(el A u).nx⟩ H;rw[ec]at j;obtain⟨N,D,v⟩:=e X Aa g B Aa gB;obtain⟨P,z,C⟩:=e B Aa gB X Aa g;obtain⟨Q,E,y⟩:=e X Aa g f t o;simp only[go_sem,m,O,j];refine Qq D [] ?_;simp only[go_sem,a,d];refine Qq v [] ?_;simp only[go_sem,a,d];refine Qq z [] ?_;simp only[go_sem,a,d];refine Qq C [] ?_;simp only[go_sem,a,d];refine Qq E [] ?_;simp only[go_sem,a,d];refine Qq y [] ?_;simp only[go_sem,a,d];refine Qq I [] ?_;simp only[go_sem,a,d];refine Qq K [] ?_;simp only[go_sem,a,d];refine Qq q [] ?_;simp only[go_sem,a,d];refine Qq ig [] ?_;simp only[go_sem]
 by_cases J:w=1
 .obtain⟨X,j,d,g⟩:=F ⟨(el A u).ep,(el A u).ros,[120],(el A u).dec,(el A u).nx⟩ H;rw[ec]at j;obtain⟨N,D,v⟩:=e X Aa g B Aa gB;obtain⟨P,z,C⟩:=e B Aa gB X Aa g;obtain⟨Q,E,y⟩:=e X Aa g f t o;simp only[go_sem,m,O,J,j];refine Qq D [] ?_;simp only[go_sem,a,d];refine Qq v [] ?_;simp only[go_sem,a,d];refine Qq z [] ?_;simp only[go_sem,a,d];refine Qq C [] ?_;simp only[go_sem,a,d];refine Qq E [] ?_;simp only[go_sem,a,d];refine Qq y [] ?_;simp only[go_sem,a,d];refine Qq I [] ?_;simp only[go_sem,a,d];refine Qq K [] ?_;simp only[go_sem,a,d];refine Qq q [] ?_;simp only[go_sem,a,d];refine Qq ig [] ?_;simp only[go_sem]
 by_cases w2:w=2
 .obtain⟨X,j,d,g⟩:=F ⟨(el A u).ep,(el A u).ros,(el A u).bea,!(el A u).dec,(el A u).nx⟩ H;rw[ec]at j;obtain⟨N,D,v⟩:=e X Aa g B Aa gB;obtain⟨P,z,C⟩:=e B Aa gB X Aa g;obtain⟨Q,E,y⟩:=e X Aa g f t o;simp only[go_sem,m,O,J,w2,j];refine Qq D [] ?_;simp only[go_sem,a,d];refine Qq v [] ?_;simp only[go_sem,a,d];refine Qq z [] ?_;simp only[go_sem,a,d];refine Qq C [] ?_;simp only[go_sem,a,d];refine Qq E [] ?_;simp only[go_sem,a,d];refine Qq y [] ?_;simp only[go_sem,a,d];refine Qq I [] ?_;simp only[go_sem,a,d];refine Qq K [] ?_;simp only[go_sem,a,d];refine Qq q [] ?_;simp only[go_sem,a,d];refine Qq ig [] ?_;simp only[go_sem]
 by_cases w3:w=3
 .obtain⟨X,j,d,g⟩:=F ⟨(el A u).ep,[1],(el A u).bea,(el A u).dec,(el A u).nx⟩ ⟨Ap,H.2⟩;rw[ec]at j;simp only[b07,b0o,i1]at j;obtain⟨N,D,v⟩:=e X Aa g B Aa gB;obtain⟨P,z,C⟩:=e B Aa gB X Aa g;obtain⟨Q,E,y⟩:=e X Aa g f t o;simp only[go_sem,m,O,J,w2,w3,j];refine Qq D [] ?_;simp only[go_sem,a,d];refine Qq v [] ?_;simp only[go_sem,a,d];refine Qq z [] ?_;simp only[go_sem,a,d];refine Qq C [] ?_;simp only[go_sem,a,d];refine Qq E [] ?_;simp only[go_sem,a,d];refine Qq y [] ?_;simp only[go_sem,a,d];refine Qq I [] ?_;simp only[go_sem,a,d];refine Qq K [] ?_;simp only[go_sem,a,d];refine Qq q [] ?_;simp only[go_sem,a,d];refine Qq ig [] ?_;simp only[go_sem]
 obtain⟨X,j,d,g⟩:=F ⟨(el A u).ep,(el A u).ros,(el A u).bea,(el A u).dec,⟨[7],(el A u).nx.pi⟩⟩ ⟨H.1,Ap,H.2.2⟩;rw[ec]at j;simp only[b07,b0o,i1]at j;obtain⟨N,D,v⟩:=e X Aa g B Aa gB;obtain⟨P,z,C⟩:=e B Aa gB X Aa g;obtain⟨Q,E,y⟩:=e X Aa g f t o;simp only[go_sem,m,O,J,w2,w3,j];refine Qq D [] ?_;simp only[go_sem,a,d];refine Qq v [] ?_;simp only[go_sem,a,d];refine Qq z [] ?_;simp only[go_sem,a,d];refine Qq C [] ?_;simp only[go_sem,a,d];refine Qq E [] ?_;simp only[go_sem,a,d];refine Qq y [] ?_;simp only[go_sem,a,d];refine Qq I [] ?_;simp only[go_sem,a,d];refine Qq K [] ?_;simp only[go_sem,a,d];refine Qq q [] ?_;simp only[go_sem,a,d];refine Qq ig [] ?_;simp only[go_sem]
section
variable {H:Type} {enc:TypeId×Value->H} {P:Program} {w:World} {base:Nat} {sp:Nat->Bool} {held:Bool}
def OpensB(enc:TypeId×Value->H)(P:Program)(w:World)(base:Nat)(sp:Nat->Bool)(held:Bool)(t:TypeId)(K:Nat)(f:α->LP)(G:α->Prop):Prop:=
 ∀(fuel:Nat) (cs:List Value) (x:DataW H×List MemPlace),DataW.trod enc P w base sp held fuel t cs=some x->(∀n∈x.1.weights P t,n<=140737488351232)->
  ∃y,G y/\(f y).length=K/\(f y).all fy=true/\∀(j:Nat) (u:PV),(f y)[j]? =some u->∃cv,cs[j]? =some cv/\RP (λa v=>w.cell? a=some v/\True) cv u
theorem Opens.b{f:α->LP}{m:α->Nat}{G:α->Prop}(O:Opens enc P w base sp held t K f m G):OpensB enc P w base sp held t K f G:=λa cs x h _=>by
 obtain⟨y,d,_,c⟩:=O a cs x h;exact⟨y,d,c⟩
theorem OpensB.weak{f:α->LP}{G b:α->Prop}(O:OpensB enc P w base sp held t K f G)(h: ∀y,G y->b y):OpensB enc P w base sp held t K f b:=λa cs x c d=>by
 obtain⟨y,g,e⟩:=O a cs x c d;exact⟨y,h y g,e⟩
theorem tv: ∀{ds:List (DataW H)} {d:DataW H},d∈ds->∀n∈d.weights P e,n∈DataW.weightsAll P e ds
 |a::r,d,h,n,hn=>by
  unfold DataW.weightsAll;rcases b0p.1 h with rfl|h
  .exact b0j.2 (.inl hn)
  .exact b0j.2 (.inr (tv h n hn))
theorem np{f:α->LP}{G:α->Prop}(U:P.underlying t=some (.slice e))(hc:P.cellsOf e=K)(N:1<=P.bytesOf e)(O:OpensB enc P w base sp held e K f G):
  OpensB enc P w base sp held t 1 (λl:List α=>[.vs (l.map f)]) (λl=>(∀y∈l,G y)/\l.length<=140737488351232):=by intro R cs x h p;rcases DataW.trod_slice U h with ⟨rfl,rfl⟩|⟨a,L,V,el,c,n,rfl,rfl,rfl,_,C,_,S,D,_,_⟩;{refine⟨[],⟨Ad,Ad⟩,rfl,rfl,λj u d=> ?_⟩;cases j with|zero=>simp only[b1n,b0c]at d;subst d;exact⟨_,rfl,.vs (sz:=0) (λ_ _=>Go.undef) rfl (b0f _) Ad Ad Aa λi x j u hx d=>Gd⟩|succ j=>simp at d};.have hw:(DataW.slice (el.map (·.1)) (c.map (·.1)):DataW H).weights P t=((el.map (·.1)).length+(c.map (·.1)).length)*P.bytesOf e::(DataW.weightsAll P e (el.map (·.1))++DataW.weightsAll P e (c.map (·.1))):=(by unfold DataW.weights;rw[U]);simp only[hw]at p;have a0:el.length<=140737488351232:=(by have:=p _ (b0p.2 (.inl rfl));rw[b0x,b0x]at this;have A:(el.length+c.length)*1<=(el.length+c.length)*P.bytesOf e:=Nat.mul_le_mul_left _ N;omega);obtain⟨l,a1,E⟩:=t7 el (λi b (y:α)=>G y/\(f y).length=K/\(f y).all fy=true/\∀(j:Nat) (u:PV),(f y)[j]? =some u->∃m,w.cell? (a.add (i*K+j))=some m/\RP (λa v=>w.cell? a=some v/\True) m u) λi b q=>(by have B:i<L:=(by have:=(dm.1 q).1;omega);have r:=D i B;rw[hc,q]at r;obtain⟨ce,J,I⟩:=b6v.1 r;obtain⟨y,Z,Y,X,g5⟩:=O _ _ _ I λn hn=>p n (b0p.2 (.inr (b0j.2 (.inl (tv (b0z.2 ⟨b,b0e q,rfl⟩) n hn)))));obtain⟨_,W,Q⟩:=b8a J;refine⟨y,Z,Y,X,λj u d=> ?_⟩;obtain⟨m,g,M⟩:=g5 j u d;have F:j<K:=(by have:=(dm.1 d).1;omega);have:=Q j F;rw[g]at this;refine⟨m,?_,M⟩;rw[<-this,Addr.add_add]);have s: ∀(i:Nat) y,l[i]? =some y->∃b,el[i]? =some b:=λi y k=>(by have:=(dm.1 k).1;exact⟨el[i]' Aa,bq Aa⟩);have o: ∀y∈l,∃(i:Nat) (b:DataW H×List MemPlace),l[i]? =some y/\el[i]? =some b:=λy k=>(by obtain⟨i,B⟩:=b2v.1 k;obtain⟨b,q⟩:=s i y B;exact⟨i,b,B,q⟩);have z: ∀x∈l.map f,x.length=K/\x.all fy=true:=λx hx=>(by obtain⟨y,k,rfl⟩:=b0z.1 hx;obtain⟨i,b,r,A⟩:=o y k;have:=E i y b r A;exact⟨this.2.1,this.2.2.1⟩);refine⟨l,⟨λy k=> ?_,Aa⟩,rfl,rfl,λj u d=> ?_⟩;{obtain⟨i,b,r,A⟩:=o y k;exact(E i y b r A).1};.cases j with|succ j=>simp at d|zero=>simp only[b1n,b0c]at d;subst d;have T: ∀(i:Nat) (x:LP) (j:Nat) (u:PV),(l.map f)[i]? =some x->x[j]? =some u->∃m,w.cell? (a.add (i*K+j))=some m/\RP (λa v=>w.cell? a=some v/\True) m u:=λi x j u hx d=>(by rw[b0s]at hx;obtain⟨y,k,rfl⟩:=b4n.1 hx;obtain⟨b,q⟩:=s i y k;exact(E i y b k q).2.2.2 j u d);refine⟨_,rfl,.vs (sz:=K) (λi j=>(w.cell? (a.add (i*K+j))).getD Go.undef) Ag C (λx hx=>(z x hx).1) (λx hx=>(z x hx).2) (λ_=>⟨_,rfl,λi x j u hx d=> ?_⟩) λi x j u hx d=> ?_⟩;{obtain⟨m,g,_⟩:=T i x j u hx d;simp[g]};.obtain⟨m,g,M⟩:=T i x j u hx d;simpa [g] using M
theorem ju{d:Array Field}{cs:List Value}{xs:List (DataW H×List MemPlace)}{n:Nat}{f:α->LP}{G:α->Prop}
  (h: ∀(i:Nat) (b:Field),d[i]? =some b->DataW.trod enc P w base sp held n b.type ((cs.drop b.offset).take (P.cellsOf b.type))=xs[i]?) (hx:xs.length=d.size)
  (e: ∀n∈DataW.weightsEach P (d.toList.map (·.type)) (xs.map (·.1)),n<=140737488351232)
  (i:Nat) (b:Field) (l:d[i]? =some b) (O:OpensB enc P w base sp held b.type K f G):
  ∃(y:α),G y/\(f y).length=K/\(f y).all fy=true/\∀(j:Nat) (u:PV),(f y)[j]? =some u->∃cv,cs[b.offset+j]? =some cv/\RP (λa v=>w.cell? a=some v/\True) cv u:=by
 have m:=h i b l;have o:i<xs.length:=by rw[hx];exact(b03.1 l).1
 rw[bq o]at m;have k:(d.toList.map (·.type))[i]? =some b.type:=by simp[l]
 have g:(xs.map (·.1))[i]? =some xs[i].1:=by simp[o]
 obtain⟨y,z,t,r,s⟩:=O _ _ _ m λn x=>e n (DataW.weights_mem_each k g n x);refine⟨y,z,t,r,λj u p=> ?_⟩;obtain⟨cv,c,q⟩:=s j u p;refine⟨cv,?_,q⟩;rw[b04]at c;split at c
 .rwa [b1k]at c
 .cases c
end
section
variable {H:Type} {enc:TypeId×Value->H} {P:Program} {w:World} {base:Nat} {sp:Nat->Bool} {held:Bool}
theorem aq5(d:P.underlying t=some .bool):OpensB enc P w base sp held t 1 (λb:Bool=>[.bool b]) (λ_=>True):=by intro c cs x h _;obtain⟨b,rfl,rfl⟩:=DataW.trod_bool d h;refine⟨b,trivial,rfl,rfl,λj u a=> ?_⟩;cases j with|zero=>simp only[b1n,b0c]at a;subst a;exact⟨_,rfl,.bool _⟩|succ j=>simp at a
theorem a0w{c e:Field}(m:P.underlying t=some (.struct #[c,e]))
  (h0:OpensB enc P w base sp held c.type 1 (λl:LI=>[.vs (l.map i1)]) (λl=>big l.length)) (p:OpensB enc P w base sp held e.type 1 (λl:List Pn=>[.vs (l.map pn)]) (λl=>big l.length))
  (q:c.offset=0) (B:e.offset=1):OpensB enc P w base sp held t 2 Am.ct (λx=>big x.li.length/\big x.pi.length):=by intro i cs x h z;obtain⟨o,n,rfl,rfl,C,d,a⟩:=b6q m h;have f: ∀n∈DataW.weightsEach P ((#[c,e]:Array Field).toList.map (·.type)) (o.map (·.1)),n<=140737488351232:=λn y=>z n (by unfold DataW.weights;rw[m];exact y);obtain⟨A,s,_,_,g⟩:=ju a d f 0 c rfl h0;obtain⟨v,r,_,_,k⟩:=ju a d f 1 e rfl p;rw[q]at g;rw[B]at k;refine⟨⟨A,v⟩,⟨s,r⟩,rfl,rfl,λj u b=> ?_⟩;match j,b with|0,b=>exact g 0 u b|1,b=>exact k 0 u b|j+2,b=>simp[Am.ct]at b
theorem a3m{i g m k f:Field}(r:P.underlying t=some (.struct #[i,g,m,k,f]))
  (h0:P.underlying i.type=some (.int .i64)) (I:OpensB enc P w base sp held g.type 1 (λl:LI=>[.vs (l.map i1)]) (λl=>big l.length)) (F:P.underlying m.type=some .string) (O:P.underlying k.type=some .bool)
  (G:OpensB enc P w base sp held f.type 2 Am.ct (λx=>big x.li.length/\big x.pi.length))
  (B:i.offset=0) (R:g.offset=1) (C:m.offset=2) (S:k.offset=3) (E:f.offset=4):OpensB enc P w base sp held t 6 Am.tm zb:=by
 intro p cs x h N;obtain⟨A,n,rfl,rfl,T,d,a⟩:=b6q r h;have e: ∀n∈DataW.weightsEach P ((#[i,g,m,k,f]:Array Field).toList.map (·.type)) (A.map (·.1)),n<=140737488351232:=λn M=>N n (by unfold DataW.weights;rw[r];exact M);obtain⟨Q,_,_,_,s⟩:=ju a d e 0 i rfl (ov h0).b;obtain⟨L,D,_,_,q⟩:=ju a d e 1 g rfl I;obtain⟨H,_,_,_,y⟩:=ju a d e 2 m rfl (alt F).b;obtain⟨z,_,_,_,v⟩:=ju a d e 3 k rfl (aq5 O);obtain⟨J,K,_,_,o⟩:=ju a d e 4 f rfl G;rw[B]at s;rw[R]at q;rw[C]at y;rw[S]at v;rw[E]at o;refine⟨⟨Q,L,H,z,J⟩,⟨D,K⟩,rfl,rfl,λj u c=> ?_⟩
 match j,c with
 |0,c=>exact s 0 u c
 |1,c=>exact q 0 u c
 |2,c=>exact y 0 u c
 |3,c=>exact v 0 u c
 |4,c=>exact o 0 u c
 |5,c=>exact o 1 u c
 |j+6,c=>simp[Am.tm]at c
end
end Go.Proofs.Am
