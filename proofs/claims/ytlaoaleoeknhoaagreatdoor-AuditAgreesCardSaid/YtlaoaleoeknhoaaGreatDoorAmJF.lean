/- AmJF. -/
import Derived.Test.YtlaoaleoeknhoaaGreatDoorAmTwo
set_option linter.unusedSimpArgs false
set_option linter.unusedVariables false
namespace Go.Proofs.Am
open Go Go.RowKit
variable {P:Program}{σ:ASt}{w:World}{o:Oper}{ρ:Operand->PV}{bytes cap d e k m n sz tx:Nat}{v:Value}{e' t:TypeId}{x:Ctx P}{xs:List LP}{hv:Nat->Value}{s:St}{y z:Operand}{i:Int}{news ys:List Value}{kd:IntKind}
theorem OwnQ.cellAt{g o:Nat}{xs:List Value}(h:OwnQ w e sz (.slice (some ⟨g,o,none⟩) n cap) n xs)(j:Nat)(i:j<n*sz):w.cell? ⟨g,o+j,none⟩=xs[j]?:=by rcases h.2 with ⟨b,_⟩|⟨p,m,d,c,k,b,_,f,_,l,a⟩;{simp at b};.simp only[b33,b0c,b54,b7x,b8e]at b;obtain⟨⟨rfl,rfl⟩,rfl⟩:=b;rw[cell_of_row w g (o+j) c e k f,<-a,b04,if_pos i,b1k];simp
theorem OwnM.queue{xs:List Value}(h:OwnM P w e sz v n xs):OwnQ w e sz v n xs:=by refine⟨h.1,?_⟩;rcases h.2 with c|⟨g,a,b,j,rfl,k,d,f,m,l,i⟩;{exact .inl c};.exact .inr ⟨g,0,a,b,j,rfl,tz k,d,f,Aa,by simpa using i⟩
theorem OwnQ.tail{i:Nat}{a:Option Addr}{xs:List Value}(h:OwnQ w e sz (.slice a n cap) n xs)(hi:i<=n):
  OwnQ w e sz (.slice (if cap=i then a else a.map (·.add (i*sz))) (n - i) (cap - i)) (n - i) (xs.drop (i*sz)):=by refine⟨by rw[b1b,h.1,b5l],?_⟩;rcases h.2 with ⟨c,h0⟩|⟨g,o,k,f,m,c,l,j,q,p,b⟩;{simp only[b33]at c;obtain⟨rfl,rfl,rfl⟩:=c;left;have:i=0:=Aa;subst this;simp};.simp only[b33]at c;obtain⟨rfl,_,rfl⟩:=c;right;by_cases d:cap=i;{have hn:n=i:=Aa;subst d;refine⟨g,o,0,f,m,?_,l,j,Aa,Aa,?_⟩;{rw[if_pos rfl,hn,b7a]};.rw[hn,b7a,b67,b2d];rw[b5j (by rw[h.1,hn];exact b0f _)]};.have hm:i*sz<=cap*sz:=b08 _ Aa;refine⟨g,o+i*sz,cap - i,f,m,?_,l,j,Aa,?_,?_⟩;{rw[if_neg d,b02,fh]};{rw[b5l];omega};.rw[<-b,b6j,b4m,<-b5l]
theorem aqc(t R ty e:TypeId)(d:TypeDesc)(i:TypeInfo)(z:Value)(size bytes:Nat)(X:P.underlying t=some (.slice e))(K:P.underlying R=some d)(hd: ∀k,d≠ .int k)
  (hi:P.info? e=some i) (hz:i.zero=some z) (G:i.size=size) (V:i.bytes=bytes) (S:z.cells.size=size) (a0:0<size) (T:0<bytes)
  (v:Value) (n:Nat) (xs:List Value) (p:OwnQ w e size v n xs) (x:Value) (m:Nat) (h:List Value) (hs:Src P w size x m h) (r:(n+m)*bytes<=140737488355328):
  ∃v' w',(Builtin.append_ #[t,R] ty #[v,x]).run P w= .ok v' w'/\OwnQ w' e size v' (n+m) (xs++h)/\w.grownBy w' (blk v)/\
   (blk v'=blk v\/∃b,blk v'=some b/\w.heap.size<=b):=by
 subst G;subst V;have a2:n+m<=140737488355328:=b1l (b3e _ T) r;have a4:n+m<=maxLen:=C4
 have J:dx P e=some i.size:=by simp[dx,hi]
 have M:=λa n c=>mi t R ty e d i.size X K hd J a n c x m w hs.len;have Q:=λa n c=>ms t R ty e d i i.size X K hd J hi a n c x m w hs.len;have s:(xs++h).length=(n+m)*i.size:=by rw[b0a,p.1,hs.length,b2a]
 have D: ∀(old:Nat),old<n+m->∀(I:Option Nat),
   OwnQ (w.drew.alloc (.cells (xs.toArray++h.toArray++Builtin.zeroCells z.cells (grownCap w (n+m) old e - (n+m))) e)) e i.size
    (.slice (some ⟨w.heap.size,0,none⟩) (n+m) (grownCap w (n+m) old e)) (n+m) (xs++h)/\
   w.grownBy (w.drew.alloc (.cells (xs.toArray++h.toArray++Builtin.zeroCells z.cells (grownCap w (n+m) old e - (n+m))) e)) I:=by
  intro old ho I;have F:=grownCap_ge w (n+m) old e;refine⟨⟨s,.inr ⟨w.heap.size,0,_,_,(0,0),rfl,.inl rfl,heap_alloc_new w.drew _,F,?_,?_⟩⟩,⟨rfl,rfl,rfl,Ad,λk U _=>heap_alloc_old w.drew _ U⟩⟩
  .simp only[b6l,b2h,size_zeroCells,S,p.1,hs.length,<-b2a,b1w];refine b08 _ ?_;omega
  .simp only[b56,b0m,List.drop_zero];rw[<-b0m,<-s];exact b5o
 rcases p.2 with ⟨rfl,rfl⟩|⟨g,o,q,l,Z,rfl,L,W,a1,a3,H⟩
 .have hx:xs=[]:=b0u (by simpa using p.1);subst hx;by_cases hm:m=0;{subst hm;have hn:h=[]:=b0u Ef;subst hn;refine⟨.slice none 0 0,w,?_,⟨Ad,.inl ⟨rfl,rfl⟩⟩,⟨rfl,rfl,rfl,b0f _,λ_ _ _=>rfl⟩,.inl rfl⟩;have hc:=hs.cells;rw[M _ _ _ (b0f _),hc];rfl};.have hg0: ¬(0+m<=0):=Aa;have y:=D 0 Aa (blk (.slice none 0 0));simp only[b1w]at y;have C:=growslice_fits (need:=m) (old:=0) (bytes:=i.bytes) Aa (by simpa using r);have B:=hs.cells';refine⟨_,_,?_,by simpa using y.1,y.2,.inr ⟨w.heap.size,rfl,b0f _⟩⟩;have A: ¬(Builtin.nextslicecap m 0*i.bytes>2^48):=Av;have E: ¬((9223372036854775807:Int)<(m:Int)):=Aa;rw[Q _ _ _ hg0 Aa (by simpa using A)];generalize Builtin.firstCells i.size m x=f at B ⊢;simp[E,A,typeInfo,zeroValue,hi,hz,Builtin.firstCells,Question.forced,newRow,grownCap,B]
 .by_cases hroom:n+m<=q
  .have hml:(n+m)*i.size<=q*i.size:=b08 _ hroom;rw[b2a]at hml;have C:o+n*i.size+h.length<=l.size:=(by rw[hs.length];omega);have O:=dj P g (o+n*i.size) e Z h 0 l w W L (by simpa using C) hs.one;simp only[b13]at O;refine⟨.slice (some ⟨g,o,none⟩) (n+m) q,_,?_,⟨s,.inr ⟨g,o,q,_,Z,rfl,?_,setRow_heap w g l (l.toList.take (o+n*i.size)++h++l.toList.drop (o+n*i.size+h.length)).toArray e _ W,hroom,?_,?_⟩⟩,⟨rfl,rfl,rfl,Ad,λk _ U=>setRow_other w g k _ (λe=>U (by simp[blk,e]))⟩,.inl rfl⟩;{rw[M _ _ _ hroom,hs.cells];simp[fh,O]};{have he:(l.toList.take (o+n*i.size)++h++l.toList.drop (o+n*i.size+h.length)).toArray.size=l.size:=(by simp only[b2h,b0a,b0i,b1b,b28];omega);rw[he];exact L};{simp only[b2h,b0a,b0i,b1b,b28];omega};.have h1:(l.toList.take (o+n*i.size)).drop o=xs:=(by rw[b6j,b3h,H]);have h2:o<=(l.toList.take (o+n*i.size)).length:=(by rw[b0i,b28];omega);show((l.toList.take (o+n*i.size)++h++l.toList.drop (o+n*i.size+h.length)).drop o).take ((n+m)*i.size)=xs++h;rw[b0m,b5y h2,h1,<-b0m,<-s];exact b5o
  .have F: ¬(n+m<=q):=hroom;have y:=D q Aa (blk (.slice (some ⟨g,o,none⟩) n q));have C:=growslice_fits (need:=n+m) (old:=q) (bytes:=i.bytes) Aa r;have B:=hs.cells'
   have N:(loadCells (⟨g,o,none⟩:Addr) (n*i.size)).run P w.drew= .ok xs.toArray w.drew:=by
    have:=run_loadCells_list (P:=P) w.drew ⟨g,o,none⟩ xs (λj u Y=>by
     rw[fh];have hj:j<n*i.size:=by rw[<-p.1];exact(dm.1 Y).1
     exact(p.cellAt j hj).trans Y)
    rwa [p.1]at this
   refine⟨_,_,?_,y.1,y.2,.inr ⟨w.heap.size,rfl,b0f _⟩⟩;have A: ¬(Builtin.nextslicecap (n+m) q*i.bytes>2^48):=Av
   have E: ¬((9223372036854775807:Int)<(n:Int)+(m:Int)):=Aa
   rw[Q _ _ _ F E A];generalize Builtin.firstCells i.size m x=f at B ⊢;simp[E,A,typeInfo,zeroValue,hi,hz,Builtin.firstCells,Question.forced,newRow,grownCap,N,B,b4q];rw[<-b4q];simp
theorem AppT.runQ{t ty:Nat}(h:AppT P t tx e sz bytes){xs:List Value}(i:OwnQ w e sz v n xs){x:Value}(hs:Src P w sz x m news)(a:(n+m)*bytes<=140737488355328):
  ∃v' w',(Builtin.append_ #[t,tx] ty #[v,x]).run P w= .ok v' w'/\OwnQ w' e sz v' (n+m) (xs++news)/\w.grownBy w' (blk v)/\
   (blk v'=blk v\/∃b,blk v'=some b/\w.heap.size<=b):=by obtain⟨B,y,f⟩:=h.hz;obtain⟨A,z,l,s,u⟩:=iz y;have c:=h.hsz;have g:=h.hby;simp only[dx,l,b02,b0c]at c;simp only[bytesOf,l,b02,b0c]at g;have q: ∃d,P.underlying tx=some d/\∀k,d≠ .int k:=(by rcases h.htx with o|o;{obtain⟨e',he'⟩:=b1y.1 o;exact⟨_,bx he',λk p=>by cases p⟩};.exact⟨_,jd o,λk p=>by cases p⟩);obtain⟨d,j,r⟩:=q;exact aqc t tx ty e d A z sz bytes (bx h.ht) j r l s c g (by rw[<-u]at f;simpa using f) h.h0 h.hb0 v n xs i x m news hs a
theorem SimW.chg{w':World}{B B':Box}{v':Value}
  (h:SimW x s hv w) (o:s n=some B) (y: ∀off,¬B.perm off) (r:Box.keep B (hv n) B' v')
  (u:w.grownBy w' (blk (hv n)))
  (t:blk v'=blk (hv n)\/∃b,blk v'=some b/\w.heap.size<=b)
  (z: ∀E,Env.le (env x s hv w) E->BoxRep P E w' v' B'):
  SimW x (upd s n (some B')) (upd hv n v') w'/\Env.le (env x s hv w) (env x (upd s n (some B')) (upd hv n v') w'):=by have g: ∀b,b<w.heap.size->blk (hv n)≠some b->w'.heap[b]? =w.heap[b]?:=λb d l=>u.block b d (λe=>l e.symm);have A:Env.le (env x s hv w) (env x (upd s n (some B')) (upd hv n v') w'):=(by refine qh (λa v q=> ?_) λm C c=> ?_;{refine⟨?_,q.2.1,λm C c d=> ?_⟩;{by_cases l:blk (hv n)=some a.block;{exact(y _ (q.2.2 n _ o l)).elim};.exact(b2y (g a.block q.lt l)).trans q.1};.by_cases f:m=n;{subst f;rw[av]at c d;cases c;rcases t with j|⟨b,j,D⟩;{exact(y _ (q.2.2 m _ o (j ▸ d))).elim};.rw[j]at d;have F:=q.lt;have:b=a.block:=Aq;omega};.rw[ak _ _ f]at c d;exact q.2.2 m C c d};.by_cases f:m=n;{subst f;rw[o]at c;cases c;exact⟨_,av _ _ _,by rw[av];exact r⟩};.exact⟨C,by rw[ak _ _ f];exact c,Fp⟩);refine⟨h.step u.os u.tape u.output u.size A (λm f=>Aw) (λb d H=>g b (b24 d h.size) λe=> ?_) λm C c=> ?_,A⟩;{rcases h.loc n _ b o e with j|j;{omega};.exact H j};.by_cases f:m=n;{subst f;rw[av]at c;cases c;refine .inr ⟨by rw[av];exact z _ A,λp y=>Box.keep_trans (h.ext m p _ y o) (by rw[av];exact r),λb d=> ?_⟩;rw[av]at d;rcases t with j|⟨G,j,D⟩;{rw[j]at d;refine⟨h.loc m _ b o d,λk C r c i=> ?_⟩;rw[ak _ _ r]at c i;exact r (h.inj k m C _ b c o i d)};.rw[j]at d;have:G=b:=Aq;subst this;refine⟨.inl (b1l h.size D),λk C r c i=> ?_⟩;rw[ak _ _ r]at c i;have:=h.blk_lt c i;omega};.rw[ak _ _ f]at c;refine .inl ⟨c,ak _ _ f,λb d=>g b (h.blk_lt c d) λe=> ?_⟩;exact f (h.inj m n C _ b c o d e)
theorem agj{xs:List Value}(h:OwnQ w e sz v n xs): ∃a c,v= .slice a n c/\n<=c:=by rcases h.2 with ⟨rfl,rfl⟩|⟨g,o,b,f,i,rfl,_,_,d,_⟩;{exact⟨none,0,rfl,b0f _⟩};.exact⟨_,_,rfl,d⟩
theorem ba6(h:RV (env x s hv w) v (.oq n k))(hs:s n=some (.arq e sz k xs)):v=hv n:=by obtain⟨_,B,d,l,a,b,f,c⟩:=h.oq_inv;rw[hs]at a;cases a;simp only[Box.qdim,b0c,b0t]at b;exact c b.2
theorem aid{t:Nat}{B:List LP}{F:LN}(N:o.op= .call {callee:= .builtin .append,args:= #[y,z],argTypes:= #[t,tx]})
  (hT:AppT P t tx e sz bytes) (hy:ρ y= .oq n k) (hB:ai σ n=some (.arq e sz k xs)) (c:(xs.length+B.length)*bytes<=140737488355328)
  (hz: ∀(s:St),(∀m∈F,s m=ai σ m)->∀(x:Ctx P) hv w v,SimW x s hv w->RV (env x s hv w) v (ρ z)->aam P (env x s hv w) w sz v B):
  LOp P o ρ σ (.oq n (k+1)) [(n,.arq e sz (k+1) (xs++B))] (n::F):=by refine⟨Ad,λs hs x a hv w S d U Q I=> ?_⟩;have g:s n=some (.arq e sz k xs):=(hs n Ad).trans hB;have C:=d y A8;have R:=d z A8;rw[hy]at C;have G:=ba6 C g;obtain⟨T,O,q,l,L⟩:=hz s (λm hm=>hs m Dg) x hv w _ S R;obtain⟨h0,Z,f,p,J,D⟩:=S.box n _ g;obtain⟨v',W,A,Y,k2,k3⟩:=hT.runQ (ty:=o.type) f l c;have X:=S.chg (B':= .arq e sz (k+1) (xs++B)) (v':=v') g (λa0 h=>h) ⟨k+1,rfl,Aa,λh=>Aa⟩ k2 k3 λE V=>(by refine⟨h0,Z++q,by rw[b0a];exact Y,?_,?_,?_⟩;{intro r b;rcases b0j.1 b with b|b;{exact p r b};.exact T r b};{intro r b;rcases b0j.1 b with b|b;{exact J r b};.exact O r b};.exact um f.1 (λi r j u b M=>(D i r j u b M).mono V.pc) p (λi r j u b M=>(L i r j u b M).mono V.pc));unfold Oper.wp;have H:(execOp a.eval o).run P w= .ok (.value v') W:=(by simp[execOp,N,resolve,invoke,builtin,G,A]);rw[H,b1p];obtain⟨a',c',K,_⟩:=agj Y;exact I v' _ W X.1 X.2 (.oq ⟨⟨a',_,c',K⟩,.arq e sz (k+1) (xs++B),sz,k+1,Bj,rfl,b0f _,λ_=>Ad⟩)
theorem am9(N:o.op= .slice t y (some z) none none)(Z:ρ y= .oq n k)(hz:ρ z= .int kd i)
  (X:ai σ n=some (.arq e sz k xs)) (he:cw P t=some e') (K:dx P e'=some sz) (h0:0<=i) (h1:i<=xs.length):LOp P o ρ σ (.oq n (k+1)) [(n,.arq e sz (k+1) (xs.drop i.toNat))] [n]:=by
 refine⟨Ad,λs hs x a hv w T d R Q J=> ?_⟩;have f:s n=some (.arq e sz k xs):=(hs n Ad).trans X;have B:=d y (by simp[N,Op.operands]);have C:=d z (by simp[N,Op.operands]);rw[Z]at B;rw[hz]at C;have F:=ba6 B f;obtain⟨V,ys,b,I,L,D⟩:=T.box n _ f;obtain⟨ad,c,G,hc⟩:=agj b;obtain⟨v,hb,U,M,_⟩:=l8 (P:=P) (w:=w) true xs.length c hc (lo:=some (.int kd i)) (hi:=none) (mx:=none) (vl:=some (.int kd i)) (vh:=none) (vm:=none) (l:=i) (h:=xs.length) (m:=xs.length) rfl rfl rfl rfl trivial trivial h0 Aa (b3g _) (b3g _) Ad;have O:=M rfl;subst O;rw[G]at b;have ht:=b.tail (i:=i.toNat) Aa
 have A:blk (.slice (if v=i.toNat then ad else ad.map (·.add (i.toNat*sz))) (xs.length - i.toNat) (v - i.toNat))=blk (hv n):=by rw[G];cases ad with|none=>split<;>rfl|some q=>obtain⟨qb,qo,qs⟩:=q;split;{rfl};.simp only[b02,blk,Addr.add];split<;>rfl
 have S:=T.chg (w':=w) (B':= .arq e sz (k+1) (xs.drop i.toNat)) (v':= .slice (if v=i.toNat then ad else ad.map (·.add (i.toNat*sz))) (xs.length - i.toNat) (v - i.toNat)) f (λa0 h=>h) ⟨k+1,rfl,Aa,λh=>Aa⟩
  ⟨rfl,rfl,rfl,b0f _,λ_ _ _=>rfl⟩ (.inl A) λE Y=>by
  refine⟨V,_,by rw[b1b];exact ht,λr g=>I r (b1t g),λr g=>L r (b1t g),λp r j u g hu=> ?_⟩;rw[b1k]at g;have:=(D _ r j u g hu).mono Y.pc;rw[bd]at this ⊢;rw[b1k];have W:i.toNat*sz+(p*sz+j)=(i.toNat+p)*sz+j:=by rw[b2a,b4u]
  rw[W];exact this
 unfold Oper.wp
 have H:(execOp a.eval o).run P w= .ok (.value (.slice (if v=i.toNat then ad else ad.map (·.add (i.toNat*sz))) (xs.length - i.toNat) (v - i.toNat))) w:=by simp only[execOp,N];rw[b0v,F,G];simp[Instr.sliceAt,Instr.slice,run_underlying (bx he),C.int_inv,hb,eo K]
 rw[H,b1p];exact J _ _ w S.1 S.2 (.oq ⟨⟨_,_,_,rfl⟩,.arq e sz (k+1) (xs.drop i.toNat),sz,k+1,Bj,rfl,b0f _,λ_=>Ad⟩)
theorem ale{e:TypeId}{B:Nat}{k:IntKind}(r:o.op= .indexAddr t y z)(G:ρ y= .oq n m)
  (F:ρ z= .int k i) (E:ai σ n=some (.arq B sz m xs)) (H:cw P t=some e) (q:dx P e=some sz) (h0:0<=i) (C:i<xs.length):LOp P o ρ σ (.oqe n m i.toNat sz 0) [] [n]:=by refine ar λs hs x a N w I c=> ?_;have h:=c y Dd;have v:=c z Dd;rw[G]at h;rw[F]at v;have j:s n=some (.arq B sz m xs):=(by rw[hs n Ad,E]);have f:=ba6 h j;obtain⟨J,O,l,_⟩:=I.box n _ j;rcases l.2 with ⟨_,Q⟩|⟨g,A,p,D,M,u,_⟩;{omega};refine⟨.pointer (some ⟨g,A+i.toNat*sz,none⟩),?_,.oqe h.oq_inv ⟨_,rfl⟩ λb L R K d _=> ?_⟩;{simp[execOp,r,f,u,v.int_inv,lw H q ⟨g,A,none⟩ xs.length p k i h0 C,fh]};.rw[f,u]at d;simp only[b33,b0c,b54,b7x]at d;obtain⟨⟨rfl,rfl⟩,_⟩:=d;rw[b13]
theorem aoi{i off:Nat}{u:PV}(E:o.op= .load t y)(I:ρ y= .oqe n k i sz off)
  (H:ai σ n=some (.arq e sz k xs)) (hi:i<xs.length) (J:lp P t=some false) (D:(xs.getD i [])[off]? =some u):LOp P o ρ σ u [] [n]:=by
 refine ar λs hs x a U w O f=> ?_;have h:=f y (by simp[E,Op.operands]);rw[I]at h;have j:s n=some (.arq e sz k xs):=by rw[hs n Ad,H]
 obtain⟨V,K,R,M⟩:=h.oqe_inv;have q:=ba6 (.oq K) j;obtain⟨Q,N,b,r,F,p⟩:=O.box n _ j;have C:xs[i]? =some (xs.getD i []):=by rw[bd,bq hi];rfl
 have l:off<sz:=by
  have:=(dm.1 D).1
  rwa [r _ (b0e C)]at this
 rcases id b.2 with ⟨_,S⟩|⟨g,G,m,L,T,B,_⟩
 .omega
 have d:=M g G xs.length m (by rw[q,B]) hi;rw[B]at b;have A:=jr hi l;have c:=b.cellAt (i*sz+off) A;have z:=p i _ off u C D;rw[bd]at z
 cases hy2:N[i*sz+off]? with
 |none=>rw[List.getElem?_eq_none_iff]at hy2;rw[b.1]at hy2;omega
 |some v=>
  rw[hy2]at c z;refine⟨v,?_,.pure z⟩;simp[execOp,E,d,Instr.loadAt,Instr.sureAddr,fi J c]
/- Copies within rows of one's own. -/
theorem ail(C:o.op= .slice t y (some z) none none)(J:ρ y= .os n k)(Q:ρ z= .int kd i)
  (I:ai σ n=some (.arh e sz xs)) (B:k=xs.length) (R:cw P t=some e') (u:dx P e'=some sz) (h0:0<=i) (T:i<k):LOp P o ρ σ (.oss n k i.toNat (k - i.toNat)) [] [n]:=by refine ar λs hs x a V w S b=> ?_;have f:=b y (by simp[C,Op.operands]);have j:=b z (by simp[C,Op.operands]);rw[J]at f;rw[Q]at j;have d:s n=some (.arh e sz xs):=Dv;obtain⟨_,U,N,W,F,q,O,H⟩:=f.os_inv;rw[d]at F;cases F;cases q;have r:=H B;obtain⟨g,c,E,M⟩:=(S.box n _ d).dimAt (sz:=sz) (l:=xs.length) rfl Aa;obtain⟨A,K,G,v,_⟩:=l8 (P:=P) (w:=w) true xs.length c M (lo:=some (.int kd i)) (hi:=none) (mx:=none) (vl:=some (.int kd i)) (vh:=none) (vm:=none) (l:=i) (h:=xs.length) (m:=xs.length) rfl rfl rfl rfl trivial trivial h0 Aa (b3g _) (b3g _) Ad;have D:=v rfl;have L: ¬A=i.toNat:=Aa;have p: ¬c=i.toNat:=Aa;subst D;refine⟨.slice (some ⟨g,i.toNat*sz,none⟩) (k - i.toNat) (A - i.toNat),?_,.oss rfl ⟨⟨_,rfl⟩,_,sz,xs.length,d,rfl,O,λ_ _=>⟨g,A,by rw[E,B],by rw[b13]⟩⟩⟩;simp only[execOp,C];rw[b0v,r,E];simp[Instr.sliceAt,Instr.slice,run_underlying (bx R),j.int_inv,K,eo u,fh,B,p]
theorem ah2(C:o.op= .slice t y none (some z) none)(K:ρ y= .os n k)(Q:ρ z= .int kd i)
  (J:ai σ n=some (.arh e sz xs)) (G:k=xs.length) (R:cw P t=some e') (v:dx P e'=some sz) (h0:0<i) (T:i<=k):LOp P o ρ σ (.oss n k 0 i.toNat) [] [n]:=by refine ar λs hs x a V w S b=> ?_;have f:=b y (by simp[C,Op.operands]);have j:=b z (by simp[C,Op.operands]);rw[K]at f;rw[Q]at j;have d:s n=some (.arh e sz xs):=(by rw[hs n Ad,J]);obtain⟨_,U,N,W,F,r,O,I⟩:=f.os_inv;rw[d]at F;cases F;cases r;have u:=I G;obtain⟨g,c,E,M⟩:=(S.box n _ d).dimAt (sz:=sz) (l:=xs.length) rfl Aa;obtain⟨q,L,H,B,_⟩:=l8 (P:=P) (w:=w) true xs.length c M (lo:=none) (hi:=some (.int kd i)) (mx:=none) (vl:=none) (vh:=some (.int kd i)) (vm:=none) (l:=0) (h:=i) (m:=xs.length) rfl rfl rfl trivial rfl trivial (b3g _) Aa Aa (b3g _) Ad;have D:=B rfl;have p: ¬c=0:=Aa;subst D;refine⟨.slice (some ⟨g,0,none⟩) i.toNat q,?_,.oss rfl ⟨⟨_,rfl⟩,_,sz,xs.length,d,rfl,O,λ_ _=>⟨g,q,by rw[E,G],by rw[b67]⟩⟩⟩;simp only[execOp,C];rw[b0v,u,E];have A:(Instr.sliceBounds true xs.length q none (some (.int kd i)) none).run P w= .ok (0,i.toNat,q) w:=(by simpa using L);simp[Instr.sliceAt,Instr.slice,run_underlying (bx R),j.int_inv,A,eo v,fh,p]
theorem afy(w:World)(z D ty c:TypeId)(g o e l:Nat)(p:Option Addr)(d m:Nat)(b:Array Value)(t:TypeId)(k:Nat×Nat)(cs:List Value)
  (u:P.underlying z=some (.slice c)) (hs:(P.info? c).map (·.size)=some 1)
  (y:w.heap[g]? =some (.cells b t k)) (s:k.2=0\/b.size<=k.1) (x:cs.length=Nat.min d e) (n:p=none->d=0)
  (f: ∀a,p=some a->∀j v,cs[j]? =some v->w.cell? (a.add j)=some v) (h:o+cs.length<=b.size) (A: ∀v∈cs,v.oneCell'=true):
  (Builtin.copy_ #[z,D] ty #[.slice (some ⟨g,o,none⟩) e l,.slice p d m]).run P w=
   .ok (goInt cs.length) (w.setRow g (b.toList.take o++cs++b.toList.drop (o+cs.length)).toArray):=by have r:=dj P g o t k cs 0 b w y s An A;cases hq:P.info? c with|none=>simp[hq]at hs|some i=>have B:i.size=1:=(by simpa [hq] using hs);cases p with|none=>have h0:=n rfl;have q:cs=[]:=b0u (by rw[x,h0];simp);subst q;rw[setRow_self w g _ t k (by simpa using y)];simp[Builtin.copy_,run_underlying u,Builtin.lenOf,Builtin.firstCells,sizeOf,typeInfo,hq,storeCells,h0]|some a=>have C:=run_loadCells_list (P:=P) w a cs (f a rfl);simp[Builtin.copy_,run_underlying u,Builtin.lenOf,Builtin.firstCells,sizeOf,typeInfo,hq,B,<-x,C,r]
theorem zo{R:Value->PV->Prop}{zs:List LP}(e:ys.length=xs.length*sz)(f: ∀i x j u,xs[i]? =some x->x[j]? =some u->R (ys.getD (i*sz+j) undef) u)
  (d: ∀x∈xs,x.length=sz) (b: ∀i x j u,zs[i]? =some x->x[j]? =some u->R (news.getD (i*sz+j) undef) u):
  ∀i x j u,(xs++zs)[i]? =some x->x[j]? =some u->R ((ys++news).getD (i*sz+j) undef) u:=by intro i x j u hx a;rw[b1q]at hx;by_cases h:i<xs.length;{rw[if_pos h]at hx;have g:j<sz:=(by have:=(dm.1 a).1;rw[d x (b0e hx)]at this;exact this);rw[lf (by rw[e];exact jr h g)];exact f i x j u hx a};.rw[if_neg h]at hx;have c:ys.length<=i*sz+j:=(by rw[e];have:xs.length*sz<=i*sz:=b08 _ Aa;omega);rw[bd,b0y c,<-bd,e];have:i*sz+j - xs.length*sz=(i - xs.length)*sz+j:=(by rw[b5l];have:xs.length*sz<=i*sz:=b08 _ Aa;omega);rw[this];exact b _ x j u hx a
theorem agl{R:Value->PV->Prop}{zs:List LP}{cs:List Value}{o:Nat}(g:ys.length=xs.length)(b: ∀i x j u,xs[i]? =some x->x[j]? =some u->R (ys.getD (i*1+j) undef) u)
  (a: ∀x∈xs,x.length=1) (f: ∀x∈zs,x.length=1) (h:cs.length=zs.length) (d: ∀i x j u,zs[i]? =some x->x[j]? =some u->R (cs.getD (i*1+j) undef) u) (l:o+cs.length<=xs.length):
  ∀i x j u,(xs.take o++(zs++xs.drop (o+cs.length)))[i]? =some x->x[j]? =some u->R ((ys.take o++(cs++ys.drop (o+cs.length))).getD (i*1+j) undef) u:=by refine zo Ew (λi x j u hx c=> ?_) (λx hx=>a x (b1e hx)) (zo Ev d f λi x j u hx c=> ?_);{rw[b04]at hx;split at hx;{rename_i hi;have k:j<1:=(by have:=(dm.1 c).1;rwa [a x (b0e hx)]at this);have:=b i x j u hx c;rw[bd]at this ⊢;rw[b04,if_pos Aa];exact this};.cases hx};.rw[b1k]at hx;have:=b _ x j u hx c;rw[bd]at this ⊢;rw[b1k];have e:o+cs.length+(i*1+j)=(o+cs.length+i)*1+j:=Aa;rw[e];exact this
theorem OwnM.over{g:Nat}{a:Array Value}{d:Nat×Nat}{cs:List Value}{o:Nat}(p:d=(0,0)\/axh P e/\d=(a.size,a.size+1))(m:w.heap[g]? =some (.cells a e d))(i:n<=cap)(q:cap<=maxLen)(hs:a.size=cap*1)(h:a.toList.take (n*1)=ys)(s:o+cs.length<=n):
  OwnM P (w.setRow g (a.toList.take o++cs++a.toList.drop (o+cs.length)).toArray) e 1 (.slice (some ⟨g,0,none⟩) n cap) n (ys.take o++(cs++ys.drop (o+cs.length))):=by have b:a.toList.length=cap:=(by simp[hs]);have c:(a.toList.take o++cs++a.toList.drop (o+cs.length)).toArray.size=a.size:=(by simp only[b2h,b0a,b0i,b1b,b,hs];omega);have f:ys.length=n:=(by rw[<-h,b0i,b];omega);refine⟨by simp only[b0a,b0i,b1b,f];omega,.inr ⟨g,cap,_,d,rfl,by rw[c];exact p,setRow_heap w g a _ e _ m,i,q,by rw[c,hs],?_⟩⟩;show(a.toList.take o++cs++a.toList.drop (o+cs.length)).take (n*1)=_;rw[b0m,List.take_append,List.take_append,<-h];simp only[b0i,b,b3f];rw[List.take_take,List.take_take,b6j];have k:min (n:Nat) o=o:=Aa;have r:min o n=o:=Aa;have j:n - min o cap=n - o:=Aa;rw[k,r,j,b14 (l:=cs) Aa];congr 3;omega
theorem we{R:Value->PV->Prop}(e:ys.length=xs.length)(a: ∀x∈xs,x.length=1)(c: ∀x∈xs,x.all fy=true)(b: ∀i x j u,xs[i]? =some x->x[j]? =some u->R (ys.getD (i*1+j) undef) u)(d: ∀v u,R v u->fy u=true->v.oneCell'=true): ∀v∈ys,v.oneCell'=true:=λv hv=>by
 obtain⟨i,hi,rfl⟩:=b1f.1 hv;have hx:i<xs.length:=Aa
 have h0:0<(xs[i]).length:=by rw[a _ (b1g hx)];omega
 have:=b i _ 0 _ (bq hx) (bq h0);rw[b3f,b13,bd,bq hi]at this;exact d _ _ this (b06.1 (c _ (b1g hx)) _ (b1g h0))
theorem ao4{tx l:TypeId}{f:List LP}(ho:o.op= .call {callee:= .builtin .copy,args:= #[y,z],argTypes:= #[t,tx]})(hy:ρ y= .os n k)(hz:ρ z= .vs f)
  (hB:ai σ n=some (.arr e 1 false xs)) (hk:0<k/\k=xs.length) (K: ∀y∈f,y.length=1) (he:cw P t=some l) (a7:dx P l=some 1):
  LOp P o ρ σ (.int .i64 ((min f.length k:Nat):Int)) [(n,.arr e 1 false (f.take (min f.length k)++xs.drop (min f.length k)))] [n]:=by
 refine⟨Ad,λs hs x a hv w hW B c6 Q X=> ?_⟩;have A:s n=some (.arr e 1 false xs):=(hs n Ad).trans hB;have O:=B y A7;have M:=B z A7;rw[hy]at O;rw[hz]at M;obtain⟨_,e',e0,d4,d1,g1,g2,g3⟩:=O.os_arr A;rw[A]at g1
 cases g1
 have a5:=g3 hk.2;obtain⟨a2,c2,Y,U,a3,d0,a1,H,hA,c0⟩:=M.vs_inv.vs_inv;obtain⟨h0,vs,C,D,a9,W⟩:=hW.box n _ A;obtain⟨g,a4,m,fz,Z,b2,b3,b4,b5,b6,b7⟩:=kx C Aa
 let c:=min f.length k
 let cs:=(List.range c).map λi=>U i 0
 have d:cs.length=c:=by simp[cs]
 have c7:c<=f.length:=Nat.min_le_left _ _;have e1:c<=k:=b6w _ _
 have L: ∀i,i<f.length->∃u,f[i]? =some [u]:=λi T=>by have:=K _ (b1g T);match S:f[i],this with|[u],_=>exact⟨u,by rw[bq T,S]⟩
 have I: ∀i r j u,(f.take c)[i]? =some r->r[j]? =some u->RP (env x s hv w).pc (cs.getD (i*1+j) undef) u:=λi r j u b p=>by rw[b04]at b;split at b;{rename_i T;have V:j<1:=(by have:=(dm.1 p).1;rwa [K r (b0e b)]at this);have c1:j=0:=Aa;subst c1;have:=c0 i r 0 u b p;rw[bd];simp only[cs,b3f,b13,b0s,b2z T,b02,b1o];exact this};.cases b
 have G: ∀v∈cs,v.oneCell'=true:=we (R:=RP (env x s hv w).pc) (xs:=f.take c) (by rw[d,b0i];omega) (λr b=>K r (b1e b)) (λr b=>H r (b1e b)) I λv u h h'=>(j7 (x:=x) (s:=s) (hv:=hv) (w:=w) (.pure h) h').1;have N:(P.info? l).map (·.size)=some 1:=a7
 have J:=afy (P:=P) w t tx o.type l g 0 k a4 a2 f.length c2 m e fz cs (bx he) N b3 (tz b2) (by rw[d]) (λh=>by
   rcases b2i f.length with h|h'
   .exact h
   .obtain⟨ad,q,_⟩:=hA h';rw[q]at h;cases h) (λad S j v V=>by
   have c3:j<c:=by have:=(dm.1 V).1;rwa [d]at this
   obtain⟨d3,q,b9⟩:=hA Aa;rw[S]at q
   cases q
   obtain⟨u,p⟩:=L j Aa;have:=b9 j _ 0 u p rfl;have c5:Y=1:=by rw[<-a1 _ (b0e p)];rfl
   rw[c5,b3f,b13]at this
   have hv:v=U j 0:=by simp only[cs,b0s,b2z c3,b02,b0c]at V;exact V.symm
   rw[hv];exact this.1) (by rw[b6,d];omega) G
 have b8:=OwnM.over (P:=P) (o:=0) (cs:=cs) b2 b3 b4 b5 b6 b7 (by rw[d];omega);have F:(f.take c++xs.drop c).length=xs.length:=by rw[b0a,b0i,b1b];omega
 have hG:=hW.write (w':=w.setRow g (m.toList.take 0++cs++m.toList.drop (0+cs.length)).toArray) (B':= .arr e 1 false (f.take c++xs.drop c)) A ⟨_,rfl,by rw[F];exact b0f _,λ_=>rfl⟩ (λd2 h=>h) rfl rfl rfl Ad
  (λq S a0=>setRow_other w g q _ λeq=>a0 (by rw[Z,eq];rfl)) λE hE=>by
  refine⟨h0,vs.take 0++(cs++vs.drop (0+cs.length)),by rw[F,Z];exact b8,?_,?_,?_⟩
  .intro r b;rcases b0j.1 b with b|b
   .exact K r (b1e b)
   .exact D r (b1t b)
  .intro r b;rcases b0j.1 b with b|b
   .exact H r (b1e b)
   .exact a9 r (b1t b)
  .have:=agl (R:=RP E.pc) (o:=0) (zs:=f.take c) (by rw[C.1,b3f]) (λi r j u b p=>(W i r j u b p).mono hE.pc) D (λr b=>K r (b1e b)) (by rw[d,b0i];omega) (λi r j u b p=>(I i r j u b p).mono hE.pc) (by rw[d];omega);have e9:xs.take 0++(f.take c++xs.drop (0+cs.length))=f.take c++xs.drop c:=by rw[d,b2d,b1u,b1w]
   rw[e9]at this;exact this
 unfold Oper.wp
 have a6:(execOp a.eval o).run P w= .ok (.value (.int .i64 (c:Nat))) (w.setRow g (m.toList.take 0++cs++m.toList.drop (0+cs.length)).toArray):=by have:=J;rw[d]at this;simp only[execOp,ho,resolve,invoke,builtin,b0v,b1r,b0w,List.map_toArray,b07,b0o,a5,Z,a3];rw[<-hk.2];simp[this,goInt,d]
 rw[a6,b1p];exact X _ hv _ hG.1 hG.2 (.pure (.int _ _))
theorem amd{tx B:TypeId}{i j G:Nat}(ho:o.op= .call {callee:= .builtin .copy,args:= #[y,z],argTypes:= #[t,tx]})(hy:ρ y= .oss n k i m)(hz:ρ z= .oss n k j G)
  (hB:ai σ n=some (.arh e 1 xs)) (hk:k=xs.length) (a1:i+m<=k) (a2:j+G<=k) (a3:i<k) (a4:j<k) (he:cw P t=some B) (b9:dx P B=some 1):
  LOp P o ρ σ (.int .i64 ((min G m:Nat):Int)) [(n,.arh e 1 (xs.take i++((xs.drop j).take (min G m)++xs.drop (i+min G m))))] [n]:=by
 refine⟨Ad,λs hs x a O w hW F c5 Q a5=> ?_⟩;have J:s n=some (.arh e 1 xs):=(hs n Ad).trans hB;have Y:=F y A7;have W:=F z A7;rw[hy]at Y;rw[hz]at W;obtain⟨q1,c1,a0,p1⟩:=Y.oss_inv;obtain⟨q2,c2,a9,p2⟩:=W.oss_inv;obtain⟨_,B1,s1,l1,f1,f2,f3,f4⟩:=p1;obtain⟨_,B2,s2,l2,f5,f6,f7,f8⟩:=p2;rw[J]at f1 f5
 cases f1
 cases f5
 simp only[Box.dim,b0c,b0t]at f2 f6;obtain⟨rfl,rfl⟩:=f2;obtain⟨rfl,rfl⟩:=f6;obtain⟨b,c,T,r2⟩:=f4 hk a3;obtain⟨b',c',r3,r4⟩:=f8 hk a4;rw[T]at r3;simp only[b33,b0c,b54,b7x,b8e]at r3;obtain⟨rfl,rfl⟩:=r3;simp only[Value.pointer.injEq,b0c,b3f,b13]at r2 r4;subst r2 r4;obtain⟨h0,L,l,A,D,H⟩:=hW.box n _ J;obtain⟨g,c7,C,fz,b1,b2,b3,b4,b5,b6,b7⟩:=kx l Aa;rw[T]at b1;simp only[b33,b0c,b54,b7x]at b1;obtain⟨rfl,rfl,rfl⟩:=b1;have I:L.length=xs.length:=by rw[l.1,b3f]
 let cc:=min G m
 have d0:cc<=m:=b6w _ _;have c3:cc<=G:=Nat.min_le_left _ _
 let cs:=(L.drop j).take cc
 have f:cs.length=cc:=by simp only[cs,b0i,b1b,I];omega
 have K: ∀v∈L,v.oneCell'=true:=we (R:=RV (env x s O w)) I A D H λv u h h'=>(j7 h h').1;have S: ∀v∈cs,v.oneCell'=true:=λv O=>K v (b1t (b1e O));have X:(P.info? B).map (·.size)=some 1:=b9;rw[T]at l
 have U:=afy (P:=P) w t tx o.type B b i m c1 (some ⟨b,j,none⟩) G c2 C e fz cs (bx he) X b3 (tz b2) (by rw[f]) (λh=>D1) (λad hq p v hp=>by
   cases hq
   have V:p<cc:=by have:=(dm.1 hp).1;rwa [f]at this
   rw[fh];rw[hk]at l;have:=l.cellAt (j+p) Aa;rw[this];simp only[cs,b04,if_pos V,b1k]at hp;exact hp) (by rw[b6,f];omega) S
 have c0:=OwnM.over (P:=P) (o:=i) (cs:=cs) b2 b3 b4 b5 b6 b7 (by rw[f];omega);have M:((xs.drop j).take cc).length=cc:=E6
 have N:(xs.take i++((xs.drop j).take cc++xs.drop (i+cc))).length=xs.length:=by simp only[b0a,M,b0i,b1b];omega
 have a7: ∀E,Env.le (env x s O w) E->∀p r q u,((xs.drop j).take cc)[p]? =some r->r[q]? =some u->RV E (cs.getD (p*1+q) undef) u:=λE Z p r q u d hu=>by rw[b04]at d;split at d;{rename_i V;rw[b1k]at d;have hq:q<1:=(by have:=(dm.1 hu).1;rwa [A r (b0e d)]at this);have:=(H _ r q u d hu).mono Z;rw[bd]at this ⊢;simp only[cs];rw[b04,if_pos Aa,b1k];have e2:j+(p*1+q)=(j+p)*1+q:=Aa;rw[e2];exact this};.cases d
 have hG:=hW.write (w':=w.setRow b (C.toList.take i++cs++C.toList.drop (i+cs.length)).toArray) (B':= .arh e 1 (xs.take i++((xs.drop j).take cc++xs.drop (i+cc)))) J ⟨_,rfl,by rw[N];exact b0f _,λ_=>rfl⟩ (λc6 h=>h) rfl rfl rfl Ad
  (λq hq a6=>setRow_other w b q _ λeq=>a6 (by rw[T,eq];rfl)) λE Z=>by
  refine⟨h0,L.take i++(cs++L.drop (i+cs.length)),by rw[N,T,hk];exact c0,?_,?_,?_⟩
  .intro r d;rcases b0j.1 d with d|d
   .exact A r (b1e d)
   .rcases b0j.1 d with d|d
    .exact A r (b1t (b1e d))
    .exact A r (b1t d)
  .intro r d;rcases b0j.1 d with d|d
   .exact D r (b1e d)
   .rcases b0j.1 d with d|d
    .exact D r (b1t (b1e d))
    .exact D r (b1t d)
  .have:=agl (R:=RV E) (o:=i) (zs:=(xs.drop j).take cc) I (λp r q u d hu=>(H p r q u d hu).mono Z) A (λr d=>A r (b1t (b1e d))) (by rw[f,M]) (a7 E Z) (by rw[f];omega);rw[f]at this ⊢;exact this
 unfold Oper.wp
 have b8:(execOp a.eval o).run P w= .ok (.value (.int .i64 (cc:Nat))) (w.setRow b (C.toList.take i++cs++C.toList.drop (i+cs.length)).toArray):=by have:=U;simp only[execOp,ho,resolve,invoke,builtin,b0v,b1r,b0w,List.map_toArray,b07,b0o,a0,a9];simp[this,goInt,f]
 rw[b8,b1p];exact a5 _ O _ hG.1 hG.2 (.pure (.int _ _))
def aao(sz:Nat):Nat->List (Nat×PV)->Option (List LP)
 |_,[]=>some []
 |k,(i,u)::r=>
  if i=k then
   match ei u with
   |some us=>if us.length=sz/\us.all fy=true then
     match aao sz (k+1) r with
     |some xs=>some (us::xs)
     |none=>none
    else none
   |none=>none
  else none
theorem anm: ∀{qs:List (Nat×PV)} {k:Nat} {xs:List LP},aao sz k qs=some xs->xs.length=qs.length/\(∀r∈xs,r.length=sz)/\∀r∈xs,r.all fy=true
 |[],k,xs,h=>by cases h;simp
 |(i,u)::qs,k,xs,h=>by
  simp only[aao]at h;split at h
  .cases hc:ei u with
   |none=>rw[hc]at h;cases h
   |some us=>
    rw[hc]at h;simp only at h;split at h
    .rename_i hus
     cases hq:aao sz (k+1) qs with
     |none=>rw[hq]at h;cases h
     |some q=>
      rw[hq]at h
      cases h
      obtain⟨h1,h2,h3⟩:=anm hq;refine⟨Du,λr a=> ?_,λr a=> ?_⟩
      .rcases b0p.1 a with rfl|a
       .exact hus.1
       .exact h2 r a
      .rcases b0p.1 a with rfl|a
       .exact hus.2
       .exact h3 r a
    .cases h
  .cases h
theorem aea: ∀(qs:List (Nat×PV)) (k:Nat) (vs:List Value) {xs:List LP},aao sz k qs=some xs->
  vs.length=qs.length->(∀(i:Nat) (v:Value) (q:Nat×PV),vs[i]? =some v->qs[i]? =some q->RV (env x s hv w) v q.2)->
  (∀v∈vs,v.cells.size=sz)/\(∀(i:Nat) (q:Nat×PV),qs[i]? =some q->q.1=k+i)/\
   ∀(i:Nat) (r:LP) (v:Value) (j:Nat) (u:PV),xs[i]? =some r->vs[i]? =some v->r[j]? =some u->RV (env x s hv w) (v.cells.getD j undef) u
 |[],k,[],xs,hr,_,_=>by cases hr;simp
 |(i,u)::qs,k,v::vs,xs,hr,hl,hrv=>by
  simp only[aao]at hr;split at hr
  .rename_i hik
   cases hc:ei u with
   |none=>rw[hc]at hr;cases hr
   |some us=>
    rw[hc]at hr;simp only at hr;split at hr
    .rename_i hus
     cases hq:aao sz (k+1) qs with
     |none=>rw[hq]at hr;cases hr
     |some q=>
      rw[hq]at hr
      cases hr
      have hcs:=fu (hrv 0 v (i,u) rfl rfl) hc;obtain⟨d,b,c⟩:=aea qs (k+1) vs hq Cg (λj v q hv hq=>hrv (j+1) v q Fu Cq);refine⟨?_,?_,?_⟩
      .intro v' a;rcases b0p.1 a with rfl|a
       .rw[hcs.1,hus.1]
       .exact d v' a
      .intro j q hjq
       cases j with
       |zero=>simp at hjq;subst hjq;exact hik
       |succ j=>have:=b j q Fb;omega
      .intro j r v' m u' hr a hu'
       cases j with
       |zero=>
        simp at hr a;subst hr a
        exact hcs.2 m u' hu'
       |succ j=>exact c j r v' m u' Fv A6 hu'
    .cases hr
  .cases hr
 |[],_,_::_,_,_,hl,_=>B0
 |_::_,_,[],_,_,hl,_=>B0
theorem SimW.newArrH{a:Array Value}(h:SimW x s hv w)(o:s d=none)(g:0<sz)(l:xs.length<=n)(t:n<=maxLen)(m:a.size=n*sz)
  (c: ∀x∈xs,x.length=sz) (f: ∀x∈xs,x.all fy=true) (p: ∀i r j u,xs[i]? =some r->r[j]? =some u->RV (env x s hv w) (a.getD (i*sz+j) undef) u):
  SimW x (upd s d (some (.arh e sz xs))) (upd hv d (.slice (some ⟨w.heap.size,0,none⟩) xs.length n)) (w.alloc (.cells a e))/\
   Env.le (env x s hv w) (env x (upd s d (some (.arh e sz xs))) (upd hv d (.slice (some ⟨w.heap.size,0,none⟩) xs.length n)) (w.alloc (.cells a e))):=
 h.new o rfl rfl rfl Ad (λb hb=>heap_alloc_old w _ hb) (λb hb=>by simp[blk]at hb;omega) λE hE=>by
  have hle:xs.length*sz<=n*sz:=b08 _ l;refine⟨g,a.toList.take (xs.length*sz),⟨by simp[m,hle],.inr ⟨w.heap.size,n,a,(0,0),rfl,.inl rfl,heap_alloc_new w _,l,t,m,rfl⟩⟩,c,f,λi r j u hr' hu=> ?_⟩;have hi:i<xs.length:=(dm.1 hr').1
  have hj:j<sz:=by
   have:=(dm.1 hu).1;rw[c r (b0e hr')]at this;exact this
  have k:=jr hi hj;have:=p i r j u hr' hu
  have q:(a.toList.take (xs.length*sz)).getD (i*sz+j) undef=a.getD (i*sz+j) undef:=by
   rw[bd,b04,if_pos k];simp
  rw[q];exact this.mono hE
theorem aro(hd:ai σ d=none)(g:0<sz)(b: ∀x∈xs,x.length=sz)(c: ∀x∈xs,x.all fy=true)
  (h: ∀(x:Ctx P) (s:St) (a:Act) (hv:Nat->Value) (w:World),SimW x s hv w->(∀y∈o.op.operands,RV (env x s hv w) (a.eval y) (ρ y))->
   ∃arr n,(execOp a.eval o).run P w= .ok (.value (.slice (some ⟨w.heap.size,0,none⟩) xs.length n)) (w.alloc (.cells arr e))/\xs.length<=n/\n<=maxLen/\arr.size=n*sz/\
    ∀i r j u,xs[i]? =some r->r[j]? =some u->RV (env x s hv w) (arr.getD (i*sz+j) undef) u):
  LOp P o ρ σ (.os d xs.length) [(d,.arh e sz xs)] [d]:=by refine⟨Ad,λs hs x a hv w p f l Q t=> ?_⟩;obtain⟨arr,n,q,v,B,z,A⟩:=h x s a hv w p f;have k:s d=none:=(hs d Ad).trans hd;have m:=p.newArrH (e:=e) k g v B z b c A;unfold Oper.wp;rw[q,b1p];exact t _ (upd hv d (.slice (some ⟨w.heap.size,0,none⟩) xs.length n)) _ m.1 m.2 (.os ⟨⟨_,_,rfl⟩,.arh e sz xs,sz,xs.length,Bj,rfl,b0f _,λ_=>Ad⟩)
theorem aeb{t c:Nat}{b:Array (Nat×Operand)}(O:o.op= .buildSlice t c b)
  (X:cw P t=some e) (E:dx P e=some sz) (h0:0<sz) (H:(az P e).isSome=true) (k:c=b.size) (K:c*sz<=16777216) (N:aao sz 0 (b.toList.map λp=>(p.1,ρ p.2))=some xs) (hd:ai σ d=none):
  LOp P o ρ σ (.os d xs.length) [(d,.arh e sz xs)] [d]:=by
 obtain⟨C,y,G⟩:=anm N;have F:xs.length=c:=by rw[C,k];simp
 refine aro hd h0 y G λx s a hv w hW m=> ?_;obtain⟨zs,H⟩:=b1y.1 H;obtain⟨it,z,V,T,h3⟩:=iz H
 let ps:=b.toList.map λp=>(p.1,a.eval p.2)
 obtain⟨U,S,Q⟩:=aea (x:=x) (s:=s) (hv:=hv) (w:=w) _ 0 (ps.map (·.2)) N Eb (λi v q f g=>by
  simp only[ps,b66,b0s]at f g
  cases hp:b.toList[i]? with
  |none=>rw[hp]at g;cases g
  |some p=>
   rw[hp]at g f
   cases g
   cases f
   refine m p.2 ?_;simp only[O,Op.operands,b5x,b0z];simp;exact⟨p.1,Bs⟩)
 have D:ps=((ps.map (·.2)).zipIdx 0).map λp=>(p.2,p.1):=ri ps 0 λi q g=>by simp only[ps,b0s]at g;cases hp:b.toList[i]? with|none=>rw[hp]at g;cases g|some p=>rw[hp]at g;cases g;exact S i (p.1,ρ p.2) F0
 let zc:Array Value:=if c*sz=0 then #[]else z.cells
 obtain⟨A,B,Z,f3,R⟩:=abf (sz:=sz) (ps.map (·.2)) 0 ((Array.range (c*sz)).map (zc[· % zc.size]!)) U (by simp[ps,k]);have J:xs.length=c:=F;refine⟨A,c,?_,Aa,?_,by rw[Z];simp,λi r j u l M=> ?_⟩
 .have hmap:(b.map λ(i,x)=>(i,a.eval x)).toList=ps:=Eb;have I:(zeroValue e).run P w= .ok z w:=(by simp[zeroValue,typeInfo,V,T]);simp only[execOp,O];rw[b0v];have W:(Instr.buildSlice t c (b.map λ(i,x)=>(i,a.eval x))).run P w= .ok (.slice (some ⟨w.heap.size,0,none⟩) c c) (w.alloc (.cells A e)):=(by unfold Instr.buildSlice;simp only[b0v,run_underlying (bx X),b0w,eo E];rw[if_neg Av];rw[hmap,D];by_cases h:c*sz=0;{simp only[zc,h,b4i]at B;simp only[h,b4i,b0v,b1r,b0w,B];simp[newRow]};.simp only[zc,h,b25]at B;simp only[h,b25,b0v,I,b1r,b0w,B];simp[newRow]);rw[W,J];rfl
 .simp only[maxLen];have:=b3e c h0;omega
 .have hi:i<xs.length:=(dm.1 l).1;have Y:j<sz:=(by have:=(dm.1 M).1;rw[y r (b0e l)]at this;exact this);have n:i<(ps.map (·.2)).length:=(by simp[ps];omega);have f:(ps.map (·.2))[i]? =some ((ps.map (·.2))[i]'n):=bq n;have L:=R i _ j f Y;rw[b1w]at L;have:=Q i r _ j u l f M;rw[b1c]at this ⊢;rw[L];exact this
theorem aiw{t e2:Nat}{j:Nat}{h:List LP}(ho:o.op= .call {callee:= .builtin .append,args:= #[y,z],argTypes:= #[t,tx]})
  (hT:AppT P t tx e sz bytes) (hy:ρ y= .os n k) (hB:ai σ n=some (.arh e sz xs)) (hk:k=xs.length) (q:(xs.length+h.length)*bytes<=140737488355328)
  (C:ρ z= .os m j) (hM:ai σ m=some (.arh e2 sz h)) (T:j=h.length):
  LOp P o ρ σ (.os n (k+h.length)) [(n,.arh e sz (xs++h))] [n,m]:=by refine⟨Ad,λs hs x a hv w hW A a4 Q X=> ?_⟩;have D:s n=some (.arh e sz xs):=(hs n Ad).trans hB;have L:s m=some (.arh e2 sz h):=(hs m Ad).trans hM;have S:=A y A7;have R:=A z A7;rw[hy]at S;rw[C]at R;obtain⟨_,B',a6,l',h1,U,h2,h3⟩:=S.os_inv;rw[D]at h1;cases h1;cases U;have W:=h3 hk;obtain⟨_,B2,a5,l2,q1,qd,q2,q3⟩:=R.os_inv;rw[L]at q1;cases q1;cases qd;have a1:=q3 T;obtain⟨h0,vs,B,F,a3,V⟩:=hW.box n _ D;obtain⟨_,d,b,I,H,N⟩:=hW.box m _ L;have G: ∀u∈d,u.oneCell'=true:=λu O=>(by obtain⟨p,hp,Y⟩:=b1f.1 O;have a0:p<h.length*sz:=(by rw[<-b.1];exact hp);have hi:p/sz<h.length:=b52 (by rw[b3a];exact a0);have T:p % sz<(h[p/sz]).length:=(by rw[I _ (b1g hi)];exact b6m _ h0);have h4:=N (p/sz) _ (p % sz) _ (bq hi) (bq T);rw[b3a,b5a,bd,bq hp,Y]at h4;exact(j7 h4 (b06.1 (H _ (b1g hi)) _ (b1g T))).1);have K:Src P w sz (a.eval z) h.length d:=(by rw[a1];rcases b.2 with ⟨v,C⟩|⟨g,J,Z,fz,v,_⟩;{have hx:d=[]:=b0u (by rw[b.1,C,b67]);subst hx;rw[v,C];exact⟨λ_=>rfl,rfl,rfl,Ad,G⟩};.rw[v];rw[v]at b;have hc:=b.cells (g:=g) rfl;exact⟨λ_=>rfl,dv sz _ _ _ _ d b.1 hc,dv sz _ _ _ _ d b.1 hc,b.1,G⟩);obtain⟨v',w',M,k1,k2,k3,k4,k5⟩:=hT.run (ty:=o.type) B K q;have hG:=hW.growH (zs:=h) (v':=v') D k2 k3 (λC=>k4 (by simp[C])) λE hE=>(by refine⟨h0,vs++d,Ee,?_,?_,?_⟩;{intro r f;rcases b0j.1 f with f|f;{exact F r f};.exact I r f};{intro r f;rcases b0j.1 f with f|f;{exact a3 r f};.exact H r f};.exact zq B.1 (λi r j u f O=>(V i r j u f O).mono hE) F (λi r j u f O=>(N i r j u f O).mono hE));unfold Oper.wp;have a2:(execOp a.eval o).run P w= .ok (.value v') w':=(by simp[execOp,ho,resolve,invoke,builtin,W,M]);rw[a2,b1p];have l: ∃a c,v'= .slice a (k+h.length) c:=(by rcases k1.2 with ⟨v,C⟩|⟨g,J,Z,fz,v,_⟩;{exact⟨none,0,by rw[v,show k+h.length=0 from Aa]⟩};.exact⟨_,J,by rw[v,hk]⟩);refine X v' _ w' hG.1 hG.2 (.os ⟨l,.arh e sz (xs++h),sz,_,Bj,rfl,?_,λ_=>Ad⟩);rw[b0a,hk];exact b0f _
end Go.Proofs.Am
