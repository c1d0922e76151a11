/- AmTwo. -/
import Derived.Test.YtlaoaleoeknhoaaGreatDoorAmOne
import Derived.MapKept
import Derived.Maps.RangeRun
import Derived.Carry
set_option linter.unusedSimpArgs false
set_option linter.unusedVariables false
namespace Go.Proofs.Am
open Go Go.RowKit
variable {P:Program}{σ:ASt}{w:World}{o:Oper}{ρ:Operand->PV}{e n p pos sz:Nat}{q v:Value}{e' k t:TypeId}{x:Ctx P}{xs:List LP}{hv:Nat->Value}{s:St}{y z:Operand}{K:KT}{a ns:LN}{kq u u':PV}{i:Int}{l:LB}{kd:IntKind}{d dk:TypeDesc}{r:Option Nat}{pc:Addr->Value->Prop}{es:List (PV×PV)}
theorem SimW.growH{w':World}{zs:List LP}{v':Value}
  (h:SimW x s hv w) (o:s n=some (.arh e sz xs))
  (y:w.grownBy w' (hv n).ownBlock)
  (u:blk v'=blk (hv n)\/∃b,blk v'=some b/\w.heap.size<=b) (K:zs=[]->v'=hv n)
  (I: ∀E,Env.le (env x s hv w) E->BoxRep P E w' v' (.arh e sz (xs++zs))):
  SimW x (upd s n (some (.arh e sz (xs++zs)))) (upd hv n v') w'/\Env.le (env x s hv w) (env x (upd s n (some (.arh e sz (xs++zs)))) (upd hv n v') w'):=by have z: ∀v:Value,(∃B,OwnM P w e sz v xs.length B)->v.ownBlock=blk v:=(by rintro v ⟨B,N⟩;rcases N.2 with ⟨rfl,_⟩|⟨g,L,O,S,rfl,_⟩<;>rfl);obtain⟨h0,B,D,_⟩:=h.box n _ o;have F:(hv n).ownBlock=blk (hv n):=z _ ⟨B,D⟩;have j: ∀b,b<w.heap.size->blk (hv n)≠some b->w'.heap[b]? =w.heap[b]?:=λb d q=>y.block b d (by rw[F];exact λe=>q e.symm);have H:Env.le (env x s hv w) (env x (upd s n (some (.arh e sz (xs++zs)))) (upd hv n v') w'):=(by refine qh (λa v r=> ?_) λm C c=> ?_;{refine⟨?_,r.2.1,λm C c d=> ?_⟩;{by_cases q:blk (hv n)=some a.block;{have t:=r.2.2 n _ o q;exact t.elim};.exact(b2y (j a.block r.lt q)).trans r.1};.by_cases f:m=n;{subst f;rw[av]at c d;cases c;rcases u with l|⟨b,l,J⟩;{have t:=r.2.2 m _ o (l ▸ d);exact t.elim};.rw[l]at d;have Q:=r.lt;have:b=a.block:=Aq;omega};.rw[ak _ _ f]at c d;exact r.2.2 m C c d};.by_cases f:m=n;{subst f;rw[o]at c;cases c;refine⟨_,av _ _ _,_,rfl,Ad,λG=> ?_⟩;rw[av];exact K (b0u (by rw[b0a]at G;omega))};.exact⟨C,by rw[ak _ _ f];exact c,Fp⟩);refine⟨h.step y.os y.tape y.output y.size H (λm f=>Aw) (λb d R=>j b (b24 d h.size) λe=> ?_) λm C c=> ?_,H⟩;{rcases h.loc n _ b o e with l|l;{omega};.exact R l};.by_cases f:m=n;{subst f;rw[av]at c;cases c;refine .inr ⟨by rw[av];exact I _ H,λp t=>Box.keep_trans (h.ext m p _ t o) ⟨_,rfl,Ad,λG=>by rw[av];exact K (b0u (by rw[b0a]at G;omega))⟩,λb d=> ?_⟩;rw[av]at d;rcases u with l|⟨M,l,J⟩;{rw[l]at d;refine⟨h.loc m _ b o d,λk C A c i=> ?_⟩;rw[ak _ _ A]at c i;exact A (h.inj k m C _ b c o i d)};.rw[l]at d;have:M=b:=Aq;subst this;refine⟨.inl (b1l h.size J),λk C A c i=> ?_⟩;rw[ak _ _ A]at c i;have:=h.blk_lt c i;omega};.rw[ak _ _ f]at c;refine .inl ⟨c,ak _ _ f,λb d=>j b (h.blk_lt c d) λe=> ?_⟩;exact f (h.inj m n C _ b c o d e)
theorem anu{k i off m:Nat}{us:LP}(ho:o.op= .store t y z)(hy:ρ y= .oel n k i off)
  (hB:ai σ n=some (.arh e sz xs)) (hk:k=xs.length) (hi:i<k) (A:ei (ρ z)=some us) (hm:dx P t=some m) (B:us.length=m) (d2:off+m<=sz) (L:us.all fy=true):
  LOp P o ρ σ .undef [(n,.arh e sz (xs.set i ((xs.getD i []).take off++us++(xs.getD i []).drop (off+m))))] [n]:=by refine⟨Ad,λs hs x a hv w hW M c5 Q hn=> ?_⟩;.have hsn:s n=some (.arh e sz xs):=(hs n Ad).trans hB;have b2:=M y C6;have c1:=M z C6;rw[hy]at b2;obtain⟨_,B',d0,l',h1,b3,D,h3⟩:=b2.oel_inv;rw[hsn]at h1;cases h1;cases b3;obtain⟨b,c,hb,c2⟩:=h3 hk hi;have S:=fu c1 A;obtain⟨h0,ys,b9,l,H,hrr⟩:=hW.box n _ hsn;obtain⟨g,d1,f,fz,Y,a3,Z,a2,c3,K,b6⟩:=kx b9 Aa;rw[hb]at Y;cases Y;let vs:=(a.eval z).cells.toList;have T:vs.length=m:=(by simp[vs];rw[S.1,B]);have a6: ∀j u,us[j]? =some u->RV (env x s hv w) (vs.getD j undef) u:=λj u hj=>(by have:=S.2 j u hj;rw[b1c]at this;simpa [vs,bd] using this);have V: ∀v∈vs,v.oneCell'=true:=λv b8=>(by obtain⟨j,hj,b7⟩:=b1f.1 b8;have J:j<us.length:=Aa;have h1:=a6 j us[j] (bq J);have D:vs.getD j undef=v:=(by rw[bd,bq hj,b7];rfl);rw[D]at h1;exact(j7 h1 (b06.1 L _ (b1g J))).1);have F:i<xs.length:=Aa;have N:(xs.getD i []).length=sz:=l _ (b0e (by rw[bd,bq F];rfl:xs[i]? =some (xs.getD i [])));have c7:i*sz+(off+m)<=xs.length*sz:=(by have:(i+1)*sz<=xs.length*sz:=b08 _ F;rw[b2a]at this;omega);have a9:xs.length*sz<=c*sz:=b08 _ a2;have a0:=dj P b (i*sz+off) e fz vs 0 f w Z (tz a3) (by rw[K,T];omega) V;simp only[b13]at a0;let row':=(xs.getD i []).take off++us++(xs.getD i []).drop (off+m);have G:row'.length=sz:=(by simp only[row',b0a,b0i,b1b,N,B];omega);let cur':=(f.toList.take (i*sz+off)++vs++f.toList.drop (i*sz+off+vs.length)).toArray;have I:cur'.size=f.size:=(by simp[cur',T];omega);have a1:=hW.write (w':=w.setRow b cur') (B':= .arh e sz (xs.set i row')) hsn (by simp[Box.keep,Box.dim]) (λoff h=>h) rfl rfl rfl Ad (λk hk b5=>setRow_other w b k _ λe=>b5 (by rw[hb,e];rfl)) λE hE=>(by have U: ∀j,cur'[j]? =if j<i*sz+off then f[j]? else if j<i*sz+off+m then vs[j - (i*sz+off)]? else f[j]?:=λj=>(by simp only[cur',b3t];rw[b0m,b1q];have X:(f.toList.take (i*sz+off)).length=i*sz+off:=(by simp[K];omega);rw[X];by_cases D:j<i*sz+off;{rw[if_pos D,if_pos D,b04,if_pos D];simp};.rw[if_neg D,if_neg D,b1q,T];by_cases h3:j<i*sz+off+m;{rw[if_pos h3,if_pos Aa]};.rw[if_neg h3,if_neg Aa,b1k,show i*sz+off+m+(j - (i*sz+off) - m)=j from Aa];simp);refine⟨h0,cur'.toList.take (xs.length*sz),?_,?_,?_,λp r j u d A=> ?_⟩;{rw[b15];exact⟨by simp[I,K,a9],.inr ⟨b,c,cur',fz,hb,by rw[I];exact a3,setRow_heap w b f cur' e _ Z,a2,c3,by rw[I,K],rfl⟩⟩};{intro r d;rcases b2f d with d|d;{exact l r d};.rw[d,G]};{intro r d;rcases b2f d with d|d;{exact H r d};.have hro:=H _ (b0e (by rw[bd,bq F];rfl:xs[i]? =some (xs.getD i [])));rw[d];simp only[row',List.all_append,L,b6s,b0l];exact⟨b06.2 λu A=>b06.1 hro u (b1e A),b06.2 λu A=>b06.1 hro u (b1t A)⟩};.have hpl:p<xs.length:=F9;have c0:r.length=sz:=(by rcases b2f (b0e d)with d|d;{exact l r d};.rw[d,G]);have b4:j<sz:=(by have:=(dm.1 A).1;rwa [c0]at this);rw[b2x]at d;have a5:=jr hpl b4;have O:(cur'.toList.take (xs.length*sz)).getD (p*sz+j) undef=(cur'[p*sz+j]?).getD undef:=(by rw[bd,b04,if_pos a5];simp);have C: ∀q j' u',xs[q]? =some r\/True->∀r',xs[q]? =some r'->r'[j']? =some u'->RV E ((f[q*sz+j']?).getD undef) u':=λq j' u' _ r' R a7=>(by have hq:q<xs.length:=(dm.1 R).1;have J:j'<sz:=(by have:=(dm.1 a7).1;rw[l r' (b0e R)]at this;exact this);have h4:=hrr q r' j' u' R a7;rw[<-b6,bd,b04,if_pos (jr hq J)]at h4;simpa using h4.mono hE);rw[O,U];by_cases W:i=p;{subst W;rw[if_pos rfl,if_pos F]at d;cases d;have hg:xs[i]? =some (xs.getD i []):=(by rw[bd,bq F];rfl);simp only[row']at A;rw[b0m,b1q]at A;have X:((xs.getD i []).take off).length=off:=(by rw[b0i,N];omega);rw[X]at A;by_cases D:j<off;{rw[if_pos D,b04,if_pos D]at A;rw[if_pos Aa];exact C i j u (.inr trivial) _ hg A};.rw[if_neg D,b1q,B]at A;rw[if_neg Aa];by_cases h3:j<off+m;{rw[if_pos Aa]at A;rw[if_pos Aa,show i*sz+j - (i*sz+off)=j - off from Aa];have c6:j - off<us.length:=Aa;have h5:=a6 (j - off) u A;rw[bd]at h5;exact h5.mono hE};.rw[if_neg Aa,b1k,show off+m+(j - off - m)=j from Aa]at A;rw[if_neg Aa];exact C i j u (.inr trivial) _ hg A};.rw[if_neg W]at d;have b1:p*sz+j<i*sz+off\/i*sz+off+m<=p*sz+j:=(by rcases b4r W with h|h;{right;have:(i+1)*sz<=p*sz:=b08 _ h;rw[b2a]at this;omega};.left;have:(p+1)*sz<=i*sz:=b08 _ h;rw[b2a]at this;omega);rcases b1 with h|h;{rw[if_pos h];exact C p j u (.inr trivial) r d A};.rw[if_neg Aa,if_neg Aa];exact C p j u (.inr trivial) r d A);unfold Oper.wp;have a4:(execOp a.eval o).run P w= .ok .skip (w.setRow b cur'):=(by simp only[execOp,ho,c2,Instr.storeAt,Instr.sureAddr];rw[b0v,b0v,b1r,b0w];unfold storeVar;rw[b0v,eo hm];simp only[b0w];rw[if_neg (by rw[S.1,B];simp),a0];rfl);rw[a4,b5p];refine hn undef hv _ ?_ ?_ (.undef _);{exact a1.1};.exact a1.2
theorem zq{E:Env}{zs:List LP}{b a:List Value}(g:b.length=xs.length*sz)(k: ∀i x j u,xs[i]? =some x->x[j]? =some u->RV E (b.getD (i*sz+j) undef) u)
  (f: ∀x∈xs,x.length=sz) (d: ∀i x j u,zs[i]? =some x->x[j]? =some u->RV E (a.getD (i*sz+j) undef) u):
  ∀i x j u,(xs++zs)[i]? =some x->x[j]? =some u->RV E ((b++a).getD (i*sz+j) undef) u:=by intro i x j u hx c;rw[b1q]at hx;by_cases h:i<xs.length;{rw[if_pos h]at hx;have l:j<sz:=(by have:=(dm.1 c).1;rw[f x (b0e hx)]at this;exact this);rw[lf (by rw[g];exact jr h l)];exact k i x j u hx c};.rw[if_neg h]at hx;have e:b.length<=i*sz+j:=(by rw[g];have:xs.length*sz<=i*sz:=b08 _ Aa;omega);rw[bd,b0y e,<-bd,g];have:i*sz+j - xs.length*sz=(i - xs.length)*sz+j:=(by rw[b5l];have:xs.length*sz<=i*sz:=b08 _ Aa;omega);rw[this];exact d _ x j u hx c
theorem aey{t tx bytes:Nat}{k:Nat}{l:List LP}{F:LN}(V:o.op= .call {callee:= .builtin .append,args:= #[y,z],argTypes:= #[t,tx]})
  (hT:AppT P t tx e sz bytes) (hy:ρ y= .os n k) (hB:ai σ n=some (.arh e sz xs)) (U:k=xs.length) (f:(xs.length+l.length)*bytes<=140737488355328)
  (H: ∀(s:St),(∀m∈F,s m=ai σ m)->∀(x:Ctx P) hv w v,SimW x s hv w->RV (env x s hv w) v (ρ z)->aam P (env x s hv w) w sz v l):
  LOp P o ρ σ (.os n (k+l.length)) [(n,.arh e sz (xs++l))] (n::F):=by refine⟨Ad,λs hs x a hv w Y h a0 Q O=> ?_⟩;have q:s n=some (.arh e sz xs):=(hs n Ad).trans hB;have G:=h y (by simp[V,Op.operands,Call.operands]);have X:=h z (by simp[V,Op.operands,Call.operands]);rw[hy]at G;obtain⟨_,B',a2,l',h1,I,h2,h3⟩:=G.os_inv;rw[q]at h1;cases h1;cases I;have L:=h3 U;obtain⟨Z,W,C,A,S⟩:=H s (λm hm=>hs m Dg) x hv w _ Y X;obtain⟨h0,vs,p,B,R,J⟩:=Y.box n _ q;obtain⟨v',w',D,k1,k2,k3,k4,k5⟩:=hT.run (ty:=o.type) p A f;have hG:=Y.growH (zs:=l) (v':=v') q k2 k3 (λH=>k4 (by simp[H])) λE hE=>(by refine⟨h0,vs++C,Ee,?_,?_,?_⟩;{intro r b;rcases b0j.1 b with b|b;{exact B r b};.exact Z r b};{intro r b;rcases b0j.1 b with b|b;{exact R r b};.exact W r b};.exact zq p.1 (λi r j u b T=>(J i r j u b T).mono hE) B (λi r j u b T=> .pure ((S i r j u b T).mono hE.pc)));unfold Oper.wp;have N:(execOp a.eval o).run P w= .ok (.value v') w':=(by simp[execOp,V,resolve,invoke,builtin,L,D]);rw[N,b1p];have d: ∃a c,v'= .slice a (k+l.length) c:=(by rcases k1.2 with ⟨M,H⟩|⟨g,K,a1,fz,M,_⟩;{exact⟨none,0,by rw[M,show k+l.length=0 from Aa]⟩};.exact⟨_,K,by rw[M,U]⟩);refine O v' _ w' hG.1 hG.2 (.os ⟨d,.arh e sz (xs++l),sz,_,Bj,rfl,?_,λ_=>Ad⟩);rw[b0a,U];exact b0f _
def bob(P:Program)(t tx:TypeId)(dst:Option Nat)(σ:ASt)(u v:PV)(K:KT):Prop:=
 ∃e sz bytes,cw P t=some e/\dx P e=some sz/\bytesOf P e=some bytes/\(∃zs,az P e=some zs/\zs.length=sz)/\0<sz/\0<bytes/\
  ∃ys F,(match v with
   | .vs ys'=>ay P tx=true/\ys=ys'/\F=[]/\∀y∈ys,y.length=sz
   | .nils=>ay P tx=true/\ys=[]/\F=[]
   | .sn _=>ay P tx=true/\ys=[]/\F=[]
   | .os m k=>ay P tx=true/\(match ai σ m with|some (.arr _ sz' _ ys')=>ys=ys'/\k=ys'.length/\sz'=sz|_=>False)/\F=[m]
   | .str l=>je P tx=true/\ys=cz l/\F=[]/\sz=1
   |_=>False)/\
  match u with
  | .os n k=>(match ai σ n with|some (.arr e' sz' sh xs)=>e'=e/\sz'=sz/\k=xs.length/\(xs.length+ys.length)*bytes<=140737488355328/\K (.os n (k+ys.length)) [(n,.arr e sz sh (xs++ys))] (n::F)|some (.arh e' sz' xs)=>e'=e/\sz'=sz/\k=xs.length/\(xs.length+ys.length)*bytes<=140737488355328/\K (.os n (k+ys.length)) [(n,.arh e sz (xs++ys))] (n::F)|_=>False)
  | .nils=>(match dst with|some d=>ai σ d=none/\ys.length*bytes<=140737488355328/\K (.os d ys.length) [(d,.arr e sz false ys)] (d::F)|none=>False)
  | .vx xs=>(match dst with|some d=>ai σ d=none/\(∀x∈xs,x.length=sz)/\(xs.length+ys.length)*bytes<=140737488355328/\(ys=[]->K (.vs xs) [] F)/\(0<ys.length->K (.os d (xs.length+ys.length)) [(d,.arr e sz false (xs++ys))] (d::F))|none=>False)
  |_=>False
theorem acx{A:TypeId}(B:o.op= .call {callee:= .builtin .append,args:= #[y,z],argTypes:= #[t,A]})(h:bob P t A o.dst σ (ρ y) (ρ z) K):
  ∃u δ F,LOp P o ρ σ u δ F/\K u δ F:=by
 obtain⟨e,sz,q,G,H,L,I,J,M,E,F,f,a⟩:=h
 have i:(ay P A=true\/je P A=true)/\∀(s:St),(∀m∈F,s m=ai σ m)->∀(x:Ctx P) p w v,SimW x s p w->RV (env x s p w) v (ρ z)->aam P (env x s p w) w sz v E:=by
  split at f
  .rename_i ys' hz;obtain⟨g,rfl,rfl,j⟩:=f;exact⟨.inl g,λs hs x p w v C d=>va (by rw[hz]at d;exact d.vs_inv) j⟩
  .rename_i hz;obtain⟨g,rfl,rfl⟩:=f;exact⟨.inl g,λs hs x p w v C d=>by rw[hz]at d;rw[d.nils_inv];exact ag0⟩
  .rename_i b hz;obtain⟨g,rfl,rfl⟩:=f
   exact⟨.inl g,λs hs x p w v C d=>va (by
    rw[hz]at d
    cases d with
    |pure hq=>cases hq with
     |sn b c _=>exact .vs (sz:=0) (λ_ _=>undef) rfl (b0k _) Ad Ad Ad Ad) Ad⟩
  .rename_i m k hz;obtain⟨g,j,rfl⟩:=f;split at j;{rename_i e' sz' sh' ys' hf;obtain⟨rfl,r,rfl⟩:=j;exact⟨.inl g,λs hs x p w v C d=>au5 C ((hs m Ad).trans hf) r (by rw[hz]at d;exact d)⟩};.exact j.elim
  .rename_i l hz;obtain⟨g,rfl,rfl,rfl⟩:=f;exact⟨.inr g,λs hs x p w v C d=>by rw[hz]at d;rw[d.str_inv];exact ama⟩
  .exact f.elim
 have D:AppT P t A e sz q:=⟨G,H,L,I,J,M,i.1⟩;split at a
 .rename_i n k hy;split at a;{rename_i e' sz' sh xs hf;obtain⟨rfl,rfl,g,j,r⟩:=a;exact⟨_,_,_,ai7 B D hy hf g j i.2,r⟩};{rename_i e' sz' xs hf;obtain⟨rfl,rfl,g,j,r⟩:=a;exact⟨_,_,_,aey B D hy hf g j i.2,r⟩};.exact a.elim
 .rename_i hy;split at a;{exact⟨_,_,_,aby B D hy a.1 a.2.1 i.2,a.2.2⟩};.exact a.elim
 .rename_i xs hy;split at a;{obtain⟨g,j,r,k4,k5⟩:=a;rcases b2i E.length with h0|h0;{obtain rfl:=b0u h0;exact⟨_,_,_,ae4 B D hy i.2,k4 rfl⟩};.exact⟨_,_,_,ajy B D hy g j h0 r i.2,k5 h0⟩};.exact a.elim
 .exact a.elim
def a0c(σ:ASt):PV->Option (PV×LN)
 | .nils=>some (.nils,[])
 |u=>pur σ u
theorem yx(h:a0c σ u=some (u',a)):(u= .nils/\u'= .nils/\a=[])\/pur σ u=some (u',a):=by unfold a0c at h;split at h;{cases h;exact .inl ⟨rfl,rfl,rfl⟩};.exact .inr h
theorem axs(h:SimW x s hv w)(hs: ∀n∈a,s n=ai σ n)(c:a0c σ u=some (u',a))(e: ∀n∈a,n∈ns)
  (b:RV (env x s hv w) v u):RP (env x (a8 s ns) hv w).pc v u':=by rcases yx c with ⟨rfl,rfl,rfl⟩|d;{rw[b.nils_inv];exact .nils};.exact f9 h hs d e b
theorem az3(h:a0c σ u=some (u',a)): ∀n∈a,∃B,ai σ n=some B:=by rcases yx h with ⟨rfl,rfl,rfl⟩|b;{simp};.exact ra b
theorem bee{v:PV}(h:a0c σ u=some (v,a)):fy v=true:=by rcases yx h with ⟨rfl,rfl,rfl⟩|b;{rfl};.exact a8x b
def qc(σ:ASt):LP->Option (LP×LN)
 |[]=>some ([],[])
 |u::us=>match a0c σ u,qc σ us with
  |some (v,a),some (vs,b)=>some (v::vs,a++b)
  |_,_=>none
theorem abx(h:SimW x s hv w): ∀{us us':LP} {a:LN},(∀n∈a,s n=ai σ n)->qc σ us=some (us',a)->(∀n∈a,n∈ns)->
  us'.length=us.length/\∀(i:Nat) (u u':PV),us[i]? =some u->us'[i]? =some u'->∀v,RV (env x s hv w) v u->RP (env x (a8 s ns) hv w).pc v u'
 |[],us',a,_,hu,_=>by cases hu;simp
 |u::us,us',a,hs,hu,ha=>by
  simp only[qc]at hu
  cases h1:a0c σ u with
  |none=>rw[h1]at hu;cases hu
  |some p=>
   cases h2:qc σ us with
   |none=>rw[h1,h2]at hu;cases hu
   |some q=>
    obtain⟨p1,p2⟩:=p;obtain⟨k,j⟩:=q;rw[h1,h2]at hu;simp only[b0c,b0t]at hu;obtain⟨rfl,rfl⟩:=hu;obtain⟨d,f⟩:=abx h (us:=us) (us':=k) (a:=j) (λn b=>hs n Bf) h2 (λn b=>ha n Bf);refine⟨Bi,λi r g e c v hv=> ?_⟩
    cases i with
    |zero=>
     simp at e c;subst e c
     exact axs h (λn b=>hs n Bf) h1 (λn b=>ha n Bf) hv
    |succ i=>exact f i r g A5 Au v hv
theorem acd: ∀{us us':LP} {a:LN},qc σ us=some (us',a)->∀n∈a,∃B,ai σ n=some B
 |[],us',a,h=>by cases h;simp
 |u::us,us',a,h=>by
  simp only[qc]at h
  cases h1:a0c σ u with
  |none=>rw[h1]at h;cases h
  |some p=>
   cases h2:qc σ us with
   |none=>rw[h1,h2]at h;cases h
   |some q=>
    rw[h1,h2]at h;simp only[b0c,b0t]at h;obtain⟨_,rfl⟩:=h;intro n b;rcases b0j.1 b with b|b
    .exact az3 h1 n b
    .exact acd h2 n b
def uk(σ:ASt)(sz:Nat):Nat->List (Nat×PV)->Option (List LP×LN)
 |_,[]=>some ([],[])
 |k,(i,u)::r=>
  if i=k then
   match ei u with
   |some us=>if us.length=sz/\us.all fy=true then
     match qc σ us,uk σ sz (k+1) r with
     |some (vs,a),some (xs,b)=>some (vs::xs,a++b)
     |_,_=>none
    else none
   |none=>none
  else none
theorem adr{ns:LN}(h:SimW x s hv w): ∀(qs:List (Nat×PV)) (k:Nat) (vs:List Value) {xs:List LP} {b:LN},uk σ sz k qs=some (xs,b)->(∀n∈b,s n=ai σ n)->(∀n∈b,n∈ns)->
  vs.length=qs.length->(∀(i:Nat) (v:Value) (q:Nat×PV),vs[i]? =some v->qs[i]? =some q->RV (env x s hv w) v q.2)->
  xs.length=qs.length/\(∀r∈xs,r.length=sz)/\(∀v∈vs,v.cells.size=sz)/\(∀(i:Nat) (q:Nat×PV),qs[i]? =some q->q.1=k+i)/\
   ∀(i:Nat) (r:LP) (v:Value) (j:Nat) (u:PV),xs[i]? =some r->vs[i]? =some v->r[j]? =some u->RP (env x (a8 s ns) hv w).pc (v.cells.getD j undef) u
 |[],k,[],xs,b,hr,_,_,_,_=>by cases hr;simp
 |(i,u)::qs,k,v::vs,xs,b,hr,hs,hb,hl,hrv=>by
  simp only[uk]at hr;split at hr
  .rename_i hik
   cases hc:ei u with
   |none=>rw[hc]at hr;cases hr
   |some us=>
    rw[hc]at hr;simp only at hr;split at hr
    .rename_i hus
     cases hp:qc σ us with
     |none=>rw[hp]at hr;cases hr
     |some p=>
      cases hq:uk σ sz (k+1) qs with
      |none=>rw[hp,hq]at hr;cases hr
      |some q=>
       obtain⟨p1,p2⟩:=p;obtain⟨q1,q2⟩:=q;rw[hp,hq]at hr;simp only[b0c,b0t]at hr;obtain⟨rfl,rfl⟩:=hr;have hcs:=fu (hrv 0 v (i,u) rfl rfl) hc;obtain⟨hp1,hp2⟩:=abx (ns:=ns) h (λn hn=>hs n By) hp (λn hn=>hb n By);obtain⟨h1,h2,h3,h4,h5⟩:=adr h qs (k+1) vs hq (λn hn=>hs n By) (λn hn=>hb n By) Cg (λj v q hv hq=>hrv (j+1) v q Fu Cq);refine⟨Du,?_,?_,?_,?_⟩
       .intro r hr;rcases b0p.1 hr with rfl|hr
        .rw[hp1,hus.1]
        .exact h2 r hr
       .intro v' hv';rcases b0p.1 hv' with rfl|hv'
        .rw[hcs.1,hus.1]
        .exact h3 v' hv'
       .intro j q hjq
        cases j with
        |zero=>simp at hjq;subst hjq;exact hik
        |succ j=>have:=h4 j q Fb;omega
       .intro j r v' m u' hr hv' hu'
        cases j with
        |zero=>
         simp at hr hv';subst hr hv';have hm:m<us.length:=by rw[<-hp1];exact(dm.1 hu').1
         exact hp2 m us[m] u' (bq hm) hu' _ (hcs.2 m us[m] (bq hm))
        |succ j=>exact h5 j r v' m u' Fv (by simpa using hv') hu'
    .cases hr
  .cases hr
 |[],_,_::_,_,_,_,_,_,hl,_=>B0
 |_::_,_,[],_,_,_,_,_,hl,_=>B0
theorem abw: ∀{qs:List (Nat×PV)} {k:Nat} {xs:List LP} {b:LN},uk σ sz k qs=some (xs,b)->∀n∈b,∃B,ai σ n=some B
 |[],k,xs,b,h=>by cases h;simp
 |(i,u)::qs,k,xs,b,h=>by
  simp only[uk]at h;split at h
  .cases hc:ei u with
   |none=>rw[hc]at h;cases h
   |some us=>
    rw[hc]at h;simp only at h;split at h
    .cases hp:qc σ us with
     |none=>rw[hp]at h;cases h
     |some p=>
      cases hq:uk σ sz (k+1) qs with
      |none=>rw[hp,hq]at h;cases h
      |some q=>
       rw[hp,hq]at h;simp only[b0c,b0t]at h;obtain⟨_,rfl⟩:=h;intro n a;rcases b0j.1 a with a|a
       .exact acd hp n a
       .exact abw hq n a
    .cases h
  .cases h
theorem an2: ∀{us vs:LP} {a:LN},qc σ us=some (vs,a)->vs.length=us.length
 |[],vs,a,h=>by cases h;rfl
 |u::us,vs,a,h=>by
  simp only[qc]at h
  cases h1:a0c σ u with
  |none=>rw[h1]at h;cases h
  |some p=>
   cases h2:qc σ us with
   |none=>rw[h1,h2]at h;cases h
   |some q=>
    rw[h1,h2]at h;simp only[b0c,b0t]at h;obtain⟨rfl,_⟩:=h;simp[an2 h2]
theorem amx: ∀{us vs:LP} {a:LN},qc σ us=some (vs,a)->vs.all fy=true
 |[],vs,a,h=>by cases h;rfl
 |u::us,vs,a,h=>by
  simp only[qc]at h
  cases h1:a0c σ u with
  |none=>rw[h1]at h;cases h
  |some p=>
   cases h2:qc σ us with
   |none=>rw[h1,h2]at h;cases h
   |some q=>
    rw[h1,h2]at h;simp only[b0c,b0t]at h;obtain⟨rfl,_⟩:=h;have c:a0c σ u=some (p.1,p.2):=h1;have b:qc σ us=some (q.1,q.2):=h2;rw[List.all_cons,bee c,amx b];rfl
theorem am4: ∀{qs:List (Nat×PV)} {k:Nat} {xs:List LP} {b:LN},uk σ sz k qs=some (xs,b)->xs.length=qs.length/\(∀r∈xs,r.length=sz)/\∀r∈xs,r.all fy=true
 |[],k,xs,b,h=>by cases h;simp
 |(i,u)::qs,k,xs,b,h=>by
  simp only[uk]at h;split at h
  .cases hc:ei u with
   |none=>rw[hc]at h;cases h
   |some us=>
    rw[hc]at h;simp only at h;split at h
    .rename_i hus
     cases hp:qc σ us with
     |none=>rw[hp]at h;cases h
     |some p=>
      cases hq:uk σ sz (k+1) qs with
      |none=>rw[hp,hq]at h;cases h
      |some q=>
       rw[hp,hq]at h;simp only[b0c,b0t]at h;obtain⟨rfl,_⟩:=h;obtain⟨c,d,e⟩:=am4 hq;refine⟨Cl,λr a=> ?_,λr a=> ?_⟩
       .rcases b0p.1 a with rfl|a
        .rw[an2 hp,hus.1]
        .exact d r a
       .rcases b0p.1 a with rfl|a
        .exact amx hp
        .exact e r a
    .cases h
  .cases h
theorem adb{t c d:Nat}{b:Array (Nat×Operand)}(O:o.op= .buildSlice t c b)
  (Y:cw P t=some e) (E:dx P e=some sz) (h0:0<sz) (I:(az P e).isSome=true) (k:c=b.size) (L:c*sz<=16777216) (G:uk σ sz 0 (b.toList.map λp=>(p.1,ρ p.2))=some (xs,ns)) (hd:ai σ d=none):
  LOp P o ρ σ (.os d xs.length) (ej σ ns++[(d,.arr e sz false xs)]) (d::ns):=by
 obtain⟨C,A,H⟩:=am4 G;have F:xs.length=c:=by rw[C,k];simp
 refine yn hd h0 A H (abw G) λx s a hv w hs hW m=> ?_;obtain⟨zs,I⟩:=b1y.1 I;obtain⟨it,z,V,T,h3⟩:=iz I
 let ps:=b.toList.map λp=>(p.1,a.eval p.2)
 obtain⟨k1,k2,U,S,Q⟩:=adr (ns:=ns) hW _ 0 (ps.map (·.2)) G hs (λn X=>X) Eb (λi v q f g=>by
  simp only[ps,b66,b0s]at f g
  cases hp:b.toList[i]? with
  |none=>rw[hp]at g;cases g
  |some p=>
   rw[hp]at g f
   cases g
   cases f
   refine m p.2 ?_;simp only[O,Op.operands,b5x,b0z];simp;exact⟨p.1,Bs⟩)
 have D:ps=((ps.map (·.2)).zipIdx 0).map λp=>(p.2,p.1):=ri ps 0 λi q g=>by
  simp only[ps,b0s]at g
  cases hp:b.toList[i]? with
  |none=>rw[hp]at g;cases g
  |some p=>
   rw[hp]at g
   cases g
   exact S i (p.1,ρ p.2) F0
 let zc:Array Value:=if c*sz=0 then #[]else z.cells
 obtain⟨arr,B,f2,f3,R⟩:=abf (sz:=sz) (ps.map (·.2)) 0 ((Array.range (c*sz)).map (zc[· % zc.size]!)) U (by simp[ps,k]);have K:xs.length=c:=F;refine⟨arr,c,?_,Aa,?_,by rw[f2];simp,λi r j u l N=> ?_⟩
 .have hmap:(b.map λ(i,x)=>(i,a.eval x)).toList=ps:=Eb
  have J:(zeroValue e).run P w= .ok z w:=by simp[zeroValue,typeInfo,V,T]
  simp only[execOp,O];rw[b0v]
  have W:(Instr.buildSlice t c (b.map λ(i,x)=>(i,a.eval x))).run P w= .ok (.slice (some ⟨w.heap.size,0,none⟩) c c) (w.alloc (.cells arr e)):=by
   unfold Instr.buildSlice;simp only[b0v,run_underlying (bx Y),b0w,eo E];rw[if_neg Av];rw[hmap,D];by_cases h:c*sz=0
   .simp only[zc,h,b4i]at B;simp only[h,b4i,b0v,b1r,b0w,B];simp[newRow]
   .simp only[zc,h,b25]at B;simp only[h,b25,b0v,J,b1r,b0w,B];simp[newRow]
  rw[W,K];rfl
 .simp only[maxLen];have:=b3e c h0;omega
 .have hi:i<xs.length:=(dm.1 l).1
  have Z:j<sz:=by
   have:=(dm.1 N).1;rw[A r (b0e l)]at this;exact this
  have y:i<(ps.map (·.2)).length:=by simp[ps];omega
  have f:(ps.map (·.2))[i]? =some ((ps.map (·.2))[i]'y):=bq y;have M:=R i _ j f Z;rw[b1w]at M;have:=Q i r _ j u l f N;rw[b1c]at this ⊢;rw[M];exact this
/- Operations on abstract values: maps. -/
open Go.ChangeMaps (setBlock)
open Go.MapKept
def qw:TypeDesc->PV->Bool
 | .int k,.int k' _=>decide (k'=k)
 | .string,.str _=>true
 |_,_=>false
def ahs:PV->PV->Option Bool
 | .int k a,.int k' b=>if k=k' then some (decide (a=b))else none
 | .str a,.str b=>some (decide (a=b))
 |_,_=>none
def p8(key:PV):List (PV×PV)->Nat->Option (Option Nat)
 |[],_=>some none
 |(k,_)::r,i=>match ahs key k with
  |some true=>some (some i)
  |some false=>p8 key r (i+1)
  |none=>none
theorem ah9{key:PV}: ∀{es:List (PV×PV)} {i j:Nat},p8 key es i=some (some j)->i<=j/\∃p,es[j - i]? =some p/\ahs key p.1=some true
 |[],i,j,h=>by simp[p8]at h
 |(k,v)::r,i,j,h=>by
  simp only[p8]at h
  cases hk:ahs key k with
  |none=>rw[hk]at h;cases h
  |some b=>
   rw[hk]at h
   cases b with
   |true=>cases h;exact⟨b0f _,(k,v),by simp,hk⟩
   |false=>
    obtain⟨h1,p,h2,h3⟩:=ah9 (es:=r) h;refine⟨Aa,p,?_,h3⟩;rw[show j - i=(j - (i+1))+1 from Aa];simpa using h2
theorem axl{k:Value}{kp:PV}{b:Bool}(hd:qw d kq=true)(g:RP pc q kq)(f:RP pc k kp)(h:ahs kq kp=some b):Instr.sameNow d q k=some b:=by cases kq<;>cases kp<;>simp only[ahs]at h<;>(try (cases h;done));{rename_i k1 a k2 c;cases g;cases f;cases d<;>simp[qw]at hd;split at h;{rename_i hkk;cases h;simp only[Instr.sameNow,if_pos hkk,ua]};.cases h};.rename_i l1 l2;cases g;cases f;cases d<;>simp[qw]at hd;cases h;simp only[Instr.sameNow,b0c];rw[b3s,bytes_beq,b01];exact⟨λe=>by simpa using congrArg (λb=>b.data.toList) e,λe=>Bm⟩
theorem bdg{k:Value}{kp:PV}(a:RP pc q kq)(b:RP pc k kp)(h:ahs kq kp=some true):Instr.sameBits 10000 k q=true/\k=q:=by cases kq<;>cases kp<;>simp only[ahs]at h<;>(try (cases h;done));{split at h;{rename_i hkk;simp only[b0c,b01]at h;cases a;cases b;subst hkk h;exact⟨by simp[Instr.sameBits],rfl⟩};.cases h};.simp only[b0c,b01]at h;subst h;cases a;cases b;exact⟨(bytes_beq _ _).2 rfl,rfl⟩
theorem xh(hd:qw d kq=true)(c:RP pc q kq): ∀(es:List (PV×PV)) (l:List MapEntry) (i:Nat) (r:Option Nat),l.length=es.length->
  (∀(j:Nat) (p:PV×PV),es[j]? =some p->∃en,l[j]? =some en/\RP pc en.key p.1)->p8 kq es i=some r->
  (r=none/\Instr.findNow d q l i=some none)\/∃(j:Nat) (en:MapEntry),r=some j/\l[j - i]? =some en/\Instr.findNow d q l i=some (some (j,en.val))
 |[],[],i,r,_,_,h=>by cases h;exact .inl ⟨rfl,rfl⟩
 |[],_::_,_,_,hl,_,_=>by simp at hl
 |_::_,[],_,_,hl,_,_=>by simp at hl
 |(k,v)::es,en::l,i,r,hl,hr,h=>by
  obtain⟨en',h1,h2⟩:=hr 0 (k,v) rfl;simp at h1;subst h1;simp only[p8]at h
  cases hk:ahs kq k with
  |none=>rw[hk]at h;cases h
  |some b=>
   rw[hk]at h;have hs:=axl hd c h2 hk
   cases b with
   |true=>
    cases h
    exact .inr ⟨i,en,rfl,Ad,by simp[Instr.findNow,hs]⟩
   |false=>
    rcases xh hd c es l (i+1) r Cg (λj p hp=>by simpa using hr (j+1) p (by simpa using hp)) h with ⟨h3,h4⟩|⟨j,e,h3,h4,h5⟩
    .exact .inl ⟨h3,by simp[Instr.findNow,hs,h4]⟩
    .have hge:i+1<=j:=by
      have a:p8 kq es (i+1)=some r:=h;rw[h3]at a;exact(ah9 a).1
     refine .inr ⟨j,e,h3,?_,by simp[Instr.findNow,hs,h5]⟩;rw[show j - i=(j - (i+1))+1 from Aa];simpa using h4
theorem avk(hd:qw d kq=true)(a:RP pc q kq):IsKey d q:=by cases kq<;>cases d<;>simp[qw]at hd<;>cases a;{exact hd};.trivial
def aon(P:Program)(t:TypeId):Option (TypeId×TypeDesc×TypeId):=match P.underlying t with
 |some (.map k e)=>(P.underlying k).map λd=>(k,d,e)
 |_=>none
theorem ajm{e:TypeId}(h:aon P t=some (k,d,e)):P.underlying t=some (.map k e)/\P.underlying k=some d:=by unfold aon at h;split at h;{rename_i k' e' hu;cases hd:P.underlying k' with|none=>rw[hd]at h;cases h|some d'=>rw[hd]at h;simp only[b02,b0c,b0t]at h;obtain⟨rfl,rfl,rfl⟩:=h;exact⟨hu,hd⟩};.cases h
def btd:Value->PV
 | .agg vs=> .agg (vs.toList.map adf)
 |z=>adf z
def aww(P:Program)(e:TypeId):Option PV:=((P.info? e).bind (·.zero)).map btd
theorem bl0(E:Env)(z:Value):RV E z (btd z):=by cases z<;>(try (exact ac5 E _));rename_i b;refine .agg Ad λi u a=> ?_;rw[b0s]at a;cases hq:b.toList[i]? with|none=>rw[hq]at a;cases a|some v=>rw[hq]at a;cases a;have:b.getD i Go.undef=v:=(by rw[b1c];have:b[i]? =some v:=Cq;rw[this];rfl);rw[this];exact ac5 E v
theorem a2i{e:TypeId}{z:PV}(h:aww P e=some z)(w:World): ∃v,(zeroValue e).run P w= .ok v w/\∀E,RV E v z:=by unfold aww at h;cases hi:P.info? e with|none=>rw[hi]at h;cases h|some it=>rw[hi]at h;cases hz:it.zero with|none=>simp[hz]at h|some v=>simp[hz]at h;subst h;exact⟨v,by simp[zeroValue,typeInfo,hi,hz],λE=>bl0 E v⟩
theorem avh(a:SimW x s hv w)(h:RV (env x s hv w) v (.mh n))(hs:s n=some (.mp es)):
  v=hv n/\MapRep (env x s hv w) w (hv n) es:=⟨h.mh_inv.2,a.box n _ hs⟩
theorem aq7{t d:Nat}(l:o.op= .makeMap t none)(hd:ai σ d=none):LOp P o ρ σ (.mh d) [(d,.mp [])] [d]:=by refine⟨Ad,λs hs x a q w n h g Q m=> ?_⟩;have f:s d=none:=(hs d Ad).trans hd;have j:=n.new (hd:= .map (some w.heap.size)) (B:= .mp []) (w':=w.alloc (.map #[] 0)) f rfl rfl rfl Ad (λb c=>(b39 w _).2 b c) (λb c=>by simp[blk]at c;omega) λE r=>⟨w.heap.size, #[],rfl,(b39 w _).1,rfl,λi p k=>by simp at k⟩;unfold Oper.wp;have e:(execOp a.eval o).run P w= .ok (.value (.map (some w.heap.size))) (w.alloc (.map #[] 0)):=(by simp[execOp,l,run_makeMap]);rw[e,b1p];exact m _ _ _ j.1 j.2 (.mh ⟨⟨⟨w.heap.size,rfl⟩,.mp [],Bj,rfl⟩,Ad⟩)
def bkb(es:List (PV×PV))(z:PV)(ok:Bool):Option Nat->PV
 |some i=>if ok then .tup [(es.getD i (.undef,.undef)).2,.bool true]else(es.getD i (.undef,.undef)).2
 |none=>if ok then .tup [z,.bool false]else z
theorem awp{t k:Nat}{q:Operand}{h:Bool}{z:PV}(E:o.op= .lookup t y q h)(hy:ρ y= .mh n)(Z:ai σ n=some (.mp es))
  (ht:aon P t=some (k,dk,e)) (D:qw dk (ρ q)=true) (hr:p8 (ρ q) es 0=some r) (hz:aww P e=some z):LOp P o ρ σ (bkb es z h r) [] [n]:=by
 refine ar λs hs x a hv w hW d=> ?_;have N:s n=some (.mp es):=(hs n Ad).trans Z;have U:=d y (by simp[E,Op.operands]);have J:=d q (by simp[E,Op.operands]);rw[hy]at U;obtain⟨B,b,g,V,Q,I,m⟩:=avh hW U N;obtain⟨T,L⟩:=ajm ht
 have O:RP (env x s hv w).pc (a.eval q) (ρ q):=by cases hkq:ρ q<;>rw[hkq]at D J<;>cases dk<;>simp[qw]at D;{rw[J.int_inv];exact .int _ _};.rw[J.str_inv];exact .str _
 have A:=xh D O es g.toList 0 r (by simpa using I) (λj p F=>by
  obtain⟨C,H,Y,S,K⟩:=m j p F;exact⟨C,by simpa using H,S⟩) hr
 obtain⟨R,M,l⟩:=a2i hz w;have v:=run_checkKey (w:=w) L (avk D O) g.isEmpty 9999;rcases A with ⟨rfl,A⟩|⟨j,C,rfl,X,A⟩
 .have hfk:=run_findKey (P:=P) (w:=w) L A;refine⟨if h then .tuple #[R,.bool false]else R,?_,?_⟩;{simp only[execOp,E,B,V,Instr.lookup,b0v,run_underlying T,b0w,b3o Q,v,hfk,M,b1r]};.cases h;{exact l _};.refine .tup rfl λi u c=> ?_;match i,c with|0,c=>cases c;exact l _|1,c=>cases c;exact .pure (.bool _)
 .have hfk:=run_findKey (P:=P) (w:=w) L A;have G:j<es.length:=(by have:=(dm.1 X).1;simp at this;omega);have F:es[j]? =some (es.getD j (.undef,.undef)):=(by rw[bd,bq G];rfl);obtain⟨f,H,Y,S,K⟩:=m j _ F;have:f=C:=(by have W:g[j]? =some C:=(by simpa using X);rw[H]at W;exact b3v W);subst this;refine⟨if h then .tuple #[f.val,.bool true]else f.val,?_,?_⟩;{simp only[execOp,E,B,V,Instr.lookup,b0v,run_underlying T,b0w,b3o Q,v,hfk,b1r]};.cases h;{exact K};.refine .tup rfl λi u c=> ?_;match i,c with|0,c=>cases c;exact K|1,c=>cases c;exact .pure (.bool _)
def avr(es:List (PV×PV))(key val:PV):Option Nat->List (PV×PV)
 |some i=>es.set i ((es.getD i (.undef,.undef)).1,val)
 |none=>es++[(key,val)]
theorem aim{t k:Nat}{q:Operand}(d:o.op= .mapUpdate t y q z\/o.op= .insert t y q z)(hy:ρ y= .mh n)(hB:ai σ n=some (.mp es))
  (ht:aon P t=some (k,dk,e)) (hk:qw dk (ρ q)=true) (hr:p8 (ρ q) es 0=some r):LOp P o ρ σ .undef [(n,.mp (avr es (ρ q) (ρ z) r))] [n]:=by
 refine⟨Ad,λs hs x a hv w hW u a5 Q O=> ?_⟩;have J:s n=some (.mp es):=(hs n Ad).trans hB;have h1:=u y Cj;have h2:=u q Cj;have h3:=u z Cj;rw[hy]at h1;obtain⟨Y,b,g,W,I,B,C⟩:=avh hW h1 J;obtain⟨t1,t2⟩:=ajm ht
 have Z:RP (env x s hv w).pc (a.eval q) (ρ q):=by cases hkq:ρ q<;>rw[hkq]at hk h2<;>cases dk<;>simp[qw]at hk;{rw[h2.int_inv];exact .int _ _};.rw[h2.str_inv];exact .str _
 have X:=xh hk Z es g.toList 0 r El (λj p l=>by
  obtain⟨en,L,e2,M,e4⟩:=C j p l;exact⟨en,by simpa using L,M⟩) hr
 have V:=run_checkKey (w:=w) t2 (avk hk Z) false 9999;have F: ∀(S:Obj) c,blk (hv n)≠some c->(w.heap.setIfInBounds b S)[c]? =w.heap[c]?:=λS c hc=>(heap_set I).2 c λe=>hc (by rw[W,e];rfl);have m: ∀S:Obj,w.heap.size<=(w.heap.setIfInBounds b S).size:=λS=>Ad
 rcases X with ⟨rfl,X⟩|⟨j,en,rfl,hj,X⟩
 .have hfk:=run_findKey (P:=P) (w:=w) t2 X
  have U:=hW.write (w':={w with heap:=w.heap.setIfInBounds b (.map (g.push {key:=a.eval q,val:=a.eval z,born:=es.length}) (es.length+1))}) (B':= .mp (avr es (ρ q) (ρ z) none)) J ⟨rfl,rfl⟩ (λa2 h=>h) rfl rfl rfl (m _)
   (λc hc K=>F _ c K) λE D=>by
    refine⟨b,_,W,(by simpa [avr] using (heap_set I).1),by simp[avr,B],λi p l=> ?_⟩;simp only[avr]at l;rw[b1q]at l;split at l
    .rename_i hi;obtain⟨en,L,e2,M,e4⟩:=C i p l;refine⟨en,?_,e2,M.mono D.pc,e4.mono D⟩;rw[b7r,if_neg Aa];exact L
    .rename_i hi
     have a0:i=es.length:=by
      have:=(dm.1 l).1;simp at this;omega
     subst a0;simp at l;subst l;exact⟨_,by rw[b7r,if_pos B.symm],rfl,Z.mono D.pc,h3.mono D⟩
  unfold Oper.wp
  have H:(execOp a.eval o).run P w= .ok .skip {w with heap:=w.heap.setIfInBounds b (.map (g.push {key:=a.eval q,val:=a.eval z,born:=es.length}) (es.length+1))}:=by rcases d with d|d<;>simp only[execOp,d,Y,W,Instr.mapUpdate,b0v,run_underlying t1,b0w,b3o I,V,hfk,b61 _ I,b1r]
  rw[H,b5p];exact O undef hv _ U.1 U.2 (.undef _)
 .have hfk:=run_findKey (P:=P) (w:=w) t2 X
  have N:j<es.length:=by have:=(dm.1 hj).1;simp at this;omega
  have l:es[j]? =some (es.getD j (.undef,.undef)):=by rw[bd,bq N];rfl
  obtain⟨A,L,e2,M,e4⟩:=C j _ l;obtain⟨_,p,T,a3⟩:=ah9 hr;rw[Nat.sub_zero,l]at T
  cases T
  have R:((g[j]?).map (·.key)).getD (a.eval q)=A.key:=by rw[L];rfl
  have v:Instr.sameBits 10000 A.key (a.eval q)=true/\A.key=a.eval q:=bdg Z M a3
  have a4:(Instr.keyThatStays A.key (a.eval q)).run P w= .ok (a.eval q) w:=by unfold Instr.keyThatStays;rw[v.1];rfl
  have U:=hW.write (w':={w with heap:=w.heap.setIfInBounds b (.map (g.modify j λe=>{e with key:=a.eval q,val:=a.eval z}) es.length)}) (B':= .mp (avr es (ρ q) (ρ z) (some j))) J ⟨rfl,rfl⟩ (λa2 h=>h) rfl rfl rfl (m _)
   (λc hc K=>F _ c K) λE D=>by
    refine⟨b,_,W,(by simpa [avr] using (heap_set I).1),by simp[avr,B],λi p f=> ?_⟩;simp only[avr]at f;rw[b2x]at f;by_cases G:j=i
    .subst G;rw[if_pos rfl,if_pos N]at f
     cases f
     refine⟨{A with key:=a.eval q,val:=a.eval z},by rw[b3w,if_pos rfl,L];rfl,e2,?_,h3.mono D⟩;rw[<-v.2];exact M.mono D.pc
    .rw[if_neg G]at f;obtain⟨a1,f1,f2,f3,f4⟩:=C i p f;exact⟨a1,by rw[b3w,if_neg G];exact f1,f2,f3.mono D.pc,f4.mono D⟩
  unfold Oper.wp
  have H:(execOp a.eval o).run P w= .ok .skip {w with heap:=w.heap.setIfInBounds b (.map (g.modify j λe=>{e with key:=a.eval q,val:=a.eval z}) es.length)}:=by rcases d with d|d<;>simp only[execOp,d,Y,W,Instr.mapUpdate,b0v,run_underlying t1,b0w,b3o I,V,hfk,R,a4,b61 _ I,b1r]
  rw[H,b5p];exact O undef hv _ U.1 U.2 (.undef _)
theorem a7g{t d:Nat}{e:TypeId}(q:o.op= .range t y)(I:ρ y= .mh n)(F:ai σ n=some (.mp es))
  (z:aon P t=some (k,dk,e)) (hd:ai σ d=none):LOp P o ρ σ (.mh d) [(d,.it n es.length [])] [d,n]:=by refine⟨Ad,λs hs x a L w v g r Q D=> ?_⟩;have j:s d=none:=(hs d Ad).trans hd;have f:s n=some (.mp es):=(hs n Ad).trans F;have m:=g y Eu;rw[I]at m;obtain⟨l,b,K,p,A,C,G⟩:=avh v m f;obtain⟨J,M⟩:=ajm z;have u:=v.new (hd:= .pointer (some ⟨w.heap.size,0,none⟩)) (B:= .it n es.length []) (w':=w.alloc (.mapIter (some b) es.length #[] es.length)) j rfl rfl rfl Ad (λc i=>(b39 w _).2 c i) (λc i=>by simp[blk]at i;omega) λE H=>⟨w.heap.size,b,rfl,(b39 w _).1,H.mh _ _ ⟨⟨⟨b,rfl⟩,.mp es,f,rfl⟩,p.symm⟩⟩;unfold Oper.wp;have h:(execOp a.eval o).run P w= .ok (.value (.pointer (some ⟨w.heap.size,0,none⟩))) (w.alloc (.mapIter (some b) es.length #[] es.length)):=(by simp only[execOp,q,l,p,Instr.range,b0v,run_underlying J,b0w,b3o A,b1r];rfl);rw[h,b1p];exact D _ _ _ u.1 u.2 (.mh ⟨⟨⟨w.heap.size,rfl⟩,.it n es.length [],Bj,rfl⟩,Ad⟩)
def a3c(l:LB)(pos:Nat):Nat×Nat:=Utf8.decode ⟨l.toArray⟩ pos
theorem ayu{t d:Nat}(k:o.op= .range t y)(q:ρ y= .str l)
  (u:P.underlying t=some .string) (hd:ai σ d=none):LOp P o ρ σ (.mh d) [(d,.si l 0)] [d]:=by refine⟨Ad,λs hs x a z w r b m Q p=> ?_⟩;have i:s d=none:=(hs d Ad).trans hd;have e:=b y (by simp[k,Op.operands]);rw[q]at e;have j:a.eval y= .string ⟨l.toArray⟩:=(by generalize a.eval y=v at e;cases e with|pure h=>cases h;rfl);have n:=r.new (hd:= .pointer (some ⟨w.heap.size,0,none⟩)) (B:= .si l 0) (w':=w.alloc (.stringIter ⟨l.toArray⟩ 0)) i rfl rfl rfl Ad (λc g=>(b39 w _).2 c g) (λc g=>by simp[blk]at g;omega) λE A=>⟨w.heap.size,rfl,(b39 w _).1⟩;unfold Oper.wp;have f:(execOp a.eval o).run P w= .ok (.value (.pointer (some ⟨w.heap.size,0,none⟩))) (w.alloc (.stringIter ⟨l.toArray⟩ 0)):=(by simp only[execOp,k,j,Instr.range,b0v,run_underlying u,b0w,b1r];rfl);rw[f,b1p];exact p _ _ _ n.1 n.2 (.mh ⟨⟨⟨w.heap.size,rfl⟩,.si l 0,Bj,rfl⟩,Ad⟩)
theorem vc{r:Nat}{s:ByteArray}(a:w.heap[r]? =some (.stringIter s p)):(getObj r).run P w= .ok (.stringIter s p) w:=by simp[getObj,Sem.run,a]
theorem ajr{r:Nat}{s:ByteArray}(o:Obj)(a:w.heap[r]? =some (.stringIter s p)):(setObj r o).run P w= .ok () (setBlock w r o):=by simp[setObj,Sem.run,a,setBlock]
theorem aw0{d:Nat}(v:o.op= .next y true)(F:ρ y= .mh d)(D:ai σ d=some (.si l pos))(B:pos<l.length):
  LOp P o ρ σ (.tup [.bool true,.int .i64 pos,.int .i32 (a3c l pos).1]) [(d,.si l (pos+(a3c l pos).2))] [d]:=by refine⟨Ad,λs hs x a I w z f next Q C=> ?_⟩;have g:s d=some (.si l pos):=(hs d Ad).trans D;have t:=f y (by simp[v,Op.operands]);rw[F]at t;obtain⟨r,m,i⟩:=z.box d _ g;have k:a.eval y= .pointer (some ⟨r,0,none⟩):=t.mh_inv.2.trans m;have q:pos<(ByteArray.mk l.toArray).size:=(by simpa [ByteArray.size] using B);have A:=z.write (w':=setBlock w r (.stringIter ⟨l.toArray⟩ (pos+(a3c l pos).2))) (B':= .si l (pos+(a3c l pos).2)) g ⟨rfl,rfl⟩ (λG h=>h) rfl rfl rfl (by simp[setBlock]) (λc H n=>(heap_set (w:=w) (r:=r) (by exact i)).2 c λe=>n (by rw[m,e];rfl)) λE J=>⟨r,m,(heap_set (w:=w) (r:=r) (by exact i)).1⟩;unfold Oper.wp;have p:(execOp a.eval o).run P w= .ok (.value (.tuple #[.bool true,goInt pos,.int .i32 ((a3c l pos).1:Nat)])) (setBlock w r (.stringIter ⟨l.toArray⟩ (pos+(a3c l pos).2))):=(by simp only[execOp,v,k,Instr.next,b0v,vc i,b0w,if_pos q,ajr _ i,b1r,a3c]);rw[p,b1p];refine C _ _ _ A.1 A.2 (.tup rfl λj u b=> ?_);match j,b with|0,b=>cases b;exact .pure (.bool _)|1,b=>cases b;exact .pure (.int _ _)|2,b=>cases b;exact .pure (.int _ _)
theorem ax9{d:Nat}(i:o.op= .next y true)(q:ρ y= .mh d)(p:ai σ d=some (.si l pos))(k: ¬pos<l.length):
  LOp P o ρ σ (.tup [.bool false]) [] [d]:=by refine ar λs hs x a v w t b=> ?_;have g:s d=some (.si l pos):=(hs d Ad).trans p;have h:=b y (by simp[i,Op.operands]);rw[q]at h;obtain⟨r,m,n⟩:=t.box d _ g;have e:a.eval y= .pointer (some ⟨r,0,none⟩):=h.mh_inv.2.trans m;have f: ¬pos<(ByteArray.mk l.toArray).size:=(by simpa [ByteArray.size] using k);refine⟨.tuple #[.bool false],?_,.tup rfl λj u c=> ?_⟩;{simp only[execOp,i,e,Instr.next,b0v,vc n,b0w,if_neg f,b1r]};.match j,c with|0,c=>cases c;exact .pure (.bool _)
def ack(σ:ASt)(u:PV)(K:KT):Prop:=
 match u with
 | .mh d=>match ai σ d with
  |some (.si l pos)=>(pos<l.length->K (.tup [.bool true,.int .i64 pos,.int .i32 (a3c l pos).1]) [(d,.si l (pos+(a3c l pos).2))] [d])/\(¬pos<l.length->K (.tup [.bool false]) [] [d])
  |_=>False
 |_=>False
theorem aj1(b:o.op= .next y true)(h:ack σ (ρ y) K): ∃u δ F,LOp P o ρ σ u δ F/\K u δ F:=by unfold ack at h;split at h;{rename_i d hy;split at h;{rename_i l pos hB;by_cases a:pos<l.length;{exact⟨_,_,_,aw0 b hy hB a,h.1 a⟩};.exact⟨_,_,_,ax9 b hy hB a,h.2 a⟩};.exact h.elim};.exact h.elim
def a2p(P:Program)(σ:ASt)(u:PV)(K:KT):Prop:=
 match u with
 | .mh d=>match ai σ d with
  |some (.it m k done)=>match ai σ m with
   |some (.mp es)=>d≠m/\k=es.length/\(∀i,i<k->i∉done->K (.tup [.bool true,(es.getD i (.undef,.undef)).1,(es.getD i (.undef,.undef)).2]) [(d,.it m k (done++[i]))] [d,m])/\
    ((∀i,i<k->i∈done)->K (.tup [.bool false]) [] [d,m])
   |_=>False
  |_=>False
 |_=>False
theorem an1(ho:o.op= .next y false)(h:a2p P σ (ρ y) K)(x:Ctx P)(a:Act)(hv:Nat->Value)(w:World)(O:SimW x (ai σ) hv w)
  (I: ∀y∈o.op.operands,RV (env x (ai σ) hv w) (a.eval y) (ρ y)) (C:Act->World->Prop) (Q:Exit->Act->World->Prop)
  (hn: ∀u δ F,K u δ F->∀v hv' w',SimW x (app (ai σ) δ) hv' w'->Env.le (env x (ai σ) hv w) (env x (app (ai σ) δ) hv' w')->RV (env x (app (ai σ) δ) hv' w') v u->C (a.put o.dst v) w'):o.wp P a w C Q:=by
 have h1:=I y C6;unfold a2p at h;split at h
 .rename_i d hy;split at h
  .rename_i m k done hd;split at h
   .rename_i es hm;obtain⟨a3,rfl,a2,V⟩:=h;rw[hy]at h1;obtain⟨r,b,R,W,⟨_,B,e3,e4⟩,e5⟩:=O.box d _ hd;obtain⟨b',f,f1,f2,f3,U⟩:=O.box m _ hm;rw[f1]at e5
    cases e5
    have L:a.eval y= .pointer (some ⟨r,0,none⟩):=h1.mh_inv.2.trans R
    have l: ∀z∈f.toList,∃i p,es[i]? =some p/\f[i]? =some z/\z.born=i:=λz hz=>by obtain⟨i,Y⟩:=b2v.1 hz;have G:f[i]? =some z:=(by simpa using Y);have t:i<es.length:=(by rw[<-f3];exact(b03.1 G).1);obtain⟨n,s,M,_⟩:=U i _ (bq t);rw[G]at s;cases s;exact⟨i,_,bq t,G,M⟩
    have J:=run_next_at (P:=P) w o.type r b es.length es.length done.toArray f es.length W f2 (λz hz=>by
     obtain⟨i,p,s,_,T⟩:=l z hz;rw[T];exact(dm.1 s).1) (b0f _)
    unfold Oper.wp;rcases J with ⟨s,M⟩|⟨n,s,w1,M,T⟩
    .have hex:(execOp a.eval o).run P w= .ok (.value (.tuple #[.bool false])) w:=(by simp only[execOp,ho,L];rw[b0v,M];rfl);rw[hex,b1p];refine hn _ _ _ (V λi Y=> ?_) _ hv w O (Env.le.refl _) (.tup rfl λi u g=> ?_);{obtain⟨n,H,X,_⟩:=U i _ (bq Y);have:n∉(leftOf f done.toArray).toList:=(by have:leftOf f done.toArray= #[]:=b5r s;rw[this];simp);simp only[leftOf,b7s,b16,b7l,not_and]at this;have hc:=this (b2b H);rw[X]at hc;simpa using hc};.match i,g with|0,g=>cases g;exact .pure (.bool _)
    .have hex:(execOp a.eval o).run P w= .ok (.value (.tuple #[.bool true,n.key,n.val])) (setBlock w1 r (.mapIter (some b) es.length (done.toArray.push n.born) es.length)):=by simp only[execOp,ho,L];rw[b0v,T];rfl
     rw[hex,b1p]
     have D:n∈f.toList/\n.born∉done:=by simp only[leftOf,b7s,b16]at s;exact⟨s.1,by simpa using s.2⟩
     obtain⟨i,p,H,X,q3⟩:=l n D.1;have t:i<es.length:=(dm.1 H).1;obtain⟨a5,k1,k2,k3,k4⟩:=U i p H;rw[X]at k1
     cases k1
     have S: ∃q,w1=w.drewN q:=by rcases M with rfl|rfl;{exact⟨0,rfl⟩};.exact⟨1,rfl⟩
     obtain⟨q,rfl⟩:=S;obtain⟨a0,A⟩:=O.drew q
     have N:=a0.write (w':=setBlock (w.drewN q) r (.mapIter (some b) es.length (done.toArray.push n.born) es.length)) (B':= .it m es.length (done++[i])) hd ⟨rfl,rfl⟩ (λa4 h=>h) rfl rfl rfl (by simp[setBlock])
      (λc hc Z=>(heap_set (w:=w.drewN q) (r:=r) (by exact W)).2 c λe=>Z (by rw[R,e];rfl)) λE hE=>by
       refine⟨r,b,R,?_,hE.mh _ _ (A.mh _ _ ⟨⟨⟨b,rfl⟩,B,e3,e4⟩,f1.symm⟩)⟩;have:=(heap_set (w:=w.drewN q) (r:=r) (o':= .mapIter (some b) es.length (done.toArray.push n.born) es.length) (by exact W)).1;simp only[setBlock];rw[this,q3];simp
     have a1:es.getD i (.undef,.undef)=p:=by rw[bd,H];rfl
     refine hn _ _ _ (a2 i t (q3 ▸ D.2)) _ hv _ N.1 (A.trans N.2) (.tup rfl λj u g=> ?_);rw[a1]at g
     match j,g with|0,g=>cases g;exact .pure (.bool _)|1,g=>cases g;exact(RV.pure k3).mono (A.trans N.2)|2,g=>cases g;exact k4.mono (A.trans N.2)
   .exact h.elim
  .exact h.elim
 .exact h.elim
theorem a2e{d m k i:Nat}{c:LN}(F:o.op= .entry y)(O:ρ y= .mh d)(M:ai σ d=some (.it m k (c++[i])))(I:ai σ m=some (.mp es))(T:k=es.length)(hi:i<k):
  LOp P o ρ σ (.tup [(es.getD i (.undef,.undef)).1,(es.getD i (.undef,.undef)).2]) [] [d,m]:=by refine ar λs hs x a Y w G g=> ?_;subst T;have q:=(hs d Ad).trans M;have p:=(hs m Ad).trans I;have E:=g y (by simp[F,Op.operands]);rw[O]at E;obtain⟨r,b,H,J,⟨_,B,W,X⟩,D⟩:=G.box d _ q;obtain⟨V,e,N,U,S,C⟩:=G.box m _ p;rw[N]at D;cases D;have t:a.eval y= .pointer (some ⟨r,0,none⟩):=E.mh_inv.2.trans H;obtain⟨l,R,L,Q,K⟩:=C i _ (bq hi);have v:(e.toList.map (·.born)).Nodup:=(by have:e.toList.map (·.born)=List.range es.length:=(by apply b6n;intro j;rw[b0s];by_cases n:j<es.length;{obtain⟨en',q1,q2,_⟩:=C j _ (bq n);have:e.toList[j]? =some en':=(by simpa using q1);rw[this,b2z n];simp[q2]};.rw[b2o (by simpa [S] using n),b2o (by simpa using n)];rfl);rw[this];exact List.nodup_range);have A:w.heap[r]? =some (.mapIter (some b) es.length (c.toArray.push l.born) es.length):=(by rw[J,L];simp);have h:=run_entry_at (P:=P) w r b es.length c.toArray e es.length l A U (b7l.2 (b2b R)) v;have z:es.getD i (.undef,.undef)=es[i]:=(by rw[bd,bq hi];rfl);refine⟨.tuple #[l.key,l.val],?_,.tup rfl λj u f=> ?_⟩;{simp only[execOp,F,t];rw[b0v,h];rfl};.rw[z]at f;match j,f with|0,f=>cases f;exact .pure Q|1,f=>cases f;exact K
theorem azk{t:Nat}{e:TypeId}(i:o.op= .call {callee:= .builtin .len,args:= #[y],argTypes:= #[t]})(u:ρ y= .mh n)(r:ai σ n=some (.mp es))
  (l:aon P t=some (k,dk,e)):LOp P o ρ σ (.int .i64 es.length) [] [n]:=by
 refine ar λs hs x a C w z c=> ?_;have d:=(hs n Ad).trans r;have h:=c y (by simp[i,Op.operands,Call.operands]);rw[u]at h;obtain⟨g,b,B,m,p,f,v⟩:=avh z h d;obtain⟨j,D⟩:=ajm l;refine⟨.int .i64 es.length,?_,.pure (.int _ _)⟩
 have q:(Builtin.len_ #[t] o.type #[a.eval y]).run P w= .ok (.int .i64 es.length) w:=by
  simp only[Builtin.len_,g,m,b0v,run_underlying j,b0w];simp[b3o p,goInt,f,run_underlying j]
 simp[execOp,i,resolve,invoke,builtin,q]
/- A slice's tail as a handle; clear; the head of an open row as a list. -/
def l7(σ:ASt):List LP->Option (List LP×LN)
 |[]=>some ([],[])
 |u::us=>match lg σ u,l7 σ us with
  |some (v,a),some (vs,b)=>some (v::vs,a++b)
  |_,_=>none
theorem oy: ∀{xs xs':List LP} {a:LN},l7 σ xs=some (xs',a)->xs'.length=xs.length/\(∀n∈a,∃B,ai σ n=some B)/\
  ∀(i:Nat) (r r':LP),xs[i]? =some r->xs'[i]? =some r'->∃b,lg σ r=some (r',b)/\∀n∈b,n∈a
 |[],xs',a,h=>by cases h;simp
 |u::us,xs',a,h=>by
  simp only[l7]at h
  cases h1:lg σ u with
  |none=>rw[h1]at h;cases h
  |some p=>
   cases h2:l7 σ us with
   |none=>rw[h1,h2]at h;cases h
   |some q=>
    obtain⟨p1,p2⟩:=p;obtain⟨o,m⟩:=q;rw[h1,h2]at h;simp only[b0c,b0t]at h;obtain⟨rfl,rfl⟩:=h;obtain⟨f,k,g⟩:=oy h2;refine⟨Be,λn c=> ?_,λi r r' e d=> ?_⟩
    .rcases b0j.1 c with c|c
     .exact mb h1 n c
     .exact k n c
    .cases i with
     |zero=>simp at e d;subst e d;exact⟨p2,h1,λn c=>Cl⟩
     |succ i=>
      obtain⟨b,j,l⟩:=g i r r' A5 Aq;exact⟨b,j,λn c=>by simp[l n c]⟩
theorem an4{k:Nat}(C:o.op= .slice t y (some z) none none)(J:ρ y= .os n k)(Q:ρ z= .int kd i)
  (I:ai σ n=some (.arh e sz xs)) (B:k=xs.length) (R:cw P t=some e') (u:dx P e'=some sz) (h0:0<=i) (T:i<k):LOp P o ρ σ (.osl n k i.toNat) [] [n]:=by refine ar λs hs x a V w S b=> ?_;have f:=b y (by simp[C,Op.operands]);have j:=b z (by simp[C,Op.operands]);rw[J]at f;rw[Q]at j;have d:s n=some (.arh e sz xs):=Dv;obtain⟨_,U,N,W,F,q,O,H⟩:=f.os_inv;rw[d]at F;cases F;cases q;have r:=H B;obtain⟨g,c,E,M⟩:=(S.box n _ d).dimAt (sz:=sz) (l:=xs.length) rfl Aa;obtain⟨A,K,G,v,_⟩:=l8 (P:=P) (w:=w) true xs.length c M (lo:=some (.int kd i)) (hi:=none) (mx:=none) (vl:=some (.int kd i)) (vh:=none) (vm:=none) (l:=i) (h:=xs.length) (m:=xs.length) rfl rfl rfl rfl trivial trivial h0 Aa (b3g _) (b3g _) Ad;have D:=v rfl;have L: ¬A=i.toNat:=Aa;have p: ¬c=i.toNat:=Aa;subst D;refine⟨.slice (some ⟨g,i.toNat*sz,none⟩) (k - i.toNat) (A - i.toNat),?_,.osl rfl ⟨⟨_,rfl⟩,_,sz,xs.length,d,rfl,O,λ_ _=>⟨g,A,by rw[E,B],by rw[b13]⟩⟩⟩;simp only[execOp,C];rw[b0v,r,E];simp[Instr.sliceAt,Instr.slice,run_underlying (bx R),j.int_inv,K,eo u,fh,B,p]
theorem aix{e:TypeId}{m a l:Nat}{B:Box}{k:IntKind}(r:o.op= .indexAddr t y z)(M:ρ y= .osl n m a)
  (L:ρ z= .int k i) (K:ai σ n=some B) (hd:B.dim=some (sz,l)) (F:m=l) (N:cw P t=some e) (p:dx P e=some sz) (h0:0<=i) (O:a+i<l):LOp P o ρ σ (.oel n m (a+i.toNat) 0) [] [n]:=by refine ar λs hs x E R w T d=> ?_;have h:=d y Dd;have A:=d z Dd;rw[M]at h;rw[L]at A;have g:s n=some B:=(by rw[hs n Ad,K]);obtain⟨q,c,v,_,Q,G,S,C,f,J,I⟩:=h.osl_inv;rw[g]at C;cases C;rw[hd]at f;cases f;obtain⟨b,H,j,D⟩:=I F Aa;cases D;refine⟨.pointer (some ⟨b,(a+i.toNat)*sz,none⟩),?_,.oel ⟨⟨_,rfl⟩,B,sz,l,g,hd,J,λ_ _=>⟨b,H,j,by rw[b13]⟩⟩⟩;have u:i<((m - a:Nat):Int):=Aa;simp[execOp,r,v,A.int_inv,lw N p ⟨b,a*sz,none⟩ (m - a) c k i h0 u,fh,b2a]
theorem ag1{k:Nat}(Z:o.op= .slice t y none (some z) none)(hy:ρ y= .os n k)(hz:ρ z= .int kd i)
  (hB:ai σ n=some (.arh e sz xs)) (hk:k=xs.length) (he:cw P t=some e') (U:dx P e'=some sz) (h0:0<=i) (h1:i<=k) (hx:l7 σ xs=some (xs,[])):LOp P o ρ σ (.vs (xs.take i.toNat)) [(n,.arr e sz true xs)] [n]:=by refine⟨Ad,λs hs x a F w H D a0 Q N=> ?_⟩;have I:=D y (by simp[Z,Op.operands]);have L:=D z (by simp[Z,Op.operands]);rw[hy]at I;rw[hz]at L;have d:s n=some (.arh e sz xs):=(by rw[hs n Ad,hB]);obtain⟨_,B',a1,l1,h2,O,h3,h4⟩:=I.os_inv;rw[d]at h2;cases h2;cases O;have R:=h4 hk;have K: ∀v,Box.keep (.arh e sz xs) v (.arr e sz true xs) v:=λv=>⟨_,rfl,b0f _,λ_=>rfl⟩;have V:Env.le (env x s F w) (env x (upd s n (some (.arr e sz true xs))) F w):=(by refine qh (λad v B=>⟨B.1,B.2.1,λm C f E=> ?_⟩) λm C f=> ?_;{by_cases A:m=n;{subst A;exact(B.2.2 m _ d E).elim};.rw[ak _ _ A]at f;exact B.2.2 m C f E};.by_cases A:m=n;{subst A;rw[d]at f;cases f;exact⟨_,av _ _ _,K _⟩};.exact⟨C,by rw[ak _ _ A];exact f,Box.keep_refl _ _⟩);have M:BoxRep P (env x (upd s n (some (.arr e sz true xs))) F w) w (F n) (.arr e sz true xs):=(by obtain⟨b0,ys,b1,b2,b3,b4⟩:=H.box n _ d;refine⟨b0,ys,b1,b2,b3,λi r j u Y X=> ?_⟩;obtain⟨_,_,g⟩:=oy hx;obtain⟨b,p1,p2⟩:=g i r r Y Y;have E:b=[]:=C5;subst E;obtain⟨_,q⟩:=ew (ns:=[]) H (λn N=>by simp at N) p1 (λn N=>by simp at N);have:=q j u u X X _ (b4 i r j u Y X);have T:a8 s []=s:=(by funext m;simp[a8]);rw[T]at this;exact this.mono V.pc);have hS:SimW x (upd s n (some (.arr e sz true xs))) F w:=(by refine H.step rfl rfl rfl (b0f _) V (λm A=>Aw) (λ_ _ _=>rfl) λm C f=> ?_;by_cases A:m=n;{subst A;rw[av]at f;cases f;refine .inr ⟨M,λp hp=>Box.keep_trans (H.ext m p _ hp d) (K _),λb E=>⟨H.loc m _ b d E,λk C J f W=> ?_⟩⟩;rw[ak _ _ J]at f;exact J (H.inj k m C _ b f d W E)};.rw[ak _ _ A]at f;exact .inl ⟨f,rfl,λ_ _=>rfl⟩);have G:=hS.asList (av _ _ _);obtain⟨v',k1,k2,_⟩:=tf he U G (lo:=none) (hi:=some (.int kd i)) (mx:=none) (vl:=none) (vh:=some (.int kd i)) (vm:=none) (l:=0) (h:=i) (m:=xs.length) rfl rfl rfl trivial rfl trivial (b3g _) h0 Aa (b3g _) Ad w Ad;unfold Oper.wp;have S:(execOp a.eval o).run P w= .ok (.value v') w:=(by simp only[execOp,Z,b65,b02];rw[b0v,R,L.int_inv,k1];rfl);rw[S,b1p];have k3:RP (env x (upd s n (some (.arr e sz true xs))) F w).pc v' (.vs (xs.take i.toNat)):=(by simpa using k2);exact N v' F w hS V (.pure k3)
theorem aaq{a:TypeInfo}{z:Value}(h:P.info? t=some a)(b:a.zero=some z)(w:World):(zeroValue t).run P w= .ok z w:=by simp[zeroValue,typeInfo,h,b]
theorem a8b{k i:Nat}{zs:LP}(ho:o.op= .call {callee:= .builtin .clear,args:= #[y],argTypes:= #[t]})(hy:ρ y= .osl n k i)
  (hB:ai σ n=some (.arh e sz xs)) (hk:k=xs.length) (hi:i<k) (he:cw P t=some e') (hz:az P e'=some zs) (z:zs.length=sz) (B:zs.all fy=true):
  LOp P o ρ σ (.tup []) [(n,.arh e sz (xs.take i++List.replicate (k - i) (zs.map aap)))] [n]:=by subst hk;refine⟨Ad,λs hs x a hv w hW b3 e5 Q hn=> ?_⟩;have W:s n=some (.arh e sz xs):=(hs n Ad).trans hB;have b5:=b3 y A7;rw[hy]at b5;obtain⟨q,c0,e2,_,B',e7,l1,K,c5,h3,h4⟩:=b5.osl_inv;rw[W]at K;cases K;cases c5;obtain⟨b,c,hb,e3⟩:=h4 rfl hi;cases e3;obtain⟨it,J,z1,z2,z3⟩:=iz hz;have U:J.cells.size=sz:=(by rw[<-z3]at z;simpa using z);obtain⟨h0,ys,d4,D,T,hrr⟩:=hW.box n _ W;obtain⟨g,e8,l,fz,Y,a9,Z,a6,e4,I,b7⟩:=kx d4 Aa;rw[hb]at Y;cases Y;let vs:=(Builtin.zeroCells J.cells (xs.length - i)).toList;have A:vs.length=(xs.length - i)*sz:=(by simp[vs,size_zeroCells,U]);have b2: ∀p j,p<xs.length - i->j<sz->vs[p*sz+j]? =J.cells[j]?:=λp j hp M=>(by have c3:p*sz+j<(xs.length - i)*sz:=jr hp M;have a2:(p*sz+j) % sz=j:=(by rw[b3a,b57,b3y M]);have b8:j<J.cells.size:=(by rw[U];exact M);simp only[vs,Builtin.zeroCells,b3x,b6c,U];rw[b7k,if_pos c3];simp[a2,b8]);have a3: ∀j u,zs[j]? =some u->∃C,J.cells[j]? =some C/\u=adf C:=λj u f=>(by rw[<-z3,b0s]at f;cases hcj:J.cells.toList[j]? with|none=>rw[hcj]at f;cases f|some C=>rw[hcj]at f;cases f;exact⟨C,by simpa using hcj,rfl⟩);have c7: ∀(E:Env) j u,(zs.map aap)[j]? =some u->∃C,J.cells[j]? =some C/\RV E C u:=λE j u f=>(by rw[b0s]at f;cases hq:zs[j]? with|none=>rw[hq]at f;cases f|some u0=>rw[hq]at f;cases f;obtain⟨C,c1,rfl⟩:=a3 j u0 hq;exact⟨C,c1,.pure (a1d _ _ (b06.1 B _ (b0e hq)))⟩);have V: ∀v∈vs,v.oneCell'=true:=λv d1=>(by obtain⟨j,M,c6⟩:=b1f.1 d1;rw[A]at M;have hp:j/sz<xs.length - i:=(b69 h0).2 M;have b1:j % sz<sz:=b6m _ h0;have b9:j/sz*sz+j % sz=j:=(by rw[b3a];exact b5a _ _);have h1:=b2 (j/sz) (j % sz) hp b1;rw[b9,bq (by rw[A];exact M),c6]at h1;have X:j % sz<zs.length:=(by rw[z];exact b1);obtain⟨C,c1,c2⟩:=a3 _ _ (bq X);rw[c1]at h1;cases h1;have a7:=b06.1 B _ (b1g X);rw[c2]at a7;exact(j7 (ac5 (env x s hv w) v) a7).1);have L:xs.length*sz<=c*sz:=b08 _ a6;have d2:i*sz+(xs.length - i)*sz=xs.length*sz:=(by rw[<-b2a];congr 1;omega);have a1:=dj P b (i*sz) e fz vs 0 l w Z (tz a9) (by rw[I,A,b13,d2];exact L) V;simp only[b13]at a1;let xs':=xs.take i++List.replicate (xs.length - i) (zs.map aap);have R:xs'.length=xs.length:=(by simp[xs'];omega);let cur':=(l.toList.take (i*sz)++vs++l.toList.drop (i*sz+vs.length)).toArray;have G:cur'.size=l.size:=(by simp[cur',A];omega);have a4:=hW.write (w':=w.setRow b cur') (B':= .arh e sz xs') W ⟨_,rfl,by rw[R];exact b0f _,λ_=>rfl⟩ (λe6 h=>h) rfl rfl rfl Ad (λk hk b6=>setRow_other w b k _ λe=>b6 (by rw[hb,e];rfl)) λE hE=>(by have S: ∀j,j<xs.length*sz->cur'[j]? =if j<i*sz then l[j]? else vs[j - i*sz]?:=λj M=>(by simp only[cur',b3t];rw[b0m,b1q];have d3:(l.toList.take (i*sz)).length=i*sz:=(by rw[b0i,b28,I];omega);rw[d3];by_cases K:j<i*sz;{rw[if_pos K,if_pos K,b04,if_pos K];simp};.rw[if_neg K,if_neg K,b1q,A,if_pos Aa]);refine⟨h0,cur'.toList.take (xs.length*sz),?_,?_,?_,λp r j u d f=> ?_⟩;{rw[R];exact⟨by simp[G,I,L],.inr ⟨b,c,cur',fz,hb,by rw[G];exact a9,setRow_heap w b l cur' e _ Z,a6,e4,by rw[G,I],rfl⟩⟩};{intro r d;rcases b0j.1 d with d|d;{exact D r (b1e d)};.rw[b18 d];simp[z]};{intro r d;rcases b0j.1 d with d|d;{exact T r (b1e d)};.rw[b18 d,List.all_map];refine b06.2 λu f=> ?_;have:=b06.1 B u f;cases u<;>simp_all [aap,fy]};.have hpl:p<xs.length:=(by have:=(dm.1 d).1;rwa [R]at this);have e0:r.length=sz:=(by rcases b0j.1 (b0e d)with d|d;{exact D r (b1e d)};.rw[b18 d];simp[z]);have O:j<sz:=(by have:=(dm.1 f).1;rwa [e0]at this);have F:=jr hpl O;have N:(cur'.toList.take (xs.length*sz)).getD (p*sz+j) undef=(cur'[p*sz+j]?).getD undef:=(by rw[bd,b04,if_pos F];simp);rw[N,S _ F];have e1:(xs.take i).length=i:=Ag;rw[b1q,e1]at d;by_cases H:p<i;{rw[if_pos H,b04,if_pos H]at d;have h5:p*sz+j<i*sz:=jr H O;rw[if_pos h5];have h4:=hrr p r j u d f;rw[<-b7,bd,b04,if_pos F]at h4;simpa using h4.mono hE};.rw[if_neg H]at d;have h5: ¬p*sz+j<i*sz:=(by have:i*sz<=p*sz:=b08 _ Aa;omega);rw[if_neg h5];have a0:=b18 (b0e d);subst a0;have h6:p*sz+j - i*sz=(p - i)*sz+j:=(by have:i*sz<=p*sz:=b08 _ Aa;rw[b5l];omega);obtain⟨C,c1,c2⟩:=c7 E j u f;rw[h6,b2 (p - i) j Aa O,c1];exact c2);unfold Oper.wp;have b4:(Builtin.clear_ #[t] o.type #[a.eval y]).run P w= .ok (.tuple #[]) (w.setRow b cur'):=(by obtain⟨m,hm⟩: ∃m,xs.length - i=m+1:=⟨xs.length - i - 1,Aa⟩;have a5:(storeCells ⟨b,i*sz,none⟩ (Builtin.zeroCells J.cells (m+1)).toList).run P w= .ok () (w.setRow b cur'):=(by rw[<-hm];exact a1);rw[e2,hm];simp[Builtin.clear_,run_underlying (bx he),aaq z1 z2,a5]);have d0:(execOp a.eval o).run P w= .ok (.value (.tuple #[])) (w.setRow b cur'):=(by simp[execOp,ho,resolve,invoke,builtin,b4]);rw[d0,b1p];exact hn _ hv _ a4.1 a4.2 (.pure (.tup rfl λi u f=>by simp at f))
end Go.Proofs.Am
