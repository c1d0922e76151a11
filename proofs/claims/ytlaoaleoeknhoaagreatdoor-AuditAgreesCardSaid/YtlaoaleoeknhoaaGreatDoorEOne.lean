/- EOne. -/
import Derived.Test.YtlaoaleoeknhoaaGreatDoorLOne
set_option linter.unusedSimpArgs false
set_option linter.unusedVariables false
set_option maxHeartbeats 1000000
set_option maxRecDepth 100000
namespace Go.Proofs.Am
open Go Go.RowKit Tryz
open Go.Proofs
open Go
variable {i k0:Nat}{seats:LI}{l:LS}{c:Cs}{k:Int}{v:List Vt}{n:Cn}{x:Ct}{α:Type}
def aci(l:LI)(p:Nat)(ep:Int):Cs×Nat:=
 if am l p 3≠0 then(⟨ep,1+am l p 3,am l (dgo l p 1) 7,am l (dgo l p 2) 2⟩,dgo l p 3)else(⟨ep,1,0,0⟩,dgo l p 1)
theorem atc{l:LI}{p:Nat}(b:p<=l.length)(a:Int):(aci l p a).2<=l.length:=by unfold aci;split<;>exact i7 b _
theorem a8u(l:LI)(p:Nat)(a:Int)(e:big l.length)(c:p<=l.length):Den prog 19 [.ptr 1000000 0,.int .i64 a] [qf l p] (.agg (cs (aci l p a).1)) [] [qf l (aci l p a).2]:=by refine ah_ [] [1000000] func19 ntmps19 results19 ?_;have f:=i7 c 1;have d:=i7 c 2;have g:dp l p=dgo l p 1:=rfl;have q:=d7 (l:=l) (p:=p) (n:=3) Aa;have i:IntKind.i64.wrap (1+am l p 3)=1+am l p 3:=Ab;have b:aci l p a=if am l p 3≠0 then(⟨a,1+am l p 3,am l (dgo l p 1) 7,am l (dgo l p 2) 2⟩,dgo l p 3)else(⟨a,1,0,0⟩,dgo l p 1):=rfl;generalize aci l p a=m at*;simp only[go_sem];refine Qq (bh l p 3 e c Aa) [1000000] ?_;generalize r:am l p 3=k at*;by_cases h:k=0;{subst h;rw[if_neg Ad]at b;subst b;have o:IntKind.i64.wrap 1=1:=Ab;simp only[go_sem,g,o,dh]};.rw[if_pos h]at b;subst b;have j: ¬1+k=1:=Aa;simp only[go_sem,g,i,j,dh];refine Qq (bh l (dgo l p 1) 7 e f Aa) [1000000] ?_;simp only[go_sem,fa];refine Qq (bh l (dgo l p 2) 2 e d Aa) [1000000] ?_;simp only[go_sem,fa]
theorem bk4(s:Stm)(hs:om s):DN 289 [.agg (sm s)] (.tup [.agg (vt7 (ofE s).1),.int .i64 (ofE s).2]):=by refine ag_ func289 ntmps289 results289 ?_;have k:=ui s hs;generalize f:ofE s=r;rw[sm]at k ⊢;simp only[go_sem];refine Qq k [] ?_;by_cases a:aj s=0;rotate_left;{have:r=(noV,aj s):=(by rw[<-f,ofE,if_pos a]);subst this;simp only[go_sem,a,noV]};have hx:=akl a;have g:=(mq a);have n:=g.1;have o:=g.2.1;have c4:=anv (mkV s).c (mkV s).x hx;rw[dh,kn]at c4;simp only[mkV]at c4;have i: ¬aj s≠0:=λh=>h a;have l:IntKind.i64.wrap (s.b.tdiv 16)=s.b.tdiv 16:=(by have m:=g.2.2.2;simp only[lz,inB,b0l,b01]at m;have p:s.b.tdiv 16=s.b/16:=b2l Aa;rw[ah]<;>omega);clear g;by_cases e:s.kd=10;rotate_left;{have:r=(noV,42):=(by rw[<-f,ofE,if_neg i,if_neg (λh=>e h.1)]);subst this;simp only[go_sem,a,e,noV];(repeat refine an_ ?_);all_goals exact ok_};by_cases j:s.body=[];rotate_left;{have:r=(noV,42):=(by rw[<-f,ofE,if_neg i,if_neg (λh=>j h.2.1)]);subst this;simp only[go_sem,a,e,j,noV];(repeat refine an_ ?_);all_goals exact ok_};simp only[go_sem,a,e,j];(repeat refine an_ ?_);refine Qq c4 [] ?_;by_cases d:kr (mkV s).c (mkV s).x=true;{have:r=(mkV s,0):=(by rw[<-f,ofE,if_neg i,if_pos ⟨e,j,d⟩]);subst this;simp only[mkV]at d;simp only[go_sem,d,mkV,l]};.have:r=(noV,42):=(by rw[<-f,ofE,if_neg i,if_neg (λh=>d h.2.2)]);subst this;simp only[mkV,b6z]at d;simp only[go_sem,d,noV,l]
theorem akk(s:Stm)(hs:om s):DN 222 [.agg (sm s)] (.tup [.agg (vt7 (eh s).1),.bool (eh s).2]):=by refine ag_ func222 ntmps222 results222 ?_;have b:=bk4 s hs;have c:=λh:(ofE s).2=0=>fw s (a10 h);generalize d:eh s=r;rw[sm]at b c ⊢;simp only[go_sem];refine Qq b [] ?_;by_cases a:(ofE s).2=0;{simp only[go_sem,a];refine Qq (c a) [] ?_;simp only[go_sem];refine⟨ok_,?_⟩;rw[<-d];exact⟨⟨rfl,rfl,rfl,rfl,rfl,rfl,rfl⟩,Gc⟩};.simp only[go_sem,a];refine⟨ok_,?_⟩;rw[<-d];exact⟨⟨rfl,rfl,rfl,rfl,rfl,rfl,rfl⟩,Gc⟩
theorem aa6(a b:Vt):uu a b<0↔a.k<b.k\/a.k=b.k/\nc a.x b.x<0:=by unfold uu or2 ic;by_cases c:a.k<b.k;{simp[c]};.by_cases h2:b.k<a.k;{simp[c,h2];omega};.have:a.k=b.k:=Aa;simp[this]
theorem afm(a b:Vt)(f:qg a.x)(e:qg b.x):DN 223 [.agg (vt7 a),.agg (vt7 b)] (.bool (decide (uu a b<0))):=by refine ag_ func223 ntmps223 results223 ?_;by_cases c:a.k<b.k;{have h:uu a b<0:=(aa6 a b).2 (.inl c);simp only[go_sem,c,h]};by_cases d:a.k=b.k;rotate_left;{have h: ¬uu a b<0:=λh=>(by rcases(aa6 a b).1 h with h|h<;>omega);simp only[go_sem,c,d,h]};have h:uu a b<0↔nc a.x b.x<0:=⟨λh=>by rcases(aa6 a b).1 h with h|h;omega;exact h.2,λh=>(aa6 a b).2 (.inr ⟨d,h⟩)⟩;have g: ¬b.k<b.k:=Aa;simp only[go_sem,c,d,g];refine Qq (mr a.x b.x f.1 f.2 e.1 e.2) [] ?_;simp only[go_sem];simp[h]
def m8(a b:Cs):Bool:=if a.ep≠b.ep then decide (a.ep<b.ep)else if a.kd≠b.kd then decide (a.kd<b.kd)else if a.su≠b.su then decide (a.su<b.su)else decide (a.ro<b.ro)
theorem ar7(a b:Cs):DN 396 [.agg (cs a),.agg (cs b)] (.bool (m8 a b)):=by refine ag_ func396 ntmps396 results396 ?_;rw[dh,dh,m8];by_cases c:a.ep=b.ep;rotate_left;{simp only[go_sem,c]};by_cases d:a.kd=b.kd;rotate_left;{simp only[go_sem,c,d]};by_cases e:a.su=b.su;rotate_left;{simp only[go_sem,c,d,e]};simp only[go_sem,c,d,e]
theorem ap4 [Inhabited α](q:α->α->Bool)(l:List α)(h: ∀j,0<j->j<l.length->q (el l j) (el l (j - 1))=false):kp q l l.length=l:=by rw[acu q l l.length (b0f _) h,b0n]
def ef(a b:Cs):Bool:=decide (a=b)
theorem ab3(a b:Cs):a=b↔(a.ep=b.ep/\a.kd=b.kd/\a.su=b.su/\a.ro=b.ro):=by cases a;cases b;simp
def zC:LP:=[.int .i64 0,.int .i64 0,.int .i64 0,.int .i64 0]
theorem bri:zC=[PV.int .i64 0,PV.int .i64 0,PV.int .i64 0,PV.int .i64 0].map aap:=(rfl)
theorem ak0(a b:Cs):(decide (a.ep=b.ep)&&(decide (a.kd=b.kd)&&(decide (a.su=b.su)&&decide (a.ro=b.ro))))=ef a b:=by unfold ef;rw[b3s];simp[ab3]
theorem wa [Inhabited α]{L o:List α}{v:α}(a:o.length<L.length)(b:L.take o.length=o):(L.set o.length v).take (o++[v]).length=o++[v]:=by rw[b0a,b1j,b4g,List.take_set_of_le (b0f _),b];simp[a]
theorem ala [Inhabited α]{L:List α}{v:α}{k a:Nat}(h:k<a):el (L.set k v) a=el L a:=by simp only[el,bd,b2x];rw[if_neg Aa]
theorem ajx(l:LC)(g:big l.length)(hd: ∀i,0<i->i<l.length->ef (el l i) (el l (i - 1))=false):
  Den prog 138 [.os 1000000 l.length] [.arr 64 4 false (l.map cs)] (.os 1000000 l.length) [] [.arr 64 4 false (l.map cs)]:=by refine ah_ [] [1000000] func138 ntmps138 results138 ?_;by_cases d:(l.length:Int)<2;{simp only[go_sem,d]};simp only[go_sem,d];refine lo_ 1 (λi:Nat=>[(0,.os 1000000 l.length),(3,.int .i64 i)]) (λ_=>[(1000000,.arr 64 4 false (l.map cs))]) (λi=>1<=i/\i<=l.length) (λi=>l.length - i) ⟨b0f _,Aa⟩ ?_ ?_;{simp only[go_sem]};.rintro i ⟨hi0,hi⟩;by_cases c:i<l.length;{have h1:(i:Int)<(l.length:Int):=Aa;obtain⟨j,rfl⟩: ∃j,i=j+1:=⟨i - 1,Aa⟩;have e:IntKind.i64.wrap (((j+1:Nat):Int) - 1)=(j:Int):=Ab;have f:j<l.length:=Aa;have b:=hd (j+1) Aa c;rw[b1z]at b;have a:=b1a b;rw[ab3]at a;simp only[go_sem,h1,c,e,f,dh];refine⟨ok_,λh=>absurd h a,λ_=>⟨j+1+1,⟨Aa,Aa⟩,?_⟩⟩;rw[ah]<;>omega};.have h1: ¬(i:Int)<(l.length:Int):=Aa;simp only[go_sem,h1]
theorem ah6(l:LC)(S:big l.length)(T:0<k0)(R:k0<l.length)(E:ef (el l k0) (el l (k0 - 1))=true)(H: ∀j,0<j->j<k0->ef (el l j) (el l (j - 1))=false):
  Den prog 138 [.os 1000000 l.length] [.arr 64 4 false (l.map cs)] (.vs ((kp ef l l.length).map cs)) [] [.arr 64 4 true ((kp ef l l.length).map cs++List.replicate (l.length - (kp ef l l.length).length) zC)]:=by refine ah_ [] [1000000] func138 ntmps138 results138 ?_;have k: ¬(l.length:Int)<2:=Aa;simp only[go_sem,k];refine yw mx_ 1 (λi:Nat=>[(0,.os 1000000 l.length),(3,.int .i64 i)]) (λ_=>[(1000000,.arh 64 4 (l.map cs))]) (λi=>1<=i/\i<=k0) (λi=>k0 - i) Ae ⟨b0f _,Aa⟩ ?_ ?_;{refine Cv.trans (Cv.opn (n:=1000000) Al) (Cv.wk ?_);have d:=bu [1000000] cs (λ_=>rfl) l;simp only[go_sem,d]};.rintro i ⟨hi0,hi⟩;have q:i<l.length:=Aa;have I:(i:Int)<(l.length:Int):=Aa;obtain⟨j,rfl⟩: ∃j,i=j+1:=⟨i - 1,Aa⟩;have K:IntKind.i64.wrap (((j+1:Nat):Int) - 1)=(j:Int):=Ab;have M:j<l.length:=Aa;have Q:ef (el l (j+1)) (el l j)=decide (el l (j+1)=el l j):=rfl;by_cases N:j+1<k0;{have hne:=H (j+1) Aa N;rw[b1z]at hne;have f:=b1a hne;rw[ab3]at f;simp only[go_sem,I,q,K,M,dh];refine⟨ok_,λh=>absurd h f,λ_=>⟨j+1+1,⟨Aa,Aa⟩,Cv.wk ?_⟩⟩;have d:=bu [1000000] cs (λ_=>rfl) l;simp only[go_sem,d];rw[ah]<;>omega};.obtain rfl:k0=j+1:=Aa;rw[b1z]at E;have t:=b0g E;rw[ab3]at t;simp only[go_sem,I,q,K,M,dh,t];refine⟨ok_,?_⟩;have B:kp ef l (j+1+1)=l.take (j+1):=(by have:=acu ef l (j+1) Aa H;rw[kp,if_neg (λh=>by rcases h with h|h;omega;rw[b1z,E]at h;cases h),this,b00]);refine yw mx_ (0,l) (λs:Nat×LC=>[(0,.os 1000000 l.length),(3,.int .i64 (kp ef l (j+1+(s.1+1))).length),(4,.osl 1000000 l.length (j+1)),(5,.int .i64 ((s.1+1:Nat):Int))]) (λs=>[(1000000,.arh 64 4 (s.2.map cs))]) (λs=>j+1+(s.1+1)<=l.length/\s.2.length=l.length/\(kp ef l (j+1+(s.1+1))).length<j+1+(s.1+1)/\s.2.take (kp ef l (j+1+(s.1+1))).length=kp ef l (j+1+(s.1+1))/\∀a,(kp ef l (j+1+(s.1+1))).length<=a->el s.2 a=el l a) (λs=>l.length - s.1) Ae ?_ ?_ ?_;{have e:(l.take (j+1)).length=j+1:=Ag;refine⟨Ah,rfl,?_,?_,λa _=>rfl⟩;{show(kp ef l (j+1+1)).length<j+1+1;rw[B,e];omega};.show l.take (kp ef l (j+1+1)).length=kp ef l (j+1+1);rw[B,e]};{refine Cv.wk ?_;have e:(l.take (j+1)).length=j+1:=Ag;have d:=bu [1000000] cs (λ_=>rfl) l;simp only[go_sem,d,B,e]};.rintro⟨n,L⟩ ⟨i1,i2,i3,i4,i5⟩;simp only at i1 i2 i3 i4 i5;simp only;have O:kp ef l (j+1+(n+1)+1)=kp ef l (j+1+(n+1))++if ef (el l (j+1+(n+1))) (el l (j+1+n))=false then [el l (j+1+(n+1))]else []:=(by rw[kp];have h0: ¬j+1+(n+1)=0:=Aa;simp only[h0,b8g];rfl);have P:0<(kp ef l (j+1+(n+1))).length:=a2a _ _ Aa;generalize J:kp ef l (j+1+(n+1))=o at*;by_cases z:j+1+(n+1)<l.length;{have p:((n+1:Nat):Int)<((l.length - (j+1):Nat):Int):=Aa;have m:((j+1:Nat):Int)+((n+1:Nat):Int)<(l.length:Int):=Aa;have u:((j+1:Nat):Int)+(n:Int)<(l.length:Int):=Aa;have w:IntKind.i64.wrap (((n+1:Nat):Int) - 1)=(n:Int):=Ab;have v:j+1+(n+1)<L.length:=Aa;have y:j+1+n<L.length:=Aa;have F:el L (j+1+(n+1))=el l (j+1+(n+1)):=i5 _ Aa;have G:el L (j+1+n)=el l (j+1+n):=i5 _ Aa;have b:kp ef l (j+1+((n+1)+1))=o++if ef (el l (j+1+(n+1))) (el l (j+1+n))=false then [el l (j+1+(n+1))]else []:=O;cases hsame:ef (el l (j+1+(n+1))) (el l (j+1+n))with|true=>rw[hsame,if_neg Ad,b00]at b;simp only[go_sem,p,m,u,w,v,y,i2,F,G,ak0,hsame];refine⟨z,Aa,ok_,(n+1,L),⟨⟨Ah,i2,?_,?_,λa D=>i5 a ?_⟩,Ah⟩,Cv.wk ?_⟩;{show(kp ef l (j+1+((n+1)+1))).length<_;rw[b];simp only;omega};{show L.take (kp ef l (j+1+((n+1)+1))).length=_;rw[b];exact i4};{have ha':(kp ef l (j+1+((n+1)+1))).length<=a:=D;rwa [b]at ha'};.have d:=bu [1000000] cs (λ_=>rfl) L;simp only[go_sem,b,d];rw[ah]<;>omega|false=>rw[hsame,if_pos rfl]at b;simp only[go_sem,p,m,u,w,v,y,i2,F,G,ak0,hsame];refine⟨z,Aa,ok_,z,Aa,Aa,(n+1,L.set o.length (el l (j+1+(n+1)))),⟨⟨Ah,Em,?_,?_,λa D=> ?_⟩,Ah⟩,Cv.wk ?_⟩;{show(kp ef l (j+1+((n+1)+1))).length<_;rw[b,b0a,b1j];simp only;omega};{show(L.set o.length (el l (j+1+(n+1)))).take (kp ef l (j+1+((n+1)+1))).length=kp ef l (j+1+((n+1)+1));rw[b];exact wa Aa i4};{have ha':(kp ef l (j+1+((n+1)+1))).length<=a:=D;rw[b,b0a,b1j]at ha';show el (L.set o.length _) a=_;rw[ala Aa];exact i5 a Aa};.have d:=bu [1000000] cs (λ_=>rfl) (L.set o.length (el l (j+1+(n+1))));have g:(L.map cs).set o.length [PV.int IntKind.i64 (el l (j+1+(n+1))).ep,PV.int IntKind.i64 (el l (j+1+(n+1))).kd,PV.int IntKind.i64 (el l (j+1+(n+1))).su,PV.int IntKind.i64 (el l (j+1+(n+1))).ro]=(L.set o.length (el l (j+1+(n+1)))).map cs:=D0;have A:(o++[el l (j+1+(n+1))]).length=o.length+1:=Ad;simp only[go_sem,b,g,d,A];exact⟨Ab,Ab⟩};.have hend:j+1+(n+1)=l.length:=Aa;have p: ¬((n+1:Nat):Int)<((l.length - (j+1):Nat):Int):=Aa;have m:(o.length:Int)<(l.length:Int):=Aa;rw[hend]at J;rw[J];have r:(L.map cs).take o.length=o.map cs:=(by rw[<-b3j,i4]);have C: ∀σ,l7 σ (o.map cs++List.replicate (l.length - o.length) zC)=some (o.map cs++List.replicate (l.length - o.length) zC,[]):=λσ=>ph λx hx=>(by rcases b0j.1 hx with hx|hx;{obtain⟨c,_,rfl⟩:=b0z.1 hx;rfl};.rw[b18 hx];rfl);have u:(o.length:Int)<=(l.length:Int):=Aa;have w:(o.map cs++List.replicate (l.length - o.length) zC).length=l.length:=Ag;have v:(o.map cs++List.replicate (l.length - o.length) zC).take o.length=o.map cs:=Ad;simp only[go_sem,p,m,i2,r];refine ng _ _ ?_;have y:o.length<l.length:=Aa;simp only[go_sem,p,m,i2,r,y,<-bri,C,u,w,v];refine ar3 _ ?_;simp only[go_sem]
theorem am3(l:LC)(a:big l.length):
  ∃new,new.length=l.length/\Den prog 138 [.os 1000000 l.length] [.arr 64 4 false (l.map cs)] (.vs ((kp ef l l.length).map cs)) [] [.arr 64 4 true new]:=by rcases aar ef l l.length (b0f _)with h|⟨k0,h1,h2,h3,h4⟩;{rw[ap4 _ _ h];exact⟨_,Ad,(ajx l a h).vsE Ad⟩};.exact⟨_,by have:=aff ef l l.length;simp;omega,ah6 l a h1 h2 h3 h4⟩
def fq(a b:Vt):Bool:=decide (uu a b=0)
def zV:LP:=[.int .i64 0,.int .i64 0,.int .i64 0,.int .i64 0,.int .i64 0,.vs [],.vs []]
theorem bsl:zV=[PV.int .i64 0,PV.int .i64 0,PV.int .i64 0,PV.int .i64 0,PV.int .i64 0,.nils,.nils].map aap:=(rfl)
theorem ajj(l:List Vt)(X:big l.length)(E: ∀a∈l,qg a.x)(Y:0<k0)(W:k0<l.length)(N:fq (el l k0) (el l (k0 - 1))=true)(Q: ∀j,0<j->j<k0->fq (el l j) (el l (j - 1))=false):
  Den prog 195 [.os 1000000 l.length,.fn 196 [.ptr 1000001 0]] [.arr 195 7 false (l.map vt7),.cells [.fn 193 []]] (.vs ((kp fq l l.length).map vt7)) [] [.arr 195 7 true ((kp fq l l.length).map vt7++List.replicate (l.length - (kp fq l l.length).length) zV),.cells [.fn 193 []]]:=by refine ah_ [] [1000000,1000001] func195 ntmps195 results195 ?_;have z: ¬(l.length:Int)<2:=Aa;simp only[go_sem,z];refine yw mx_ 1 (λi:Nat=>[(0,.os 1000000 l.length),(1,.fn 196 [.ptr 1000001 0]),(5,.int .i64 i)]) (λ_=>[(1000000,.arh 195 7 (l.map vt7)),(1000001,.cells [.fn 193 []])]) (λi=>1<=i/\i<=k0) (λi=>k0 - i) Ae ⟨b0f _,Aa⟩ ?_ ?_;{refine Cv.trans (Cv.opn (n:=1000000) Al) (Cv.wk ?_);have d:=bu [1000000,1000001] vt7 (λ_=>rfl) l;simp only[go_sem,d]};.rintro i ⟨hi0,hi⟩;have m:i<l.length:=Aa;have K:(i:Int)<(l.length:Int):=Aa;obtain⟨j,rfl⟩: ∃j,i=j+1:=⟨i - 1,Aa⟩;have O:IntKind.i64.wrap (((j+1:Nat):Int) - 1)=(j:Int):=Ab;have F:j<l.length:=Aa;have A:=aqo (el l (j+1)) (el l j) (E _ (cr m)) (E _ (cr F));have S:decide (uu (el l (j+1)) (el l j)=0)=fq (el l (j+1)) (el l j):=rfl;rw[S]at A;by_cases T:j+1<k0;{have hne:=Q (j+1) Aa T;rw[b1z]at hne;rw[hne]at A;simp only[go_sem,K,m,O,F];refine Qq A [1000001] ?_;simp only[go_sem];refine⟨ok_,j+1+1,⟨Aa,Aa⟩,Cv.wk ?_⟩;have d:=bu [1000000,1000001] vt7 (λ_=>rfl) l;simp only[go_sem,d];rw[ah]<;>omega};.obtain rfl:k0=j+1:=Aa;rw[b1z]at N;rw[N]at A;simp only[go_sem,K,m,O,F];refine Qq A [1000001] ?_;simp only[go_sem,K,m,O,F];refine⟨ok_,?_⟩;have H:kp fq l (j+1+1)=l.take (j+1):=(by have:=acu fq l (j+1) Aa Q;rw[kp,if_neg (λh=>by rcases h with h|h;omega;rw[b1z,N]at h;cases h),this,b00]);refine yw mx_ (0,l) (λs:Nat×List Vt=>[(0,.os 1000000 l.length),(1,.fn 196 [.ptr 1000001 0]),(5,.int .i64 (kp fq l (j+1+(s.1+1))).length),(6,.osl 1000000 l.length (j+1)),(7,.int .i64 ((s.1+1:Nat):Int))]) (λs=>[(1000000,.arh 195 7 (s.2.map vt7)),(1000001,.cells [.fn 193 []])]) (λs=>j+1+(s.1+1)<=l.length/\s.2.length=l.length/\(kp fq l (j+1+(s.1+1))).length<j+1+(s.1+1)/\s.2.take (kp fq l (j+1+(s.1+1))).length=kp fq l (j+1+(s.1+1))/\∀a,(kp fq l (j+1+(s.1+1))).length<=a->el s.2 a=el l a) (λs=>l.length - s.1) Ae ?_ ?_ ?_;{have e:(l.take (j+1)).length=j+1:=Ag;refine⟨Ah,rfl,?_,?_,λa _=>rfl⟩;{show(kp fq l (j+1+1)).length<j+1+1;rw[H,e];omega};.show l.take (kp fq l (j+1+1)).length=kp fq l (j+1+1);rw[H,e]};{refine Cv.wk ?_;have e:(l.take (j+1)).length=j+1:=Ag;have d:=bu [1000000,1000001] vt7 (λ_=>rfl) l;simp only[go_sem,d,H,e]};.rintro⟨n,L⟩ ⟨i1,i2,i3,i4,i5⟩;simp only at i1 i2 i3 i4 i5;simp only;have U:kp fq l (j+1+(n+1)+1)=kp fq l (j+1+(n+1))++if fq (el l (j+1+(n+1))) (el l (j+1+n))=false then [el l (j+1+(n+1))]else []:=(by rw[kp];have h0: ¬j+1+(n+1)=0:=Aa;simp only[h0,b8g];rfl);have V:0<(kp fq l (j+1+(n+1))).length:=a2a _ _ Aa;generalize R:kp fq l (j+1+(n+1))=o at*;by_cases y:j+1+(n+1)<l.length;{have q:((n+1:Nat):Int)<((l.length - (j+1):Nat):Int):=Aa;have p:((j+1:Nat):Int)+((n+1:Nat):Int)<(l.length:Int):=Aa;have r:((j+1:Nat):Int)+(n:Int)<(l.length:Int):=Aa;have u:IntKind.i64.wrap (((n+1:Nat):Int) - 1)=(n:Int):=Ab;have t:j+1+(n+1)<L.length:=Aa;have v:j+1+n<L.length:=Aa;have C:el L (j+1+(n+1))=el l (j+1+(n+1)):=i5 _ Aa;have D:el L (j+1+n)=el l (j+1+n):=i5 _ Aa;have b:kp fq l (j+1+((n+1)+1))=o++if fq (el l (j+1+(n+1))) (el l (j+1+n))=false then [el l (j+1+(n+1))]else []:=U;have f:=aqo (el l (j+1+(n+1))) (el l (j+1+n)) (E _ (cr y)) (E _ (cr Aa));have J:decide (uu (el l (j+1+(n+1))) (el l (j+1+n))=0)=fq (el l (j+1+(n+1))) (el l (j+1+n)):=rfl;rw[J]at f;have g:j+1+n<l.length:=Aa;cases hsame:fq (el l (j+1+(n+1))) (el l (j+1+n))with|true=>rw[hsame,if_neg Ad,b00]at b;rw[hsame]at f;simp only[go_sem,q,p,r,u,t,v,i2,C,D,y,g];refine Qq f [1000001] ?_;simp only[go_sem,q,p,r,u,t,v,i2,C,D,y,g];refine⟨ok_,(n+1,L),⟨⟨Ah,i2,?_,?_,λa M=>i5 a ?_⟩,Ah⟩,Cv.wk ?_⟩;{show(kp fq l (j+1+((n+1)+1))).length<_;rw[b];simp only;omega};{show L.take (kp fq l (j+1+((n+1)+1))).length=_;rw[b];exact i4};{have ha':(kp fq l (j+1+((n+1)+1))).length<=a:=M;rwa [b]at ha'};.have d:=bu [1000000,1000001] vt7 (λ_=>rfl) L;simp only[go_sem,b,d];rw[ah]<;>omega|false=>rw[hsame,if_pos rfl]at b;rw[hsame]at f;have P:o.length<l.length:=Aa;simp only[go_sem,q,p,r,u,t,v,P,i2,C,D,y,g];refine Qq f [1000001] ?_;simp only[go_sem,q,p,r,u,t,v,P,i2,C,D,y,g];refine⟨ok_,(n+1,L.set o.length (el l (j+1+(n+1)))),⟨⟨Ah,Em,?_,?_,λa M=> ?_⟩,Ah⟩,Cv.wk ?_⟩;{show(kp fq l (j+1+((n+1)+1))).length<_;rw[b,b0a,b1j];simp only;omega};{show(L.set o.length (el l (j+1+(n+1)))).take (kp fq l (j+1+((n+1)+1))).length=kp fq l (j+1+((n+1)+1));rw[b];exact wa Aa i4};{have ha':(kp fq l (j+1+((n+1)+1))).length<=a:=M;rw[b,b0a,b1j]at ha';show el (L.set o.length _) a=_;rw[ala Aa];exact i5 a Aa};.have d:=bu [1000000,1000001] vt7 (λ_=>rfl) (L.set o.length (el l (j+1+(n+1))));have w:(L.map vt7).set o.length [PV.int IntKind.i64 (el l (j+1+(n+1))).k,PV.int IntKind.i64 (el l (j+1+(n+1))).c.ep,PV.int IntKind.i64 (el l (j+1+(n+1))).c.kd,PV.int IntKind.i64 (el l (j+1+(n+1))).c.su,PV.int IntKind.i64 (el l (j+1+(n+1))).c.ro,PV.vs (List.map Am.i1 (el l (j+1+(n+1))).x.li),PV.vs (List.map pn (el l (j+1+(n+1))).x.pi)]=(L.set o.length (el l (j+1+(n+1)))).map vt7:=D0;have G:(o++[el l (j+1+(n+1))]).length=o.length+1:=Ad;simp only[go_sem,b,w,d,G];exact⟨Ab,Ab⟩};.have hend:j+1+(n+1)=l.length:=Aa;have q: ¬((n+1:Nat):Int)<((l.length - (j+1):Nat):Int):=Aa;have p:(o.length:Int)<(l.length:Int):=Aa;rw[hend]at R;rw[R];have B:(L.map vt7).take o.length=o.map vt7:=(by rw[<-b3j,i4]);have I: ∀σ,l7 σ (o.map vt7++List.replicate (l.length - o.length) zV)=some (o.map vt7++List.replicate (l.length - o.length) zV,[]):=λσ=>ph λx hx=>(by rcases b0j.1 hx with hx|hx;{obtain⟨c,_,rfl⟩:=b0z.1 hx;rfl};.rw[b18 hx];rfl);have r:(o.length:Int)<=(l.length:Int):=Aa;have u:(o.map vt7++List.replicate (l.length - o.length) zV).length=l.length:=Ag;have t:(o.map vt7++List.replicate (l.length - o.length) zV).take o.length=o.map vt7:=Ad;simp only[go_sem,q,p,i2,B];refine ng _ _ ?_;have v:o.length<l.length:=Aa;simp only[go_sem,q,p,i2,B,v,<-bsl,I,r,u,t];refine ar3 _ ?_;simp only[go_sem]
theorem ahi(l:List Vt)(b:big l.length)(c: ∀a∈l,qg a.x):
  ∃new,new.length=l.length/\Den prog 195 [.os 1000000 l.length,.fn 196 [.ptr 1000001 0]] [.arr 195 7 false (l.map vt7),.cells [.fn 193 []]] (.vs ((kp fq l l.length).map vt7)) [] [.arr 195 7 true new,.cells [.fn 193 []]]:=by rcases aar fq l l.length (b0f _)with h|⟨k0,h1,h2,h3,h4⟩;{rw[ap4 _ _ h];exact⟨_,Ad,(alb l b c λi d f e=>by have:=h i d f;simp[fq,e]at this).vsE Ad⟩};.exact⟨_,by have:=aff fq l l.length;simp;omega,ajj l b c h1 h2 h3 h4⟩
def br(l:LS)(c:Cs):List Vt:=kp fq (bbj (aef l c l.length)) (bbj (aef l c l.length)).length
theorem afo(l:LS)(c:Cs)(B:l.length<=1000000)(hs: ∀s∈l,om s):
  DN 142 [.vs (l.map sm),.agg (cs c)] (.vs ((br l c).map vt7)):=by refine ag_ func142 ntmps142 results142 ?_;simp only[go_sem];refine bm 5 99 195 7 false ?_ ?_ ?_ Aa;{refine lo_ 0 (λi:Nat=>[(11,.vs (l.map sm)),(12,.int .i64 l.length),(13,.int .i64 i),(3,.ptr 3 0),(5,.os 99 (aef l c i).length)]) (λi=>[(3,.cells [.int .i64 c.ep,.int .i64 c.kd,.int .i64 c.su,.int .i64 c.ro]),(99,.arr 195 7 false ((aef l c i).map vt7))]) (λi=>i<=l.length) (λi=>l.length - i) (b0k _) ?_ ?_;{simp only[go_sem];exact⟨rfl,rfl⟩};.intro i hi;by_cases j:i<l.length;{have h1:(i:Int)<(l.length:Int):=Aa;have d:=alo (c:=c) j;have v:=avn l c i;have y:=aka (el l i) (hs _ (cr j));rw[dc]at y;generalize aef l c i=o at*;generalize t:eh (el l i)=ve at*;obtain⟨w,b⟩:=ve;simp only[okV,t]at d;simp only[go_sem,h1,j];refine Qq y [] ?_;cases b with|false=>simp only[go_sem];refine⟨i+1,Aa,?_⟩;rw[d];simp only[b3d,b12,b25,b00];simp only[go_sem];rw[ah]<;>omega|true=>have f:(w.c=c)↔(w.c.ep=c.ep/\w.c.kd=c.kd/\w.c.su=c.su/\w.c.ro=c.ro):=(by cases hw:w.c;cases c;simp);simp only[go_sem];refine⟨λh=>⟨Aa,i+1,Aa,?_⟩,λh=>⟨i+1,Aa,?_⟩⟩;{rw[d];simp only[f.2 h,b8f,b5d,b4i];exact⟨⟨Ab,Ad⟩,by simp[vt7,f.2 h]⟩};.have hn: ¬w.c=c:=λe=>(by have:=f.1 e;simp[this]at h);rw[d];simp only[hn,b6e,b43,b12,b25,b00];exact⟨⟨Ab,trivial⟩,trivial⟩};.have h1: ¬(i:Int)<(l.length:Int):=Aa;have:i=l.length:=Aa;subst this;simp only[go_sem,h1];have v:=avn l c l.length;have n: ∀a∈aef l c l.length,qg a.x:=λa g=>(by obtain⟨s,_,rfl⟩:=b0z.1 g;exact lm aau);have q: ∀a∈aef l c l.length,a.c=c:=λa g=>(by obtain⟨s,r,rfl⟩:=b0z.1 g;have:=(b16.1 r).2;simp only[okV,b0l,b01]at this;exact this.2);have m:br l c=kp fq (bbj (aef l c l.length)) (bbj (aef l c l.length)).length:=rfl;rw[m];clear m;generalize aef l c l.length=o at*;refine Qq (a3t o Aa n (λa g b z=>(q a g).trans (q b z).symm)) [99] ?_;have k:(bbj o).length=o.length:=b3b _;simp only[go_sem,k];obtain⟨A,u,p⟩:=ahi (bbj o) Af (λa g=>n a ((b2e _ _).mem_iff.1 g));rw[k]at p u;refine⟨b0f _,?_⟩;refine Qq p [99,10] ?_;simp only[go_sem,k];omega};{simp only[go_sem]};.simp only[go_sem]
def ltV(a b:Vt):Bool:=decide (uu a b<0)
def a0g(l:LS)(c:Cs)(i:Nat):List Vt:=(aef l c i).foldl (pu ltV) []
theorem aob(h:i<l.length):a0g l c (i+1)=if okV c (el l i)=true then pu ltV (a0g l c i) (eh (el l i)).1 else a0g l c i:=by simp only[a0g,alo h,b22];split<;>rfl
theorem aqs{c:Cs}: ∀i,i<=l.length->(a0g l c i).length<=i/\∀y∈a0g l c i,qg y.x
 |0,_=>by simp[a0g,aef]
 |i+1,h=>by
  have ih:=aqs (c:=c) i (by omega:i<=l.length);rw[aob Aa];split
  .refine⟨b1l (ai5 _ _ _) Aa,λy a=> ?_⟩;rcases asy _ _ _ _ a with rfl|a
   .exact lm aau
   .exact ih.2 y a
  .exact⟨Aa,ih.2⟩
theorem amp(l:LS)(c:Cs)(B:l.length<=1000000)(hs: ∀s∈l,om s):DN 165 [.vs (l.map sm),.agg (cs c)] (.vs ((a0g l c l.length).map vt7)):=by refine ag_ func165 ntmps165 results165 ?_;simp only[go_sem,dh];refine lo_ 0 (λi:Nat=>[(0,.vs (l.map sm)),(3,.ptr 3 0),(5,.vs ((a0g l c i).map vt7)),(6,.int .i64 i)]) (λ_=>[(3,.cells [.int .i64 c.ep,.int .i64 c.kd,.int .i64 c.su,.int .i64 c.ro])]) (λi=>i<=l.length) (λi=>l.length - i) (b0k _) ?_ ?_;{simp only[go_sem];rfl};.intro i hi;by_cases f:i<l.length;{have h1:(i:Int)<(l.length:Int):=Aa;have a:=aob (c:=c) f;obtain⟨A,t⟩:=aqs (c:=c) i hi;have y:=akk (el l i) (hs _ (cr f));rw[dc]at y;have g:qg (eh (el l i)).1.x:=lm aau;generalize a0g l c i=o at*;generalize q:eh (el l i)=ve at*;obtain⟨w,b⟩:=ve;simp only[okV,q]at a;simp only at g;simp only[go_sem,h1,f];refine Qq y [] ?_;cases b with|false=>simp only[go_sem];refine⟨i+1,Aa,?_⟩;rw[a];simp only[b3d,b12,b25];simp only[go_sem];rw[ah]<;>omega|true=>cases hsc:ef w.c c with|false=>have u: ¬w.c=c:=b1a hsc;simp only[go_sem,ak0,hsc];refine⟨i+1,Aa,?_⟩;rw[a];simp only[u,b6e,b43,b12,b25];simp only[go_sem];rw[ah]<;>omega|true=>have u:w.c=c:=b0g hsc;simp only[u,b8f,b5d,b4i]at a;simp only[go_sem,ak0,hsc];refine lo_ 0 (λk:Nat=>[(0,.vs (l.map sm)),(3,.ptr 3 0),(5,.vs (o.map vt7)),(6,.int .i64 i),(7,.ptr 7 0),(9,.int .i64 k)]) (λ_=>[(3,.cells [.int .i64 c.ep,.int .i64 c.kd,.int .i64 c.su,.int .i64 c.ro]),(7,.cells (vt7 w))]) (λk=>k<=o.length/\∀j,j<k->ltV (el o j) w=true) (λk=>o.length - k) ⟨b0k _,λj z=>Aa⟩ ?_ ?_;{simp only[go_sem]};.rintro k ⟨hk,hall⟩;by_cases e:k<o.length;{have h2:(k:Int)<(o.length:Int):=Aa;have m:=t (el o k) (cr e);simp only[go_sem,h2,e];refine Qq (afm (el o k) w m g) [] ?_;by_cases n:uu (el o k) w<0;{simp only[go_sem,n];refine⟨ok_,k+1,⟨⟨Aa,λj z=> ?_⟩,Aa⟩,?_⟩;{rcases b1m.1 z with h|h;{exact hall j h};.rw[h];exact b0h n};.rw[ah]<;>omega};have d:=adg ltV o w k hk hall (λ_=>b0b n);simp only[go_sem,n];refine⟨ok_,?_⟩;simp only[go_sem,h2,e];refine Qq (afm w (el o k) g m) [] ?_;by_cases p:uu w (el o k)<0;{rw[if_neg (λh=>by have:=h.2;simp[ltV,p]at this)]at d;simp only[go_sem,p];refine⟨ok_,?_⟩;have r:(o.take k).length=k:=Ag;have v:((o.take o.length).drop k).length=o.length - k:=Ad;simp only[go_sem,h2,r,v];(repeat refine an_ ?_);refine⟨i+1,Aa,?_⟩;rw[a,d];exact⟨by simp[vt7],Ab⟩};.rw[if_pos ⟨e,b0b p⟩]at d;simp only[go_sem,p];refine⟨ok_,i+1,Aa,?_⟩;rw[a,d];simp only[go_sem];rw[ah]<;>omega};.have h2: ¬(k:Int)<(o.length:Int):=Aa;have d:=adg ltV o w k hk hall (λh=>absurd h e);rw[if_neg (λh=>e h.1)]at d;simp only[go_sem,h2];refine⟨ok_,?_⟩;have r:(o.take k).length=k:=Ag;have v:((o.take o.length).drop k).length=o.length - k:=Ad;simp only[go_sem,h2,r,v];(repeat refine an_ ?_);refine⟨i+1,Aa,?_⟩;rw[a,d];exact⟨by simp[vt7],Ab⟩};.have h1: ¬(i:Int)<(l.length:Int):=Aa;have:i=l.length:=Aa;subst this;simp only[go_sem,h1]
def aal(l:LS)(i:Nat):LC:=((l.take i).filter λs=>(eh s).2).map λs=>(eh s).1.c
theorem amr(h:i<l.length):aal l (i+1)=aal l i++if(eh (el l i)).2=true then [(eh (el l i)).1.c]else []:=by simp only[aal,bt h,b2p,b0d,b27,b2t];split<;>rfl
theorem ats(l:LS)(i:Nat):(aal l i).length<=l.length:=by simp only[aal,b0x];refine b1l (b05 _ _) ?_;simp;omega
def aut(l:LS)(i:Nat):LC:=(aal l i).foldl (pu m8) []
theorem am2(h:i<l.length):aut l (i+1)=if(eh (el l i)).2=true then pu m8 (aut l i) (eh (el l i)).1.c else aut l i:=by simp only[aut,amr h,b22];split<;>rfl
theorem aja: ∀i,i<=l.length->(aut l i).length<=i
 |0,_=>by simp[aut,aal]
 |i+1,h=>by
  have ih:=aja i (by omega:i<=l.length);rw[am2 Aa];split
  .exact b1l (ai5 _ _ _) Aa
  .omega
theorem yc(a:Cs):m8 a a=false:=by simp[m8]
theorem a59{a b:Cs}(c:m8 a b=false)(d: ¬a=b):m8 b a=true:=by unfold m8 at c ⊢;rw[ab3]at d;by_cases g:a.ep=b.ep;{rw[if_neg Aa]at c;rw[if_neg Aa];by_cases h:a.kd=b.kd;{rw[if_neg Aa]at c;rw[if_neg Aa];by_cases f:a.su=b.su;{rw[if_neg Aa]at c;rw[if_neg Aa];have:=b1a c;have i: ¬a.ro=b.ro:=λe=>d ⟨g,h,f,e⟩;exact b0h Aa};.rw[if_pos Aa]at c;rw[if_pos Aa];have:=b1a c;exact b0h Aa};.rw[if_pos Aa]at c;rw[if_pos Aa];have:=b1a c;exact b0h Aa};.rw[if_pos Aa]at c;rw[if_pos Aa];have:=b1a c;exact b0h Aa
theorem amj(l:LS)(A:l.length<=1000000)(hs: ∀s∈l,om s):DN 350 [.vs (l.map sm)] (.vs ((aut l l.length).map cs)):=by refine ag_ func350 ntmps350 results350 ?_;simp only[go_sem];refine lo_ 0 (λi:Nat=>[(0,.vs (l.map sm)),(3,.vs ((aut l i).map cs)),(4,.int .i64 i)]) (λ_=>[]) (λi=>i<=l.length) (λi=>l.length - i) (b0k _) ?_ ?_;{simp only[go_sem];rfl};.intro i hi;by_cases g:i<l.length;{have h1:(i:Int)<(l.length:Int):=Aa;have e:=am2 g;have z:=aja i hi;have u:=akk (el l i) (hs _ (cr g));rw[dc]at u;generalize aut l i=o at*;generalize y:eh (el l i)=ve at*;obtain⟨w,b⟩:=ve;simp only at e;simp only[go_sem,h1,g];refine Qq u [] ?_;cases b with|false=>simp only[go_sem];refine⟨i+1,Aa,?_⟩;rw[e];simp only[b12,b25];simp only[go_sem];rw[ah]<;>omega|true=>rw[if_pos rfl]at e;simp only[go_sem];refine lo_ 0 (λk:Nat=>[(0,.vs (l.map sm)),(3,.vs (o.map cs)),(4,.int .i64 i),(5,.ptr 5 0),(7,.int .i64 k)]) (λ_=>[(5,.cells (vt7 w))]) (λk=>k<=o.length/\∀j,j<k->m8 (el o j) w.c=true) (λk=>o.length - k) ⟨b0k _,λj x=>Aa⟩ ?_ ?_;{simp only[go_sem]};.rintro k ⟨hk,hall⟩;have n: ∀d:Unit,pu m8 o w.c=o.take k++w.c::o.drop k->List.map cs (List.take k o)++[[PV.int IntKind.i64 w.c.ep,PV.int IntKind.i64 w.c.kd,PV.int IntKind.i64 w.c.su,PV.int IntKind.i64 w.c.ro]]++List.map cs (List.drop k (List.take o.length o))=List.map cs (pu m8 o w.c):=λ_ h=>(by rw[h];simp[cs]);have t:(o.take k).length=k:=Ag;have v:((o.take o.length).drop k).length=o.length - k:=Ad;by_cases f:k<o.length;{have h2:(k:Int)<(o.length:Int):=Aa;have m: ¬(k:Int)=(o.length:Int):=Aa;have ce:=ar7 (el o k) w.c;rw[dh,dh]at ce;simp only[go_sem,h2,f,dh];refine Qq ce [] ?_;cases z1:m8 (el o k) w.c with|true=>simp only[go_sem];refine⟨ok_,k+1,⟨⟨Aa,λj x=> ?_⟩,Aa⟩,?_⟩;{rcases b1m.1 x with h|h;{exact hall j h};.rw[h];exact z1};.rw[ah]<;>omega|false=>have a:=adg m8 o w.c k hk hall (λ_=>z1);simp only[go_sem];refine⟨ok_,?_⟩;cases hsc:ef (el o k) w.c with|true=>have p:el o k=w.c:=b0g hsc;rw[if_pos ⟨f,by rw[p];exact yc _⟩]at a;have q:=(ab3 _ _).1 p;simp only[go_sem,h2,m,f,dh,q];refine⟨ok_,i+1,Aa,?_⟩;rw[e,a];simp only[go_sem];rw[ah]<;>omega|false=>have p: ¬el o k=w.c:=b1a hsc;rw[if_neg (λh=>by rw[a59 z1 p]at h;simp at h)]at a;have q:=mt (ab3 _ _).2 p;have r:(decide ((el o k).ep=w.c.ep)&&(decide ((el o k).kd=w.c.kd)&&(decide ((el o k).su=w.c.su)&&decide ((el o k).ro=w.c.ro))))=false:=hsc ▸ ak0 _ _;simp only[go_sem,h2,m,f,dh,r,t,v];(repeat refine an_ ?_);refine⟨?_,λh=>absurd h q⟩;(repeat refine an_ ?_);refine⟨i+1,Aa,?_⟩;rw[e,<-n () a];exact⟨rfl,Ab⟩};.have h2: ¬(k:Int)<(o.length:Int):=Aa;have m:((k:Int)=(o.length:Int))=True:=Ag;have a:=adg m8 o w.c k hk hall (λh=>absurd h f);rw[if_neg (λh=>f h.1)]at a;simp only[go_sem,h2,m];refine⟨ok_,?_⟩;simp only[go_sem,h2,m,t,v];(repeat refine an_ ?_);refine⟨i+1,Aa,?_⟩;rw[e,<-n () a];exact⟨rfl,Ab⟩};.have h1: ¬(i:Int)<(l.length:Int):=Aa;have:i=l.length:=Aa;subst this;simp only[go_sem,h1]
def a87(a b:Cs):Int:=or2 (ic a.ep b.ep) (or2 (ic a.kd b.kd) (or2 (ic a.su b.su) (ic a.ro b.ro)))
theorem ba7(a b:Cs):DN 135 [.agg (cs a),.agg (cs b)] (.int .i64 (a87 a b)):=by refine ag_ func135 ntmps135 results135 ?_;rw[dh,dh];simp only[go_sem];refine Qq (fx a.ep b.ep) [] ?_;simp only[go_sem];refine Qq (fx a.kd b.kd) [] ?_;simp only[go_sem];refine Qq (fx a.su b.su) [] ?_;simp only[go_sem];refine Qq (fx a.ro b.ro) [] ?_;simp only[go_sem];refine Qq (acq [ic a.ep b.ep,ic a.kd b.kd,ic a.su b.su,ic a.ro b.ro] Ap) [] ?_;simp only[go_sem];refine⟨ok_,?_⟩;simp only[orL,a87,or2];(repeat' split);all_goals simp_all
theorem to_C:TO a87:=a5b (q8 pv (q8 pv (q8 pv pv))) (λc:Cs=>(c.ep,(c.kd,(c.su,c.ro)))) λx y h=>by
 cases x
 cases y
 simpa using h
theorem aee(a b:Cs):m8 a b=decide (a87 a b<0):=by unfold m8 a87 or2 ic;by_cases d:a.ep=b.ep;{by_cases h2:a.kd=b.kd;{by_cases h3:a.su=b.su;{simp only[d,h2,h3];simp;by_cases c:a.ro<b.ro;{simp[c]};.by_cases h5:b.ro<a.ro<;>simp[c,h5]};.by_cases c:a.su<b.su;{simp[d,h2,h3,c]};.have h5:b.su<a.su:=Aa;simp[d,h2,h3,c,h5]};.by_cases c:a.kd<b.kd;{simp[d,h2,c]};.have h5:b.kd<a.kd:=Aa;simp[d,h2,c,h5]};.by_cases c:a.ep<b.ep;{simp[d,c]};.have h5:b.ep<a.ep:=Aa;simp[d,c,h5]
theorem bqm{f:α->α->Int}{S:α->Prop}(e: ∀a,¬f a a<0)(h: ∀a b c,f a b<0->f b c<0->f a c<0)(g: ∀a b c,¬f a b<0->¬f b c<0->¬f a c<0)(d: ∀a b,S a->S b->¬f a b<0->¬f b a<0->a=b):KO (λa b=>decide (f a b<0)) S where
 irr a:=b0b (e a)
 tr a b c h1 h2:=b0h (h a b c (b0g h1) (b0g h2))
 nt a b c h1 h2:=b0b (g a b c (b1a h1) (b1a h2))
 tri a b ha hb h1 h2:=d a b ha hb (b1a h1) (b1a h2)
theorem ko_C:KO m8 λ_=>True:=by
 have:m8=λa b=>decide (a87 a b<0):=by funext a b;exact aee a b
 rw[this];refine bqm to_C.irr to_C.tr to_C.nt λa b _ _ c d=> ?_;refine(to_C.eq a b).1 ?_;have:=to_C.flip b a;omega
theorem bnn(c:Cs):KO ltV λv=>v.c=c:=by
 refine bqm (f:=uu) (λa=>to_V.irr (a.k,a.x)) (λa b d=>to_V.tr (a.k,a.x) (b.k,b.x) (d.k,d.x)) (λa b d=>to_V.nt (a.k,a.x) (b.k,b.x) (d.k,d.x)) λa b h g i j=> ?_
 have e:(a.k,a.x)=(b.k,b.x):=(to_V.eq (a.k,a.x) (b.k,b.x)).1 (by
  have:=to_V.flip (b.k,b.x) (a.k,a.x);simp only[uu]at i j;simp only at this ⊢;omega)
 cases a
 cases b
 simp only[b0t]at e;simp only at h g;simp[e,h,g]
theorem a3b(a b:Vt):fq a b=true↔(ltV a b=false/\ltV b a=false):=by have:=to_V.flip (b.k,b.x) (a.k,a.x);have c:=to_V.flip (a.k,a.x) (b.k,b.x);simp only at this c;have d:uu a b=or2 (ic a.k b.k) (nc a.x b.x):=rfl;have e:uu b a=or2 (ic b.k a.k) (nc b.x a.x):=rfl;rw[<-d,<-e]at this c;unfold fq ltV;rw[b3l,b1d,b1d];constructor;{intro h;constructor<;>omega};.rintro⟨h3,h4⟩;omega
theorem a74(a b:Cs):ef a b=true↔(m8 a b=false/\m8 b a=false):=by simp only[ef,b01];constructor;{rintro rfl;exact⟨yc _,yc _⟩};.rintro⟨h1,h2⟩;exact ko_C.tri a b trivial trivial h1 h2
theorem biz(l:List Vt):(bbj l).Pairwise λa b=>ltV b a=false:=by
 have:=b2w (le:=λa b:Vt=> !decide (uu b a<0)) (λa b c d e=>by
  simp only[b2c,b1d]at d e ⊢;exact to_V.nt (c.k,c.x) (b.k,b.x) (a.k,a.x) e d) (λa b=>by
  simp only[b1v,b2c,b1d];have:=to_V.flip (b.k,b.x) (a.k,a.x);simp only[uu];simp only at this;omega) l
 exact this.imp λh=>by simpa [ltV] using h
theorem a4n{n:Nat}: ∀v∈aef l c n,v.c=c:=λa d=>by
 obtain⟨s,b,rfl⟩:=b0z.1 d;have:=(b16.1 b).2;simp only[okV,b0l,b01]at this;exact this.2
theorem ajp(l:LS)(c:Cs):SS ltV (br l c)/\∀x,x∈br l c↔x∈aef l c l.length:=by have d:=b2e (aef l c l.length) λa b:Vt=> !decide (uu b a<0);have h:=(bnn c).kp_inv a3b (l:=bbj (aef l c l.length)) (λx hx=>a4n x (d.mem_iff.1 hx)) (biz _) _ (b0f _);refine⟨h.1,λx=> ?_⟩;rw[br,h.2,b0n];exact d.mem_iff
theorem aup(l:LS)(c:Cs):br l c=a0g l c l.length:=by obtain⟨a,b⟩:=ajp l c;refine(bnn c).ss_eq a ((bnn c).fold_ss a4n Ad Ad) λx=> ?_;rw[b,a0g,(bnn c).fold_mem a4n Ad];simp
def a0e(l:LC):LC:=l.mergeSort λa b=> !decide (a87 b a<0)
def jq(l:LS):LC:=kp ef (a0e (aal l l.length)) (a0e (aal l l.length)).length
theorem a4d(l:LC):(a0e l).Pairwise λa b=>m8 b a=false:=by
 have:=b2w (le:=λa b:Cs=> !decide (a87 b a<0)) (λa b c d e=>by
  simp only[b2c,b1d]at d e ⊢;exact to_C.nt c b a e d) (λa b=>by
  simp only[b1v,b2c,b1d];have:=to_C.flip b a;omega) l
 exact this.imp λh=>by rw[aee];simpa using h
theorem avo(l:LS):SS m8 (jq l)/\∀x,x∈jq l↔x∈aal l l.length:=by have c:=b2e (aal l l.length) λa b:Cs=> !decide (a87 b a<0);have h:=ko_C.kp_inv a74 (l:=a0e (aal l l.length)) (λ_ _=>trivial) (a4d _) _ (b0f _);refine⟨h.1,λx=> ?_⟩;rw[jq,h.2,b0n];exact c.mem_iff
theorem bbm(l:LS):jq l=aut l l.length:=by obtain⟨a,b⟩:=avo l;refine ko_C.ss_eq a (ko_C.fold_ss (λ_ _=>trivial) Ad Ad) λx=> ?_;rw[b,aut,ko_C.fold_mem (λ_ _=>trivial) Ad];simp
theorem a52(l:LC)(s:l.length<4611686018427387904):
  Den prog 134 [.os 1000000 l.length,.fn 135 []] [.arr 64 4 false (l.map cs)] (.tup []) [] [.arr 64 4 false ((a0e l).map cs)]:=by refine aa8 (F:=cs) (cf:=a87) (enters_of func134 Ae rfl) s (λm j q k c n b e d w g r f i=>AnyQ.slices_SortFunc Tryz.sortCase 4 (λ_=>Ae) (λ_=>Ae) j q k c n _ _ b 0 e d w (enters_of func135 Ae rfl) g r f i) (λp e o w=>AnyF.slices_SortFunc_none Tryz.sortCase p e o w) (λx hx y t=>ba7 x y) (λx _=>to_C.irr x) (λx _ y _ z _=>to_C.tr x y z) (λx _ y _ z _=>to_C.nt x y z) (λx hx y t k u=> ?_) (b2e _ _) ?_;{refine(to_C.eq x y).1 ?_;have:=to_C.flip y x;omega};.exact(a4d l).imp λ{a b} h=>by rw[aee]at h;exact b1a h
theorem agw(l:LS)(n:l.length<=1000000)(hs: ∀s∈l,om s):
  DN 83 [.vs (l.map sm)] (.vs ((jq l).map cs)):=by refine ag_ func83 ntmps83 results83 ?_;simp only[go_sem];refine bm 3 99 64 4 false ?_ ?_ ?_ Aa;{refine lo_ 0 (λi:Nat=>[(8,.vs (l.map sm)),(9,.int .i64 l.length),(10,.int .i64 i),(3,.os 99 (aal l i).length)]) (λi=>[(99,.arr 64 4 false ((aal l i).map cs))]) (λi=>i<=l.length) (λi=>l.length - i) (b0k _) ?_ ?_;{simp only[go_sem];exact⟨rfl,rfl⟩};.intro i hi;by_cases d:i<l.length;{have h1:(i:Int)<(l.length:Int):=Aa;have a:=amr d;have g:=ats l i;have j:=aka (el l i) (hs _ (cr d));rw[dc]at j;generalize aal l i=o at*;generalize k:eh (el l i)=ve at*;obtain⟨w,b⟩:=ve;simp only at a;simp only[go_sem,h1,d];refine Qq j [] ?_;cases b with|false=>simp only[go_sem];refine⟨i+1,Aa,?_⟩;rw[a];simp only[b12,b25,b00];simp only[go_sem];rw[ah]<;>omega|true=>rw[if_pos rfl]at a;simp only[go_sem];refine⟨Aa,i+1,Aa,?_⟩;rw[a];exact⟨⟨Ab,Ad⟩,by simp[cs]⟩};.have h1: ¬(i:Int)<(l.length:Int):=Aa;have:i=l.length:=Aa;subst this;simp only[go_sem,h1];have g:=ats l l.length;have e:jq l=kp ef (a0e (aal l l.length)) (a0e (aal l l.length)).length:=rfl;rw[e];clear e;generalize aal l l.length=o at*;refine Qq (a52 o Aa) [99] ?_;have c:(a0e o).length=o.length:=b3b _;simp only[go_sem,c];obtain⟨m,h,f⟩:=am3 (a0e o) Af;rw[c]at f h;refine⟨b0f _,?_⟩;refine Qq f [99] ?_;simp only[go_sem,c];omega};{simp only[go_sem]};.simp only[go_sem]
theorem bdw(s:Stm):okO (eh s).1.x:=by simp only[eh,ofE];split;{exact⟨⟨by simp[noV],by simp[noV]⟩,by simp[noV],by simp[noV]⟩};.rename_i h;have a:aj s=0:=(by simpa using h);split;{refine⟨akl a,?_,?_⟩;{intro n hn;have c:n∈s.li:=hn;have j:lz n=true:=(by unfold aj at a;(repeat' split at a);(all_goals (try (omega;done)));rename_i l o f d m u;simp only[b1v,not_or]at d;have g:=d.2;cases hb:lz n with|true=>rfl|false=>exact absurd (b2n.2 ⟨n,c,by simp[hb]⟩) g);simp only[lz,inB,b0l,b01]at j;exact⟨by omega,by omega⟩};.intro p hp;have b:p∈s.pins:=hp;have f:=b0g (mq a).2.2.1;obtain⟨i,e,rfl⟩:=b1f.1 b;have:=f i e;simp only[n5,inB,el,bd,bq e,b1o,b0l,b01]at this;obtain⟨⟨⟨t,r⟩,k⟩,q⟩:=this;exact⟨⟨by omega,by omega⟩,by omega,by omega⟩};.exact⟨⟨by simp[noV],by simp[noV]⟩,by simp[noV],by simp[noV]⟩
theorem a3j(k nu:Int)(c:Cs)(hx:aaf x):okS (vt k nu c x):=ba9 _ _ _ _ (acl c x hx)
theorem bft{v:Vt}:v∈aef l c l.length↔∃s∈l,okV c s=true/\(eh s).1=v:=by simp only[aef,b0n,b0z,b16];constructor;{rintro⟨s,⟨h1,h2⟩,h3⟩;exact⟨s,h1,h2,h3⟩};.rintro⟨s,h1,h2,h3⟩;exact⟨s,⟨h1,h2⟩,h3⟩
theorem mc{v:Vt}:v∈br l c↔∃s∈l,okV c s=true/\(eh s).1=v:=by rw[(ajp l c).2,bft]
theorem afh{x:Cs}:x∈jq l↔∃s∈l,(eh s).2=true/\(eh s).1.c=x:=by rw[(avo l).2];simp only[aal,b0n,b0z,b16];constructor;{rintro⟨s,⟨h1,h2⟩,h3⟩;exact⟨s,h1,h2,h3⟩};.rintro⟨s,h1,h2,h3⟩;exact⟨s,⟨h1,h2⟩,h3⟩
theorem acj(l:LS)(c:Cs):(br l c).length<=l.length:=by rw[aup];exact(aqs (c:=c) l.length (b0f _)).1
theorem r5: ∀y∈br l c,okO y.x:=λy a=>by
 obtain⟨s,_,_,rfl⟩:=mc.1 a;exact bdw s
theorem a02{l m:LI}(f:l.Nodup)(h: ∀x∈l,x∈m):l.length<=m.length:=by induction l generalizing m with|nil=>simp|cons a r ih=>obtain⟨c,d⟩:=b3i.1 f;have b:=h a Ad;have:=ih (m:=m.erase a) d λx hx=>(b53 (λe:x=a=>c (by rw[<-e];exact hx))).2 (h x Bx);rw[b48 b]at this;have:=b4o b;simp only[b0q];omega
theorem a8n:aer seats v v.length x k↔k∈seats/\∃y∈v,y.x=x/\y.k=k:=by unfold aer;refine b1x λ_=> ?_;constructor;{rintro⟨a,h1,h2,h3⟩;exact⟨el v a,cr h1,h2,h3⟩};.rintro⟨y,hy,h2,h3⟩;obtain⟨a,b,rfl⟩:=b1f.1 hy;exact⟨a,b,by simpa [el,bd,b] using h2,by simpa [el,bd,b] using h3⟩
theorem aav(seats:LI)(v:List Vt):CnSpec (aer seats v v.length) (cnR seats v):=ajt seats v v.length (b0f _)
theorem bq2(seats:LI):cnR seats []=[]:=rfl
structure WO{α:Type}(lt:α->α->Bool):Prop where
 irr: ∀a,lt a a=false
 tr: ∀a b c,lt a b=true->lt b c=true->lt a c=true
 nt: ∀a b c,lt a b=false->lt b c=false->lt a c=false
def eqw(lt:α->α->Bool)(k x:α):Bool:= !lt k x&& !lt x k
structure Rea{α:Type}(lt:α->α->Bool)(L R:List α):Prop where
 prm:R.Perm L
 flt: ∀k,R.filter (eqw lt k)=L.filter (eqw lt k)
theorem Rea.refl{a:α->α->Bool}(L:List α):Rea a L L:=⟨.refl _,λ_=>rfl⟩
theorem Rea.trans{a:α->α->Bool}{A B C:List α}(h:Rea a A B)(b:Rea a B C):Rea a A C:=⟨b.prm.trans h.prm,λk=>(b.flt k).trans (h.flt k)⟩
theorem Rea.len{a:α->α->Bool}{A B:List α}(h:Rea a A B):B.length=A.length:=h.prm.length_eq
theorem Rea.mem{a:α->α->Bool}{A B:List α}(h:Rea a A B){x:α}:x∈B↔x∈A:=h.prm.mem_iff
section
variable  [Inhabited α]
theorem ac7{L:List α}{x:α}(h:x∈L): ∃i,i<L.length/\x=el L i:=by
 obtain⟨i,a,rfl⟩:=b1f.1 h;exact⟨i,a,by simp[el,bd,a]⟩
end
def bs5(lt:α->α->Bool):List α->α->List α
 |[],x=>[x]
 |s::r,x=>if lt x s=true then x::s::r else s::bs5 lt r x
def btm(lt:α->α->Bool)(S:List α):List α:=S.foldl (bs5 lt) []
/- Arrays of bools. -/
open Go Go.RowKit
def cb(x:Bool):PV:= .bool x
theorem bcb(l:List Bool)(h:i<l.length):gq (l.map cb) i= .bool (el l i):=by simp[gq,el,bd,h,cb]
theorem brn(K:KT)(l:List Bool)(i:Nat)(d:ASt)(F:LN):(i<(l.map cb).length/\kk K (gq (l.map cb) i) d F)=(i<l.length/\K (.bool (el l i)) d F):=by simp only[b0x,kk];refine propext (b1x λh=> ?_);rw[bcb l h];rfl
theorem bih(K:KT)(n i:Nat)(l:List Bool)(v:Bool):bqq n i K (some 1) (some [.bool v]) (some (.cells (l.map cb)))=(i<l.length/\kk K .undef [(n,.cells ((l.set i v).map cb))] [n]):=by rw[ahp];simp only[b0x,kk];apply propext;have e:i<l.length->(l.map cb).take i++[.bool v]++(l.map cb).drop (i+1)=(l.set i v).map cb:=λh=>(by rw[b2r,b5b];simp[h,cb]);constructor;{rintro⟨⟨h1,h2,h3⟩,h4⟩;rw[e h3]at h4;exact⟨h3,h4⟩};.rintro⟨h3,h4⟩;rw[<-e h3]at h4;exact⟨⟨rfl,rfl,h3⟩,h4⟩
theorem bqc(l:List Bool):(l.map cb).all fy=true:=by simp[cb,fy]
theorem bsu(l:List Bool)(n:Nat):(l.map cb).take n=(l.take n).map cb:=b3j.symm
theorem bq8(l:List Bool)(n:Nat):(l.map cb).drop n=(l.drop n).map cb:=b6t.symm
theorem bgc(d:LN): ∀(l:List Bool),aop d (l.map cb)=true
 |[]=>rfl
 |x::r=>by simp[aop,bge,cb,bgc d r]
theorem a8i{p:PV->Prop}(h: ∀x,p (cb x)): ∀(l:List Bool),afa p (l.map cb)
 |[]=>trivial
 |x::r=>⟨h x,a8i h r⟩
theorem a1v(σ:ASt): ∀(l:List Bool),lg σ (l.map cb)=some (l.map cb,[])
 |[]=>rfl
 |x::r=>by simp[lg,pur,cb,a1v σ r]
theorem bnq(l:List Bool):afa noH (l.map cb)=True:=b4s (a8i (λx=> .bool x) l)
theorem bng: ∀{l m:List Bool},(l.map cb=m.map cb)=(l=m)
 |l,m=>propext (b73 λa b h=>by simpa [cb] using h)
theorem a69: ∀(l m:List Bool),l.length=m.length->ad9 (List.replicate l.length .bool) (l.map cb) (m.map cb)=some (decide (l=m))
 |[],[],_=>rfl
 |[],y::m,h=>by simp at h
 |x::l,[],h=>by simp at h
 |x::l,y::m,h=>by
  have ih:=a69 l m An;simp only[b0q,b7q,b07,ad9,cb,eqC];rw[ih];simp only[b0c];rw[b3s];simp
attribute [go_sem ↓ 1100] brn bih bqc bgc bnq a1v
attribute [go_sem] bsu bq8 bng
/- There is one stable sort. -/
section
variable  {lt:α->α->Bool}
def btq(lt:α->α->Bool)(M:List α):Option α:=M.foldl (λb s=>match b with|none=>some s|some t=>if lt s t=true then some s else some t) none
end
section
variable  [Inhabited α]
omit [Inhabited α] in
end
section
variable  [Inhabited α]
end
section
variable  [Inhabited α]
end
section
variable  (lt:α->α->Bool)
def dn(z:Nat)(L:List α):Nat->List α
 |0=>[]
 |t+1=>dn z L t++btm lt ((L.drop (t*z)).take z)
variable {lt}
end
def arx(v s:Nat):Bool:=decide (1<=s/\s<=9/\v<=s/\3*s<4*v)
def aj8(seats:LI)(v:List Vt):List Ct:=((cnR seats v).filter λn=>arx n.ks.length seats.length).map Cn.x
theorem avl:x∈aj8 seats v↔∃n∈cnR seats v,n.x=x/\arx n.ks.length seats.length=true:=by simp only[aj8,b0z,b16];constructor;{rintro⟨n,⟨h1,h2⟩,h3⟩;exact⟨n,h1,h3,h2⟩};.rintro⟨n,h1,h3,h2⟩;exact⟨n,⟨h1,h2⟩,h3⟩
theorem bda(h:n∈cnR seats v):n.ks.Nodup:=((aav seats v).r2 n h).imp λh=>Aa
theorem ao6(h:n∈cnR seats v)(a:k∈n.ks):k∈seats/\∃y∈v,y.x=n.x/\y.k=k:=a8n.1 (((aav seats v).r3 n.x k).1 ⟨n,h,rfl,a⟩)
theorem bpu(h:n∈cnR seats v):n.ks.length<=seats.length:=a02 (bda h) λ_ a=>(ao6 h a).1
def brc(a b:Stm):Bool:=decide (a.nu<b.nu\/a.nu=b.nu/\Lib.compareBytes a.sd b.sd<0)
def btp(c:Cs)(x:Ct)(k:Int)(s:Stm):Bool:=okV c s&&decide (s.au=k)&&decide ((eh s).1.x=x)
def asr(l:LS)(k:Int)(c:Cs)(x:Ct):Option Stm:=btq brc (l.filter (btp c x k))
def bsq(l:LS)(c:Cs)(x:Ct)(seats:LI):LS:=(List.range 64).filterMap λ(k:Nat)=>if(k:Int)∈seats then asr l k c x else none
structure ChkP(c:Cs)(l:LS)(seats:LI)(x:Ct):Prop where
 ok: ∀s∈l,okV c s=true/\s.au∈seats/\(eh s).1.x=x
 up:l.Pairwise λa b=>a.au<b.au
 en:arx l.length seats.length=true
end Go.Proofs.Am
