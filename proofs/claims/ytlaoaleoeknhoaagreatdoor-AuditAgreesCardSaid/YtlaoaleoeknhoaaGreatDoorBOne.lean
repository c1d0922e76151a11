/- BOne. -/
import Derived.Test.YtlaoaleoeknhoaaGreatDoorR1F
import Derived.Laws.Bits64
import Derived.Laws.Bits64b
set_option linter.unusedSimpArgs false
set_option linter.unusedVariables false
set_option maxHeartbeats 1000000
set_option maxRecDepth 100000
namespace Go.Proofs.Am
open Go Go.RowKit Tryz
open Go.Proofs
variable {i p:Nat}{l:LI}{m n x:Int}
theorem mx_:prog.follows .mixedOrders=true:=Ae
def i1(x:Int):LP:=[.int .i64 x]
theorem a21(x:Int):i1 x=[.int .i64 x]:=rfl
attribute [go_sem] a21
abbrev big(n:Nat):Prop:=n<4611686018427387904
theorem ah(h: -9223372036854775808<=n)(a:n<9223372036854775808):IntKind.i64.wrap n=n:=by rw[b6x];omega
theorem wq_(i:Nat)(h:i<4611686018427387904:=by omega):IntKind.i64.wrap ((i:Int)+1)=((i+1:Nat):Int):=Ab
theorem wr_(i:Nat)(h:0<i:=by omega)(h:i<4611686018427387904:=by omega):IntKind.i64.wrap ((i:Int) - 1)=((i - 1:Nat):Int):=Ab
theorem i9(h:i<l.length):el l i∈l:=by simp only[el,bd,bq h,b1o];exact b1g h
theorem acv(h:x∈l): ∃i,i<l.length/\el l i=x:=by obtain⟨i,a,b⟩:=b4k h;exact⟨i,a,by simp only[el,bd,bq a,b1o];exact b⟩
theorem nr{n:Nat}(b:l.length<=n)(h: ∀j,j<n->el l j≠x):x∉l:=λhx=>by
 obtain⟨i,c,a⟩:=acv hx;exact h i Aa a
theorem zm(a:Int)(l:LI)(i:Nat):el (a::l) (i+1)=el l i:=by simp[el]
theorem zy(a:Int)(l:LI):el (a::l) 0=a:=by simp[el]
theorem bgb: ∀{l:LI} {i:Nat} {k:Int},i<l.length->k=el l i->(∀j,j<i->el l j≠k)->l.idxOf k=i
 |[],_,_,h,_,_=>by simp at h
 |a::l,0,k,_,hk,_=>by rw[hk,zy];simp
 |a::l,i+1,k,h,hk,hn=>by
  have h0:=hn 0 Aa;rw[zy]at h0;rw[zm]at hk;have:=bgb (l:=l) (i:=i) (k:=k) An hk λj hj=>by have:=hn (j+1) Aa;rwa [zm]at this
  rw[List.idxOf_cons,this];have:(a==k)=false:=by simpa using h0
  simp only[this,cond_false]
theorem pz(l:LI)(k:Int)(b:big l.length):DN 153 [.vs (l.map i1),.int .i64 k] (.bool (decide (k∈l))):=by refine ag_ func153 ntmps153 results153 ?_;simp only[go_sem];refine Qz Ae 0 (λi:Nat=>[(0,.vs (l.map i1)),(1,.int .i64 k),(5,.int .i64 i)]) (λ_=>[]) (λi=>i<=l.length/\∀j,j<i->el l j≠k) (λi=>l.length - i) Ae ?_ ?_ ?_;{simp};{simp only[go_sem]};.intro i ⟨hi,hn⟩;simp only[go_sem];refine⟨λh=>⟨Aa,λe=> ?_,λe=>⟨i+1,⟨⟨Aa,λj a=> ?_⟩,Aa⟩,?_⟩⟩,λh=> ?_⟩;{rw[<-e];simp[i9 h]};{rcases b1m.1 a with h'|h';{exact hn j h'};.rw[h'];exact e};{rw[ah]<;>omega};.simp[nr Aa hn]
theorem a4v(l:LI)(k:Int)(c:big l.length):DN 80 [.vs (l.map i1),.int .i64 k] (.int .i64 (if k∈l then(l.idxOf k:Nat)else -1)):=by refine ag_ func80 ntmps80 results80 ?_;simp only[go_sem];refine Qz Ae 0 (λi:Nat=>[(0,.vs (l.map i1)),(1,.int .i64 k),(7,.int .i64 l.length),(8,.int .i64 i)]) (λ_=>[]) (λi=>i<=l.length/\∀j,j<i->el l j≠k) (λi=>l.length - i) Ae ?_ ?_ ?_;{simp};{simp only[go_sem]};.intro i ⟨hi,hn⟩;simp only[go_sem];refine⟨λh=>⟨Aa,λe=> ?_,λe=>⟨i+1,⟨⟨Aa,λj a=> ?_⟩,Aa⟩,?_⟩⟩,λh=> ?_⟩;{have hm:k∈l:=(by rw[e];exact i9 h);rw[if_pos hm];rw[bgb h e hn]};{rcases b1m.1 a with h'|h';{exact hn j h'};.rw[h'];exact λb=>e b.symm};{rw[ah]<;>omega};.rw[if_neg (nr Aa hn)]
theorem ji(l:LI)(k:Int)(a:big l.length):DN 37 [.vs (l.map i1),.int .i64 k] (.bool (decide (k∈l))):=by refine ag_ func37 ntmps37 results37 ?_;simp only[go_sem];refine Qq (a4v l k a) [] ?_;simp only[go_sem];by_cases h:k∈l;{simp[h]};.simp[h]
def a31(n m:Int):Int:=if m<1 then 0 else n % m
theorem a09(a:0<m)(h:n.tmod m<0):n.tmod m+m=n % m:=by
 have c:=b70 n (b:=m) a;have d:=b7c n m;have e:n=(n.tmod m+m)+m*(n.tdiv m - 1):=by rw[Int.mul_sub];omega
 conv=>rhs;rw[e]
 rw[b4y];exact(b78 Aa Aa).symm
theorem awc(a:0<m)(h: ¬n.tmod m<0):n.tmod m=n % m:=by have c:=b71 n (b:=m) a;have d:=b7c n m;have e:n=n.tmod m+m*(n.tdiv m):=Aa;(conv=>rhs;rw[e]);rw[b4y];exact(b78 Aa Aa).symm
theorem bqj(n m:Int)(c:m<9223372036854775808):DN 29 [.int .i64 n,.int .i64 m] (.int .i64 (a31 n m)):=by refine ag_ func29 ntmps29 results29 ?_;simp only[go_sem];refine⟨λh=> ?_,λh=>⟨Aa,λa=> ?_,λa=> ?_⟩⟩;{simp[a31,h]};{have h2:=b70 n (b:=m) Aa;rw[ah Aa Aa];simp only[a31,if_neg h];exact a09 Aa a};.simp only[a31,if_neg h];exact awc Aa a
theorem bqg(n m:Int)(a:m<9223372036854775808):DN 92 [.int .i64 n,.int .i64 m] (.int .i64 (a31 n m)):=by refine ag_ func92 ntmps92 results92 ?_;simp only[go_sem];refine Qq (bqj n m a) [] ?_;simp only[go_sem]
def am(l:LI)(p:Nat)(n:Int):Int:=if p<l.length then a31 (el l p) n else 0
def dp(l:LI)(p:Nat):Nat:=if p<l.length then p+1 else p
abbrev qf(l:LI)(p:Nat):Box:= .cells [.vs (l.map i1),.int .i64 p]
theorem bh(l:LI)(p:Nat)(n:Int)(d:big l.length)(a:p<=l.length)(b:n<9223372036854775808):Den prog 10 [.ptr 1000000 0,.int .i64 n] [qf l p] (.int .i64 (am l p n)) [] [qf l (dp l p)]:=by refine ah_ [] [1000000] func10 ntmps10 results10 ?_;simp only[go_sem];refine⟨ok_,λh=> ?_,λh=> ?_⟩;{have: ¬p<l.length:=Aa;simp[dp,am,this]};.have e1:IntKind.i64.wrap ((p:Int)+1)=(p:Int)+1:=ah Aa Aa;have c:IntKind.i64.wrap ((p:Int)+1 - 1)=(p:Int):=Ab;simp only[e1,c];refine⟨Aa,Qq (bqj (el l (p:Int).toNat) n b) [] ?_⟩;simp only[go_sem];have a:p<l.length:=Aa;refine⟨ok_,?_,?_⟩;{simp[dp,a]};.simp[am,a]
theorem d8(h:p<=l.length):dp l p<=l.length:=by unfold dp;split<;>omega
theorem blt(h:0<m):0<=a31 n m/\a31 n m<m:=by unfold a31;rw[if_neg Aa];exact⟨Int.emod_nonneg _ Aa,b72 _ h⟩
theorem d7(h:0<n):0<=am l p n/\am l p n<n:=by unfold am;split;{exact blt h};.omega
theorem ya(l:LI)(p:Nat)(n:Int)(b:big l.length)(c:p<=l.length)(h0:0<n)(a:n<9223372036854775808):Den prog 9 [.ptr 1000000 0,.int .i64 n] [qf l p] (.bool (decide (am l p n=n - 1))) [] [qf l (dp l p)]:=by refine ah_ [] [1000000] func9 ntmps9 results9 ?_;simp only[go_sem];refine Qq (bh l p n b c a) [1000000] ?_;simp only[go_sem];rw[ah Aa Aa]
theorem ze(l:LI)(p:Nat)(xs:LI)(b:big l.length)(c:p<=l.length)(hx:0<xs.length)(a:big xs.length):Den prog 50 [.ptr 1000000 0,.vs (xs.map i1)] [qf l p] (.int .i64 (el xs (am l p xs.length).toNat)) [] [qf l (dp l p)]:=by refine ah_ [] [1000000] func50 ntmps50 results50 ?_;simp only[go_sem];refine Qq (bh l p xs.length b c Aa) [1000000] ?_;simp only[go_sem];have:=d7 (l:=l) (p:=p) (n:=xs.length) Aa;omega
theorem bnu(l:LI):Den prog 16 [.vs (l.map i1)] [] (.ptr 0 0) [qf l 0] []:=by refine ah_ [5] [] func16 ntmps16 results16 ?_;simp only[go_sem]
theorem bsi(l:LI):Den prog 6 [.vs (l.map i1)] [] (.ptr 0 0) [qf l 0] []:=by refine ah_ [4] [] func6 ntmps6 results6 ?_;simp only[go_sem];refine Qq (bnu l) [] ?_;simp only[go_sem]
def qk(l:LI):Nat->Nat->Nat->LI
 |0,_,_=>[]
 |n+1,i,p=>(if am l p 3=0 then [(i:Int)]else [])++qk l n (i+1) (dp l p)
def u5(l:LI):Nat->Nat->Nat
 |0,p=>p
 |n+1,p=>u5 l n (dp l p)
theorem bes(l:LI)(p:Nat)(n:Nat)(c:big l.length)(b:p<=l.length)(d:n<=1000):Den prog 95 [.ptr 1000000 0,.int .i64 n] [qf l p] (.os 0 (qk l n 0 p).length) [.arr 3 1 false ((qk l n 0 p).map i1)] [qf l (u5 l n p)]:=by refine ah_ [99] [1000000] func95 ntmps95 results95 ?_;simp only[go_sem];refine bm 5 99 3 1 false ?_ ?_ ?_ Aa;{simp only[go_sem];refine lo_ (0,p,[]) (λj:Nat×Nat×LI=>[(0,.ptr 1000000 0),(1,.int .i64 n),(5,.os 99 j.2.2.length),(6,.int .i64 j.1)]) (λj=>[(1000000,qf l j.2.1),(99,.arr 3 1 false (j.2.2.map i1))]) (λj=>j.1<=n/\j.2.1<=l.length/\qk l n 0 p=j.2.2++qk l (n - j.1) j.1 j.2.1/\u5 l n p=u5 l (n - j.1) j.2.1/\j.2.2.length<=j.1) (λj=>n - j.1) ?_ ?_ ?_;{simp[b]};{simp only[go_sem]};.rintro⟨i,q,out⟩ ⟨h1,h2,h3,h4,h5⟩;simp only[go_sem];simp only at h1 h2 h3 h4 h5;refine⟨λh=>Qq (bh l q 3 c h2 Aa) [1000000] ?_,λh=> ?_⟩;{simp only[go_sem];have e:n - i=(n - (i+1))+1:=Aa;rw[e]at h3 h4;simp only[qk,u5]at h3 h4;refine⟨λa=>⟨Aa,(i+1,dp l q,out++[(i:Int)]),⟨⟨Ah,d8 h2,?_,h4,?_⟩,Ah⟩,?_⟩,λa=>⟨(i+1,dp l q,out),⟨⟨Ah,d8 h2,?_,h4,Ah⟩,Ah⟩,?_⟩⟩;{simpa [a] using h3};{simp only[b0a,b0q,b0r];omega};{simp only[go_sem,b0d];rw[ah]<;>omega};{simpa [a] using h3};.simp only[go_sem];rw[ah]<;>omega};.have e:n - i=0:=Aa;rw[e]at h3 h4;simp only[qk,u5,b00]at h3 h4;rw[h3,h4];simp only[go_sem]};{simp only[go_sem]};.simp only[go_sem]
theorem a8t(l:LI)(p:Nat)(n:Nat)(b:big l.length)(c:p<=l.length)(a:n<=1000):Den prog 95 [.ptr 1000000 0,.int .i64 n] [qf l p] (.vs ((qk l n 0 p).map i1)) [] [qf l (u5 l n p)]:=
 (bes l p n b c a).vs Ad (by simp only[go_sem]) rfl
theorem adi(l:LI): ∀(n i p:Nat),(qk l n i p).length<=n
 |0,_,_=>by simp[qk]
 |n+1,i,p=>by
  have:=adi l n (i+1) (dp l p);simp only[qk,b0a];split<;>simp<;>omega
theorem vf(l:LI): ∀(n p:Nat),p<=l.length->u5 l n p<=l.length
 |0,_,h=>h
 |n+1,_,h=>vf l n _ (d8 h)
theorem aed(l:LI):DN 4 [.vs (l.map i1)] (.bool (decide (l.length<=400))):=by refine ag_ func4 ntmps4 results4 ?_;simp only[go_sem];simp only[b5z];omega
theorem za(a b:LI)(m:big a.length)(l:big b.length):DN 65 [.vs (a.map i1),.vs (b.map i1)] (.bool (decide (a=b))):=by refine ag_ func65 ntmps65 results65 ?_;simp only[go_sem];refine⟨λh=> ?_,λh=> ?_⟩;{have: ¬a=b:=λe=>h Bm;simp[this]};have c:a.length=b.length:=Aa;refine lo_ 0 (λi:Nat=>[(0,.vs (a.map i1)),(1,.vs (b.map i1)),(5,.int .i64 i)]) (λ_=>[]) (λi=>i<=a.length/\∀j,j<i->el a j=el b j) (λi=>a.length - i) ?_ ?_ ?_;{simp};{simp only[go_sem]};.intro i ⟨hi,hn⟩;simp only[go_sem];refine⟨λh=>⟨Aa,Aa,ok_,λe=> ?_,λe=>⟨i+1,⟨⟨Aa,λj g=> ?_⟩,Aa⟩,?_⟩⟩,λh=> ?_⟩;{have: ¬a=b:=λk=>e (by rw[k]);simp[this]};{rcases b1m.1 g with h'|h';{exact hn j h'};.rw[h'];exact e};{rw[ah]<;>omega};.have:a=b:=(by apply b38 c;intro j d f;have:=hn j Aa;simpa [el,bd,d,f] using this);simp[this]
def bj(c:Int->Bool)(n:Nat):LI:=((List.range n).map λi:Nat=>(i:Int)).filter c
theorem jg(c:Int->Bool)(n:Nat):bj c (n+1)=bj c n++(if c n then [(n:Int)]else []):=by simp only[bj,b34,b0d,b2p,b07,b0o,b27,b2t]
theorem du(c:Int->Bool): ∀n,(bj c n).length<=n:=λn=>by
 have:=b05 c ((List.range n).map λi:Nat=>(i:Int));simpa [bj] using this
theorem w9{c:Int->Bool}{n:Nat}:x∈bj c n↔(0<=x/\x<n)/\c x=true:=by simp only[bj,b16,b0z,b2k];constructor;{rintro⟨⟨i,h1,rfl⟩,h2⟩;exact⟨Aa,h2⟩};.rintro⟨⟨h0,h1⟩,h2⟩;exact⟨⟨x.toNat,Aa⟩,h2⟩
theorem a9g(a b:LI)(j:big a.length)(g:big b.length):Den prog 216 [.vs (a.map i1),.vs (b.map i1)] [] (.os 0 (bj (λk=>decide (k∈a)||decide (k∈b)) 64).length) [.arr 3 1 false ((bj (λk=>decide (k∈a)||decide (k∈b)) 64).map i1)] []:=by refine ah_ [99] [] func216 ntmps216 results216 ?_;simp only[go_sem];generalize l:(λk=>decide (k∈a)||decide (k∈b))=c;have f: ∀k,c k=(decide (k∈a)||decide (k∈b)):=λk=>(by rw[<-l]);refine bm 5 99 3 1 false ?_ ?_ ?_ Aa;{simp only[go_sem];refine lo_ 0 (λi:Nat=>[(0,.vs (a.map i1)),(1,.vs (b.map i1)),(5,.os 99 (bj c i).length),(6,.int .i64 i)]) (λi=>[(99,.arr 3 1 false ((bj c i).map i1))]) (λi=>i<=64) (λi=>64 - i) ?_ ?_ ?_;{simp};{simp only[bj,b58,b0o,b2t];simp only[go_sem]};.intro i hi;have n:=du c i;simp only[go_sem];have hs:=jg c i;rw[f]at hs;refine⟨λh=>Qq (pz a i j) [] ?_,λh=> ?_⟩;{simp only[go_sem];have fin: ∀t:Bool,(decide ((i:Int)∈a)||decide ((i:Int)∈b))=t->bj c (i+1)=bj c i++(if t then [(i:Int)]else []):=λt m=>(by rw[hs,m]);refine⟨λd=>Qq (pz b i g) [] ?_,λd=> ?_⟩;{simp only[go_sem];refine⟨λe=> ?_,λe=> ?_⟩;{have:=fin true D4;refine⟨Aa,i+1,Aa,?_⟩;simp only[go_sem,this,b0d,b0a];rw[ah]<;>omega};.have:=fin false (by simp[d,e]);refine⟨i+1,Aa,?_⟩;simp only[go_sem,this,b0d,b0a];rw[ah]<;>omega};.have:=fin true Bi;refine⟨Aa,i+1,Aa,?_⟩;simp only[go_sem,this,b0d,b0a];rw[ah]<;>omega};.have:i=64:=Aa;subst this;simp only[go_sem]};{simp only[go_sem]};.simp only[go_sem]
theorem ajk(a b:LI)(d:big a.length)(c:big b.length):DN 216 [.vs (a.map i1),.vs (b.map i1)] (.vs ((bj (λk=>decide (k∈a)||decide (k∈b)) 64).map i1)):=
 (a9g a b d c).vs Ad trivial rfl
def apq(roster:LI)(q:Int):LI->LI->LI
 |[],out=>out
 |k::r,out=>if q<=out.length then out else apq roster q r (if k∈roster\/k∈out then out else out++[k])
theorem a1f{a:LI}{q:Int}{r b:LI}(h:q<=b.length):apq a q r b=b:=by cases r with|nil=>rfl|cons k r=>simp[apq,h]
theorem bim(h:i<l.length):l.drop i=el l i::l.drop (i+1):=by simp[el,bd,h]
theorem bpg(a b:LI)(q:Int)(k:big a.length)(f:big b.length)(g:a.length<=1000000):DN 288 [.vs (a.map i1),.vs (b.map i1),.int .i64 q] (.vs ((apq b q a []).map i1)):=by refine ag_ func288 ntmps288 results288 ?_;simp only[go_sem];refine bm 7 99 3 1 true ?_ ?_ ?_ Aa;{simp only[go_sem];refine lo_ (0,[]) (λj:Nat×LI=>[(0,.vs (a.map i1)),(1,.vs (b.map i1)),(2,.int .i64 q),(7,.os 99 j.2.length),(8,.int .i64 j.1)]) (λj=>[(99,.arr 3 1 true (j.2.map i1))]) (λj=>j.1<=a.length/\apq b q a []=apq b q (a.drop j.1) j.2/\j.2.length<=j.1) (λj=>a.length - j.1) ?_ ?_ ?_;{simp};{simp only[go_sem]};.rintro⟨i,out⟩ ⟨h1,h2,h3⟩;simp only at h1 h2 h3;simp only[go_sem];have fin:apq b q (a.drop i) out=out->List.map i1 out=List.map i1 (apq b q a []):=λh=>(by rw[h2,h]);refine⟨λh=>⟨λe=>⟨Aa,Qq (pz b (el a i) f) [] ?_⟩,λe=> ?_⟩,λh=> ?_⟩;{simp only[go_sem];rw[bim h,apq,if_neg Aa]at h2;refine⟨λc=>⟨Aa,Qq (pz out (el a i) Af) [] ?_⟩,λc=> ?_⟩;{simp only[go_sem];refine⟨λd=>⟨Aa,Aa,(i+1,out++[el a i]),⟨⟨Ah,?_,?_⟩,Ah⟩,?_⟩,λd=>⟨(i+1,out),⟨⟨Ah,?_,Ah⟩,Ah⟩,?_⟩⟩;{rw[h2,if_neg (by simp[c,d])]};{simp only[b0a,b0q,b0r];omega};{simp only[go_sem,b0d];rw[ah]<;>omega};{rw[h2,if_pos Bi]};.simp only[go_sem];rw[ah]<;>omega};.refine⟨(i+1,out),⟨⟨Ah,?_,Ah⟩,Ah⟩,?_⟩;{rw[h2,if_pos Cl]};.simp only[go_sem];rw[ah]<;>omega};{exact fin (a1f Aa)};.exact fin (by rw[b5j Aa];rfl)};{simp only[go_sem]};.simp only[go_sem]
def aho(l:LI)(n p:Nat):LI:=if(qk l n 0 p).length=0 then [am l (u5 l n p) n]else qk l n 0 p
def aeh(l:LI)(n p:Nat):Nat:=if(qk l n 0 p).length=0 then dp l (u5 l n p)else u5 l n p
theorem bd5(l:LI)(p:Nat)(n:Nat)(a:big l.length)(b:p<=l.length)(c:n<=1000):Den prog 94 [.ptr 1000000 0,.int .i64 n] [qf l p] (.vs ((aho l n p).map i1)) [] [qf l (aeh l n p)]:=by refine ah_ [] [1000000] func94 ntmps94 results94 ?_;simp only[go_sem];refine Qq (a8t l p n a b c) [1000000] ?_;simp only[go_sem];refine⟨λh=>Qq (bh l (u5 l n p) n a (vf l n p b) Aa) [1000000] ?_,λh=> ?_⟩;{simp only[go_sem];have:(qk l n 0 p).length=0:=Aa;simp[aho,aeh,this,i1]};.have: ¬(qk l n 0 p).length=0:=Aa;simp only[aho,aeh,if_neg this];simp only[go_sem]
def bAt(v:Int)(j:Nat):UInt8:=UInt8.ofNat ((v/(2:Int)^j) % 256).toNat
def be8(v:Int):LB:=[bAt v 56,bAt v 48,bAt v 40,bAt v 32,bAt v 24,bAt v 16,bAt v 8,bAt v 0]
theorem al1(v:Int)(j:Nat):((bAt v j).toNat:Int)=(v/(2:Int)^j) % 256:=by have a:=Int.emod_nonneg (v/(2:Int)^j) (b:=256) Aa;have c:=b72 (v/(2:Int)^j) (b:=256) Aa;simp only[bAt];rw[UInt8.toNat_ofNat'];omega
theorem aes(v:Int)(j:Nat):IntKind.u8.wrap (v.fdiv ((2:Int)^j))=((bAt v j).toNat:Int):=by have h:(0:Int)<=(2:Int)^j:=Int.pow_nonneg Aa;rw[b7d,al1,b4z _ h]
theorem ahv(v:Int)(j:Nat)(c:j<=56):IntKind.u8.wrap ((IntKind.u64.wrap v).fdiv ((2:Int)^j))=((bAt v j).toNat:Int):=by have h:(0:Int)<(2:Int)^j:=Int.pow_pos Aa;rw[b7d,al1,b4z _ Aa,IntKind.wrap_u64];have a:(18446744073709551616:Int)=(2:Int)^j*(256*(2:Int)^(56 - j)):=(by rw[show(256:Int)=2^8 from Al,<-Int.pow_add,<-Int.pow_add];have:j+(8+(56 - j))=64:=Aa;rw[this];rfl);have b:v=(v % 18446744073709551616)+(2:Int)^j*(256*(2:Int)^(56 - j))*(v/18446744073709551616):=(by rw[<-a];have:=Int.emod_add_mul_ediv v 18446744073709551616;omega);generalize v % 18446744073709551616=r at*;generalize v/18446744073709551616=q at*;rw[b,Int.mul_assoc,Int.add_mul_ediv_left _ _ Aa,Int.mul_assoc,b4y]
abbrev small(n:Nat):Prop:=n<=1000000000000
theorem a2w(a:LB)(v:Int)(e:small a.length):Den prog 399 [.os 1000000 a.length,.int .i64 v] [.arr 5 1 false (a.map u8)] (.os 1000000 (a++be8 v).length) [] [.arr 5 1 false ((a++be8 v).map u8)]:=by refine ah_ [] [1000000] func399 ntmps399 results399 ?_;simp only[go_sem];refine lo_ 0 (λm:Nat=>[(0,.os 1000000 (a++(be8 v).take m).length),(1,.int .i64 v),(5,.int .i64 (56 - 8*(m:Int)))]) (λm=>[(1000000,.arr 5 1 false ((a++(be8 v).take m).map u8))]) (λm=>m<=8) (λm=>8 - m) ?_ ?_ ?_;{simp};{simp only[go_sem]};.intro m hm;have c:((be8 v).take m).length=m:=Cu;simp only[go_sem];rw[c];have b:m<8->IntKind.u64.wrap (56 - 8*(m:Int))=((56 - 8*m:Nat):Int):=λh=>Ax;refine⟨λh=>⟨by rw[b]<;>omega,Aa,m+1,Aa,?_⟩,λh=> ?_⟩;{have e0:(be8 v).take (m+1)=(be8 v).take m++[bAt v (56 - 8*m)]:=(by have:m=0\/m=1\/m=2\/m=3\/m=4\/m=5\/m=6\/m=7:=Aa;rcases this with rfl|rfl|rfl|rfl|rfl|rfl|rfl|rfl<;>rfl);have b:=b Aa;have d:min (56 - 8*m) 64=56 - 8*m:=Aa;simp only[e0,b,b19,d];rw[ahv _ _ Aa];simp only[go_sem,b0d];refine⟨⟨Aa,?_⟩,?_⟩;{rw[ah]<;>omega};.simp};.have:m=8:=Aa;subst this;simp[be8]
theorem ax(v:Int):(be8 v).length=8:=rfl
theorem a3o(d:LB)(f:small d.length):Den prog 400 [.vs (d.map u8)] [] (.os 0 d.length) [.arr 5 1 false (d.map u8)] []:=by cases d with|nil=>refine adt [] λb=> ?_;refine aqy mx_ func400 rfl call400 ntmps400 (congrArg Array.toList results400) Ad Ae (exts:=[]) rfl rfl ?_;simp only[go_sem];refine⟨λh=>aj3 [(2,99,5,1)] [99] ?_ ?_,λh=>aj3 [] [5] ?_ ?_⟩;{simp only[go_sem]};{simp only[go_sem]};{simp only[go_sem]};.simp only[go_sem]|cons c d=>refine aqy mx_ func400 rfl call400 ntmps400 (congrArg Array.toList results400) Ad Ae (exts:=[]) rfl rfl ?_;have e:small (d.length+1):=F3;simp only[go_sem,Nat.zero_lt_succ,b0z,List.forall_mem_cons];refine⟨?_,Aa,aj3 [] [5] ?_ ?_⟩;{rintro y (rfl|⟨a,_,rfl⟩)<;>rfl};{simp only[go_sem]};.simp only[go_sem]
theorem ajw(a:LB)(v:Int)(b:small a.length):Den prog 357 [.vs (a.map u8),.int .i64 v] [] (.os 0 (a++be8 v).length) [.arr 5 1 false ((a++be8 v).map u8)] []:=by refine ah_ [6] [] func357 ntmps357 results357 ?_;simp only[go_sem];refine Qq (a3o a b) [] ?_;simp only[go_sem];refine Qq (a2w a v b) [6] ?_;simp only[go_sem];omega
theorem a5o(a:LB)(s:LB)(b:small a.length)(hs:small s.length):Den prog 358 [.vs (a.map u8),.str s] [] (.os 0 (a++(be8 s.length++s)).length) [.arr 5 1 false ((a++(be8 s.length++s)).map u8)] []:=by refine ah_ [8] [] func358 ntmps358 results358 ?_;simp only[go_sem];refine Qq (ajw a s.length b) [] ?_;simp only[go_sem,ax,b0m,b0d];omega
def beL(l:LI):LB:=l.flatMap be8
theorem d5(l:LI):(beL l).length=8*l.length:=by induction l with|nil=>rfl|cons a r ih=>simp only[beL,b2m,b0a,ax,b0q]at*;omega
theorem l9(l m:LI):beL (l++m)=beL l++beL m:=by simp[beL]
theorem bt{α:Type} [Inhabited α]{l:List α}(h:i<l.length):l.take (i+1)=l.take i++[el l i]:=by simp[el,bd,h,List.take_append_getElem]
theorem a6v(a:LB)(l:LI)(d:a.length<=1000000000)(c:l.length<=1000000000):Den prog 359 [.vs (a.map u8),.vs (l.map i1)] [] (.os 0 (a++(be8 l.length++beL l)).length) [.arr 5 1 false ((a++(be8 l.length++beL l)).map u8)] []:=by refine ah_ [11] [] func359 ntmps359 results359 ?_;simp only[go_sem];refine Qq (ajw a l.length At) [] ?_;simp only[go_sem];refine lo_ 0 (λi:Nat=>[(1,.vs (l.map i1)),(5,.os 11 (a++(be8 l.length++beL (l.take i))).length),(12,.vs (l.map i1)),(13,.int .i64 l.length),(14,.int .i64 i)]) (λi=>[(11,.arr 5 1 false ((a++(be8 l.length++beL (l.take i))).map u8))]) (λi=>i<=l.length) (λi=>l.length - i) ?_ ?_ ?_;{simp};{simp only[go_sem,b2d,beL,b17]};.intro i hi;have b:(l.take i).length=i:=Ag;simp only[go_sem];refine⟨λh=>⟨Aa,Qq (a2w (a++(be8 l.length++beL (l.take i))) (el l i) Cy) [11] ?_⟩,λh=> ?_⟩;{simp only[go_sem];refine⟨?_,i+1,Aa,?_⟩;{omega};.rw[bt h,l9];simp only[go_sem,b0d,b0m,beL,b2m,b17];refine⟨Aa,?_⟩;rw[ah]<;>omega};.have:i=l.length:=Aa;subst this;simp only[go_sem,b0n]
theorem abd(a:LB)(v:Int)(e:small a.length):Den prog 218 [.vs (a.map u8),.int .i64 v] [] (.os 0 (a++be8 v).length) [.arr 5 1 false ((a++be8 v).map u8)] []:=by refine ah_ [8] [] func218 ntmps218 results218 ?_;simp only[go_sem];refine⟨Aa,?_⟩;refine lo_ 0 (λm:Nat=>[(1,.int .i64 v),(5,.os 8 (a++(be8 v).take m).length),(6,.int .i64 (7 - (m:Int)))]) (λm=>[(8,.arr 5 1 false ((a++(be8 v).take m).map u8))]) (λm=>m<=8) (λm=>8 - m) ?_ ?_ ?_;{simp};{simp only[go_sem]};.intro m hm;have c:((be8 v).take m).length=m:=Cu;simp only[go_sem];rw[c];have b:m<8->IntKind.u64.wrap (IntKind.i64.wrap (8*(7 - (m:Int))))=((56 - 8*m:Nat):Int):=λh=>Bu;refine⟨λh=>⟨by rw[b]<;>omega,Aa,m+1,Aa,?_⟩,λh=> ?_⟩;{have e0:(be8 v).take (m+1)=(be8 v).take m++[bAt v (56 - 8*m)]:=(by have:m=0\/m=1\/m=2\/m=3\/m=4\/m=5\/m=6\/m=7:=Aa;rcases this with rfl|rfl|rfl|rfl|rfl|rfl|rfl|rfl<;>rfl);have b:=b Aa;have d:min (56 - 8*m) 64=56 - 8*m:=Aa;simp only[e0,b,b19,d];rw[aes];simp only[go_sem,b0d];refine⟨⟨Aa,?_⟩,?_⟩;{rw[ah]<;>omega};.simp};.have:m=8:=Aa;subst this;simp[be8]
theorem a80(a:LB)(s:LB)(b:small a.length)(hs:small s.length):Den prog 217 [.vs (a.map u8),.str s] [] (.os 0 (a++(be8 s.length++s)).length) [.arr 5 1 false ((a++(be8 s.length++s)).map u8)] []:=by refine ah_ [8] [] func217 ntmps217 results217 ?_;simp only[go_sem];refine Qq (abd a s.length b) [] ?_;simp only[go_sem,ax,b0m,b0d];omega
theorem a3a(a:LB)(l:LI)(d:a.length<=1000000000)(c:l.length<=1000000000):DN 219 [.vs (a.map u8),.vs (l.map i1)] (.vs ((a++(be8 l.length++beL l)).map u8)):=by refine ag_ func219 ntmps219 results219 ?_;simp only[go_sem];refine Qq ((abd a l.length At).vs Ad trivial rfl) [] ?_;simp only[go_sem];refine lo_ 0 (λi:Nat=>[(1,.vs (l.map i1)),(5,.vs ((a++(be8 l.length++beL (l.take i))).map u8)),(6,.int .i64 i)]) (λi=>[]) (λi=>i<=l.length) (λi=>l.length - i) ?_ ?_ ?_;{simp};{simp only[go_sem,b2d,beL,b17]};.intro i hi;have b:(l.take i).length=i:=Ag;simp only[go_sem];refine⟨λh=>⟨Aa,Qq ((abd (a++(be8 l.length++beL (l.take i))) (el l i) Cy).vs Ad trivial rfl) [] ?_⟩,λh=> ?_⟩;{simp only[go_sem];refine⟨i+1,Aa,?_⟩;rw[bt h,l9];simp only[go_sem,b0d,b0m,beL,b2m,b17];rw[ah]<;>omega};.have:i=l.length:=Aa;subst this;simp only[go_sem,b0n]
def u4(x:Int):LP:=[.int .u32 x]
theorem bre(x:Int):u4 x=[.int .u32 x]:=rfl
theorem bns(l:LI)(i:Nat)(v:Int):(l.map u4).set i [.int .u32 v]=(l.set i v).map u4:=D0
theorem bti:min 24 32=24:=(rfl)
theorem bto:min 16 32=16:=(rfl)
theorem mn8:min 8 32=8:=(rfl)
theorem mn3:min 3 32=3:=(rfl)
theorem bts:min 10 32=10:=(rfl)
attribute [go_sem] bre bns bti bto mn8 mn3 bts
def ad(a b:Int):Int:=IntKind.u32.wrap (a+b)
def rot(x:Int)(n:Nat):Int:=bits .or .u32 (x.fdiv (2^n)) (IntKind.u32.wrap (x*2^(32 - n)))
def xo(a b:Int):Int:=bits .xor .u32 a b
def an(a b:Int):Int:=bits .and .u32 a b
def nt(a:Int):Int:=bits .xor .u32 IntKind.u32.max a
def sr(a:Int)(n:Nat):Int:=a.fdiv (2^n)
theorem jx(x:Int)(n:Nat)(a:m=n)(h0:0<n)(e:n<32):DN 162 [.int .u32 x,.int .u64 m] (.int .u32 (rot x n)):=by refine ag_ func162 ntmps162 results162 ?_;simp only[go_sem];have c:IntKind.u64.wrap (32 - m)=((32 - n:Nat):Int):=Ax;rw[c,a];have d:min n 32=n:=Aa;have b:min (32 - n) 32=32 - n:=Aa;simp only[b19,d,b,rot];exact⟨Aa,Aa,trivial⟩
def w16(b:LB)(i:Nat):Int:=bits .or .u32 (bits .or .u32 (bits .or .u32 (IntKind.u32.wrap (IntKind.u32.wrap (el b (4*i)).toNat*2^24)) (IntKind.u32.wrap (IntKind.u32.wrap (el b (4*i+1)).toNat*2^16))) (IntKind.u32.wrap (IntKind.u32.wrap (el b (4*i+2)).toNat*2^8))) (IntKind.u32.wrap (el b (4*i+3)).toNat)
def wA(b:LB):Nat->LI
 |0=>List.replicate 64 0
 |m+1=>(wA b m).set m (w16 b m)
theorem aux(b:LB): ∀m,(wA b m).length=64
 |0=>by simp[wA]
 |m+1=>by simp[wA,aux b m]
def wst(w:LI)(m:Nat):Int:=
 ad (ad (ad (el w m) (xo (xo (rot (el w (m+1)) 7) (rot (el w (m+1)) 18)) (sr (el w (m+1)) 3))) (el w (m+9))) (xo (xo (rot (el w (m+14)) 17) (rot (el w (m+14)) 19)) (sr (el w (m+14)) 10))
def wB(b:LB):Nat->LI
 |0=>wA b 16
 |m+1=>(wB b m).set (16+m) (wst (wB b m) m)
theorem a8r(b:LB): ∀m,(wB b m).length=64
 |0=>aux b 16
 |m+1=>by simp[wB,a8r b m]
def rx(v:LI)(k w:Int):Int:=ad (ad (ad (ad (el v 7) (xo (xo (rot (el v 4) 6) (rot (el v 4) 11)) (rot (el v 4) 25))) (xo (an (el v 4) (el v 5)) (an (nt (el v 4)) (el v 6)))) k) w
def rs(v:LI):Int:=xo (xo (rot (el v 0) 2) (rot (el v 0) 13)) (rot (el v 0) 22)
def rm(v:LI):Int:=xo (xo (an (el v 0) (el v 1)) (an (el v 0) (el v 2))) (an (el v 1) (el v 2))
def rnd(v:LI)(k w:Int):LI:=[ad (ad (rx v k w) (rs v)) (rm v),el v 0,el v 1,el v 2,ad (el v 3) (rx v k w),el v 4,el v 5,el v 6]
def aos(h k w:LI):Nat->LI
 |0=>h
 |m+1=>rnd (aos h k w m) (el k m) (el w m)
theorem aip{h k w:LI}(hh:h.length=8): ∀m,(aos h k w m).length=8
 |0=>hh
 |_+1=>rfl
def fin(v h:LI):Nat->LI
 |0=>v
 |m+1=>(fin v h m).set m (ad (el (fin v h m) m) (el h m))
theorem ai6{v h:LI}(hv:v.length=8): ∀m,(fin v h m).length=8
 |0=>hv
 |m+1=>by simp[fin,ai6 hv m]
def bg0(h:LI)(b:LB)(k:LI):LI:=fin (aos h k (wB b 48) 64) h 8
theorem a4s(h:LI)(b:LB)(k:LI)(p:h.length=8)(s:b.length=64)(e:k.length=64):DN 116 [.vs (h.map u4),.vs (b.map u8),.vs (k.map u4)] (.vs ((bg0 h b k).map u4)):=by refine ag_ func116 ntmps116 results116 ?_;simp only[go_sem];(repeat refine an_ ?_);refine lo_ 0 (λi:Nat=>[(0,.vs (h.map u4)),(1,.vs (b.map u8)),(2,.vs (k.map u4)),(7,.os 19 64),(8,.int .i64 i)]) (λi=>[(19,.arr 177 1 false ((wA b i).map u4))]) (λi=>i<=16) (λi=>16 - i) ?_ ?_ ?_;{simp};{simp only[go_sem,wA,b4a,aap]};.intro i hi;have t:i<16->IntKind.i64.wrap (4*(i:Int))=((4*i:Nat):Int):=λh=>Ab;have v:i<16->IntKind.i64.wrap (((4*i:Nat):Int)+1)=((4*i+1:Nat):Int):=λh=>Ab;have y:i<16->IntKind.i64.wrap (((4*i:Nat):Int)+2)=((4*i+2:Nat):Int):=λh=>Ab;have x:i<16->IntKind.i64.wrap (((4*i:Nat):Int)+3)=((4*i+3:Nat):Int):=λh=>Ab;have a:=aux b i;by_cases d:i<16;{simp only[go_sem,t d,v d,y d,x d,a,s];refine⟨λ_=>⟨Aa,Aa,Aa,Aa,Aa,Aa,ok_,i+1,Aa,?_⟩,λh=>Aa⟩;exact⟨Ab,rfl⟩};.have:i=16:=Aa;have f: ¬((i:Int)<16):=Aa;simp only[go_sem,f];subst this;refine lo_ 0 (λm:Nat=>[(0,.vs (h.map u4)),(2,.vs (k.map u4)),(7,.os 19 64),(9,.int .i64 ((16+m:Nat):Int))]) (λm=>[(19,.arr 177 1 false ((wB b m).map u4))]) (λm=>m<=48) (λm=>48 - m) ?_ ?_ ?_;{simp};{simp only[go_sem,wB]};.intro m hm;have a:=a8r b m;by_cases u:m<48;{have f1:IntKind.i64.wrap (((16+m:Nat):Int) - 15)=((m+1:Nat):Int):=Ab;have o:IntKind.i64.wrap (((16+m:Nat):Int) - 2)=((m+14:Nat):Int):=Ab;have g:IntKind.i64.wrap (((16+m:Nat):Int) - 16)=((m:Nat):Int):=Ab;have l:IntKind.i64.wrap (((16+m:Nat):Int) - 7)=((m+9:Nat):Int):=Ab;simp only[go_sem,f1,o,g,l,a];refine⟨λ_=> ?_,λh=>Aa⟩;(repeat refine an_ ?_);refine Qq (jx (el (wB b m) (m+1)) 7 rfl Aa Aa) [] ?_;simp only[go_sem,f1,o,g,l,a];(repeat refine an_ ?_);refine Qq (jx (el (wB b m) (m+1)) 18 rfl Aa Aa) [] ?_;simp only[go_sem,f1,o,g,l,a];(repeat refine an_ ?_);refine Qq (jx (el (wB b m) (m+14)) 17 rfl Aa Aa) [] ?_;simp only[go_sem,f1,o,g,l,a];(repeat refine an_ ?_);refine Qq (jx (el (wB b m) (m+14)) 19 rfl Aa Aa) [] ?_;simp only[go_sem,f1,o,g,l,a];(repeat refine an_ ?_);refine⟨m+1,Aa,?_⟩;exact⟨Ab,rfl⟩};.have f: ¬(((16+m:Nat):Int)<64):=Aa;simp only[go_sem,f];have:m=48:=Aa;subst this;(repeat refine an_ ?_);generalize z:wB b 48=W at*;refine brr mx_ 0 (λj:Nat=>[(0,.vs (h.map u4)),(2,.vs (k.map u4)),(7,.vs (W.map u4)),(12,.os 123 8),(13,.int .i64 j)]) (λj=>[(123,.arr 177 1 false ((aos h k W j).map u4))]) (λj=>j<=64) (λj=>64 - j) Ae [] ?_ ?_ ?_;{simp};{simp only[go_sem,aos,a,p]};.intro j hj;have c:=aip (k:=k) (w:=W) p j;by_cases q:j<64;{have hR:aos h k W (j+1)=rnd (aos h k W j) (el k j) (el W j):=rfl;generalize aos h k W j=V at*;simp only[go_sem,c,a,e];refine⟨λ_=> ?_,λh=>Aa⟩;(repeat refine an_ ?_);refine Qq (jx (el V 4) 6 rfl Aa Aa) [] ?_;simp only[go_sem,c,a,e];refine Qq (jx (el V 4) 11 rfl Aa Aa) [] ?_;simp only[go_sem,c,a,e];refine Qq (jx (el V 4) 25 rfl Aa Aa) [] ?_;simp only[go_sem,c,a,e];(repeat refine an_ ?_);refine Qq (jx (el V 0) 2 rfl Aa Aa) [] ?_;simp only[go_sem,c,a,e];refine Qq (jx (el V 0) 13 rfl Aa Aa) [] ?_;simp only[go_sem,c,a,e];refine Qq (jx (el V 0) 22 rfl Aa Aa) [] ?_;simp only[go_sem,c,a,e];(repeat refine an_ ?_);refine⟨j+1,[(123,99),(240,123)],Aa,?_⟩;rw[hR];simp only[go_sem,c,a,e];exact⟨Ab,rfl⟩};.have f: ¬((j:Int)<64):=Aa;simp only[go_sem,f];have:j=64:=Aa;subst this;generalize r:aos h k W 64=V at*;refine lo_ 0 (λj:Nat=>[(0,.vs (h.map u4)),(12,.os 123 8),(18,.int .i64 j)]) (λj=>[(123,.arr 177 1 false ((fin V h j).map u4))]) (λj=>j<=8) (λj=>8 - j) ?_ ?_ ?_;{simp};{simp only[go_sem,fin]};.intro j hj;have n:=ai6 (h:=h) c j;by_cases q:j<8;{simp only[go_sem,n,p];refine⟨λ_=> ?_,λh=>Aa⟩;(repeat refine an_ ?_);exact⟨j+1,Aa,Ab,rfl⟩};.have f: ¬((j:Int)<8):=Aa;simp only[go_sem,f];have:j=8:=Aa;subst this;simp only[go_sem,n];rw[bg0,z,r]
def kK:LI:=[0x428a2f98,0x71374491,0xb5c0fbcf,0xe9b5dba5,0x3956c25b,0x59f111f1,0x923f82a4,0xab1c5ed5,
 0xd807aa98,0x12835b01,0x243185be,0x550c7dc3,0x72be5d74,0x80deb1fe,0x9bdc06a7,0xc19bf174,
 0xe49b69c1,0xefbe4786,0x0fc19dc6,0x240ca1cc,0x2de92c6f,0x4a7484aa,0x5cb0a9dc,0x76f988da,
 0x983e5152,0xa831c66d,0xb00327c8,0xbf597fc7,0xc6e00bf3,0xd5a79147,0x06ca6351,0x14292967,
 0x27b70a85,0x2e1b2138,0x4d2c6dfc,0x53380d13,0x650a7354,0x766a0abb,0x81c2c92e,0x92722c85,
 0xa2bfe8a1,0xa81a664b,0xc24b8b70,0xc76c51a3,0xd192e819,0xd6990624,0xf40e3585,0x106aa070,
 0x19a4c116,0x1e376c08,0x2748774c,0x34b0bcb5,0x391c0cb3,0x4ed8aa4a,0x5b9cca4f,0x682e6ff3,
 0x748f82ee,0x78a5636f,0x84c87814,0x8cc70208,0x90befffa,0xa4506ceb,0xbef9a3f7,0xc67178f2]
theorem aza:DN 115 [] (.vs (kK.map u4)):=by refine ag_ func115 ntmps115 results115 ?_;simp only[go_sem];rfl
theorem bq1(n:Nat):((n:Nat):Int).tmod 64=((n % 64:Nat):Int):=rfl
def aew(n:Nat):Nat:=(119 - n % 64) % 64
theorem ade(n:Nat):(n+1+aew n) % 64=56:=by unfold aew;omega
theorem a8k{n z:Nat}(h:z<aew n):(n+1+z) % 64≠56:=by unfold aew at h;omega
theorem ao1(n:Nat):aew n<64:=by unfold aew;omega
def aj6(b:LB)(z:Nat):LB:=b++(128::List.replicate z 0)
theorem ai0(b:LB)(z:Nat):(aj6 b z).length=b.length+1+z:=by simp[aj6];omega
theorem aol(b:LB)(z:Nat):aj6 b (z+1)=aj6 b z++[0]:=by simp[aj6,List.replicate_succ']
def agu(b:LB):LB:=aj6 b (aew b.length)++be8 ((8*b.length:Nat):Int)
theorem ate(b:LB): ∃q,(agu b).length=64*q/\64*q<=b.length+128:=by
 have:=ade b.length;have:=ao1 b.length;have a:(agu b).length=b.length+1+aew b.length+8:=by simp only[agu,b0a,ai0,ax]
 exact⟨(b.length+1+aew b.length+8)/64,Aa⟩
def h0:LI:=[0x6a09e667,0xbb67ae85,0x3c6ef372,0xa54ff53a,0x510e527f,0x9b05688c,0x1f83d9ab,0x5be0cd19]
def hs(b:LB):Nat->LI
 |0=>h0
 |m+1=>bg0 (hs b m) (((agu b).take (64*m+64)).drop (64*m)) kK
theorem au6(b:LB): ∀m,(hs b m).length=8
 |0=>rfl
 |m+1=>ai6 (aip (au6 b m) 64) 8
def atp(x:Int):LB:=[bAt x 24,bAt x 16,bAt x 8,bAt x 0]
theorem ait(l:LI):(l.flatMap atp).length=4*l.length:=by induction l with|nil=>rfl|cons a r ih=>simp only[b2m,b0a,b0q,ih,atp,b0r];omega
theorem a84(v:Int):IntKind.u8.wrap v=((bAt v 0).toNat:Int):=by rw[<-aes];simp
def sha(b:LB):LB:=(hs b ((agu b).length/64)).flatMap atp
theorem ag6(b:LB)(G:b.length<=1000000000):DN 61 [.vs (b.map u8)] (.str (sha b)):=by refine ag_ func61 ntmps61 results61 ?_;simp only[go_sem];(repeat refine an_ ?_);refine lo_ 0 (λz:Nat=>[(0,.vs (b.map u8)),(3,.os 11 8),(4,.os 13 (aj6 b z).length)]) (λz=>[(11,.arr 177 1 false (h0.map u4)),(13,.arr 5 1 false ((aj6 b z).map u8))]) (λz=>z<=aew b.length) (λz=>aew b.length - z) ?_ ?_ ?_;{simp};{simp only[go_sem];simp[aj6,u8,h0,u4]};.intro z hz;have f:=ai0 b z;have y:=ao1 b.length;by_cases s:z<aew b.length;{have d: ¬((((aj6 b z).length:Nat):Int).tmod 64=56):=(by have:=a8k s;rw[f,bq1];omega);simp only[go_sem,d];refine⟨Aa,z+1,Aa,?_⟩;rw[aol];simp only[go_sem,b0d];simp[u8]};.have hz2:z=aew b.length:=Aa;subst hz2;have d:(((aj6 b (aew b.length)).length:Nat):Int).tmod 64=56:=(by have:=ade b.length;rw[f,bq1];omega);simp only[go_sem,d];generalize t:aj6 b (aew b.length)=p at*;refine lo_ 0 (λm:Nat=>[(3,.os 11 8),(4,.os 13 (p++(be8 ((8*b.length:Nat):Int)).take m).length),(5,.int .u64 ((8*b.length:Nat):Int)),(6,.int .i64 (7 - (m:Int)))]) (λm=>[(11,.arr 177 1 false (h0.map u4)),(13,.arr 5 1 false ((p++(be8 ((8*b.length:Nat):Int)).take m).map u8))]) (λm=>m<=8) (λm=>8 - m) ?_ ?_ ?_;{simp};{simp only[go_sem,b2d,b00];simp only[IntKind.wrap_u64];omega};.intro m hm;generalize w:8*b.length=v at*;have r:((be8 (v:Int)).take m).length=m:=Cu;have g:m<8->IntKind.u64.wrap (IntKind.i64.wrap (8*(7 - (m:Int))))=((56 - 8*m:Nat):Int):=λh=>Bu;by_cases o:m<8;{have e0:(be8 (v:Int)).take (m+1)=(be8 (v:Int)).take m++[bAt v (56 - 8*m)]:=(by have:m=0\/m=1\/m=2\/m=3\/m=4\/m=5\/m=6\/m=7:=Aa;rcases this with rfl|rfl|rfl|rfl|rfl|rfl|rfl|rfl<;>rfl);have x:min (56 - 8*m) 64=56 - 8*m:=Aa;have d:(0:Int)<=7 - (m:Int):=Aa;rw[b0a,r];simp only[go_sem,g o,d,x,aes,r];refine⟨Aa,m+1,Aa,?_⟩;rw[e0];simp only[go_sem,b0d,b0m,r];rw[ah]<;>omega};.have hm2:m=8:=Aa;subst hm2;have A:p++(be8 (v:Int)).take 8=agu b:=(by rw[agu,t,w];rfl);rw[A];simp only[go_sem];refine Qq aza [] ?_;simp only[go_sem];obtain⟨i,c,D⟩:=ate b;have n:kK.length=64:=rfl;refine lo_ 0 (λq:Nat=>[(3,.vs ((hs b q).map u4)),(4,.vs ((agu b).map u8)),(7,.vs (kK.map u4)),(8,.int .i64 ((64*q:Nat):Int))]) (λq=>[]) (λq=>q<=i) (λq=>i - q) ?_ ?_ ?_;{simp};{simp only[go_sem,hs];rfl};.intro q hq;have a:=au6 b q;by_cases B:q<i;{have g:IntKind.i64.wrap (((64*q:Nat):Int)+64)=((64*q+64:Nat):Int):=Ab;have l:((agu b).take (64*q+64)|>.drop (64*q)).length=64:=Ag;simp only[go_sem,c,g,b19];refine⟨λ_=>⟨Aa,?_⟩,λh=>Aa⟩;refine Qq (a4s (hs b q) _ kK a l n) [] ?_;simp only[go_sem,g];exact⟨q+1,Aa,rfl,Aa⟩};.have hq2:q=i:=Aa;subst hq2;have E: ¬(((64*q:Nat):Int)<((agu b).length:Int)):=Aa;simp only[go_sem,E];have e:sha b=(hs b q).flatMap atp:=(by rw[sha,c,b6u _ Aa]);generalize F:hs b q=V at*;refine bm 9 14 5 1 false ?_ ?_ ?_ Aa;{refine lo_ 0 (λj:Nat=>[(3,.vs (V.map u4)),(9,.os 14 ((V.take j).flatMap atp).length),(10,.int .i64 j)]) (λj=>[(14,.arr 5 1 false (((V.take j).flatMap atp).map u8))]) (λj=>j<=8) (λj=>8 - j) ?_ ?_ ?_;{simp};{simp only[go_sem,b2d,b17]};.intro j hj;have u:((V.take j).flatMap atp).length=4*j:=(by rw[ait];simp;omega);by_cases C:j<8;{simp only[go_sem,a];refine⟨λ_=> ?_,λh=>Aa⟩;(repeat refine an_ ?_);refine⟨j+1,Aa,?_⟩;rw[bt Aa,aes,aes,aes,a84];simp only[go_sem,b29,b0d,b2m,b17,atp];rw[ah]<;>omega};.have hj2:j=8:=Aa;subst hj2;have k:V.take 8=V:=(by rw[<-a,b0n]);rw[k,<-e];simp only[go_sem];exact⟨_,rfl,rfl⟩};{simp only[go_sem]};.simp only[go_sem]
variable {P:Program}
def vIf(X Y:Prop):Bool->Prop
 |true=>X
 |false=>Y
theorem a9t(X Y:Prop):vIf X Y true=X:=(rfl)
theorem a6z(X Y:Prop):vIf X Y false=Y:=(rfl)
theorem mf(X Y:Prop)(b:Bool):vIf X Y b=((b=true->X)/\(b=false->Y)):=by cases b<;>simp[vIf]
theorem apy(P:Program)(N:Nat)(Q:r8)(fr:AFr)(σ:ASt)(a b:Code)(t:Bool):bl8 P N Q fr σ a b (.bool t)=bv t λt=>vIf (wv P N a Q fr σ) (wv P N b Q fr σ) t:=by rw[agf];simp only[bv,mf]
theorem btj(P:Program)(a:Array Oper)(c:Op)(d:Option Nat)(r:List Oper)(fr:AFr)(σ:ASt)(K:AFr->ASt->Prop)(t:Nat)(b:Bool):vG P a c d r fr σ K t true (.bool b)=
  bv b λb=>vIf (evO P c d ((t,.bool true)::fr) σ λu δ _=>nx P a r ((t,.bool true)::fr) d u σ δ K) (nx P a r ((t,.bool false)::fr) d (.tup []) σ [] K) b:=by rw[ar2];simp only[bv,mf,Bool.not_true]
theorem btl(P:Program)(a:Array Oper)(c:Op)(d:Option Nat)(r:List Oper)(fr:AFr)(σ:ASt)(K:AFr->ASt->Prop)(t:Nat)(b:Bool):vG P a c d r fr σ K t false (.bool b)=
  bv b λb=>vIf (nx P a r ((t,.bool true)::fr) d (.tup []) σ [] K) (evO P c d ((t,.bool false)::fr) σ λu δ _=>nx P a r ((t,.bool false)::fr) d u σ δ K) b:=by rw[ar2];simp only[bv,mf,Bool.not_false];exact propext and_comm
theorem bsm(P:Program)(a:Array Oper)(c:Op)(d:Option Nat)(r:List Oper)(fr:AFr)(σ:ASt)(g:Log)(K:AFr->ASt->Log->Prop)(t:Nat)(b:Bool):vGD P a c d r fr σ g K t true (.bool b)=
  bv b λb=>vIf (evO P c d ((t,.bool true)::fr) σ λu δ F=>bv F λF=>nxD P a r ((t,.bool true)::fr) d u σ δ g F K) (nxD P a r ((t,.bool false)::fr) d (.tup []) σ [] g [] K) b:=by rw[aju];simp only[bv,mf,Bool.not_true]
theorem brx(P:Program)(a:Array Oper)(c:Op)(d:Option Nat)(r:List Oper)(fr:AFr)(σ:ASt)(g:Log)(K:AFr->ASt->Log->Prop)(t:Nat)(b:Bool):vGD P a c d r fr σ g K t false (.bool b)=
  bv b λb=>vIf (nxD P a r ((t,.bool true)::fr) d (.tup []) σ [] g [] K) (evO P c d ((t,.bool false)::fr) σ λu δ F=>bv F λF=>nxD P a r ((t,.bool false)::fr) d u σ δ g F K) b:=by rw[aju];simp only[bv,mf,Bool.not_false];exact propext and_comm
theorem ar9(fr:AFr)(K:KT)(a b:Operand)(t:Bool):bk8 fr a b K (.bool t)=bv t λt=>vIf (kk K (ev fr a) [] []) (kk K (ev fr b) [] []) t:=by rw[af9];simp only[bv,mf]
attribute [go_sem ↓ 1100] ar9 a9t a6z apy btj btl bsm brx
attribute [go_sem ↓] mf
def c4(x:Int):PV:= .int .u32 x
theorem btt(x:Int):PV.int .u32 x=c4 x:=rfl
theorem aic(l:LI)(h:i<l.length):gq (l.map c4) i= .int .u32 (el l i):=by simp[gq,el,bd,h,c4]
theorem brf(K:KT)(l:LI)(i:Nat)(d:ASt)(F:LN):(i<(l.map c4).length/\kk K (gq (l.map c4) i) d F)=(i<l.length/\K (.int .u32 (el l i)) d F):=by simp only[b0x,kk];refine propext (b1x λh=> ?_);rw[aic l h];rfl
theorem bse(K:KT)(l:LI)(i:Nat)(n:Nat)(d:ASt)(F:LN):(((0:Int)<=(i:Int)/\(i:Int)<(n:Int)/\(i:Int)<((l.map c4).length:Int))/\kk K (gq (l.map c4) (i:Int).toNat) d F)=((i<n/\i<l.length)/\K (.int .u32 (el l i)) d F):=by simp only[b0x,kk,b19];apply propext;constructor;{rintro⟨⟨_,h1,h2⟩,h3⟩;rw[aic l Aa]at h3;exact⟨Aa,h3⟩};.rintro⟨⟨h1,h2⟩,h3⟩;refine⟨Aa,?_⟩;rw[aic l h2];exact h3
def bqq(n off:Nat)(K:KT):Option Nat->Option LP->Option Box->Prop
 |some m,some us,some (.cells cs)=>(us.length=m/\us.all fy=true/\off+m<=cs.length)/\kk K .undef [(n,.cells (cs.take off++us++cs.drop (off+m)))] [n]
 |_,_,_=>False
theorem anc(P:Program)(σ:ASt)(K:KT)(t:TypeId)(n off:Nat)(v:PV):p6 P t σ (.ptr n off) v K=bv (dx P t) λm=>bv (ei v) λus=>bv (ai σ n) λB=>bqq n off K m us B:=by rw[ada];rfl
theorem ahp(K:KT)(n off m:Nat)(us cs:LP):bqq n off K (some m) (some us) (some (.cells cs))=((us.length=m/\us.all fy=true/\off+m<=cs.length)/\kk K .undef [(n,.cells (cs.take off++us++cs.drop (off+m)))] [n]):=rfl
theorem bmf(K:KT)(n i:Nat)(l:LI)(v:Int):bqq n i K (some 1) (some [.int .u32 v]) (some (.cells (l.map c4)))=(i<l.length/\kk K .undef [(n,.cells ((l.set i v).map c4))] [n]):=by rw[ahp];simp only[b0x,kk];apply propext;have e:i<l.length->(l.map c4).take i++[.int .u32 v]++(l.map c4).drop (i+1)=(l.set i v).map c4:=λh=>(by rw[b2r,b5b];simp[h,c4]);constructor;{rintro⟨⟨h1,h2,h3⟩,h4⟩;rw[e h3]at h4;exact⟨h3,h4⟩};.rintro⟨h3,h4⟩;rw[<-e h3]at h4;exact⟨⟨rfl,rfl,h3⟩,h4⟩
def c8(x:Int):PV:= .int .i64 x
theorem avb(l:LI)(h:i<l.length):gq (l.map c8) i= .int .i64 (el l i):=by simp[gq,el,bd,h,c8]
theorem brh(K:KT)(l:LI)(i:Nat)(n:Nat)(d:ASt)(F:LN):(((0:Int)<=(i:Int)/\(i:Int)<(n:Int)/\(i:Int)<((l.map c8).length:Int))/\kk K (gq (l.map c8) (i:Int).toNat) d F)=((i<n/\i<l.length)/\K (.int .i64 (el l i)) d F):=by simp only[b0x,kk,b19];apply propext;constructor;{rintro⟨⟨_,h1,h2⟩,h3⟩;rw[avb l Aa]at h3;exact⟨Aa,h3⟩};.rintro⟨⟨h1,h2⟩,h3⟩;refine⟨Aa,?_⟩;rw[avb l h2];exact h3
theorem bf9(d:LN): ∀(l:LI),aop d (l.map c8)=true
 |[]=>rfl
 |x::r=>by simp[aop,bge,c8,bf9 d r]
theorem bnc(l:LI):(l.map c4).all fy=true:=by simp[c4,fy]
theorem brq(l:LI)(n:Nat):(l.map c4).take n=(l.take n).map c4:=b3j.symm
theorem bsc(l:LI)(n:Nat):(l.map c4).drop n=(l.drop n).map c4:=b6t.symm
theorem bg9(d:LN): ∀(l:LI),aop d (l.map c4)=true
 |[]=>rfl
 |x::r=>by simp[aop,bge,c4,bg9 d r]
theorem a62{p:PV->Prop}(h: ∀x,p (c4 x)): ∀(l:LI),afa p (l.map c4)
 |[]=>trivial
 |x::r=>⟨h x,a62 h r⟩
theorem a5z(σ:ASt): ∀(l:LI),lg σ (l.map c4)=some (l.map c4,[])
 |[]=>rfl
 |x::r=>by simp[lg,pur,c4,a5z σ r]
theorem bow(l:LI):afa noH (l.map c4)=True:=b4s (a62 (λx=> .int .u32 x) l)
theorem bpb: ∀{l m:LI},(l.map c4=m.map c4)=(l=m)
 |l,m=>propext (b73 λa b h=>by simpa [c4] using h)
attribute [go_sem ↓ 1100] brf bse anc bmf bnc bg9 bf9 brh bow a5z
attribute [go_sem ↓] ahp
attribute [go_sem] brq bsc Nat.mul_one bpb
end Go.Proofs.Am
