/- COne. -/
import Derived.Test.YtlaoaleoeknhoaaGreatDoorGWZ
set_option linter.unusedSimpArgs false
set_option linter.unusedVariables false
set_option maxHeartbeats 1000000
set_option maxRecDepth 100000
namespace Go.Proofs.Am
open Go Go.RowKit Tryz
open Go.Proofs
variable {i:Nat}{l nu prev:LI}{r:Rl}{c:Cs}{a j n x:Int}{v:LB}
theorem bte(p:Pol):uq ⟨64,[],[]⟩ p=if a6o p then 0 else 15:=by show(if a6o p=false then(15:Int)else 0)=_;cases a6o p<;>rfl
theorem bca(p:Pol)(a:big p.se.length)(b:big p.ta.length):DN 59 [.agg [.int .i64 64,.vs [],.vs []],.agg (pl p)] (.int .i64 (if a6o p then 0 else 15)):=
 bte p ▸ ahu ⟨64,[],[]⟩ p Ap Ap a b
def c9(r:Rl):Int:=if lk r.gen=false then 43 else if a6o r.pol=false then 15 else if(1<=r.seats/\r.seats<=9/\1<=r.span/\r.span<=1000000/\0<=r.quota/\r.quota<=64)then 0 else 40
theorem nh(r:Rl)(h0:big r.gen.length)(g:big r.pol.se.length)(h:big r.pol.ta.length):DN 24 [.agg (rl r)] (.int .i64 (c9 r)):=by refine ag_ func24 ntmps24 results24 ?_;generalize a:c9 r=m;simp only[go_sem];refine Qq (aky r.gen h0) [] ?_;cases a1:lk r.gen;{rw[c9,if_pos a1]at a;simp only[go_sem];exact a};rw[c9,if_neg F2]at a;simp only[go_sem];refine Qq (bca r.pol g h) [] ?_;cases a2:a6o r.pol;{rw[if_pos a2]at a;simp only[go_sem];exact a};rw[if_neg D5]at a;by_cases b:r.seats<1;{rw[if_neg Aa]at a;simp only[go_sem,b];exact a};by_cases c:9<r.seats;{rw[if_neg Aa]at a;simp only[go_sem,b,c];exact a};by_cases d:r.span<1;{rw[if_neg Aa]at a;simp only[go_sem,b,c,d];exact a};by_cases c4:1000000<r.span;{rw[if_neg Aa]at a;simp only[go_sem,b,c,d,c4];exact a};by_cases e:r.quota<0;{rw[if_neg Aa]at a;simp only[go_sem,b,c,d,c4,e];exact a};by_cases f:64<r.quota;{rw[if_neg Aa]at a;simp only[go_sem,b,c,d,c4,e,f];exact a};rw[if_pos Aa]at a;simp only[go_sem,b,c,d,c4,e,f];exact a
def io(l:LI)(p p1 p2 q q1 q2 q3 q4:Nat):Rl:=
 ⟨([0,1,2,3,4,5,6]:LI).take (2+am l q 5).toNat,
  ⟨if am l q4 3=2 then [0,1]else [0],
  [1+el ([4,8,2]:LI) (am l q1 3).toNat,if 1+el ([2,1,0]:LI) (am l q2 3).toNat<1+el ([4,8,2]:LI) (am l q1 3).toNat then 1+el ([2,1,0]:LI) (am l q2 3).toNat else 1+el ([4,8,2]:LI) (am l q1 3).toNat],
  el [1,1,2] (am l q3 3).toNat⟩,
  el [3,1,4,5,2] (am l p 5).toNat,el [10,20,5,1] (am l p1 4).toNat,el [1,2,0,5] (am l p2 4).toNat⟩
def dgo(l:LI)(p:Nat):Nat->Nat
 |0=>p
 |n+1=>dp l (dgo l p n)
theorem i7{p:Nat}(hp:p<=l.length): ∀n,dgo l p n<=l.length
 |0=>hp
 |n+1=>d8 (i7 hp n)
theorem fa(l:LI)(p n:Nat):dp l (dgo l p n)=dgo l p (n+1):=(rfl)
def pg(l:LI)(p:Nat):Rl:=io l p (dgo l p 1) (dgo l p 2) (dgo l p 3) (dgo l p 4) (dgo l p 5) (dgo l p 6) (dgo l p 7)
theorem axr(l:LI)(p b a q d e f g:Nat):c9 (io l p b a q d e f g)=0:=by
 have x:=d7 (l:=l) (p:=p) (n:=5) Aa;have z:=d7 (l:=l) (p:=b) (n:=4) Aa;have B:=d7 (l:=l) (p:=a) (n:=4) Aa;have A:=d7 (l:=l) (p:=q) (n:=5) Aa;have y:=d7 (l:=l) (p:=d) (n:=3) Aa;have D:=d7 (l:=l) (p:=e) (n:=3) Aa;have C:=d7 (l:=l) (p:=f) (n:=3) Aa;have w:=d7 (l:=l) (p:=g) (n:=3) Aa
 have u:lk (io l p b a q d e f g).gen=true:=by show lk (([0,1,2,3,4,5,6]:LI).take (2+am l q 5).toNat)=true;have:am l q 5=0\/am l q 5=1\/am l q 5=2\/am l q 5=3\/am l q 5=4:=Aa;rcases this with h|h|h|h|h<;>rw[h]<;>decide
 have v:a6o (io l p b a q d e f g).pol=true:=by show a6o ⟨if am l g 3=2 then [0,1]else [0],_,_⟩=true;have k:am l d 3=0\/am l d 3=1\/am l d 3=2:=Aa;have o:am l e 3=0\/am l e 3=1\/am l e 3=2:=Aa;have m:am l f 3=0\/am l f 3=1\/am l f 3=2:=Aa;by_cases c8:am l g 3=2;{rw[if_pos c8];rcases k with h|h|h<;>rcases o with i|i|i<;>rcases m with c|c|c<;>rw[h,i,c]<;>decide};.rw[if_neg c8];rcases k with h|h|h<;>rcases o with i|i|i<;>rcases m with c|c|c<;>rw[h,i,c]<;>decide
 have t:1<=(io l p b a q d e f g).seats/\(io l p b a q d e f g).seats<=9/\1<=(io l p b a q d e f g).span/\(io l p b a q d e f g).span<=1000000/\0<=(io l p b a q d e f g).quota/\(io l p b a q d e f g).quota<=64:=by show 1<=el [3,1,4,5,2] (am l p 5).toNat/\el [3,1,4,5,2] (am l p 5).toNat<=9/\1<=el [10,20,5,1] (am l b 4).toNat/\el [10,20,5,1] (am l b 4).toNat<=1000000/\0<=el [1,2,0,5] (am l a 4).toNat/\el [1,2,0,5] (am l a 4).toNat<=64;have s:am l p 5=0\/am l p 5=1\/am l p 5=2\/am l p 5=3\/am l p 5=4:=Aa;have j:am l b 4=0\/am l b 4=1\/am l b 4=2\/am l b 4=3:=Aa;have r:am l a 4=0\/am l a 4=1\/am l a 4=2\/am l a 4=3:=Aa;refine⟨?_,?_,?_,?_,?_,?_⟩;{rcases s with h|h|h|h|h<;>rw[h]<;>decide};{rcases s with h|h|h|h|h<;>rw[h]<;>decide};{rcases j with h|h|h|h<;>rw[h]<;>decide};{rcases j with h|h|h|h<;>rw[h]<;>decide};{rcases r with h|h|h|h<;>rw[h]<;>decide};.rcases r with h|h|h|h<;>rw[h]<;>decide
 rw[c9,if_neg (by simp[u]),if_neg (by simp[v]),if_pos t]
theorem adw(l:LI)(p:Nat):c9 (pg l p)=0:=axr _ _ _ _ _ _ _ _ _
theorem bp1{b:Int}(h0:a<=0/\0<=b)(h: ∀x∈l,a<=x/\x<=b)(i:Nat):a<=el l i/\el l i<=b:=by by_cases c:i<l.length;{exact h _ (i9 c)};.have:el l i=0:=(by simp[el,bd,b2o (by omega:l.length<=i)]);rw[this];exact h0
theorem ax3(l:LI)(p:Nat)(d:big l.length)(c:p<=l.length):Den prog 45 [.ptr 1000000 0] [qf l p] (.agg (rl (pg l p))) [] [qf l (dgo l p 8)]:=by refine ah_ [] [1000000] func45 ntmps45 results45 ?_;have r:=i7 c 1;have s:=i7 c 2;have q:=i7 c 3;have o:=i7 c 4;have i:=i7 c 5;have j:=i7 c 6;have g:=i7 c 7;generalize f:pg l p=m;have f:io l p (dgo l p 1) (dgo l p 2) (dgo l p 3) (dgo l p 4) (dgo l p 5) (dgo l p 6) (dgo l p 7)=m:=f;have w:dp l p=dgo l p 1:=rfl;simp only[go_sem];refine Qq (ze l p [3,1,4,5,2] d c Ad Ap) [1000000] ?_;simp only[go_sem,w];refine Qq (ze l (dgo l p 1) [10,20,5,1] d r Ad Ap) [1000000] ?_;simp only[go_sem,fa];refine Qq (ze l (dgo l p 2) [1,2,0,5] d s Ad Ap) [1000000] ?_;simp only[go_sem,fa];refine Qq (bh l (dgo l p 3) 5 d q Aa) [1000000] ?_;have x:=d7 (l:=l) (p:=dgo l p 3) (n:=5) Aa;have v:IntKind.i64.wrap (2+am l (dgo l p 3) 5)=2+am l (dgo l p 3) 5:=Ab;simp only[go_sem,v,fa];refine⟨Aa,?_⟩;refine Qq (ze l (dgo l p 4) [4,8,2] d o Ad Ap) [1000000] ?_;simp only[go_sem,fa];refine Qq (ze l (dgo l p 5) [2,1,0] d i Ad Ap) [1000000] ?_;simp only[go_sem,fa];refine Qq (ze l (dgo l p 6) [1,1,2] d j Ad Ap) [1000000] ?_;simp only[go_sem,fa];refine Qq (ya l (dgo l p 7) 3 d g Aa Aa) [1000000] ?_;have t:IntKind.i64.wrap (1+el [4,8,2] (am l (dgo l p 4) 3).toNat)=1+el [4,8,2] (am l (dgo l p 4) 3).toNat:=(by have:=bp1 (l:=[4,8,2]) (a:=0) (b:=8) Aa Ad (am l (dgo l p 4) 3).toNat;rw[ah]<;>omega);have u:IntKind.i64.wrap (1+el [2,1,0] (am l (dgo l p 5) 3).toNat)=1+el [2,1,0] (am l (dgo l p 5) 3).toNat:=(by have:=bp1 (l:=[2,1,0]) (a:=0) (b:=8) Aa Ad (am l (dgo l p 5) 3).toNat;rw[ah]<;>omega);have e: ∀k:Nat,List.take k [[PV.int IntKind.i64 0],[PV.int IntKind.i64 1],[PV.int IntKind.i64 2],[PV.int IntKind.i64 3],[PV.int IntKind.i64 4],[PV.int IntKind.i64 5],[PV.int IntKind.i64 6]]=List.map i1 (([0,1,2,3,4,5,6]:LI).take k):=λk=>(by rw[b3j];rfl);cases h:decide (am l (dgo l p 7) 3=3 - 1);{have hc: ¬am l (dgo l p 7) 3=2:=b1a h;simp only[go_sem,fa,t,u];refine⟨ok_,Ar,?_⟩;subst f;refine⟨e _,?_,?_,rfl,rfl,rfl,rfl⟩;{simp only[io,if_neg hc];rfl};.by_cases hx:(1:Int)+el ([2,1,0]:LI) (am l (dgo l p 5) 3).toNat<1+el ([4,8,2]:LI) (am l (dgo l p 4) 3).toNat;{simp only[io,if_pos hx,b07,b0o,a21]};.simp only[io,if_neg hx,b07,b0o,a21]};.have hc:am l (dgo l p 7) 3=2:=b0g h;simp only[go_sem,fa,t,u];refine⟨ok_,Ar,?_⟩;subst f;refine⟨e _,?_,?_,rfl,rfl,rfl,rfl⟩;{simp only[io,if_pos hc];rfl};.by_cases hx:(1:Int)+el ([2,1,0]:LI) (am l (dgo l p 5) 3).toNat<1+el ([4,8,2]:LI) (am l (dgo l p 4) 3).toNat;{simp only[io,if_pos hx,b07,b0o,a21]};.simp only[io,if_neg hx,b07,b0o,a21]
def bo9(l:LI)(p:Nat):LB:=[bAt (am l p 4) 0]++(List.replicate 30 0++[bAt (am l (dgo l p 1) 256) 0])
theorem a99(l:LI)(p:Nat):(bo9 l p).length=32:=rfl
theorem av6(l:LI)(p:Nat)(b:big l.length)(c:p<=l.length):Den prog 51 [.ptr 1000000 0] [qf l p] (.str (bo9 l p)) [] [qf l (dgo l p 2)]:=by refine ah_ [] [1000000] func51 ntmps51 results51 ?_;have a:=i7 c 1;have d:dp l p=dgo l p 1:=rfl;simp only[go_sem];refine Qq (bh l p 4 b c Aa) [1000000] ?_;simp only[go_sem,d];refine Qq (bh l (dgo l p 1) 256 b a Aa) [1000000] ?_;simp only[go_sem,fa,a84];exact⟨⟨rfl,by show(31:Int)<32;omega⟩,rfl,rfl,bo9 l p,rfl,rfl⟩
theorem tb(a:LB)(v:Int)(g:small a.length):Den prog 63 [.os 1000000 a.length,.int .i64 v] [.arr 5 1 false (a.map u8)] (.os 1000000 (a++be8 v).length) [] [.arr 5 1 false ((a++be8 v).map u8)]:=by refine ah_ [] [1000000] func63 ntmps63 results63 ?_;simp only[go_sem];refine lo_ 0 (λm:Nat=>[(5,.int .u64 (IntKind.u64.wrap v)),(0,.os 1000000 (a++(be8 v).take m).length),(6,.int .i64 (7 - (m:Int)))]) (λm=>[(1000000,.arr 5 1 false ((a++(be8 v).take m).map u8))]) (λm=>m<=8) (λm=>8 - m) ?_ ?_ ?_;{simp};{simp only[go_sem,b2d,b00]};.intro m hm;have c:((be8 v).take m).length=m:=Cu;by_cases h:m<8;{have e1:IntKind.u64.wrap (IntKind.i64.wrap (8*(7 - (m:Int))))=((56 - 8*m:Nat):Int):=Bu;have e:(be8 v).take (m+1)=(be8 v).take m++[bAt v (56 - 8*m)]:=(by have:m=0\/m=1\/m=2\/m=3\/m=4\/m=5\/m=6\/m=7:=Aa;rcases this with rfl|rfl|rfl|rfl|rfl|rfl|rfl|rfl<;>rfl);have f:min (56 - 8*m) 64=56 - 8*m:=Aa;have b:(0:Int)<=7 - (m:Int):=Aa;simp only[go_sem,b,e1,f,ahv v (56 - 8*m) Aa,c];(repeat refine an_ ?_);refine⟨m+1,Aa,?_⟩;rw[e];simp only[go_sem,b0d,b0m,c];rw[ah]<;>omega};.have hm2:m=8:=Aa;subst hm2;have d:(be8 v).take 8=be8 v:=rfl;have b: ¬(0:Int)<=7 - ((8:Nat):Int):=Aa;rw[d];simp only[go_sem,b]
def lsB(l:LI):LB:=be8 l.length++beL l
theorem jw(l:LI):(lsB l).length=8*l.length+8:=by simp only[lsB,b0a,ax,d5];omega
theorem s8(a:LB)(l:LI)(d:a.length<=1000000000)(c:l.length<=1000000000):Den prog 60 [.os 1000000 a.length,.vs (l.map i1)] [.arr 5 1 false (a.map u8)] (.os 1000000 (a++lsB l).length) [] [.arr 5 1 false ((a++lsB l).map u8)]:=by refine ah_ [] [1000000] func60 ntmps60 results60 ?_;simp only[go_sem];refine Qq (tb a l.length At) [1000000] ?_;simp only[go_sem];refine⟨Aa,?_⟩;refine lo_ 0 (λi:Nat=>[(1,.vs (l.map i1)),(0,.os 1000000 (a++(be8 l.length++beL (l.take i))).length),(5,.int .i64 i)]) (λi=>[(1000000,.arr 5 1 false ((a++(be8 l.length++beL (l.take i))).map u8))]) (λi=>i<=l.length) (λi=>l.length - i) ?_ ?_ ?_;{simp};{simp only[go_sem,b2d,beL,b17,b00]};.intro i hi;have b:(l.take i).length=i:=Ag;simp only[go_sem];refine⟨λh=>⟨Aa,Qq (tb (a++(be8 l.length++beL (l.take i))) (el l i) Cy) [1000000] ?_⟩,λh=> ?_⟩;{simp only[go_sem];refine⟨Aa,i+1,Aa,?_⟩;rw[bt h,l9];simp only[go_sem,b0d,b0m,beL,b2m,b17];refine⟨Aa,?_⟩;rw[ah]<;>omega};.have:i=l.length:=Aa;subst this;simp only[go_sem,b0n,lsB]
def b0(r:Rl):LB:=(((([116,114,117,115,116,102,108,111,119]:LB)++lsB r.gen)++lsB r.pol.se)++lsB r.pol.ta)++lsB [r.pol.lv,r.seats,r.span,r.quota]
def atl(r:Rl):LB:=sha (b0 r)
theorem azg(h:c9 r=0):lk r.gen=true/\a6o r.pol=true/\(1<=r.seats/\r.seats<=9/\1<=r.span/\r.span<=1000000/\0<=r.quota/\r.quota<=64):=by unfold c9 at h;split at h;{omega};split at h;{omega};split at h;{rename_i a b c;exact⟨A6,A0,c⟩};.omega
theorem ann(r:Rl)(b:c9 r=0)(h0:r.gen.length<=1000000)(c:r.pol.se.length<=1000000)(d:r.pol.ta.length<=1000000):DN 25 [.agg (rl r)] (.tup [.str (atl r),.int .i64 0]):=by refine ag_ func25 ntmps25 results25 ?_;have a:=nh r Af Af Af;rw[b,fc]at a;simp only[go_sem];refine Qq a [] ?_;simp only[go_sem];refine Qq (s8 [116,114,117,115,116,102,108,111,119] r.gen Ad Aa) [11] ?_;simp only[go_sem];refine Qq (s8 ([116,114,117,115,116,102,108,111,119]++lsB r.gen) r.pol.se C7 Aa) [11] ?_;simp only[go_sem];refine⟨Aa,Qq (s8 (([116,114,117,115,116,102,108,111,119]++lsB r.gen)++lsB r.pol.se) r.pol.ta C7 Aa) [11] ?_⟩;simp only[go_sem];refine⟨Aa,Qq (s8 ((([116,114,117,115,116,102,108,111,119]++lsB r.gen)++lsB r.pol.se)++lsB r.pol.ta) [r.pol.lv,r.seats,r.span,r.quota] C7 Ad) [11] ?_⟩;simp only[go_sem];refine⟨Aa,Qq (ag6 (b0 r) E9) [] ?_⟩;simp only[go_sem];refine⟨?_,rfl⟩;simp only[b0,b0d,b0m];rfl
def anp(s:LB):Int:=bits .or .i64 (bits .or .i64 (bits .or .i64 (IntKind.i64.wrap (IntKind.i64.wrap ((s.getD 0 0).toNat:Int)*2^min 24 64)) (IntKind.i64.wrap (IntKind.i64.wrap ((s.getD 1 0).toNat:Int)*2^min 16 64))) (IntKind.i64.wrap (IntKind.i64.wrap ((s.getD 2 0).toNat:Int)*2^min 8 64))) (IntKind.i64.wrap ((s.getD 3 0).toNat:Int))
def bc0(v:LB)(tag:LI)(i:Nat):Int:=anp (sha ((v++lsB tag)++be8 i))
def yf(v:LB)(tag:LI):Nat->LI
 |0=>[]
 |n+1=>yf v tag n++[bc0 v tag n]
theorem nj(v:LB)(tag:LI): ∀n,(yf v tag n).length=n
 |0=>rfl
 |n+1=>by simp[yf,nj v tag n]
theorem xw(b:LB):(sha b).length=32:=by rw[sha,ait,au6]
theorem adu(v:LB)(a:LI)(n:Nat)(hv:v.length=32)(m:a.length<=64)(k:n<=64):DN 100 [.str v,.vs (a.map i1),.int .i64 n] (.tup [.vs ((yf v a n).map i1),.int .i64 0]):=by refine ag_ func100 ntmps100 results100 ?_;have j:(v.length:Int)=32:=Aa;have g: ¬(64:Int)<(a.length:Int):=Aa;have f: ¬(n:Int)<0:=Aa;have c: ¬(64:Int)<(n:Int):=Aa;simp only[go_sem,j,g,f,c];refine bm 8 99 3 1 false ?_ ?_ ?_ Aa;{refine lo_ 0 (λi:Nat=>[(0,.str v),(1,.vs (a.map i1)),(2,.int .i64 n),(8,.os 99 (yf v a i).length),(9,.int .i64 i)]) (λi=>[(99,.arr 3 1 false ((yf v a i).map i1))]) (λi=>i<=n) (λi=>n - i) ?_ ?_ ?_;{simp};{simp only[go_sem,yf,b0o,b0r]};.intro i hi;have d:=nj v a i;by_cases h:i<n;{have hlt:(i:Int)<(n:Int):=Aa;simp only[go_sem,hlt];refine⟨Aa,Qq (s8 v a Aa Aa) [28] ?_⟩;simp only[go_sem];refine⟨Aa,Qq (tb (v++lsB a) i (by simp only[small,b0a,jw];omega)) [28] ?_⟩;simp only[go_sem];refine⟨Aa,Qq (ag6 ((v++lsB a)++be8 i) Dz) [] ?_⟩;have hs:=xw ((v++lsB a)++be8 i);have b:bc0 v a i=anp (sha ((v++lsB a)++be8 i)):=rfl;generalize l:sha ((v++lsB a)++be8 i)=S at*;simp only[go_sem,hs];(repeat refine an_ ?_);refine⟨i+1,Aa,?_⟩;rw[yf,b,anp];simp only[go_sem,b0d];rw[ah]<;>omega};.have hm2:i=n:=Aa;subst hm2;have e: ¬(i:Int)<(i:Int):=Aa;simp only[go_sem,e]};{simp only[go_sem]};.simp only[go_sem]
theorem vi(a b:LI)(h:big a.length)(g:big b.length):DN 93 [.vs (a.map i1),.vs (b.map i1)] (.vs ((bj (λk=>decide (k∈a)&& !decide (k∈b)) 64).map i1)):=by refine ag_ func93 ntmps93 results93 ?_;simp only[go_sem];generalize l:(λk=>decide (k∈a)&& !decide (k∈b))=c;have f: ∀k,c k=(decide (k∈a)&& !decide (k∈b)):=λk=>(by rw[<-l]);refine bm 5 99 3 1 false ?_ ?_ ?_ Aa;{simp only[go_sem];refine lo_ 0 (λi:Nat=>[(0,.vs (a.map i1)),(1,.vs (b.map i1)),(5,.os 99 (bj c i).length),(6,.int .i64 i)]) (λi=>[(99,.arr 3 1 false ((bj c i).map i1))]) (λi=>i<=64) (λi=>64 - i) ?_ ?_ ?_;{simp};{simp only[bj,b58,b0o,b2t];simp only[go_sem]};.intro i hi;have o:=du c i;have hs:=jg c i;rw[f]at hs;have fin: ∀t:Bool,(decide ((i:Int)∈a)&& !decide ((i:Int)∈b))=t->bj c (i+1)=bj c i++(if t then [(i:Int)]else []):=λt n=>(by rw[hs,n]);by_cases j:i<64;{have hlt:(i:Int)<64:=Aa;simp only[go_sem,hlt];refine Qq (pz a i h) [] ?_;by_cases d:(i:Int)∈a;{simp only[go_sem,d];refine Qq (pz b i g) [] ?_;by_cases e:(i:Int)∈b;{have:=fin false D4;simp only[go_sem,e];refine⟨i+1,Aa,?_⟩;simp only[go_sem,this,b0d,b0a];rw[ah]<;>omega};.have:=fin true (by simp[d,e]);simp only[go_sem,e];refine⟨Aa,i+1,Aa,?_⟩;simp only[go_sem,this,b0d,b0a];rw[ah]<;>omega};.have:=fin false Bi;simp only[go_sem,d];refine⟨i+1,Aa,?_⟩;simp only[go_sem,this,b0d,b0a];rw[ah]<;>omega};.have:i=64:=Aa;have m: ¬((i:Int)<64):=Aa;simp only[go_sem,m];subst this;rfl};{simp only[go_sem]};.simp only[go_sem]
theorem acb(a b:Nat)(f:a<9223372036854775808)(e:b<9223372036854775808):bits .or .i64 (a:Int) (b:Int)=((a|||b:Nat):Int):=by have hx:a|||b<2^63:=b6o Aa Aa;have c:(BitVec.ofInt 64 (a:Int)).toNat=a:=(by rw[b40,b5c];exact b3y Aa);have d:(BitVec.ofInt 64 (b:Int)).toNat=b:=(by rw[b40,b5c];exact b3y Aa);show IntKind.i64.wrap ((BitVec.ofInt 64 (a:Int)|||BitVec.ofInt 64 (b:Int)).toNat:Int)=_;rw[BitVec.toNat_or,c,d,b6x];omega
theorem bfr(s:LB):0<=anp s:=by
 have a: ∀k,(s.getD k 0).toNat<256:=λk=>(s.getD k 0).toNat_lt;have w: ∀k,IntKind.i64.wrap ((s.getD k 0).toNat:Int)=((s.getD k 0).toNat:Int):=λk=>ah Aa (by have:=a k;omega);unfold anp;rw[w,w,w,w];have b0:=a 0;have g:=a 1;have f:=a 2;have h:=a 3;generalize (s.getD 0 0).toNat=x0 at*;generalize (s.getD 1 0).toNat=x1 at*;generalize (s.getD 2 0).toNat=x2 at*;generalize (s.getD 3 0).toNat=x3 at*
 have c:IntKind.i64.wrap ((x0:Int)*2^min 24 64)=((x0*16777216:Nat):Int):=by have:(2:Int)^min 24 64=16777216:=Al;rw[this,ah]<;>omega
 have b:IntKind.i64.wrap ((x1:Int)*2^min 16 64)=((x1*65536:Nat):Int):=by have:(2:Int)^min 16 64=65536:=Al;rw[this,ah]<;>omega
 have d:IntKind.i64.wrap ((x2:Int)*2^min 8 64)=((x2*256:Nat):Int):=by have:(2:Int)^min 8 64=256:=Al;rw[this,ah]<;>omega
 rw[c,b,d,acb _ _ Aa Aa];have i:x0*16777216|||x1*65536<2^32:=b6o Aa Aa;rw[acb _ _ Aa Aa];have e:(x0*16777216|||x1*65536)|||x2*256<2^32:=b6o Aa Aa;rw[acb _ _ Aa Aa];omega
theorem bcl(v:LB)(a:LI)(i:Nat):0<=bc0 v a i:=bfr _
theorem ud(v:LB)(tag:LI): ∀n,∀x∈yf v tag n,0<=x
 |0,x,h=>by simp[yf]at h
 |n+1,x,h=>by
  rw[yf,b0j]at h;rcases h with h|h
  .exact ud v tag n x h
  .rw[b1h]at h;rw[h];exact bcl _ _ _
def rk(v s:Int):Bool:=decide (1<=s/\s<=9/\0<=v/\v<=s/\3*s<4*v)
theorem axm(v s:Int):DN 166 [.int .i64 v,.int .i64 s] (.bool (rk v s)):=by refine ag_ func166 ntmps166 results166 ?_;by_cases a:1<=s;{by_cases h2:s<=9;{by_cases h3:0<=v;{by_cases h4:v<=s;{have e1:IntKind.i64.wrap (4*v)=4*v:=Ab;have b:IntKind.i64.wrap (3*s)=3*s:=Ab;simp only[go_sem,a,h2,h3,h4,e1,b];simp[rk,a,h2,h3,h4]};.have:rk v s=false:=b0b Aa;simp only[go_sem,a,h2,h3,h4,this]};.have:rk v s=false:=b0b Aa;simp only[go_sem,a,h2,h3,this]};.have:rk v s=false:=b0b Aa;simp only[go_sem,a,h2,this]};.have:rk v s=false:=b0b Aa;simp only[go_sem,a,this]
theorem elg(h:i<l.length):el l i=l[i]:=by simp only[el,bd,bq h,b1o]
theorem bix(c:l.Pairwise (· < ·))(d: ∀x∈l,0<=x/\x<n):pq l n=true:=
 m7 λi a=>b0h (by
  have b:=d _ (i9 a);refine⟨b.1,b.2,λh0=> ?_⟩;have:=b1i.1 c (i - 1) i Aa a Aa
  rwa [elg Aa,elg a])
theorem bka(h:pq l n=true):l.Pairwise (· < ·)/\∀x∈l,0<=x/\x<n:=by have c: ∀i,i<l.length->kv n l i=true:=b0g h;have b: ∀i,i<l.length->(0<=el l i/\el l i<n/\(0<i->el l (i - 1)<el l i)):=λi a=>b0g (c i a);refine⟨b1i.2 ?_,λx hx=> ?_⟩;{have key: ∀d i,i+(d+1)<l.length->el l i<el l (i+(d+1)):=(by intro d;induction d with|zero=>intro i a;exact(b (i+1) a).2.2 Aa|succ d ih=>intro i a;have f:=ih i Aa;have g:=(b (i+(d+1+1)) a).2.2 Aa;exact Int.lt_trans f g);intro i j a m k;have:=key (j - i - 1) i Aa;rw[elg a]at this;have e:i+(j - i - 1+1)=j:=Aa;rw[e,elg m]at this;exact this};.obtain⟨i,a,rfl⟩:=acv hx;exact⟨(b i a).1,(b i a).2.1⟩
theorem a3l(b:l.Pairwise (· < ·))(a: ∀x∈l,0<=x/\x<64)(h0:l≠[])(c:l.length<=64):lk l=true:=by
 have:0<l.length:=by cases l with|nil=>exact absurd rfl h0|cons=>simp
 rw[lk,b0h Aa,bix b a];rfl
theorem ky(h:lk l=true):l.Pairwise (· < ·)/\(∀x∈l,0<=x/\x<64)/\l≠[]/\l.length<=64:=by rw[lk,b0l]at h;have a:=b0g h.1;have b:=bka h.2;exact⟨b.1,b.2,λe=>by rw[e]at a;simp at a,a.2⟩
theorem ah5(c:Int->Bool)(n:Nat):(bj c n).Pairwise (· < ·):=by unfold bj;refine b7n _ ?_;rw[b4f];exact b5k.imp λh=>Aa
theorem wz{c:Int->Bool}(h:bj c 64≠[]):lk (bj c 64)=true:=
 a3l (ah5 c 64) (λx hx=>by have:=(w9.1 hx).1;omega) h (du c 64)
def db(l nu:LI):Nat->LI×LI
 |0=>([],l)
 |i+1=>
  ((db l nu i).1++[el (db l nu i).2 ((el nu i).tmod (db l nu i).2.length).toNat],
   (db l nu i).2.take ((el nu i).tmod (db l nu i).2.length).toNat++(db l nu i).2.drop (((el nu i).tmod (db l nu i).2.length).toNat+1))
theorem ais{n:Nat}(b:0<=a)(c:0<n):0<=a.tmod n/\a.tmod n<n:=⟨Int.tmod_nonneg _ b,b71 _ Aa⟩
theorem wx{l:LI}(a: ∀x∈nu,0<=x): ∀i,i<=l.length->(db l nu i).1.length=i/\(db l nu i).2.length=l.length - i
 |0,_=>⟨rfl,rfl⟩
 |i+1,hi=>by
  have ih:=wx (l:=l) a i Aa
  have h0:0<=el nu i:=by
   by_cases h:i<nu.length
   .exact a _ (i9 h)
   .have:el nu i=0:=E3
    omega
  have b:=ais (n:=(db l nu i).2.length) h0 Aa;simp only[db,b0a,b0q,b0r,b0i,b1b];omega
theorem aej{l:LI}(a: ∀x∈nu,0<=x): ∀i,i<=l.length->List.Perm ((db l nu i).1++(db l nu i).2) l
 |0,_=>by simp[db]
 |i+1,hi=>by
  have ih:=aej (l:=l) a i Aa;have hl:=wx (l:=l) a i Aa
  have h0:0<=el nu i:=by
   by_cases h:i<nu.length
   .exact a _ (i9 h)
   .have:el nu i=0:=E3
    omega
  have e:=ais (n:=(db l nu i).2.length) h0 Aa;refine List.Perm.trans ?_ ih;simp only[db];generalize d:((el nu i).tmod (db l nu i).2.length).toNat=k;generalize (db l nu i).1=o at*;generalize (db l nu i).2=f at*;have b:k<f.length:=Aa
  rw[b0m];refine List.Perm.append_left o ?_
  have c:f=f.take k++(el f k::f.drop (k+1)):=by
   have:=bt b
   conv=>lhs;rw[<-b3u (k+1) f]
   rw[this];simp
  (conv=>rhs;rw[c])
  rw[b7e];exact List.perm_middle.symm
theorem a9x(a: ∀x∈nu,0<=x)(hi:i<=l.length)(hx:x∈(db l nu i).1):x∈l:=
 (aej a i hi).mem_iff.1 (b4c _ hx)
theorem axg(a: ∀x∈nu,0<=x)(hi:i<=l.length)(b:l.Nodup):(db l nu i).1.Nodup:=
 (b6p.1 ((aej a i hi).nodup_iff.2 b)).1
theorem aub(l nu:LI)(s:Int)(g:lk l=true)(E:1<=s)(I:s<=9)(hs:9<=nu.length)(q:big nu.length)(p: ∀x∈nu,0<=x):DN 101 [.vs (l.map i1),.vs (nu.map i1),.int .i64 s] (.tup [.vs ((db l nu (min s.toNat l.length)).1.map i1),.int .i64 0]):=by refine ag_ func101 ntmps101 results101 ?_;obtain⟨_,_,t,e⟩:=ky g;simp only[go_sem];refine Qq (aky l Af) [] ?_;rw[g];have C: ¬s<1:=Aa;have A: ¬9<s:=Aa;generalize F:min s.toNat l.length=m;have B:(if(l.length:Int)<s then(l.length:Int)else s)=(m:Int):=(by split<;>omega);have z: ¬(nu.length:Int)<(m:Int):=Aa;simp only[go_sem,B,C,A,z];refine⟨Aa,?_⟩;refine bm 10 99 3 1 false ?_ ?_ ?_ Aa;{refine lo_ 0 (λi:Nat=>[(1,.vs (nu.map i1)),(8,.int .i64 m),(9,.vs ((db l nu i).2.map i1)),(10,.os 99 (db l nu i).1.length),(11,.int .i64 i)]) (λi=>[(99,.arr 3 1 false ((db l nu i).1.map i1))]) (λi=>i<=m) (λi=>m - i) ?_ ?_ ?_;{simp};{simp only[go_sem,db,b0o,b0r]};.intro i hi;obtain⟨w,D⟩:=wx (l:=l) p i Aa;by_cases h:i<m;{have hlt:(i:Int)<(m:Int):=Aa;have c:i<nu.length:=Aa;have h0:0<=el nu i:=p _ (i9 c);have u: ¬el nu i<0:=Aa;have a:(db l nu (i+1)).1=(db l nu i).1++[el (db l nu i).2 ((el nu i).tmod (db l nu i).2.length).toNat]:=rfl;have b:(db l nu (i+1)).2=(db l nu i).2.take ((el nu i).tmod (db l nu i).2.length).toNat++(db l nu i).2.drop (((el nu i).tmod (db l nu i).2.length).toNat+1):=rfl;have r:=ais (n:=(db l nu i).2.length) h0 Aa;generalize (db l nu i).1=o at*;generalize (db l nu i).2=f at*;obtain⟨k,j⟩: ∃k:Nat,(el nu i).tmod f.length=(k:Int):=⟨((el nu i).tmod f.length).toNat,Aa⟩;rw[j]at r a b;have v:=wq_ k;have d: ¬(f.length:Int)=0:=Aa;simp only[go_sem,hlt,c,u,j,d,v];have H:(List.take k f).length<=64:=Ak;have G:(List.drop (k+1) (List.take f.length f)).length<=64:=(by rw[b1b,b0i];omega);refine⟨Aa,Aa,Aa,Aa,Aa,Aa,ok_,i+1,Aa,⟨?_,?_,?_⟩,?_⟩;{rw[b,b0d,b0n];rfl};{rw[a,b0a];rfl};{rw[ah]<;>omega};.rw[a,b0d];rfl};.have hm2:i=m:=Aa;subst hm2;have y: ¬(i:Int)<(i:Int):=Aa;simp only[go_sem,y]};{simp only[go_sem]};.simp only[go_sem]
def ff(l prev:LI):LI:=bj (λk=>decide (k∈l)&& !decide (k∈prev)) 64
def ab0(c:Cs)(j:Int):LI:=[c.ep,c.kd,c.su,j]
def s5(r:Rl)(v:LB)(l:LI)(c:Cs)(j:Int)(prev:LI):LI:=
 (db (ff l prev) (yf v (ab0 c j) 9) (min r.seats.toNat (ff l prev).length)).1
def ofR(r:Rl)(v:LB)(l:LI)(c:Cs):LI×Int:=
 if c9 r≠0 then([],c9 r)else if lk l=false then([],43)else if gg c=false then([],41)
 else if c.ro=0 then(s5 r v l c 0 [],0)
 else if ff l (s5 r v l c 0 [])=[]then([],44)
 else(s5 r v l c 1 (s5 r v l c 0 []),0)
theorem vy:x∈ff l prev↔(0<=x/\x<64)/\x∈l/\x∉prev:=by rw[ff,w9];simp
theorem ac0(h:lk l=true):ff l []≠[]:=by obtain⟨_,c,b,_⟩:=ky h;cases l with|nil=>exact absurd rfl b|cons a t=>have:a∈ff (a::t) []:=vy.2 ⟨c a Ad,Ad,Ad⟩;intro e;rw[e]at this;simp at this
theorem acp(l prev:LI):(ff l prev).length<=64:=du _ 64
theorem abb:(s5 r v l c j prev).length=min r.seats.toNat (ff l prev).length:=
 (wx (l:=ff l prev) (ud _ _ 9) _ Aa).1
theorem aug(h:x∈s5 r v l c j prev):x∈ff l prev:=
 a9x (ud _ _ 9) Aa h
theorem af4:(s5 r v l c j prev).Nodup:=
 axg (ud _ _ 9) Aa ((ah5 _ _).imp λh=>Aa)
theorem agq(r:Rl)(v:LB)(l:LI)(c:Cs):ofR r v l c=(if c9 r≠0 then([],c9 r)else if lk l=false then([],43)else if gg c=false then([],41)
 else if c.ro=0 then(s5 r v l c 0 [],0)
 else if ff l (s5 r v l c 0 [])=[]then([],44)
 else(s5 r v l c 1 (s5 r v l c 0 []),0)):=rfl
theorem bl2(r:Rl)(v:LB)(l:LI)(c:Cs)(h0:big r.gen.length)(F:big r.pol.se.length)(G:big r.pol.ta.length)(z:big l.length)(hv:lk l=true->v.length=32):DN 49 [.agg (rl r),.str v,.vs (l.map i1),.agg (cs c)] (.tup [.vs ((ofR r v l c).1.map i1),.int .i64 (ofR r v l c).2]):=by refine ag_ func49 ntmps49 results49 ?_;have d:=agq r v l c;generalize K:ofR r v l c=m at*;have E:=nh r h0 F G;rw[fc]at E;simp only[go_sem];refine Qq E [] ?_;by_cases p:c9 r=0;rotate_left;{rw[if_pos p]at d;subst d;simp only[go_sem,p,b0o]};rw[if_neg (by simpa using p)]at d;simp only[go_sem,p];refine Qq (aky l z) [] ?_;cases a2:lk l;{rw[if_pos a2]at d;subst d;simp only[go_sem,b0o]};rw[if_neg D5]at d;have C:=ni c;rw[dh]at C;simp only[go_sem];refine Qq C [] ?_;cases a3:gg c;{rw[if_pos a3]at d;subst d;simp only[go_sem,b0o]};rw[if_neg (by simp[a3])]at d;have J:=b0g a3;obtain⟨_,_,b,B⟩:=ky a2;have hv:=hv a2;have L:=(azg p).2.2;simp only[go_sem];(refine lo_ 0 (λi:Nat=>[(1,.str v),(2,.vs (l.map i1)),(4,.ptr 4 0),(7,.ptr 7 0),(11,.vs ((match i with|0=>[]|1=>s5 r v l c 0 []|_=>s5 r v l c 1 (s5 r v l c 0 [])).map i1)),(12,.int .i64 i)]) (λi=>[(4,.cells (rl r)),(7,.cells (cs c))]) (λi=>(i=0\/i=1\/(i=2/\c.ro=1/\ff l (s5 r v l c 0 [])≠[]))) (λi=>2 - i) ?_ ?_ ?_);{simp};{simp only[go_sem,b0o]};.rintro i hi;by_cases D:i=0;{subst D;have e:(0:Int)<=c.ro:=Aa;simp only[go_sem,e];refine Qq (adu v (ab0 c 0) 9 hv (by simp[ab0]) Aa) [] ?_;simp only[go_sem];refine⟨rfl,Qq (vi l [] z Ap) [] ?_⟩;have x:bj (λk=>decide (k∈l)&& !decide (k∈([]:LI))) 64=ff l []:=rfl;rw[x];have b:=ac0 a2;have o:lk (ff l [])=true:=wz b;have y:0<(ff l []).length:=(by cases h:ff l []with|nil=>exact absurd h b|cons=>simp);have n:(s5 r v l c 0 [])=(db (ff l []) (yf v (ab0 c 0) 9) (min r.seats.toNat (ff l []).length)).1:=rfl;have u:=nj v (ab0 c 0) 9;have g:=ud v (ab0 c 0) 9;generalize w:ff l []=W at*;generalize yf v (ab0 c 0) 9=N at*;have q: ¬(W.length:Int)=0:=Aa;simp only[go_sem,q];refine Qq (aub W N r.seats o Aa Aa Aa Af g) [] ?_;rw[<-n];simp only[go_sem];exact⟨1,⟨Ad,Aa⟩,rfl,Ab⟩};by_cases s:i=1;{subst s;have H:=abb (r:=r) (v:=v) (l:=l) (c:=c) (j:=0) (prev:=[]);have I:=acp l [];generalize M:s5 r v l c 0 []=a at*;by_cases f:c.ro=0;{have e: ¬(1:Int)<=c.ro:=Aa;rw[if_pos f]at d;subst d;simp only[go_sem,e]};rw[if_neg f]at d;have e:(1:Int)<=c.ro:=Aa;simp only[go_sem,e];refine Qq (adu v (ab0 c 1) 9 hv (by simp[ab0]) Aa) [] ?_;simp only[go_sem];refine⟨rfl,Qq (vi l a z Af) [] ?_⟩;have x:bj (λk=>decide (k∈l)&& !decide (k∈(a:LI))) 64=ff l a:=rfl;rw[x];by_cases b:ff l a=[];{rw[if_pos b]at d;subst d;have q:((ff l a).length:Int)=0:=(by rw[b];rfl);simp only[go_sem,q,b0o];done};rw[if_neg b]at d;have t:=b;have o:lk (ff l a)=true:=wz b;have y:0<(ff l a).length:=(by cases h:ff l a with|nil=>exact absurd h b|cons=>simp);have n:(s5 r v l c 1 a)=(db (ff l a) (yf v (ab0 c 1) 9) (min r.seats.toNat (ff l a).length)).1:=rfl;have u:=nj v (ab0 c 1) 9;have g:=ud v (ab0 c 1) 9;generalize w:ff l a=W at*;generalize yf v (ab0 c 1) 9=N at*;have q: ¬(W.length:Int)=0:=Aa;simp only[go_sem,q];refine Qq (aub W N r.seats o Aa Aa Aa Af g) [] ?_;rw[<-n];simp only[go_sem];exact⟨2,⟨.inr (.inr ⟨rfl,Aa,t⟩),Aa⟩,rfl,Ab⟩};.have A:i=2/\c.ro=1/\ff l (s5 r v l c 0 [])≠[]:=(by rcases hi with h|h|h;{exact absurd h D};{exact absurd h s};.exact h);obtain⟨A,f,b⟩:=A;subst A;have e: ¬(2:Int)<=c.ro:=Aa;rw[if_neg Aa,if_neg b]at d;subst d;simp only[go_sem,e]
end Go.Proofs.Am
