/- HOne. -/
import Derived.Test.YtlaoaleoeknhoaaGreatDoorEOne
import Derived.RangeFuncNested
import Derived.RangeFuncBound
import Derived.RangeFuncCalls
import Derived.RangeFuncLeaves
import Derived.Shelf.Abstract
import Derived.Shelf.RegionOpen
import Derived.OwnWalkIn
import Derived.TacticsInMore
import Derived.LoopNIn
import Derived.LoopIn
import Derived.RangeFuncBox
import Derived.Maps.AppendAt
import Derived.Lib.SlKeysI
set_option linter.unusedSimpArgs false
set_option linter.unusedVariables false
set_option maxHeartbeats 2000000
set_option maxRecDepth 100000
namespace Go.Proofs.Am
open Go Go.RowKit
open Go.Proofs
variable {l s:LI}{k:Int}
def abe(k:Int):Bool:=decide (0<=k/\k<64)
theorem jz:abe k=true↔0<=k/\k<64:=by simp[abe]
def azn(l:LI)(s:List Bool):List Bool:=l.foldl (λs k=>if abe k=true then s.set k.toNat true else s) s
def a0d(l:LI)(i:Nat):List Bool:=azn (l.take i) (List.replicate 64 false)
def aot(l:LI):List Bool:=a0d l l.length
theorem aly{i:Nat}(h:i<l.length):a0d l (i+1)=if abe (el l i)=true then(a0d l i).set (el l i).toNat true else a0d l i:=by simp only[a0d,azn,bt h,b22,b2j,b5q]
theorem uw(l:LI): ∀i,i<=l.length->(a0d l i).length=64
 |0,_=>by simp[a0d,azn]
 |i+1,h=>by
  have ih:=uw l i Aa;rw[aly Aa];split
  .rw[b15,ih]
  .exact ih
theorem akf: ∀(l:LI) (s:List Bool) (n:Nat),s[n]? =some true->(azn l s)[n]? =some true
 |[],_,_,h=>h
 |k::l,s,n,h=>by
  have hn:n<s.length:=(dm.1 h).1;show(azn l (if abe k=true then s.set k.toNat true else s))[n]? =some true;refine akf l _ n ?_;split
  .rw[b2x];split
   .simp;omega
   .exact h
  .exact h
theorem as3: ∀(l:LI) (s:List Bool),s.length=64->∀k∈l,abe k=true->(azn l s)[k.toNat]? =some true
 |[],_,_,k,h,_=>by cases h
 |j::l,s,hs,k,h,hk=>by
  show(azn l (if abe j=true then s.set j.toNat true else s))[k.toNat]? =some true;rcases b0p.1 h with rfl|h
  .rw[if_pos hk];refine akf l _ _ ?_;have:=jz.1 hk;rw[List.getElem?_set_self Aa]
  .refine as3 l _ ?_ k h hk;split
   .rw[b15,hs]
   .exact hs
theorem bhc(h:k∈l)(b:abe k=true):aot l≠List.replicate 64 false:=λe=>by
 have a:=as3 (l.take l.length) (List.replicate 64 false) Ad k (by rwa [b0n]) b;have c:azn (l.take l.length) (List.replicate 64 false)=List.replicate 64 false:=e;rw[c,b5e]at a;split at a<;>cases a
def ub(l:LI)(i:Nat):Bool:=abe (el l i)&&(decide (i=0)||decide (el l (i - 1)<el l i))
def o5(l:LI):Bool:=xf (ub l) l.length&&decide (aot l≠List.replicate 64 false)
theorem a0u(h: ∀i,0<i->i<l.length->el l (i - 1)<el l i):asc l:=by have a: ∀j,j<l.length->∀i,i<j->el l i<el l j:=λj=>(by induction j with|zero=>intro _ i b;omega|succ j ih=>intro c i b;have e:=h (j+1) Aa c;rw[b1z]at e;rcases b1m.1 b with f|rfl;{have:=ih Aa i f;omega};.exact e);unfold asc;rw[b1i];intro i j b c d;have:=a j c i d;simpa [el,bd,b,c] using this
theorem yh:o5 l=true↔l≠[]/\(∀k∈l,abe k=true)/\asc l:=by unfold o5;rw[b0l,b01,xf,b01];constructor;{rintro⟨h1,h2⟩;refine⟨λe=>h2 Fl,λk b=> ?_,a0u λi h0 a=> ?_⟩;{obtain⟨i,a,rfl⟩:=ac7 b;have:=h1 i a;simp only[ub,b0l]at this;exact this.1};.have:=h1 i a;simp only[ub,b0l,b1v,b01]at this;rcases this.2 with h|h;{omega};.exact h};.rintro⟨h1,h2,h3⟩;refine⟨λi a=> ?_,?_⟩;{simp only[ub,b0l,b1v,b01];refine⟨h2 _ (cr a),?_⟩;rcases b2i i with h|h;{exact .inl h};.have:=b1i.1 h3 (i - 1) i Aa a Aa;exact .inr (by simpa [el,bd,a,show i - 1<l.length from Aa] using this)};.obtain⟨k,r,rfl⟩:=b3n h1;exact bhc (k:=k) Ad (h2 k Ad)
def ny(s:LI):Bool:=o5 (srt s)&&decide (s.length<=9)
theorem mn:ny s=true↔s≠[]/\(∀k∈s,abe k=true)/\s.Nodup/\s.length<=9:=by
 unfold ny;rw[b0l,b01,yh];have a:srt s≠[]↔s≠[]:=by rw[ne_eq,ne_eq,<-b5f,<-b5f,js]
 have b:(∀k∈srt s,abe k=true)↔∀k∈s,abe k=true:=by simp only[aq1]
 have c:asc (srt s)↔s.Nodup:=⟨λh=>(b2e _ _).nodup_iff.1 (h.imp λh=>Aa),bhd⟩;rw[a,b,c,b2s,b2s]
theorem a26:xf (ww s) s.length=true↔(∀k∈s,abe k=true)/\s.Nodup:=by rw[xf,b01];constructor;{intro h;refine⟨λk m=> ?_,?_⟩;{obtain⟨i,a,rfl⟩:=ac7 m;have:=b0g (h i a);exact jz.2 ⟨this.1,this.2.1⟩};.unfold List.Nodup;rw[b1i];intro i j a b f e;have:=(b0g (h j b)).2.2;refine this ?_;have d:el s j=s[j]:=E1;rw[d,<-e];exact b1f.2 ⟨i,Ag,Ad⟩};.rintro⟨h1,h2⟩ i a;obtain⟨l,g⟩:=jz.1 (h1 _ (cr a));refine b0h ⟨l,g,λh=> ?_⟩;obtain⟨j,b,e⟩:=b1f.1 h;have c:j<i:=(by simp at b;omega);rw[b4x]at e;have d:el s i=s[i]:=(by simp[el,bd,a]);rw[d]at e;exact b1i.1 h2 j i Aa a c e
theorem wb(c:Cs)(s:LI):ckS c s=if gg c=false then 41 else if ny s=true then 0 else 44:=by unfold ckS;split;{rfl};.by_cases h:ny s=true;{rw[if_pos h];obtain⟨b,d,f,g⟩:=mn.1 h;have:s.length≠0:=λe=>b (b0u e);rw[if_neg Aa,if_pos (a26.2 ⟨d,f⟩)]};.rw[if_neg h];split;{rfl};.rename_i h5;rw[if_neg λa=>h (mn.2 ⟨λe=>by subst e;simp at h5,(a26.1 a).1,(a26.1 a).2,Aa⟩)]
theorem bbf{c:Cs}(h:ckS c s=0):gg c=true/\s.length<=9/\s.Nodup/\∀k∈s,0<=k/\k<64:=by rw[wb]at h;split at h;{cases h};.split at h;{rename_i h1 h2;obtain⟨f,a,b,e⟩:=mn.1 h2;exact⟨Bv,e,b,λk d=>jz.1 (a k d)⟩};.cases h
theorem auq(k:Int):DN 235 [.int .i64 k] (.bool (abe k)):=by refine ag_ Tryz.func235 Tryz.ntmps235 Tryz.results235 ?_;by_cases a:0<=k;{by_cases h2:k<64;{simp only[go_sem,a,h2];simp[abe,a,h2]};.simp only[go_sem,a,h2];simp[abe,h2]};.simp only[go_sem,a];simp[abe,a]
def z64:List Bool:=List.replicate 64 false
theorem ahm(l:LI)(p:big l.length):DN 236 [.vs (l.map i1)] (.agg ((aot l).map cb)):=by refine ag_ Tryz.func236 Tryz.ntmps236 Tryz.results236 ?_;have g:a0d l 0=z64:=rfl;simp only[go_sem];refine lo_ 0 (λi:Nat=>[(2,.ptr 2 0),(3,.ptr 3 0),(6,.vs (l.map i1)),(7,.int .i64 l.length),(8,.int .i64 i)]) (λi=>[(2,.cells (z64.map cb)),(3,.cells ((a0d l i).map cb))]) (λi=>i<=l.length) (λi=>l.length - i) (b0k _) ?_ ?_;{simp only[go_sem,g];exact⟨rfl,rfl⟩};.intro i hi;have e:=uw l i hi;by_cases b:i<l.length;{have h1:(i:Int)<(l.length:Int):=Aa;have a:=aly b;have c:=auq (el l i);generalize a0d l i=s at*;cases hk:abe (el l i);{rw[hk]at c;rw[hk,if_neg Ad]at a;simp only[go_sem,h1,b];refine Qq c [] ?_;simp only[go_sem];refine⟨i+1,Aa,?_⟩;rw[a];simp only[go_sem];rw[ah]<;>omega};.rw[hk]at c;rw[hk,if_pos rfl]at a;obtain⟨q,r⟩:=jz.1 hk;obtain⟨k,d⟩: ∃k:Nat,el l i=(k:Int):=⟨(el l i).toNat,Aa⟩;have n:k<s.length:=Aa;have f:k<64:=Aa;rw[d]at c a;rw[b19]at a;simp only[go_sem,h1,b,d];refine Qq c [] ?_;simp only[go_sem,n,f];exact⟨Aa,i+1,Aa,Ab,a.symm⟩};.have h1: ¬(i:Int)<(l.length:Int):=Aa;have:i=l.length:=Aa;subst this;have h:z64.length=64:=rfl;have j:z64.drop 64=[]:=rfl;have o:aot l=a0d l l.length:=rfl;rw[o];generalize a0d l l.length=s at*;have m:s.take 64=s:=b14 Aa;simp only[go_sem,h1,m,h,j,e]
theorem ako(l:LI)(t:big l.length):DN 174 [.vs (l.map i1)] (.bool (o5 l)):=by refine ag_ Tryz.func174 Tryz.ntmps174 Tryz.results174 ?_;have p: ∀b,o5 l=b->o5 l=b:=λ_ h=>h;have c: ∀i,i<l.length->ub l i=false->o5 l=false:=λi n h=>(by rw[o5,fj n h,b3d]);have d:(∀i,i<l.length->ub l i=true)->o5 l=decide (aot l≠List.replicate 64 false):=λh=>(by rw[o5,m7 h,b3r]);have f:=ahm l t;have q:(aot l).length=64:=uw l l.length (b0f _);generalize o5 l=v at*;simp only[go_sem];refine lo_ 0 (λi:Nat=>[(0,.vs (l.map i1)),(5,.vs (l.map i1)),(6,.int .i64 l.length),(7,.int .i64 i)]) (λ_=>[]) (λi=>i<=l.length/\∀j,j<i->ub l j=true) (λi=>l.length - i) ⟨b0k _,Ad⟩ ?_ ?_;{simp only[go_sem]};.rintro i ⟨n,hp⟩;by_cases a:i<l.length;{have h1:(i:Int)<(l.length:Int):=Aa;simp only[go_sem,h1,a];refine Qq (auq (el l i)) [] ?_;cases hk:abe (el l i);{have e:ub l i=false:=(by simp[ub,hk]);simp only[go_sem,h1,a];exact(c i a e).symm};.rcases b2i i with h0|h0;{subst h0;have e:ub l 0=true:=(by simp[ub,hk]);have g: ¬(0:Int)<((0:Nat):Int):=Aa;simp only[go_sem,h1,a,g];exact⟨0+1,⟨⟨Aa,cu hp e⟩,Aa⟩,rfl⟩};.obtain⟨j,rfl⟩: ∃j,i=j+1:=⟨i - 1,Aa⟩;have g:(0:Int)<((j+1:Nat):Int):=Aa;have r:IntKind.i64.wrap (((j+1:Nat):Int) - 1)=(j:Int):=Ab;have k:j<l.length:=Aa;by_cases m:el l (j+1)<=el l j;{have e:ub l (j+1)=false:=(by simp[ub,hk];omega);simp only[go_sem,h1,a,g,r,k,m];exact(c (j+1) a e).symm};.have e:ub l (j+1)=true:=(by simp[ub,hk];omega);simp only[go_sem,h1,a,g,r,k,m];exact⟨j+1+1,⟨⟨Aa,cu hp e⟩,Aa⟩,Ab⟩};.have h1: ¬(i:Int)<(l.length:Int):=Aa;have:i=l.length:=Aa;subst this;have p:=d hp;have o:=a69 (aot l) (List.replicate 64 false) (by rw[q];simp);rw[q]at o;simp only[go_sem,h1];refine Qq f [] ?_;generalize aot l=s at*;simp only[go_sem];change (match ad9 (List.replicate 64 CK.bool) (List.map cb s) (List.map cb (List.replicate 64 false))with|some b=>(!b)=v|none=>False);rw[o,p];simp
theorem aqr(v s:Nat)(hv:v<=1000000)(hs:s<=1000000):DN 143 [.int .i64 v,.int .i64 s] (.bool (arx v s)):=by refine ag_ Tryz.func143 Tryz.ntmps143 Tryz.results143 ?_;have c:IntKind.i64.wrap (4*(v:Int))=4*v:=Ab;have d:IntKind.i64.wrap (3*(s:Int))=3*s:=Ab;have b:(0:Int)<=(v:Int):=Aa;by_cases a:1<=(s:Int);{by_cases h2:(s:Int)<=9;{by_cases h4:(v:Int)<=(s:Int);{simp only[go_sem,a,h2,b,h4,c,d];rw[arx,b3s];simp only[b01];omega};.have:arx v s=false:=b0b Aa;simp only[go_sem,a,h2,b,h4,this]};.have:arx v s=false:=b0b Aa;simp only[go_sem,a,h2,this]};.have:arx v s=false:=b0b Aa;simp only[go_sem,a,this]
end Go.Proofs.Am

/- Iterators at the level of worlds: what a walk over an iterator leans on. -/
namespace Go.Proofs.Am
open Go Go.RowKit Go.Shelf
open Go.Proofs
def KeepQ(S:Addr->Prop)(A B:World):Prop:=A.heap.size<=B.heap.size/\∀a,S a->B.cell? a=A.cell? a
def NumQ(S:Addr->Prop)(W:World)(v:Value)(l:LI):Prop:=RP (λa u=>W.cell? a=some u/\S a) v (.vs (l.map i1))
theorem afl{S:Addr->Prop}{W:World}{v:Value}{l:LI}(h:NumQ S W v l): ∃(a:Option Addr) (c:Nat),v= .slice a l.length c/\l.length<=c/\(0<l.length->∃ad,a=some ad/\∀i,i<l.length->W.cell? (ad.add i)=some (.int .i64 (el l i))/\S (ad.add i)):=by obtain⟨a,c,o,U,g,k,p,r,m,q⟩:=h.vs_inv;simp only[b0x]at g k m;refine⟨a,c,g,k,λh0=> ?_⟩;obtain⟨ad,rfl,n⟩:=m h0;refine⟨ad,rfl,λi j=> ?_⟩;have d:o=1:=(by have:=p (i1 (el l 0)) (b0z.2 ⟨_,cr h0,rfl⟩);simpa [i1] using this.symm);subst d;have b:(l.map i1)[i]? =some [.int .i64 (el l i)]:=(by rw[b0s,bq j,afc l i j];rfl);have:=n i _ 0 _ b rfl;rw[b3f,b13]at this;have e:=q i _ 0 _ b rfl;have:U i 0= .int .i64 (el l i):=(by generalize U i 0=u at e;cases e;rfl);have f:=n i _ 0 _ b rfl;rw[b3f,b13,this]at f;exact f
theorem NumQ.keep{S:Addr->Prop}{A B:World}{v:Value}{l:LI}(h:NumQ S A v l)(d:KeepQ S A B):NumQ S B v l:=
 RP.mono (λa u ⟨c,b⟩=>⟨(d.2 a b).trans c,b⟩) h
theorem KeepQ.refl(S:Addr->Prop)(A:World):KeepQ S A A:=⟨b0f _,λ_ _=>rfl⟩
theorem KeepQ.trans{S:Addr->Prop}{A B C:World}(h:KeepQ S A B)(k:KeepQ S B C):KeepQ S A C:=⟨b1l h.1 k.1,λa b=>(k.2 a b).trans (h.2 a b)⟩
theorem brb:(Tryz.prog.info? 3).map (λi=>(i.zero,i.size,i.bytes))=some (some (.int .i64 0),1,8):=Ae
theorem am5{S:Addr->Prop}{b W:World}{l:Nat}{o':Obj}(c: ∀a,S a->a.block<b.heap.size)(f:b.heap.size<=l):KeepQ S W (W.putObj l o'):=
 ⟨Ad,λa d=>b2y (World.putObj_heap_other (λe=>by have:=c a d;omega))⟩
theorem NumQ.wide{S T:Addr->Prop}{W:World}{v:Value}{l:LI}(h:NumQ S W v l)(d: ∀a,S a->T a):NumQ T W v l:=
 RP.mono (λa u ⟨b,c⟩=>⟨b,d a c⟩) h
theorem bhq{W:World}{N e:Nat}{v:Value}{l:LI}(h:W.ownsRow N e 1 v l.length (l.map (Value.int .i64))):RP (λa x=>W.cell? a=some x/\N<=a.block) v (.vs (l.map i1)):=by by_cases k:v= .slice none 0 0;{subst k;rcases h.2 with ⟨_,h0⟩|⟨g,d,n,o,_⟩;{have:l=[]:=b0u h0;subst this;exact .vs (sz:=0) (λ_ _=>Go.undef) rfl (b0f _) Ad Ad Aa λi x j u hx b=>Gd};.cases o};.obtain⟨g,d,rfl,hb,_,hc,_,_,hH⟩:=Lib.holds_of_ownsRow h k;have f: ∀(i:Nat) (x:LP) (j:Nat) (u:PV),(l.map i1)[i]? =some x->x[j]? =some u->i<l.length/\j=0/\u= .int .i64 (el l i):=λi x j u hx b=>(by rw[b0s]at hx;cases hl:l[i]? with|none=>rw[hl]at hx;cases hx|some y=>rw[hl]at hx;simp only[b02,b0c]at hx;subst hx;have c:=(dm.1 hl).1;cases j with|zero=>simp[i1]at b;exact⟨c,rfl,by rw[<-b,afc l i c];simp[(dm.1 hl).2]⟩|succ j=>simp[i1]at b);refine .vs (sz:=1) (λi _=> .int .i64 (el l i)) Ad hc Ds (by simp[i1,fy]) (λ_=>⟨_,rfl,λi x j u hx b=> ?_⟩) λi x j u hx b=> ?_;{obtain⟨h1,rfl,_⟩:=f i x j u hx b;have:=(hH i Bv).1;have m:(⟨g,0,none⟩:Addr).add (i*1+0)=⟨g,0+i,none⟩:=(by unfold Addr.add;split<;>simp_all);rw[m];refine⟨?_,hb⟩;rw[this,afc l i h1];simp[b3m,h1]};.obtain⟨h1,rfl,rfl⟩:=f i x j u hx b;exact .int _ _
end Go.Proofs.Am

/- decision.seated: numbers are handed out by an iterator, and sorted. -/
namespace Go.Proofs.Am
open Go Go.RowKit Go.Shelf Go.Sort
open Go.Proofs
attribute [local go_sem] Oper.semAt_some
theorem ayn(n:Nat)(l b1:Nat)(seats:LI)(ad:Option Addr)(c:Nat)(S:Addr->Prop)(J Jx:LI->World->Prop)(W:World)
  (ho:seats.length<=1000000)
  (hY: ∀pre x W,J pre W->pre.length<seats.length->YieldAt Fence.wide (n - 1) Tryz.prog l #[.int .i64 x] W λe W'=>
   (e= .returned (.bool true)/\J (pre++[x]) W'/\KeepQ S W W')\/(e= .returned (.bool false)/\Jx (pre++[x]) W'))
  (s1:S ⟨b1,0,none⟩) (h1:W.cell? ⟨b1,0,none⟩=some (.slice ad seats.length c))
  (nO:NumQ S W (.slice ad seats.length c) seats) (h0:J [] W):
  CallsIn Fence.wide n Tryz.prog 313 #[.func (.yield l) #[] #[],.pointer (some ⟨b1,0,none⟩)] W λe W'=>(∃v,e= .returned v)/\
   ((∃ys,ys=seats/\J ys W')\/(∃pre,pre<+:seats/\Jx pre W')):=by refine callsIn_of_wp Tryz.func313 rfl trivial ?_ rfl;simp only[Tryz.ntmps313,b2h,b0q,b0r,Nat.reduceAdd,Nat.reduceSub,b31,b32,b4h,b35,b1u,b1s];gi_wp2;gi_loopw [7] (λp wr=> ∃i:Nat,p= .int .i64 i/\i<=seats.length/\J (seats.take i) wr/\KeepQ S W wr) (λp wr=>seats.length - (intOf p).toNat);(case atStart=>exact⟨0,rfl,Aa,h0,.refl _ _⟩);case round=>obtain⟨i,rfl,hi,hJs,hK⟩:=hrel;by_cases hi':i<seats.length;{obtain⟨ad',c',hv,_,hc⟩:=afl (nO.keep hK);cases hv;obtain⟨ad1,had,hc2⟩:=hc Aa;subst had;obtain⟨hci,_⟩:=hc2 i hi';have hlen:(seats.take i).length<seats.length:=Ak;obtain⟨fn,tmps,assign,body,hy,hRd⟩:=hY (seats.take i) (el seats i) wr hJs hlen;gi_wp2;refine⟨λh=>D1,hRd.mono ?_⟩;rintro e W4 (⟨rfl,hJ4,hK4⟩|⟨rfl,hJx4⟩);{gi_wp2;go_roundw;(case rel=>exact⟨i+1,rfl,Aa,by rw[bt hi'];exact hJ4,hK.trans hK4⟩);case measure=>simp only[intOf];omega};.gi_wp2;refine bodyPost_ret (results_none rfl _ _ _) rfl ?_;exact⟨⟨_,rfl⟩,.inr ⟨seats.take i++[el seats i],by rw[<-bt hi'];exact List.take_prefix _ _,hJx4⟩⟩};.have hi2:i=seats.length:=Aa;subst hi2;gi_wp2;go_end0;exact⟨⟨_,rfl⟩,.inl ⟨_,by rw[b0n],hJs⟩⟩
theorem alc(w:World)(S:Addr->Prop)(seats:LI)(b:Nat)(ad:Option Addr)(c:Nat)(j:seats.length<=1000000)
  (k: ∀a,S a->a.block<w.heap.size) (d:S ⟨b,0,none⟩) (g:w.cell? ⟨b,0,none⟩=some (.slice ad seats.length c)) (m:NumQ S w (.slice ad seats.length c) seats):
  SeqStopsK Fence.wide 2 Tryz.prog 313 #[.pointer (some ⟨b,0,none⟩)] (λx:Int=> #[Value.int .i64 x]) (KeepQ S) (λys=>ys=seats) (λpre=>pre<+:seats) seats.length w:=by intro l J n W f p i h h0;have e:KeepQ S w W:=⟨f.size,λa o=>f.cell (k a o)⟩;exact ayn 2 l b seats ad c S J n W j h d ((e.2 _ d).trans g) (m.keep e) h0
theorem a2q(w:World)(S:Addr->Prop)(seats:LI)(bb:Nat)(ad:Option Addr)(c:Nat)(ho:seats.length<=1000000)
  (hS: ∀a,S a->a.block<w.heap.size) (s1:S ⟨bb,0,none⟩) (h1:w.cell? ⟨bb,0,none⟩=some (.slice ad seats.length c)) (nO:NumQ S w (.slice ad seats.length c) seats):
  CallsIn Fence.wide 3 Tryz.prog 375 #[.slice none 0 0,.func (.func 313) #[] #[.pointer (some ⟨bb,0,none⟩)]] w λe W'=> ∃v,e= .returned v/\Below w.heap.size w W'/\W'.ownsRow w.heap.size 3 1 v seats.length (seats.map (Value.int .i64)):=by obtain⟨i0,hi,hz0,hz1,hz2⟩:=info_parts brb;refine callsIn_of_wp_marks Tryz.func375 rfl trivial ?_ rfl;simp only[Tryz.ntmps375,b2h,b0q,b0r,Nat.reduceAdd,Nat.reduceSub,b31,b32,b4h,b35,b1u,b1s];gi_wp2;have hB0:Below w.heap.size w (w.alloc (.cells #[.slice none 0 0] 22)):=(b4v _ w).alloc (b0f _) _;have bB:=Boxed.new w 22 (.slice none 0 0);have hsz:(w.alloc (.cells #[.slice none 0 0] 22)).heap.size=w.heap.size+1:=Ad;generalize w.alloc (.cells #[.slice none 0 0] 22)=w1 at*;have hK1:KeepQ S w w1:=⟨hB0.size,λa ha=>hB0.cell (hS a ha)⟩;have hS1: ∀a,S a->a.block<w1.heap.size:=λa ha=>(by have:=hS a ha;omega);have hstops:=alc w1 S seats bb ad c ho hS1 s1 ((hK1.2 _ s1).trans h1) (nO.keep hK1);refine wpIn_rangeFunc_ownG rfl Aa (gf:=313) (lb:= #[.pointer (some ⟨bb,0,none⟩)]) rfl trivial (enters_of Tryz.func313 Ae rfl) hstops KeepQ.trans (λW l o o' hl ho' hc _=>am5 hS1 hl) (b4v _ _) (λ_=>rfl) (λpre W=>(∃v,Boxed W w.heap.size 22 v/\W.ownsRow w.heap.size 3 1 v pre.length (pre.map (Value.int .i64))/\True)/\Below w.heap.size w W) (λ_ _ _=>False) (OwnFrom.and (Own.from (holdsRow_own w.heap.size w.heap.size 22 3 1 (λpre:LI=>pre.length) (λpre=>pre.map (Value.int .i64)) (λ_ _=>True)) _) (ownFrom_below (b0f _) Aa)) (λ_ _ _ _ _ hs _ _=>hs) ⟨⟨_,bB,World.ownsRow_nil _ _ _ _,trivial⟩,hB0⟩ (λx=>{tmps:= #[.slice none 0 0,.func (.func 313) #[] #[.pointer (some ⟨bb,0,none⟩)],.pointer (some ⟨w.heap.size,0,none⟩),Go.undef,.slice none 0 0,.int .i64 x,.func (.func 313) #[] #[.pointer (some ⟨bb,0,none⟩)],.int .i64 x,Go.undef,Go.undef,Go.undef,Go.undef,Go.undef],defers:=[]}) ?assign ?body ?done ?stop;(case assign=>intro l x W K hK;gi_wp2;exact hK);(case body=>rintro l pre x W ⟨⟨v,hv,hrow,_⟩,hB⟩ hlt;have hc:=hv.cell;gi_wp2_with (gi_at_builtin;refine wpListIn_append_own _ rfl _ _ 22 rfl w.heap.size 3 i0 (.int .i64 0) 1 8 Tryz.underlying22 hi hz0 hz1 hz2 rfl Ar _ _ _ rfl (hrow.alloc _) ⟨W.heap.size,0,none⟩ 1 1 [.int .i64 x] rfl rfl (cell_one_new _ _ _) (by simp[Value.oneCell']) C4 Aa (by have:=hB.size;simp;omega) ?_;intro v' w1 hown' hgrow _;obtain⟨g',cap',rfl⟩:=ownsRow_succ hown';obtain⟨hv1,hv2,hr2,hk2,hbb2⟩:=hv.appended Ar hrow hB.size (b0f _) hown' hgrow;have hc1:=hv1.cell;have hf1:=hv1.frozen);exact⟨hk2.from _,⟨hbb2.size,λa ha=>hbb2.cell (hS a ha)⟩,⟨_,hv2,by simpa using hr2,trivial⟩,hB.trans hbb2⟩);(case done=>rintro D ys W hD rfl ⟨⟨v,hv,hrow,_⟩,hB⟩ hK;have hc:=hv.cell;obtain⟨a4,c4,rfl⟩: ∃a c,v= .slice a ys.length c:=(by rcases hrow.2 with ⟨rfl,hz⟩|⟨gb,cap,cur,rfl,_⟩;{exact⟨none,0,by rw[hz]⟩};.exact⟨_,_,rfl⟩);gi_wp2;refine⟨Ad,.inl ⟨_,_,rfl,run_takeDeferred hK,?_⟩⟩;exact⟨_,results_tmp rfl _ _ _,_,rfl,hB.trans (belowK_b (w:=w) (b0f _) W D _ _ Aa hK rfl rfl),ownsRow_putObj hrow _ hK rfl⟩);case stop=>rintro D c pre W _ _ h _;exact h.elim
theorem anx{W:World}{N e:Nat}{v:Value}{k:Nat}{xs:List Value}(h:W.ownsRow N e 1 v k xs): ∃a c,v= .slice a k c:=by rcases h.2 with ⟨rfl,d⟩|⟨g,b,f,rfl,_⟩;{exact⟨none,0,by rw[d]⟩};.exact⟨_,_,rfl⟩
theorem ay9(w:World)(S:Addr->Prop)(seats:LI)(bb:Nat)(ad:Option Addr)(c:Nat)(ho:seats.length<=1000000)
  (hS: ∀a,S a->a.block<w.heap.size) (s1:S ⟨bb,0,none⟩) (h1:w.cell? ⟨bb,0,none⟩=some (.slice ad seats.length c)) (nO:NumQ S w (.slice ad seats.length c) seats):
  CallsIn Fence.wide 4 Tryz.prog 312 #[.func (.func 313) #[] #[.pointer (some ⟨bb,0,none⟩)]] w λe W'=> ∃v,e= .returned v/\Below w.heap.size w W'/\W'.ownsRow w.heap.size 3 1 v seats.length (seats.map (Value.int .i64)):=by refine callsIn_of_wp Tryz.func312 rfl trivial ?_ rfl;simp only[Tryz.ntmps312,b2h,b0q,b0r,Nat.reduceAdd,Nat.reduceSub,b31,b32,b4h,b35,b1u,b1s];gi_wp2;refine⟨trivial,(a2q w S seats bb ad c ho hS s1 h1 nO).mono ?_⟩;rintro e W ⟨v,rfl,hB,hrow⟩;obtain⟨a4,c4,rfl⟩:=anx hrow;gi_wp2;go_ret;exact⟨_,rfl,hB,hrow⟩
theorem a67(w:World)(S:Addr->Prop)(seats:LI)(bb:Nat)(ad:Option Addr)(c:Nat)(ho:seats.length<=1000000)
  (hS: ∀a,S a->a.block<w.heap.size) (s1:S ⟨bb,0,none⟩) (h1:w.cell? ⟨bb,0,none⟩=some (.slice ad seats.length c)) (nO:NumQ S w (.slice ad seats.length c) seats):
  CallsIn Fence.wide 5 Tryz.prog 265 #[.func (.func 313) #[] #[.pointer (some ⟨bb,0,none⟩)]] w λe W'=> ∃v,e= .returned v/\Below w.heap.size w W'/\W'.ownsRow w.heap.size 3 1 v (srt seats).length ((srt seats).map (Value.int .i64)):=by refine callsIn_of_wp Tryz.func265 rfl trivial ?_ rfl;simp only[Tryz.ntmps265,b2h,b0q,b0r,Nat.reduceAdd,Nat.reduceSub,b31,b32,b4h,b35,b1u,b1s];gi_wp2;refine⟨trivial,(ay9 w S seats bb ad c ho hS s1 h1 nO).mono ?_⟩;rintro e W ⟨v,rfl,hB,hrow⟩;rcases hrow.2 with ⟨rfl,hz⟩|⟨gb,cap,cur,rfl,hbase,hgb,r1,r2,r3,r4⟩;{have hss:seats=[]:=b0u hz;subst hss;gi_wp2;refine⟨trivial,(callsIn_wide.2 (Any.slices_Sort_int_none Tryz.laysSort none 0 W)).mono ?_⟩;rintro e w' ⟨rfl,rfl⟩;gi_wp2;go_ret;exact⟨_,rfl,hB,by simpa [srt] using hrow⟩};.have hH:Holds encZ W gb 0 seats.toArray:=holds_of_block_i hgb (by simpa using r4);have hgl:gb<W.heap.size:=(b03.1 hgb).1;gi_wp2;refine⟨trivial,(callsIn_wide.2 (Any.slices_Sort_int Tryz.laysSort gb 0 cap seats W hH hgl Aa)).mono ?_⟩;rintro e w' ⟨rfl,nn,os,rfl⟩;gi_wp2;go_ret;refine⟨_,rfl,hB.grown (grownBy_sorted_i _) hB.size (λj hj=>by cases hj;exact hbase),?_⟩;have:=ownsRow_sorted_i (ts:=srt seats) (n:=nn) (os:=os) (js seats) hbase hgb r1 r2 r3;rw[js];exact this
theorem a0y(n:Nat)(a1:Option Addr)(n1 c1:Nat)(w:World):
  CallsIn Fence.wide n Tryz.prog 266 #[.slice a1 n1 c1] w λe w'=>e= .returned (.func (.func 313) #[] #[.pointer (some ⟨w.heap.size,0,none⟩)])/\
   w'=w.alloc (.cells #[.slice a1 n1 c1] 22):=by refine callsIn_of_wp Tryz.func266 rfl trivial ?_ rfl;simp only[Tryz.ntmps266,b2h,b0q,b0r,Nat.reduceAdd,Nat.reduceSub,b31,b32,b4h,b35,b1u,b1s];gi_wp2;go_ret;exact⟨rfl,rfl⟩
theorem a7p(w:World)(hL:Laid Tryz.prog w)(V:Addr->Prop)(vS:Value)(seats:LI)(ho:seats.length<=1000000)(hV: ∀a,V a->a.block<w.heap.size)(nS:NumQ V w vS seats):
  CallsIn Fence.wide 6 Tryz.prog 188 #[vS] w λe W'=>e= .returned (.bool (ny seats))/\Below w.heap.size w W':=by
 obtain⟨aS,cS,rfl,_,_⟩:=afl nS;refine callsIn_of_wp Tryz.func188 rfl trivial ?_ rfl;simp only[Tryz.ntmps188,b2h,b0q,b0r,Nat.reduceAdd,Nat.reduceSub,b31,b32,b4h,b35,b1u,b1s]
 gi_wp2
 refine⟨trivial,(a0y _ _ _ _ _).mono ?_⟩;rintro e w' ⟨rfl,rfl⟩
 gi_wp2
 have hB0:Below w.heap.size w (w.alloc (.cells #[.slice aS seats.length cS] 22)):=(b4v _ w).alloc (b0f _) _;have bB:=Boxed.new w 22 (.slice aS seats.length cS);have hsz:(w.alloc (.cells #[.slice aS seats.length cS] 22)).heap.size=w.heap.size+1:=Ad
 generalize w.alloc (.cells #[.slice aS seats.length cS] 22)=w1 at*;have hK1:KeepQ V w w1:=⟨hB0.size,λa ha=>hB0.cell (hV a ha)⟩;refine⟨trivial,(a67 w1 (λa=>V a\/a=⟨w.heap.size,0,none⟩) seats w.heap.size aS cS ho (λa ha=> ?_) (.inr rfl) bB.cell ((nS.keep hK1).wide λa h=> .inl h)).mono ?_⟩
 .rcases ha with h|rfl;{have:=hV a h;omega};.simp only;omega
 rintro e W ⟨v,rfl,hB,hrow⟩;obtain⟨a4,c4,rfl⟩:=anx hrow;have D2:=ako (srt seats) (by rw[js];simp only[big];omega);have hB2:Below w.heap.size w W:=hB0.trans (hB.mono Aa);have hLW:Laid Tryz.prog W:=ab9 hL W λb _ hb=>(hB2.block b (b03.1 hb).1).trans hb
 have hcall:=vq D2 W hLW (λa=>w1.heap.size<=a.block) [.slice a4 (srt seats).length c4] rfl (λi u p hi hp=>by
  match i,hi,hp with
  |0,hi,hp=>simp at hi hp;subst hi hp;exact bhq hrow
  |i+1,hi,hp=>simp at hi)
 gi_wp2
 refine⟨trivial,(callsIn_wide.2 hcall).mono ?_⟩;rintro e W3 ⟨u,rfl,hg3,E,hR,hpc⟩;have hu:=hR.bool_inv;subst hu;have hB3:Below w.heap.size w W3:=hB0.trans ((hB.mono Aa).grown hg3 (by have:=hB.size;omega) (λk e=>by cases e));have hlen:=js seats
 cases hv:o5 (srt seats)
 .gi_wp2;go_ret;exact⟨by simp[ny,hv],hB3⟩
 .gi_wp2;go_ret;exact⟨by simp[ny,hv,hlen];omega,hB3⟩
theorem axa(seats:LI)(i:seats.length<=1000000):DN 188 [.vs (seats.map i1)] (.bool (ny seats)):=by refine ab4 (enters_of Tryz.func188 Ae rfl) λw V a d f c b=> ?_;match a,c with|[v1],_=>obtain⟨k,j,h⟩:=b 0 v1 _ rfl rfl;refine(callsIn_wide.1 (a7p w d V v1 seats i f (RP.mono h j.vs_inv))).mono ?_;rintro e W ⟨rfl,g⟩;exact⟨_,rfl,g,.bool _⟩
end Go.Proofs.Am

/- Decisions: what has enough votes; the program's and the document's. -/
namespace Go.Proofs.Am
open Go Go.RowKit
open Go.Proofs
theorem ay6(c:Cs)(s:LI)(hs:s.length<=1000000):DN 140 [.agg (cs c),.vs (s.map i1)] (.int .i64 (ckS c s)):=by refine ag_ Tryz.func140 Tryz.ntmps140 Tryz.results140 ?_;have a:=ao9 c;have b:=axa s hs;rw[dh]at a ⊢;rw[wb];simp only[go_sem];refine Qq a [] ?_;cases a1:gg c;{simp only[go_sem]};.simp only[go_sem];refine Qq b [] ?_;cases a2:ny s;{simp only[go_sem]};.simp only[go_sem]
def aqf(m:Nat)(N:List Cn)(i:Nat):List Ct:=((N.take i).filter λn=>arx n.ks.length m).map Cn.x
theorem akb{m:Nat}{N:List Cn}{i:Nat}(h:i<N.length):aqf m N (i+1)=aqf m N i++if arx (el N i).ks.length m=true then [(el N i).x]else []:=by simp only[aqf,bt h,b2p,b0d,b27,b2t];split<;>rfl
theorem ast(m:Nat)(N:List Cn)(i:Nat):(aqf m N i).length<=N.length:=by simp only[aqf,b0x];refine b1l (b05 _ _) ?_;rw[b0i];omega
theorem asv{seats:LI}{v:List Vt}:aqf seats.length (cnR seats v) (cnR seats v).length=aj8 seats v:=by simp only[aqf,b0n,aj8]
theorem aqa(v s:Nat):DN 166 [.int .i64 v,.int .i64 s] (.bool (arx v s)):=by have h:=axm v s;rwa [show rk v s=arx v s by simp only[rk,arx];congr 1;apply propext;omega]at h
theorem blf(l:LS)(c:Cs)(seats:LI)(F:l.length<=900)(hs: ∀s∈l,om s)(q:seats.length<=1000000)(z: ∀y∈br l c,plX y.x):
  DN 85 [.vs (l.map sm),.agg (cs c),.vs (seats.map i1)] (.tup [.vs ((if ckS c seats=0 then aj8 seats (br l c)else []).map ct),.int .i64 (ckS c seats)]):=by refine ag_ Tryz.func85 Tryz.ntmps85 Tryz.results85 ?_;have j:big seats.length:=Af;have w:=ay6 c seats q;have p:=afo l c Aa hs;have G:=acj l c;have g: ∀y∈br l c,okX y.x:=λy e=>(r5 (l:=l) (c:=c) y e).okX (z y e);rw[dh]at w p;generalize E:ckS c seats=k at*;generalize br l c=V at*;have t:=bm9 V seats Aa j g;rw[a98 g]at t;have f:=ak8 seats (λy e=>(g y e).1) V.length (b0f _);have u:cnI seats V V.length=cnR seats V:=rfl;rw[u]at f;have d:=asv (seats:=seats) (v:=V);have h:k=0->∀n∈cnR seats V,n.ks.length<=seats.length:=λ_ n C=>bpu C;generalize aj8 seats V=A at*;generalize cnR seats V=N at*;clear u;simp only[go_sem,dh];refine Qq w [] ?_;by_cases r:k=0;rotate_left;{simp only[go_sem,r]};.subst r;simp only[go_sem];refine Qq p [] ?_;simp only[go_sem];refine Qq t [] ?_;simp only[go_sem];refine bm 9 110 44 2 false ?_ ?_ ?_ Aa;{refine lo_ 0 (λi:Nat=>[(2,.vs (seats.map i1)),(9,.os 110 (aqf seats.length N i).length),(22,.vs (N.map cn3)),(23,.int .i64 N.length),(24,.int .i64 i)]) (λi=>[(110,.arr 44 2 false ((aqf seats.length N i).map ct))]) (λi=>i<=N.length) (λi=>N.length - i) (b0k _) ?_ ?_;{simp only[go_sem];simp[aqf]};.intro i hi;by_cases b:i<N.length;{have h1:(i:Int)<(N.length:Int):=Aa;have a:=akb (m:=seats.length) b;have D:=ast seats.length N i;have B:=h rfl _ (cr b);have ce:=aqr (el N i).ks.length seats.length Aa q;generalize aqf seats.length N i=o at*;simp only[go_sem,h1,b];refine Qq ce [] ?_;cases he:arx (el N i).ks.length seats.length;{rw[he,if_neg Ad,b00]at a;simp only[go_sem];refine⟨i+1,Aa,?_⟩;rw[a];exact⟨⟨rfl,Ab⟩,rfl⟩};.rw[he,if_pos rfl]at a;simp only[go_sem];refine⟨Aa,i+1,Aa,?_⟩;rw[a];exact⟨⟨Ad,Ab⟩,by simp[ct]⟩};.have h1: ¬(i:Int)<(N.length:Int):=Aa;have:i=N.length:=Aa;subst this;simp only[go_sem,h1,d]};{simp only[go_sem]};.simp only[go_sem]
theorem bcg(l:LS)(c:Cs)(seats:LI)(w:l.length<=900)(hs: ∀s∈l,om s)(j:big seats.length):
  DN 117 [.vs (l.map sm),.agg (cs c),.vs (seats.map i1)] (.tup [.vs ((if ckS c seats=0 then aj8 seats (br l c)else []).map ct),.int .i64 (ckS c seats)]):=by refine ag_ Tryz.func117 Tryz.ntmps117 Tryz.results117 ?_;have q:=ap9 c seats j;have f:=amp l c Aa hs;rw[<-aup]at f;have x:=acj l c;have h:=r5 (l:=l) (c:=c);rw[dh]at q f;generalize u:ckS c seats=k at*;generalize br l c=V at*;have t:=bjd seats V Aa j (λy g=>(h y g).1);have e:=ak8 seats (λy g=>(h y g).1) V.length (b0f _);have p:cnI seats V V.length=cnR seats V:=rfl;rw[p]at e;have d:=asv (seats:=seats) (v:=V);generalize aj8 seats V=A at*;generalize cnR seats V=N at*;clear p;simp only[go_sem,dh];refine Qq q [] ?_;by_cases n:k=0;rotate_left;{simp only[go_sem,n]};.subst n;simp only[go_sem];refine Qq f [] ?_;simp only[go_sem];refine Qq t [] ?_;simp only[go_sem];refine bm 10 110 44 2 false ?_ ?_ ?_ Aa;{refine lo_ 0 (λi:Nat=>[(2,.vs (seats.map i1)),(9,.vs (N.map cn3)),(10,.os 110 (aqf seats.length N i).length),(11,.int .i64 i)]) (λi=>[(110,.arr 44 2 false ((aqf seats.length N i).map ct))]) (λi=>i<=N.length) (λi=>N.length - i) (b0k _) ?_ ?_;{simp only[go_sem];simp[aqf]};.intro i hi;by_cases b:i<N.length;{have h1:(i:Int)<(N.length:Int):=Aa;have a:=akb (m:=seats.length) b;have r:=ast seats.length N i;have ce:=aqa (el N i).ks.length seats.length;generalize aqf seats.length N i=o at*;simp only[go_sem,h1,b];refine Qq ce [] ?_;cases he:arx (el N i).ks.length seats.length;{rw[he,if_neg Ad,b00]at a;simp only[go_sem];refine⟨i+1,Aa,?_⟩;rw[a];exact⟨⟨rfl,Ab⟩,rfl⟩};.rw[he,if_pos rfl]at a;simp only[go_sem,b];refine⟨Aa,i+1,Aa,?_⟩;rw[a];exact⟨⟨Ad,Ab⟩,by simp[ct]⟩};.have h1: ¬(i:Int)<(N.length:Int):=Aa;have:i=N.length:=Aa;subst this;simp only[go_sem,h1,d]};{simp only[go_sem]};.simp only[go_sem]
def aan(A:List Ct):Ct:=if A.length=1 then el A 0 else noC
theorem bk5(l:LS)(c:Cs)(seats:LI)(i:l.length<=900)(hs: ∀s∈l,om s)(j:seats.length<=1000000)(A:List Ct)(d:A=if ckS c seats=0 then aj8 seats (br l c)else [])(g:big A.length)(m: ∀y∈br l c,plX y.x):
  DN 248 [.vs (l.map sm),.agg (cs c),.vs (seats.map i1)] (.tup [.agg (ct (aan A)),.bool (decide (A.length=1)),.int .i64 (ckS c seats)]):=by refine ag_ Tryz.func248 Tryz.ntmps248 Tryz.results248 ?_;have f:=blf l c seats i hs j m;rw[<-d,dh]at f;have b:ckS c seats≠0->A=[]:=λh=>(by rw[d,if_neg h]);generalize ckS c seats=k at*;clear d;rw[dh];simp only[go_sem];refine Qq f [] ?_;by_cases a:k=0;rotate_left;{have:=b a;subst this;simp only[go_sem,a,aan,noC,b0r]};.subst a;by_cases e:A.length=1;{obtain⟨x,rfl⟩:=b63.1 e;simp only[go_sem,aan,b1j,b07,b0o];exact⟨rfl,rfl⟩};.have h2: ¬(A.length:Int)=1:=Aa;simp only[go_sem,e,h2,aan,noC]
theorem a6u(l:LS)(c:Cs)(seats:LI)(i:l.length<=900)(hs: ∀s∈l,om s)(j:big seats.length)(A:List Ct)(d:A=if ckS c seats=0 then aj8 seats (br l c)else [])(g:big A.length):
  DN 62 [.vs (l.map sm),.agg (cs c),.vs (seats.map i1)] (.tup [.agg (ct (aan A)),.bool (decide (A.length=1)),.int .i64 (ckS c seats)]):=by refine ag_ Tryz.func62 Tryz.ntmps62 Tryz.results62 ?_;have f:=bcg l c seats i hs j;rw[<-d,dh]at f;have b:ckS c seats≠0->A=[]:=λh=>(by rw[d,if_neg h]);generalize ckS c seats=k at*;clear d;rw[dh];simp only[go_sem];refine Qq f [] ?_;by_cases a:k=0;rotate_left;{have:=b a;subst this;simp only[go_sem,a,aan,noC,b0r]};.subst a;by_cases e:A.length=1;{obtain⟨x,rfl⟩:=b63.1 e;simp only[go_sem,aan,b1j,b07,b0o];exact⟨rfl,rfl⟩};.have h2: ¬(A.length:Int)=1:=Aa;simp only[go_sem,e,h2,aan,noC]
def ce(c:Cs)(l:LS):LP:=[.int .i64 c.ep,.int .i64 c.kd,.int .i64 c.su,.int .i64 c.ro,.vs (l.map sm)]
def zx(l:LS)(i:Nat):LP:=if i=0 then [.nils,.nils]else ct (eh (el l 0)).1.x
theorem br4(l:LS):zx l 0=[.nils,.nils]:=rfl
end Go.Proofs.Am
