/- POne. -/
import Derived.Test.YtloaichcpoboeaaGreatDoorBTwo
import Derived.Test.YtloaichcpoboeaaGreatDoorUFour
import Derived.Test.YtloaichcpoboeaaGreatDoorEOne
import Derived.Test.YtloaichcpoboeaaGreatDoorGOne
import Derived.Test.YtloaichcpoboeaaGreatDoorBThree
import Derived.Test.YtloaichcpoboeaaGreatDoorMOne
import Derived.Test.YtloaichcpoboeaaGreatDoorCNine
set_option maxHeartbeats 1000000
set_option maxRecDepth 100000
set_option linter.unusedSimpArgs false
set_option linter.unusedVariables false
namespace Go.Proofs.Am
open Go Go.RowKit
open Go.Proofs
noncomputable def bd1 {α:Type} (n:Nat) (f:Nat→α):α:=Nat.rec (motive:=fun _=>α) (f 0) (fun m _=>f (Nat.succ m)) n
noncomputable def bc7 {α:Type} (x:Int) (f:Int→α):α:=match x with
 | .ofNat n=>bd1 n fun m=>f (Int.ofNat m)
 | .negSucc n=>f (Int.negSucc n)
theorem a6a{α:Type}(n:Nat)(f:Nat→α):bd1 n f=f n:=by cases n<;>rfl
theorem a7p{α:Type}(x:Int)(f:Int→α):bc7 x f=f x:=by
 cases x with
 |ofNat n=>exact a6a n fun m=>f (Int.ofNat m)
 |negSucc n=>rfl
noncomputable def axt {α:Type} (l:List Int):(List Int→α)→α:=List.rec (motive:=fun _=>(List Int→α)→α) (fun f=>f []) (fun a _ ih f=>bc7 a fun b=>ih fun r=>f (b::r)) l
theorem abh{α:Type}(l:List Int): ∀f:List Int→α,axt l f=f l:=by
 induction l with
 |nil=>intro f;rfl
 |cons a r ih=>
  intro f
  show bc7 a (fun b=>axt r fun r=>f (b::r))=_
  rw[a7p,ih]
noncomputable def wAS {α:Type} (b:List UInt8) (m:Nat):(List Int→α)→α:=Nat.rec (motive:=fun _=>(List Int→α)→α) (fun f=>f (List.replicate 64 0)) (fun m ih f=>ih fun w=>axt (w.set m (w16 b m)) f) m
noncomputable def wBS {α:Type} (b:List UInt8) (m:Nat):(List Int→α)→α:=Nat.rec (motive:=fun _=>(List Int→α)→α) (fun f=>wAS b 16 f) (fun m ih f=>ih fun w=>axt (w.set (16+m) (wst w m)) f) m
noncomputable def bdx {α:Type} (h k w:List Int) (m:Nat):(List Int→α)→α:=Nat.rec (motive:=fun _=>(List Int→α)→α) (fun f=>f h) (fun m ih f=>ih fun v=>axt (rnd v (el k m) (el w m)) f) m
noncomputable def bdo {α:Type} (v h:List Int) (m:Nat):(List Int→α)→α:=Nat.rec (motive:=fun _=>(List Int→α)→α) (fun f=>f v) (fun m ih f=>ih fun u=>axt (u.set m (ad (el u m) (el h m))) f) m
theorem a3m{α:Type}(b:List UInt8): ∀(m:Nat) (f:List Int→α),wAS b m f=f (wA b m)
 |0,_=>rfl
 |m+1,f=>by
  show wAS b m (fun w=>axt (w.set m (w16 b m)) f)=_
  rw[a3m b m,abh];rfl
theorem a3p{α:Type}(b:List UInt8): ∀(m:Nat) (f:List Int→α),wBS b m f=f (wB b m)
 |0,f=>a3m b 16 f
 |m+1,f=>by
  show wBS b m (fun w=>axt (w.set (16+m) (wst w m)) f)=_
  rw[a3p b m,abh];rfl
theorem av4{α:Type}(h k w:List Int): ∀(m:Nat) (f:List Int→α),bdx h k w m f=f (agt h k w m)
 |0,_=>rfl
 |m+1,f=>by
  show bdx h k w m (fun v=>axt (rnd v (el k m) (el w m)) f)=_
  rw[av4 h k w m,abh];rfl
theorem au4{α:Type}(v h:List Int): ∀(m:Nat) (f:List Int→α),bdo v h m f=f (fin v h m)
 |0,_=>rfl
 |m+1,f=>by
  show bdo v h m (fun u=>axt (u.set m (ad (el u m) (el h m))) f)=_
  rw[au4 v h m,abh];rfl
noncomputable def bby {α:Type} (h:List Int) (b:List UInt8) (f:List Int→α):α:=wBS b 48 fun w=>bdx h kK w 64 fun v=>bdo v h 8 f
theorem a7w{α:Type}(h:List Int)(b:List UInt8)(f:List Int→α):bby h b f=f (a33 h b kK):=by
 unfold bby a33
 rw[a3p,av4,au4]
noncomputable def hsS {α:Type} (b:List UInt8) (m:Nat):(List Int→α)→α:=Nat.rec (motive:=fun _=>(List Int→α)→α) (fun f=>f h0) (fun m ih f=>ih fun h=>bby h ((b.take (64*m+64)).drop (64*m)) f) m
theorem ayu{α:Type}(a:List UInt8)(f:List Int→α):hsS a 0 f=f h0:=rfl
theorem azo{α:Type}(a:List UInt8)(m:Nat):hsS (α:=α) a (m+1)=fun f=>hsS a m fun h=>bby h ((a.take (64*m+64)).drop (64*m)) f:=rfl
theorem a8g(b:List UInt8):hs b 0=h0:=(rfl)
theorem a5f(b:List UInt8)(m:Nat):hs b (m+1)=a33 (hs b m) (((y8 b).take (64*m+64)).drop (64*m)) kK:=(rfl)
theorem bau{α:Type}(b:List UInt8)(m:Nat): ∀(f:List Int→α),hsS (y8 b) m f=f (hs b m):=by
 induction m with
 |zero=>intro f;rw[ayu,a8g]
 |succ m ih=>
  intro f
  rw[azo]
  dsimp only
  rw[ih,a7w,a5f]
def an1(a b:Stm):Int:=or2 (fq a.nu b.nu) (Lib.compareBytes a.sd b.sd)
def ltN(a b:Stm):Bool:=decide (an1 a b<0)
def dl(a b:Stm):Bool:=decide (an1 a b=0)
theorem to_N:TO (fun p q:Int×List UInt8=>or2 (fq p.1 q.1) (Lib.compareBytes p.2 q.2)):=lq kg amb
theorem awz{a b:Stm}:an1 a b=0↔a.nu=b.nu∧a.sd=b.sd:=by
 have:=to_N.eq (a.nu,a.sd) (b.nu,b.sd)
 simpa only[an1,Prod.mk.injEq] using this
theorem u7{a b:Stm}:an1 a b<0↔0<an1 b a:=to_N.flip (a.nu,a.sd) (b.nu,b.sd)
def mb(s:Stm):Bool:=decide (aj s=0)&&decide (s.sk=s.au∧s.sd=dig s)
def o9(L:List Stm)(a:Int):List Stm:=L.filter fun s=>decide (s.au=a)&&mb s
theorem gh{L:List Stm}{a:Int}{s:Stm}:s∈o9 L a↔s∈L∧s.au=a∧mb s=true:=by
 simp[o9,List.mem_filter]
def CF(L:List Stm):Prop:= ∀s∈L,∀t∈L,mb s=true→mb t=true→s.au=t.au→s.nu=t.nu→s.sd=t.sd→s=t
theorem CF.own{L:List Stm}(h:CF L){a:Int}{s t:Stm}(hs:s∈o9 L a)(ht:t∈o9 L a)(h1:s.nu=t.nu)(h2:s.sd=t.sd):s=t:=by
 obtain⟨a1,a2,a3⟩:=gh.1 hs
 obtain⟨b1,b2,b3⟩:=gh.1 ht
 exact h s a1 t b1 a3 b3 (a2.trans b2.symm) h1 h2
def aqm(l:List Stm):List Stm:=l.mergeSort fun a b=> !decide (an1 b a<0)
def iq(L:List Stm)(a:Int):List Stm:=kp dl (aqm (o9 L a)) (aqm (o9 L a)).length
theorem af4(a b:Stm):dl a b=true↔(ltN a b=false∧ltN b a=false):=by
 have h1:=u7 (a:=a) (b:=b)
 have h2:=u7 (a:=b) (b:=a)
 unfold dl ltN
 rw[decide_eq_true_iff,decide_eq_false_iff_not,decide_eq_false_iff_not]
 constructor
 ·intro h;constructor<;>omega
 ·rintro⟨h3,h4⟩;omega
theorem bch{L:List Stm}{a:Int}(h:CF L):KO ltN (fun s=>s∈o9 L a) where
 irr x:=decide_eq_false (to_N.irr (x.nu,x.sd))
 tr x y z h1 h2:=decide_eq_true (to_N.tr (x.nu,x.sd) (y.nu,y.sd) (z.nu,z.sd) (of_decide_eq_true h1) (of_decide_eq_true h2))
 nt x y z h1 h2:=decide_eq_false (to_N.nt (x.nu,x.sd) (y.nu,y.sd) (z.nu,z.sd) (of_decide_eq_false h1) (of_decide_eq_false h2))
 tri x y hx hy h1 h2:=by
  have h3:=of_decide_eq_true ((af4 x y).2 ⟨h1,h2⟩)
  obtain⟨e1,e2⟩:=awz.1 h3
  exact h.own hx hy e1 e2
theorem asq(l:List Stm):(aqm l).Pairwise fun a b=>ltN b a=false:=by
 have:=List.pairwise_mergeSort (le:=fun a b:Stm=> !decide (an1 b a<0)) (fun a b c h1 h2=>by
  simp only[Bool.not_eq_true',decide_eq_false_iff_not]at h1 h2 ⊢
  exact to_N.nt (c.nu,c.sd) (b.nu,b.sd) (a.nu,a.sd) h2 h1) (fun a b=>by
  simp only[Bool.or_eq_true,Bool.not_eq_true',decide_eq_false_iff_not]
  have h1:=u7 (a:=b) (b:=a)
  omega) l
 exact this.imp fun h=>by simpa [ltN] using h
theorem uk{L:List Stm}{a:Int}(h:CF L):SS ltN (iq L a)∧∀s,s∈iq L a↔s∈o9 L a:=by
 have hp:=List.mergeSort_perm (o9 L a) fun a b:Stm=> !decide (an1 b a<0)
 have h:=(bch (a:=a) h).kp_inv af4 (l:=aqm (o9 L a)) (fun x hx=>hp.mem_iff.1 hx) (asq _) _ (Nat.le_refl _)
 refine⟨h.1,fun x=> ?_⟩
 rw[iq,h.2,List.take_length]
 exact hp.mem_iff
theorem acd(L:List Stm)(a:Int):(o9 L a).length≤L.length:=List.length_filter_le _ _
theorem ua(L:List Stm)(a:Int):(iq L a).length≤L.length:=by
 have h1:=ze dl (aqm (o9 L a)) (aqm (o9 L a)).length
 have h2:(aqm (o9 L a)).length=(o9 L a).length:=List.length_mergeSort _
 have h3:=acd L a
 unfold iq
 omega
def acz(M:List Stm)(i:Nat):Bool:=decide (0<i)&&decide ((el M i).nu=(el M (i - 1)).nu)
def ey(M:List Stm):List (Stm×Stm):=match (List.range M.length).find? (acz M)with|some i=>[(el M (i - 1),el M i)]|none=>[]
theorem a1p{M:List Stm}{i:Nat}(hi:i<M.length)(h:acz M i=true)(hb: ∀j,j<i→acz M j=false):ey M=[(el M (i - 1),el M i)]:=by
 have:(List.range M.length).find? (acz M)=some i:=List.find?_range_eq_some.2 ⟨h,by simpa using hi,fun j hj=>by simp[hb j hj]⟩
 rw[ey,this]
theorem aqg{M:List Stm}(hb: ∀j,j<M.length→acz M j=false):ey M=[]:=by
 have:(List.range M.length).find? (acz M)=none:=List.find?_range_eq_none.2 fun j hj=>by simp[hb j hj]
 rw[ey,this]
theorem acg(M:List Stm):(ey M=[]∧∀j,j<M.length→acz M j=false)∨∃i,0<i∧i<M.length∧ey M=[(el M (i - 1),el M i)]:=by
 cases h:(List.range M.length).find? (acz M)with
 |none=>exact .inl ⟨by rw[ey,h],fun j hj=>by simpa using List.find?_range_eq_none.1 h j hj⟩
 |some i=>
  obtain⟨h1,h2,_⟩:=List.find?_range_eq_some.1 h
  rw[acz,Bool.and_eq_true]at h1
  exact .inr ⟨i,of_decide_eq_true h1.1,by simpa using h2,by rw[ey,h]⟩
def axx(v:Vt)(s:Stm):Bool:=decide ((ofE s).2=0)&&(br (ofE s).1.c v.c&&decide (mz (ofE s).1.x v.x=0))
def aor(M:List Stm)(v:Vt):Stm:=el M (a3v (axx v) M).toNat
def afe(M:List Stm):List (Stm×Stm):=(jm M).flatMap fun c=>if 1<(ay M c).length then [(aor M (el (ay M c) 0),aor M (el (ay M c) 1))]else []
def pfs(k:Int)(l:List (Stm×Stm)):List (Int×Stm×Stm):=l.map fun p=>(k,p.1,p.2)
def vz(M:List Stm):List (Int×Stm×Stm):=if 1<M.length then pfs 1 (ey M)++pfs 2 (afe M)else []
def ld(L:List Stm)(n:Nat):List (Int×Stm×Stm):=(List.range n).flatMap fun a:Nat=>vz (iq L a)
def aw5(L:List Stm):List Int:=axv ((ld L 64).map fun p=>p.2.1.au)
def gB(L:List Stm)(a:Int):Bool:=(o9 L a).any fun s=>(o9 L a).any fun t=>decide (s.nu=t.nu)&&decide (s≠t)
theorem aj4{L:List Stm}{a:Int}:gB L a=true↔∃s∈o9 L a,∃t∈o9 L a,s.nu=t.nu∧s≠t:=by
 simp[gB,List.any_eq_true]
theorem baz{a b:Stm}(h:ltN a b=true):a.nu≤b.nu:=by
 have h1:=of_decide_eq_true h
 unfold an1 or2 fq at h1
 repeat' split at h1
 all_goals omega
theorem alb{L:List Stm}{a:Int}(h:CF L):ey (iq L a)≠[]↔gB L a=true:=by
 obtain⟨hs,hm⟩:=uk (a:=a) h
 rw[aj4]
 constructor
 ·intro hne
  rcases acg (iq L a)with ⟨h1,_⟩|⟨i,h0,hi,h2⟩
  ·exact absurd h1 hne
  ·have hadj:acz (iq L a) i=true:=by
    cases hf:(List.range (iq L a).length).find? (acz (iq L a))with
    |none=>rw[ey,hf]at h2;cases h2
    |some k=>
     obtain⟨k1,k2,_⟩:=List.find?_range_eq_some.1 hf
     have k3:ey (iq L a)=[(el (iq L a) (k - 1),el (iq L a) k)]:=by rw[ey,hf]
     rw[h2]at k3
     rw[acz,Bool.and_eq_true]at k1
     have k4:=of_decide_eq_true k1.2
     simp only[List.cons.injEq,Prod.mk.injEq,and_true]at k3
     rw[acz,decide_eq_true h0,Bool.true_and,decide_eq_true_iff,k3.1,k3.2]
     exact k4
   rw[acz,Bool.and_eq_true]at hadj
   have hnu:=of_decide_eq_true hadj.2
   have e1:=bh hi
   have e2:=bh (show i - 1<(iq L a).length by omega)
   refine⟨_,(hm _).1 e1,_,(hm _).1 e2,hnu,fun he=> ?_⟩
   have hlt:=List.pairwise_iff_getElem.1 hs (i - 1) i (by omega) hi (by omega)
   rw[←elG _ _ (by omega),←elG _ _ hi,he,(bch (a:=a) h).irr]at hlt
   cases hlt
 ·rintro⟨s,s1,t,t1,hnu,hne⟩ hnil
  rcases acg (iq L a)with ⟨_,h2⟩|⟨i,_,_,h3⟩
  rotate_left
  ·rw[hnil]at h3;cases h3
  obtain⟨i,hi,rfl⟩:=adc ((hm s).2 s1)
  obtain⟨j,hj,rfl⟩:=adc ((hm t).2 t1)
  have mono: ∀i j,i<j→j<(iq L a).length→(el (iq L a) i).nu≤(el (iq L a) j).nu:=fun i j hij hj=>by
   have hlt:=List.pairwise_iff_getElem.1 hs i j (by omega) hj hij
   rw[←elG _ _ (by omega),←elG _ _ hj]at hlt
   exact baz hlt
  have key: ∀i j,i<j→j<(iq L a).length→(el (iq L a) i).nu=(el (iq L a) j).nu→False:=fun i j hij hj he=>by
   have h4:=h2 (i+1) (by omega)
   rw[acz,decide_eq_true (by omega),Bool.true_and,Nat.add_sub_cancel,decide_eq_false_iff_not]at h4
   have m1:=mono i (i+1) (by omega) (by omega)
   by_cases hij2:i+1=j
   ·exact h4 (by rw[hij2];exact he.symm)
   ·have m2:=mono (i+1) j (by omega) hj
    exact h4 (by omega)
  rcases Nat.lt_trichotomy i j with h5|h5|h5
  ·exact key i j h5 hj hnu
  ·subst h5;exact hne rfl
  ·exact key j i h5 hi hnu.symm
def UNI(L:List Stm):Prop:= ∀c,∀s∈L,∀t∈L,okV c s=true→okV c t=true→s.au=t.au→s.nu=t.nu
theorem asr{p:Stm→Bool}{l:List Stm}(h:l.any p=true): ∃i:Nat,a3v p l=(i:Int)∧i<l.length∧p (el l i)=true:=by
 cases hf:l.findIdx? p with
 |none=>
  rw[List.findIdx?_eq_none_iff]at hf
  rw[List.any_eq_true]at h
  obtain⟨x,hx,hp⟩:=h
  rw[hf x hx]at hp
  cases hp
 |some i=>
  obtain⟨h1,h2,_⟩:=List.findIdx?_eq_some_iff_getElem.1 hf
  exact⟨i,by rw[a3v,hf],h1,by rw[elG _ _ h1];exact h2⟩
theorem avw{M:List Stm}{c:Cs}{v:Vt}(h:v∈ay M c):M.any (axx v)=true:=by
 obtain⟨s,hs,ho,rfl⟩:=ip.1 h
 refine List.any_eq_true.2 ⟨s,hs,?_⟩
 have h1:=(Bool.and_eq_true_iff.1 ho).1
 have h2:(ofE s).2=0:=of_decide_eq_true (Bool.and_eq_true_iff.1 h1).1
 unfold axx
 rw[decide_eq_true h2,Bool.true_and]
 have e1:(dx s).1=(ofE s).1:=rfl
 rw[e1,(aba _ _).2 rfl]
 simp[br]
theorem a1c{M:List Stm}{c:Cs}{v:Vt}(h:v∈ay M c):aor M v∈M:=by
 obtain⟨i,h1,h2,_⟩:=asr (avw h)
 unfold aor
 rw[h1,Int.toNat_natCast]
 exact bh h2
theorem ao9{L:List Stm}{a:Int}(h:CF L)(hu:UNI L)(hd:afe (iq L a)≠[]):gB L a=true:=by
 obtain⟨_,hm⟩:=uk (a:=a) h
 obtain⟨p,hp⟩:=List.exists_mem_of_ne_nil _ hd
 obtain⟨c,_,hc⟩:=List.mem_flatMap.1 hp
 split at hc
 rotate_left
 ·simp at hc
 rename_i hl
 have hss:=(abx (iq L a) c).1
 have hlt:=List.pairwise_iff_getElem.1 hss 0 1 (by omega) hl (by omega)
 obtain⟨s0,s1,s2,s3⟩:=ip.1 (List.getElem_mem (show 0<(ay (iq L a) c).length by omega))
 obtain⟨t0,t1,t2,t3⟩:=ip.1 (List.getElem_mem hl)
 have m1:=(hm _).1 s1
 have m2:=(hm _).1 t1
 obtain⟨a1,a2,_⟩:=gh.1 m1
 obtain⟨b1,b2,_⟩:=gh.1 m2
 refine aj4.2 ⟨s0,m1,t0,m2,hu c s0 a1 t0 b1 s2 t2 (a2.trans b2.symm),fun he=> ?_⟩
 subst he
 rw[←s3,←t3]at hlt
 have:=(bae c).irr (dx s0).1
 rw[this]at hlt
 cases hlt
theorem a17{L:List Stm}{a:Int}(h:CF L): ∀p∈vz (iq L a),p.2.1.au=a:=fun p hp=>by
 obtain⟨_,hm⟩:=uk (a:=a) h
 unfold vz at hp
 split at hp
 rotate_left
 ·simp at hp
 rcases List.mem_append.1 hp with hp|hp
 ·obtain⟨q,hq,rfl⟩:=List.mem_map.1 hp
  rcases acg (iq L a)with ⟨h1,_⟩|⟨i,h0,hi,h2⟩
  ·rw[h1]at hq;simp at hq
  ·rw[h2,List.mem_singleton]at hq
   rw[hq]
   exact(gh.1 ((hm _).1 (bh (show i - 1<(iq L a).length by omega)))).2.1
 ·obtain⟨q,hq,rfl⟩:=List.mem_map.1 hp
  obtain⟨c,_,hc⟩:=List.mem_flatMap.1 hq
  split at hc
  rotate_left
  ·simp at hc
  rename_i hl
  rw[List.mem_singleton]at hc
  rw[hc]
  exact(gh.1 ((hm _).1 (a1c (bh (show 0<(ay (iq L a) c).length by omega))))).2.1
theorem akm{L:List Stm}{a:Int}(h:CF L)(hu:UNI L):vz (iq L a)≠[]↔gB L a=true:=by
 obtain⟨_,hm⟩:=uk (a:=a) h
 constructor
 ·intro hne
  unfold vz at hne
  split at hne
  ·by_cases h1:ey (iq L a)=[]
   ·refine ao9 h hu fun h2=>hne ?_
    rw[h1,h2]
    rfl
   ·exact(alb h).1 h1
  ·exact absurd rfl hne
 ·intro hg
  have h1:=(alb h).2 hg
  obtain⟨s,s1,t,t1,_,hne⟩:=aj4.1 hg
  have hl:1<(iq L a).length:=by
   have m1:=(hm s).2 s1
   have m2:=(hm t).2 t1
   match hM:iq L a,m1,m2 with
   |[],m1,_=>simp at m1
   |[x],m1,m2=>simp at m1 m2;exact absurd (m1.trans m2.symm) hne
   |_::_::_,_,_=>simp
  unfold vz
  rw[if_pos hl]
  intro h2
  obtain⟨h3,_⟩:=List.append_eq_nil_iff.1 h2
  exact h1 (List.map_eq_nil_iff.1 h3)
theorem a5h{L:List Stm}(h:CF L)(hu:UNI L):aw5 L=cr (gB L) 64:=by
 have hmap:(ld L 64).map (fun p=>p.2.1.au)=(List.range 64).flatMap fun a:Nat=>List.replicate (vz (iq L a)).length (a:Int):=by
  unfold ld
  rw[List.map_flatMap]
  congr 1
  funext a
  refine List.eq_replicate_iff.2 ⟨by rw[List.length_map],fun b hb=> ?_⟩
  obtain⟨p,hp,rfl⟩:=List.mem_map.1 hb
  exact a17 h p hp
 have hmem: ∀k:Int,k∈(ld L 64).map (fun p=>p.2.1.au)↔(0≤k∧k<64)∧gB L k=true:=fun k=>by
  rw[hmap,List.mem_flatMap]
  constructor
  ·rintro⟨a,ha,hk⟩
   obtain⟨h1,rfl⟩:=List.mem_replicate.1 hk
   have ha:=List.mem_range.1 ha
   exact⟨by omega,(akm h hu).1 fun h2=>h1 (by rw[h2];rfl)⟩
  ·rintro⟨⟨h1,h2⟩,h3⟩
   obtain⟨a,rfl⟩: ∃a:Nat,k=a:=⟨k.toNat,by omega⟩
   refine⟨a,List.mem_range.2 (by omega),List.mem_replicate.2 ⟨fun h4=> ?_,rfl⟩⟩
   exact(akm h hu).2 h3 (List.eq_nil_of_length_eq_zero h4)
 have hsort:((ld L 64).map fun p=>p.2.1.au).Pairwise fun x y=>decide (x≤y)=true:=by
  rw[hmap,List.pairwise_flatMap]
  refine⟨fun a _=>List.pairwise_replicate.2 (.inr (by simp)),?_⟩
  refine List.Pairwise.imp ?_ (List.pairwise_lt_range (n:=64))
  intro a b hab x hx y hy
  rw[(List.mem_replicate.1 hx).2,(List.mem_replicate.1 hy).2]
  simp
  omega
 have hs:srt ((ld L 64).map fun p=>p.2.1.au)=(ld L 64).map fun p=>p.2.1.au:=List.mergeSort_of_pairwise hsort
 unfold aw5
 rw[←hs,azn _ (fun x hx=>((hmem x).1 hx).1)]
 unfold cr
 refine List.filter_congr fun k hk=> ?_
 obtain⟨a,ha,rfl⟩:=List.mem_map.1 hk
 have ha:=List.mem_range.1 ha
 rw[Bool.eq_iff_iff,decide_eq_true_iff,hmem]
 exact⟨fun h=>h.2,fun h=>⟨by omega,h⟩⟩
theorem als(a b:Stm):Den Tryz.prog 150 [.agg (sm a),.agg (sm b)] [] (.int .i64 (an1 a b)) [] []:=by
 refine aa Tryz.mixed Tryz.func150 rfl Tryz.call150 Tryz.ntmps150 (congrArg Array.toList Tryz.results150) (by simp) (by kernel_rfl) [] (exts:=[]) rfl rfl ?_
 simp only[go_sem]
 refine call (dq a.nu b.nu) [] ?_
 simp only[go_sem]
 refine call (y2 a.sd b.sd) [] ?_
 simp only[go_sem]
 refine call (uw [fq a.nu b.nu,Lib.compareBytes a.sd b.sd] (by simp[big])) [] ?_
 simp only[go_sem]
 refine⟨ag (by kernel_rfl),?_⟩
 simp only[orL,an1,or2]
 repeat' split
 all_goals simp_all
theorem ajj(a b:Stm):Den Tryz.prog 154 [.agg (sm a),.agg (sm b),.ptr 1000000 0] [.cells [.fn 150 []]] (.bool (dl a b)) [] [.cells [.fn 150 []]]:=by
 refine aa Tryz.mixed Tryz.func154 rfl Tryz.call154 Tryz.ntmps154 (congrArg Array.toList Tryz.results154) (by simp) (by kernel_rfl) [] (exts:=[1000000]) rfl rfl ?_
 simp only[go_sem]
 refine call (als a b) [] ?_
 simp only[go_sem]
 rfl
theorem asj{L:List Stm}{a:Int}(l:List Stm)(hl:l.length<4611686018427387904)(h:CF L)(hm: ∀s∈l,s∈o9 L a):
  Den Tryz.prog 152 [.os 1000000 l.length,.fn 150 []] [.arr 100 13 false (l.map sm)] (.tup []) [] [.arr 100 13 false ((aqm l).map sm)]:=by
 refine tz (F:=sm) (cf:=an1) (enters_of Tryz.func152 (by kernel_rfl) rfl) hl
  (fun m enc hk h1 c hO b cap d w hcmp hH hblk hsz=>AnyQ.slices_SortFunc Tryz.sortStm 13 (fun _=>by kernel_rfl) (fun _=>by kernel_rfl) enc hk h1 c hO _ _ b 0 cap d w (enters_of Tryz.func150 (by kernel_rfl) rfl) hcmp hH hblk hsz)
  (fun p cap fv w=>AnyF.slices_SortFunc_none Tryz.sortStm p cap fv w)
  (fun x hx y hy=>als x y) (fun x _=>to_N.irr (x.nu,x.sd)) (fun x _ y _ z _=>to_N.tr (x.nu,x.sd) (y.nu,y.sd) (z.nu,z.sd)) (fun x _ y _ z _=>to_N.nt (x.nu,x.sd) (y.nu,y.sd) (z.nu,z.sd)) (fun x hx y hy h1 h2=> ?_) (List.mergeSort_perm _ _) ?_
 ·exact(bch (a:=a) h).tri x y (hm x hx) (hm y hy) (decide_eq_false h1) (decide_eq_false h2)
 ·exact(asq l).imp fun h=>of_decide_eq_false h
theorem afg(l:List Stm)(hl:big l.length)(hd: ∀i,0<i→i<l.length→dl (el l i) (el l (i - 1))=false):
  Den Tryz.prog 153 [.os 1000000 l.length,.fn 154 [.ptr 1000001 0]] [.arr 100 13 false (l.map sm),.cells [.fn 150 []]] (.os 1000000 l.length) [] [.arr 100 13 false (l.map sm),.cells [.fn 150 []]]:=by
 refine aa Tryz.mixed Tryz.func153 rfl Tryz.call153 Tryz.ntmps153 (congrArg Array.toList Tryz.results153) (by simp) (by kernel_rfl) [] (exts:=[1000000,1000001]) rfl rfl ?_
 by_cases h2:(l.length:Int)<2
 ·simp only[go_sem,h2]
 simp only[go_sem,h2]
 refine loop Tryz.mixed 1 (fun i:Nat=>[(0,.os 1000000 l.length),(1,.fn 154 [.ptr 1000001 0]),(5,.int .i64 i)]) (fun _=>[(1000000,.arr 100 13 false (l.map sm)),(1000001,.cells [.fn 150 []])]) (fun i=>1≤i∧i≤l.length) (fun i=>l.length - i) (by kernel_rfl) ⟨Nat.le_refl _,by omega⟩ ?_ ?_
 ·simp only[go_sem]
 ·rintro i ⟨hi0,hi⟩
  by_cases hlt:i<l.length
  ·have h1:(i:Int)<(l.length:Int):=by omega
   obtain⟨j,rfl⟩: ∃j,i=j+1:=⟨i - 1,by omega⟩
   have hw:IntKind.i64.wrap (((j+1:Nat):Int) - 1)=(j:Int):=by rw[ae]<;>omega
   have hj:j<l.length:=by omega
   simp only[go_sem,h1,hlt,hw,hj]
   have hne:=hd (j+1) (by omega) hlt
   rw[Nat.add_sub_cancel]at hne
   refine call (ajj (el l (j+1)) (el l j)) [1000001] ?_
   simp only[go_sem,hne]
   refine⟨ag (by kernel_rfl),j+1+1,⟨⟨by omega,by omega⟩,by omega⟩,?_⟩
   rw[ae]<;>omega
  ·have h1: ¬(i:Int)<(l.length:Int):=by omega
   simp only[go_sem,h1]
theorem acn(l:List Stm)(hl:big l.length){k0:Nat}(h1:0<k0)(h2:k0<l.length)(h3:dl (el l k0) (el l (k0 - 1))=true)(h4: ∀j,0<j→j<k0→dl (el l j) (el l (j - 1))=false):
  Den Tryz.prog 153 [.os 1000000 l.length,.fn 154 [.ptr 1000001 0]] [.arr 100 13 false (l.map sm),.cells [.fn 150 []]] (.vs ((kp dl l l.length).map sm)) [] [.arr 100 13 true ((kp dl l l.length).map sm++List.replicate (l.length - (kp dl l l.length).length) zS),.cells [.fn 150 []]]:=by
 refine aa Tryz.mixed Tryz.func153 rfl Tryz.call153 Tryz.ntmps153 (congrArg Array.toList Tryz.results153) (by simp) (by kernel_rfl) [] (exts:=[1000000,1000001]) rfl rfl ?_
 have hlen: ¬(l.length:Int)<2:=by omega
 simp only[go_sem,hlen]
 refine rc Tryz.mixed 1 (fun i:Nat=>[(0,.os 1000000 l.length),(1,.fn 154 [.ptr 1000001 0]),(5,.int .i64 i)]) (fun _=>[(1000000,.arh 100 13 (l.map sm)),(1000001,.cells [.fn 150 []])]) (fun i=>1≤i∧i≤k0) (fun i=>k0 - i) (by kernel_rfl) ⟨Nat.le_refl _,by omega⟩ ?_ ?_
 ·refine Cv.trans (Cv.opn (n:=1000000) (by rfl)) (Cv.wk ?_)
  have hin:=aw [1000000,1000001] sm (fun _=>rfl) l
  simp only[go_sem,hin]
 ·rintro i ⟨hi0,hi⟩
  have hlt:i<l.length:=by omega
  have g1:(i:Int)<(l.length:Int):=by omega
  obtain⟨j,rfl⟩: ∃j,i=j+1:=⟨i - 1,by omega⟩
  have hw:IntKind.i64.wrap (((j+1:Nat):Int) - 1)=(j:Int):=by rw[ae]<;>omega
  have hj:j<l.length:=by omega
  have cq:=ajj (el l (j+1)) (el l j)
  by_cases hk:j+1<k0
  ·have hne:=h4 (j+1) (by omega) hk
   rw[Nat.add_sub_cancel]at hne
   rw[hne]at cq
   simp only[go_sem,g1,hlt,hw,hj]
   refine call cq [1000001] ?_
   simp only[go_sem]
   refine⟨ag (by kernel_rfl),j+1+1,⟨⟨by omega,by omega⟩,by omega⟩,Cv.wk ?_⟩
   have hin:=aw [1000000,1000001] sm (fun _=>rfl) l
   simp only[go_sem,hin]
   rw[ae]<;>omega
  ·obtain rfl:k0=j+1:=by omega
   rw[Nat.add_sub_cancel]at h3
   rw[h3]at cq
   simp only[go_sem,g1,hlt,hw,hj]
   refine call cq [1000001] ?_
   simp only[go_sem,g1,hlt,hw,hj]
   refine⟨ag (by kernel_rfl),?_⟩
   have kf:kp dl l (j+1+1)=l.take (j+1):=by
    have:=xc dl l (j+1) (by omega) h4
    rw[kp,if_neg (fun h=>by rcases h with h|h;omega;rw[Nat.add_sub_cancel,h3]at h;cases h),this,List.append_nil]
   refine rc Tryz.mixed (0,l) (fun s:Nat×List Stm=>[(0,.os 1000000 l.length),(1,.fn 154 [.ptr 1000001 0]),(5,.int .i64 (kp dl l (j+1+(s.1+1))).length),(6,.osl 1000000 l.length (j+1)),(7,.int .i64 ((s.1+1:Nat):Int))]) (fun s=>[(1000000,.arh 100 13 (s.2.map sm)),(1000001,.cells [.fn 150 []])])
    (fun s=>j+1+(s.1+1)≤l.length∧s.2.length=l.length∧(kp dl l (j+1+(s.1+1))).length<j+1+(s.1+1)∧s.2.take (kp dl l (j+1+(s.1+1))).length=kp dl l (j+1+(s.1+1))∧∀a,(kp dl l (j+1+(s.1+1))).length≤a→el s.2 a=el l a) (fun s=>l.length - s.1) (by kernel_rfl) ?_ ?_ ?_
   ·have hlt':(l.take (j+1)).length=j+1:=by simp;omega
    refine⟨by simp only;omega,rfl,?_,?_,fun a _=>rfl⟩
    ·show(kp dl l (j+1+1)).length<j+1+1
     rw[kf,hlt'];omega
    ·show l.take (kp dl l (j+1+1)).length=kp dl l (j+1+1)
     rw[kf,hlt']
   ·refine Cv.wk ?_
    have hlt':(l.take (j+1)).length=j+1:=by simp;omega
    have hin:=aw [1000000,1000001] sm (fun _=>rfl) l
    simp only[go_sem,hin,kf,hlt']
   ·rintro⟨n,L⟩ ⟨i1,i2,i3,i4,i5⟩
    simp only at i1 i2 i3 i4 i5
    simp only
    have ks:kp dl l (j+1+(n+1)+1)=kp dl l (j+1+(n+1))++if dl (el l (j+1+(n+1))) (el l (j+1+n))=false then [el l (j+1+(n+1))]else []:=by
     rw[kp]
     have h0: ¬j+1+(n+1)=0:=by omega
     simp only[h0,false_or]
     rfl
    have k0p:0<(kp dl l (j+1+(n+1))).length:=ar7 _ _ (by omega)
    generalize hO:kp dl l (j+1+(n+1))=o at*
    by_cases hm:j+1+(n+1)<l.length
    ·have g2:((n+1:Nat):Int)<((l.length - (j+1):Nat):Int):=by omega
     have g3:((j+1:Nat):Int)+((n+1:Nat):Int)<(l.length:Int):=by omega
     have g4:((j+1:Nat):Int)+(n:Int)<(l.length:Int):=by omega
     have g5:IntKind.i64.wrap (((n+1:Nat):Int) - 1)=(n:Int):=by rw[ae]<;>omega
     have g6:j+1+(n+1)<L.length:=by omega
     have g7:j+1+n<L.length:=by omega
     have e1:el L (j+1+(n+1))=el l (j+1+(n+1)):=i5 _ (by omega)
     have e2:el L (j+1+n)=el l (j+1+n):=i5 _ (by omega)
     have ks':kp dl l (j+1+((n+1)+1))=o++if dl (el l (j+1+(n+1))) (el l (j+1+n))=false then [el l (j+1+(n+1))]else []:=ks
     have cq2:=ajj (el l (j+1+(n+1))) (el l (j+1+n))
     have hm2:j+1+n<l.length:=by omega
     cases hsame:dl (el l (j+1+(n+1))) (el l (j+1+n))with
     |true=>
      rw[hsame,if_neg (by simp),List.append_nil]at ks'
      rw[hsame]at cq2
      simp only[go_sem,g2,g3,g4,g5,g6,g7,i2,e1,e2,hm,hm2]
      refine call cq2 [1000001] ?_
      simp only[go_sem,g2,g3,g4,g5,g6,g7,i2,e1,e2,hm,hm2]
      refine⟨ag (by kernel_rfl),(n+1,L),⟨⟨by simp only;omega,i2,?_,?_,fun a ha=>i5 a ?_⟩,by simp only;omega⟩,Cv.wk ?_⟩
      ·show(kp dl l (j+1+((n+1)+1))).length<_
       rw[ks'];simp only;omega
      ·show L.take (kp dl l (j+1+((n+1)+1))).length=_
       rw[ks'];exact i4
      ·have ha':(kp dl l (j+1+((n+1)+1))).length≤a:=ha
       rwa [ks']at ha'
      ·have hin:=aw [1000000,1000001] sm (fun _=>rfl) L
       simp only[go_sem,ks',hin]
       rw[ae]<;>omega
     |false=>
      rw[hsame,if_pos rfl]at ks'
      rw[hsame]at cq2
      have g8:o.length<l.length:=by omega
      simp only[go_sem,g2,g3,g4,g5,g6,g7,g8,i2,e1,e2,hm,hm2]
      refine call cq2 [1000001] ?_
      simp only[go_sem,g2,g3,g4,g5,g6,g7,g8,i2,e1,e2,hm,hm2]
      refine⟨ag (by kernel_rfl),(n+1,L.set o.length (el l (j+1+(n+1)))),⟨⟨by simp only;omega,by simp only[List.length_set];exact i2,?_,?_,fun a ha=> ?_⟩,by simp only;omega⟩,Cv.wk ?_⟩
      ·show(kp dl l (j+1+((n+1)+1))).length<_
       rw[ks',List.length_append,List.length_singleton];simp only;omega
      ·show(L.set o.length (el l (j+1+(n+1)))).take (kp dl l (j+1+((n+1)+1))).length=kp dl l (j+1+((n+1)+1))
       rw[ks'];exact pd (by omega) i4
      ·have ha':(kp dl l (j+1+((n+1)+1))).length≤a:=ha
       rw[ks',List.length_append,List.length_singleton]at ha'
       show el (L.set o.length _) a=_
       rw[adw (by omega)]
       exact i5 a (by omega)
      ·have hin:=aw [1000000,1000001] sm (fun _=>rfl) (L.set o.length (el l (j+1+(n+1))))
       have hset:(L.map sm).set o.length [PV.int IntKind.i64 (el l (j+1+(n+1))).au,PV.int IntKind.i64 (el l (j+1+(n+1))).nu,PV.str (el l (j+1+(n+1))).prev,PV.int IntKind.i64 (el l (j+1+(n+1))).ti,PV.int IntKind.i64 (el l (j+1+(n+1))).kd,PV.int IntKind.i64 (el l (j+1+(n+1))).a,PV.int IntKind.i64 (el l (j+1+(n+1))).b,PV.int IntKind.i64 (el l (j+1+(n+1))).c,PV.vs (List.map Am.i1 (el l (j+1+(n+1))).li),PV.vs (List.map pn (el l (j+1+(n+1))).pins),PV.str (el l (j+1+(n+1))).body,PV.int IntKind.i64 (el l (j+1+(n+1))).sk,PV.str (el l (j+1+(n+1))).sd]=(L.set o.length (el l (j+1+(n+1)))).map sm:=by rw[List.map_set];rfl
       have hol:(o++[el l (j+1+(n+1))]).length=o.length+1:=by simp
       simp only[go_sem,ks',hset,hin,hol]
       exact⟨by rw[ae]<;>omega,by rw[ae]<;>omega⟩
    ·have hend:j+1+(n+1)=l.length:=by omega
     have g2: ¬((n+1:Nat):Int)<((l.length - (j+1):Nat):Int):=by omega
     have g3:(o.length:Int)<(l.length:Int):=by omega
     rw[hend]at hO
     rw[hO]
     have htk:(L.map sm).take o.length=o.map sm:=by rw[←List.map_take,i4]
     have hpu: ∀σ,ij σ (o.map sm++List.replicate (l.length - o.length) zS)=some (o.map sm++List.replicate (l.length - o.length) zS,[]):=fun σ=>kc fun x hx=>by
      rcases List.mem_append.1 hx with hx|hx
      ·obtain⟨c,_,rfl⟩:=List.mem_map.1 hx
       rfl
      ·rw[List.eq_of_mem_replicate hx]
       rfl
     have g4:(o.length:Int)≤(l.length:Int):=by omega
     have g5:(o.map sm++List.replicate (l.length - o.length) zS).length=l.length:=by simp;omega
     have g6:(o.map sm++List.replicate (l.length - o.length) zS).take o.length=o.map sm:=by simp
     simp only[go_sem,g2,g3,i2,htk]
     refine kz _ _ ?_
     have g7:o.length<l.length:=by omega
     simp only[go_sem,g2,g3,i2,htk,g7,←bcy,hpu,g4,g5,g6]
     refine ahl _ ?_
     simp only[go_sem]
theorem acq(l:List Stm)(hl:big l.length):
  ∃new,new.length=l.length∧Den Tryz.prog 153 [.os 1000000 l.length,.fn 154 [.ptr 1000001 0]] [.arr 100 13 false (l.map sm),.cells [.fn 150 []]] (.vs ((kp dl l l.length).map sm)) [] [.arr 100 13 true new,.cells [.fn 150 []]]:=by
 rcases tu dl l l.length (Nat.le_refl _)with h|⟨k0,h1,h2,h3,h4⟩
 ·rw[ai5 _ _ h]
  exact⟨_,by simp,(afg l hl h).vsE (by simp)⟩
 ·exact⟨_,by have:=ze dl l l.length;simp;omega,acn l hl h1 h2 h3 h4⟩
def apj(L:List Stm)(a:Int)(i:Nat):List Stm:=o9 (L.take i) a
theorem at8{L:List Stm}{a:Int}{i:Nat}(h:i<L.length):apj L a (i+1)=apj L a i++(if(decide ((el L i).au=a)&&mb (el L i))=true then [el L i]else []):=by
 unfold apj o9
 rw[bm h,List.filter_append]
 congr 1
 simp only[List.filter_cons,List.filter_nil]
theorem ayr(L:List Stm)(a:Int)(i:Nat):(apj L a i).length≤L.length:=by
 have h1:=acd (L.take i) a
 have h2:(L.take i).length≤L.length:=by rw[List.length_take];omega
 unfold apj
 omega
theorem a00(L:List Stm)(a:Int):apj L a L.length=o9 L a:=by rw[apj,List.take_length]
theorem a4k(L:List Stm)(a:Int)(hl:L.length≤1000000)(hs: ∀s∈L,ace s)(h:CF L):Den Tryz.prog 113 [.vs (L.map sm),.int .i64 a] [] (.vs ((iq L a).map sm)) [] []:=by
 refine aa Tryz.mixed Tryz.func113 rfl Tryz.call113 Tryz.ntmps113 (congrArg Array.toList Tryz.results113) (by simp) (by kernel_rfl) [] (exts:=[]) rfl rfl ?_
 simp only[go_sem]
 refine cy 5 99 100 13 false ?_ ?_ ?_ (by omega)
 ·refine loop Tryz.mixed 0 (fun i:Nat=>[(1,.int .i64 a),(5,.os 99 (apj L a i).length),(9,.vs (L.map sm)),(10,.int .i64 L.length),(11,.int .i64 i)]) (fun i=>[(99,.arr 100 13 false ((apj L a i).map sm))]) (fun i=>i≤L.length) (fun i=>L.length - i) (by kernel_rfl) (Nat.zero_le _) ?_ ?_
  ·simp only[go_sem]
   exact⟨rfl,rfl⟩
  ·intro i hi
   by_cases hlt:i<L.length
   ·have h1:(i:Int)<(L.length:Int):=by omega
    have hsu:=at8 (a:=a) hlt
    have hln:=ayr L a i
    have hbs:=hs _ (bh hlt)
    have c1:=qp (el L i) hbs
    have c2:=fun h:aj (el L i)=0=>p9 (el L i) (afn h)
    rw[jj]at c1 c2
    have no:(decide ((el L i).au=a)&&mb (el L i))=false→apj L a (i+1)=apj L a i:=fun hh=>by rw[hsu,hh,if_neg (by simp),List.append_nil]
    by_cases k1:a=(el L i).au
    rotate_left
    ·have k1': ¬(el L i).au=a:=fun e=>k1 e.symm
     have n0:=no (by simp[k1'])
     simp only[go_sem,h1,hlt,k1,k1']
     refine⟨i+1,⟨by omega,by omega⟩,?_⟩
     rw[n0]
     exact⟨⟨rfl,by rw[ae]<;>omega⟩,rfl⟩
    have kt:=eq_true k1
    have kt':=eq_true k1.symm
    simp only[go_sem,h1,hlt,kt,kt']
    refine call c1 [] ?_
    by_cases k2:aj (el L i)=0
    rotate_left
    ·have n0:=no (by simp[mb,k2])
     simp only[go_sem,k2,kt,kt']
     refine⟨i+1,⟨by omega,by omega⟩,?_⟩
     rw[n0]
     exact⟨⟨rfl,by rw[ae]<;>omega⟩,rfl⟩
    simp only[go_sem,k2,kt,kt']
    refine call (c2 k2) [] ?_
    by_cases k3:(el L i).sk=(el L i).au∧(el L i).sd=dig (el L i)
    rotate_left
    ·have n0:=no (by simp[mb,k3])
     simp only[go_sem,k3,k2,kt,kt']
     refine⟨i+1,⟨by omega,by omega⟩,?_⟩
     rw[n0]
     exact⟨⟨rfl,by rw[ae]<;>omega⟩,rfl⟩
    have y0:apj L a (i+1)=apj L a i++[el L i]:=by rw[hsu,if_pos (by simp[mb,←k1,k2];exact⟨by rw[k1];exact k3.1,k3.2⟩)]
    simp only[go_sem,k3,k2,kt,kt']
    refine⟨by omega,i+1,⟨by omega,by omega⟩,?_⟩
    rw[y0]
    exact⟨⟨by simp,by rw[ae]<;>omega⟩,by simp[jj,k3]⟩
   ·have h1: ¬(i:Int)<(L.length:Int):=by omega
    have:i=L.length:=by omega
    subst this
    simp only[go_sem,h1]
    have hfl:=acd L a
    rw[a00]
    refine call (asj (o9 L a) (by omega) h fun s hs=>hs) [99] ?_
    have hsl:(aqm (o9 L a)).length=(o9 L a).length:=List.length_mergeSort _
    simp only[go_sem,hsl]
    obtain⟨new,hnl,hcc⟩:=acq (aqm (o9 L a)) (by simp only[big];omega)
    rw[hsl]at hcc hnl
    refine⟨Nat.le_refl _,?_⟩
    have hol:iq L a=kp dl (aqm (o9 L a)) (aqm (o9 L a)).length:=rfl
    rw[hol,hsl]
    refine call hcc [99,8] ?_
    simp only[go_sem,hsl]
    omega
 ·simp only[go_sem]
 ·simp only[go_sem]
def pf(p:Int×Stm×Stm):List PV:= .int .i64 p.1::(sm p.2.1++sm p.2.2)
theorem a6v(p:Int×Stm×Stm):pf p=[.int .i64 p.1,.int .i64 p.2.1.au,.int .i64 p.2.1.nu,.str p.2.1.prev,.int .i64 p.2.1.ti,.int .i64 p.2.1.kd,.int .i64 p.2.1.a,.int .i64 p.2.1.b,.int .i64 p.2.1.c,.vs (p.2.1.li.map i1),.vs (p.2.1.pins.map pn),.str p.2.1.body,.int .i64 p.2.1.sk,.str p.2.1.sd,
 .int .i64 p.2.2.au,.int .i64 p.2.2.nu,.str p.2.2.prev,.int .i64 p.2.2.ti,.int .i64 p.2.2.kd,.int .i64 p.2.2.a,.int .i64 p.2.2.b,.int .i64 p.2.2.c,.vs (p.2.2.li.map i1),.vs (p.2.2.pins.map pn),.str p.2.2.body,.int .i64 p.2.2.sk,.str p.2.2.sd]:=(rfl)
attribute [go_sem] a6v
theorem awx(M:List Stm)(hl:big M.length):Den Tryz.prog 114 [.vs (M.map sm)] [] (.vs ((pfs 1 (ey M)).map pf)) [] []:=by
 refine aa Tryz.mixed Tryz.func114 rfl Tryz.call114 Tryz.ntmps114 (congrArg Array.toList Tryz.results114) (by simp) (by kernel_rfl) [] (exts:=[]) rfl rfl ?_
 simp only[go_sem]
 refine loop Tryz.mixed 1 (fun i:Nat=>[(0,.vs (M.map sm)),(3,.int .i64 i)]) (fun _=>[]) (fun i=>1≤i∧(i≤M.length∨i=1)∧∀j,j<i→acz M j=false) (fun i=>M.length - i) (by kernel_rfl) ⟨Nat.le_refl _,.inr rfl,fun j hj=>by rw[show j=0 by omega];rfl⟩ ?_ ?_
 ·simp only[go_sem]
 ·rintro i ⟨h0,hi,hp⟩
  by_cases hlt:i<M.length
  ·have h1:(i:Int)<(M.length:Int):=by omega
   obtain⟨j,rfl⟩: ∃j,i=j+1:=⟨i - 1,by omega⟩
   have hw:IntKind.i64.wrap (((j+1:Nat):Int) - 1)=(j:Int):=by rw[ae]<;>omega
   have hj:j<M.length:=by omega
   have hat:=a1p hlt (M:=M)
   rw[Nat.add_sub_cancel]at hat
   by_cases hn:(el M (j+1)).nu=(el M j).nu
   ·have hq:=hat (by simp[acz,hn]) hp
    rw[hq]
    simp only[go_sem,h1,hlt,hw,hj,hn,pfs]
    exact⟨ag (by kernel_rfl),ag (by kernel_rfl)⟩
   ·simp only[go_sem,h1,hlt,hw,hj,hn]
    refine⟨ag (by kernel_rfl),j+1+1,⟨⟨by omega,by omega,fun k hk=> ?_⟩,by omega⟩,by rw[ae]<;>omega⟩
    by_cases hkj:k=j+1
    ·subst hkj
     simp[acz,hn]
    ·exact hp k (by omega)
  ·have h1: ¬(i:Int)<(M.length:Int):=by omega
   rw[aqg fun j hj=>hp j (by omega)]
   simp only[go_sem,h1,pfs,List.map_nil]
theorem a2g(v:Vt)(s:Stm)(hs:ace s)(hv:xk v.x):Den Tryz.prog 219 [.agg (sm s),.ptr 1000000 0] [.cells (vt7 v)] (.bool (axx v s)) [] [.cells (vt7 v)]:=by
 refine aa Tryz.mixed Tryz.func219 rfl Tryz.call219 Tryz.ntmps219 (congrArg Array.toList Tryz.results219) (by simp) (by kernel_rfl) [] (exts:=[1000000]) rfl rfl ?_
 have c1:=awr s hs
 have hb:xk (ofE s).1.x:=mq (abp (s:=s))
 have hm:axx v s=(decide ((ofE s).2=0)&&(br (ofE s).1.c v.c&&decide (mz (ofE s).1.x v.x=0))):=rfl
 have hce:br (ofE s).1.c v.c=true↔((ofE s).1.c.ep=v.c.ep∧(ofE s).1.c.kd=v.c.kd∧(ofE s).1.c.su=v.c.su∧(ofE s).1.c.ro=v.c.ro):=by
  generalize (ofE s).1.c=a
  cases a
  cases hv:v.c
  simp[br]
 have c2:=qz (ofE s).1.x v.x hb.1 hb.2 hv.1 hv.2
 rw[jj]at c1
 generalize axx v s=m at*
 generalize ofE s=W at*
 obtain⟨w,e⟩:=W
 dsimp only at c1 c2 hm hce
 simp only[go_sem]
 refine call c1 [] ?_
 by_cases he:e=0
 rotate_left
 ·rw[decide_eq_false he,Bool.false_and]at hm
  subst hm
  simp only[go_sem,he]
 rw[decide_eq_true he,Bool.true_and]at hm
 cases hsc:br w.c v.c
 ·rw[hsc,Bool.false_and]at hm
  subst hm
  have hn: ¬(w.c.ep=v.c.ep∧w.c.kd=v.c.kd∧w.c.su=v.c.su∧w.c.ro=v.c.ro):=fun h=>by rw[hce.2 h]at hsc;cases hsc
  simp only[go_sem,he,hn]
  done
 ·rw[hsc,Bool.true_and]at hm
  have hy:=hce.1 hsc
  simp only[go_sem,he,hy]
  refine call c2 [] ?_
  simp only[go_sem]
  exact hm.symm
theorem az4(v:Vt)(hv:xk v.x)(l:List Stm)(hb:big l.length)(hs: ∀s∈l,ace s):Den Tryz.prog 218 [.vs (l.map sm),.fn 219 [.ptr 1000000 0]] [.cells (vt7 v)] (.int .i64 (a3v (axx v) l)) [] [.cells (vt7 v)]:=by
 refine aa Tryz.mixed Tryz.func218 rfl Tryz.call218 Tryz.ntmps218 (congrArg Array.toList Tryz.results218) (by simp) (by kernel_rfl) [] (exts:=[1000000]) rfl rfl ?_
 simp only[go_sem]
 refine loop Tryz.mixed 0 (fun i:Nat=>[(0,.vs (l.map sm)),(1,.fn 219 [.ptr 1000000 0]),(7,.int .i64 l.length),(8,.int .i64 i)]) (fun i=>[(1000000,.cells (vt7 v))]) (fun i=>i≤l.length∧∀j,j<i→axx v (el l j)=false) (fun i=>l.length - i) (by kernel_rfl) ?_ ?_ ?_
 ·simp
 ·simp only[go_sem]
 ·rintro i ⟨hi,hp⟩
  by_cases hi':i<l.length
  ·have hlt:(i:Int)<(l.length:Int):=by omega
   have cD:=a2g v (el l i) (hs _ (bh hi')) hv
   rw[jj,alg]at cD
   simp only[go_sem,hlt,hi']
   refine call cD [1000000] ?_
   cases e:axx v (el l i)
   ·simp only[go_sem]
    refine⟨i+1,⟨⟨by omega,fun j hj=> ?_⟩,by omega⟩,by rw[ae]<;>omega⟩
    by_cases hji:j=i
    ·rw[hji];exact e
    ·exact hp j (by omega)
   ·simp only[go_sem]
    rw[a58 hi' e hp]
  ·have hf: ¬((i:Int)<(l.length:Int)):=by omega
   have:i=l.length:=by omega
   subst this
   simp only[go_sem,hf]
   rw[awf hp]
theorem adj(M:List Stm)(v:Vt)(hl:big M.length)(hs: ∀s∈M,ace s)(hv:xk v.x)(ha:M.any (axx v)=true):Den Tryz.prog 155 [.vs (M.map sm),.agg (vt7 v)] [] (.agg (sm (aor M v))) [] []:=by
 refine aa Tryz.mixed Tryz.func155 rfl Tryz.call155 Tryz.ntmps155 (congrArg Array.toList Tryz.results155) (by simp) (by kernel_rfl) [] (exts:=[]) rfl rfl ?_
 obtain⟨i,h1,h2,_⟩:=asr ha
 have c1:=az4 v hv M hl hs
 have hx:aor M v=el M i:=by rw[aor,h1,Int.toNat_natCast]
 rw[h1,alg]at c1
 rw[hx]
 simp only[go_sem]
 refine call c1 [3] ?_
 simp only[go_sem,h2]
 done
theorem ad2{M:List Stm}{K:List Cs}{i:Nat}(h:i<K.length)(f:Cs→List (Stm×Stm)):(K.take (i+1)).flatMap f=(K.take i).flatMap f++f (el K i):=by
 rw[bm h,List.flatMap_append]
 simp
theorem yr(L:List Stm):(jm L).length≤L.length:=by
 have h1:=ze br (aql (wi L L.length)) (aql (wi L L.length)).length
 have h2:(aql (wi L L.length)).length=(wi L L.length).length:=List.length_mergeSort _
 have h3:(wi L L.length).length≤L.length:=by
  unfold wi
  rw[List.length_map]
  refine Nat.le_trans (List.length_filter_le _ _) ?_
  rw[List.length_take];omega
 unfold jm
 omega
def dbl(M:List Stm)(c:Cs):List (Stm×Stm):=if 1<(ay M c).length then [(aor M (el (ay M c) 0),aor M (el (ay M c) 1))]else []
theorem aln(M:List Stm):afe M=(jm M).flatMap (dbl M):=rfl
theorem ahn(M:List Stm)(K:List Cs): ∀i,((K.take i).flatMap (dbl M)).length≤i
 |0=>by simp
 |i+1=>by
  have ih:=ahn M K i
  by_cases h:i<K.length
  ·rw[ad2 h (M:=M),List.length_append]
   have:(dbl M (el K i)).length≤1:=by
    unfold dbl
    split<;>simp
   omega
  ·rw[List.take_of_length_le (by omega)]
   rw[List.take_of_length_le (by omega)]at ih
   omega
theorem ag8(M:List Stm)(hl:M.length≤1000000)(hs: ∀s∈M,ace s):Den Tryz.prog 115 [.vs (M.map sm)] [] (.vs ((pfs 2 (afe M)).map pf)) [] []:=by
 refine aa Tryz.mixed Tryz.func115 rfl Tryz.call115 Tryz.ntmps115 (congrArg Array.toList Tryz.results115) (by simp) (by kernel_rfl) [] (exts:=[]) rfl rfl ?_
 have c1:=zd M hl hs
 have hKl:=yr M
 have cv:=fun c:Cs=>zl M c hl hs
 rw[aln]
 have hfa:=fun(c:Cs) (v:Vt) (h:v∈ay M c)=>avw h
 have hvb:=fun(c:Cs) (v:Vt) (h:v∈ay M c)=>mq (pm v h).1
 generalize jm M=K at*
 simp only[go_sem]
 refine call c1 [] ?_
 simp only[go_sem]
 have hd0: ∀i,((pfs 2 ((K.take i).flatMap (dbl M)))).length≤i:=fun i=>by rw[pfs,List.length_map];exact ahn M K i
 refine cy 3 99 138 27 false ?_ ?_ ?_ (by omega)
 ·refine loop Tryz.mixed 0 (fun i:Nat=>[(0,.vs (M.map sm)),(3,.os 99 (pfs 2 ((K.take i).flatMap (dbl M))).length),(8,.vs (K.map cs)),(9,.int .i64 K.length),(10,.int .i64 i)]) (fun i=>[(99,.arr 138 27 false ((pfs 2 ((K.take i).flatMap (dbl M))).map pf))]) (fun i=>i≤K.length) (fun i=>K.length - i) (by kernel_rfl) (Nat.zero_le _) ?_ ?_
  ·simp only[go_sem,pfs,List.flatMap_nil,List.map_nil,List.length_nil]
   done
  ·intro i hi
   by_cases hlt:i<K.length
   ·have h1:(i:Int)<(K.length:Int):=by omega
    have hsu:=ad2 (M:=M) hlt (dbl M)
    have hdi:=hd0 i
    have cv:=cv (el K i)
    have hfa:=hfa (el K i)
    have hvb:=hvb (el K i)
    have hde:dbl M (el K i)=if 1<(ay M (el K i)).length then [(aor M (el (ay M (el K i)) 0),aor M (el (ay M (el K i)) 1))]else []:=rfl
    rw[jk]at cv
    generalize ay M (el K i)=V at*
    have hps:pfs 2 ((K.take (i+1)).flatMap (dbl M))=pfs 2 ((K.take i).flatMap (dbl M))++pfs 2 (dbl M (el K i)):=by rw[hsu,pfs,List.map_append];rfl
    generalize pfs 2 ((K.take i).flatMap (dbl M))=o at*
    simp only[go_sem,h1,hlt]
    refine call cv [] ?_
    by_cases h2:1<(V.length:Int)
    ·have hV1:1<V.length:=by omega
     have hV0:0<V.length:=by omega
     have hV0i:(0:Int)<(V.length:Int):=by omega
     rw[if_pos hV1]at hde
     rw[hde]at hps
     have f0:=adj M (el V 0) (by simp only[big];omega) hs (hvb _ (bh hV0)) (hfa _ (bh hV0))
     have f1:=adj M (el V 1) (by simp only[big];omega) hs (hvb _ (bh hV1)) (hfa _ (bh hV1))
     rw[alg,jj]at f0 f1
     generalize aor M (el V 0)=x0 at*
     generalize aor M (el V 1)=x1 at*
     simp only[go_sem,h2,hV1,hV0,hV0i]
     refine call f0 [] ?_
     simp only[go_sem,h2,hV1,hV0,hV0i]
     refine call f1 [] ?_
     simp only[go_sem]
     refine⟨by omega,ag (by kernel_rfl),i+1,⟨by omega,by omega⟩,?_⟩
     rw[hps]
     exact⟨⟨by simp[pfs],by rw[ae]<;>omega⟩,by simp[pfs,a6v]⟩
    ·rw[if_neg (by omega)]at hde
     rw[hde]at hps
     simp only[go_sem,h2]
     refine⟨i+1,⟨by omega,by omega⟩,?_⟩
     rw[hps]
     simp only[go_sem,pfs,List.map_nil,List.append_nil]
     rw[ae]<;>omega
   ·have h1: ¬(i:Int)<(K.length:Int):=by omega
    have:i=K.length:=by omega
    subst this
    simp only[go_sem,h1,List.take_length]
    done
 ·simp only[go_sem]
 ·simp only[go_sem]
theorem yq(L:List Stm):ld L 0=[]:=rfl
theorem zy(L:List Stm)(i:Nat):ld L (i+1)=ld L i++vz (iq L i):=by
 unfold ld
 rw[List.range_succ,List.flatMap_append]
 simp
theorem acx(k:Int)(l:List (Stm×Stm)):(pfs k l).length=l.length:=by simp[pfs]
theorem y7(M:List Stm):(ey M).length≤1:=by
 unfold ey
 split<;>simp
theorem afy(M:List Stm):(afe M).length≤M.length:=by
 have h1:=ahn M (jm M) (jm M).length
 rw[List.take_length]at h1
 have h2:=yr M
 rw[aln]
 omega
theorem aw7(M:List Stm):(vz M).length≤1+M.length:=by
 have h1:=y7 M
 have h2:=afy M
 unfold vz
 split
 ·rw[List.length_append,acx,acx];omega
 ·simp
theorem vu(L:List Stm): ∀i,(ld L i).length≤i*(1+L.length)
 |0=>by simp[yq]
 |i+1=>by
  have h1:=vu L i
  have h2:=aw7 (iq L i)
  have h3:=ua L i
  rw[zy,List.length_append,Nat.add_mul,Nat.one_mul]
  omega
theorem ayk{L:List Stm}{a:Int}(h:CF L){s:Stm}(hs:s∈iq L a):s∈L:=(gh.1 (((uk (a:=a) h).2 s).1 hs)).1
theorem azh(L:List Stm)(hl:L.length≤900)(hs: ∀s∈L,ace s)(h:CF L):Den Tryz.prog 79 [.vs (L.map sm)] [] (.vs ((ld L 64).map pf)) [] []:=by
 refine aa Tryz.mixed Tryz.func79 rfl Tryz.call79 Tryz.ntmps79 (congrArg Array.toList Tryz.results79) (by simp) (by kernel_rfl) [] (exts:=[]) rfl rfl ?_
 have co:=fun a:Nat=>a4k L a (by omega) hs h
 have cf:=fun a:Nat=>awx (iq L a) (by have:=ua L a;simp only[big];omega)
 have cd:=fun a:Nat=>ag8 (iq L a) (by have:=ua L a;omega) fun s hm=>hs s (ayk h hm)
 have hln:=fun a:Nat=>ua L a
 have hsu:=zy L
 have hxl:=vu L
 have hf1:=fun a:Nat=>y7 (iq L a)
 have hd1:=fun a:Nat=>afy (iq L a)
 simp only[go_sem]
 refine cy 3 99 138 27 false ?_ ?_ ?_ (by omega)
 ·refine loop Tryz.mixed 0 (fun i:Nat=>[(0,.vs (L.map sm)),(3,.os 99 (ld L i).length),(6,.int .i64 i)]) (fun i=>[(99,.arr 138 27 false ((ld L i).map pf))]) (fun i=>i≤64) (fun i=>64 - i) (by kernel_rfl) (Nat.zero_le _) ?_ ?_
  ·simp only[go_sem,yq,List.map_nil,List.length_nil]
  ·intro i hi
   by_cases hlt:i<64
   ·have h1:(i:Int)<64:=by omega
    have co:=co i
    have cf:=cf i
    have cd:=cd i
    have hln:=hln i
    have hsu:=hsu i
    have hf1:=hf1 i
    have hd1:=hd1 i
    have hxl:=hxl i
    have hmul:i*(1+L.length)≤64*901:=Nat.mul_le_mul (by omega) (by omega)
    have hA:vz (iq L i)=if 1<(iq L i).length then pfs 1 (ey (iq L i))++pfs 2 (afe (iq L i))else []:=rfl
    generalize iq L i=M at*
    have p1:=acx 1 (ey M)
    have p2:=acx 2 (afe M)
    generalize pfs 1 (ey M)=A at*
    generalize pfs 2 (afe M)=B at*
    generalize ld L i=o at*
    simp only[go_sem,h1]
    refine call co [] ?_
    by_cases h2:1<(M.length:Int)
    ·rw[if_pos (by omega)]at hA
     rw[hA]at hsu
     simp only[go_sem,h2]
     refine call cf [] ?_
     simp only[go_sem]
     refine⟨by omega,call cd [] ?_⟩
     simp only[go_sem]
     refine⟨by omega,i+1,⟨by omega,by omega⟩,?_⟩
     rw[hsu]
     exact⟨⟨by simp only[List.length_append];omega,by rw[ae]<;>omega⟩,by simp only[List.map_append,List.append_assoc]⟩
    ·rw[if_neg (by omega)]at hA
     rw[hA,List.append_nil]at hsu
     simp only[go_sem,h2]
     refine⟨i+1,⟨by omega,by omega⟩,?_⟩
     rw[hsu]
     exact⟨⟨rfl,by rw[ae]<;>omega⟩,rfl⟩
   ·have h1: ¬(i:Int)<64:=by omega
    have:i=64:=by omega
    subst this
    simp only[go_sem,h1]
 ·simp only[go_sem]
 ·simp only[go_sem]
theorem ag0(p:Int×Stm×Stm):Den Tryz.prog 80 [.agg (pf p)] [] (.int .i64 p.2.1.au) [] []:=by
 refine aa Tryz.mixed Tryz.func80 rfl Tryz.call80 Tryz.ntmps80 (congrArg Array.toList Tryz.results80) (by simp) (by kernel_rfl) [] (exts:=[]) rfl rfl ?_
 simp only[go_sem]
theorem apb(L:List Stm)(hl:L.length≤900)(hs: ∀s∈L,ace s)(h:CF L):Den Tryz.prog 48 [.vs (L.map sm)] [] (.vs ((aw5 L).map i1)) [] []:=by
 refine aa Tryz.mixed Tryz.func48 rfl Tryz.call48 Tryz.ntmps48 (congrArg Array.toList Tryz.results48) (by simp) (by kernel_rfl) [] (exts:=[]) rfl rfl ?_
 have c1:=azh L hl hs h
 have hxl:=vu L 64
 have hmul:64*(1+L.length)≤64*901:=Nat.mul_le_mul (by omega) (by omega)
 have hg:aw5 L=axv ((ld L 64).map fun p=>p.2.1.au):=rfl
 rw[hg]
 generalize ld L 64=F at*
 obtain⟨I,hI⟩: ∃I:Nat→List Int,I=fun i=>(F.take i).map fun p=>p.2.1.au:=⟨_,rfl⟩
 have hI0:I 0=[]:=by rw[hI];rfl
 have hsu: ∀i,i<F.length→I (i+1)=I i++[(el F i).2.1.au]:=fun i hi=>by
  rw[hI]
  show(F.take (i+1)).map _=_
  rw[bm hi,List.map_append,List.map_singleton]
 have hln: ∀i,(I i).length≤F.length:=fun i=>by rw[hI];show((F.take i).map _).length≤_;rw[List.length_map,List.length_take];omega
 have hIl:F.map (fun p=>p.2.1.au)=I F.length:=by rw[hI];show _=(F.take F.length).map _;rw[List.take_length]
 rw[hIl]
 clear hI hIl
 simp only[go_sem]
 refine call c1 [] ?_
 simp only[go_sem]
 refine cy 3 99 3 1 false ?_ ?_ ?_ (by omega)
 ·refine loop Tryz.mixed 0 (fun i:Nat=>[(3,.os 99 (I i).length),(7,.vs (F.map pf)),(8,.int .i64 F.length),(9,.int .i64 i)]) (fun i=>[(99,.arr 3 1 false ((I i).map i1))]) (fun i=>i≤F.length) (fun i=>F.length - i) (by kernel_rfl) (Nat.zero_le _) ?_ ?_
  ·rw[hI0]
   simp only[go_sem,List.map_nil,List.length_nil]
  ·intro i hi
   by_cases hlt:i<F.length
   ·have h1:(i:Int)<(F.length:Int):=by omega
    have hsu:=hsu i hlt
    have hln:=hln i
    have ca:=ag0 (el F i)
    rw[a6v]at ca
    generalize I i=o at*
    simp only[go_sem,h1,hlt]
    refine call ca [] ?_
    simp only[go_sem]
    refine⟨by omega,i+1,⟨by omega,by omega⟩,?_⟩
    rw[hsu]
    exact⟨⟨by simp,by rw[ae]<;>omega⟩,by simp[i1]⟩
   ·have h1: ¬(i:Int)<(F.length:Int):=by omega
    have:i=F.length:=by omega
    subst this
    have hln:=hln F.length
    generalize I F.length=o at*
    have cc:=va o (by omega)
    simp only[go_sem,h1]
    refine call cc [99] ?_
    simp only[go_sem]
    rw[ab3]
    exact Nat.le_refl _
 ·simp only[go_sem]
 ·simp only[go_sem]
end Go.Proofs.Am
