/- POne. -/
import Derived.Test.YteakcpfdfglndaaGreatDoorBTwo
import Derived.Test.YteakcpfdfglndaaGreatDoorXOne
import Derived.Test.YteakcpfdfglndaaGreatDoorEOne
import Derived.Test.YteakcpfdfglndaaGreatDoorGOne
import Derived.Test.YteakcpfdfglndaaGreatDoorBThree
import Derived.Test.YteakcpfdfglndaaGreatDoorMOne
import Derived.Test.YteakcpfdfglndaaGreatDoorCNine
import Derived.Test.YteakcpfdfglndaaGreatDoorWOne
import Derived.Test.YteakcpfdfglndaaGreatDoorHOne
import Derived.Test.YteakcpfdfglndaaGreatDoorUFour
import Derived.Test.YteakcpfdfglndaaGreatDoorVTwo
set_option maxHeartbeats 1000000
set_option maxRecDepth 1000000
set_option linter.unusedSimpArgs false
set_option linter.unusedVariables false
namespace Go.Proofs.Am
open Go Go.RowKit
open Go.Proofs
noncomputable def bf5 {α:Type} (n:Nat) (f:Nat→α):α:=Nat.rec (motive:=fun _=>α) (f 0) (fun m _=>f (Nat.succ m)) n
noncomputable def bfl {α:Type} (x:Int) (f:Int→α):α:=match x with
 | .ofNat n=>bf5 n fun m=>f (Int.ofNat m)
 | .negSucc n=>f (Int.negSucc n)
theorem a7q{α:Type}(n:Nat)(f:Nat→α):bf5 n f=f n:=by cases n<;>rfl
theorem a84{α:Type}(x:Int)(f:Int→α):bfl x f=f x:=by
 cases x with
 |ofNat n=>exact a7q n fun m=>f (Int.ofNat m)
 |negSucc n=>rfl
noncomputable def ayp {α:Type} (l:List Int):(List Int→α)→α:=List.rec (motive:=fun _=>(List Int→α)→α) (fun f=>f []) (fun a _ ih f=>bfl a fun b=>ih fun r=>f (b::r)) l
theorem ach{α:Type}(l:List Int): ∀f:List Int→α,ayp l f=f l:=by
 induction l with
 |nil=>intro f;rfl
 |cons a r ih=>
  intro f
  show bfl a (fun b=>ayp r fun r=>f (b::r))=_
  rw[a84,ih]
noncomputable def wAS {α:Type} (b:List UInt8) (m:Nat):(List Int→α)→α:=Nat.rec (motive:=fun _=>(List Int→α)→α) (fun f=>f (List.replicate 64 0)) (fun m ih f=>ih fun w=>ayp (w.set m (w16 b m)) f) m
noncomputable def wBS {α:Type} (b:List UInt8) (m:Nat):(List Int→α)→α:=Nat.rec (motive:=fun _=>(List Int→α)→α) (fun f=>wAS b 16 f) (fun m ih f=>ih fun w=>ayp (w.set (16+m) (wst w m)) f) m
noncomputable def bff {α:Type} (h k w:List Int) (m:Nat):(List Int→α)→α:=Nat.rec (motive:=fun _=>(List Int→α)→α) (fun f=>f h) (fun m ih f=>ih fun v=>ayp (rnd v (el k m) (el w m)) f) m
noncomputable def bem {α:Type} (v h:List Int) (m:Nat):(List Int→α)→α:=Nat.rec (motive:=fun _=>(List Int→α)→α) (fun f=>f v) (fun m ih f=>ih fun u=>ayp (u.set m (ad (el u m) (el h m))) f) m
theorem a4o{α:Type}(b:List UInt8): ∀(m:Nat) (f:List Int→α),wAS b m f=f (wA b m)
 |0,_=>rfl
 |m+1,f=>by
  show wAS b m (fun w=>ayp (w.set m (w16 b m)) f)=_
  rw[a4o b m,ach];rfl
theorem a4t{α:Type}(b:List UInt8): ∀(m:Nat) (f:List Int→α),wBS b m f=f (wB b m)
 |0,f=>a4o b 16 f
 |m+1,f=>by
  show wBS b m (fun w=>ayp (w.set (16+m) (wst w m)) f)=_
  rw[a4t b m,ach];rfl
theorem ar5{α:Type}(h k w:List Int): ∀(m:Nat) (f:List Int→α),bff h k w m f=f (aeu h k w m)
 |0,_=>rfl
 |m+1,f=>by
  show bff h k w m (fun v=>ayp (rnd v (el k m) (el w m)) f)=_
  rw[ar5 h k w m,ach];rfl
theorem ar4{α:Type}(v h:List Int): ∀(m:Nat) (f:List Int→α),bem v h m f=f (fin v h m)
 |0,_=>rfl
 |m+1,f=>by
  show bem v h m (fun u=>ayp (u.set m (ad (el u m) (el h m))) f)=_
  rw[ar4 v h m,ach];rfl
noncomputable def bde {α:Type} (h:List Int) (b:List UInt8) (f:List Int→α):α:=wBS b 48 fun w=>bff h kK w 64 fun v=>bem v h 8 f
theorem a9c{α:Type}(h:List Int)(b:List UInt8)(f:List Int→α):bde h b f=f (ayq h b kK):=by
 unfold bde ayq
 rw[a4t,ar5,ar4]
noncomputable def hsS {α:Type} (b:List UInt8) (m:Nat):(List Int→α)→α:=Nat.rec (motive:=fun _=>(List Int→α)→α) (fun f=>f h0) (fun m ih f=>ih fun h=>bde h ((b.take (64*m+64)).drop (64*m)) f) m
theorem a04{α:Type}(a:List UInt8)(f:List Int→α):hsS a 0 f=f h0:=rfl
theorem a0n{α:Type}(a:List UInt8)(m:Nat):hsS (α:=α) a (m+1)=fun f=>hsS a m fun h=>bde h ((a.take (64*m+64)).drop (64*m)) f:=rfl
theorem asp(b:List UInt8):hs b 0=h0:=(rfl)
theorem aut(b:List UInt8)(m:Nat):hs b (m+1)=ayq (hs b m) (((oo b).take (64*m+64)).drop (64*m)) kK:=(rfl)
theorem bca{α:Type}(b:List UInt8)(m:Nat): ∀(f:List Int→α),hsS (oo b) m f=f (hs b m):=by
 induction m with
 |zero=>intro f;rw[a04,asp]
 |succ m ih=>
  intro f
  rw[a0n]
  dsimp only
  rw[ih,a9c,aut]
def aoc(a b:Stm):Int:=or2 (gr a.nu b.nu) (Lib.compareBytes a.sd b.sd)
def ltN(a b:Stm):Bool:=decide (aoc a b<0)
def ee(a b:Stm):Bool:=decide (aoc a b=0)
theorem to_N:TO (fun p q:Int×List UInt8=>or2 (gr p.1 q.1) (Lib.compareBytes p.2 q.2)):=mu mf to_bytes
theorem atd{a b:Stm}:aoc a b=0↔a.nu=b.nu∧a.sd=b.sd:=by
 have:=to_N.eq (a.nu,a.sd) (b.nu,b.sd)
 simpa only[aoc,Prod.mk.injEq] using this
theorem xm{a b:Stm}:aoc a b<0↔0<aoc b a:=to_N.flip (a.nu,a.sd) (b.nu,b.sd)
def dc(s:Stm):Bool:=decide (aj s=0)&&decide (s.sk=s.au∧s.sd=dig s)
def jy(L:List Stm)(a:Int):List Stm:=L.filter fun s=>decide (s.au=a)&&dc s
theorem eg{L:List Stm}{a:Int}{s:Stm}:s∈jy L a↔s∈L∧s.au=a∧dc s=true:=by
 simp[jy,List.mem_filter]
def CF(L:List Stm):Prop:= ∀s∈L,∀t∈L,dc s=true→dc t=true→s.au=t.au→s.nu=t.nu→s.sd=t.sd→s=t
theorem CF.own{L:List Stm}(h:CF L){a:Int}{s t:Stm}(hs:s∈jy L a)(ht:t∈jy L a)(h1:s.nu=t.nu)(h2:s.sd=t.sd):s=t:=by
 obtain⟨a1,a2,a3⟩:=eg.1 hs
 obtain⟨b1,b2,b3⟩:=eg.1 ht
 exact h s a1 t b1 a3 b3 (a2.trans b2.symm) h1 h2
def arg(l:List Stm):List Stm:=l.mergeSort fun a b=> !decide (aoc b a<0)
def jg(L:List Stm)(a:Int):List Stm:=kp ee (arg (jy L a)) (arg (jy L a)).length
theorem ae7(a b:Stm):ee a b=true↔(ltN a b=false∧ltN b a=false):=by
 have h1:=xm (a:=a) (b:=b)
 have h2:=xm (a:=b) (b:=a)
 unfold ee ltN
 rw[decide_eq_true_iff,decide_eq_false_iff_not,decide_eq_false_iff_not]
 constructor
 ·intro h;constructor<;>omega
 ·rintro⟨h3,h4⟩;omega
theorem bfq{L:List Stm}{a:Int}(h:CF L):KO ltN (fun s=>s∈jy L a) where
 irr x:=decide_eq_false (to_N.irr (x.nu,x.sd))
 tr x y z h1 h2:=decide_eq_true (to_N.tr (x.nu,x.sd) (y.nu,y.sd) (z.nu,z.sd) (of_decide_eq_true h1) (of_decide_eq_true h2))
 nt x y z h1 h2:=decide_eq_false (to_N.nt (x.nu,x.sd) (y.nu,y.sd) (z.nu,z.sd) (of_decide_eq_false h1) (of_decide_eq_false h2))
 tri x y hx hy h1 h2:=by
  have h3:=of_decide_eq_true ((ae7 x y).2 ⟨h1,h2⟩)
  obtain⟨e1,e2⟩:=atd.1 h3
  exact h.own hx hy e1 e2
theorem aul(l:List Stm):(arg l).Pairwise fun a b=>ltN b a=false:=by
 have:=List.pairwise_mergeSort (le:=fun a b:Stm=> !decide (aoc b a<0)) (fun a b c h1 h2=>by
  simp only[Bool.not_eq_true',decide_eq_false_iff_not]at h1 h2 ⊢
  exact to_N.nt (c.nu,c.sd) (b.nu,b.sd) (a.nu,a.sd) h2 h1) (fun a b=>by
  simp only[Bool.or_eq_true,Bool.not_eq_true',decide_eq_false_iff_not]
  have h1:=xm (a:=b) (b:=a)
  omega) l
 exact this.imp fun h=>by simpa [ltN] using h
theorem ym{L:List Stm}{a:Int}(h:CF L):SS ltN (jg L a)∧∀s,s∈jg L a↔s∈jy L a:=by
 have hp:=List.mergeSort_perm (jy L a) fun a b:Stm=> !decide (aoc b a<0)
 have h:=(bfq (a:=a) h).kp_inv ae7 (l:=arg (jy L a)) (fun x hx=>hp.mem_iff.1 hx) (aul _) _ (Nat.le_refl _)
 refine⟨h.1,fun x=> ?_⟩
 rw[jg,h.2,List.take_length]
 exact hp.mem_iff
theorem acg(L:List Stm)(a:Int):(jy L a).length≤L.length:=List.length_filter_le _ _
theorem uf(L:List Stm)(a:Int):(jg L a).length≤L.length:=by
 have h1:=zj ee (arg (jy L a)) (arg (jy L a)).length
 have h2:(arg (jy L a)).length=(jy L a).length:=List.length_mergeSort _
 have h3:=acg L a
 unfold jg
 omega
def adt(M:List Stm)(i:Nat):Bool:=decide (0<i)&&decide ((el M i).nu=(el M (i - 1)).nu)
def gd(M:List Stm):List (Stm×Stm):=match (List.range M.length).find? (adt M)with|some i=>[(el M (i - 1),el M i)]|none=>[]
theorem a1s{M:List Stm}{i:Nat}(hi:i<M.length)(h:adt M i=true)(hb: ∀j,j<i→adt M j=false):gd M=[(el M (i - 1),el M i)]:=by
 have:(List.range M.length).find? (adt M)=some i:=List.find?_range_eq_some.2 ⟨h,by simpa using hi,fun j hj=>by simp[hb j hj]⟩
 rw[gd,this]
theorem ap2{M:List Stm}(hb: ∀j,j<M.length→adt M j=false):gd M=[]:=by
 have:(List.range M.length).find? (adt M)=none:=List.find?_range_eq_none.2 fun j hj=>by simp[hb j hj]
 rw[gd,this]
theorem abw(M:List Stm):(gd M=[]∧∀j,j<M.length→adt M j=false)∨∃i,0<i∧i<M.length∧gd M=[(el M (i - 1),el M i)]:=by
 cases h:(List.range M.length).find? (adt M)with
 |none=>exact .inl ⟨by rw[gd,h],fun j hj=>by simpa using List.find?_range_eq_none.1 h j hj⟩
 |some i=>
  obtain⟨h1,h2,_⟩:=List.find?_range_eq_some.1 h
  rw[adt,Bool.and_eq_true]at h1
  exact .inr ⟨i,of_decide_eq_true h1.1,by simpa using h2,by rw[gd,h]⟩
def ayw(v:Vt)(s:Stm):Bool:=decide ((ofE s).2=0)&&(bx (ofE s).1.c v.c&&decide (jx (ofE s).1.x v.x=0))
def aqc(M:List Stm)(v:Vt):Stm:=el M (ari (ayw v) M).toNat
def afj(M:List Stm):List (Stm×Stm):=(f9 M).flatMap fun c=>if 1<(am M c).length then [(aqc M (el (am M c) 0),aqc M (el (am M c) 1))]else []
def pfs(k:Int)(l:List (Stm×Stm)):List (Int×Stm×Stm):=l.map fun p=>(k,p.1,p.2)
def wh(M:List Stm):List (Int×Stm×Stm):=if 1<M.length then pfs 1 (gd M)++pfs 2 (afj M)else []
def mq(L:List Stm)(n:Nat):List (Int×Stm×Stm):=(List.range n).flatMap fun a:Nat=>wh (jg L a)
def arz(L:List Stm):List Int:=ayt ((mq L 64).map fun p=>p.2.1.au)
def gB(L:List Stm)(a:Int):Bool:=(jy L a).any fun s=>(jy L a).any fun t=>decide (s.nu=t.nu)&&decide (s≠t)
theorem w8{L:List Stm}{a:Int}:gB L a=true↔∃s∈jy L a,∃t∈jy L a,s.nu=t.nu∧s≠t:=by
 simp[gB,List.any_eq_true]
theorem bai{a b:Stm}(h:ltN a b=true):a.nu≤b.nu:=by
 have h1:=of_decide_eq_true h
 unfold aoc or2 gr at h1
 repeat' split at h1
 all_goals omega
theorem alb{L:List Stm}{a:Int}(h:CF L):gd (jg L a)≠[]↔gB L a=true:=by
 obtain⟨hs,hm⟩:=ym (a:=a) h
 rw[w8]
 constructor
 ·intro hne
  rcases abw (jg L a)with ⟨h1,_⟩|⟨i,h0,hi,h2⟩
  ·exact absurd h1 hne
  ·have hadj:adt (jg L a) i=true:=by
    cases hf:(List.range (jg L a).length).find? (adt (jg L a))with
    |none=>rw[gd,hf]at h2;cases h2
    |some k=>
     obtain⟨k1,k2,_⟩:=List.find?_range_eq_some.1 hf
     have k3:gd (jg L a)=[(el (jg L a) (k - 1),el (jg L a) k)]:=by rw[gd,hf]
     rw[h2]at k3
     rw[adt,Bool.and_eq_true]at k1
     have k4:=of_decide_eq_true k1.2
     simp only[List.cons.injEq,Prod.mk.injEq,and_true]at k3
     rw[adt,decide_eq_true h0,Bool.true_and,decide_eq_true_iff,k3.1,k3.2]
     exact k4
   rw[adt,Bool.and_eq_true]at hadj
   have hnu:=of_decide_eq_true hadj.2
   have e1:=aw hi
   have e2:=aw (show i - 1<(jg L a).length by omega)
   refine⟨_,(hm _).1 e1,_,(hm _).1 e2,hnu,fun he=> ?_⟩
   have hlt:=List.pairwise_iff_getElem.1 hs (i - 1) i (by omega) hi (by omega)
   rw[←elG _ _ (by omega),←elG _ _ hi,he,(bfq (a:=a) h).irr]at hlt
   cases hlt
 ·rintro⟨s,s1,t,t1,hnu,hne⟩ hnil
  rcases abw (jg L a)with ⟨_,h2⟩|⟨i,_,_,h3⟩
  rotate_left
  ·rw[hnil]at h3;cases h3
  obtain⟨i,hi,rfl⟩:=vv ((hm s).2 s1)
  obtain⟨j,hj,rfl⟩:=vv ((hm t).2 t1)
  have mono: ∀i j,i<j→j<(jg L a).length→(el (jg L a) i).nu≤(el (jg L a) j).nu:=fun i j hij hj=>by
   have hlt:=List.pairwise_iff_getElem.1 hs i j (by omega) hj hij
   rw[←elG _ _ (by omega),←elG _ _ hj]at hlt
   exact bai hlt
  have key: ∀i j,i<j→j<(jg L a).length→(el (jg L a) i).nu=(el (jg L a) j).nu→False:=fun i j hij hj he=>by
   have h4:=h2 (i+1) (by omega)
   rw[adt,decide_eq_true (by omega),Bool.true_and,Nat.add_sub_cancel,decide_eq_false_iff_not]at h4
   have m1:=mono i (i+1) (by omega) (by omega)
   by_cases hij2:i+1=j
   ·exact h4 (by rw[hij2];exact he.symm)
   ·have m2:=mono (i+1) j (by omega) hj
    exact h4 (by omega)
  rcases Nat.lt_trichotomy i j with h5|h5|h5
  ·exact key i j h5 hj hnu
  ·subst h5;exact hne rfl
  ·exact key j i h5 hi hnu.symm
def UNI(L:List Stm):Prop:= ∀c,∀s∈L,∀t∈L,okV c s=true→okV c t=true→s.au=t.au→s.nu=t.nu
theorem av5{p:Stm→Bool}{l:List Stm}(h:l.any p=true): ∃i:Nat,ari p l=(i:Int)∧i<l.length∧p (el l i)=true:=by
 cases hf:l.findIdx? p with
 |none=>
  rw[List.findIdx?_eq_none_iff]at hf
  rw[List.any_eq_true]at h
  obtain⟨x,hx,hp⟩:=h
  rw[hf x hx]at hp
  cases hp
 |some i=>
  obtain⟨h1,h2,_⟩:=List.findIdx?_eq_some_iff_getElem.1 hf
  exact⟨i,by rw[ari,hf],h1,by rw[elG _ _ h1];exact h2⟩
theorem awz{M:List Stm}{c:Cs}{v:Vt}(h:v∈am M c):M.any (ayw v)=true:=by
 obtain⟨s,hs,ho,rfl⟩:=fl.1 h
 refine List.any_eq_true.2 ⟨s,hs,?_⟩
 have h1:=(Bool.and_eq_true_iff.1 ho).1
 have h2:(ofE s).2=0:=of_decide_eq_true (Bool.and_eq_true_iff.1 h1).1
 unfold ayw
 rw[decide_eq_true h2,Bool.true_and]
 have e1:(cw s).1=(ofE s).1:=rfl
 rw[e1,(pa _ _).2 rfl]
 simp[bx]
theorem a3z{M:List Stm}{c:Cs}{v:Vt}(h:v∈am M c):aqc M v∈M:=by
 obtain⟨i,h1,h2,_⟩:=av5 (awz h)
 unfold aqc
 rw[h1,Int.toNat_natCast]
 exact aw h2
theorem aop{L:List Stm}{a:Int}(h:CF L)(hu:UNI L)(hd:afj (jg L a)≠[]):gB L a=true:=by
 obtain⟨_,hm⟩:=ym (a:=a) h
 obtain⟨p,hp⟩:=List.exists_mem_of_ne_nil _ hd
 obtain⟨c,_,hc⟩:=List.mem_flatMap.1 hp
 split at hc
 rotate_left
 ·simp at hc
 rename_i hl
 have hss:=(uq (jg L a) c).1
 have hlt:=List.pairwise_iff_getElem.1 hss 0 1 (by omega) hl (by omega)
 obtain⟨s0,s1,s2,s3⟩:=fl.1 (List.getElem_mem (show 0<(am (jg L a) c).length by omega))
 obtain⟨t0,t1,t2,t3⟩:=fl.1 (List.getElem_mem hl)
 have m1:=(hm _).1 s1
 have m2:=(hm _).1 t1
 obtain⟨a1,a2,_⟩:=eg.1 m1
 obtain⟨b1,b2,_⟩:=eg.1 m2
 refine w8.2 ⟨s0,m1,t0,m2,hu c s0 a1 t0 b1 s2 t2 (a2.trans b2.symm),fun he=> ?_⟩
 subst he
 rw[←s3,←t3]at hlt
 have:=(a9p c).irr (cw s0).1
 rw[this]at hlt
 cases hlt
theorem a0l{L:List Stm}{a:Int}(h:CF L): ∀p∈wh (jg L a),p.2.1.au=a:=fun p hp=>by
 obtain⟨_,hm⟩:=ym (a:=a) h
 unfold wh at hp
 split at hp
 rotate_left
 ·simp at hp
 rcases List.mem_append.1 hp with hp|hp
 ·obtain⟨q,hq,rfl⟩:=List.mem_map.1 hp
  rcases abw (jg L a)with ⟨h1,_⟩|⟨i,h0,hi,h2⟩
  ·rw[h1]at hq;simp at hq
  ·rw[h2,List.mem_singleton]at hq
   rw[hq]
   exact(eg.1 ((hm _).1 (aw (show i - 1<(jg L a).length by omega)))).2.1
 ·obtain⟨q,hq,rfl⟩:=List.mem_map.1 hp
  obtain⟨c,_,hc⟩:=List.mem_flatMap.1 hq
  split at hc
  rotate_left
  ·simp at hc
  rename_i hl
  rw[List.mem_singleton]at hc
  rw[hc]
  exact(eg.1 ((hm _).1 (a3z (aw (show 0<(am (jg L a) c).length by omega))))).2.1
theorem amh{L:List Stm}{a:Int}(h:CF L)(hu:UNI L):wh (jg L a)≠[]↔gB L a=true:=by
 obtain⟨_,hm⟩:=ym (a:=a) h
 constructor
 ·intro hne
  unfold wh at hne
  split at hne
  ·by_cases h1:gd (jg L a)=[]
   ·refine aop h hu fun h2=>hne ?_
    rw[h1,h2]
    rfl
   ·exact(alb h).1 h1
  ·exact absurd rfl hne
 ·intro hg
  have h1:=(alb h).2 hg
  obtain⟨s,s1,t,t1,_,hne⟩:=w8.1 hg
  have hl:1<(jg L a).length:=by
   have m1:=(hm s).2 s1
   have m2:=(hm t).2 t1
   match hM:jg L a,m1,m2 with
   |[],m1,_=>simp at m1
   |[x],m1,m2=>simp at m1 m2;exact absurd (m1.trans m2.symm) hne
   |_::_::_,_,_=>simp
  unfold wh
  rw[if_pos hl]
  intro h2
  obtain⟨h3,_⟩:=List.append_eq_nil_iff.1 h2
  exact h1 (List.map_eq_nil_iff.1 h3)
theorem axn{L:List Stm}(h:CF L)(hu:UNI L):arz L=dh (gB L) 64:=by
 have hmap:(mq L 64).map (fun p=>p.2.1.au)=(List.range 64).flatMap fun a:Nat=>List.replicate (wh (jg L a)).length (a:Int):=by
  unfold mq
  rw[List.map_flatMap]
  congr 1
  funext a
  refine List.eq_replicate_iff.2 ⟨by rw[List.length_map],fun b hb=> ?_⟩
  obtain⟨p,hp,rfl⟩:=List.mem_map.1 hb
  exact a0l h p hp
 have hmem: ∀k:Int,k∈(mq L 64).map (fun p=>p.2.1.au)↔(0≤k∧k<64)∧gB L k=true:=fun k=>by
  rw[hmap,List.mem_flatMap]
  constructor
  ·rintro⟨a,ha,hk⟩
   obtain⟨h1,rfl⟩:=List.mem_replicate.1 hk
   have ha:=List.mem_range.1 ha
   exact⟨by omega,(amh h hu).1 fun h2=>h1 (by rw[h2];rfl)⟩
  ·rintro⟨⟨h1,h2⟩,h3⟩
   obtain⟨a,rfl⟩: ∃a:Nat,k=a:=⟨k.toNat,by omega⟩
   refine⟨a,List.mem_range.2 (by omega),List.mem_replicate.2 ⟨fun h4=> ?_,rfl⟩⟩
   exact(amh h hu).2 h3 (List.eq_nil_of_length_eq_zero h4)
 have hsort:((mq L 64).map fun p=>p.2.1.au).Pairwise fun x y=>decide (x≤y)=true:=by
  rw[hmap,List.pairwise_flatMap]
  refine⟨fun a _=>List.pairwise_replicate.2 (.inr (by simp)),?_⟩
  refine List.Pairwise.imp ?_ (List.pairwise_lt_range (n:=64))
  intro a b hab x hx y hy
  rw[(List.mem_replicate.1 hx).2,(List.mem_replicate.1 hy).2]
  simp
  omega
 have hs:srt ((mq L 64).map fun p=>p.2.1.au)=(mq L 64).map fun p=>p.2.1.au:=List.mergeSort_of_pairwise hsort
 unfold arz
 rw[←hs,a34 _ (fun x hx=>((hmem x).1 hx).1)]
 unfold dh
 refine List.filter_congr fun k hk=> ?_
 obtain⟨a,ha,rfl⟩:=List.mem_map.1 hk
 have ha:=List.mem_range.1 ha
 rw[Bool.eq_iff_iff,decide_eq_true_iff,hmem]
 exact⟨fun h=>h.2,fun h=>⟨by omega,h⟩⟩
theorem ak4(a b:Stm):Den Tryz.prog 122 [.agg (sm a),.agg (sm b)] [] (.int .i64 (aoc a b)) [] []:=by
 refine aa Tryz.mixed Tryz.func122 rfl Tryz.call122 Tryz.ntmps122 (congrArg Array.toList Tryz.results122) (by simp) (by kernel_rfl) [] (exts:=[]) rfl rfl ?_
 simp only[go_sem]
 refine call (gj a.nu b.nu) [] ?_
 simp only[go_sem]
 refine call (aaq a.sd b.sd) [] ?_
 simp only[go_sem]
 refine call (ag6 [gr a.nu b.nu,Lib.compareBytes a.sd b.sd] (by simp[big])) [] ?_
 simp only[go_sem]
 refine⟨ae (by kernel_rfl),?_⟩
 simp only[orL,aoc,or2]
 repeat' split
 all_goals simp_all
theorem ajs(a b:Stm):Den Tryz.prog 128 [.agg (sm a),.agg (sm b),.ptr 1000000 0] [.cells [.fn 122 []]] (.bool (ee a b)) [] [.cells [.fn 122 []]]:=by
 refine aa Tryz.mixed Tryz.func128 rfl Tryz.call128 Tryz.ntmps128 (congrArg Array.toList Tryz.results128) (by simp) (by kernel_rfl) [] (exts:=[1000000]) rfl rfl ?_
 simp only[go_sem]
 refine call (ak4 a b) [] ?_
 simp only[go_sem]
 rfl
theorem awa{L:List Stm}{a:Int}(l:List Stm)(hl:l.length<4611686018427387904)(h:CF L)(hm: ∀s∈l,s∈jy L a):
  Den Tryz.prog 126 [.os 1000000 l.length,.fn 122 []] [.arr 60 13 false (l.map sm)] (.tup []) [] [.arr 60 13 false ((arg l).map sm)]:=by
 refine ug (F:=sm) (cf:=aoc) (enters_of Tryz.func126 (by kernel_rfl) rfl) hl
  (fun m enc hk h1 c hO b cap d w hcmp hH hblk hsz=>AnyQ.slices_SortFunc Tryz.sortStm 13 (fun _=>by kernel_rfl) (fun _=>by kernel_rfl) enc hk h1 c hO _ _ b 0 cap d w (enters_of Tryz.func122 (by kernel_rfl) rfl) hcmp hH hblk hsz)
  (fun p cap fv w=>AnyF.slices_SortFunc_none Tryz.sortStm p cap fv w)
  (fun x hx y hy=>ak4 x y) (fun x _=>to_N.irr (x.nu,x.sd)) (fun x _ y _ z _=>to_N.tr (x.nu,x.sd) (y.nu,y.sd) (z.nu,z.sd)) (fun x _ y _ z _=>to_N.nt (x.nu,x.sd) (y.nu,y.sd) (z.nu,z.sd)) (fun x hx y hy h1 h2=> ?_) (List.mergeSort_perm _ _) ?_
 ·exact(bfq (a:=a) h).tri x y (hm x hx) (hm y hy) (decide_eq_false h1) (decide_eq_false h2)
 ·exact(aul l).imp fun h=>of_decide_eq_false h
theorem aer(l:List Stm)(hl:big l.length)(hd: ∀i,0<i→i<l.length→ee (el l i) (el l (i - 1))=false):
  Den Tryz.prog 127 [.os 1000000 l.length,.fn 128 [.ptr 1000001 0]] [.arr 60 13 false (l.map sm),.cells [.fn 122 []]] (.os 1000000 l.length) [] [.arr 60 13 false (l.map sm),.cells [.fn 122 []]]:=by
 refine aa Tryz.mixed Tryz.func127 rfl Tryz.call127 Tryz.ntmps127 (congrArg Array.toList Tryz.results127) (by simp) (by kernel_rfl) [] (exts:=[1000000,1000001]) rfl rfl ?_
 by_cases h2:(l.length:Int)<2
 ·simp only[go_sem,h2]
 simp only[go_sem,h2]
 refine loop Tryz.mixed 1 (fun i:Nat=>[(0,.os 1000000 l.length),(1,.fn 128 [.ptr 1000001 0]),(5,.int .i64 i)]) (fun _=>[(1000000,.arr 60 13 false (l.map sm)),(1000001,.cells [.fn 122 []])]) (fun i=>1≤i∧i≤l.length) (fun i=>l.length - i) (by kernel_rfl) ⟨Nat.le_refl _,by omega⟩ ?_ ?_
 ·simp only[go_sem]
 ·rintro i ⟨hi0,hi⟩
  by_cases hlt:i<l.length
  ·have h1:(i:Int)<(l.length:Int):=by omega
   obtain⟨j,rfl⟩: ∃j,i=j+1:=⟨i - 1,by omega⟩
   have hw:IntKind.i64.wrap (((j+1:Nat):Int) - 1)=(j:Int):=by rw[ag]<;>omega
   have hj:j<l.length:=by omega
   simp only[go_sem,h1,hlt,hw,hj]
   have hne:=hd (j+1) (by omega) hlt
   rw[Nat.add_sub_cancel]at hne
   refine call (ajs (el l (j+1)) (el l j)) [1000001] ?_
   simp only[go_sem,hne]
   refine⟨ae (by kernel_rfl),j+1+1,⟨⟨by omega,by omega⟩,by omega⟩,?_⟩
   rw[ag]<;>omega
  ·have h1: ¬(i:Int)<(l.length:Int):=by omega
   simp only[go_sem,h1]
theorem acl(l:List Stm)(hl:big l.length){k0:Nat}(h1:0<k0)(h2:k0<l.length)(h3:ee (el l k0) (el l (k0 - 1))=true)(h4: ∀j,0<j→j<k0→ee (el l j) (el l (j - 1))=false):
  Den Tryz.prog 127 [.os 1000000 l.length,.fn 128 [.ptr 1000001 0]] [.arr 60 13 false (l.map sm),.cells [.fn 122 []]] (.vs ((kp ee l l.length).map sm)) [] [.arr 60 13 true ((kp ee l l.length).map sm++List.replicate (l.length - (kp ee l l.length).length) zS),.cells [.fn 122 []]]:=by
 refine aa Tryz.mixed Tryz.func127 rfl Tryz.call127 Tryz.ntmps127 (congrArg Array.toList Tryz.results127) (by simp) (by kernel_rfl) [] (exts:=[1000000,1000001]) rfl rfl ?_
 have hlen: ¬(l.length:Int)<2:=by omega
 simp only[go_sem,hlen]
 refine wg Tryz.mixed 1 (fun i:Nat=>[(0,.os 1000000 l.length),(1,.fn 128 [.ptr 1000001 0]),(5,.int .i64 i)]) (fun _=>[(1000000,.arh 60 13 (l.map sm)),(1000001,.cells [.fn 122 []])]) (fun i=>1≤i∧i≤k0) (fun i=>k0 - i) (by kernel_rfl) ⟨Nat.le_refl _,by omega⟩ ?_ ?_
 ·refine Cv.trans (Cv.opn (n:=1000000) (by rfl)) (Cv.wk ?_)
  have hin:=bq [1000000,1000001] sm (fun _=>rfl) l
  simp only[go_sem,hin]
 ·rintro i ⟨hi0,hi⟩
  have hlt:i<l.length:=by omega
  have g1:(i:Int)<(l.length:Int):=by omega
  obtain⟨j,rfl⟩: ∃j,i=j+1:=⟨i - 1,by omega⟩
  have hw:IntKind.i64.wrap (((j+1:Nat):Int) - 1)=(j:Int):=by rw[ag]<;>omega
  have hj:j<l.length:=by omega
  have cq:=ajs (el l (j+1)) (el l j)
  by_cases hk:j+1<k0
  ·have hne:=h4 (j+1) (by omega) hk
   rw[Nat.add_sub_cancel]at hne
   rw[hne]at cq
   simp only[go_sem,g1,hlt,hw,hj]
   refine call cq [1000001] ?_
   simp only[go_sem]
   refine⟨ae (by kernel_rfl),j+1+1,⟨⟨by omega,by omega⟩,by omega⟩,Cv.wk ?_⟩
   have hin:=bq [1000000,1000001] sm (fun _=>rfl) l
   simp only[go_sem,hin]
   rw[ag]<;>omega
  ·obtain rfl:k0=j+1:=by omega
   rw[Nat.add_sub_cancel]at h3
   rw[h3]at cq
   simp only[go_sem,g1,hlt,hw,hj]
   refine call cq [1000001] ?_
   simp only[go_sem,g1,hlt,hw,hj]
   refine⟨ae (by kernel_rfl),?_⟩
   have kf:kp ee l (j+1+1)=l.take (j+1):=by
    have:=xe ee l (j+1) (by omega) h4
    rw[kp,if_neg (fun h=>by rcases h with h|h;omega;rw[Nat.add_sub_cancel,h3]at h;cases h),this,List.append_nil]
   refine wg Tryz.mixed (0,l) (fun s:Nat×List Stm=>[(0,.os 1000000 l.length),(1,.fn 128 [.ptr 1000001 0]),(5,.int .i64 (kp ee l (j+1+(s.1+1))).length),(6,.osl 1000000 l.length (j+1)),(7,.int .i64 ((s.1+1:Nat):Int))]) (fun s=>[(1000000,.arh 60 13 (s.2.map sm)),(1000001,.cells [.fn 122 []])])
    (fun s=>j+1+(s.1+1)≤l.length∧s.2.length=l.length∧(kp ee l (j+1+(s.1+1))).length<j+1+(s.1+1)∧s.2.take (kp ee l (j+1+(s.1+1))).length=kp ee l (j+1+(s.1+1))∧∀a,(kp ee l (j+1+(s.1+1))).length≤a→el s.2 a=el l a) (fun s=>l.length - s.1) (by kernel_rfl) ?_ ?_ ?_
   ·have hlt':(l.take (j+1)).length=j+1:=by simp;omega
    refine⟨by simp only;omega,rfl,?_,?_,fun a _=>rfl⟩
    ·show(kp ee l (j+1+1)).length<j+1+1
     rw[kf,hlt'];omega
    ·show l.take (kp ee l (j+1+1)).length=kp ee l (j+1+1)
     rw[kf,hlt']
   ·refine Cv.wk ?_
    have hlt':(l.take (j+1)).length=j+1:=by simp;omega
    have hin:=bq [1000000,1000001] sm (fun _=>rfl) l
    simp only[go_sem,hin,kf,hlt']
   ·rintro⟨n,L⟩ ⟨i1,i2,i3,i4,i5⟩
    simp only at i1 i2 i3 i4 i5
    simp only
    have ks:kp ee l (j+1+(n+1)+1)=kp ee l (j+1+(n+1))++if ee (el l (j+1+(n+1))) (el l (j+1+n))=false then [el l (j+1+(n+1))]else []:=by
     rw[kp]
     have h0: ¬j+1+(n+1)=0:=by omega
     simp only[h0,false_or]
     rfl
    have k0p:0<(kp ee l (j+1+(n+1))).length:=aum _ _ (by omega)
    generalize hO:kp ee l (j+1+(n+1))=o at*
    by_cases hm:j+1+(n+1)<l.length
    ·have g2:((n+1:Nat):Int)<((l.length - (j+1):Nat):Int):=by omega
     have g3:((j+1:Nat):Int)+((n+1:Nat):Int)<(l.length:Int):=by omega
     have g4:((j+1:Nat):Int)+(n:Int)<(l.length:Int):=by omega
     have g5:IntKind.i64.wrap (((n+1:Nat):Int) - 1)=(n:Int):=by rw[ag]<;>omega
     have g6:j+1+(n+1)<L.length:=by omega
     have g7:j+1+n<L.length:=by omega
     have e1:el L (j+1+(n+1))=el l (j+1+(n+1)):=i5 _ (by omega)
     have e2:el L (j+1+n)=el l (j+1+n):=i5 _ (by omega)
     have ks':kp ee l (j+1+((n+1)+1))=o++if ee (el l (j+1+(n+1))) (el l (j+1+n))=false then [el l (j+1+(n+1))]else []:=ks
     have cq2:=ajs (el l (j+1+(n+1))) (el l (j+1+n))
     have hm2:j+1+n<l.length:=by omega
     cases hsame:ee (el l (j+1+(n+1))) (el l (j+1+n))with
     |true=>
      rw[hsame,if_neg (by simp),List.append_nil]at ks'
      rw[hsame]at cq2
      simp only[go_sem,g2,g3,g4,g5,g6,g7,i2,e1,e2,hm,hm2]
      refine call cq2 [1000001] ?_
      simp only[go_sem,g2,g3,g4,g5,g6,g7,i2,e1,e2,hm,hm2]
      refine⟨ae (by kernel_rfl),(n+1,L),⟨⟨by simp only;omega,i2,?_,?_,fun a ha=>i5 a ?_⟩,by simp only;omega⟩,Cv.wk ?_⟩
      ·show(kp ee l (j+1+((n+1)+1))).length<_
       rw[ks'];simp only;omega
      ·show L.take (kp ee l (j+1+((n+1)+1))).length=_
       rw[ks'];exact i4
      ·have ha':(kp ee l (j+1+((n+1)+1))).length≤a:=ha
       rwa [ks']at ha'
      ·have hin:=bq [1000000,1000001] sm (fun _=>rfl) L
       simp only[go_sem,ks',hin]
       rw[ag]<;>omega
     |false=>
      rw[hsame,if_pos rfl]at ks'
      rw[hsame]at cq2
      have g8:o.length<l.length:=by omega
      simp only[go_sem,g2,g3,g4,g5,g6,g7,g8,i2,e1,e2,hm,hm2]
      refine call cq2 [1000001] ?_
      simp only[go_sem,g2,g3,g4,g5,g6,g7,g8,i2,e1,e2,hm,hm2]
      refine⟨ae (by kernel_rfl),(n+1,L.set o.length (el l (j+1+(n+1)))),⟨⟨by simp only;omega,by simp only[List.length_set];exact i2,?_,?_,fun a ha=> ?_⟩,by simp only;omega⟩,Cv.wk ?_⟩
      ·show(kp ee l (j+1+((n+1)+1))).length<_
       rw[ks',List.length_append,List.length_singleton];simp only;omega
      ·show(L.set o.length (el l (j+1+(n+1)))).take (kp ee l (j+1+((n+1)+1))).length=kp ee l (j+1+((n+1)+1))
       rw[ks'];exact ux (by omega) i4
      ·have ha':(kp ee l (j+1+((n+1)+1))).length≤a:=ha
       rw[ks',List.length_append,List.length_singleton]at ha'
       show el (L.set o.length _) a=_
       rw[am3 (by omega)]
       exact i5 a (by omega)
      ·have hin:=bq [1000000,1000001] sm (fun _=>rfl) (L.set o.length (el l (j+1+(n+1))))
       have hset:(L.map sm).set o.length [PV.int IntKind.i64 (el l (j+1+(n+1))).au,PV.int IntKind.i64 (el l (j+1+(n+1))).nu,PV.str (el l (j+1+(n+1))).prev,PV.int IntKind.i64 (el l (j+1+(n+1))).ti,PV.int IntKind.i64 (el l (j+1+(n+1))).kd,PV.int IntKind.i64 (el l (j+1+(n+1))).a,PV.int IntKind.i64 (el l (j+1+(n+1))).b,PV.int IntKind.i64 (el l (j+1+(n+1))).c,PV.vs (List.map Am.i1 (el l (j+1+(n+1))).li),PV.vs (List.map pn (el l (j+1+(n+1))).pins),PV.str (el l (j+1+(n+1))).body,PV.int IntKind.i64 (el l (j+1+(n+1))).sk,PV.str (el l (j+1+(n+1))).sd]=(L.set o.length (el l (j+1+(n+1)))).map sm:=by rw[List.map_set];rfl
       have hol:(o++[el l (j+1+(n+1))]).length=o.length+1:=by simp
       simp only[go_sem,ks',hset,hin,hol]
       exact⟨by rw[ag]<;>omega,by rw[ag]<;>omega⟩
    ·have hend:j+1+(n+1)=l.length:=by omega
     have g2: ¬((n+1:Nat):Int)<((l.length - (j+1):Nat):Int):=by omega
     have g3:(o.length:Int)<(l.length:Int):=by omega
     rw[hend]at hO
     rw[hO]
     have htk:(L.map sm).take o.length=o.map sm:=by rw[←List.map_take,i4]
     have hpu: ∀σ,jw σ (o.map sm++List.replicate (l.length - o.length) zS)=some (o.map sm++List.replicate (l.length - o.length) zS,[]):=fun σ=>qb fun x hx=>by
      rcases List.mem_append.1 hx with hx|hx
      ·obtain⟨c,_,rfl⟩:=List.mem_map.1 hx
       rfl
      ·rw[List.eq_of_mem_replicate hx]
       rfl
     have g4:(o.length:Int)≤(l.length:Int):=by omega
     have g5:(o.map sm++List.replicate (l.length - o.length) zS).length=l.length:=by simp;omega
     have g6:(o.map sm++List.replicate (l.length - o.length) zS).take o.length=o.map sm:=by simp
     simp only[go_sem,g2,g3,i2,htk]
     refine mi _ _ ?_
     have g7:o.length<l.length:=by omega
     simp only[go_sem,g2,g3,i2,htk,g7,←bdu,hpu,g4,g5,g6]
     refine akd _ ?_
     simp only[go_sem]
theorem ab9(l:List Stm)(hl:big l.length):
  ∃new,new.length=l.length∧Den Tryz.prog 127 [.os 1000000 l.length,.fn 128 [.ptr 1000001 0]] [.arr 60 13 false (l.map sm),.cells [.fn 122 []]] (.vs ((kp ee l l.length).map sm)) [] [.arr 60 13 true new,.cells [.fn 122 []]]:=by
 rcases uj ee l l.length (Nat.le_refl _)with h|⟨k0,h1,h2,h3,h4⟩
 ·rw[aki _ _ h]
  exact⟨_,by simp,(aer l hl h).vsE (by simp)⟩
 ·exact⟨_,by have:=zj ee l l.length;simp;omega,acl l hl h1 h2 h3 h4⟩
def aox(L:List Stm)(a:Int)(i:Nat):List Stm:=jy (L.take i) a
theorem at0{L:List Stm}{a:Int}{i:Nat}(h:i<L.length):aox L a (i+1)=aox L a i++(if(decide ((el L i).au=a)&&dc (el L i))=true then [el L i]else []):=by
 unfold aox jy
 rw[bh h,List.filter_append]
 congr 1
 simp only[List.filter_cons,List.filter_nil]
theorem a2b(L:List Stm)(a:Int)(i:Nat):(aox L a i).length≤L.length:=by
 have h1:=acg (L.take i) a
 have h2:(L.take i).length≤L.length:=by rw[List.length_take];omega
 unfold aox
 omega
theorem a2z(L:List Stm)(a:Int):aox L a L.length=jy L a:=by rw[aox,List.take_length]
theorem a5q(L:List Stm)(a:Int)(hl:L.length≤1000000)(hs: ∀s∈L,gx s)(h:CF L):Den Tryz.prog 95 [.vs (L.map sm),.int .i64 a] [] (.vs ((jg L a).map sm)) [] []:=by
 refine aa Tryz.mixed Tryz.func95 rfl Tryz.call95 Tryz.ntmps95 (congrArg Array.toList Tryz.results95) (by simp) (by kernel_rfl) [] (exts:=[]) rfl rfl ?_
 simp only[go_sem]
 refine br 5 99 60 13 false ?_ ?_ ?_ (by omega)
 ·refine loop Tryz.mixed 0 (fun i:Nat=>[(1,.int .i64 a),(5,.os 99 (aox L a i).length),(9,.vs (L.map sm)),(10,.int .i64 L.length),(11,.int .i64 i)]) (fun i=>[(99,.arr 60 13 false ((aox L a i).map sm))]) (fun i=>i≤L.length) (fun i=>L.length - i) (by kernel_rfl) (Nat.zero_le _) ?_ ?_
  ·simp only[go_sem]
   exact⟨rfl,rfl⟩
  ·intro i hi
   by_cases hlt:i<L.length
   ·have h1:(i:Int)<(L.length:Int):=by omega
    have hsu:=at0 (a:=a) hlt
    have hln:=a2b L a i
    have hbs:=hs _ (aw hlt)
    have c1:=ow (el L i) hbs
    have c2:=fun h:aj (el L i)=0=>rp (el L i) (n8 h)
    rw[kz]at c1 c2
    have no:(decide ((el L i).au=a)&&dc (el L i))=false→aox L a (i+1)=aox L a i:=fun hh=>by rw[hsu,hh,if_neg (by simp),List.append_nil]
    by_cases k1:a=(el L i).au
    rotate_left
    ·have k1': ¬(el L i).au=a:=fun e=>k1 e.symm
     have n0:=no (by simp[k1'])
     simp only[go_sem,h1,hlt,k1,k1']
     refine⟨i+1,⟨by omega,by omega⟩,?_⟩
     rw[n0]
     exact⟨⟨rfl,by rw[ag]<;>omega⟩,rfl⟩
    have kt:=eq_true k1
    have kt':=eq_true k1.symm
    simp only[go_sem,h1,hlt,kt,kt']
    refine call c1 [] ?_
    by_cases k2:aj (el L i)=0
    rotate_left
    ·have n0:=no (by simp[dc,k2])
     simp only[go_sem,k2,kt,kt']
     refine⟨i+1,⟨by omega,by omega⟩,?_⟩
     rw[n0]
     exact⟨⟨rfl,by rw[ag]<;>omega⟩,rfl⟩
    simp only[go_sem,k2,kt,kt']
    refine call (c2 k2) [] ?_
    by_cases k3:(el L i).sk=(el L i).au∧(el L i).sd=dig (el L i)
    rotate_left
    ·have n0:=no (by simp[dc,k3])
     simp only[go_sem,k3,k2,kt,kt']
     refine⟨i+1,⟨by omega,by omega⟩,?_⟩
     rw[n0]
     exact⟨⟨rfl,by rw[ag]<;>omega⟩,rfl⟩
    have y0:aox L a (i+1)=aox L a i++[el L i]:=by rw[hsu,if_pos (by simp[dc,←k1,k2];exact⟨by rw[k1];exact k3.1,k3.2⟩)]
    simp only[go_sem,k3,k2,kt,kt']
    refine⟨by omega,i+1,⟨by omega,by omega⟩,?_⟩
    rw[y0]
    exact⟨⟨by simp,by rw[ag]<;>omega⟩,by simp[kz,k3]⟩
   ·have h1: ¬(i:Int)<(L.length:Int):=by omega
    have:i=L.length:=by omega
    subst this
    simp only[go_sem,h1]
    have hfl:=acg L a
    rw[a2z]
    refine call (awa (jy L a) (by omega) h fun s hs=>hs) [99] ?_
    have hsl:(arg (jy L a)).length=(jy L a).length:=List.length_mergeSort _
    simp only[go_sem,hsl]
    obtain⟨new,hnl,hcc⟩:=ab9 (arg (jy L a)) (by simp only[big];omega)
    rw[hsl]at hcc hnl
    refine⟨Nat.le_refl _,?_⟩
    have hol:jg L a=kp ee (arg (jy L a)) (arg (jy L a)).length:=rfl
    rw[hol,hsl]
    refine call hcc [99,8] ?_
    simp only[go_sem,hsl]
    omega
 ·simp only[go_sem]
 ·simp only[go_sem]
def pf(p:Int×Stm×Stm):List PV:= .int .i64 p.1::(sm p.2.1++sm p.2.2)
theorem aew(p:Int×Stm×Stm):pf p=[.int .i64 p.1,.int .i64 p.2.1.au,.int .i64 p.2.1.nu,.str p.2.1.prev,.int .i64 p.2.1.ti,.int .i64 p.2.1.kd,.int .i64 p.2.1.a,.int .i64 p.2.1.b,.int .i64 p.2.1.c,.vs (p.2.1.li.map i1),.vs (p.2.1.pins.map pn),.str p.2.1.body,.int .i64 p.2.1.sk,.str p.2.1.sd,
 .int .i64 p.2.2.au,.int .i64 p.2.2.nu,.str p.2.2.prev,.int .i64 p.2.2.ti,.int .i64 p.2.2.kd,.int .i64 p.2.2.a,.int .i64 p.2.2.b,.int .i64 p.2.2.c,.vs (p.2.2.li.map i1),.vs (p.2.2.pins.map pn),.str p.2.2.body,.int .i64 p.2.2.sk,.str p.2.2.sd]:=(rfl)
attribute [go_sem] aew
theorem at5(M:List Stm)(hl:big M.length):Den Tryz.prog 96 [.vs (M.map sm)] [] (.vs ((pfs 1 (gd M)).map pf)) [] []:=by
 refine aa Tryz.mixed Tryz.func96 rfl Tryz.call96 Tryz.ntmps96 (congrArg Array.toList Tryz.results96) (by simp) (by kernel_rfl) [] (exts:=[]) rfl rfl ?_
 simp only[go_sem]
 refine loop Tryz.mixed 1 (fun i:Nat=>[(0,.vs (M.map sm)),(3,.int .i64 i)]) (fun _=>[]) (fun i=>1≤i∧(i≤M.length∨i=1)∧∀j,j<i→adt M j=false) (fun i=>M.length - i) (by kernel_rfl) ⟨Nat.le_refl _,.inr rfl,fun j hj=>by rw[show j=0 by omega];rfl⟩ ?_ ?_
 ·simp only[go_sem]
 ·rintro i ⟨h0,hi,hp⟩
  by_cases hlt:i<M.length
  ·have h1:(i:Int)<(M.length:Int):=by omega
   obtain⟨j,rfl⟩: ∃j,i=j+1:=⟨i - 1,by omega⟩
   have hw:IntKind.i64.wrap (((j+1:Nat):Int) - 1)=(j:Int):=by rw[ag]<;>omega
   have hj:j<M.length:=by omega
   have hat:=a1s hlt (M:=M)
   rw[Nat.add_sub_cancel]at hat
   by_cases hn:(el M (j+1)).nu=(el M j).nu
   ·have hq:=hat (by simp[adt,hn]) hp
    rw[hq]
    simp only[go_sem,h1,hlt,hw,hj,hn,pfs]
    exact⟨ae (by kernel_rfl),ae (by kernel_rfl)⟩
   ·simp only[go_sem,h1,hlt,hw,hj,hn]
    refine⟨ae (by kernel_rfl),j+1+1,⟨⟨by omega,by omega,fun k hk=> ?_⟩,by omega⟩,by rw[ag]<;>omega⟩
    by_cases hkj:k=j+1
    ·subst hkj
     simp[adt,hn]
    ·exact hp k (by omega)
  ·have h1: ¬(i:Int)<(M.length:Int):=by omega
   rw[ap2 fun j hj=>hp j (by omega)]
   simp only[go_sem,h1,pfs,List.map_nil]
theorem a1v(v:Vt)(s:Stm)(hs:gx s)(hv:ml v.x):Den Tryz.prog 175 [.agg (sm s),.ptr 1000000 0] [.cells (vt7 v)] (.bool (ayw v s)) [] [.cells (vt7 v)]:=by
 refine aa Tryz.mixed Tryz.func175 rfl Tryz.call175 Tryz.ntmps175 (congrArg Array.toList Tryz.results175) (by simp) (by kernel_rfl) [] (exts:=[1000000]) rfl rfl ?_
 have c1:=avd s hs
 have hb:ml (ofE s).1.x:=io (qh (s:=s))
 have hm:ayw v s=(decide ((ofE s).2=0)&&(bx (ofE s).1.c v.c&&decide (jx (ofE s).1.x v.x=0))):=rfl
 have hce:bx (ofE s).1.c v.c=true↔((ofE s).1.c.ep=v.c.ep∧(ofE s).1.c.kd=v.c.kd∧(ofE s).1.c.su=v.c.su∧(ofE s).1.c.ro=v.c.ro):=by
  generalize (ofE s).1.c=a
  cases a
  cases hv:v.c
  simp[bx]
 have c2:=rk (ofE s).1.x v.x hb.1 hb.2 hv.1 hv.2
 rw[kz]at c1
 generalize ayw v s=m at*
 generalize ofE s=W at*
 obtain⟨w,e⟩:=W
 dsimp only at c1 c2 hm hce
 simp only[go_sem]
 refine call c1 [] ?_
 by_cases he:e=0
 rotate_left
 ·rw[decide_eq_false he,Bool.false_and]at hm
  subst hm
  simp only[go_sem,he]
 rw[decide_eq_true he,Bool.true_and]at hm
 cases hsc:bx w.c v.c
 ·rw[hsc,Bool.false_and]at hm
  subst hm
  have hn: ¬(w.c.ep=v.c.ep∧w.c.kd=v.c.kd∧w.c.su=v.c.su∧w.c.ro=v.c.ro):=fun h=>by rw[hce.2 h]at hsc;cases hsc
  simp only[go_sem,he,hn]
  done
 ·rw[hsc,Bool.true_and]at hm
  have hy:=hce.1 hsc
  simp only[go_sem,he,hy]
  refine call c2 [] ?_
  simp only[go_sem]
  exact hm.symm
theorem azk(v:Vt)(hv:ml v.x)(l:List Stm)(hb:big l.length)(hs: ∀s∈l,gx s):Den Tryz.prog 174 [.vs (l.map sm),.fn 175 [.ptr 1000000 0]] [.cells (vt7 v)] (.int .i64 (ari (ayw v) l)) [] [.cells (vt7 v)]:=by
 refine aa Tryz.mixed Tryz.func174 rfl Tryz.call174 Tryz.ntmps174 (congrArg Array.toList Tryz.results174) (by simp) (by kernel_rfl) [] (exts:=[1000000]) rfl rfl ?_
 simp only[go_sem]
 refine loop Tryz.mixed 0 (fun i:Nat=>[(0,.vs (l.map sm)),(1,.fn 175 [.ptr 1000000 0]),(7,.int .i64 l.length),(8,.int .i64 i)]) (fun i=>[(1000000,.cells (vt7 v))]) (fun i=>i≤l.length∧∀j,j<i→ayw v (el l j)=false) (fun i=>l.length - i) (by kernel_rfl) ?_ ?_ ?_
 ·simp
 ·simp only[go_sem]
 ·rintro i ⟨hi,hp⟩
  by_cases hi':i<l.length
  ·have hlt:(i:Int)<(l.length:Int):=by omega
   have cD:=a1v v (el l i) (hs _ (aw hi')) hv
   rw[kz,al6]at cD
   simp only[go_sem,hlt,hi']
   refine call cD [1000000] ?_
   cases e:ayw v (el l i)
   ·simp only[go_sem]
    refine⟨i+1,⟨⟨by omega,fun j hj=> ?_⟩,by omega⟩,by rw[ag]<;>omega⟩
    by_cases hji:j=i
    ·rw[hji];exact e
    ·exact hp j (by omega)
   ·simp only[go_sem]
    rw[ath hi' e hp]
  ·have hf: ¬((i:Int)<(l.length:Int)):=by omega
   have:i=l.length:=by omega
   subst this
   simp only[go_sem,hf]
   rw[aex hp]
theorem afh(M:List Stm)(v:Vt)(hl:big M.length)(hs: ∀s∈M,gx s)(hv:ml v.x)(ha:M.any (ayw v)=true):Den Tryz.prog 131 [.vs (M.map sm),.agg (vt7 v)] [] (.agg (sm (aqc M v))) [] []:=by
 refine aa Tryz.mixed Tryz.func131 rfl Tryz.call131 Tryz.ntmps131 (congrArg Array.toList Tryz.results131) (by simp) (by kernel_rfl) [] (exts:=[]) rfl rfl ?_
 obtain⟨i,h1,h2,_⟩:=av5 ha
 have c1:=azk v hv M hl hs
 have hx:aqc M v=el M i:=by rw[aqc,h1,Int.toNat_natCast]
 rw[h1,al6]at c1
 rw[hx]
 simp only[go_sem]
 refine call c1 [3] ?_
 simp only[go_sem,h2]
 done
theorem ad5{M:List Stm}{K:List Cs}{i:Nat}(h:i<K.length)(f:Cs→List (Stm×Stm)):(K.take (i+1)).flatMap f=(K.take i).flatMap f++f (el K i):=by
 rw[bh h,List.flatMap_append]
 simp
theorem oz(L:List Stm):(f9 L).length≤L.length:=by
 have h1:=zj bx (arj (ud L L.length)) (arj (ud L L.length)).length
 have h2:(arj (ud L L.length)).length=(ud L L.length).length:=List.length_mergeSort _
 have h3:(ud L L.length).length≤L.length:=by
  unfold ud
  rw[List.length_map]
  refine Nat.le_trans (List.length_filter_le _ _) ?_
  rw[List.length_take];omega
 unfold f9
 omega
def dbl(M:List Stm)(c:Cs):List (Stm×Stm):=if 1<(am M c).length then [(aqc M (el (am M c) 0),aqc M (el (am M c) 1))]else []
theorem anj(M:List Stm):afj M=(f9 M).flatMap (dbl M):=rfl
theorem aj4(M:List Stm)(K:List Cs): ∀i,((K.take i).flatMap (dbl M)).length≤i
 |0=>by simp
 |i+1=>by
  have ih:=aj4 M K i
  by_cases h:i<K.length
  ·rw[ad5 h (M:=M),List.length_append]
   have:(dbl M (el K i)).length≤1:=by
    unfold dbl
    split<;>simp
   omega
  ·rw[List.take_of_length_le (by omega)]
   rw[List.take_of_length_le (by omega)]at ih
   omega
theorem aix(M:List Stm)(hl:M.length≤1000000)(hs: ∀s∈M,gx s):Den Tryz.prog 97 [.vs (M.map sm)] [] (.vs ((pfs 2 (afj M)).map pf)) [] []:=by
 refine aa Tryz.mixed Tryz.func97 rfl Tryz.call97 Tryz.ntmps97 (congrArg Array.toList Tryz.results97) (by simp) (by kernel_rfl) [] (exts:=[]) rfl rfl ?_
 have c1:=aqt M hl hs
 have hKl:=oz M
 have cv:=fun c:Cs=>ze M c hl hs
 rw[anj]
 have hfa:=fun(c:Cs) (v:Vt) (h:v∈am M c)=>awz h
 have hvb:=fun(c:Cs) (v:Vt) (h:v∈am M c)=>io (ob v h).1
 generalize f9 M=K at*
 simp only[go_sem]
 refine call c1 [] ?_
 simp only[go_sem]
 have hd0: ∀i,((pfs 2 ((K.take i).flatMap (dbl M)))).length≤i:=fun i=>by rw[pfs,List.length_map];exact aj4 M K i
 refine br 3 99 87 27 false ?_ ?_ ?_ (by omega)
 ·refine loop Tryz.mixed 0 (fun i:Nat=>[(0,.vs (M.map sm)),(3,.os 99 (pfs 2 ((K.take i).flatMap (dbl M))).length),(8,.vs (K.map cs)),(9,.int .i64 K.length),(10,.int .i64 i)]) (fun i=>[(99,.arr 87 27 false ((pfs 2 ((K.take i).flatMap (dbl M))).map pf))]) (fun i=>i≤K.length) (fun i=>K.length - i) (by kernel_rfl) (Nat.zero_le _) ?_ ?_
  ·simp only[go_sem,pfs,List.flatMap_nil,List.map_nil,List.length_nil]
   done
  ·intro i hi
   by_cases hlt:i<K.length
   ·have h1:(i:Int)<(K.length:Int):=by omega
    have hsu:=ad5 (M:=M) hlt (dbl M)
    have hdi:=hd0 i
    have cv:=cv (el K i)
    have hfa:=hfa (el K i)
    have hvb:=hvb (el K i)
    have hde:dbl M (el K i)=if 1<(am M (el K i)).length then [(aqc M (el (am M (el K i)) 0),aqc M (el (am M (el K i)) 1))]else []:=rfl
    rw[bd]at cv
    generalize am M (el K i)=V at*
    have hps:pfs 2 ((K.take (i+1)).flatMap (dbl M))=pfs 2 ((K.take i).flatMap (dbl M))++pfs 2 (dbl M (el K i)):=by rw[hsu,pfs,List.map_append];rfl
    generalize pfs 2 ((K.take i).flatMap (dbl M))=o at*
    simp only[go_sem,h1,hlt]
    refine call cv [] ?_
    by_cases h2:1<(V.length:Int)
    ·have hV1:1<V.length:=by omega
     have hV0:0<V.length:=by omega
     have hV0i:(0:Int)<(V.length:Int):=by omega
     rw[if_pos hV1]at hde
     rw[hde]at hps
     have f0:=afh M (el V 0) (by simp only[big];omega) hs (hvb _ (aw hV0)) (hfa _ (aw hV0))
     have f1:=afh M (el V 1) (by simp only[big];omega) hs (hvb _ (aw hV1)) (hfa _ (aw hV1))
     rw[al6,kz]at f0 f1
     generalize aqc M (el V 0)=x0 at*
     generalize aqc M (el V 1)=x1 at*
     simp only[go_sem,h2,hV1,hV0,hV0i]
     refine call f0 [] ?_
     simp only[go_sem,h2,hV1,hV0,hV0i]
     refine call f1 [] ?_
     simp only[go_sem]
     refine⟨by omega,ae (by kernel_rfl),i+1,⟨by omega,by omega⟩,?_⟩
     rw[hps]
     exact⟨⟨by simp[pfs],by rw[ag]<;>omega⟩,by simp[pfs,aew]⟩
    ·rw[if_neg (by omega)]at hde
     rw[hde]at hps
     simp only[go_sem,h2]
     refine⟨i+1,⟨by omega,by omega⟩,?_⟩
     rw[hps]
     simp only[go_sem,pfs,List.map_nil,List.append_nil]
     rw[ag]<;>omega
   ·have h1: ¬(i:Int)<(K.length:Int):=by omega
    have:i=K.length:=by omega
    subst this
    simp only[go_sem,h1,List.take_length]
    done
 ·simp only[go_sem]
 ·simp only[go_sem]
def akw(l:List Int)(k:Cs)(x:Ct)(seats:List Int)(round:Int)(p:Nat)(o:List Stm):Nat→Nat×List Stm
 |0=>(p,o)
 |i+1=>(dgo l (akw l k x seats round p o i).1 1,(akw l k x seats round p o i).2++(if ai l (akw l k x seats round p o i).1 9=8 then []else [vt (el seats i) round k x]))
def a2g(l:List Int)(r:Rl)(t:Tm)(c:Cs)(round:Int)(st:Nat×List Stm):Nat×List Stm:=
 if(cu r t {c with ro:=round}).2≠0 then st
 else akw l {c with ro:=round} (kr l st.1 {c with ro:=round}).1 (cu r t {c with ro:=round}).1 (10+round) (kr l st.1 {c with ro:=round}).2 st.2 (cu r t {c with ro:=round}).1.length
theorem akp{l:List Int}{k:Cs}{x:Ct}{seats:List Int}{round:Int}{p:Nat}{o:List Stm}(hp:p≤l.length): ∀i,(akw l k x seats round p o i).1≤l.length
 |0=>hp
 |i+1=>dx (akp hp i) 1
theorem adq{l:List Int}{k:Cs}{x:Ct}{seats:List Int}{round:Int}{p:Nat}{o:List Stm}: ∀i,(akw l k x seats round p o i).2.length≤o.length+i
 |0=>Nat.le_refl _
 |i+1=>by
  have h:=adq (l:=l) (k:=k) (x:=x) (seats:=seats) (round:=round) (p:=p) (o:=o) i
  simp only[akw,List.length_append]
  split<;>simp<;>omega
theorem a6y{l:List Int}{r:Rl}{t:Tm}{c:Cs}{round:Int}{st:Nat×List Stm}(hp:st.1≤l.length):(a2g l r t c round st).1≤l.length:=by
 unfold a2g
 split
 ·exact hp
 ·exact akp (alp hp _) _
theorem a35{l:List Int}{r:Rl}{t:Tm}{c:Cs}{round:Int}{st:Nat×List Stm}:(a2g l r t c round st).2.length≤st.2.length+64:=by
 unfold a2g
 have h0:=r7 r t {c with ro:=round}
 split
 ·omega
 ·have h2:=adq (l:=l) (k:={c with ro:=round}) (x:=(kr l st.1 {c with ro:=round}).1) (seats:=(cu r t {c with ro:=round}).1) (round:=10+round) (p:=(kr l st.1 {c with ro:=round}).2) (o:=st.2) (cu r t {c with ro:=round}).1.length
  omega
def ctC(l:List Int)(p:Nat):Cs:=⟨0,3,ai l p 8,0⟩
def ctB(l:List Int)(st:Nat×List Stm):List Stm:=if ai l (dgo l st.1 1) 2=1 then [gn (ctC l st.1).su 30 0 m6,gn (ctC l st.1).su 30 1 m6]else []
def ctA(l:List Int)(r:Rl)(t:Tm)(st:Nat×List Stm):Nat→Nat×List Stm
 |0=>(dgo l st.1 2,st.2++ctB l st)
 |i+1=>a2g l r t (ctC l st.1) i (ctA l r t st i)
def ctI(l:List Int)(r:Rl)(t:Tm)(st:Nat×List Stm):Nat×List Stm:=
 if ai l (ctA l r t st 2).1 2=1 then(dgo l (ctA l r t st 2).1 2,(ctA l r t st 2).2++[gn (ai l (dgo l (ctA l r t st 2).1 1) 8) 20 0 (apD (ctC l st.1))])
 else(dgo l (ctA l r t st 2).1 1,(ctA l r t st 2).2)
def ctT(l:List Int)(p:Nat):Tm:={lu (dq l p)with ros:=([0,1,2,3,4,5,6]:List Int).take (3+ai l (dgo l p 8) 5).toNat}
def ctN(l:List Int)(p:Nat):Nat:=(1+ai l (dgo l p 9) 2).toNat
def ctS(l:List Int)(p:Nat):Nat→Nat×List Stm
 |0=>(dgo l p 10,[])
 |i+1=>ctI l (dq l p) (ctT l p) (ctS l p i)
def ctF(l:List Int)(p:Nat):Nat×List Stm:=ctS l p (ctN l p)
theorem aw8{l:List Int}{r:Rl}{t:Tm}{st:Nat×List Stm}(hp:st.1≤l.length): ∀i,(ctA l r t st i).1≤l.length
 |0=>dx hp _
 |i+1=>a6y (aw8 hp i)
theorem a9g(l:List Int)(st:Nat×List Stm):(ctB l st).length≤2:=by
 unfold ctB
 split<;>simp
theorem akh{l:List Int}{r:Rl}{t:Tm}{st:Nat×List Stm}: ∀i,(ctA l r t st i).2.length≤st.2.length+64*i+2
 |0=>by
  have h:=a9g l st
  simp only[ctA,List.length_append];omega
 |i+1=>by
  have h1:=akh (l:=l) (r:=r) (t:=t) (st:=st) i
  have h2:=a35 (l:=l) (r:=r) (t:=t) (c:=ctC l st.1) (round:=i) (st:=ctA l r t st i)
  simp only[ctA];omega
theorem bap{l:List Int}{r:Rl}{t:Tm}{st:Nat×List Stm}(hp:st.1≤l.length):(ctI l r t st).1≤l.length:=by
 unfold ctI
 split<;>exact dx (aw8 hp 2) _
theorem a75{l:List Int}{r:Rl}{t:Tm}{st:Nat×List Stm}:(ctI l r t st).2.length≤st.2.length+131:=by
 have h:=akh (l:=l) (r:=r) (t:=t) (st:=st) 2
 unfold ctI
 split
 ·simp only[List.length_append,List.length_singleton];omega
 ·simp only;omega
theorem awh{l:List Int}{p:Nat}(hp:p≤l.length): ∀i,(ctS l p i).1≤l.length
 |0=>dx hp _
 |i+1=>bap (awh hp i)
theorem aju{l:List Int}{p:Nat}: ∀i,(ctS l p i).2.length≤131*i
 |0=>by simp[ctS]
 |i+1=>by
  have h1:=aju (l:=l) (p:=p) i
  have h2:=a75 (l:=l) (r:=dq l p) (t:=ctT l p) (st:=ctS l p i)
  simp only[ctS];omega
theorem a36{l:List Int}{p:Nat}:ctN l p≤2:=by
 have b:=bi (l:=l) (p:=dgo l p 9) (n:=2) (by omega)
 unfold ctN
 omega
theorem azh{n:Nat}(h1:1≤n):i8 (([0,1,2,3,4,5,6]:List Int).take n)=true:=by
 refine aik (List.Pairwise.sublist (List.take_sublist _ _) (by decide)) (fun x hx=> ?_) (fun h=> ?_) ?_
 ·have:=List.mem_of_mem_take hx
  simp at this
  omega
 ·have h2:(([0,1,2,3,4,5,6]:List Int).take n).length=0:=by rw[h];rfl
  rw[List.length_take]at h2
  simp at h2
  omega
 ·rw[List.length_take]
  simp
  omega
theorem bal{l:List Int}{p:Nat}:OkT (ctT l p):=by
 have h:=ak1 (af8 l p)
 have b1:=bi (l:=l) (p:=dgo l p 8) (n:=5) (by omega)
 exact⟨h.lo,h.hi,azh (by omega),h.bea⟩
theorem atf{l:List Int}{p:Nat}:3≤(ctT l p).ros.length∧(ctT l p).ros.length≤7:=by
 have b1:=bi (l:=l) (p:=dgo l p 8) (n:=5) (by omega)
 show 3≤(([0,1,2,3,4,5,6]:List Int).take _).length∧(([0,1,2,3,4,5,6]:List Int).take _).length≤7
 rw[List.length_take]
 show 3≤min _ 7∧min _ 7≤7
 omega
theorem avc(l:List Int)(p:Nat)(hl:big l.length)(hp:p≤l.length):Den Tryz.prog 10 [.ptr 1000000 0] [xa l p] (.tup [.agg (rl (dq l p)),.agg (tm (ctT l p)),.os 0 (ctF l p).2.length]) [.arr 60 13 false ((ctF l p).2.map sm)] [xa l (ctF l p).1]:=by
 refine aa Tryz.mixed Tryz.func10 rfl Tryz.call10 Tryz.ntmps10 (congrArg Array.toList Tryz.results10) (by simp) (by kernel_rfl) [120] (exts:=[1000000]) rfl rfl ?_
 obtain⟨z0,z1,z2⟩:=avr l p
 have hp8:=dx hp 8
 have hp9:=dx hp 9
 have c1:=apq l p hl hp
 have c2:=aux (dq l p) (af8 l p) (by omega) (by omega) (by omega)
 have b1:=bi (l:=l) (p:=dgo l p 8) (n:=5) (by omega)
 have b2:=bi (l:=l) (p:=dgo l p 9) (n:=2) (by omega)
 have w1:IntKind.i64.wrap (3+ai l (dgo l p 8) 5)=3+ai l (dgo l p 8) 5:=by rw[ag]<;>omega
 have hT:tm (ctT l p)=[.int .i64 0,.vs ((([0,1,2,3,4,5,6]:List Int).take (3+ai l (dgo l p 8) 5).toNat).map i1),.str (p4 (dq l p)),.bool false,.vs [],.vs []]:=rfl
 have ht0:tm (lu (dq l p))=[.int .i64 0,.vs ((dq l p).gen.map i1),.str (p4 (dq l p)),.bool false,.vs [],.vs []]:=rfl
 rw[ht0,bu]at c2
 rw[bu]at c1
 rw[hT,bu]
 have htk: ∀k:Nat,List.take k [[PV.int IntKind.i64 0],[PV.int IntKind.i64 1],[PV.int IntKind.i64 2],[PV.int IntKind.i64 3],[PV.int IntKind.i64 4],[PV.int IntKind.i64 5],[PV.int IntKind.i64 6]]=List.map i1 (([0,1,2,3,4,5,6]:List Int).take k):=fun k=>by
  rw[List.map_take];rfl
 simp only[go_sem]
 refine call c1 [1000000] ?_
 simp only[go_sem]
 refine call c2 [] ?_
 simp only[go_sem]
 refine call (bm l (dgo l p 8) 5 hl hp8 (by omega)) [1000000] ?_
 simp only[go_sem,w1,bz]
 refine⟨⟨by omega,by omega⟩,?_⟩
 have w2:IntKind.i64.wrap (1+ai l (dgo l p 9) 2)=1+ai l (dgo l p 9) 2:=by rw[ag]<;>omega
 refine call (bm l (dgo l p 9) 2 hl hp9 (by omega)) [1000000] ?_
 simp only[go_sem,bz,htk,w2]
 have hn:1+ai l (dgo l p 9) 2=(ctN l p:Int):=by unfold ctN;omega
 have hnl:=a36 (l:=l) (p:=p)
 have hR2:rl (dq l p)=[.vs ((dq l p).gen.map i1),.vs ((dq l p).pol.se.map i1),.vs ((dq l p).pol.ta.map i1),.int .i64 (dq l p).pol.lv,.int .i64 (dq l p).seats,.int .i64 (dq l p).span,.int .i64 (dq l p).quota]:=rfl
 clear c1 c2 ht0 htk w1 w2 b1 b2
 rw[hn,←hR2,←hT]
 have hS0:ctS l p 0=(dgo l p 10,[]):=rfl
 have hS1: ∀i:Nat,ctS l p (i+1)=ctI l (dq l p) (ctT l p) (ctS l p i):=fun i=>rfl
 have hF:ctF l p=ctS l p (ctN l p):=rfl
 have hle:=awh (l:=l) (p:=p) hp
 have hlen:=aju (l:=l) (p:=p)
 have hTl:=(atf (l:=l) (p:=p)).2
 have sT2:=(bal (l:=l) (p:=p)).bea
 clear hR2 hT
 generalize dq l p=R at*
 generalize ctT l p=T at*
 generalize ctF l p=Fm at*
 generalize ctS l p=Sf at*
 generalize ctN l p=n at*
 have sd3: ∀(C:Cs) (i:Nat),Den Tryz.prog 25 [.agg (rl R),.agg (tm T),.agg (cs {C with ro:=(i:Int)})] [] (.tup [.vs ((cu R T {C with ro:=(i:Int)}).1.map i1),.int .i64 (cu R T {C with ro:=(i:Int)}).2]) [] []:=
  fun C i=>afa R T _ (by simp only[big];omega) (by simp only[big];omega) (by simp only[big];omega) (by simp only[big];omega) (fun _=>sT2)
 refine br 8 120 60 13 false ?_ ?_ ?_ (by omega)
 ·refine loop Tryz.mixed 0 (fun i:Nat=>[(0,.ptr 1000000 0),(2,.ptr 2 0),(3,.ptr 3 0),(5,.ptr 5 0),(6,.ptr 6 0),(8,.os 120 (Sf i).2.length),(9,.int .i64 ((n - i:Nat):Int))]) (fun i=>[(1000000,xa l (Sf i).1),(2,.cells [.nils,.nils,.nils,.int .i64 0,.int .i64 0,.int .i64 0,.int .i64 0]),(3,.cells [.int .i64 0,.nils,.str [],.bool false,.nils,.nils]),(5,.cells (rl R)),(6,.cells (tm T)),(120,.arr 60 13 false ((Sf i).2.map sm))]) (fun i=>i≤n) (fun i=>n - i) (by kernel_rfl) (Nat.zero_le _) ?_ ?_
  ·rw[hS0]
   simp only[go_sem,List.map_nil,List.length_nil]
   omega
  ·intro i hi
   by_cases h:i<n
   ·have hlt:(0:Int)<((n - i:Nat):Int):=by omega
    have hst:=hS1 i
    have hp:=hle i
    have hln:=hlen i
    generalize Sf i=S at*
    obtain⟨q,o⟩:=S
    dsimp only at hp hln
    have hq1:=dx hp 1
    have hq2:=dx hp 2
    have e0:ady l q=dgo l q 1:=rfl
    have hA0:ctA l R T (q,o) 0=(dgo l q 2,o++ctB l (q,o)):=rfl
    have hA1: ∀j:Nat,ctA l R T (q,o) (j+1)=a2g l R T (ctC l q) j (ctA l R T (q,o) j):=fun j=>rfl
    have hAe:=aw8 (l:=l) (r:=R) (t:=T) (st:=(q,o)) hp
    have hAl:=akh (l:=l) (r:=R) (t:=T) (st:=(q,o))
    have hB:ctB l (q,o)=if ai l (dgo l q 1) 2=1 then [gn (ctC l q).su 30 0 m6,gn (ctC l q).su 30 1 m6]else []:=rfl
    rw[ctI]at hst
    dsimp only at hAl hAe hst
    simp only[go_sem,hlt]
    refine call (bm l q 8 hl hp (by omega)) [1000000] ?_
    simp only[go_sem,e0]
    refine call (wx l (dgo l q 1) 2 hl hq1 (by omega) (by omega)) [1000000] ?_
    have e2:ady l (dgo l q 1)=dgo l q 2:=rfl
    rw[show ai l q 8=(ctC l q).su from rfl]
    have hCe:(ctC l q).ep=0:=rfl
    have hCk:(ctC l q).kd=3:=rfl
    have c7:=um (ctC l q).su 30 0 m6 (by simp[m6]) rfl
    have c8:=um (ctC l q).su 30 1 m6 (by simp[m6]) rfl
    generalize ctC l q=C at*
    generalize ctA l R T (q,o)=Af at*
    generalize ctB l (q,o)=Bo at*
    cases hb:decide (ai l (dgo l q 1) 2=2 - 1)
    case' false=>
     have hcc: ¬ai l (dgo l q 1) 2=1:=of_decide_eq_false hb
     rw[if_neg hcc]at hB
     subst hB
     rw[List.append_nil]at hA0
     clear hb hcc c7 c8
     simp only[go_sem,e2]
    case' true=>
     have hcc:ai l (dgo l q 1) 2=1:=of_decide_eq_true hb
     rw[if_pos hcc]at hB
     subst hB
     clear hb hcc
     generalize gn C.su 30 0 m6=v0 at*
     generalize gn C.su 30 1 m6=v1 at*
     rw[asg]at c7 c8
     simp only[go_sem,e2]
     refine call c7 [] ?_
     simp only[go_sem]
     refine⟨⟨rfl,rfl,rfl,rfl,rfl,rfl⟩,call c8 [] ?_⟩
     simp only[go_sem]
     refine⟨⟨rfl,rfl,rfl,rfl,rfl,rfl⟩,by omega,ae (by kernel_rfl),?_⟩
    all_goals
     refine loop Tryz.mixed 0 (fun j:Nat=>[(0,.ptr 1000000 0),(2,.ptr 2 0),(3,.ptr 3 0),(5,.ptr 5 0),(6,.ptr 6 0),(8,.os 120 (Af j).2.length),(9,.int .i64 ((n - i:Nat):Int)),(10,.ptr 10 0),(11,.int .i64 j)]) (fun j=>[(1000000,xa l (Af j).1),(2,.cells [.nils,.nils,.nils,.int .i64 0,.int .i64 0,.int .i64 0,.int .i64 0]),(3,.cells [.int .i64 0,.nils,.str [],.bool false,.nils,.nils]),(5,.cells (rl R)),(6,.cells (tm T)),(10,.cells [.int .i64 0,.int .i64 C.kd,.int .i64 C.su,.int .i64 ((j - 1:Nat):Int)]),(120,.arr 60 13 false ((Af j).2.map sm))]) (fun j=>j≤2) (fun j=>2 - j) (by kernel_rfl) (Nat.zero_le _) ?_ ?_
     ·rw[hA0]
      simp only[go_sem,List.map_append,List.map_cons,List.map_nil]
      exact hCk.symm
     ·intro j hj
      by_cases hj2:j<2
      ·have hjlt:(j:Int)<2:=by omega
       have hst2:=hA1 j
       have hp2:=hAe j
       have hln2:=hAl j
       generalize Af j=S2 at*
       obtain⟨q2,o2⟩:=S2
       dsimp only at hp2 hln2
       have hK:cs {C with ro:=(j:Int)}=[.int .i64 0,.int .i64 C.kd,.int .i64 C.su,.int .i64 j]:=by rw[bd,hCe]
       have c3:=sd3 C j
       have c4:=ah6 l q2 {C with ro:=(j:Int)} hl hp2
       have hxo:=a05 l q2 {C with ro:=(j:Int)}
       have hyo:=alp hp2 {C with ro:=(j:Int)}
       have sl:=r7 R T {C with ro:=(j:Int)}
       rw[a2g]at hst2
       have hj1:((j+1 - 1:Nat):Int)=(j:Int):=by omega
       generalize hKK:({C with ro:=(j:Int)}:Cs)=K at*
       generalize cu R T K=SS at*
       obtain⟨s,k⟩:=SS
       dsimp only at c3 hst2 sl
       generalize kr l q2 K=X at*
       obtain⟨x,q3⟩:=X
       dsimp only at c4 hst2 hxo hyo
       rw[bu,fy,hK]at c3
       rw[hK,gk]at c4
       simp only[go_sem,hjlt]
       refine call c3 [] ?_
       by_cases hk:k=0
       rotate_left
       ·rw[if_pos hk]at hst2
        simp only[go_sem,hk]
        refine⟨j+1,⟨by omega,by omega⟩,?_⟩
        rw[hst2]
        exact⟨⟨rfl,by rw[ag]<;>omega⟩,rfl,hj1.symm,rfl⟩
       ·rw[if_neg (by simpa using hk)]at hst2
        have cv:=fun au nu=>a2c au nu K x hxo
        rw[hK,gk]at cv
        have hG0:akw l K x s (10+(j:Int)) q3 o2 0=(q3,o2):=rfl
        have hG1: ∀m:Nat,akw l K x s (10+(j:Int)) q3 o2 (m+1)=(dgo l (akw l K x s (10+(j:Int)) q3 o2 m).1 1,(akw l K x s (10+(j:Int)) q3 o2 m).2++(if ai l (akw l K x s (10+(j:Int)) q3 o2 m).1 9=8 then []else [vt (el s m) (10+(j:Int)) K x])):=fun m=>rfl
        have hGe:=akp (l:=l) (k:=K) (x:=x) (seats:=s) (round:=10+(j:Int)) (p:=q3) (o:=o2) hyo
        have hGl:=adq (l:=l) (k:=K) (x:=x) (seats:=s) (round:=10+(j:Int)) (p:=q3) (o:=o2)
        generalize akw l K x s (10+(j:Int)) q3 o2=G at*
        simp only[go_sem,hk]
        refine call c4 [1000000] ?_
        simp only[go_sem]
        refine loop Tryz.mixed 0 (fun m:Nat=>[(0,.ptr 1000000 0),(2,.ptr 2 0),(3,.ptr 3 0),(5,.ptr 5 0),(6,.ptr 6 0),(8,.os 120 (G m).2.length),(9,.int .i64 ((n - i:Nat):Int)),(10,.ptr 10 0),(11,.int .i64 j),(12,.vs (s.map i1)),(14,.ptr 14 0),(15,.int .i64 m)]) (fun m=>[(1000000,xa l (G m).1),(2,.cells [.nils,.nils,.nils,.int .i64 0,.int .i64 0,.int .i64 0,.int .i64 0]),(3,.cells [.int .i64 0,.nils,.str [],.bool false,.nils,.nils]),(5,.cells (rl R)),(6,.cells (tm T)),(10,.cells [.int .i64 0,.int .i64 C.kd,.int .i64 C.su,.int .i64 j]),(14,.cells (ct x)),(120,.arr 60 13 false ((G m).2.map sm))]) (fun m=>m≤s.length) (fun m=>s.length - m) (by kernel_rfl) (Nat.zero_le _) ?_ ?_
        ·rw[hG0]
         simp only[go_sem]
        ·intro m hm
         by_cases hm':m<s.length
         ·have hmlt:(m:Int)<(s.length:Int):=by omega
          have hstep:=hG1 m
          have hqe:=hGe m
          have hql:=hGl m
          generalize G m=g at*
          obtain⟨q4,o4⟩:=g
          dsimp only at hqe hql hstep
          simp only[go_sem,hmlt]
          refine call (wx l q4 9 hl hqe (by omega) (by omega)) [1000000] ?_
          have e1:ady l q4=dgo l q4 1:=rfl
          cases hb:decide (ai l q4 9=9 - 1)
          ·have hcc: ¬ai l q4 9=8:=of_decide_eq_false hb
           rw[if_neg hcc]at hstep
           have cv:=cv (el s m) (10+(j:Int))
           generalize vt (el s m) (10+(j:Int)) K x=v at*
           have w10:IntKind.i64.wrap (10+(j:Int))=10+(j:Int):=by rw[ag]<;>omega
           simp only[go_sem,e1,hm',w10]
           refine call cv [] ?_
           simp only[go_sem]
           refine⟨by omega,ae (by kernel_rfl),m+1,⟨by omega,by omega⟩,?_⟩
           rw[hstep]
           exact⟨⟨by simp,by rw[ag]<;>omega⟩,rfl,by rw[List.map_append];rfl⟩
          ·have hcc:ai l q4 9=8:=of_decide_eq_true hb
           rw[if_pos hcc,List.append_nil]at hstep
           simp only[go_sem,e1]
           refine⟨m+1,⟨by omega,by omega⟩,?_⟩
           rw[hstep]
           exact⟨⟨rfl,by rw[ag]<;>omega⟩,rfl,rfl⟩
         ·have hmm:m=s.length:=by omega
          subst hmm
          have hmlt: ¬(s.length:Int)<(s.length:Int):=by omega
          simp only[go_sem,hmlt]
          refine⟨j+1,⟨by omega,by omega⟩,?_⟩
          rw[hst2]
          exact⟨⟨rfl,by rw[ag]<;>omega⟩,rfl,hj1.symm,rfl⟩
      ·have:j=2:=by omega
       subst this
       have hjlt: ¬((2:Nat):Int)<2:=by omega
       have hp2:=hAe 2
       have hln2:=hAl 2
       generalize Af 2=S2 at*
       obtain⟨q2,o2⟩:=S2
       dsimp only at hp2 hln2 hst
       simp only[go_sem,hjlt]
       refine call (wx l q2 2 hl hp2 (by omega) (by omega)) [1000000] ?_
       have e1:ady l q2=dgo l q2 1:=rfl
       have hq3:=dx hp2 1
       have hsb:IntKind.i64.wrap (((n - i:Nat):Int) - 1)=((n - (i+1):Nat):Int):=by rw[ag]<;>omega
       cases hb:decide (ai l q2 2=2 - 1)
       ·have hcc: ¬ai l q2 2=1:=of_decide_eq_false hb
        rw[if_neg hcc]at hst
        simp only[go_sem,e1]
        refine⟨i+1,⟨by omega,by omega⟩,?_⟩
        rw[hst]
        exact⟨⟨rfl,hsb⟩,rfl,rfl⟩
       ·have hcc:ai l q2 2=1:=of_decide_eq_true hb
        rw[if_pos hcc]at hst
        simp only[go_sem,e1]
        refine call (bm l (dgo l q2 1) 8 hl hq3 (by omega)) [1000000] ?_
        have c6:=aff (ai l (dgo l q2 1) 8) 20 0 (apD C) (a4l C)
        rw[asg]at c6
        simp only[apD,hCe]at c6 hst
        generalize gn (ai l (dgo l q2 1) 8) 20 0 ⟨15,0,C.kd,C.su,[],[]⟩=v at*
        simp only[go_sem,bz]
        refine call c6 [] ?_
        simp only[go_sem]
        refine⟨by omega,ae (by kernel_rfl),i+1,⟨by omega,by omega⟩,?_⟩
        rw[hst]
        exact⟨⟨by simp,hsb⟩,rfl,by rw[List.map_append];rfl⟩
   ·have:i=n:=by omega
    subst this
    have hlt: ¬(0:Int)<((i - i:Nat):Int):=by omega
    rw[←hF]
    simp only[go_sem,hlt]
    exact ae (by kernel_rfl)
 ·simp only[go_sem]
 ·simp only[go_sem]
def mpS(r seats:List Int):List (PV×PV):=r.map fun k=>(.int .i64 k,.bool (decide (k∈seats)))
theorem f7(r seats:List Int): ∀e∈mpS r seats,noH e.2:=fun e he=>by
 obtain⟨k,_,rfl⟩:=List.mem_map.1 he
 exact .bool _
theorem aw7(d:List Nat): ∀r seats:List Int,a1y d (mpS r seats)=true
 |[],_=>rfl
 |a::r,seats=>by
  have ih:=aw7 d r seats
  unfold mpS at ih ⊢
  simp only[List.map_cons,a1y,ih,Bool.and_true]
  rfl
theorem a07(r seats:List Int):amt (.mp (mpS r seats))=True:=eq_true (f7 r seats)
attribute [go_sem] aw7 a07
theorem al9(k:Int): ∀(r seats:List Int) (i:Nat),gu (.int .i64 k) (mpS r seats) i=some ((r.findIdx? fun x=>decide (x=k)).map (· +i))
 |[],_,_=>by simp[mpS,gu]
 |a::r,seats,i=>by
  have ih:=al9 k r seats (i+1)
  unfold mpS at ih ⊢
  simp only[List.map_cons,gu,x8,List.findIdx?_cons]
  by_cases h:a=k
  ·subst h
   simp
  ·have h': ¬k=a:=fun e=>h e.symm
   simp only[h,h',decide_false]
   rw[ih]
   cases List.findIdx? (fun x=>decide (x=k)) r<;>simp[Nat.add_comm,Nat.add_left_comm]
theorem ank(k:Int)(r seats:List Int):(k∉r∧gu (.int .i64 k) (mpS r seats) 0=some none)∨∃i,gu (.int .i64 k) (mpS r seats) 0=some (some i)∧(mpS r seats).getD i (.undef,.undef)=(.int .i64 k,.bool (decide (k∈seats)))∧k∈r:=by
 have hf:=al9 k r seats 0
 cases hi:r.findIdx? (fun x=>decide (x=k))with
 |none=>
  rw[hi]at hf
  refine .inl ⟨fun h=> ?_,hf⟩
  rw[List.findIdx?_eq_none_iff]at hi
  have:=hi k h
  simp at this
 |some i=>
  rw[hi]at hf
  obtain⟨h1,h2,_⟩:=List.findIdx?_eq_some_iff_getElem.1 hi
  have h3:r[i]=k:=of_decide_eq_true h2
  have h5:(mpS r seats)[i]? =some (.int .i64 k,.bool (decide (k∈seats))):=by
   unfold mpS
   rw[List.getElem?_map,List.getElem?_eq_getElem h1,Option.map_some,h3]
  refine .inr ⟨i,hf,?_,List.mem_of_getElem? (by rw[List.getElem?_eq_getElem h1,h3]:r[i]? =some k)⟩
  exact(List.getD_eq_getElem?_getD).trans (congrArg (fun o=>Option.getD o _) h5)
theorem xt(k:Int)(r seats:List Int)(hr: ∀k∈seats,k∈r):Den Tryz.prog 38 [.int .i64 k,.ptr 1000000 0] [.cells [.mh 1000001],.mp (mpS r seats)] (.bool (!decide (k∈seats))) [] [.cells [.mh 1000001],.mp (mpS r seats)]:=by
 rcases ank k r seats with ⟨hn0,hf⟩|⟨i,hf,h4,_⟩
 ·have hn:k∉seats:=fun h=>hn0 (hr k h)
  refine rr Tryz.mixed Tryz.func38 rfl Tryz.call38 Tryz.ntmps38 (congrArg Array.toList Tryz.results38) (by simp) (by kernel_rfl) [] (f7 r seats) [] 1000000 1000001 [] (exts:=[1000000,1000001]) rfl rfl rfl rfl ?_
  simp only[go_sem,hf,aus,hn]
  done
 ·refine rr Tryz.mixed Tryz.func38 rfl Tryz.call38 Tryz.ntmps38 (congrArg Array.toList Tryz.results38) (by simp) (by kernel_rfl) [] (f7 r seats) [] 1000000 1000001 [] (exts:=[1000000,1000001]) rfl rfl rfl rfl ?_
  simp only[go_sem,hf,aus,h4]
  done
theorem aku(l r seats:List Int)(hl:big l.length)(hr: ∀k∈seats,k∈r)(h: ∀k∈l,k∈seats):
  Den Tryz.prog 57 [.os 1000000 l.length,.fn 38 [.ptr 1000001 0]] [.arr 3 1 false (l.map i1),.cells [.mh 1000002],.mp (mpS r seats)] (.int .i64 (-1)) [] [.arr 3 1 false (l.map i1),.cells [.mh 1000002],.mp (mpS r seats)]:=by
 refine rr Tryz.mixed Tryz.func57 rfl Tryz.call57 Tryz.ntmps57 (congrArg Array.toList Tryz.results57) (by simp) (by kernel_rfl) [] (f7 r seats) [1000000] 1000001 1000002 [.arr 3 1 false (l.map i1)] (exts:=[1000000,1000001,1000002]) rfl rfl rfl rfl ?_
 simp only[go_sem]
 refine loop Tryz.mixed 0 (fun i:Nat=>[(0,.os 1000000 l.length),(1,.fn 38 [.ptr 1000001 0]),(7,.int .i64 l.length),(8,.int .i64 i)]) (fun _=>[(1000000,.arr 3 1 false (l.map i1)),(1000001,.cells [.mh 1000002]),(1000002,.mp (mpS r seats))]) (fun i=>i≤l.length) (fun i=>l.length - i) (by kernel_rfl) (Nat.zero_le _) ?_ ?_
 ·simp only[go_sem]
 ·intro i hi
  by_cases hlt:i<l.length
  ·have h1:(i:Int)<(l.length:Int):=by omega
   have c1:=xt (el l i) r seats hr
   rw[decide_eq_true (h _ (aw hlt))]at c1
   simp only[go_sem,h1,hlt]
   refine ag7 c1 (f7 r seats) [] [] [] 1000001 1000002 [1000001,1000002] rfl rfl rfl ?_
   simp only[go_sem]
   exact⟨i+1,⟨by omega,by omega⟩,by rw[ag]<;>omega⟩
  ·have h1: ¬(i:Int)<(l.length:Int):=by omega
   simp only[go_sem,h1]
theorem ai1(l r seats:List Int)(hl:big l.length)(hr: ∀k∈seats,k∈r){k0:Nat}(h0:k0<l.length)(h1:el l k0∉seats)(h: ∀j,j<k0→el l j∈seats):
  Den Tryz.prog 57 [.os 1000000 l.length,.fn 38 [.ptr 1000001 0]] [.arr 3 1 false (l.map i1),.cells [.mh 1000002],.mp (mpS r seats)] (.int .i64 k0) [] [.arr 3 1 false (l.map i1),.cells [.mh 1000002],.mp (mpS r seats)]:=by
 refine rr Tryz.mixed Tryz.func57 rfl Tryz.call57 Tryz.ntmps57 (congrArg Array.toList Tryz.results57) (by simp) (by kernel_rfl) [] (f7 r seats) [1000000] 1000001 1000002 [.arr 3 1 false (l.map i1)] (exts:=[1000000,1000001,1000002]) rfl rfl rfl rfl ?_
 simp only[go_sem]
 refine loop Tryz.mixed 0 (fun i:Nat=>[(0,.os 1000000 l.length),(1,.fn 38 [.ptr 1000001 0]),(7,.int .i64 l.length),(8,.int .i64 i)]) (fun _=>[(1000000,.arr 3 1 false (l.map i1)),(1000001,.cells [.mh 1000002]),(1000002,.mp (mpS r seats))]) (fun i=>i≤k0) (fun i=>l.length - i) (by kernel_rfl) (Nat.zero_le _) ?_ ?_
 ·simp only[go_sem]
 ·intro i hi
  have hlt:i<l.length:=by omega
  have g1:(i:Int)<(l.length:Int):=by omega
  have c1:=xt (el l i) r seats hr
  by_cases hk:i<k0
  ·rw[decide_eq_true (h _ hk)]at c1
   simp only[go_sem,g1,hlt]
   refine ag7 c1 (f7 r seats) [] [] [] 1000001 1000002 [1000001,1000002] rfl rfl rfl ?_
   simp only[go_sem]
   exact⟨i+1,⟨by omega,by omega⟩,by rw[ag]<;>omega⟩
  ·obtain rfl:i=k0:=by omega
   rw[decide_eq_false h1]at c1
   simp only[go_sem,g1,hlt]
   refine ag7 c1 (f7 r seats) [] [] [] 1000001 1000002 [1000001,1000002] rfl rfl rfl ?_
   simp only[go_sem]
theorem aeo(l r seats:List Int)(hl:big l.length)(hr: ∀k∈seats,k∈r){k0:Nat}(h0:k0<l.length)(h1:el l k0∉seats)(h: ∀j,j<k0→el l j∈seats):
  Den Tryz.prog 36 [.os 1000000 l.length,.fn 38 [.ptr 1000001 0]] [.arr 3 1 false (l.map i1),.cells [.mh 1000002],.mp (mpS r seats)] (.vs ((inS seats l l.length).map i1)) [] [.arr 3 1 true ((inS seats l l.length).map i1++List.replicate (l.length - (inS seats l l.length).length) zI),.cells [.mh 1000002],.mp (mpS r seats)]:=by
 refine rr Tryz.mixed Tryz.func36 rfl Tryz.call36 Tryz.ntmps36 (congrArg Array.toList Tryz.results36) (by simp) (by kernel_rfl) [] (f7 r seats) [1000000] 1000001 1000002 [.arr 3 1 true ((inS seats l l.length).map i1++List.replicate (l.length - (inS seats l l.length).length) zI)] (exts:=[1000000,1000001,1000002]) rfl rfl rfl rfl ?_
 have ci:=ai1 l r seats hl hr h0 h1 h
 have hm1: ¬(k0:Int)= -1:=by omega
 have hw0:IntKind.i64.wrap ((k0:Int)+1)=((k0+1:Nat):Int):=by rw[ag]<;>omega
 have hk0:inS seats l (k0+1)=l.take k0:=by
  rw[amg h0,decide_eq_false h1,if_neg (by simp),List.append_nil,a89 h (by omega)]
 have hk1:(l.take k0).length=k0:=by rw[List.length_take];omega
 simp only[go_sem]
 refine ag7 ci (f7 r seats) [.arr 3 1 false (l.map i1)] [.arr 3 1 false (l.map i1)] [1000000] 1000001 1000002 [1000000,1000001,1000002] rfl rfl rfl ?_
 simp only[go_sem,hm1,hw0]
 refine⟨⟨rfl,Nat.le_refl _⟩,?_⟩
 refine wg Tryz.mixed (k0+1,l) (fun s:Nat×List Int=>[(0,.os 1000000 l.length),(1,.fn 38 [.ptr 1000001 0]),(5,.int .i64 (inS seats l s.1).length),(6,.int .i64 s.1)]) (fun s=>[(1000000,.arh 3 1 (s.2.map i1)),(1000001,.cells [.mh 1000002]),(1000002,.mp (mpS r seats))])
  (fun s=>k0<s.1∧s.1≤l.length∧s.2.length=l.length∧(inS seats l s.1).length<s.1∧s.2.take (inS seats l s.1).length=inS seats l s.1∧∀a,(inS seats l s.1).length≤a→el s.2 a=el l a) (fun s=>l.length - s.1) (by kernel_rfl) ⟨Nat.lt_succ_self _,h0,rfl,by rw[hk0,hk1];exact Nat.lt_succ_self _,by rw[hk0,hk1],fun a _=>rfl⟩ ?_ ?_
 ·refine Cv.trans (Cv.opn (n:=1000000) (by rfl)) (Cv.wk ?_)
  have hin:=bq [1000000,1000001,1000002] i1 (fun _=>rfl) l
  simp only[go_sem,hin,hk0,hk1]
 ·rintro⟨j,L⟩ ⟨j1,j2,j3,j4,j5,j6⟩
  simp only at j1 j2 j3 j4 j5 j6
  simp only
  by_cases hlt:j<l.length
  ·have g1:(j:Int)<(l.length:Int):=by omega
   have hsu:=amg (seats:=seats) hlt
   have e1:el L j=el l j:=j6 _ (by omega)
   have g2:j<L.length:=by omega
   have c1:=xt (el l j) r seats hr
   generalize inS seats l j=o at*
   cases hd:decide (el l j∈seats)with
   |false=>
    rw[hd,if_neg (by simp),List.append_nil]at hsu
    rw[hd]at c1
    simp only[go_sem,g1,g2,hlt,j3,e1]
    refine ag7 c1 (f7 r seats) [] [] [] 1000001 1000002 [1000001,1000002] rfl rfl rfl ?_
    simp only[go_sem]
    refine⟨(j+1,L),⟨⟨by simp only;omega,by simp only;omega,j3,?_,?_,?_⟩,by simp only;omega⟩,Cv.wk ?_⟩
    ·show(inS seats l (j+1)).length<_
     rw[hsu];simp only;omega
    ·show L.take (inS seats l (j+1)).length=inS seats l (j+1)
     rw[hsu];exact j5
    ·intro a ha
     have ha':(inS seats l (j+1)).length≤a:=ha
     rw[hsu]at ha'
     exact j6 a ha'
    ·have hin:=bq [1000000,1000001,1000002] i1 (fun _=>rfl) L
     simp only[go_sem,hsu,hin]
     rw[ag]<;>omega
   |true=>
    rw[hd,if_pos rfl]at hsu
    rw[hd]at c1
    have g8:o.length<l.length:=by omega
    have g9:o.length<L.length:=by omega
    simp only[go_sem,g1,g2,g8,g9,hlt,j3,e1]
    refine ag7 c1 (f7 r seats) [] [] [] 1000001 1000002 [1000001,1000002] rfl rfl rfl ?_
    simp only[go_sem,g1,g2,g8,g9,hlt,j3,e1]
    refine⟨(j+1,L.set o.length (el l j)),⟨⟨by simp only;omega,by simp only;omega,by simp only[List.length_set];exact j3,?_,?_,?_⟩,by simp only;omega⟩,Cv.wk ?_⟩
    ·show(inS seats l (j+1)).length<_
     rw[hsu,List.length_append,List.length_singleton];simp only;omega
    ·show(L.set o.length (el l j)).take (inS seats l (j+1)).length=inS seats l (j+1)
     rw[hsu];exact ux (by omega) j5
    ·intro a ha
     have ha':(inS seats l (j+1)).length≤a:=ha
     rw[hsu,List.length_append,List.length_singleton]at ha'
     show el (L.set o.length _) a=_
     rw[am3 (by omega)]
     exact j6 a (by omega)
    ·have hin:=bq [1000000,1000001,1000002] i1 (fun _=>rfl) (L.set o.length (el l j))
     have hset:(L.map i1).set o.length [PV.int .i64 (el l j)]=(L.set o.length (el l j)).map i1:=by rw[List.map_set];rfl
     have hol:(o++[el l j]).length=o.length+1:=by simp
     simp only[go_sem,hsu,hset,hin,hol]
     exact⟨by rw[ag]<;>omega,by rw[ag]<;>omega⟩
  ·have hend:j=l.length:=by omega
   subst hend
   generalize hO:inS seats l l.length=o at*
   have g2: ¬(l.length:Int)<(l.length:Int):=by omega
   have g3:(o.length:Int)≤(l.length:Int):=by omega
   have htk:(L.map i1).take o.length=o.map i1:=by rw[←List.map_take,j5]
   have hpu: ∀σ,jw σ (o.map i1++List.replicate (l.length - o.length) zI)=some (o.map i1++List.replicate (l.length - o.length) zI,[]):=fun σ=>qb fun x hx=>by
    rcases List.mem_append.1 hx with hx|hx
    ·obtain⟨c,_,rfl⟩:=List.mem_map.1 hx
     rfl
    ·rw[List.eq_of_mem_replicate hx]
     rfl
   have g5:(o.map i1++List.replicate (l.length - o.length) zI).length=l.length:=by simp;omega
   have g6:(o.map i1++List.replicate (l.length - o.length) zI).take o.length=o.map i1:=by simp
   have g7:o.length<l.length:=by omega
   have g8:o.length≤l.length:=by omega
   simp only[go_sem,g2,j3]
   refine mi _ _ ?_
   simp only[go_sem,g2,g3,j3,htk,g7,g8,←bd6,hpu,g5,g6]
theorem ad9(l r seats:List Int)(hl:big l.length)(hr: ∀k∈seats,k∈r)(h: ∀k∈l,k∈seats):
  Den Tryz.prog 36 [.os 1000000 l.length,.fn 38 [.ptr 1000001 0]] [.arr 3 1 false (l.map i1),.cells [.mh 1000002],.mp (mpS r seats)] (.os 1000000 l.length) [] [.arr 3 1 false (l.map i1),.cells [.mh 1000002],.mp (mpS r seats)]:=by
 refine rr Tryz.mixed Tryz.func36 rfl Tryz.call36 Tryz.ntmps36 (congrArg Array.toList Tryz.results36) (by simp) (by kernel_rfl) [] (f7 r seats) [1000000] 1000001 1000002 [.arr 3 1 false (l.map i1)] (exts:=[1000000,1000001,1000002]) rfl rfl rfl rfl ?_
 have ci:=aku l r seats hl hr h
 simp only[go_sem]
 refine ag7 ci (f7 r seats) [.arr 3 1 false (l.map i1)] [.arr 3 1 false (l.map i1)] [1000000] 1000001 1000002 [1000000,1000001,1000002] rfl rfl rfl ?_
 simp only[go_sem]
 exact⟨rfl,Nat.le_refl _⟩
theorem aid(l r seats:List Int)(hl:big l.length)(hr: ∀k∈seats,k∈r):
  ∃new,new.length=l.length∧Den Tryz.prog 36 [.os 1000000 l.length,.fn 38 [.ptr 1000001 0]] [.arr 3 1 false (l.map i1),.cells [.mh 1000002],.mp (mpS r seats)] (.vs ((l.filter fun k=>decide (k∈seats)).map i1)) [] [.arr 3 1 true new,.cells [.mh 1000002],.mp (mpS r seats)]:=by
 have e:inS seats l l.length=l.filter fun k=>decide (k∈seats):=by rw[inS,List.take_length]
 rcases axb seats l with h|⟨k0,h0,h1,h2⟩
 ·have e2:(l.filter fun k=>decide (k∈seats))=l:=List.filter_eq_self.2 fun k hk=>decide_eq_true (h k hk)
  rw[e2]
  exact⟨_,by simp,(ad9 l r seats hl hr h).vsE (by simp)⟩
 ·rw[←e]
  exact⟨_,by have:=a8b seats l l.length;simp;omega,aeo l r seats hl hr h0 h1 h2⟩
def ij(r:Rl)(L:List Stm)(t:Tm):List Int:=t.ros.filter fun k=>jc r L t 3 k
theorem aek{r:Rl}{L:List Stm}{t:Tm}{k:Int}:k∈ij r L t↔k∈t.ros∧jc r L t 3 k=true:=by
 simp[ij,List.mem_filter]
def mpB(f:Int→Bool)(r:List Int):List (PV×PV):=r.map fun k=>(.int .i64 k,.bool (f k))
theorem arx(d:List Nat)(f:Int→Bool): ∀r:List Int,a1y d (mpB f r)=true
 |[]=>rfl
 |a::r=>by
  have ih:=arx d f r
  unfold mpB at ih ⊢
  simp only[List.map_cons,a1y,ih,Bool.and_true]
  rfl
theorem ax3(σ:ASt)(f:Int→Bool): ∀r:List Int,ayr σ (mpB f r)=some (mpB f r,[])
 |[]=>rfl
 |a::r=>by
  have ih:=ax3 σ f r
  unfold mpB at ih ⊢
  simp only[List.map_cons,ayr,ih]
  rfl
attribute [go_sem] arx ax3
theorem amc(f:Int→Bool)(k:Int): ∀(r:List Int) (i:Nat),k∉r→gu (.int .i64 k) (mpB f r) i=some none
 |[],_,_=>rfl
 |a::r,i,h=>by
  have ih:=amc f k r (i+1) fun h1=>h (by simp[h1])
  have hne: ¬k=a:=fun e=>h (by simp[e])
  unfold mpB at ih ⊢
  simp only[List.map_cons,gu,x8,hne,decide_false]
  exact ih
theorem bd5(r:Rl)(L:List Stm)(t:Tm):mpB (fun k=>jc r L t 3 k) t.ros=mpS t.ros (ij r L t):=by
 unfold mpB mpS
 refine List.map_congr_left fun k hk=> ?_
 rw[show decide (k∈ij r L t)=jc r L t 3 k by
  rw[Bool.eq_iff_iff,decide_eq_true_iff,aek]
  exact⟨fun h=>h.2,fun h=>⟨hk,h⟩⟩]
theorem a64(x:Ct)(hx:ml x):Den Tryz.prog 56 [.agg (ct x)] [] (.bool (decide (x.li=[1]))) [] []:=by
 refine aa Tryz.mixed Tryz.func56 rfl Tryz.call56 Tryz.ntmps56 (congrArg Array.toList Tryz.results56) (by simp) (by kernel_rfl) [] (exts:=[]) rfl rfl ?_
 have ce:=aos x.li [1] hx.1 (by simp[big])
 simp only[go_sem]
 refine call ce [] ?_
 simp only[go_sem]
theorem abf(t:Tm)(k:Int):Den Tryz.prog 43 [.agg (tm t),.int .i64 k] [] (.agg (cs (gv t 3 k))) [] []:=by
 refine aa Tryz.mixed Tryz.func43 rfl Tryz.call43 Tryz.ntmps43 (congrArg Array.toList Tryz.results43) (by simp) (by kernel_rfl) [] (exts:=[]) rfl rfl ?_
 simp only[go_sem,gv]
theorem nv(r:Rl)(L:List Stm)(t:Tm)(hr:dp r=0)(ht:OkT t)(hB:RlB r)(hL:L.length≤900)(hs: ∀s∈L,gx s)(hp: ∀s∈L,plS s):Den Tryz.prog 35 [.agg (rl r),.vs (L.map sm),.agg (tm t)] [] (.tup [.mh 0,.int .i64 0]) [.mp (mpS t.ros (ij r L t))] []:=by
 refine aa Tryz.mixed Tryz.func35 rfl Tryz.call35 Tryz.ntmps35 (congrArg Array.toList Tryz.results35) (by simp) (by kernel_rfl) [24] (exts:=[]) rfl rfl ?_
 have c1:=akg r (by have:=hB.g;simp only[big];omega) (by have:=hB.s;simp only[big];omega) (by have:=hB.t;simp only[big];omega)
 have hlen:=ht.len
 have hbT:big t.ros.length:=by simp only[big];omega
 have c2:=kx t.ros hbT
 rw[hr]at c1
 rw[ht.ros]at c2
 have hz:awj t=0:=by
  unfold awj
  rw[if_pos ⟨ht.lo,ht.hi⟩,if_pos ht.bea]
 obtain⟨hpw,hrng,_,_⟩:=gh ht.ros
 have c3:=fun k:Int=>al7 r L t (gv t 3 k) hB hbT hL hs (ni hp) (ni hp)
 have he:=fun(k:Int) (hk:k∈t.ros)=>(aib (L:=L) (k:=k) (kd:=3) hr ht.ros (hrng k hk) (by omega)).trans hz
 have hb:=fun k:Int=>alg (r:=r) (L:=L) (t:=t) (c:=gv t 3 k)
 have hS: ∀k:Int,jc r L t 3 k=((rf r L t (gv t 3 k)).2.1&&decide ((rf r L t (gv t 3 k)).1.li=[1])):=fun k=>rfl
 have c4:=fun k:Int=>abf t k
 rw[←bd5]
 have hnew: ∀i,i<t.ros.length→el t.ros i∉t.ros.take i:=fun i hi h=>by
  obtain⟨j,hj,hje⟩:=List.mem_iff_getElem.1 h
  rw[List.getElem_take]at hje
  have hj2:j<i:=by rw[List.length_take]at hj;omega
  have:=List.pairwise_iff_getElem.1 hpw j i (by omega) hi hj2
  rw[hje]at this
  simp[el,List.getD_eq_getElem?_getD,List.getElem?_eq_getElem hi]at this
 have hmp: ∀i,i<t.ros.length→mpB (fun k=>jc r L t 3 k) (t.ros.take (i+1))=mpB (fun k=>jc r L t 3 k) (t.ros.take i)++[(.int .i64 (el t.ros i),.bool (jc r L t 3 (el t.ros i)))]:=fun i hi=>by
  unfold mpB
  rw[bh hi,List.map_append]
  rfl
 have hfd:=fun i hi=>amc (fun k=>jc r L t 3 k) (el t.ros i) (t.ros.take i) 0 (hnew i hi)
 generalize hf:(fun k=>jc r L t 3 k)=f at*
 have hfk: ∀k,jc r L t 3 k=f k:=fun k=>congrFun hf k
 simp only[hfk]at hS hmp
 rw[bu]at c1
 simp only[bu,fy,bd,gk]at c3 c4
 simp only[go_sem]
 refine call c1 [] ?_
 simp only[go_sem]
 refine call c2 [] ?_
 simp only[go_sem]
 refine loop Tryz.mixed (0:Nat) (fun i:Nat=>[(1,.vs (L.map sm)),(3,.ptr 3 0),(5,.ptr 5 0),(9,.mh 24),(26,.vs (t.ros.map i1)),(27,.int .i64 t.ros.length),(28,.int .i64 i)]) (fun i=>[(3,.cells (rl r)),(5,.cells (tm t)),(24,.mp (mpB f (t.ros.take i)))]) (fun i=>i≤t.ros.length) (fun i=>t.ros.length - i) (by kernel_rfl) (Nat.zero_le _) ?_ ?_
 ·simp only[go_sem,mpB,List.map_nil]
  done
 ·intro i hi
  by_cases h:i<t.ros.length
  ·have hlt:(i:Int)<(t.ros.length:Int):=by omega
   have hk:=aw h
   have hm:=hmp i h
   have hfd:=hfd i h
   have c3:=c3 (el t.ros i)
   have c4:=c4 (el t.ros i)
   have he:=he _ hk
   have hb:=hb (el t.ros i)
   have hS:=hS (el t.ros i)
   generalize rf r L t (gv t 3 (el t.ros i))=O at*
   obtain⟨x,ok,e⟩:=O
   dsimp only at c3 he hb hS
   subst he
   simp only[gv]at c3 c4
   have cy:=a64 x hb
   rw[gk]at cy
   simp only[go_sem,hlt,h]
   refine call c4 [] ?_
   simp only[go_sem,hlt,h]
   refine call c3 [] ?_
   cases ok
   ·rw[Bool.false_and]at hS
    simp only[go_sem,hfd]
    refine⟨ae (by kernel_rfl),i+1,⟨by omega,by omega⟩,?_⟩
    rw[hm,hS]
    exact⟨by rw[ag]<;>omega,rfl⟩
   ·rw[Bool.true_and]at hS
    simp only[go_sem,hfd]
    refine⟨ae (by kernel_rfl),call cy [] ?_⟩
    simp only[go_sem,hfd]
    refine⟨i+1,⟨by omega,by omega⟩,?_⟩
    rw[hm,hS]
    exact⟨by rw[ag]<;>omega,rfl⟩
  ·have hlt: ¬(i:Int)<(t.ros.length:Int):=by omega
   have:i=t.ros.length:=by omega
   subst this
   simp only[go_sem,hlt,List.take_length]
   done
theorem ao7(l:List Int)(h0:0<l.length)(hl:l.length≤1000000):Den Tryz.prog 37 [.vs (l.map i1)] [] (.os 0 l.length) [.arr 3 1 false (l.map i1)] []:=by
 refine aa Tryz.mixed Tryz.func37 rfl Tryz.call37 Tryz.ntmps37 (congrArg Array.toList Tryz.results37) (by simp) (by kernel_rfl) [5] (exts:=[]) rfl rfl ?_
 simp only[go_sem,h0]
 omega
theorem aey(r:Rl)(L:List Stm)(t:Tm):(t.ros.filter fun k=>decide (k∈ij r L t))=ij r L t:=by
 unfold ij
 refine List.filter_congr fun k hk=> ?_
 rw[Bool.eq_iff_iff,decide_eq_true_iff,List.mem_filter]
 exact⟨fun h=>h.2,fun h=>⟨hk,h⟩⟩
theorem pz(r:Rl)(L:List Stm)(t:Tm)(hr:dp r=0)(ht:OkT t)(hB:RlB r)(hL:L.length≤900)(hs: ∀s∈L,gx s)(hp: ∀s∈L,plS s):Den Tryz.prog 15 [.agg (rl r),.vs (L.map sm),.agg (tm t)] [] (.tup [.vs ((ij r L t).map i1),.int .i64 0]) [] []:=by
 refine aa Tryz.mixed Tryz.func15 rfl Tryz.call15 Tryz.ntmps15 (congrArg Array.toList Tryz.results15) (by simp) (by kernel_rfl) [] (exts:=[]) rfl rfl ?_
 have c1:=nv r L t hr ht hB hL hs hp
 have hl:=ht.len
 have h0:0<t.ros.length:=List.length_pos_iff.2 (gh ht.ros).2.2.1
 have c2:=ao7 t.ros h0 (by omega)
 obtain⟨new,hn,c3⟩:=aid t.ros t.ros (ij r L t) (by simp only[big];omega) fun k hk=>(aek.1 hk).1
 rw[aey]at c3
 generalize ij r L t=S at*
 rw[bu,fy]at c1
 simp only[go_sem]
 refine call c1 [] ?_
 simp only[go_sem]
 refine call c2 [] ?_
 simp only[go_sem]
 refine ag7 c3 (f7 t.ros S) [.arr 3 1 false (t.ros.map i1)] [.arr 3 1 true new] [22] 8 14 [22,8,14] rfl rfl rfl ?_
 simp only[go_sem]
 exact⟨rfl,by omega⟩
theorem ae1(r:Rl)(L:List Stm)(t:Tm)(k:Int)(hr:dp r=0)(ht:OkT t)(hB:RlB r)(hL:L.length≤900)(hs: ∀s∈L,gx s)(hp: ∀s∈L,plS s):Den Tryz.prog 19 [.agg (rl r),.vs (L.map sm),.agg (tm t),.int .i64 k] [] (.tup [.bool (decide (k∈t.ros)&& !decide (k∈ij r L t)),.int .i64 0]) [] []:=by
 refine aa Tryz.mixed Tryz.func19 rfl Tryz.call19 Tryz.ntmps19 (congrArg Array.toList Tryz.results19) (by simp) (by kernel_rfl) [] (exts:=[]) rfl rfl ?_
 have c1:=nv r L t hr ht hB hL hs hp
 have hlk:=ank k t.ros (ij r L t)
 generalize ij r L t=S at*
 rw[bu,fy]at c1
 simp only[go_sem]
 refine call c1 [] ?_
 have g0: ∀Q:Prop,(k∉t.ros→gu (.int .i64 k) (mpS t.ros S) 0=some none→Q)→(∀i,gu (.int .i64 k) (mpS t.ros S) 0=some (some i)→(mpS t.ros S).getD i (.undef,.undef)=(.int .i64 k,.bool (decide (k∈S)))→k∈t.ros→Q)→Q:=fun Q h1 h2=>by
  rcases hlk with ⟨a,b⟩|⟨i,a,b,c⟩
  ·exact h1 a b
  ·exact h2 i a b c
 refine g0 _ (fun hn hf=> ?_) fun i hf h4 hm=> ?_
 ·simp only[go_sem,hf,aus,hn]
  done
 ·simp only[go_sem,hf,aus,h4,hm]
  done
theorem avl(l:List Int)(k:Int)(hl:big l.length):Den Tryz.prog 41 [.vs (l.map i1),.int .i64 k] [] (.bool (decide (k∈l))) [] []:=nh l k hl
def aui(r:Rl)(L:List Stm)(t:Tm)(G:List Int)(i:Nat):List Int:=(t.ros.take i).filter fun k=>decide (k∈G)&& !(et r L t (gv t 3 k)).2.1
def a8f(r:Rl)(L:List Stm)(t:Tm)(G:List Int):List Int:=t.ros.filter fun k=>decide (k∈G)&& !(et r L t (gv t 3 k)).2.1
theorem agb{r:Rl}{L:List Stm}{t:Tm}{G:List Int}{i:Nat}(h:i<t.ros.length):aui r L t G (i+1)=aui r L t G i++(if(decide (el t.ros i∈G)&& !(et r L t (gv t 3 (el t.ros i))).2.1)=true then [el t.ros i]else []):=by
 unfold aui
 rw[bh h,List.filter_append]
 congr 1
 simp only[List.filter_cons,List.filter_nil]
theorem alz(r:Rl)(L:List Stm)(t:Tm)(G:List Int)(i:Nat):(aui r L t G i).length≤t.ros.length:=by
 unfold aui
 refine Nat.le_trans (List.length_filter_le _ _) ?_
 rw[List.length_take];omega
theorem ann(r:Rl)(L:List Stm)(t:Tm)(G:List Int):aui r L t G t.ros.length=a8f r L t G:=by rw[aui,List.take_length];rfl
theorem ass(r:Rl)(L:List Stm)(t:Tm)(hr:dp r=0)(ht:OkT t)(hB:RlB r)(hL:L.length≤900)(hs: ∀s∈L,gx s)(hp: ∀s∈L,plS s)(G:List Int)(hG:G.length≤64)(cG:Den Tryz.prog 40 [.vs (L.map sm)] [] (.vs (G.map i1)) [] []):Den Tryz.prog 17 [.agg (rl r),.vs (L.map sm),.agg (tm t)] [] (.tup [.vs ((a8f r L t G).map i1),.int .i64 0]) [] []:=by
 refine aa Tryz.mixed Tryz.func17 rfl Tryz.call17 Tryz.ntmps17 (congrArg Array.toList Tryz.results17) (by simp) (by kernel_rfl) [] (exts:=[]) rfl rfl ?_
 have c1:=nv r L t hr ht hB hL hs hp
 have hlen:=ht.len
 have hbT:big t.ros.length:=by simp only[big];omega
 obtain⟨_,hrng,_,_⟩:=gh ht.ros
 have hcv: ∀k,k∈t.ros→dl (gv t 3 k)=true:=fun k hk=>kj ⟨ht.lo,ht.hi,(hrng k hk).1,(hrng k hk).2,by simp[gv],by simp[gv],.inr (.inr rfl)⟩
 have d0: ∀k,k∈t.ros→(et r L t (gv t 3 k)).2.2=0:=fun k hk=>by
  rcases ajd (L:=L) hr ht (hcv k hk) rfl with ⟨_,_,s3⟩|⟨s1,_⟩
  ·rw[s3]
  ·rw[pp hr ht (hcv k hk) rfl rfl]at s1;cases s1
 have c2:=fun k:Int=>avl G k (by simp only[big];omega)
 have c3:=fun k:Int=>ab2 r L t (gv t 3 k) hB hbT hL hs (ni hp)
 have c4:=fun k:Int=>abf t k
 have hsu:=fun i (h:i<t.ros.length)=>agb (r:=r) (L:=L) (t:=t) (G:=G) h
 have hln:=alz r L t G
 have hI0:aui r L t G 0=[]:=rfl
 rw[←ann]
 generalize aui r L t G=I at*
 generalize hD:(fun k=>et r L t (gv t 3 k))=D at*
 have hDk: ∀k,et r L t (gv t 3 k)=D k:=fun k=>congrFun hD k
 simp only[hDk]at d0 c3 hsu
 generalize ij r L t=S at*
 rw[bu,fy]at c1
 simp only[bu,fy,bd,gk]at c3 c4
 simp only[go_sem]
 refine call c1 [] ?_
 simp only[go_sem]
 refine call cG [] ?_
 simp only[go_sem]
 refine br 11 110 3 1 false ?_ ?_ ?_ (by omega)
 ·refine loop Tryz.mixed (0:Nat) (fun i:Nat=>[(1,.vs (L.map sm)),(3,.ptr 3 0),(5,.ptr 5 0),(10,.vs (G.map i1)),(11,.os 110 (I i).length),(30,.vs (t.ros.map i1)),(31,.int .i64 t.ros.length),(32,.int .i64 i)]) (fun i=>[(3,.cells (rl r)),(5,.cells (tm t)),(110,.arr 3 1 false ((I i).map i1))]) (fun i=>i≤t.ros.length) (fun i=>t.ros.length - i) (by kernel_rfl) (Nat.zero_le _) ?_ ?_
  ·rw[hI0]
   simp only[go_sem,List.map_nil,List.length_nil]
   done
  ·intro i hi
   by_cases h:i<t.ros.length
   ·have hlt:(i:Int)<(t.ros.length:Int):=by omega
    have hk:=aw h
    have hsu:=hsu i h
    have hln:=hln i
    have d0:=d0 _ hk
    have c2:=c2 (el t.ros i)
    have c3:=c3 (el t.ros i)
    have c4:=c4 (el t.ros i)
    generalize I i=o at*
    generalize D (el t.ros i)=O at*
    obtain⟨x,b,e⟩:=O
    dsimp only at d0 c3 hsu
    subst d0
    simp only[gv]at c3 c4
    simp only[go_sem,hlt,h]
    refine call c2 [] ?_
    by_cases hg:el t.ros i∈G
    rotate_left
    ·rw[decide_eq_false hg,Bool.false_and,if_neg (by simp),List.append_nil]at hsu
     simp only[go_sem,hg]
     refine⟨i+1,⟨by omega,by omega⟩,?_⟩
     rw[hsu]
     exact⟨⟨rfl,by rw[ag]<;>omega⟩,rfl⟩
    rw[decide_eq_true hg,Bool.true_and]at hsu
    simp only[go_sem,hg,hlt,h]
    refine call c4 [] ?_
    simp only[go_sem,hlt,h]
    refine call c3 [] ?_
    cases b
    ·rw[if_pos (by rfl)]at hsu
     simp only[go_sem]
     refine⟨ae (by kernel_rfl),by omega,i+1,⟨by omega,by omega⟩,?_⟩
     rw[hsu]
     exact⟨⟨by simp,by rw[ag]<;>omega⟩,by simp[i1]⟩
    ·rw[if_neg (by simp),List.append_nil]at hsu
     simp only[go_sem]
     refine⟨ae (by kernel_rfl),i+1,⟨by omega,by omega⟩,?_⟩
     rw[hsu]
     exact⟨⟨rfl,by rw[ag]<;>omega⟩,rfl⟩
   ·have hlt: ¬(i:Int)<(t.ros.length:Int):=by omega
    have:i=t.ros.length:=by omega
    subst this
    simp only[go_sem,hlt]
    done
 ·simp only[go_sem]
 ·simp only[go_sem]
theorem aac(L:List Stm):mq L 0=[]:=rfl
theorem aa0(L:List Stm)(i:Nat):mq L (i+1)=mq L i++wh (jg L i):=by
 unfold mq
 rw[List.range_succ,List.flatMap_append]
 simp
theorem abk(k:Int)(l:List (Stm×Stm)):(pfs k l).length=l.length:=by simp[pfs]
theorem aax(M:List Stm):(gd M).length≤1:=by
 unfold gd
 split<;>simp
theorem ago(M:List Stm):(afj M).length≤M.length:=by
 have h1:=aj4 M (f9 M) (f9 M).length
 rw[List.take_length]at h1
 have h2:=oz M
 rw[anj]
 omega
theorem asq(M:List Stm):(wh M).length≤1+M.length:=by
 have h1:=aax M
 have h2:=ago M
 unfold wh
 split
 ·rw[List.length_append,abk,abk];omega
 ·simp
theorem wj(L:List Stm): ∀i,(mq L i).length≤i*(1+L.length)
 |0=>by simp[aac]
 |i+1=>by
  have h1:=wj L i
  have h2:=asq (jg L i)
  have h3:=uf L i
  rw[aa0,List.length_append,Nat.add_mul,Nat.one_mul]
  omega
theorem ay0{L:List Stm}{a:Int}(h:CF L){s:Stm}(hs:s∈jg L a):s∈L:=(eg.1 (((ym (a:=a) h).2 s).1 hs)).1
theorem a0q(L:List Stm)(hl:L.length≤900)(hs: ∀s∈L,gx s)(h:CF L):Den Tryz.prog 63 [.vs (L.map sm)] [] (.vs ((mq L 64).map pf)) [] []:=by
 refine aa Tryz.mixed Tryz.func63 rfl Tryz.call63 Tryz.ntmps63 (congrArg Array.toList Tryz.results63) (by simp) (by kernel_rfl) [] (exts:=[]) rfl rfl ?_
 have co:=fun a:Nat=>a5q L a (by omega) hs h
 have cf:=fun a:Nat=>at5 (jg L a) (by have:=uf L a;simp only[big];omega)
 have cd:=fun a:Nat=>aix (jg L a) (by have:=uf L a;omega) fun s hm=>hs s (ay0 h hm)
 have hln:=fun a:Nat=>uf L a
 have hsu:=aa0 L
 have hxl:=wj L
 have hf1:=fun a:Nat=>aax (jg L a)
 have hd1:=fun a:Nat=>ago (jg L a)
 simp only[go_sem]
 refine br 3 99 87 27 false ?_ ?_ ?_ (by omega)
 ·refine loop Tryz.mixed 0 (fun i:Nat=>[(0,.vs (L.map sm)),(3,.os 99 (mq L i).length),(6,.int .i64 i)]) (fun i=>[(99,.arr 87 27 false ((mq L i).map pf))]) (fun i=>i≤64) (fun i=>64 - i) (by kernel_rfl) (Nat.zero_le _) ?_ ?_
  ·simp only[go_sem,aac,List.map_nil,List.length_nil]
  ·intro i hi
   by_cases hlt:i<64
   ·have h1:(i:Int)<64:=by omega
    have co:=co i
    have cf:=cf i
    have cd:=cd i
    have hln:=hln i
    have hsu:=hsu i
    have hf1:=hf1 i
    have hd1:=hd1 i
    have hxl:=hxl i
    have hmul:i*(1+L.length)≤64*901:=Nat.mul_le_mul (by omega) (by omega)
    have hA:wh (jg L i)=if 1<(jg L i).length then pfs 1 (gd (jg L i))++pfs 2 (afj (jg L i))else []:=rfl
    generalize jg L i=M at*
    have p1:=abk 1 (gd M)
    have p2:=abk 2 (afj M)
    generalize pfs 1 (gd M)=A at*
    generalize pfs 2 (afj M)=B at*
    generalize mq L i=o at*
    simp only[go_sem,h1]
    refine call co [] ?_
    by_cases h2:1<(M.length:Int)
    ·rw[if_pos (by omega)]at hA
     rw[hA]at hsu
     simp only[go_sem,h2]
     refine call cf [] ?_
     simp only[go_sem]
     refine⟨by omega,call cd [] ?_⟩
     simp only[go_sem]
     refine⟨by omega,i+1,⟨by omega,by omega⟩,?_⟩
     rw[hsu]
     exact⟨⟨by simp only[List.length_append];omega,by rw[ag]<;>omega⟩,by simp only[List.map_append,List.append_assoc]⟩
    ·rw[if_neg (by omega)]at hA
     rw[hA,List.append_nil]at hsu
     simp only[go_sem,h2]
     refine⟨i+1,⟨by omega,by omega⟩,?_⟩
     rw[hsu]
     exact⟨⟨rfl,by rw[ag]<;>omega⟩,rfl⟩
   ·have h1: ¬(i:Int)<64:=by omega
    have:i=64:=by omega
    subst this
    simp only[go_sem,h1]
 ·simp only[go_sem]
 ·simp only[go_sem]
theorem aj1(p:Int×Stm×Stm):Den Tryz.prog 64 [.agg (pf p)] [] (.int .i64 p.2.1.au) [] []:=by
 refine aa Tryz.mixed Tryz.func64 rfl Tryz.call64 Tryz.ntmps64 (congrArg Array.toList Tryz.results64) (by simp) (by kernel_rfl) [] (exts:=[]) rfl rfl ?_
 simp only[go_sem]
theorem z8(L:List Stm)(hl:L.length≤900)(hs: ∀s∈L,gx s)(h:CF L):Den Tryz.prog 40 [.vs (L.map sm)] [] (.vs ((arz L).map i1)) [] []:=by
 refine aa Tryz.mixed Tryz.func40 rfl Tryz.call40 Tryz.ntmps40 (congrArg Array.toList Tryz.results40) (by simp) (by kernel_rfl) [] (exts:=[]) rfl rfl ?_
 have c1:=a0q L hl hs h
 have hxl:=wj L 64
 have hmul:64*(1+L.length)≤64*901:=Nat.mul_le_mul (by omega) (by omega)
 have hg:arz L=ayt ((mq L 64).map fun p=>p.2.1.au):=rfl
 rw[hg]
 generalize mq L 64=F at*
 obtain⟨I,hI⟩: ∃I:Nat→List Int,I=fun i=>(F.take i).map fun p=>p.2.1.au:=⟨_,rfl⟩
 have hI0:I 0=[]:=by rw[hI];rfl
 have hsu: ∀i,i<F.length→I (i+1)=I i++[(el F i).2.1.au]:=fun i hi=>by
  rw[hI]
  show(F.take (i+1)).map _=_
  rw[bh hi,List.map_append,List.map_singleton]
 have hln: ∀i,(I i).length≤F.length:=fun i=>by rw[hI];show((F.take i).map _).length≤_;rw[List.length_map,List.length_take];omega
 have hIl:F.map (fun p=>p.2.1.au)=I F.length:=by rw[hI];show _=(F.take F.length).map _;rw[List.take_length]
 rw[hIl]
 clear hI hIl
 simp only[go_sem]
 refine call c1 [] ?_
 simp only[go_sem]
 refine br 3 99 3 1 false ?_ ?_ ?_ (by omega)
 ·refine loop Tryz.mixed 0 (fun i:Nat=>[(3,.os 99 (I i).length),(7,.vs (F.map pf)),(8,.int .i64 F.length),(9,.int .i64 i)]) (fun i=>[(99,.arr 3 1 false ((I i).map i1))]) (fun i=>i≤F.length) (fun i=>F.length - i) (by kernel_rfl) (Nat.zero_le _) ?_ ?_
  ·rw[hI0]
   simp only[go_sem,List.map_nil,List.length_nil]
  ·intro i hi
   by_cases hlt:i<F.length
   ·have h1:(i:Int)<(F.length:Int):=by omega
    have hsu:=hsu i hlt
    have hln:=hln i
    have ca:=aj1 (el F i)
    rw[aew]at ca
    generalize I i=o at*
    simp only[go_sem,h1,hlt]
    refine call ca [] ?_
    simp only[go_sem]
    refine⟨by omega,i+1,⟨by omega,by omega⟩,?_⟩
    rw[hsu]
    exact⟨⟨by simp,by rw[ag]<;>omega⟩,by simp[i1]⟩
   ·have h1: ¬(i:Int)<(F.length:Int):=by omega
    have:i=F.length:=by omega
    subst this
    have hln:=hln F.length
    generalize I F.length=o at*
    have cc:=xh o (by omega)
    simp only[go_sem,h1]
    refine call cc [99] ?_
    simp only[go_sem]
    rw[ab0]
    exact Nat.le_refl _
 ·simp only[go_sem]
 ·simp only[go_sem]
theorem bbh(b:List UInt8):sha b=hsS (oo b) ((oo b).length/64) fun v=>v.flatMap ae6:=by rw[bca];rfl
theorem al1(au nu ti:Int):(gn au nu ti m6).sd=dig (gn au nu ti m6):=rfl
theorem aub:dig (gn 2 0 0 m6)≠dig (gn 2 0 1 m6):=by
 unfold dig
 rw[bbh,bbh]
 decide+kernel
theorem af0(au nu ti:Int)(h1:inB au 0 63=true)(h2:inB nu 0 199=true)(h3:inB ti 0 2147483648=true):dc (gn au nu ti m6)=true:=by
 have hs:(gn au nu ti m6).sk=(gn au nu ti m6).au∧(gn au nu ti m6).sd=dig (gn au nu ti m6):=⟨rfl,rfl⟩
 rw[dc,au4 au nu ti h1 h2 h3,decide_eq_true hs]
 rfl
def r37:Rl:=⟨[0,1,2],⟨[0],[2],1⟩,2,5,0⟩
theorem adz:dp r37=0:=by decide
def L37:List Stm:=[gn 2 0 0 m6,gn 2 0 1 m6]
theorem bgo(au nu ti:Int)(c:Cs):okV c (gn au nu ti m6)=false:=at8 (by show(11:Int)≠10;omega)
theorem axc(c:Cs): ∀s∈L37,okV c s=false:=fun s hs=>by
 simp only[L37,List.mem_cons,List.not_mem_nil,or_false]at hs
 rcases hs with rfl|rfl<;>exact bgo _ _ _ _
theorem a4u:CF L37:=fun s hs t ht _ _ _ _ hd=>by
 simp only[L37,List.mem_cons,List.not_mem_nil,or_false]at hs ht
 rcases hs with rfl|rfl<;>rcases ht with rfl|rfl
 ·rfl
 ·exact absurd ((al1 2 0 0).symm.trans (hd.trans (al1 2 0 1))) aub
 ·exact absurd ((al1 2 0 0).symm.trans (hd.symm.trans (al1 2 0 1))) aub
 ·rfl
theorem a9e:UNI L37:=fun c s hs t _ h _ _=>by rw[axc c s hs]at h;cases h
theorem a5n{r:Rl}{L:List Stm}{t:Tm}{kd k:Int}(h: ∀c,∀s∈L,okV c s=false):jc r L t kd k=false:=by
 have hs:y3 L (gv t kd k)=false:=by
  unfold y3
  rw[List.any_eq_false]
  intro x hx _
  obtain⟨s,hs,v1,v2⟩:=aae.1 hx
  have:=h x s hs
  rw[okV,v1,v2]at this
  simp at this
 unfold jc
 rw[ahe (r:=r) hs,Bool.false_and]
theorem bba(k:Int):gB L37 k=decide (k=2):=by
 rw[Bool.eq_iff_iff,w8,decide_eq_true_iff]
 constructor
 ·rintro⟨s,hs,_⟩
  obtain⟨h1,h2,_⟩:=eg.1 hs
  simp only[L37,List.mem_cons,List.not_mem_nil,or_false]at h1
  rcases h1 with rfl|rfl<;>exact h2.symm
 ·rintro rfl
  exact⟨_,eg.2 ⟨by simp[L37],rfl,af0 2 0 0 rfl rfl rfl⟩,_,eg.2 ⟨by simp[L37],rfl,af0 2 0 1 rfl rfl rfl⟩,rfl,fun h=>absurd (congrArg Stm.ti h) (by decide)⟩
theorem azw:arz L37=[2]:=by
 rw[axn a4u a9e]
 have:gB L37=fun k=>decide (k=2):=funext bba
 rw[this]
 decide
theorem baf: ∀s∈L37,okS s:=fun s hs=>by
 simp only[L37,List.mem_cons,List.not_mem_nil,or_false]at hs
 rcases hs with rfl|rfl<;>exact avk _ _ _
theorem awr: ∀s∈L37,plS s:=fun s hs=>by
 simp only[L37,List.mem_cons,List.not_mem_nil,or_false]at hs
 rcases hs with rfl|rfl<;>exact ajq (by show(11:Int)≠10;omega)
theorem xl:Den Tryz.prog 8 [] [] (.bool true) [] []:=by
 refine aa Tryz.mixed Tryz.func8 rfl Tryz.call8 Tryz.ntmps8 (congrArg Array.toList Tryz.results8) (by simp) (by kernel_rfl) [] (exts:=[]) rfl rfl ?_
 have hB:RlB r37:=⟨by decide,by decide,by decide⟩
 have c1:=aux r37 adz (by decide) (by decide) (by decide)
 have ht:=ak1 adz
 have hros:(lu r37).ros=[0,1,2]:=rfl
 have hb:=fun s hs=>(baf s hs).big
 have cG:=z8 L37 (by decide) hb a4u
 rw[azw]at cG
 have c4:=ass r37 L37 (lu r37) adz ht hB (by decide) hb awr [2] (by decide) cG
 have c5:=pz r37 L37 (lu r37) adz ht hB (by decide) hb awr
 have c6:=ae1 r37 L37 (lu r37) 2 adz ht hB (by decide) hb awr
 have hS:ij r37 L37 (lu r37)=[]:=by
  unfold ij
  rw[List.filter_eq_nil_iff]
  intro k _
  rw[a5n axc]
  simp
 have hD:a8f r37 L37 (lu r37) [2]=[2]:=by
  unfold a8f
  rw[hros]
  have hd: ∀k,(et r37 L37 (lu r37) (gv (lu r37) 3 k)).2.1=false:=fun k=>wq (axc _)
  simp[hd]
 rw[hS]at c5 c6
 rw[hD]at c4
 rw[hros]at c6
 have k6:(decide ((2:Int)∈([0,1,2]:List Int))&& !decide ((2:Int)∈([]:List Int)))=true:=by decide
 rw[k6]at c6
 have c2:=um 2 0 0 m6 (by simp[m6]) rfl
 have c3:=um 2 0 1 m6 (by simp[m6]) rfl
 have hM:L37.map sm=[sm (gn 2 0 0 m6),sm (gn 2 0 1 m6)]:=rfl
 rw[hM]at c4 c5 c6
 have hT:tm (lu r37)=[.int .i64 0,.vs [i1 0,i1 1,i1 2],.str (p4 r37),.bool false,.vs [],.vs []]:=rfl
 rw[hT,bu]at c1 c4 c5 c6
 generalize gn 2 0 0 m6=s0 at*
 generalize gn 2 0 1 m6=s1 at*
 generalize p4 r37=v at*
 simp only[kz]at c4 c5 c6
 rw[asg]at c2 c3
 simp only[go_sem]
 refine call c1 [] ?_
 simp only[go_sem]
 refine⟨⟨rfl,rfl,rfl,rfl,rfl,rfl,rfl⟩,call c2 [] ?_⟩
 simp only[go_sem]
 refine⟨⟨rfl,rfl,rfl,rfl,rfl,rfl⟩,call c3 [] ?_⟩
 simp only[go_sem]
 refine⟨⟨rfl,rfl,rfl,rfl,rfl,rfl⟩,call c4 [] ?_⟩
 simp only[go_sem]
 refine⟨⟨rfl,rfl,rfl,rfl,rfl,rfl,rfl⟩,call c5 [] ?_⟩
 simp only[go_sem]
 refine⟨⟨rfl,rfl,rfl,rfl,rfl,rfl,rfl⟩,call c6 [] ?_⟩
 simp only[go_sem]
 refine⟨⟨rfl,rfl,rfl,rfl,rfl,rfl,rfl⟩,?_⟩
 refine call (jz [2] [2] (by simp[big]) (by simp[big])) [] ?_
 simp only[go_sem]
 done
end Go.Proofs.Am
