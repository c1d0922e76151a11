/- POne. -/
import Derived.Test.YteakcpfdfglndaaGreatDoorBTwo
import Derived.Test.YteakcpfdfglndaaGreatDoorXOne
import Derived.Test.YteakcpfdfglndaaGreatDoorEOne
import Derived.Test.YteakcpfdfglndaaGreatDoorGOne
import Derived.Test.YteakcpfdfglndaaGreatDoorBThree
import Derived.Test.YteakcpfdfglndaaGreatDoorMOne
import Derived.Test.YteakcpfdfglndaaGreatDoorCNine
import Derived.Test.YteakcpfdfglndaaGreatDoorWOne
import Derived.Test.YteakcpfdfglndaaGreatDoorHOne
import Derived.Test.YteakcpfdfglndaaGreatDoorUFour
import Derived.Test.YteakcpfdfglndaaGreatDoorXTwo
import Derived.Test.YteakcpfdfglndaaGreatDoorVTwo
set_option maxHeartbeats 1000000
set_option maxRecDepth 1000000
set_option linter.unusedSimpArgs false
set_option linter.unusedVariables false
namespace Go.Proofs.Am
open Go Go.RowKit
open Go.Proofs
noncomputable def bei {α:Type} (n:Nat) (f:Nat→α):α:=Nat.rec (motive:=fun _=>α) (f 0) (fun m _=>f (Nat.succ m)) n
noncomputable def bca {α:Type} (x:Int) (f:Int→α):α:=match x with
 | .ofNat n=>bei n fun m=>f (Int.ofNat m)
 | .negSucc n=>f (Int.negSucc n)
theorem a5c{α:Type}(n:Nat)(f:Nat→α):bei n f=f n:=by cases n<;>rfl
theorem a6g{α:Type}(x:Int)(f:Int→α):bca x f=f x:=by
 cases x with
 |ofNat n=>exact a5c n fun m=>f (Int.ofNat m)
 |negSucc n=>rfl
noncomputable def axe {α:Type} (l:List Int):(List Int→α)→α:=List.rec (motive:=fun _=>(List Int→α)→α) (fun f=>f []) (fun a _ ih f=>bca a fun b=>ih fun r=>f (b::r)) l
theorem acq{α:Type}(l:List Int): ∀f:List Int→α,axe l f=f l:=by
 induction l with
 |nil=>intro f;rfl
 |cons a r ih=>
  intro f
  show bca a (fun b=>axe r fun r=>f (b::r))=_
  rw[a6g,ih]
noncomputable def wAS {α:Type} (b:List UInt8) (m:Nat):(List Int→α)→α:=Nat.rec (motive:=fun _=>(List Int→α)→α) (fun f=>f (List.replicate 64 0)) (fun m ih f=>ih fun w=>axe (w.set m (w16 b m)) f) m
noncomputable def wBS {α:Type} (b:List UInt8) (m:Nat):(List Int→α)→α:=Nat.rec (motive:=fun _=>(List Int→α)→α) (fun f=>wAS b 16 f) (fun m ih f=>ih fun w=>axe (w.set (16+m) (wst w m)) f) m
noncomputable def bd5 {α:Type} (h k w:List Int) (m:Nat):(List Int→α)→α:=Nat.rec (motive:=fun _=>(List Int→α)→α) (fun f=>f h) (fun m ih f=>ih fun v=>axe (rnd v (el k m) (el w m)) f) m
noncomputable def bc2 {α:Type} (v h:List Int) (m:Nat):(List Int→α)→α:=Nat.rec (motive:=fun _=>(List Int→α)→α) (fun f=>f v) (fun m ih f=>ih fun u=>axe (u.set m (ad (el u m) (el h m))) f) m
theorem a2x{α:Type}(b:List UInt8): ∀(m:Nat) (f:List Int→α),wAS b m f=f (wA b m)
 |0,_=>rfl
 |m+1,f=>by
  show wAS b m (fun w=>axe (w.set m (w16 b m)) f)=_
  rw[a2x b m,acq];rfl
theorem a3m{α:Type}(b:List UInt8): ∀(m:Nat) (f:List Int→α),wBS b m f=f (wB b m)
 |0,f=>a2x b 16 f
 |m+1,f=>by
  show wBS b m (fun w=>axe (w.set (16+m) (wst w m)) f)=_
  rw[a3m b m,acq];rfl
theorem as5{α:Type}(h k w:List Int): ∀(m:Nat) (f:List Int→α),bd5 h k w m f=f (aez h k w m)
 |0,_=>rfl
 |m+1,f=>by
  show bd5 h k w m (fun v=>axe (rnd v (el k m) (el w m)) f)=_
  rw[as5 h k w m,acq];rfl
theorem avt{α:Type}(v h:List Int): ∀(m:Nat) (f:List Int→α),bc2 v h m f=f (fin v h m)
 |0,_=>rfl
 |m+1,f=>by
  show bc2 v h m (fun u=>axe (u.set m (ad (el u m) (el h m))) f)=_
  rw[avt v h m,acq];rfl
noncomputable def bb2 {α:Type} (h:List Int) (b:List UInt8) (f:List Int→α):α:=wBS b 48 fun w=>bd5 h kK w 64 fun v=>bc2 v h 8 f
theorem a68{α:Type}(h:List Int)(b:List UInt8)(f:List Int→α):bb2 h b f=f (aw9 h b kK):=by
 unfold bb2 aw9
 rw[a3m,as5,avt]
noncomputable def hsS {α:Type} (b:List UInt8) (m:Nat):(List Int→α)→α:=Nat.rec (motive:=fun _=>(List Int→α)→α) (fun f=>f h0) (fun m ih f=>ih fun h=>bb2 h ((b.take (64*m+64)).drop (64*m)) f) m
theorem aym{α:Type}(a:List UInt8)(f:List Int→α):hsS a 0 f=f h0:=rfl
theorem ayr{α:Type}(a:List UInt8)(m:Nat):hsS (α:=α) a (m+1)=fun f=>hsS a m fun h=>bb2 h ((a.take (64*m+64)).drop (64*m)) f:=rfl
theorem awg(b:List UInt8):hs b 0=h0:=(rfl)
theorem ar5(b:List UInt8)(m:Nat):hs b (m+1)=aw9 (hs b m) (((np b).take (64*m+64)).drop (64*m)) kK:=(rfl)
theorem bbb{α:Type}(b:List UInt8)(m:Nat): ∀(f:List Int→α),hsS (np b) m f=f (hs b m):=by
 induction m with
 |zero=>intro f;rw[aym,awg]
 |succ m ih=>
  intro f
  rw[ayr]
  dsimp only
  rw[ih,a68,ar5]
def ank(a b:Stm):Int:=or2 (gi a.nu b.nu) (Lib.compareBytes a.sd b.sd)
def ltN(a b:Stm):Bool:=decide (ank a b<0)
def d7(a b:Stm):Bool:=decide (ank a b=0)
theorem to_N:TO (fun p q:Int×List UInt8=>or2 (gi p.1 q.1) (Lib.compareBytes p.2 q.2)):=ma lu to_bytes
theorem arf{a b:Stm}:ank a b=0↔a.nu=b.nu∧a.sd=b.sd:=by
 have:=to_N.eq (a.nu,a.sd) (b.nu,b.sd)
 simpa only[ank,Prod.mk.injEq] using this
theorem wg{a b:Stm}:ank a b<0↔0<ank b a:=to_N.flip (a.nu,a.sd) (b.nu,b.sd)
def cu(s:Stm):Bool:=decide (ah s=0)&&decide (s.sk=s.au∧s.sd=dig s)
def jr(L:List Stm)(a:Int):List Stm:=L.filter fun s=>decide (s.au=a)&&cu s
theorem ec{L:List Stm}{a:Int}{s:Stm}:s∈jr L a↔s∈L∧s.au=a∧cu s=true:=by
 simp[jr,List.mem_filter]
def CF(L:List Stm):Prop:= ∀s∈L,∀t∈L,cu s=true→cu t=true→s.au=t.au→s.nu=t.nu→s.sd=t.sd→s=t
theorem CF.own{L:List Stm}(h:CF L){a:Int}{s t:Stm}(hs:s∈jr L a)(ht:t∈jr L a)(h1:s.nu=t.nu)(h2:s.sd=t.sd):s=t:=by
 obtain⟨a1,a2,a3⟩:=ec.1 hs
 obtain⟨b1,b2,b3⟩:=ec.1 ht
 exact h s a1 t b1 a3 b3 (a2.trans b2.symm) h1 h2
def aqf(l:List Stm):List Stm:=l.mergeSort fun a b=> !decide (ank b a<0)
def i6(L:List Stm)(a:Int):List Stm:=kp d7 (aqf (jr L a)) (aqf (jr L a)).length
theorem agk(a b:Stm):d7 a b=true↔(ltN a b=false∧ltN b a=false):=by
 have h1:=wg (a:=a) (b:=b)
 have h2:=wg (a:=b) (b:=a)
 unfold d7 ltN
 rw[decide_eq_true_iff,decide_eq_false_iff_not,decide_eq_false_iff_not]
 constructor
 ·intro h;constructor<;>omega
 ·rintro⟨h3,h4⟩;omega
theorem bdx{L:List Stm}{a:Int}(h:CF L):KO ltN (fun s=>s∈jr L a) where
 irr x:=decide_eq_false (to_N.irr (x.nu,x.sd))
 tr x y z h1 h2:=decide_eq_true (to_N.tr (x.nu,x.sd) (y.nu,y.sd) (z.nu,z.sd) (of_decide_eq_true h1) (of_decide_eq_true h2))
 nt x y z h1 h2:=decide_eq_false (to_N.nt (x.nu,x.sd) (y.nu,y.sd) (z.nu,z.sd) (of_decide_eq_false h1) (of_decide_eq_false h2))
 tri x y hx hy h1 h2:=by
  have h3:=of_decide_eq_true ((agk x y).2 ⟨h1,h2⟩)
  obtain⟨e1,e2⟩:=arf.1 h3
  exact h.own hx hy e1 e2
theorem avh(l:List Stm):(aqf l).Pairwise fun a b=>ltN b a=false:=by
 have:=List.pairwise_mergeSort (le:=fun a b:Stm=> !decide (ank b a<0)) (fun a b c h1 h2=>by
  simp only[Bool.not_eq_true',decide_eq_false_iff_not]at h1 h2 ⊢
  exact to_N.nt (c.nu,c.sd) (b.nu,b.sd) (a.nu,a.sd) h2 h1) (fun a b=>by
  simp only[Bool.or_eq_true,Bool.not_eq_true',decide_eq_false_iff_not]
  have h1:=wg (a:=b) (b:=a)
  omega) l
 exact this.imp fun h=>by simpa [ltN] using h
theorem xz{L:List Stm}{a:Int}(h:CF L):SS ltN (i6 L a)∧∀s,s∈i6 L a↔s∈jr L a:=by
 have hp:=List.mergeSort_perm (jr L a) fun a b:Stm=> !decide (ank b a<0)
 have h:=(bdx (a:=a) h).kp_inv agk (l:=aqf (jr L a)) (fun x hx=>hp.mem_iff.1 hx) (avh _) _ (Nat.le_refl _)
 refine⟨h.1,fun x=> ?_⟩
 rw[i6,h.2,List.take_length]
 exact hp.mem_iff
theorem acf(L:List Stm)(a:Int):(jr L a).length≤L.length:=List.length_filter_le _ _
theorem uf(L:List Stm)(a:Int):(i6 L a).length≤L.length:=by
 have h1:=y5 d7 (aqf (jr L a)) (aqf (jr L a)).length
 have h2:(aqf (jr L a)).length=(jr L a).length:=List.length_mergeSort _
 have h3:=acf L a
 unfold i6
 omega
def ac8(M:List Stm)(i:Nat):Bool:=decide (0<i)&&decide ((el M i).nu=(el M (i - 1)).nu)
def fq(M:List Stm):List (Stm×Stm):=match (List.range M.length).find? (ac8 M)with|some i=>[(el M (i - 1),el M i)]|none=>[]
theorem axo{M:List Stm}{i:Nat}(hi:i<M.length)(h:ac8 M i=true)(hb: ∀j,j<i→ac8 M j=false):fq M=[(el M (i - 1),el M i)]:=by
 have:(List.range M.length).find? (ac8 M)=some i:=List.find?_range_eq_some.2 ⟨h,by simpa using hi,fun j hj=>by simp[hb j hj]⟩
 rw[fq,this]
theorem ao2{M:List Stm}(hb: ∀j,j<M.length→ac8 M j=false):fq M=[]:=by
 have:(List.range M.length).find? (ac8 M)=none:=List.find?_range_eq_none.2 fun j hj=>by simp[hb j hj]
 rw[fq,this]
theorem aci(M:List Stm):(fq M=[]∧∀j,j<M.length→ac8 M j=false)∨∃i,0<i∧i<M.length∧fq M=[(el M (i - 1),el M i)]:=by
 cases h:(List.range M.length).find? (ac8 M)with
 |none=>exact .inl ⟨by rw[fq,h],fun j hj=>by simpa using List.find?_range_eq_none.1 h j hj⟩
 |some i=>
  obtain⟨h1,h2,_⟩:=List.find?_range_eq_some.1 h
  rw[ac8,Bool.and_eq_true]at h1
  exact .inr ⟨i,of_decide_eq_true h1.1,by simpa using h2,by rw[fq,h]⟩
def axf(v:Vt)(s:Stm):Bool:=decide ((ofE s).2=0)&&(bq (ofE s).1.c v.c&&decide (jq (ofE s).1.x v.x=0))
def apv(M:List Stm)(v:Vt):Stm:=el M (aqd (axf v) M).toNat
def adk(M:List Stm):List (Stm×Stm):=(fu M).flatMap fun c=>if 1<(al M c).length then [(apv M (el (al M c) 0),apv M (el (al M c) 1))]else []
def pfs(k:Int)(l:List (Stm×Stm)):List (Int×Stm×Stm):=l.map fun p=>(k,p.1,p.2)
def xx(M:List Stm):List (Int×Stm×Stm):=if 1<M.length then pfs 1 (fq M)++pfs 2 (adk M)else []
def l6(L:List Stm)(n:Nat):List (Int×Stm×Stm):=(List.range n).flatMap fun a:Nat=>xx (i6 L a)
def at4(L:List Stm):List Int:=axb ((l6 L 64).map fun p=>p.2.1.au)
def gB(L:List Stm)(a:Int):Bool:=(jr L a).any fun s=>(jr L a).any fun t=>decide (s.nu=t.nu)&&decide (s≠t)
theorem wu{L:List Stm}{a:Int}:gB L a=true↔∃s∈jr L a,∃t∈jr L a,s.nu=t.nu∧s≠t:=by
 simp[gB,List.any_eq_true]
theorem bao{a b:Stm}(h:ltN a b=true):a.nu≤b.nu:=by
 have h1:=of_decide_eq_true h
 unfold ank or2 gi at h1
 repeat' split at h1
 all_goals omega
theorem ami{L:List Stm}{a:Int}(h:CF L):fq (i6 L a)≠[]↔gB L a=true:=by
 obtain⟨hs,hm⟩:=xz (a:=a) h
 rw[wu]
 constructor
 ·intro hne
  rcases aci (i6 L a)with ⟨h1,_⟩|⟨i,h0,hi,h2⟩
  ·exact absurd h1 hne
  ·have hadj:ac8 (i6 L a) i=true:=by
    cases hf:(List.range (i6 L a).length).find? (ac8 (i6 L a))with
    |none=>rw[fq,hf]at h2;cases h2
    |some k=>
     obtain⟨k1,k2,_⟩:=List.find?_range_eq_some.1 hf
     have k3:fq (i6 L a)=[(el (i6 L a) (k - 1),el (i6 L a) k)]:=by rw[fq,hf]
     rw[h2]at k3
     rw[ac8,Bool.and_eq_true]at k1
     have k4:=of_decide_eq_true k1.2
     simp only[List.cons.injEq,Prod.mk.injEq,and_true]at k3
     rw[ac8,decide_eq_true h0,Bool.true_and,decide_eq_true_iff,k3.1,k3.2]
     exact k4
   rw[ac8,Bool.and_eq_true]at hadj
   have hnu:=of_decide_eq_true hadj.2
   have e1:=ar hi
   have e2:=ar (show i - 1<(i6 L a).length by omega)
   refine⟨_,(hm _).1 e1,_,(hm _).1 e2,hnu,fun he=> ?_⟩
   have hlt:=List.pairwise_iff_getElem.1 hs (i - 1) i (by omega) hi (by omega)
   rw[←elG _ _ (by omega),←elG _ _ hi,he,(bdx (a:=a) h).irr]at hlt
   cases hlt
 ·rintro⟨s,s1,t,t1,hnu,hne⟩ hnil
  rcases aci (i6 L a)with ⟨_,h2⟩|⟨i,_,_,h3⟩
  rotate_left
  ·rw[hnil]at h3;cases h3
  obtain⟨i,hi,rfl⟩:=zu ((hm s).2 s1)
  obtain⟨j,hj,rfl⟩:=zu ((hm t).2 t1)
  have mono: ∀i j,i<j→j<(i6 L a).length→(el (i6 L a) i).nu≤(el (i6 L a) j).nu:=fun i j hij hj=>by
   have hlt:=List.pairwise_iff_getElem.1 hs i j (by omega) hj hij
   rw[←elG _ _ (by omega),←elG _ _ hj]at hlt
   exact bao hlt
  have key: ∀i j,i<j→j<(i6 L a).length→(el (i6 L a) i).nu=(el (i6 L a) j).nu→False:=fun i j hij hj he=>by
   have h4:=h2 (i+1) (by omega)
   rw[ac8,decide_eq_true (by omega),Bool.true_and,Nat.add_sub_cancel,decide_eq_false_iff_not]at h4
   have m1:=mono i (i+1) (by omega) (by omega)
   by_cases hij2:i+1=j
   ·exact h4 (by rw[hij2];exact he.symm)
   ·have m2:=mono (i+1) j (by omega) hj
    exact h4 (by omega)
  rcases Nat.lt_trichotomy i j with h5|h5|h5
  ·exact key i j h5 hj hnu
  ·subst h5;exact hne rfl
  ·exact key j i h5 hi hnu.symm
def UNI(L:List Stm):Prop:= ∀c,∀s∈L,∀t∈L,okV c s=true→okV c t=true→s.au=t.au→s.nu=t.nu
theorem awb{p:Stm→Bool}{l:List Stm}(h:l.any p=true): ∃i:Nat,aqd p l=(i:Int)∧i<l.length∧p (el l i)=true:=by
 cases hf:l.findIdx? p with
 |none=>
  rw[List.findIdx?_eq_none_iff]at hf
  rw[List.any_eq_true]at h
  obtain⟨x,hx,hp⟩:=h
  rw[hf x hx]at hp
  cases hp
 |some i=>
  obtain⟨h1,h2,_⟩:=List.findIdx?_eq_some_iff_getElem.1 hf
  exact⟨i,by rw[aqd,hf],h1,by rw[elG _ _ h1];exact h2⟩
theorem av0{M:List Stm}{c:Cs}{v:Vt}(h:v∈al M c):M.any (axf v)=true:=by
 obtain⟨s,hs,ho,rfl⟩:=fc.1 h
 refine List.any_eq_true.2 ⟨s,hs,?_⟩
 have h1:=(Bool.and_eq_true_iff.1 ho).1
 have h2:(ofE s).2=0:=of_decide_eq_true (Bool.and_eq_true_iff.1 h1).1
 unfold axf
 rw[decide_eq_true h2,Bool.true_and]
 have e1:(bu s).1=(ofE s).1:=rfl
 rw[e1,(oz _ _).2 rfl]
 simp[bq]
theorem a1r{M:List Stm}{c:Cs}{v:Vt}(h:v∈al M c):apv M v∈M:=by
 obtain⟨i,h1,h2,_⟩:=awb (av0 h)
 unfold apv
 rw[h1,Int.toNat_natCast]
 exact ar h2
theorem ao5{L:List Stm}{a:Int}(h:CF L)(hu:UNI L)(hd:adk (i6 L a)≠[]):gB L a=true:=by
 obtain⟨_,hm⟩:=xz (a:=a) h
 obtain⟨p,hp⟩:=List.exists_mem_of_ne_nil _ hd
 obtain⟨c,_,hc⟩:=List.mem_flatMap.1 hp
 split at hc
 rotate_left
 ·simp at hc
 rename_i hl
 have hss:=(uh (i6 L a) c).1
 have hlt:=List.pairwise_iff_getElem.1 hss 0 1 (by omega) hl (by omega)
 obtain⟨s0,s1,s2,s3⟩:=fc.1 (List.getElem_mem (show 0<(al (i6 L a) c).length by omega))
 obtain⟨t0,t1,t2,t3⟩:=fc.1 (List.getElem_mem hl)
 have m1:=(hm _).1 s1
 have m2:=(hm _).1 t1
 obtain⟨a1,a2,_⟩:=ec.1 m1
 obtain⟨b1,b2,_⟩:=ec.1 m2
 refine wu.2 ⟨s0,m1,t0,m2,hu c s0 a1 t0 b1 s2 t2 (a2.trans b2.symm),fun he=> ?_⟩
 subst he
 rw[←s3,←t3]at hlt
 have:=(a8d c).irr (bu s0).1
 rw[this]at hlt
 cases hlt
theorem ayb{L:List Stm}{a:Int}(h:CF L): ∀p∈xx (i6 L a),p.2.1.au=a:=fun p hp=>by
 obtain⟨_,hm⟩:=xz (a:=a) h
 unfold xx at hp
 split at hp
 rotate_left
 ·simp at hp
 rcases List.mem_append.1 hp with hp|hp
 ·obtain⟨q,hq,rfl⟩:=List.mem_map.1 hp
  rcases aci (i6 L a)with ⟨h1,_⟩|⟨i,h0,hi,h2⟩
  ·rw[h1]at hq;simp at hq
  ·rw[h2,List.mem_singleton]at hq
   rw[hq]
   exact(ec.1 ((hm _).1 (ar (show i - 1<(i6 L a).length by omega)))).2.1
 ·obtain⟨q,hq,rfl⟩:=List.mem_map.1 hp
  obtain⟨c,_,hc⟩:=List.mem_flatMap.1 hq
  split at hc
  rotate_left
  ·simp at hc
  rename_i hl
  rw[List.mem_singleton]at hc
  rw[hc]
  exact(ec.1 ((hm _).1 (a1r (ar (show 0<(al (i6 L a) c).length by omega))))).2.1
theorem al6{L:List Stm}{a:Int}(h:CF L)(hu:UNI L):xx (i6 L a)≠[]↔gB L a=true:=by
 obtain⟨_,hm⟩:=xz (a:=a) h
 constructor
 ·intro hne
  unfold xx at hne
  split at hne
  ·by_cases h1:fq (i6 L a)=[]
   ·refine ao5 h hu fun h2=>hne ?_
    rw[h1,h2]
    rfl
   ·exact(ami h).1 h1
  ·exact absurd rfl hne
 ·intro hg
  have h1:=(ami h).2 hg
  obtain⟨s,s1,t,t1,_,hne⟩:=wu.1 hg
  have hl:1<(i6 L a).length:=by
   have m1:=(hm s).2 s1
   have m2:=(hm t).2 t1
   match hM:i6 L a,m1,m2 with
   |[],m1,_=>simp at m1
   |[x],m1,m2=>simp at m1 m2;exact absurd (m1.trans m2.symm) hne
   |_::_::_,_,_=>simp
  unfold xx
  rw[if_pos hl]
  intro h2
  obtain⟨h3,_⟩:=List.append_eq_nil_iff.1 h2
  exact h1 (List.map_eq_nil_iff.1 h3)
theorem awm{L:List Stm}(h:CF L)(hu:UNI L):at4 L=db (gB L) 64:=by
 have hmap:(l6 L 64).map (fun p=>p.2.1.au)=(List.range 64).flatMap fun a:Nat=>List.replicate (xx (i6 L a)).length (a:Int):=by
  unfold l6
  rw[List.map_flatMap]
  congr 1
  funext a
  refine List.eq_replicate_iff.2 ⟨by rw[List.length_map],fun b hb=> ?_⟩
  obtain⟨p,hp,rfl⟩:=List.mem_map.1 hb
  exact ayb h p hp
 have hmem: ∀k:Int,k∈(l6 L 64).map (fun p=>p.2.1.au)↔(0≤k∧k<64)∧gB L k=true:=fun k=>by
  rw[hmap,List.mem_flatMap]
  constructor
  ·rintro⟨a,ha,hk⟩
   obtain⟨h1,rfl⟩:=List.mem_replicate.1 hk
   have ha:=List.mem_range.1 ha
   exact⟨by omega,(al6 h hu).1 fun h2=>h1 (by rw[h2];rfl)⟩
  ·rintro⟨⟨h1,h2⟩,h3⟩
   obtain⟨a,rfl⟩: ∃a:Nat,k=a:=⟨k.toNat,by omega⟩
   refine⟨a,List.mem_range.2 (by omega),List.mem_replicate.2 ⟨fun h4=> ?_,rfl⟩⟩
   exact(al6 h hu).2 h3 (List.eq_nil_of_length_eq_zero h4)
 have hsort:((l6 L 64).map fun p=>p.2.1.au).Pairwise fun x y=>decide (x≤y)=true:=by
  rw[hmap,List.pairwise_flatMap]
  refine⟨fun a _=>List.pairwise_replicate.2 (.inr (by simp)),?_⟩
  refine List.Pairwise.imp ?_ (List.pairwise_lt_range (n:=64))
  intro a b hab x hx y hy
  rw[(List.mem_replicate.1 hx).2,(List.mem_replicate.1 hy).2]
  simp
  omega
 have hs:srt ((l6 L 64).map fun p=>p.2.1.au)=(l6 L 64).map fun p=>p.2.1.au:=List.mergeSort_of_pairwise hsort
 unfold at4
 rw[←hs,a1f _ (fun x hx=>((hmem x).1 hx).1)]
 unfold db
 refine List.filter_congr fun k hk=> ?_
 obtain⟨a,ha,rfl⟩:=List.mem_map.1 hk
 have ha:=List.mem_range.1 ha
 rw[Bool.eq_iff_iff,decide_eq_true_iff,hmem]
 exact⟨fun h=>h.2,fun h=>⟨by omega,h⟩⟩
theorem alw(a b:Stm):Den Tryz.prog 122 [.agg (sm a),.agg (sm b)] [] (.int .i64 (ank a b)) [] []:=by
 refine ac Tryz.mixed Tryz.func122 rfl Tryz.call122 Tryz.ntmps122 (congrArg Array.toList Tryz.results122) (by simp) (by kernel_rfl) [] (exts:=[]) rfl rfl ?_
 simp only[go_sem]
 refine call (f9 a.nu b.nu) [] ?_
 simp only[go_sem]
 refine call (yy a.sd b.sd) [] ?_
 simp only[go_sem]
 refine call (ade [gi a.nu b.nu,Lib.compareBytes a.sd b.sd] (by simp[big])) [] ?_
 simp only[go_sem]
 refine⟨aa (by kernel_rfl),?_⟩
 simp only[orL,ank,or2]
 repeat' split
 all_goals simp_all
theorem aif(a b:Stm):Den Tryz.prog 128 [.agg (sm a),.agg (sm b),.ptr 1000000 0] [.cells [.fn 122 []]] (.bool (d7 a b)) [] [.cells [.fn 122 []]]:=by
 refine ac Tryz.mixed Tryz.func128 rfl Tryz.call128 Tryz.ntmps128 (congrArg Array.toList Tryz.results128) (by simp) (by kernel_rfl) [] (exts:=[1000000]) rfl rfl ?_
 simp only[go_sem]
 refine call (alw a b) [] ?_
 simp only[go_sem]
 rfl
theorem at3{L:List Stm}{a:Int}(l:List Stm)(hl:l.length<4611686018427387904)(h:CF L)(hm: ∀s∈l,s∈jr L a):
  Den Tryz.prog 126 [.os 1000000 l.length,.fn 122 []] [.arr 60 13 false (l.map sm)] (.tup []) [] [.arr 60 13 false ((aqf l).map sm)]:=by
 refine tj (F:=sm) (cf:=ank) (enters_of Tryz.func126 (by kernel_rfl) rfl) hl
  (fun m enc hk h1 c hO b cap d w hcmp hH hblk hsz=>AnyQ.slices_SortFunc Tryz.sortStm 13 (fun _=>by kernel_rfl) (fun _=>by kernel_rfl) enc hk h1 c hO _ _ b 0 cap d w (enters_of Tryz.func122 (by kernel_rfl) rfl) hcmp hH hblk hsz)
  (fun p cap fv w=>AnyF.slices_SortFunc_none Tryz.sortStm p cap fv w)
  (fun x hx y hy=>alw x y) (fun x _=>to_N.irr (x.nu,x.sd)) (fun x _ y _ z _=>to_N.tr (x.nu,x.sd) (y.nu,y.sd) (z.nu,z.sd)) (fun x _ y _ z _=>to_N.nt (x.nu,x.sd) (y.nu,y.sd) (z.nu,z.sd)) (fun x hx y hy h1 h2=> ?_) (List.mergeSort_perm _ _) ?_
 ·exact(bdx (a:=a) h).tri x y (hm x hx) (hm y hy) (decide_eq_false h1) (decide_eq_false h2)
 ·exact(avh l).imp fun h=>of_decide_eq_false h
theorem adh(l:List Stm)(hl:big l.length)(hd: ∀i,0<i→i<l.length→d7 (el l i) (el l (i - 1))=false):
  Den Tryz.prog 127 [.os 1000000 l.length,.fn 128 [.ptr 1000001 0]] [.arr 60 13 false (l.map sm),.cells [.fn 122 []]] (.os 1000000 l.length) [] [.arr 60 13 false (l.map sm),.cells [.fn 122 []]]:=by
 refine ac Tryz.mixed Tryz.func127 rfl Tryz.call127 Tryz.ntmps127 (congrArg Array.toList Tryz.results127) (by simp) (by kernel_rfl) [] (exts:=[1000000,1000001]) rfl rfl ?_
 by_cases h2:(l.length:Int)<2
 ·simp only[go_sem,h2]
 simp only[go_sem,h2]
 refine loop Tryz.mixed 1 (fun i:Nat=>[(0,.os 1000000 l.length),(1,.fn 128 [.ptr 1000001 0]),(5,.int .i64 i)]) (fun _=>[(1000000,.arr 60 13 false (l.map sm)),(1000001,.cells [.fn 122 []])]) (fun i=>1≤i∧i≤l.length) (fun i=>l.length - i) (by kernel_rfl) ⟨Nat.le_refl _,by omega⟩ ?_ ?_
 ·simp only[go_sem]
 ·rintro i ⟨hi0,hi⟩
  by_cases hlt:i<l.length
  ·have h1:(i:Int)<(l.length:Int):=by omega
   obtain⟨j,rfl⟩: ∃j,i=j+1:=⟨i - 1,by omega⟩
   have hw:IntKind.i64.wrap (((j+1:Nat):Int) - 1)=(j:Int):=by rw[ae]<;>omega
   have hj:j<l.length:=by omega
   simp only[go_sem,h1,hlt,hw,hj]
   have hne:=hd (j+1) (by omega) hlt
   rw[Nat.add_sub_cancel]at hne
   refine call (aif (el l (j+1)) (el l j)) [1000001] ?_
   simp only[go_sem,hne]
   refine⟨aa (by kernel_rfl),j+1+1,⟨⟨by omega,by omega⟩,by omega⟩,?_⟩
   rw[ae]<;>omega
  ·have h1: ¬(i:Int)<(l.length:Int):=by omega
   simp only[go_sem,h1]
theorem aa0(l:List Stm)(hl:big l.length){k0:Nat}(h1:0<k0)(h2:k0<l.length)(h3:d7 (el l k0) (el l (k0 - 1))=true)(h4: ∀j,0<j→j<k0→d7 (el l j) (el l (j - 1))=false):
  Den Tryz.prog 127 [.os 1000000 l.length,.fn 128 [.ptr 1000001 0]] [.arr 60 13 false (l.map sm),.cells [.fn 122 []]] (.vs ((kp d7 l l.length).map sm)) [] [.arr 60 13 true ((kp d7 l l.length).map sm++List.replicate (l.length - (kp d7 l l.length).length) zS),.cells [.fn 122 []]]:=by
 refine ac Tryz.mixed Tryz.func127 rfl Tryz.call127 Tryz.ntmps127 (congrArg Array.toList Tryz.results127) (by simp) (by kernel_rfl) [] (exts:=[1000000,1000001]) rfl rfl ?_
 have hlen: ¬(l.length:Int)<2:=by omega
 simp only[go_sem,hlen]
 refine xl Tryz.mixed 1 (fun i:Nat=>[(0,.os 1000000 l.length),(1,.fn 128 [.ptr 1000001 0]),(5,.int .i64 i)]) (fun _=>[(1000000,.arh 60 13 (l.map sm)),(1000001,.cells [.fn 122 []])]) (fun i=>1≤i∧i≤k0) (fun i=>k0 - i) (by kernel_rfl) ⟨Nat.le_refl _,by omega⟩ ?_ ?_
 ·refine Cv.trans (Cv.opn (n:=1000000) (by rfl)) (Cv.wk ?_)
  have hin:=bi [1000000,1000001] sm (fun _=>rfl) l
  simp only[go_sem,hin]
 ·rintro i ⟨hi0,hi⟩
  have hlt:i<l.length:=by omega
  have g1:(i:Int)<(l.length:Int):=by omega
  obtain⟨j,rfl⟩: ∃j,i=j+1:=⟨i - 1,by omega⟩
  have hw:IntKind.i64.wrap (((j+1:Nat):Int) - 1)=(j:Int):=by rw[ae]<;>omega
  have hj:j<l.length:=by omega
  have cq:=aif (el l (j+1)) (el l j)
  by_cases hk:j+1<k0
  ·have hne:=h4 (j+1) (by omega) hk
   rw[Nat.add_sub_cancel]at hne
   rw[hne]at cq
   simp only[go_sem,g1,hlt,hw,hj]
   refine call cq [1000001] ?_
   simp only[go_sem]
   refine⟨aa (by kernel_rfl),j+1+1,⟨⟨by omega,by omega⟩,by omega⟩,Cv.wk ?_⟩
   have hin:=bi [1000000,1000001] sm (fun _=>rfl) l
   simp only[go_sem,hin]
   rw[ae]<;>omega
  ·obtain rfl:k0=j+1:=by omega
   rw[Nat.add_sub_cancel]at h3
   rw[h3]at cq
   simp only[go_sem,g1,hlt,hw,hj]
   refine call cq [1000001] ?_
   simp only[go_sem,g1,hlt,hw,hj]
   refine⟨aa (by kernel_rfl),?_⟩
   have kf:kp d7 l (j+1+1)=l.take (j+1):=by
    have:=ur d7 l (j+1) (by omega) h4
    rw[kp,if_neg (fun h=>by rcases h with h|h;omega;rw[Nat.add_sub_cancel,h3]at h;cases h),this,List.append_nil]
   refine xl Tryz.mixed (0,l) (fun s:Nat×List Stm=>[(0,.os 1000000 l.length),(1,.fn 128 [.ptr 1000001 0]),(5,.int .i64 (kp d7 l (j+1+(s.1+1))).length),(6,.osl 1000000 l.length (j+1)),(7,.int .i64 ((s.1+1:Nat):Int))]) (fun s=>[(1000000,.arh 60 13 (s.2.map sm)),(1000001,.cells [.fn 122 []])])
    (fun s=>j+1+(s.1+1)≤l.length∧s.2.length=l.length∧(kp d7 l (j+1+(s.1+1))).length<j+1+(s.1+1)∧s.2.take (kp d7 l (j+1+(s.1+1))).length=kp d7 l (j+1+(s.1+1))∧∀a,(kp d7 l (j+1+(s.1+1))).length≤a→el s.2 a=el l a) (fun s=>l.length - s.1) (by kernel_rfl) ?_ ?_ ?_
   ·have hlt':(l.take (j+1)).length=j+1:=by simp;omega
    refine⟨by simp only;omega,rfl,?_,?_,fun a _=>rfl⟩
    ·show(kp d7 l (j+1+1)).length<j+1+1
     rw[kf,hlt'];omega
    ·show l.take (kp d7 l (j+1+1)).length=kp d7 l (j+1+1)
     rw[kf,hlt']
   ·refine Cv.wk ?_
    have hlt':(l.take (j+1)).length=j+1:=by simp;omega
    have hin:=bi [1000000,1000001] sm (fun _=>rfl) l
    simp only[go_sem,hin,kf,hlt']
   ·rintro⟨n,L⟩ ⟨i1,i2,i3,i4,i5⟩
    simp only at i1 i2 i3 i4 i5
    simp only
    have ks:kp d7 l (j+1+(n+1)+1)=kp d7 l (j+1+(n+1))++if d7 (el l (j+1+(n+1))) (el l (j+1+n))=false then [el l (j+1+(n+1))]else []:=by
     rw[kp]
     have h0: ¬j+1+(n+1)=0:=by omega
     simp only[h0,false_or]
     rfl
    have k0p:0<(kp d7 l (j+1+(n+1))).length:=aub _ _ (by omega)
    generalize hO:kp d7 l (j+1+(n+1))=o at*
    by_cases hm:j+1+(n+1)<l.length
    ·have g2:((n+1:Nat):Int)<((l.length - (j+1):Nat):Int):=by omega
     have g3:((j+1:Nat):Int)+((n+1:Nat):Int)<(l.length:Int):=by omega
     have g4:((j+1:Nat):Int)+(n:Int)<(l.length:Int):=by omega
     have g5:IntKind.i64.wrap (((n+1:Nat):Int) - 1)=(n:Int):=by rw[ae]<;>omega
     have g6:j+1+(n+1)<L.length:=by omega
     have g7:j+1+n<L.length:=by omega
     have e1:el L (j+1+(n+1))=el l (j+1+(n+1)):=i5 _ (by omega)
     have e2:el L (j+1+n)=el l (j+1+n):=i5 _ (by omega)
     have ks':kp d7 l (j+1+((n+1)+1))=o++if d7 (el l (j+1+(n+1))) (el l (j+1+n))=false then [el l (j+1+(n+1))]else []:=ks
     have cq2:=aif (el l (j+1+(n+1))) (el l (j+1+n))
     have hm2:j+1+n<l.length:=by omega
     cases hsame:d7 (el l (j+1+(n+1))) (el l (j+1+n))with
     |true=>
      rw[hsame,if_neg (by simp),List.append_nil]at ks'
      rw[hsame]at cq2
      simp only[go_sem,g2,g3,g4,g5,g6,g7,i2,e1,e2,hm,hm2]
      refine call cq2 [1000001] ?_
      simp only[go_sem,g2,g3,g4,g5,g6,g7,i2,e1,e2,hm,hm2]
      refine⟨aa (by kernel_rfl),(n+1,L),⟨⟨by simp only;omega,i2,?_,?_,fun a ha=>i5 a ?_⟩,by simp only;omega⟩,Cv.wk ?_⟩
      ·show(kp d7 l (j+1+((n+1)+1))).length<_
       rw[ks'];simp only;omega
      ·show L.take (kp d7 l (j+1+((n+1)+1))).length=_
       rw[ks'];exact i4
      ·have ha':(kp d7 l (j+1+((n+1)+1))).length≤a:=ha
       rwa [ks']at ha'
      ·have hin:=bi [1000000,1000001] sm (fun _=>rfl) L
       simp only[go_sem,ks',hin]
       rw[ae]<;>omega
     |false=>
      rw[hsame,if_pos rfl]at ks'
      rw[hsame]at cq2
      have g8:o.length<l.length:=by omega
      simp only[go_sem,g2,g3,g4,g5,g6,g7,g8,i2,e1,e2,hm,hm2]
      refine call cq2 [1000001] ?_
      simp only[go_sem,g2,g3,g4,g5,g6,g7,g8,i2,e1,e2,hm,hm2]
      refine⟨aa (by kernel_rfl),(n+1,L.set o.length (el l (j+1+(n+1)))),⟨⟨by simp only;omega,by simp only[List.length_set];exact i2,?_,?_,fun a ha=> ?_⟩,by simp only;omega⟩,Cv.wk ?_⟩
      ·show(kp d7 l (j+1+((n+1)+1))).length<_
       rw[ks',List.length_append,List.length_singleton];simp only;omega
      ·show(L.set o.length (el l (j+1+(n+1)))).take (kp d7 l (j+1+((n+1)+1))).length=kp d7 l (j+1+((n+1)+1))
       rw[ks'];exact uk (by omega) i4
      ·have ha':(kp d7 l (j+1+((n+1)+1))).length≤a:=ha
       rw[ks',List.length_append,List.length_singleton]at ha'
       show el (L.set o.length _) a=_
       rw[al9 (by omega)]
       exact i5 a (by omega)
      ·have hin:=bi [1000000,1000001] sm (fun _=>rfl) (L.set o.length (el l (j+1+(n+1))))
       have hset:(L.map sm).set o.length [PV.int IntKind.i64 (el l (j+1+(n+1))).au,PV.int IntKind.i64 (el l (j+1+(n+1))).nu,PV.str (el l (j+1+(n+1))).prev,PV.int IntKind.i64 (el l (j+1+(n+1))).ti,PV.int IntKind.i64 (el l (j+1+(n+1))).kd,PV.int IntKind.i64 (el l (j+1+(n+1))).a,PV.int IntKind.i64 (el l (j+1+(n+1))).b,PV.int IntKind.i64 (el l (j+1+(n+1))).c,PV.vs (List.map Am.i1 (el l (j+1+(n+1))).li),PV.vs (List.map pn (el l (j+1+(n+1))).pins),PV.str (el l (j+1+(n+1))).body,PV.int IntKind.i64 (el l (j+1+(n+1))).sk,PV.str (el l (j+1+(n+1))).sd]=(L.set o.length (el l (j+1+(n+1)))).map sm:=by rw[List.map_set];rfl
       have hol:(o++[el l (j+1+(n+1))]).length=o.length+1:=by simp
       simp only[go_sem,ks',hset,hin,hol]
       exact⟨by rw[ae]<;>omega,by rw[ae]<;>omega⟩
    ·have hend:j+1+(n+1)=l.length:=by omega
     have g2: ¬((n+1:Nat):Int)<((l.length - (j+1):Nat):Int):=by omega
     have g3:(o.length:Int)<(l.length:Int):=by omega
     rw[hend]at hO
     rw[hO]
     have htk:(L.map sm).take o.length=o.map sm:=by rw[←List.map_take,i4]
     have hpu: ∀σ,jp σ (o.map sm++List.replicate (l.length - o.length) zS)=some (o.map sm++List.replicate (l.length - o.length) zS,[]):=fun σ=>p5 fun x hx=>by
      rcases List.mem_append.1 hx with hx|hx
      ·obtain⟨c,_,rfl⟩:=List.mem_map.1 hx
       rfl
      ·rw[List.eq_of_mem_replicate hx]
       rfl
     have g4:(o.length:Int)≤(l.length:Int):=by omega
     have g5:(o.map sm++List.replicate (l.length - o.length) zS).length=l.length:=by simp;omega
     have g6:(o.map sm++List.replicate (l.length - o.length) zS).take o.length=o.map sm:=by simp
     simp only[go_sem,g2,g3,i2,htk]
     refine ln _ _ ?_
     have g7:o.length<l.length:=by omega
     simp only[go_sem,g2,g3,i2,htk,g7,←beb,hpu,g4,g5,g6]
     refine aj1 _ ?_
     simp only[go_sem]
theorem acj(l:List Stm)(hl:big l.length):
  ∃new,new.length=l.length∧Den Tryz.prog 127 [.os 1000000 l.length,.fn 128 [.ptr 1000001 0]] [.arr 60 13 false (l.map sm),.cells [.fn 122 []]] (.vs ((kp d7 l l.length).map sm)) [] [.arr 60 13 true new,.cells [.fn 122 []]]:=by
 rcases tq d7 l l.length (Nat.le_refl _)with h|⟨k0,h1,h2,h3,h4⟩
 ·rw[ahj _ _ h]
  exact⟨_,by simp,(adh l hl h).vsE (by simp)⟩
 ·exact⟨_,by have:=y5 d7 l l.length;simp;omega,aa0 l hl h1 h2 h3 h4⟩
def aov(L:List Stm)(a:Int)(i:Nat):List Stm:=jr (L.take i) a
theorem ata{L:List Stm}{a:Int}{i:Nat}(h:i<L.length):aov L a (i+1)=aov L a i++(if(decide ((el L i).au=a)&&cu (el L i))=true then [el L i]else []):=by
 unfold aov jr
 rw[bd h,List.filter_append]
 congr 1
 simp only[List.filter_cons,List.filter_nil]
theorem a0a(L:List Stm)(a:Int)(i:Nat):(aov L a i).length≤L.length:=by
 have h1:=acf (L.take i) a
 have h2:(L.take i).length≤L.length:=by rw[List.length_take];omega
 unfold aov
 omega
theorem a09(L:List Stm)(a:Int):aov L a L.length=jr L a:=by rw[aov,List.take_length]
theorem a7t(L:List Stm)(a:Int)(hl:L.length≤1000000)(hs: ∀s∈L,jm s)(h:CF L):Den Tryz.prog 95 [.vs (L.map sm),.int .i64 a] [] (.vs ((i6 L a).map sm)) [] []:=by
 refine ac Tryz.mixed Tryz.func95 rfl Tryz.call95 Tryz.ntmps95 (congrArg Array.toList Tryz.results95) (by simp) (by kernel_rfl) [] (exts:=[]) rfl rfl ?_
 simp only[go_sem]
 refine cz 5 99 60 13 false ?_ ?_ ?_ (by omega)
 ·refine loop Tryz.mixed 0 (fun i:Nat=>[(1,.int .i64 a),(5,.os 99 (aov L a i).length),(9,.vs (L.map sm)),(10,.int .i64 L.length),(11,.int .i64 i)]) (fun i=>[(99,.arr 60 13 false ((aov L a i).map sm))]) (fun i=>i≤L.length) (fun i=>L.length - i) (by kernel_rfl) (Nat.zero_le _) ?_ ?_
  ·simp only[go_sem]
   exact⟨rfl,rfl⟩
  ·intro i hi
   by_cases hlt:i<L.length
   ·have h1:(i:Int)<(L.length:Int):=by omega
    have hsu:=ata (a:=a) hlt
    have hln:=a0a L a i
    have hbs:=hs _ (ar hlt)
    have c1:=n8 (el L i) hbs
    have c2:=fun h:ah (el L i)=0=>qv (el L i) (pt h)
    rw[k9]at c1 c2
    have no:(decide ((el L i).au=a)&&cu (el L i))=false→aov L a (i+1)=aov L a i:=fun hh=>by rw[hsu,hh,if_neg (by simp),List.append_nil]
    by_cases k1:a=(el L i).au
    rotate_left
    ·have k1': ¬(el L i).au=a:=fun e=>k1 e.symm
     have n0:=no (by simp[k1'])
     simp only[go_sem,h1,hlt,k1,k1']
     refine⟨i+1,⟨by omega,by omega⟩,?_⟩
     rw[n0]
     exact⟨⟨rfl,by rw[ae]<;>omega⟩,rfl⟩
    have kt:=eq_true k1
    have kt':=eq_true k1.symm
    simp only[go_sem,h1,hlt,kt,kt']
    refine call c1 [] ?_
    by_cases k2:ah (el L i)=0
    rotate_left
    ·have n0:=no (by simp[cu,k2])
     simp only[go_sem,k2,kt,kt']
     refine⟨i+1,⟨by omega,by omega⟩,?_⟩
     rw[n0]
     exact⟨⟨rfl,by rw[ae]<;>omega⟩,rfl⟩
    simp only[go_sem,k2,kt,kt']
    refine call (c2 k2) [] ?_
    by_cases k3:(el L i).sk=(el L i).au∧(el L i).sd=dig (el L i)
    rotate_left
    ·have n0:=no (by simp[cu,k3])
     simp only[go_sem,k3,k2,kt,kt']
     refine⟨i+1,⟨by omega,by omega⟩,?_⟩
     rw[n0]
     exact⟨⟨rfl,by rw[ae]<;>omega⟩,rfl⟩
    have y0:aov L a (i+1)=aov L a i++[el L i]:=by rw[hsu,if_pos (by simp[cu,←k1,k2];exact⟨by rw[k1];exact k3.1,k3.2⟩)]
    simp only[go_sem,k3,k2,kt,kt']
    refine⟨by omega,i+1,⟨by omega,by omega⟩,?_⟩
    rw[y0]
    exact⟨⟨by simp,by rw[ae]<;>omega⟩,by simp[k9,k3]⟩
   ·have h1: ¬(i:Int)<(L.length:Int):=by omega
    have:i=L.length:=by omega
    subst this
    simp only[go_sem,h1]
    have hfl:=acf L a
    rw[a09]
    refine call (at3 (jr L a) (by omega) h fun s hs=>hs) [99] ?_
    have hsl:(aqf (jr L a)).length=(jr L a).length:=List.length_mergeSort _
    simp only[go_sem,hsl]
    obtain⟨new,hnl,hcc⟩:=acj (aqf (jr L a)) (by simp only[big];omega)
    rw[hsl]at hcc hnl
    refine⟨Nat.le_refl _,?_⟩
    have hol:i6 L a=kp d7 (aqf (jr L a)) (aqf (jr L a)).length:=rfl
    rw[hol,hsl]
    refine call hcc [99,8] ?_
    simp only[go_sem,hsl]
    omega
 ·simp only[go_sem]
 ·simp only[go_sem]
def pf(p:Int×Stm×Stm):List PV:= .int .i64 p.1::(sm p.2.1++sm p.2.2)
theorem ag2(p:Int×Stm×Stm):pf p=[.int .i64 p.1,.int .i64 p.2.1.au,.int .i64 p.2.1.nu,.str p.2.1.prev,.int .i64 p.2.1.ti,.int .i64 p.2.1.kd,.int .i64 p.2.1.a,.int .i64 p.2.1.b,.int .i64 p.2.1.c,.vs (p.2.1.li.map i1),.vs (p.2.1.pins.map pn),.str p.2.1.body,.int .i64 p.2.1.sk,.str p.2.1.sd,
 .int .i64 p.2.2.au,.int .i64 p.2.2.nu,.str p.2.2.prev,.int .i64 p.2.2.ti,.int .i64 p.2.2.kd,.int .i64 p.2.2.a,.int .i64 p.2.2.b,.int .i64 p.2.2.c,.vs (p.2.2.li.map i1),.vs (p.2.2.pins.map pn),.str p.2.2.body,.int .i64 p.2.2.sk,.str p.2.2.sd]:=(rfl)
attribute [go_sem] ag2
theorem auf(M:List Stm)(hl:big M.length):Den Tryz.prog 96 [.vs (M.map sm)] [] (.vs ((pfs 1 (fq M)).map pf)) [] []:=by
 refine ac Tryz.mixed Tryz.func96 rfl Tryz.call96 Tryz.ntmps96 (congrArg Array.toList Tryz.results96) (by simp) (by kernel_rfl) [] (exts:=[]) rfl rfl ?_
 simp only[go_sem]
 refine loop Tryz.mixed 1 (fun i:Nat=>[(0,.vs (M.map sm)),(3,.int .i64 i)]) (fun _=>[]) (fun i=>1≤i∧(i≤M.length∨i=1)∧∀j,j<i→ac8 M j=false) (fun i=>M.length - i) (by kernel_rfl) ⟨Nat.le_refl _,.inr rfl,fun j hj=>by rw[show j=0 by omega];rfl⟩ ?_ ?_
 ·simp only[go_sem]
 ·rintro i ⟨h0,hi,hp⟩
  by_cases hlt:i<M.length
  ·have h1:(i:Int)<(M.length:Int):=by omega
   obtain⟨j,rfl⟩: ∃j,i=j+1:=⟨i - 1,by omega⟩
   have hw:IntKind.i64.wrap (((j+1:Nat):Int) - 1)=(j:Int):=by rw[ae]<;>omega
   have hj:j<M.length:=by omega
   have hat:=axo hlt (M:=M)
   rw[Nat.add_sub_cancel]at hat
   by_cases hn:(el M (j+1)).nu=(el M j).nu
   ·have hq:=hat (by simp[ac8,hn]) hp
    rw[hq]
    simp only[go_sem,h1,hlt,hw,hj,hn,pfs]
    exact⟨aa (by kernel_rfl),aa (by kernel_rfl)⟩
   ·simp only[go_sem,h1,hlt,hw,hj,hn]
    refine⟨aa (by kernel_rfl),j+1+1,⟨⟨by omega,by omega,fun k hk=> ?_⟩,by omega⟩,by rw[ae]<;>omega⟩
    by_cases hkj:k=j+1
    ·subst hkj
     simp[ac8,hn]
    ·exact hp k (by omega)
  ·have h1: ¬(i:Int)<(M.length:Int):=by omega
   rw[ao2 fun j hj=>hp j (by omega)]
   simp only[go_sem,h1,pfs,List.map_nil]
theorem azf(v:Vt)(s:Stm)(hs:jm s)(hv:l4 v.x):Den Tryz.prog 175 [.agg (sm s),.ptr 1000000 0] [.cells (vt7 v)] (.bool (axf v s)) [] [.cells (vt7 v)]:=by
 refine ac Tryz.mixed Tryz.func175 rfl Tryz.call175 Tryz.ntmps175 (congrArg Array.toList Tryz.results175) (by simp) (by kernel_rfl) [] (exts:=[1000000]) rfl rfl ?_
 have c1:=av7 s hs
 have hb:l4 (ofE s).1.x:=gx (ql (s:=s))
 have hm:axf v s=(decide ((ofE s).2=0)&&(bq (ofE s).1.c v.c&&decide (jq (ofE s).1.x v.x=0))):=rfl
 have hce:bq (ofE s).1.c v.c=true↔((ofE s).1.c.ep=v.c.ep∧(ofE s).1.c.kd=v.c.kd∧(ofE s).1.c.su=v.c.su∧(ofE s).1.c.ro=v.c.ro):=by
  generalize (ofE s).1.c=a
  cases a
  cases hv:v.c
  simp[bq]
 have c2:=qt (ofE s).1.x v.x hb.1 hb.2 hv.1 hv.2
 rw[k9]at c1
 generalize axf v s=m at*
 generalize ofE s=W at*
 obtain⟨w,e⟩:=W
 dsimp only at c1 c2 hm hce
 simp only[go_sem]
 refine call c1 [] ?_
 by_cases he:e=0
 rotate_left
 ·rw[decide_eq_false he,Bool.false_and]at hm
  subst hm
  simp only[go_sem,he]
 rw[decide_eq_true he,Bool.true_and]at hm
 cases hsc:bq w.c v.c
 ·rw[hsc,Bool.false_and]at hm
  subst hm
  have hn: ¬(w.c.ep=v.c.ep∧w.c.kd=v.c.kd∧w.c.su=v.c.su∧w.c.ro=v.c.ro):=fun h=>by rw[hce.2 h]at hsc;cases hsc
  simp only[go_sem,he,hn]
  done
 ·rw[hsc,Bool.true_and]at hm
  have hy:=hce.1 hsc
  simp only[go_sem,he,hy]
  refine call c2 [] ?_
  simp only[go_sem]
  exact hm.symm
theorem ax0(v:Vt)(hv:l4 v.x)(l:List Stm)(hb:big l.length)(hs: ∀s∈l,jm s):Den Tryz.prog 174 [.vs (l.map sm),.fn 175 [.ptr 1000000 0]] [.cells (vt7 v)] (.int .i64 (aqd (axf v) l)) [] [.cells (vt7 v)]:=by
 refine ac Tryz.mixed Tryz.func174 rfl Tryz.call174 Tryz.ntmps174 (congrArg Array.toList Tryz.results174) (by simp) (by kernel_rfl) [] (exts:=[1000000]) rfl rfl ?_
 simp only[go_sem]
 refine loop Tryz.mixed 0 (fun i:Nat=>[(0,.vs (l.map sm)),(1,.fn 175 [.ptr 1000000 0]),(7,.int .i64 l.length),(8,.int .i64 i)]) (fun i=>[(1000000,.cells (vt7 v))]) (fun i=>i≤l.length∧∀j,j<i→axf v (el l j)=false) (fun i=>l.length - i) (by kernel_rfl) ?_ ?_ ?_
 ·simp
 ·simp only[go_sem]
 ·rintro i ⟨hi,hp⟩
  by_cases hi':i<l.length
  ·have hlt:(i:Int)<(l.length:Int):=by omega
   have cD:=azf v (el l i) (hs _ (ar hi')) hv
   rw[k9,al3]at cD
   simp only[go_sem,hlt,hi']
   refine call cD [1000000] ?_
   cases e:axf v (el l i)
   ·simp only[go_sem]
    refine⟨i+1,⟨⟨by omega,fun j hj=> ?_⟩,by omega⟩,by rw[ae]<;>omega⟩
    by_cases hji:j=i
    ·rw[hji];exact e
    ·exact hp j (by omega)
   ·simp only[go_sem]
    rw[au6 hi' e hp]
  ·have hf: ¬((i:Int)<(l.length:Int)):=by omega
   have:i=l.length:=by omega
   subst this
   simp only[go_sem,hf]
   rw[aex hp]
theorem aep(M:List Stm)(v:Vt)(hl:big M.length)(hs: ∀s∈M,jm s)(hv:l4 v.x)(ha:M.any (axf v)=true):Den Tryz.prog 131 [.vs (M.map sm),.agg (vt7 v)] [] (.agg (sm (apv M v))) [] []:=by
 refine ac Tryz.mixed Tryz.func131 rfl Tryz.call131 Tryz.ntmps131 (congrArg Array.toList Tryz.results131) (by simp) (by kernel_rfl) [] (exts:=[]) rfl rfl ?_
 obtain⟨i,h1,h2,_⟩:=awb ha
 have c1:=ax0 v hv M hl hs
 have hx:apv M v=el M i:=by rw[apv,h1,Int.toNat_natCast]
 rw[h1,al3]at c1
 rw[hx]
 simp only[go_sem]
 refine call c1 [3] ?_
 simp only[go_sem,h2]
 done
theorem ad3{M:List Stm}{K:List Cs}{i:Nat}(h:i<K.length)(f:Cs→List (Stm×Stm)):(K.take (i+1)).flatMap f=(K.take i).flatMap f++f (el K i):=by
 rw[bd h,List.flatMap_append]
 simp
theorem nr(L:List Stm):(fu L).length≤L.length:=by
 have h1:=y5 bq (aqc (tb L L.length)) (aqc (tb L L.length)).length
 have h2:(aqc (tb L L.length)).length=(tb L L.length).length:=List.length_mergeSort _
 have h3:(tb L L.length).length≤L.length:=by
  unfold tb
  rw[List.length_map]
  refine Nat.le_trans (List.length_filter_le _ _) ?_
  rw[List.length_take];omega
 unfold fu
 omega
def dbl(M:List Stm)(c:Cs):List (Stm×Stm):=if 1<(al M c).length then [(apv M (el (al M c) 0),apv M (el (al M c) 1))]else []
theorem alu(M:List Stm):adk M=(fu M).flatMap (dbl M):=rfl
theorem ahg(M:List Stm)(K:List Cs): ∀i,((K.take i).flatMap (dbl M)).length≤i
 |0=>by simp
 |i+1=>by
  have ih:=ahg M K i
  by_cases h:i<K.length
  ·rw[ad3 h (M:=M),List.length_append]
   have:(dbl M (el K i)).length≤1:=by
    unfold dbl
    split<;>simp
   omega
  ·rw[List.take_of_length_le (by omega)]
   rw[List.take_of_length_le (by omega)]at ih
   omega
theorem aic(M:List Stm)(hl:M.length≤1000000)(hs: ∀s∈M,jm s):Den Tryz.prog 97 [.vs (M.map sm)] [] (.vs ((pfs 2 (adk M)).map pf)) [] []:=by
 refine ac Tryz.mixed Tryz.func97 rfl Tryz.call97 Tryz.ntmps97 (congrArg Array.toList Tryz.results97) (by simp) (by kernel_rfl) [] (exts:=[]) rfl rfl ?_
 have c1:=apc M hl hs
 have hKl:=nr M
 have cv:=fun c:Cs=>aal M c hl hs
 rw[alu]
 have hfa:=fun(c:Cs) (v:Vt) (h:v∈al M c)=>av0 h
 have hvb:=fun(c:Cs) (v:Vt) (h:v∈al M c)=>gx (mu v h).1
 generalize fu M=K at*
 simp only[go_sem]
 refine call c1 [] ?_
 simp only[go_sem]
 have hd0: ∀i,((pfs 2 ((K.take i).flatMap (dbl M)))).length≤i:=fun i=>by rw[pfs,List.length_map];exact ahg M K i
 refine cz 3 99 87 27 false ?_ ?_ ?_ (by omega)
 ·refine loop Tryz.mixed 0 (fun i:Nat=>[(0,.vs (M.map sm)),(3,.os 99 (pfs 2 ((K.take i).flatMap (dbl M))).length),(8,.vs (K.map cs)),(9,.int .i64 K.length),(10,.int .i64 i)]) (fun i=>[(99,.arr 87 27 false ((pfs 2 ((K.take i).flatMap (dbl M))).map pf))]) (fun i=>i≤K.length) (fun i=>K.length - i) (by kernel_rfl) (Nat.zero_le _) ?_ ?_
  ·simp only[go_sem,pfs,List.flatMap_nil,List.map_nil,List.length_nil]
   done
  ·intro i hi
   by_cases hlt:i<K.length
   ·have h1:(i:Int)<(K.length:Int):=by omega
    have hsu:=ad3 (M:=M) hlt (dbl M)
    have hdi:=hd0 i
    have cv:=cv (el K i)
    have hfa:=hfa (el K i)
    have hvb:=hvb (el K i)
    have hde:dbl M (el K i)=if 1<(al M (el K i)).length then [(apv M (el (al M (el K i)) 0),apv M (el (al M (el K i)) 1))]else []:=rfl
    rw[bf]at cv
    generalize al M (el K i)=V at*
    have hps:pfs 2 ((K.take (i+1)).flatMap (dbl M))=pfs 2 ((K.take i).flatMap (dbl M))++pfs 2 (dbl M (el K i)):=by rw[hsu,pfs,List.map_append];rfl
    generalize pfs 2 ((K.take i).flatMap (dbl M))=o at*
    simp only[go_sem,h1,hlt]
    refine call cv [] ?_
    by_cases h2:1<(V.length:Int)
    ·have hV1:1<V.length:=by omega
     have hV0:0<V.length:=by omega
     have hV0i:(0:Int)<(V.length:Int):=by omega
     rw[if_pos hV1]at hde
     rw[hde]at hps
     have f0:=aep M (el V 0) (by simp only[big];omega) hs (hvb _ (ar hV0)) (hfa _ (ar hV0))
     have f1:=aep M (el V 1) (by simp only[big];omega) hs (hvb _ (ar hV1)) (hfa _ (ar hV1))
     rw[al3,k9]at f0 f1
     generalize apv M (el V 0)=x0 at*
     generalize apv M (el V 1)=x1 at*
     simp only[go_sem,h2,hV1,hV0,hV0i]
     refine call f0 [] ?_
     simp only[go_sem,h2,hV1,hV0,hV0i]
     refine call f1 [] ?_
     simp only[go_sem]
     refine⟨by omega,aa (by kernel_rfl),i+1,⟨by omega,by omega⟩,?_⟩
     rw[hps]
     exact⟨⟨by simp[pfs],by rw[ae]<;>omega⟩,by simp[pfs,ag2]⟩
    ·rw[if_neg (by omega)]at hde
     rw[hde]at hps
     simp only[go_sem,h2]
     refine⟨i+1,⟨by omega,by omega⟩,?_⟩
     rw[hps]
     simp only[go_sem,pfs,List.map_nil,List.append_nil]
     rw[ae]<;>omega
   ·have h1: ¬(i:Int)<(K.length:Int):=by omega
    have:i=K.length:=by omega
    subst this
    simp only[go_sem,h1,List.take_length]
    done
 ·simp only[go_sem]
 ·simp only[go_sem]
def ak6(l:List Int)(k:Cs)(x:Ct)(seats:List Int)(round:Int)(p:Nat)(o:List Stm):Nat→Nat×List Stm
 |0=>(p,o)
 |i+1=>(dgo l (ak6 l k x seats round p o i).1 1,(ak6 l k x seats round p o i).2++(if ai l (ak6 l k x seats round p o i).1 9=8 then []else [vt (el seats i) round k x]))
def a2e(l:List Int)(r:Rl)(t:Tm)(c:Cs)(round:Int)(st:Nat×List Stm):Nat×List Stm:=
 if(bp r t {c with ro:=round}).2≠0 then st
 else ak6 l {c with ro:=round} (kg l st.1 {c with ro:=round}).1 (bp r t {c with ro:=round}).1 (10+round) (kg l st.1 {c with ro:=round}).2 st.2 (bp r t {c with ro:=round}).1.length
theorem ajg{l:List Int}{k:Cs}{x:Ct}{seats:List Int}{round:Int}{p:Nat}{o:List Stm}(hp:p≤l.length): ∀i,(ak6 l k x seats round p o i).1≤l.length
 |0=>hp
 |i+1=>d9 (ajg hp i) 1
theorem abx{l:List Int}{k:Cs}{x:Ct}{seats:List Int}{round:Int}{p:Nat}{o:List Stm}: ∀i,(ak6 l k x seats round p o i).2.length≤o.length+i
 |0=>Nat.le_refl _
 |i+1=>by
  have h:=abx (l:=l) (k:=k) (x:=x) (seats:=seats) (round:=round) (p:=p) (o:=o) i
  simp only[ak6,List.length_append]
  split<;>simp<;>omega
theorem a4q{l:List Int}{r:Rl}{t:Tm}{c:Cs}{round:Int}{st:Nat×List Stm}(hp:st.1≤l.length):(a2e l r t c round st).1≤l.length:=by
 unfold a2e
 split
 ·exact hp
 ·exact ajg (amd hp _) _
theorem ayj{l:List Int}{r:Rl}{t:Tm}{c:Cs}{round:Int}{st:Nat×List Stm}:(a2e l r t c round st).2.length≤st.2.length+64:=by
 unfold a2e
 have h0:=q5 r t {c with ro:=round}
 split
 ·omega
 ·have h2:=abx (l:=l) (k:={c with ro:=round}) (x:=(kg l st.1 {c with ro:=round}).1) (seats:=(bp r t {c with ro:=round}).1) (round:=10+round) (p:=(kg l st.1 {c with ro:=round}).2) (o:=st.2) (bp r t {c with ro:=round}).1.length
  omega
def ctC(l:List Int)(p:Nat):Cs:=⟨0,3,ai l p 8,0⟩
def ctB(l:List Int)(st:Nat×List Stm):List Stm:=if ai l (dgo l st.1 1) 2=1 then [gh (ctC l st.1).su 30 0 m7,gh (ctC l st.1).su 30 1 m7]else []
def ctA(l:List Int)(r:Rl)(t:Tm)(st:Nat×List Stm):Nat→Nat×List Stm
 |0=>(dgo l st.1 2,st.2++ctB l st)
 |i+1=>a2e l r t (ctC l st.1) i (ctA l r t st i)
def ctI(l:List Int)(r:Rl)(t:Tm)(st:Nat×List Stm):Nat×List Stm:=
 if ai l (ctA l r t st 2).1 2=1 then(dgo l (ctA l r t st 2).1 2,(ctA l r t st 2).2++[gh (ai l (dgo l (ctA l r t st 2).1 1) 8) 20 0 (apD (ctC l st.1))])
 else(dgo l (ctA l r t st 2).1 1,(ctA l r t st 2).2)
def ctT(l:List Int)(p:Nat):Tm:={kj (dc l p)with ros:=([0,1,2,3,4,5,6]:List Int).take (3+ai l (dgo l p 8) 5).toNat}
def ctN(l:List Int)(p:Nat):Nat:=(1+ai l (dgo l p 9) 2).toNat
def ctS(l:List Int)(p:Nat):Nat→Nat×List Stm
 |0=>(dgo l p 10,[])
 |i+1=>ctI l (dc l p) (ctT l p) (ctS l p i)
def ctF(l:List Int)(p:Nat):Nat×List Stm:=ctS l p (ctN l p)
theorem avz{l:List Int}{r:Rl}{t:Tm}{st:Nat×List Stm}(hp:st.1≤l.length): ∀i,(ctA l r t st i).1≤l.length
 |0=>d9 hp _
 |i+1=>a4q (avz hp i)
theorem a6o(l:List Int)(st:Nat×List Stm):(ctB l st).length≤2:=by
 unfold ctB
 split<;>simp
theorem ah5{l:List Int}{r:Rl}{t:Tm}{st:Nat×List Stm}: ∀i,(ctA l r t st i).2.length≤st.2.length+64*i+2
 |0=>by
  have h:=a6o l st
  simp only[ctA,List.length_append];omega
 |i+1=>by
  have h1:=ah5 (l:=l) (r:=r) (t:=t) (st:=st) i
  have h2:=ayj (l:=l) (r:=r) (t:=t) (c:=ctC l st.1) (round:=i) (st:=ctA l r t st i)
  simp only[ctA];omega
theorem a8o{l:List Int}{r:Rl}{t:Tm}{st:Nat×List Stm}(hp:st.1≤l.length):(ctI l r t st).1≤l.length:=by
 unfold ctI
 split<;>exact d9 (avz hp 2) _
theorem a5q{l:List Int}{r:Rl}{t:Tm}{st:Nat×List Stm}:(ctI l r t st).2.length≤st.2.length+131:=by
 have h:=ah5 (l:=l) (r:=r) (t:=t) (st:=st) 2
 unfold ctI
 split
 ·simp only[List.length_append,List.length_singleton];omega
 ·simp only;omega
theorem a27{l:List Int}{p:Nat}(hp:p≤l.length): ∀i,(ctS l p i).1≤l.length
 |0=>d9 hp _
 |i+1=>a8o (a27 hp i)
theorem ai1{l:List Int}{p:Nat}: ∀i,(ctS l p i).2.length≤131*i
 |0=>by simp[ctS]
 |i+1=>by
  have h1:=ai1 (l:=l) (p:=p) i
  have h2:=a5q (l:=l) (r:=dc l p) (t:=ctT l p) (st:=ctS l p i)
  simp only[ctS];omega
theorem a3g{l:List Int}{p:Nat}:ctN l p≤2:=by
 have b:=bm (l:=l) (p:=dgo l p 9) (n:=2) (by omega)
 unfold ctN
 omega
theorem a0s{n:Nat}(h1:1≤n):j8 (([0,1,2,3,4,5,6]:List Int).take n)=true:=by
 refine ahb (List.Pairwise.sublist (List.take_sublist _ _) (by decide)) (fun x hx=> ?_) (fun h=> ?_) ?_
 ·have:=List.mem_of_mem_take hx
  simp at this
  omega
 ·have h2:(([0,1,2,3,4,5,6]:List Int).take n).length=0:=by rw[h];rfl
  rw[List.length_take]at h2
  simp at h2
  omega
 ·rw[List.length_take]
  simp
  omega
theorem a2y{l:List Int}{p:Nat}:OkT (ctT l p):=by
 have h:=ak5 (we l p)
 have b1:=bm (l:=l) (p:=dgo l p 8) (n:=5) (by omega)
 exact⟨h.lo,h.hi,a0s (by omega),h.bea⟩
theorem aqt{l:List Int}{p:Nat}:3≤(ctT l p).ros.length∧(ctT l p).ros.length≤7:=by
 have b1:=bm (l:=l) (p:=dgo l p 8) (n:=5) (by omega)
 show 3≤(([0,1,2,3,4,5,6]:List Int).take _).length∧(([0,1,2,3,4,5,6]:List Int).take _).length≤7
 rw[List.length_take]
 show 3≤min _ 7∧min _ 7≤7
 omega
theorem atd(l:List Int)(p:Nat)(hl:big l.length)(hp:p≤l.length):Den Tryz.prog 10 [.ptr 1000000 0] [abr l p] (.tup [.agg (rl (dc l p)),.agg (tm (ctT l p)),.os 0 (ctF l p).2.length]) [.arr 60 13 false ((ctF l p).2.map sm)] [abr l (ctF l p).1]:=by
 refine ac Tryz.mixed Tryz.func10 rfl Tryz.call10 Tryz.ntmps10 (congrArg Array.toList Tryz.results10) (by simp) (by kernel_rfl) [120] (exts:=[1000000]) rfl rfl ?_
 obtain⟨z0,z1,z2⟩:=au9 l p
 have hp8:=d9 hp 8
 have hp9:=d9 hp 9
 have c1:=aoj l p hl hp
 have c2:=as4 (dc l p) (we l p) (by omega) (by omega) (by omega)
 have b1:=bm (l:=l) (p:=dgo l p 8) (n:=5) (by omega)
 have b2:=bm (l:=l) (p:=dgo l p 9) (n:=2) (by omega)
 have w1:IntKind.i64.wrap (3+ai l (dgo l p 8) 5)=3+ai l (dgo l p 8) 5:=by rw[ae]<;>omega
 have hT:tm (ctT l p)=[.int .i64 0,.vs ((([0,1,2,3,4,5,6]:List Int).take (3+ai l (dgo l p 8) 5).toNat).map i1),.str (qj (dc l p)),.bool false,.vs [],.vs []]:=rfl
 have ht0:tm (kj (dc l p))=[.int .i64 0,.vs ((dc l p).gen.map i1),.str (qj (dc l p)),.bool false,.vs [],.vs []]:=rfl
 rw[ht0,fk]at c2
 rw[fk]at c1
 rw[hT,fk]
 have htk: ∀k:Nat,List.take k [[PV.int IntKind.i64 0],[PV.int IntKind.i64 1],[PV.int IntKind.i64 2],[PV.int IntKind.i64 3],[PV.int IntKind.i64 4],[PV.int IntKind.i64 5],[PV.int IntKind.i64 6]]=List.map i1 (([0,1,2,3,4,5,6]:List Int).take k):=fun k=>by
  rw[List.map_take];rfl
 simp only[go_sem]
 refine call c1 [1000000] ?_
 simp only[go_sem]
 refine call c2 [] ?_
 simp only[go_sem]
 refine call (fe l (dgo l p 8) 5 hl hp8 (by omega)) [1000000] ?_
 simp only[go_sem,w1,dd]
 refine⟨⟨by omega,by omega⟩,?_⟩
 have w2:IntKind.i64.wrap (1+ai l (dgo l p 9) 2)=1+ai l (dgo l p 9) 2:=by rw[ae]<;>omega
 refine call (fe l (dgo l p 9) 2 hl hp9 (by omega)) [1000000] ?_
 simp only[go_sem,dd,htk,w2]
 have hn:1+ai l (dgo l p 9) 2=(ctN l p:Int):=by unfold ctN;omega
 have hnl:=a3g (l:=l) (p:=p)
 have hR2:rl (dc l p)=[.vs ((dc l p).gen.map i1),.vs ((dc l p).pol.se.map i1),.vs ((dc l p).pol.ta.map i1),.int .i64 (dc l p).pol.lv,.int .i64 (dc l p).seats,.int .i64 (dc l p).span,.int .i64 (dc l p).quota]:=rfl
 clear c1 c2 ht0 htk w1 w2 b1 b2
 rw[hn,←hR2,←hT]
 have hS0:ctS l p 0=(dgo l p 10,[]):=rfl
 have hS1: ∀i:Nat,ctS l p (i+1)=ctI l (dc l p) (ctT l p) (ctS l p i):=fun i=>rfl
 have hF:ctF l p=ctS l p (ctN l p):=rfl
 have hle:=a27 (l:=l) (p:=p) hp
 have hlen:=ai1 (l:=l) (p:=p)
 have hTl:=(aqt (l:=l) (p:=p)).2
 have sT2:=(a2y (l:=l) (p:=p)).bea
 clear hR2 hT
 generalize dc l p=R at*
 generalize ctT l p=T at*
 generalize ctF l p=Fm at*
 generalize ctS l p=Sf at*
 generalize ctN l p=n at*
 have sd3: ∀(C:Cs) (i:Nat),Den Tryz.prog 25 [.agg (rl R),.agg (tm T),.agg (cs {C with ro:=(i:Int)})] [] (.tup [.vs ((bp R T {C with ro:=(i:Int)}).1.map i1),.int .i64 (bp R T {C with ro:=(i:Int)}).2]) [] []:=
  fun C i=>adi R T _ (by simp only[big];omega) (by simp only[big];omega) (by simp only[big];omega) (by simp only[big];omega) (fun _=>sT2)
 refine cz 8 120 60 13 false ?_ ?_ ?_ (by omega)
 ·refine loop Tryz.mixed 0 (fun i:Nat=>[(0,.ptr 1000000 0),(2,.ptr 2 0),(3,.ptr 3 0),(5,.ptr 5 0),(6,.ptr 6 0),(8,.os 120 (Sf i).2.length),(9,.int .i64 ((n - i:Nat):Int))]) (fun i=>[(1000000,abr l (Sf i).1),(2,.cells [.nils,.nils,.nils,.int .i64 0,.int .i64 0,.int .i64 0,.int .i64 0]),(3,.cells [.int .i64 0,.nils,.str [],.bool false,.nils,.nils]),(5,.cells (rl R)),(6,.cells (tm T)),(120,.arr 60 13 false ((Sf i).2.map sm))]) (fun i=>i≤n) (fun i=>n - i) (by kernel_rfl) (Nat.zero_le _) ?_ ?_
  ·rw[hS0]
   simp only[go_sem,List.map_nil,List.length_nil]
   omega
  ·intro i hi
   by_cases h:i<n
   ·have hlt:(0:Int)<((n - i:Nat):Int):=by omega
    have hst:=hS1 i
    have hp:=hle i
    have hln:=hlen i
    generalize Sf i=S at*
    obtain⟨q,o⟩:=S
    dsimp only at hp hln
    have hq1:=d9 hp 1
    have hq2:=d9 hp 2
    have e0:ag6 l q=dgo l q 1:=rfl
    have hA0:ctA l R T (q,o) 0=(dgo l q 2,o++ctB l (q,o)):=rfl
    have hA1: ∀j:Nat,ctA l R T (q,o) (j+1)=a2e l R T (ctC l q) j (ctA l R T (q,o) j):=fun j=>rfl
    have hAe:=avz (l:=l) (r:=R) (t:=T) (st:=(q,o)) hp
    have hAl:=ah5 (l:=l) (r:=R) (t:=T) (st:=(q,o))
    have hB:ctB l (q,o)=if ai l (dgo l q 1) 2=1 then [gh (ctC l q).su 30 0 m7,gh (ctC l q).su 30 1 m7]else []:=rfl
    rw[ctI]at hst
    dsimp only at hAl hAe hst
    simp only[go_sem,hlt]
    refine call (fe l q 8 hl hp (by omega)) [1000000] ?_
    simp only[go_sem,e0]
    refine call (w4 l (dgo l q 1) 2 hl hq1 (by omega) (by omega)) [1000000] ?_
    have e2:ag6 l (dgo l q 1)=dgo l q 2:=rfl
    rw[show ai l q 8=(ctC l q).su from rfl]
    have hCe:(ctC l q).ep=0:=rfl
    have hCk:(ctC l q).kd=3:=rfl
    have c7:=un (ctC l q).su 30 0 m7 (by simp[m7]) rfl
    have c8:=un (ctC l q).su 30 1 m7 (by simp[m7]) rfl
    generalize ctC l q=C at*
    generalize ctA l R T (q,o)=Af at*
    generalize ctB l (q,o)=Bo at*
    cases hb:decide (ai l (dgo l q 1) 2=2 - 1)
    case' false=>
     have hcc: ¬ai l (dgo l q 1) 2=1:=of_decide_eq_false hb
     rw[if_neg hcc]at hB
     subst hB
     rw[List.append_nil]at hA0
     clear hb hcc c7 c8
     simp only[go_sem,e2]
    case' true=>
     have hcc:ai l (dgo l q 1) 2=1:=of_decide_eq_true hb
     rw[if_pos hcc]at hB
     subst hB
     clear hb hcc
     generalize gh C.su 30 0 m7=v0 at*
     generalize gh C.su 30 1 m7=v1 at*
     rw[aru]at c7 c8
     simp only[go_sem,e2]
     refine call c7 [] ?_
     simp only[go_sem]
     refine⟨⟨rfl,rfl,rfl,rfl,rfl,rfl⟩,call c8 [] ?_⟩
     simp only[go_sem]
     refine⟨⟨rfl,rfl,rfl,rfl,rfl,rfl⟩,by omega,aa (by kernel_rfl),?_⟩
    all_goals
     refine loop Tryz.mixed 0 (fun j:Nat=>[(0,.ptr 1000000 0),(2,.ptr 2 0),(3,.ptr 3 0),(5,.ptr 5 0),(6,.ptr 6 0),(8,.os 120 (Af j).2.length),(9,.int .i64 ((n - i:Nat):Int)),(10,.ptr 10 0),(11,.int .i64 j)]) (fun j=>[(1000000,abr l (Af j).1),(2,.cells [.nils,.nils,.nils,.int .i64 0,.int .i64 0,.int .i64 0,.int .i64 0]),(3,.cells [.int .i64 0,.nils,.str [],.bool false,.nils,.nils]),(5,.cells (rl R)),(6,.cells (tm T)),(10,.cells [.int .i64 0,.int .i64 C.kd,.int .i64 C.su,.int .i64 ((j - 1:Nat):Int)]),(120,.arr 60 13 false ((Af j).2.map sm))]) (fun j=>j≤2) (fun j=>2 - j) (by kernel_rfl) (Nat.zero_le _) ?_ ?_
     ·rw[hA0]
      simp only[go_sem,List.map_append,List.map_cons,List.map_nil]
      exact hCk.symm
     ·intro j hj
      by_cases hj2:j<2
      ·have hjlt:(j:Int)<2:=by omega
       have hst2:=hA1 j
       have hp2:=hAe j
       have hln2:=hAl j
       generalize Af j=S2 at*
       obtain⟨q2,o2⟩:=S2
       dsimp only at hp2 hln2
       have hK:cs {C with ro:=(j:Int)}=[.int .i64 0,.int .i64 C.kd,.int .i64 C.su,.int .i64 j]:=by rw[bf,hCe]
       have c3:=sd3 C j
       have c4:=ai4 l q2 {C with ro:=(j:Int)} hl hp2
       have hxo:=ay9 l q2 {C with ro:=(j:Int)}
       have hyo:=amd hp2 {C with ro:=(j:Int)}
       have sl:=q5 R T {C with ro:=(j:Int)}
       rw[a2e]at hst2
       have hj1:((j+1 - 1:Nat):Int)=(j:Int):=by omega
       generalize hKK:({C with ro:=(j:Int)}:Cs)=K at*
       generalize bp R T K=SS at*
       obtain⟨s,k⟩:=SS
       dsimp only at c3 hst2 sl
       generalize kg l q2 K=X at*
       obtain⟨x,q3⟩:=X
       dsimp only at c4 hst2 hxo hyo
       rw[fk,lk,hK]at c3
       rw[hK,iu]at c4
       simp only[go_sem,hjlt]
       refine call c3 [] ?_
       by_cases hk:k=0
       rotate_left
       ·rw[if_pos hk]at hst2
        simp only[go_sem,hk]
        refine⟨j+1,⟨by omega,by omega⟩,?_⟩
        rw[hst2]
        exact⟨⟨rfl,by rw[ae]<;>omega⟩,rfl,hj1.symm,rfl⟩
       ·rw[if_neg (by simpa using hk)]at hst2
        have cv:=fun au nu=>axq au nu K x hxo
        rw[hK,iu]at cv
        have hG0:ak6 l K x s (10+(j:Int)) q3 o2 0=(q3,o2):=rfl
        have hG1: ∀m:Nat,ak6 l K x s (10+(j:Int)) q3 o2 (m+1)=(dgo l (ak6 l K x s (10+(j:Int)) q3 o2 m).1 1,(ak6 l K x s (10+(j:Int)) q3 o2 m).2++(if ai l (ak6 l K x s (10+(j:Int)) q3 o2 m).1 9=8 then []else [vt (el s m) (10+(j:Int)) K x])):=fun m=>rfl
        have hGe:=ajg (l:=l) (k:=K) (x:=x) (seats:=s) (round:=10+(j:Int)) (p:=q3) (o:=o2) hyo
        have hGl:=abx (l:=l) (k:=K) (x:=x) (seats:=s) (round:=10+(j:Int)) (p:=q3) (o:=o2)
        generalize ak6 l K x s (10+(j:Int)) q3 o2=G at*
        simp only[go_sem,hk]
        refine call c4 [1000000] ?_
        simp only[go_sem]
        refine loop Tryz.mixed 0 (fun m:Nat=>[(0,.ptr 1000000 0),(2,.ptr 2 0),(3,.ptr 3 0),(5,.ptr 5 0),(6,.ptr 6 0),(8,.os 120 (G m).2.length),(9,.int .i64 ((n - i:Nat):Int)),(10,.ptr 10 0),(11,.int .i64 j),(12,.vs (s.map i1)),(14,.ptr 14 0),(15,.int .i64 m)]) (fun m=>[(1000000,abr l (G m).1),(2,.cells [.nils,.nils,.nils,.int .i64 0,.int .i64 0,.int .i64 0,.int .i64 0]),(3,.cells [.int .i64 0,.nils,.str [],.bool false,.nils,.nils]),(5,.cells (rl R)),(6,.cells (tm T)),(10,.cells [.int .i64 0,.int .i64 C.kd,.int .i64 C.su,.int .i64 j]),(14,.cells (ct x)),(120,.arr 60 13 false ((G m).2.map sm))]) (fun m=>m≤s.length) (fun m=>s.length - m) (by kernel_rfl) (Nat.zero_le _) ?_ ?_
        ·rw[hG0]
         simp only[go_sem]
        ·intro m hm
         by_cases hm':m<s.length
         ·have hmlt:(m:Int)<(s.length:Int):=by omega
          have hstep:=hG1 m
          have hqe:=hGe m
          have hql:=hGl m
          generalize G m=g at*
          obtain⟨q4,o4⟩:=g
          dsimp only at hqe hql hstep
          simp only[go_sem,hmlt]
          refine call (w4 l q4 9 hl hqe (by omega) (by omega)) [1000000] ?_
          have e1:ag6 l q4=dgo l q4 1:=rfl
          cases hb:decide (ai l q4 9=9 - 1)
          ·have hcc: ¬ai l q4 9=8:=of_decide_eq_false hb
           rw[if_neg hcc]at hstep
           have cv:=cv (el s m) (10+(j:Int))
           generalize vt (el s m) (10+(j:Int)) K x=v at*
           have w10:IntKind.i64.wrap (10+(j:Int))=10+(j:Int):=by rw[ae]<;>omega
           simp only[go_sem,e1,hm',w10]
           refine call cv [] ?_
           simp only[go_sem]
           refine⟨by omega,aa (by kernel_rfl),m+1,⟨by omega,by omega⟩,?_⟩
           rw[hstep]
           exact⟨⟨by simp,by rw[ae]<;>omega⟩,rfl,by rw[List.map_append];rfl⟩
          ·have hcc:ai l q4 9=8:=of_decide_eq_true hb
           rw[if_pos hcc,List.append_nil]at hstep
           simp only[go_sem,e1]
           refine⟨m+1,⟨by omega,by omega⟩,?_⟩
           rw[hstep]
           exact⟨⟨rfl,by rw[ae]<;>omega⟩,rfl,rfl⟩
         ·have hmm:m=s.length:=by omega
          subst hmm
          have hmlt: ¬(s.length:Int)<(s.length:Int):=by omega
          simp only[go_sem,hmlt]
          refine⟨j+1,⟨by omega,by omega⟩,?_⟩
          rw[hst2]
          exact⟨⟨rfl,by rw[ae]<;>omega⟩,rfl,hj1.symm,rfl⟩
      ·have:j=2:=by omega
       subst this
       have hjlt: ¬((2:Nat):Int)<2:=by omega
       have hp2:=hAe 2
       have hln2:=hAl 2
       generalize Af 2=S2 at*
       obtain⟨q2,o2⟩:=S2
       dsimp only at hp2 hln2 hst
       simp only[go_sem,hjlt]
       refine call (w4 l q2 2 hl hp2 (by omega) (by omega)) [1000000] ?_
       have e1:ag6 l q2=dgo l q2 1:=rfl
       have hq3:=d9 hp2 1
       have hsb:IntKind.i64.wrap (((n - i:Nat):Int) - 1)=((n - (i+1):Nat):Int):=by rw[ae]<;>omega
       cases hb:decide (ai l q2 2=2 - 1)
       ·have hcc: ¬ai l q2 2=1:=of_decide_eq_false hb
        rw[if_neg hcc]at hst
        simp only[go_sem,e1]
        refine⟨i+1,⟨by omega,by omega⟩,?_⟩
        rw[hst]
        exact⟨⟨rfl,hsb⟩,rfl,rfl⟩
       ·have hcc:ai l q2 2=1:=of_decide_eq_true hb
        rw[if_pos hcc]at hst
        simp only[go_sem,e1]
        refine call (fe l (dgo l q2 1) 8 hl hq3 (by omega)) [1000000] ?_
        have c6:=ago (ai l (dgo l q2 1) 8) 20 0 (apD C) (a3u C)
        rw[aru]at c6
        simp only[apD,hCe]at c6 hst
        generalize gh (ai l (dgo l q2 1) 8) 20 0 ⟨15,0,C.kd,C.su,[],[]⟩=v at*
        simp only[go_sem,dd]
        refine call c6 [] ?_
        simp only[go_sem]
        refine⟨by omega,aa (by kernel_rfl),i+1,⟨by omega,by omega⟩,?_⟩
        rw[hst]
        exact⟨⟨by simp,hsb⟩,rfl,by rw[List.map_append];rfl⟩
   ·have:i=n:=by omega
    subst this
    have hlt: ¬(0:Int)<((i - i:Nat):Int):=by omega
    rw[←hF]
    simp only[go_sem,hlt]
    exact aa (by kernel_rfl)
 ·simp only[go_sem]
 ·simp only[go_sem]
def mpS(r seats:List Int):List (PV×PV):=r.map fun k=>(.int .i64 k,.bool (decide (k∈seats)))
theorem fm(r seats:List Int): ∀e∈mpS r seats,noH e.2:=fun e he=>by
 obtain⟨k,_,rfl⟩:=List.mem_map.1 he
 exact .bool _
theorem auq(d:List Nat): ∀r seats:List Int,a0y d (mpS r seats)=true
 |[],_=>rfl
 |a::r,seats=>by
  have ih:=auq d r seats
  unfold mpS at ih ⊢
  simp only[List.map_cons,a0y,ih,Bool.and_true]
  rfl
theorem aza(r seats:List Int):aln (.mp (mpS r seats))=True:=eq_true (fm r seats)
attribute [go_sem] auq aza
theorem ak2(k:Int): ∀(r seats:List Int) (i:Nat),gj (.int .i64 k) (mpS r seats) i=some ((r.findIdx? fun x=>decide (x=k)).map (· +i))
 |[],_,_=>by simp[mpS,gj]
 |a::r,seats,i=>by
  have ih:=ak2 k r seats (i+1)
  unfold mpS at ih ⊢
  simp only[List.map_cons,gj,x4,List.findIdx?_cons]
  by_cases h:a=k
  ·subst h
   simp
  ·have h': ¬k=a:=fun e=>h e.symm
   simp only[h,h',decide_false]
   rw[ih]
   cases List.findIdx? (fun x=>decide (x=k)) r<;>simp[Nat.add_comm,Nat.add_left_comm]
theorem ama(k:Int)(r seats:List Int):(k∉r∧gj (.int .i64 k) (mpS r seats) 0=some none)∨∃i,gj (.int .i64 k) (mpS r seats) 0=some (some i)∧(mpS r seats).getD i (.undef,.undef)=(.int .i64 k,.bool (decide (k∈seats)))∧k∈r:=by
 have hf:=ak2 k r seats 0
 cases hi:r.findIdx? (fun x=>decide (x=k))with
 |none=>
  rw[hi]at hf
  refine .inl ⟨fun h=> ?_,hf⟩
  rw[List.findIdx?_eq_none_iff]at hi
  have:=hi k h
  simp at this
 |some i=>
  rw[hi]at hf
  obtain⟨h1,h2,_⟩:=List.findIdx?_eq_some_iff_getElem.1 hi
  have h3:r[i]=k:=of_decide_eq_true h2
  have h5:(mpS r seats)[i]? =some (.int .i64 k,.bool (decide (k∈seats))):=by
   unfold mpS
   rw[List.getElem?_map,List.getElem?_eq_getElem h1,Option.map_some,h3]
  refine .inr ⟨i,hf,?_,List.mem_of_getElem? (by rw[List.getElem?_eq_getElem h1,h3]:r[i]? =some k)⟩
  exact(List.getD_eq_getElem?_getD).trans (congrArg (fun o=>Option.getD o _) h5)
theorem vi(k:Int)(r seats:List Int)(hr: ∀k∈seats,k∈r):Den Tryz.prog 38 [.int .i64 k,.ptr 1000000 0] [.cells [.mh 1000001],.mp (mpS r seats)] (.bool (!decide (k∈seats))) [] [.cells [.mh 1000001],.mp (mpS r seats)]:=by
 rcases ama k r seats with ⟨hn0,hf⟩|⟨i,hf,h4,_⟩
 ·have hn:k∉seats:=fun h=>hn0 (hr k h)
  refine rg Tryz.mixed Tryz.func38 rfl Tryz.call38 Tryz.ntmps38 (congrArg Array.toList Tryz.results38) (by simp) (by kernel_rfl) [] (fm r seats) [] 1000000 1000001 [] (exts:=[1000000,1000001]) rfl rfl rfl rfl ?_
  simp only[go_sem,hf,au0,hn]
  done
 ·refine rg Tryz.mixed Tryz.func38 rfl Tryz.call38 Tryz.ntmps38 (congrArg Array.toList Tryz.results38) (by simp) (by kernel_rfl) [] (fm r seats) [] 1000000 1000001 [] (exts:=[1000000,1000001]) rfl rfl rfl rfl ?_
  simp only[go_sem,hf,au0,h4]
  done
theorem ahl(l r seats:List Int)(hl:big l.length)(hr: ∀k∈seats,k∈r)(h: ∀k∈l,k∈seats):
  Den Tryz.prog 57 [.os 1000000 l.length,.fn 38 [.ptr 1000001 0]] [.arr 3 1 false (l.map i1),.cells [.mh 1000002],.mp (mpS r seats)] (.int .i64 (-1)) [] [.arr 3 1 false (l.map i1),.cells [.mh 1000002],.mp (mpS r seats)]:=by
 refine rg Tryz.mixed Tryz.func57 rfl Tryz.call57 Tryz.ntmps57 (congrArg Array.toList Tryz.results57) (by simp) (by kernel_rfl) [] (fm r seats) [1000000] 1000001 1000002 [.arr 3 1 false (l.map i1)] (exts:=[1000000,1000001,1000002]) rfl rfl rfl rfl ?_
 simp only[go_sem]
 refine loop Tryz.mixed 0 (fun i:Nat=>[(0,.os 1000000 l.length),(1,.fn 38 [.ptr 1000001 0]),(7,.int .i64 l.length),(8,.int .i64 i)]) (fun _=>[(1000000,.arr 3 1 false (l.map i1)),(1000001,.cells [.mh 1000002]),(1000002,.mp (mpS r seats))]) (fun i=>i≤l.length) (fun i=>l.length - i) (by kernel_rfl) (Nat.zero_le _) ?_ ?_
 ·simp only[go_sem]
 ·intro i hi
  by_cases hlt:i<l.length
  ·have h1:(i:Int)<(l.length:Int):=by omega
   have c1:=vi (el l i) r seats hr
   rw[decide_eq_true (h _ (ar hlt))]at c1
   simp only[go_sem,h1,hlt]
   refine afv c1 (fm r seats) [] [] [] 1000001 1000002 [1000001,1000002] rfl rfl rfl ?_
   simp only[go_sem]
   exact⟨i+1,⟨by omega,by omega⟩,by rw[ae]<;>omega⟩
  ·have h1: ¬(i:Int)<(l.length:Int):=by omega
   simp only[go_sem,h1]
theorem ah0(l r seats:List Int)(hl:big l.length)(hr: ∀k∈seats,k∈r){k0:Nat}(h0:k0<l.length)(h1:el l k0∉seats)(h: ∀j,j<k0→el l j∈seats):
  Den Tryz.prog 57 [.os 1000000 l.length,.fn 38 [.ptr 1000001 0]] [.arr 3 1 false (l.map i1),.cells [.mh 1000002],.mp (mpS r seats)] (.int .i64 k0) [] [.arr 3 1 false (l.map i1),.cells [.mh 1000002],.mp (mpS r seats)]:=by
 refine rg Tryz.mixed Tryz.func57 rfl Tryz.call57 Tryz.ntmps57 (congrArg Array.toList Tryz.results57) (by simp) (by kernel_rfl) [] (fm r seats) [1000000] 1000001 1000002 [.arr 3 1 false (l.map i1)] (exts:=[1000000,1000001,1000002]) rfl rfl rfl rfl ?_
 simp only[go_sem]
 refine loop Tryz.mixed 0 (fun i:Nat=>[(0,.os 1000000 l.length),(1,.fn 38 [.ptr 1000001 0]),(7,.int .i64 l.length),(8,.int .i64 i)]) (fun _=>[(1000000,.arr 3 1 false (l.map i1)),(1000001,.cells [.mh 1000002]),(1000002,.mp (mpS r seats))]) (fun i=>i≤k0) (fun i=>l.length - i) (by kernel_rfl) (Nat.zero_le _) ?_ ?_
 ·simp only[go_sem]
 ·intro i hi
  have hlt:i<l.length:=by omega
  have g1:(i:Int)<(l.length:Int):=by omega
  have c1:=vi (el l i) r seats hr
  by_cases hk:i<k0
  ·rw[decide_eq_true (h _ hk)]at c1
   simp only[go_sem,g1,hlt]
   refine afv c1 (fm r seats) [] [] [] 1000001 1000002 [1000001,1000002] rfl rfl rfl ?_
   simp only[go_sem]
   exact⟨i+1,⟨by omega,by omega⟩,by rw[ae]<;>omega⟩
  ·obtain rfl:i=k0:=by omega
   rw[decide_eq_false h1]at c1
   simp only[go_sem,g1,hlt]
   refine afv c1 (fm r seats) [] [] [] 1000001 1000002 [1000001,1000002] rfl rfl rfl ?_
   simp only[go_sem]
theorem afu(l r seats:List Int)(hl:big l.length)(hr: ∀k∈seats,k∈r){k0:Nat}(h0:k0<l.length)(h1:el l k0∉seats)(h: ∀j,j<k0→el l j∈seats):
  Den Tryz.prog 36 [.os 1000000 l.length,.fn 38 [.ptr 1000001 0]] [.arr 3 1 false (l.map i1),.cells [.mh 1000002],.mp (mpS r seats)] (.vs ((inS seats l l.length).map i1)) [] [.arr 3 1 true ((inS seats l l.length).map i1++List.replicate (l.length - (inS seats l l.length).length) zI),.cells [.mh 1000002],.mp (mpS r seats)]:=by
 refine rg Tryz.mixed Tryz.func36 rfl Tryz.call36 Tryz.ntmps36 (congrArg Array.toList Tryz.results36) (by simp) (by kernel_rfl) [] (fm r seats) [1000000] 1000001 1000002 [.arr 3 1 true ((inS seats l l.length).map i1++List.replicate (l.length - (inS seats l l.length).length) zI)] (exts:=[1000000,1000001,1000002]) rfl rfl rfl rfl ?_
 have ci:=ah0 l r seats hl hr h0 h1 h
 have hm1: ¬(k0:Int)= -1:=by omega
 have hw0:IntKind.i64.wrap ((k0:Int)+1)=((k0+1:Nat):Int):=by rw[ae]<;>omega
 have hk0:inS seats l (k0+1)=l.take k0:=by
  rw[aml h0,decide_eq_false h1,if_neg (by simp),List.append_nil,a7j h (by omega)]
 have hk1:(l.take k0).length=k0:=by rw[List.length_take];omega
 simp only[go_sem]
 refine afv ci (fm r seats) [.arr 3 1 false (l.map i1)] [.arr 3 1 false (l.map i1)] [1000000] 1000001 1000002 [1000000,1000001,1000002] rfl rfl rfl ?_
 simp only[go_sem,hm1,hw0]
 refine⟨⟨rfl,Nat.le_refl _⟩,?_⟩
 refine xl Tryz.mixed (k0+1,l) (fun s:Nat×List Int=>[(0,.os 1000000 l.length),(1,.fn 38 [.ptr 1000001 0]),(5,.int .i64 (inS seats l s.1).length),(6,.int .i64 s.1)]) (fun s=>[(1000000,.arh 3 1 (s.2.map i1)),(1000001,.cells [.mh 1000002]),(1000002,.mp (mpS r seats))])
  (fun s=>k0<s.1∧s.1≤l.length∧s.2.length=l.length∧(inS seats l s.1).length<s.1∧s.2.take (inS seats l s.1).length=inS seats l s.1∧∀a,(inS seats l s.1).length≤a→el s.2 a=el l a) (fun s=>l.length - s.1) (by kernel_rfl) ⟨Nat.lt_succ_self _,h0,rfl,by rw[hk0,hk1];exact Nat.lt_succ_self _,by rw[hk0,hk1],fun a _=>rfl⟩ ?_ ?_
 ·refine Cv.trans (Cv.opn (n:=1000000) (by rfl)) (Cv.wk ?_)
  have hin:=bi [1000000,1000001,1000002] i1 (fun _=>rfl) l
  simp only[go_sem,hin,hk0,hk1]
 ·rintro⟨j,L⟩ ⟨j1,j2,j3,j4,j5,j6⟩
  simp only at j1 j2 j3 j4 j5 j6
  simp only
  by_cases hlt:j<l.length
  ·have g1:(j:Int)<(l.length:Int):=by omega
   have hsu:=aml (seats:=seats) hlt
   have e1:el L j=el l j:=j6 _ (by omega)
   have g2:j<L.length:=by omega
   have c1:=vi (el l j) r seats hr
   generalize inS seats l j=o at*
   cases hd:decide (el l j∈seats)with
   |false=>
    rw[hd,if_neg (by simp),List.append_nil]at hsu
    rw[hd]at c1
    simp only[go_sem,g1,g2,hlt,j3,e1]
    refine afv c1 (fm r seats) [] [] [] 1000001 1000002 [1000001,1000002] rfl rfl rfl ?_
    simp only[go_sem]
    refine⟨(j+1,L),⟨⟨by simp only;omega,by simp only;omega,j3,?_,?_,?_⟩,by simp only;omega⟩,Cv.wk ?_⟩
    ·show(inS seats l (j+1)).length<_
     rw[hsu];simp only;omega
    ·show L.take (inS seats l (j+1)).length=inS seats l (j+1)
     rw[hsu];exact j5
    ·intro a ha
     have ha':(inS seats l (j+1)).length≤a:=ha
     rw[hsu]at ha'
     exact j6 a ha'
    ·have hin:=bi [1000000,1000001,1000002] i1 (fun _=>rfl) L
     simp only[go_sem,hsu,hin]
     rw[ae]<;>omega
   |true=>
    rw[hd,if_pos rfl]at hsu
    rw[hd]at c1
    have g8:o.length<l.length:=by omega
    have g9:o.length<L.length:=by omega
    simp only[go_sem,g1,g2,g8,g9,hlt,j3,e1]
    refine afv c1 (fm r seats) [] [] [] 1000001 1000002 [1000001,1000002] rfl rfl rfl ?_
    simp only[go_sem,g1,g2,g8,g9,hlt,j3,e1]
    refine⟨(j+1,L.set o.length (el l j)),⟨⟨by simp only;omega,by simp only;omega,by simp only[List.length_set];exact j3,?_,?_,?_⟩,by simp only;omega⟩,Cv.wk ?_⟩
    ·show(inS seats l (j+1)).length<_
     rw[hsu,List.length_append,List.length_singleton];simp only;omega
    ·show(L.set o.length (el l j)).take (inS seats l (j+1)).length=inS seats l (j+1)
     rw[hsu];exact uk (by omega) j5
    ·intro a ha
     have ha':(inS seats l (j+1)).length≤a:=ha
     rw[hsu,List.length_append,List.length_singleton]at ha'
     show el (L.set o.length _) a=_
     rw[al9 (by omega)]
     exact j6 a (by omega)
    ·have hin:=bi [1000000,1000001,1000002] i1 (fun _=>rfl) (L.set o.length (el l j))
     have hset:(L.map i1).set o.length [PV.int .i64 (el l j)]=(L.set o.length (el l j)).map i1:=by rw[List.map_set];rfl
     have hol:(o++[el l j]).length=o.length+1:=by simp
     simp only[go_sem,hsu,hset,hin,hol]
     exact⟨by rw[ae]<;>omega,by rw[ae]<;>omega⟩
  ·have hend:j=l.length:=by omega
   subst hend
   generalize hO:inS seats l l.length=o at*
   have g2: ¬(l.length:Int)<(l.length:Int):=by omega
   have g3:(o.length:Int)≤(l.length:Int):=by omega
   have htk:(L.map i1).take o.length=o.map i1:=by rw[←List.map_take,j5]
   have hpu: ∀σ,jp σ (o.map i1++List.replicate (l.length - o.length) zI)=some (o.map i1++List.replicate (l.length - o.length) zI,[]):=fun σ=>p5 fun x hx=>by
    rcases List.mem_append.1 hx with hx|hx
    ·obtain⟨c,_,rfl⟩:=List.mem_map.1 hx
     rfl
    ·rw[List.eq_of_mem_replicate hx]
     rfl
   have g5:(o.map i1++List.replicate (l.length - o.length) zI).length=l.length:=by simp;omega
   have g6:(o.map i1++List.replicate (l.length - o.length) zI).take o.length=o.map i1:=by simp
   have g7:o.length<l.length:=by omega
   have g8:o.length≤l.length:=by omega
   simp only[go_sem,g2,j3]
   refine ln _ _ ?_
   simp only[go_sem,g2,g3,j3,htk,g7,g8,←bcp,hpu,g5,g6]
theorem agv(l r seats:List Int)(hl:big l.length)(hr: ∀k∈seats,k∈r)(h: ∀k∈l,k∈seats):
  Den Tryz.prog 36 [.os 1000000 l.length,.fn 38 [.ptr 1000001 0]] [.arr 3 1 false (l.map i1),.cells [.mh 1000002],.mp (mpS r seats)] (.os 1000000 l.length) [] [.arr 3 1 false (l.map i1),.cells [.mh 1000002],.mp (mpS r seats)]:=by
 refine rg Tryz.mixed Tryz.func36 rfl Tryz.call36 Tryz.ntmps36 (congrArg Array.toList Tryz.results36) (by simp) (by kernel_rfl) [] (fm r seats) [1000000] 1000001 1000002 [.arr 3 1 false (l.map i1)] (exts:=[1000000,1000001,1000002]) rfl rfl rfl rfl ?_
 have ci:=ahl l r seats hl hr h
 simp only[go_sem]
 refine afv ci (fm r seats) [.arr 3 1 false (l.map i1)] [.arr 3 1 false (l.map i1)] [1000000] 1000001 1000002 [1000000,1000001,1000002] rfl rfl rfl ?_
 simp only[go_sem]
 exact⟨rfl,Nat.le_refl _⟩
theorem ag9(l r seats:List Int)(hl:big l.length)(hr: ∀k∈seats,k∈r):
  ∃new,new.length=l.length∧Den Tryz.prog 36 [.os 1000000 l.length,.fn 38 [.ptr 1000001 0]] [.arr 3 1 false (l.map i1),.cells [.mh 1000002],.mp (mpS r seats)] (.vs ((l.filter fun k=>decide (k∈seats)).map i1)) [] [.arr 3 1 true new,.cells [.mh 1000002],.mp (mpS r seats)]:=by
 have e:inS seats l l.length=l.filter fun k=>decide (k∈seats):=by rw[inS,List.take_length]
 rcases aqq seats l with h|⟨k0,h0,h1,h2⟩
 ·have e2:(l.filter fun k=>decide (k∈seats))=l:=List.filter_eq_self.2 fun k hk=>decide_eq_true (h k hk)
  rw[e2]
  exact⟨_,by simp,(agv l r seats hl hr h).vsE (by simp)⟩
 ·rw[←e]
  exact⟨_,by have:=a4l seats l l.length;simp;omega,afu l r seats hl hr h0 h1 h2⟩
def jo(r:Rl)(L:List Stm)(t:Tm):List Int:=t.ros.filter fun k=>oe r L t 3 k
theorem mc{r:Rl}{L:List Stm}{t:Tm}{k:Int}:k∈jo r L t↔k∈t.ros∧oe r L t 3 k=true:=by
 simp[jo,List.mem_filter]
def mpB(f:Int→Bool)(r:List Int):List (PV×PV):=r.map fun k=>(.int .i64 k,.bool (f k))
theorem atv(d:List Nat)(f:Int→Bool): ∀r:List Int,a0y d (mpB f r)=true
 |[]=>rfl
 |a::r=>by
  have ih:=atv d f r
  unfold mpB at ih ⊢
  simp only[List.map_cons,a0y,ih,Bool.and_true]
  rfl
theorem atc(σ:ASt)(f:Int→Bool): ∀r:List Int,axg σ (mpB f r)=some (mpB f r,[])
 |[]=>rfl
 |a::r=>by
  have ih:=atc σ f r
  unfold mpB at ih ⊢
  simp only[List.map_cons,axg,ih]
  rfl
attribute [go_sem] atv atc
theorem amk(f:Int→Bool)(k:Int): ∀(r:List Int) (i:Nat),k∉r→gj (.int .i64 k) (mpB f r) i=some none
 |[],_,_=>rfl
 |a::r,i,h=>by
  have ih:=amk f k r (i+1) fun h1=>h (by simp[h1])
  have hne: ¬k=a:=fun e=>h (by simp[e])
  unfold mpB at ih ⊢
  simp only[List.map_cons,gj,x4,hne,decide_false]
  exact ih
theorem bcy(r:Rl)(L:List Stm)(t:Tm):mpB (fun k=>oe r L t 3 k) t.ros=mpS t.ros (jo r L t):=by
 unfold mpB mpS
 refine List.map_congr_left fun k hk=> ?_
 rw[show decide (k∈jo r L t)=oe r L t 3 k by
  rw[Bool.eq_iff_iff,decide_eq_true_iff,mc]
  exact⟨fun h=>h.2,fun h=>⟨hk,h⟩⟩]
theorem a4n(x:Ct)(hx:l4 x):Den Tryz.prog 56 [.agg (ct x)] [] (.bool (decide (x.li=[1]))) [] []:=by
 refine ac Tryz.mixed Tryz.func56 rfl Tryz.call56 Tryz.ntmps56 (congrArg Array.toList Tryz.results56) (by simp) (by kernel_rfl) [] (exts:=[]) rfl rfl ?_
 have ce:=apj x.li [1] hx.1 (by simp[big])
 simp only[go_sem]
 refine call ce [] ?_
 simp only[go_sem]
theorem akv(t:Tm)(k:Int):Den Tryz.prog 43 [.agg (tm t),.int .i64 k] [] (.agg (cs (iv t 3 k))) [] []:=by
 refine ac Tryz.mixed Tryz.func43 rfl Tryz.call43 Tryz.ntmps43 (congrArg Array.toList Tryz.results43) (by simp) (by kernel_rfl) [] (exts:=[]) rfl rfl ?_
 simp only[go_sem,iv]
theorem ml(r:Rl)(L:List Stm)(t:Tm)(hr:d6 r=0)(ht:OkT t)(hB:RlB r)(hL:L.length≤900)(hs: ∀s∈L,jm s)(hp: ∀s∈L,plS s):Den Tryz.prog 35 [.agg (rl r),.vs (L.map sm),.agg (tm t)] [] (.tup [.mh 0,.int .i64 0]) [.mp (mpS t.ros (jo r L t))] []:=by
 refine ac Tryz.mixed Tryz.func35 rfl Tryz.call35 Tryz.ntmps35 (congrArg Array.toList Tryz.results35) (by simp) (by kernel_rfl) [24] (exts:=[]) rfl rfl ?_
 have c1:=ava r (by have:=hB.g;simp only[big];omega) (by have:=hB.s;simp only[big];omega) (by have:=hB.t;simp only[big];omega)
 have hlen:=ht.len
 have hbT:big t.ros.length:=by simp only[big];omega
 have c2:=nz t.ros hbT
 rw[hr]at c1
 rw[ht.ros]at c2
 have hz:a4j t=0:=by
  unfold a4j
  rw[if_pos ⟨ht.lo,ht.hi⟩,if_pos ht.bea]
 obtain⟨hpw,hrng,_,_⟩:=jf ht.ros
 have c3:=fun k:Int=>ayf r L t (iv t 3 k) hB hbT hL hs (wh hp) (wh hp)
 have he:=fun(k:Int) (hk:k∈t.ros)=>(a6z (L:=L) (k:=k) (kd:=3) hr ht.ros (hrng k hk) (by omega)).trans hz
 have hb:=fun k:Int=>az9 (r:=r) (L:=L) (t:=t) (c:=iv t 3 k)
 have hS: ∀k:Int,oe r L t 3 k=((aax r L t (iv t 3 k)).2.1&&decide ((aax r L t (iv t 3 k)).1.li=[1])):=fun k=>rfl
 have c4:=fun k:Int=>akv t k
 rw[←bcy]
 have hnew: ∀i,i<t.ros.length→el t.ros i∉t.ros.take i:=fun i hi h=>by
  obtain⟨j,hj,hje⟩:=List.mem_iff_getElem.1 h
  rw[List.getElem_take]at hje
  have hj2:j<i:=by rw[List.length_take]at hj;omega
  have:=List.pairwise_iff_getElem.1 hpw j i (by omega) hi hj2
  rw[hje]at this
  simp[el,List.getD_eq_getElem?_getD,List.getElem?_eq_getElem hi]at this
 have hmp: ∀i,i<t.ros.length→mpB (fun k=>oe r L t 3 k) (t.ros.take (i+1))=mpB (fun k=>oe r L t 3 k) (t.ros.take i)++[(.int .i64 (el t.ros i),.bool (oe r L t 3 (el t.ros i)))]:=fun i hi=>by
  unfold mpB
  rw[bd hi,List.map_append]
  rfl
 have hfd:=fun i hi=>amk (fun k=>oe r L t 3 k) (el t.ros i) (t.ros.take i) 0 (hnew i hi)
 generalize hf:(fun k=>oe r L t 3 k)=f at*
 have hfk: ∀k,oe r L t 3 k=f k:=fun k=>congrFun hf k
 simp only[hfk]at hS hmp
 rw[fk]at c1
 simp only[fk,lk,bf,iu]at c3 c4
 simp only[go_sem]
 refine call c1 [] ?_
 simp only[go_sem]
 refine call c2 [] ?_
 simp only[go_sem]
 refine loop Tryz.mixed (0:Nat) (fun i:Nat=>[(1,.vs (L.map sm)),(3,.ptr 3 0),(5,.ptr 5 0),(9,.mh 24),(26,.vs (t.ros.map i1)),(27,.int .i64 t.ros.length),(28,.int .i64 i)]) (fun i=>[(3,.cells (rl r)),(5,.cells (tm t)),(24,.mp (mpB f (t.ros.take i)))]) (fun i=>i≤t.ros.length) (fun i=>t.ros.length - i) (by kernel_rfl) (Nat.zero_le _) ?_ ?_
 ·simp only[go_sem,mpB,List.map_nil]
  done
 ·intro i hi
  by_cases h:i<t.ros.length
  ·have hlt:(i:Int)<(t.ros.length:Int):=by omega
   have hk:=ar h
   have hm:=hmp i h
   have hfd:=hfd i h
   have c3:=c3 (el t.ros i)
   have c4:=c4 (el t.ros i)
   have he:=he _ hk
   have hb:=hb (el t.ros i)
   have hS:=hS (el t.ros i)
   generalize aax r L t (iv t 3 (el t.ros i))=O at*
   obtain⟨x,ok,e⟩:=O
   dsimp only at c3 he hb hS
   subst he
   simp only[iv]at c3 c4
   have cy:=a4n x hb
   rw[iu]at cy
   simp only[go_sem,hlt,h]
   refine call c4 [] ?_
   simp only[go_sem,hlt,h]
   refine call c3 [] ?_
   cases ok
   ·rw[Bool.false_and]at hS
    simp only[go_sem,hfd]
    refine⟨aa (by kernel_rfl),i+1,⟨by omega,by omega⟩,?_⟩
    rw[hm,hS]
    exact⟨by rw[ae]<;>omega,rfl⟩
   ·rw[Bool.true_and]at hS
    simp only[go_sem,hfd]
    refine⟨aa (by kernel_rfl),call cy [] ?_⟩
    simp only[go_sem,hfd]
    refine⟨i+1,⟨by omega,by omega⟩,?_⟩
    rw[hm,hS]
    exact⟨by rw[ae]<;>omega,rfl⟩
  ·have hlt: ¬(i:Int)<(t.ros.length:Int):=by omega
   have:i=t.ros.length:=by omega
   subst this
   simp only[go_sem,hlt,List.take_length]
   done
theorem apz(l:List Int)(h0:0<l.length)(hl:l.length≤1000000):Den Tryz.prog 37 [.vs (l.map i1)] [] (.os 0 l.length) [.arr 3 1 false (l.map i1)] []:=by
 refine ac Tryz.mixed Tryz.func37 rfl Tryz.call37 Tryz.ntmps37 (congrArg Array.toList Tryz.results37) (by simp) (by kernel_rfl) [5] (exts:=[]) rfl rfl ?_
 simp only[go_sem,h0]
 omega
theorem af8(r:Rl)(L:List Stm)(t:Tm):(t.ros.filter fun k=>decide (k∈jo r L t))=jo r L t:=by
 unfold jo
 refine List.filter_congr fun k hk=> ?_
 rw[Bool.eq_iff_iff,decide_eq_true_iff,List.mem_filter]
 exact⟨fun h=>h.2,fun h=>⟨hk,h⟩⟩
theorem qk(r:Rl)(L:List Stm)(t:Tm)(hr:d6 r=0)(ht:OkT t)(hB:RlB r)(hL:L.length≤900)(hs: ∀s∈L,jm s)(hp: ∀s∈L,plS s):Den Tryz.prog 15 [.agg (rl r),.vs (L.map sm),.agg (tm t)] [] (.tup [.vs ((jo r L t).map i1),.int .i64 0]) [] []:=by
 refine ac Tryz.mixed Tryz.func15 rfl Tryz.call15 Tryz.ntmps15 (congrArg Array.toList Tryz.results15) (by simp) (by kernel_rfl) [] (exts:=[]) rfl rfl ?_
 have c1:=ml r L t hr ht hB hL hs hp
 have hl:=ht.len
 have h0:0<t.ros.length:=List.length_pos_iff.2 (jf ht.ros).2.2.1
 have c2:=apz t.ros h0 (by omega)
 obtain⟨new,hn,c3⟩:=ag9 t.ros t.ros (jo r L t) (by simp only[big];omega) fun k hk=>(mc.1 hk).1
 rw[af8]at c3
 generalize jo r L t=S at*
 rw[fk,lk]at c1
 simp only[go_sem]
 refine call c1 [] ?_
 simp only[go_sem]
 refine call c2 [] ?_
 simp only[go_sem]
 refine afv c3 (fm t.ros S) [.arr 3 1 false (t.ros.map i1)] [.arr 3 1 true new] [22] 8 14 [22,8,14] rfl rfl rfl ?_
 simp only[go_sem]
 exact⟨rfl,by omega⟩
theorem afm(r:Rl)(L:List Stm)(t:Tm)(k:Int)(hr:d6 r=0)(ht:OkT t)(hB:RlB r)(hL:L.length≤900)(hs: ∀s∈L,jm s)(hp: ∀s∈L,plS s):Den Tryz.prog 19 [.agg (rl r),.vs (L.map sm),.agg (tm t),.int .i64 k] [] (.tup [.bool (decide (k∈t.ros)&& !decide (k∈jo r L t)),.int .i64 0]) [] []:=by
 refine ac Tryz.mixed Tryz.func19 rfl Tryz.call19 Tryz.ntmps19 (congrArg Array.toList Tryz.results19) (by simp) (by kernel_rfl) [] (exts:=[]) rfl rfl ?_
 have c1:=ml r L t hr ht hB hL hs hp
 have hlk:=ama k t.ros (jo r L t)
 generalize jo r L t=S at*
 rw[fk,lk]at c1
 simp only[go_sem]
 refine call c1 [] ?_
 have g0: ∀Q:Prop,(k∉t.ros→gj (.int .i64 k) (mpS t.ros S) 0=some none→Q)→(∀i,gj (.int .i64 k) (mpS t.ros S) 0=some (some i)→(mpS t.ros S).getD i (.undef,.undef)=(.int .i64 k,.bool (decide (k∈S)))→k∈t.ros→Q)→Q:=fun Q h1 h2=>by
  rcases hlk with ⟨a,b⟩|⟨i,a,b,c⟩
  ·exact h1 a b
  ·exact h2 i a b c
 refine g0 _ (fun hn hf=> ?_) fun i hf h4 hm=> ?_
 ·simp only[go_sem,hf,au0,hn]
  done
 ·simp only[go_sem,hf,au0,h4,hm]
  done
theorem as6(l:List Int)(k:Int)(hl:big l.length):Den Tryz.prog 41 [.vs (l.map i1),.int .i64 k] [] (.bool (decide (k∈l))) [] []:=ne l k hl
def az4(r:Rl)(L:List Stm)(t:Tm)(G:List Int)(i:Nat):List Int:=(t.ros.take i).filter fun k=>decide (k∈G)&& !(fh r L t (iv t 3 k)).2.1
def az5(r:Rl)(L:List Stm)(t:Tm)(G:List Int):List Int:=t.ros.filter fun k=>decide (k∈G)&& !(fh r L t (iv t 3 k)).2.1
theorem ass{r:Rl}{L:List Stm}{t:Tm}{G:List Int}{i:Nat}(h:i<t.ros.length):az4 r L t G (i+1)=az4 r L t G i++(if(decide (el t.ros i∈G)&& !(fh r L t (iv t 3 (el t.ros i))).2.1)=true then [el t.ros i]else []):=by
 unfold az4
 rw[bd h,List.filter_append]
 congr 1
 simp only[List.filter_cons,List.filter_nil]
theorem azx(r:Rl)(L:List Stm)(t:Tm)(G:List Int)(i:Nat):(az4 r L t G i).length≤t.ros.length:=by
 unfold az4
 refine Nat.le_trans (List.length_filter_le _ _) ?_
 rw[List.length_take];omega
theorem axl(r:Rl)(L:List Stm)(t:Tm)(G:List Int):az4 r L t G t.ros.length=az5 r L t G:=by rw[az4,List.take_length];rfl
theorem avg(r:Rl)(L:List Stm)(t:Tm)(hr:d6 r=0)(ht:OkT t)(hB:RlB r)(hL:L.length≤900)(hs: ∀s∈L,jm s)(hp: ∀s∈L,plS s)(G:List Int)(hG:G.length≤64)(cG:Den Tryz.prog 40 [.vs (L.map sm)] [] (.vs (G.map i1)) [] []):Den Tryz.prog 17 [.agg (rl r),.vs (L.map sm),.agg (tm t)] [] (.tup [.vs ((az5 r L t G).map i1),.int .i64 0]) [] []:=by
 refine ac Tryz.mixed Tryz.func17 rfl Tryz.call17 Tryz.ntmps17 (congrArg Array.toList Tryz.results17) (by simp) (by kernel_rfl) [] (exts:=[]) rfl rfl ?_
 have c1:=ml r L t hr ht hB hL hs hp
 have hlen:=ht.len
 have hbT:big t.ros.length:=by simp only[big];omega
 obtain⟨_,hrng,_,_⟩:=jf ht.ros
 have hcv: ∀k,k∈t.ros→dh (iv t 3 k)=true:=fun k hk=>jl ⟨ht.lo,ht.hi,(hrng k hk).1,(hrng k hk).2,by simp[iv],by simp[iv],.inr (.inr rfl)⟩
 have d0: ∀k,k∈t.ros→(fh r L t (iv t 3 k)).2.2=0:=fun k hk=>by
  rcases ar9 (L:=L) hr ht (hcv k hk) rfl with ⟨_,_,s3⟩|⟨s1,_⟩
  ·rw[s3]
  ·rw[uz hr ht (hcv k hk) rfl rfl]at s1;cases s1
 have c2:=fun k:Int=>as6 G k (by simp only[big];omega)
 have c3:=fun k:Int=>aa7 r L t (iv t 3 k) hB hbT hL hs (wh hp)
 have c4:=fun k:Int=>akv t k
 have hsu:=fun i (h:i<t.ros.length)=>ass (r:=r) (L:=L) (t:=t) (G:=G) h
 have hln:=azx r L t G
 have hI0:az4 r L t G 0=[]:=rfl
 rw[←axl]
 generalize az4 r L t G=I at*
 generalize hD:(fun k=>fh r L t (iv t 3 k))=D at*
 have hDk: ∀k,fh r L t (iv t 3 k)=D k:=fun k=>congrFun hD k
 simp only[hDk]at d0 c3 hsu
 generalize jo r L t=S at*
 rw[fk,lk]at c1
 simp only[fk,lk,bf,iu]at c3 c4
 simp only[go_sem]
 refine call c1 [] ?_
 simp only[go_sem]
 refine call cG [] ?_
 simp only[go_sem]
 refine cz 11 110 3 1 false ?_ ?_ ?_ (by omega)
 ·refine loop Tryz.mixed (0:Nat) (fun i:Nat=>[(1,.vs (L.map sm)),(3,.ptr 3 0),(5,.ptr 5 0),(10,.vs (G.map i1)),(11,.os 110 (I i).length),(30,.vs (t.ros.map i1)),(31,.int .i64 t.ros.length),(32,.int .i64 i)]) (fun i=>[(3,.cells (rl r)),(5,.cells (tm t)),(110,.arr 3 1 false ((I i).map i1))]) (fun i=>i≤t.ros.length) (fun i=>t.ros.length - i) (by kernel_rfl) (Nat.zero_le _) ?_ ?_
  ·rw[hI0]
   simp only[go_sem,List.map_nil,List.length_nil]
   done
  ·intro i hi
   by_cases h:i<t.ros.length
   ·have hlt:(i:Int)<(t.ros.length:Int):=by omega
    have hk:=ar h
    have hsu:=hsu i h
    have hln:=hln i
    have d0:=d0 _ hk
    have c2:=c2 (el t.ros i)
    have c3:=c3 (el t.ros i)
    have c4:=c4 (el t.ros i)
    generalize I i=o at*
    generalize D (el t.ros i)=O at*
    obtain⟨x,b,e⟩:=O
    dsimp only at d0 c3 hsu
    subst d0
    simp only[iv]at c3 c4
    simp only[go_sem,hlt,h]
    refine call c2 [] ?_
    by_cases hg:el t.ros i∈G
    rotate_left
    ·rw[decide_eq_false hg,Bool.false_and,if_neg (by simp),List.append_nil]at hsu
     simp only[go_sem,hg]
     refine⟨i+1,⟨by omega,by omega⟩,?_⟩
     rw[hsu]
     exact⟨⟨rfl,by rw[ae]<;>omega⟩,rfl⟩
    rw[decide_eq_true hg,Bool.true_and]at hsu
    simp only[go_sem,hg,hlt,h]
    refine call c4 [] ?_
    simp only[go_sem,hlt,h]
    refine call c3 [] ?_
    cases b
    ·rw[if_pos (by rfl)]at hsu
     simp only[go_sem]
     refine⟨aa (by kernel_rfl),by omega,i+1,⟨by omega,by omega⟩,?_⟩
     rw[hsu]
     exact⟨⟨by simp,by rw[ae]<;>omega⟩,by simp[i1]⟩
    ·rw[if_neg (by simp),List.append_nil]at hsu
     simp only[go_sem]
     refine⟨aa (by kernel_rfl),i+1,⟨by omega,by omega⟩,?_⟩
     rw[hsu]
     exact⟨⟨rfl,by rw[ae]<;>omega⟩,rfl⟩
   ·have hlt: ¬(i:Int)<(t.ros.length:Int):=by omega
    have:i=t.ros.length:=by omega
    subst this
    simp only[go_sem,hlt]
    done
 ·simp only[go_sem]
 ·simp only[go_sem]
theorem zw(L:List Stm):l6 L 0=[]:=rfl
theorem zr(L:List Stm)(i:Nat):l6 L (i+1)=l6 L i++xx (i6 L i):=by
 unfold l6
 rw[List.range_succ,List.flatMap_append]
 simp
theorem abj(k:Int)(l:List (Stm×Stm)):(pfs k l).length=l.length:=by simp[pfs]
theorem zj(M:List Stm):(fq M).length≤1:=by
 unfold fq
 split<;>simp
theorem afq(M:List Stm):(adk M).length≤M.length:=by
 have h1:=ahg M (fu M) (fu M).length
 rw[List.take_length]at h1
 have h2:=nr M
 rw[alu]
 omega
theorem arv(M:List Stm):(xx M).length≤1+M.length:=by
 have h1:=zj M
 have h2:=afq M
 unfold xx
 split
 ·rw[List.length_append,abj,abj];omega
 ·simp
theorem vk(L:List Stm): ∀i,(l6 L i).length≤i*(1+L.length)
 |0=>by simp[zw]
 |i+1=>by
  have h1:=vk L i
  have h2:=arv (i6 L i)
  have h3:=uf L i
  rw[zr,List.length_append,Nat.add_mul,Nat.one_mul]
  omega
theorem a1o{L:List Stm}{a:Int}(h:CF L){s:Stm}(hs:s∈i6 L a):s∈L:=(ec.1 (((xz (a:=a) h).2 s).1 hs)).1
theorem a0w(L:List Stm)(hl:L.length≤900)(hs: ∀s∈L,jm s)(h:CF L):Den Tryz.prog 63 [.vs (L.map sm)] [] (.vs ((l6 L 64).map pf)) [] []:=by
 refine ac Tryz.mixed Tryz.func63 rfl Tryz.call63 Tryz.ntmps63 (congrArg Array.toList Tryz.results63) (by simp) (by kernel_rfl) [] (exts:=[]) rfl rfl ?_
 have co:=fun a:Nat=>a7t L a (by omega) hs h
 have cf:=fun a:Nat=>auf (i6 L a) (by have:=uf L a;simp only[big];omega)
 have cd:=fun a:Nat=>aic (i6 L a) (by have:=uf L a;omega) fun s hm=>hs s (a1o h hm)
 have hln:=fun a:Nat=>uf L a
 have hsu:=zr L
 have hxl:=vk L
 have hf1:=fun a:Nat=>zj (i6 L a)
 have hd1:=fun a:Nat=>afq (i6 L a)
 simp only[go_sem]
 refine cz 3 99 87 27 false ?_ ?_ ?_ (by omega)
 ·refine loop Tryz.mixed 0 (fun i:Nat=>[(0,.vs (L.map sm)),(3,.os 99 (l6 L i).length),(6,.int .i64 i)]) (fun i=>[(99,.arr 87 27 false ((l6 L i).map pf))]) (fun i=>i≤64) (fun i=>64 - i) (by kernel_rfl) (Nat.zero_le _) ?_ ?_
  ·simp only[go_sem,zw,List.map_nil,List.length_nil]
  ·intro i hi
   by_cases hlt:i<64
   ·have h1:(i:Int)<64:=by omega
    have co:=co i
    have cf:=cf i
    have cd:=cd i
    have hln:=hln i
    have hsu:=hsu i
    have hf1:=hf1 i
    have hd1:=hd1 i
    have hxl:=hxl i
    have hmul:i*(1+L.length)≤64*901:=Nat.mul_le_mul (by omega) (by omega)
    have hA:xx (i6 L i)=if 1<(i6 L i).length then pfs 1 (fq (i6 L i))++pfs 2 (adk (i6 L i))else []:=rfl
    generalize i6 L i=M at*
    have p1:=abj 1 (fq M)
    have p2:=abj 2 (adk M)
    generalize pfs 1 (fq M)=A at*
    generalize pfs 2 (adk M)=B at*
    generalize l6 L i=o at*
    simp only[go_sem,h1]
    refine call co [] ?_
    by_cases h2:1<(M.length:Int)
    ·rw[if_pos (by omega)]at hA
     rw[hA]at hsu
     simp only[go_sem,h2]
     refine call cf [] ?_
     simp only[go_sem]
     refine⟨by omega,call cd [] ?_⟩
     simp only[go_sem]
     refine⟨by omega,i+1,⟨by omega,by omega⟩,?_⟩
     rw[hsu]
     exact⟨⟨by simp only[List.length_append];omega,by rw[ae]<;>omega⟩,by simp only[List.map_append,List.append_assoc]⟩
    ·rw[if_neg (by omega)]at hA
     rw[hA,List.append_nil]at hsu
     simp only[go_sem,h2]
     refine⟨i+1,⟨by omega,by omega⟩,?_⟩
     rw[hsu]
     exact⟨⟨rfl,by rw[ae]<;>omega⟩,rfl⟩
   ·have h1: ¬(i:Int)<64:=by omega
    have:i=64:=by omega
    subst this
    simp only[go_sem,h1]
 ·simp only[go_sem]
 ·simp only[go_sem]
theorem aju(p:Int×Stm×Stm):Den Tryz.prog 64 [.agg (pf p)] [] (.int .i64 p.2.1.au) [] []:=by
 refine ac Tryz.mixed Tryz.func64 rfl Tryz.call64 Tryz.ntmps64 (congrArg Array.toList Tryz.results64) (by simp) (by kernel_rfl) [] (exts:=[]) rfl rfl ?_
 simp only[go_sem]
theorem aad(L:List Stm)(hl:L.length≤900)(hs: ∀s∈L,jm s)(h:CF L):Den Tryz.prog 40 [.vs (L.map sm)] [] (.vs ((at4 L).map i1)) [] []:=by
 refine ac Tryz.mixed Tryz.func40 rfl Tryz.call40 Tryz.ntmps40 (congrArg Array.toList Tryz.results40) (by simp) (by kernel_rfl) [] (exts:=[]) rfl rfl ?_
 have c1:=a0w L hl hs h
 have hxl:=vk L 64
 have hmul:64*(1+L.length)≤64*901:=Nat.mul_le_mul (by omega) (by omega)
 have hg:at4 L=axb ((l6 L 64).map fun p=>p.2.1.au):=rfl
 rw[hg]
 generalize l6 L 64=F at*
 obtain⟨I,hI⟩: ∃I:Nat→List Int,I=fun i=>(F.take i).map fun p=>p.2.1.au:=⟨_,rfl⟩
 have hI0:I 0=[]:=by rw[hI];rfl
 have hsu: ∀i,i<F.length→I (i+1)=I i++[(el F i).2.1.au]:=fun i hi=>by
  rw[hI]
  show(F.take (i+1)).map _=_
  rw[bd hi,List.map_append,List.map_singleton]
 have hln: ∀i,(I i).length≤F.length:=fun i=>by rw[hI];show((F.take i).map _).length≤_;rw[List.length_map,List.length_take];omega
 have hIl:F.map (fun p=>p.2.1.au)=I F.length:=by rw[hI];show _=(F.take F.length).map _;rw[List.take_length]
 rw[hIl]
 clear hI hIl
 simp only[go_sem]
 refine call c1 [] ?_
 simp only[go_sem]
 refine cz 3 99 3 1 false ?_ ?_ ?_ (by omega)
 ·refine loop Tryz.mixed 0 (fun i:Nat=>[(3,.os 99 (I i).length),(7,.vs (F.map pf)),(8,.int .i64 F.length),(9,.int .i64 i)]) (fun i=>[(99,.arr 3 1 false ((I i).map i1))]) (fun i=>i≤F.length) (fun i=>F.length - i) (by kernel_rfl) (Nat.zero_le _) ?_ ?_
  ·rw[hI0]
   simp only[go_sem,List.map_nil,List.length_nil]
  ·intro i hi
   by_cases hlt:i<F.length
   ·have h1:(i:Int)<(F.length:Int):=by omega
    have hsu:=hsu i hlt
    have hln:=hln i
    have ca:=aju (el F i)
    rw[ag2]at ca
    generalize I i=o at*
    simp only[go_sem,h1,hlt]
    refine call ca [] ?_
    simp only[go_sem]
    refine⟨by omega,i+1,⟨by omega,by omega⟩,?_⟩
    rw[hsu]
    exact⟨⟨by simp,by rw[ae]<;>omega⟩,by simp[i1]⟩
   ·have h1: ¬(i:Int)<(F.length:Int):=by omega
    have:i=F.length:=by omega
    subst this
    have hln:=hln F.length
    generalize I F.length=o at*
    have cc:=xe o (by omega)
    simp only[go_sem,h1]
    refine call cc [99] ?_
    simp only[go_sem]
    rw[ab8]
    exact Nat.le_refl _
 ·simp only[go_sem]
 ·simp only[go_sem]
theorem a87(b:List UInt8):sha b=hsS (np b) ((np b).length/64) fun v=>v.flatMap aew:=by rw[bbb];rfl
theorem alm(au nu ti:Int):(gh au nu ti m7).sd=dig (gh au nu ti m7):=rfl
theorem at5:dig (gh 2 0 0 m7)≠dig (gh 2 0 1 m7):=by
 unfold dig
 rw[a87,a87]
 decide+kernel
theorem aen(au nu ti:Int)(h1:inB au 0 63=true)(h2:inB nu 0 199=true)(h3:inB ti 0 2147483648=true):cu (gh au nu ti m7)=true:=by
 have hs:(gh au nu ti m7).sk=(gh au nu ti m7).au∧(gh au nu ti m7).sd=dig (gh au nu ti m7):=⟨rfl,rfl⟩
 rw[cu,at9 au nu ti h1 h2 h3,decide_eq_true hs]
 rfl
def r37:Rl:=⟨[0,1,2],⟨[0],[2],1⟩,2,5,0⟩
theorem adj:d6 r37=0:=by decide
def L37:List Stm:=[gh 2 0 0 m7,gh 2 0 1 m7]
theorem bex(au nu ti:Int)(c:Cs):okV c (gh au nu ti m7)=false:=av8 (by show(11:Int)≠10;omega)
theorem atg(c:Cs): ∀s∈L37,okV c s=false:=fun s hs=>by
 simp only[L37,List.mem_cons,List.not_mem_nil,or_false]at hs
 rcases hs with rfl|rfl<;>exact bex _ _ _ _
theorem a3s:CF L37:=fun s hs t ht _ _ _ _ hd=>by
 simp only[L37,List.mem_cons,List.not_mem_nil,or_false]at hs ht
 rcases hs with rfl|rfl<;>rcases ht with rfl|rfl
 ·rfl
 ·exact absurd ((alm 2 0 0).symm.trans (hd.trans (alm 2 0 1))) at5
 ·exact absurd ((alm 2 0 0).symm.trans (hd.symm.trans (alm 2 0 1))) at5
 ·rfl
theorem a36:UNI L37:=fun c s hs t _ h _ _=>by rw[atg c s hs]at h;cases h
theorem a6b{r:Rl}{L:List Stm}{t:Tm}{kd k:Int}(h: ∀c,∀s∈L,okV c s=false):oe r L t kd k=false:=by
 have hs:ave L (iv t kd k)=false:=by
  unfold ave
  rw[List.any_eq_false]
  intro x hx _
  obtain⟨s,hs,v1,v2⟩:=aae.1 hx
  have:=h x s hs
  rw[okV,v1,v2]at this
  simp at this
 unfold oe
 rw[atl (r:=r) hs,Bool.false_and]
theorem a88(k:Int):gB L37 k=decide (k=2):=by
 rw[Bool.eq_iff_iff,wu,decide_eq_true_iff]
 constructor
 ·rintro⟨s,hs,_⟩
  obtain⟨h1,h2,_⟩:=ec.1 hs
  simp only[L37,List.mem_cons,List.not_mem_nil,or_false]at h1
  rcases h1 with rfl|rfl<;>exact h2.symm
 ·rintro rfl
  exact⟨_,ec.2 ⟨by simp[L37],rfl,aen 2 0 0 rfl rfl rfl⟩,_,ec.2 ⟨by simp[L37],rfl,aen 2 0 1 rfl rfl rfl⟩,rfl,fun h=>absurd (congrArg Stm.ti h) (by decide)⟩
theorem a02:at4 L37=[2]:=by
 rw[awm a3s a36]
 have:gB L37=fun k=>decide (k=2):=funext a88
 rw[this]
 decide
theorem a82: ∀s∈L37,okS s:=fun s hs=>by
 simp only[L37,List.mem_cons,List.not_mem_nil,or_false]at hs
 rcases hs with rfl|rfl<;>exact auy _ _ _
theorem at6: ∀s∈L37,plS s:=fun s hs=>by
 simp only[L37,List.mem_cons,List.not_mem_nil,or_false]at hs
 rcases hs with rfl|rfl<;>exact aiu (by show(11:Int)≠10;omega)
theorem wa:Den Tryz.prog 8 [] [] (.bool true) [] []:=by
 refine ac Tryz.mixed Tryz.func8 rfl Tryz.call8 Tryz.ntmps8 (congrArg Array.toList Tryz.results8) (by simp) (by kernel_rfl) [] (exts:=[]) rfl rfl ?_
 have hB:RlB r37:=⟨by decide,by decide,by decide⟩
 have c1:=as4 r37 adj (by decide) (by decide) (by decide)
 have ht:=ak5 adj
 have hros:(kj r37).ros=[0,1,2]:=rfl
 have hb:=fun s hs=>(a82 s hs).big
 have cG:=aad L37 (by decide) hb a3s
 rw[a02]at cG
 have c4:=avg r37 L37 (kj r37) adj ht hB (by decide) hb at6 [2] (by decide) cG
 have c5:=qk r37 L37 (kj r37) adj ht hB (by decide) hb at6
 have c6:=afm r37 L37 (kj r37) 2 adj ht hB (by decide) hb at6
 have hS:jo r37 L37 (kj r37)=[]:=by
  unfold jo
  rw[List.filter_eq_nil_iff]
  intro k _
  rw[a6b atg]
  simp
 have hD:az5 r37 L37 (kj r37) [2]=[2]:=by
  unfold az5
  rw[hros]
  have hd: ∀k,(fh r37 L37 (kj r37) (iv (kj r37) 3 k)).2.1=false:=fun k=>v8 (atg _)
  simp[hd]
 rw[hS]at c5 c6
 rw[hD]at c4
 rw[hros]at c6
 have k6:(decide ((2:Int)∈([0,1,2]:List Int))&& !decide ((2:Int)∈([]:List Int)))=true:=by decide
 rw[k6]at c6
 have c2:=un 2 0 0 m7 (by simp[m7]) rfl
 have c3:=un 2 0 1 m7 (by simp[m7]) rfl
 have hM:L37.map sm=[sm (gh 2 0 0 m7),sm (gh 2 0 1 m7)]:=rfl
 rw[hM]at c4 c5 c6
 have hT:tm (kj r37)=[.int .i64 0,.vs [i1 0,i1 1,i1 2],.str (qj r37),.bool false,.vs [],.vs []]:=rfl
 rw[hT,fk]at c1 c4 c5 c6
 generalize gh 2 0 0 m7=s0 at*
 generalize gh 2 0 1 m7=s1 at*
 generalize qj r37=v at*
 simp only[k9]at c4 c5 c6
 rw[aru]at c2 c3
 simp only[go_sem]
 refine call c1 [] ?_
 simp only[go_sem]
 refine⟨⟨rfl,rfl,rfl,rfl,rfl,rfl,rfl⟩,call c2 [] ?_⟩
 simp only[go_sem]
 refine⟨⟨rfl,rfl,rfl,rfl,rfl,rfl⟩,call c3 [] ?_⟩
 simp only[go_sem]
 refine⟨⟨rfl,rfl,rfl,rfl,rfl,rfl⟩,call c4 [] ?_⟩
 simp only[go_sem]
 refine⟨⟨rfl,rfl,rfl,rfl,rfl,rfl,rfl⟩,call c5 [] ?_⟩
 simp only[go_sem]
 refine⟨⟨rfl,rfl,rfl,rfl,rfl,rfl,rfl⟩,call c6 [] ?_⟩
 simp only[go_sem]
 refine⟨⟨rfl,rfl,rfl,rfl,rfl,rfl,rfl⟩,?_⟩
 refine call (mf [2] [2] (by simp[big]) (by simp[big])) [] ?_
 simp only[go_sem]
 done
end Go.Proofs.Am
